/- The predicates of pick.Check, and slices.ContainsFunc over rows of whole numbers: they answer what the lists' own searches answer. -/
import Derived.Test.YtbdlihldmmbdmaaDoorFn
import Derived.Test.YtbdlihldmmbdmaaDoorPickSpec
namespace Go.Proofs.YtbdlihldmmbdmaaDoor.PickFn
open Go.RowKit Go.Proofs.YtbdlihldmmbdmaaDoor.SK Go.Proofs.YtbdlihldmmbdmaaDoorW.PrintWords Go.Proofs.YtbdlihldmmbdmaaDoor.Fn Go.Proofs.YtbdlihldmmbdmaaDoor.PickSpec
set_option linter.unusedVariables false

theorem at_row {w : World} {A : Option Addr} {xs : List (List Int)} (h : Kd.C (Kd.slice 3 (Kd.int .i64)) w A xs.length xs) (i : Nat) (hi : i < xs.length) :
    ∃ ad A0 c0, A = some ad ∧ w.cell? (ad.add i) = some (.slice A0 (xs[i]).length c0) ∧ (xs[i]).length ≤ c0 ∧ (Kd.int .i64).C w A0 (xs[i]).length (xs[i]) := by
  obtain ⟨ad, A0, c0, e, h1, h2, h3⟩ := at_L1 h (i : Int) (by omega) (by omega)
  rw [PickSpec.rdL_lt hi] at h1 h2 h3
  exact ⟨ad, A0, c0, e, h1, h2, h3⟩

set_option maxHeartbeats 1000000 in
theorem indexFunc_row (f : FuncId) (cap : Array Value) (A : Option Addr) (c : Nat) (xs : List (List Int)) (w : World) (p : List Int → Bool)
    (hr : Kd.C (Kd.slice 3 (Kd.int .i64)) w A xs.length xs) (he : EntersP f)
    (hp : ∀ x ∈ xs, ∀ A0 c0, (Kd.int .i64).C w A0 x.length x → x.length ≤ c0 → Asks f (#[.slice A0 x.length c0] ++ cap) w (p x)) :
    Calls Tryd.prog 44 #[.slice A xs.length c, .func (.func f) #[] cap] w fun e w' =>
      e = .returned (.int .i64 (idxOf p xs)) ∧ Drawn0 w w' := by
  have HR := Aside0.mk hr
  have HP := Aside0.mk hp
  have HE := Aside0.mk he
  have hmax : xs.length ≤ 9223372036854775807 := Kd.C_max hr
  clear hr hp he
  go_enter Tryd.func44, Tryd.ntmps44
  go_wp2
  go_loopw [8] (fun v8 wr => ∃ k : Nat, k ≤ xs.length ∧ v8 = .int .i64 (k : Int) ∧ Aside0 (∀ j (h : j < xs.length), j < k → p xs[j] = false) ∧ Drawn0 w wr) (fun v8 _ => xs.length - (intOf v8).toNat)
  case atStart => exact ⟨0, Nat.zero_le _, rfl, ⟨fun j _ h => absurd h (Nat.not_lt_zero _)⟩, Drawn0.refl _⟩
  case round =>
    obtain ⟨k, hk, rfl, HF, ⟨m, rfl⟩⟩ := hrel
    by_cases hlt : k < xs.length
    · obtain ⟨ad, A0, c0, e, hx, hc0, hC0⟩ := at_row HR.out k hlt
      cases e
      have HC := Aside0.mk (HP.out xs[k] (List.getElem_mem _) A0 c0 hC0 hc0 m)
      clear hc0 hC0
      obtain ⟨x, hxk⟩ : ∃ x, x = xs[k] := ⟨_, rfl⟩
      rw [← hxk] at HC hx
      have hx' : (w.drewN m).cell? (ad.add k) = some (.slice A0 x.length c0) := by simpa using hx
      have HX := Aside0.mk hxk
      clear hx hxk
      go_wp2_with (fail)
      rw [HE.out, Oper.upon_enter]
      refine HC.out.mono ?_
      rintro e w1 ⟨rfl, ⟨m1, rfl⟩⟩
      cases hb : p x with
      | true =>
        have HB := Aside0.mk hb
        clear hb
        go_wp2
        go_ret
        refine ⟨?_, ⟨m + m1, ?_⟩⟩
        · rw [idxOf_some k hlt HF.out (by rw [← HX.out]; exact HB.out)]; rfl
        · simp
      | false =>
        have HB := Aside0.mk hb
        clear hb
        go_wp2
        go_roundw
        case rel => exact ⟨k + 1, by omega, by go_num, ⟨fun j hj h => (by
            rcases Nat.lt_or_ge j k with h' | h'
            · exact HF.out j hj h'
            · obtain rfl : j = k := by omega
              rw [← HX.out]; exact HB.out)⟩, ⟨m + m1, by simp⟩⟩
        case measure => simp [intOf]; omega
    · go_wp2
      go_ret
      exact ⟨by rw [idxOf_none (fun j hj => HF.out j hj (by omega))]; rfl, ⟨m, rfl⟩⟩

set_option maxHeartbeats 1000000 in
theorem containsFunc_row (f : FuncId) (cap : Array Value) (A : Option Addr) (c : Nat) (xs : List (List Int)) (w : World) (p : List Int → Bool)
    (hr : Kd.C (Kd.slice 3 (Kd.int .i64)) w A xs.length xs) (he : EntersP f)
    (hp : ∀ x ∈ xs, ∀ A0 c0, (Kd.int .i64).C w A0 x.length x → x.length ≤ c0 → Asks f (#[.slice A0 x.length c0] ++ cap) w (p x)) :
    Calls Tryd.prog 39 #[.slice A xs.length c, .func (.func f) #[] cap] w fun e w' =>
      e = .returned (.bool (xs.any p)) ∧ Drawn0 w w' := by
  have HI := Aside0.mk (indexFunc_row f cap A c xs w p hr he hp)
  have HA := Aside0.mk (idxOf_any p xs)
  clear hr hp he
  go_enter Tryd.func39, Tryd.ntmps39
  go_wp2_with (go_at_call 44; refine HI.out.mono ?_; rintro e w' ⟨rfl, ⟨m, rfl⟩⟩)
  go_ret
  exact ⟨by rw [← HA.out]; rfl, ⟨m, rfl⟩⟩

theorem enters35 : EntersP 35 := entersP_of Tryd.func35 rfl ⟨_, rfl⟩
theorem enters36 : EntersP 36 := entersP_of Tryd.func36 rfl ⟨_, rfl⟩
theorem enters38 : EntersP 38 := entersP_of Tryd.func38 rfl ⟨_, rfl⟩

theorem asks35 (x : Int) (w : World) : Asks 35 (#[.int .i64 x] ++ #[]) w (badW x) := by
  intro m
  show Calls Tryd.prog 35 #[.int .i64 x] (w.drewN m) _
  go_enter Tryd.func35, Tryd.ntmps35
  by_cases h : x < 0
  · go_wp2
    go_ret
    exact ⟨by simp [badW, h], Drawn0.refl _⟩
  · go_wp2
    go_ret
    exact ⟨by simp [badW]; omega, Drawn0.refl _⟩
theorem asks38 (x : Int) (w : World) : Asks 38 (#[.int .i64 x] ++ #[]) w (badN x) := by
  intro m
  show Calls Tryd.prog 38 #[.int .i64 x] (w.drewN m) _
  go_enter Tryd.func38, Tryd.ntmps38
  by_cases h : x < 0
  · go_wp2
    go_ret
    exact ⟨by simp [badN, h], Drawn0.refl _⟩
  · go_wp2
    go_ret
    exact ⟨by simp [badN]; omega, Drawn0.refl _⟩

set_option maxHeartbeats 1000000 in
theorem asks36 (want : List Int) (pw : Nat) (A1 : Option Addr) (c1 : Nat) (w : World) (hw : w.cell? ⟨pw, 0, none⟩ = some (.slice A1 want.length c1)) (x : List Int) (A0 : Option Addr) (c0 : Nat)
    (hx : (Kd.int .i64).C w A0 x.length x) (hm : want.length ≤ 9223372036854775807) :
    Asks 36 (#[.slice A0 x.length c0] ++ #[.pointer (some ⟨pw, 0, none⟩)]) w (badR want x) := by
  intro m
  have hm0 := Kd.C_max hx
  have HC := Aside0.mk (containsFunc_int 38 #[] A0 c0 x (w.drewN m) badN (Kd.C_drewN hx m) enters38 (fun y _ => (asks38 y _)))
  have hw' : (w.drewN m).cell? ⟨pw, 0, none⟩ = some (.slice A1 want.length c1) := by simpa using hw
  clear hw hx
  show Calls Tryd.prog 36 #[.slice A0 x.length c0, .pointer (some ⟨pw, 0, none⟩)] (w.drewN m) _
  by_cases h : x.length = want.length
  · have HB : badR want x = x.any badN := by simp [badR, h]
    rw [HB]
    clear HB
    have h1 : ((x.length : Int) != (want.length : Int)) = false := by simp [h]
    have h2 : (x.length != want.length) = false := by simp [h]
    clear h
    go_enter Tryd.func36, Tryd.ntmps36
    go_wp2_with (go_at_call 37; refine HC.out.mono ?_; rintro e w' ⟨rfl, ⟨n, rfl⟩⟩)
    go_ret
    exact ⟨rfl, ⟨n, by simp⟩⟩
  · have HB : badR want x = true := by simp [badR, h]
    rw [HB]
    clear HB
    have h1 : ((x.length : Int) != (want.length : Int)) = true := by simp; omega
    have h2 : (x.length != want.length) = true := by simp [h]
    clear h
    go_enter Tryd.func36, Tryd.ntmps36
    go_wp2
    go_ret
    exact ⟨rfl, Drawn0.refl _⟩
end Go.Proofs.YtbdlihldmmbdmaaDoor.PickFn
