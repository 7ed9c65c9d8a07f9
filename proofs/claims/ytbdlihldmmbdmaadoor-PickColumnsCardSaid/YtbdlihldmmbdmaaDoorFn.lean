/- Calls of slices.IndexFunc and slices.ContainsFunc on whole numbers: they answer what the list's own search answers, where the predicate's calls answer. -/
import Derived.Test.YtbdlihldmmbdmaaDoorProg
import Derived.Test.YtbdlihldmmbdmaaDoorWWords
import Derived.Lib.Hide
import Derived.Outline
namespace Go.Proofs.YtbdlihldmmbdmaaDoor.Fn
open Go.RowKit Go.Proofs.YtbdlihldmmbdmaaDoorW.PrintWords
set_option linter.unusedVariables false

/-- A function that has a body is entered. -/
def EntersP (f : FuncId) : Prop := ∀ (args : Array Value) (w : World), (callFunc f args).run Tryd.prog w = .ok (.enter f args) w
theorem entersP_of {f : FuncId} {fn : Func} (hf : Tryd.prog.funcs[f]? = some fn) (hname : (fn.name == "runtime.NumGoroutine") = false) (hb : ∃ c, fn.body = some c) : EntersP f := by
  obtain ⟨c, hb⟩ := hb
  intro args w
  have h1 : fn.name ≠ "runtime.NumGoroutine" := by simpa using hname
  simp [callFunc, hf, h1, hb]
/-- A call of a function value answers b, and only orders are drawn, at w and wherever orders have been drawn since. -/
def Asks (f : FuncId) (args : Array Value) (w : World) (b : Bool) : Prop :=
  ∀ m, Calls Tryd.prog f args (w.drewN m) fun e w' => e = .returned (.bool b) ∧ Drawn0 (w.drewN m) w'
theorem Asks.drewN {f : FuncId} {args : Array Value} {w : World} {b : Bool} (h : Asks f args w b) (n : Nat) : Asks f args (w.drewN n) b := fun m => by
  have := h (n + m)
  rwa [← World.drewN_drewN] at this
theorem Drawn0.then {w w1 w2 : World} (h : Drawn0 w w1) (k : Drawn0 w1 w2) : Drawn0 w w2 := by
  obtain ⟨n, rfl⟩ := h
  obtain ⟨m, rfl⟩ := k
  exact ⟨⟨n + m, World.drewN_drewN ..⟩⟩

/-- Where the first element stands of which p holds; -1: none. -/
def idxOf {α : Type} (p : α → Bool) (xs : List α) : Int := match xs.findIdx? p with | some i => (i : Int) | none => -1
theorem idxOf_none {α : Type} {p : α → Bool} {xs : List α} (h : ∀ j (h : j < xs.length), p xs[j] = false) : idxOf p xs = -1 := by
  unfold idxOf
  have : xs.findIdx? p = none := by
    rw [List.findIdx?_eq_none_iff]
    intro x hx
    obtain ⟨j, hj, rfl⟩ := List.getElem_of_mem hx
    exact h j hj
  rw [this]
theorem idxOf_some {α : Type} {p : α → Bool} {xs : List α} (k : Nat) (hk : k < xs.length) (h : ∀ j (h : j < xs.length), j < k → p xs[j] = false) (hp : p xs[k] = true) : idxOf p xs = k := by
  unfold idxOf
  have : xs.findIdx? p = some k := by
    rw [List.findIdx?_eq_some_iff_getElem]
    exact ⟨hk, hp, fun j hj => by rw [h j (by omega) hj]; simp⟩
  rw [this]
theorem idxOf_any {α : Type} (p : α → Bool) (xs : List α) : decide (0 ≤ idxOf p xs) = xs.any p := by
  unfold idxOf
  cases h : xs.findIdx? p with
  | none =>
    have h1 : xs.any p = false := by
      rw [List.any_eq_false]
      intro x hx
      have := List.findIdx?_eq_none_iff.1 h x hx
      simpa using this
    rw [h1]; simp
  | some i =>
    have h1 : xs.any p = true := by
      obtain ⟨hi, hp, _⟩ := List.findIdx?_eq_some_iff_getElem.1 h
      exact List.any_eq_true.2 ⟨xs[i], List.getElem_mem _, hp⟩
    rw [h1]; simp

theorem rd_lt {xs : List Int} {k : Nat} (h : k < xs.length) : rd xs (k : Int) = xs[k] := by
  unfold rd
  rw [Int.toNat_natCast, List.getD_eq_getElem?_getD, List.getElem?_eq_getElem h]; rfl

set_option maxHeartbeats 1000000 in
theorem indexFunc_int (f : FuncId) (cap : Array Value) (A : Option Addr) (c : Nat) (xs : List Int) (w : World) (p : Int → Bool)
    (hr : Kd.C (Kd.int .i64) w A xs.length xs) (he : EntersP f) (hp : ∀ x ∈ xs, Asks f (#[.int .i64 x] ++ cap) w (p x)) :
    Calls Tryd.prog 43 #[.slice A xs.length c, .func (.func f) #[] cap] w fun e w' =>
      e = .returned (.int .i64 (idxOf p xs)) ∧ Drawn0 w w' := by
  have HR := Aside0.mk hr
  have HP := Aside0.mk hp
  have HE := Aside0.mk he
  have hmax : xs.length ≤ 9223372036854775807 := Kd.C_max hr
  clear hr hp he
  go_enter Tryd.func43, Tryd.ntmps43
  go_wp2
  go_loopw [8] (fun v8 wr => ∃ k : Nat, k ≤ xs.length ∧ v8 = .int .i64 (k : Int) ∧ Aside0 (∀ j (h : j < xs.length), j < k → p xs[j] = false) ∧ Drawn0 w wr) (fun v8 _ => xs.length - (intOf v8).toNat)
  case atStart => exact ⟨0, Nat.zero_le _, rfl, ⟨fun j _ h => absurd h (Nat.not_lt_zero _)⟩, Drawn0.refl _⟩
  case round =>
    obtain ⟨k, hk, rfl, HF, ⟨m, rfl⟩⟩ := hrel
    by_cases hlt : k < xs.length
    · obtain ⟨ad, e, hx⟩ := Kd.at_int (Kd.C_drewN HR.out m) (k : Int) (by omega) (by omega)
      cases e
      have hx' : (w.drewN m).cell? (ad.add k) = some (.int .i64 (rd xs (k : Int))) := hx
      clear hx
      have HRD := Aside0.mk (rd_lt hlt)
      have HC := Aside0.mk (HP.out (rd xs (k : Int)) (by rw [rd_lt hlt]; exact List.getElem_mem _) m)
      go_wp2_with (fail)
      rw [HE.out, Oper.upon_enter]
      refine HC.out.mono ?_
      rintro e w1 ⟨rfl, ⟨m1, rfl⟩⟩
      cases hb : p (rd xs (k : Int)) with
      | true =>
        have HB := Aside0.mk hb
        clear hb
        go_wp2
        go_ret
        refine ⟨?_, ⟨m + m1, ?_⟩⟩
        · rw [idxOf_some k hlt HF.out (by rw [← HRD.out]; exact HB.out)]; rfl
        · simp
      | false =>
        have HB := Aside0.mk hb
        clear hb
        go_wp2
        go_roundw
        case rel => exact ⟨k + 1, by omega, by go_num, ⟨fun j hj h => (by
            rcases Nat.lt_or_ge j k with h' | h'
            · exact HF.out j hj h'
            · obtain rfl : j = k := by omega
              rw [← HRD.out]; exact HB.out)⟩, ⟨m + m1, by simp⟩⟩
        case measure => simp [intOf]; omega
    · go_wp2
      go_ret
      exact ⟨by rw [idxOf_none (fun j hj => HF.out j hj (by omega))]; rfl, ⟨m, rfl⟩⟩

set_option maxHeartbeats 1000000 in
theorem containsFunc_int (f : FuncId) (cap : Array Value) (A : Option Addr) (c : Nat) (xs : List Int) (w : World) (p : Int → Bool)
    (hr : Kd.C (Kd.int .i64) w A xs.length xs) (he : EntersP f) (hp : ∀ x ∈ xs, Asks f (#[.int .i64 x] ++ cap) w (p x)) :
    Calls Tryd.prog 37 #[.slice A xs.length c, .func (.func f) #[] cap] w fun e w' =>
      e = .returned (.bool (xs.any p)) ∧ Drawn0 w w' := by
  have HI := Aside0.mk (indexFunc_int f cap A c xs w p hr he hp)
  have HA := Aside0.mk (idxOf_any p xs)
  clear hr hp he
  go_enter Tryd.func37, Tryd.ntmps37
  go_wp2_with (go_at_call 43; refine HI.out.mono ?_; rintro e w' ⟨rfl, ⟨m, rfl⟩⟩)
  go_ret
  exact ⟨by rw [← HA.out]; rfl, ⟨m, rfl⟩⟩
end Go.Proofs.YtbdlihldmmbdmaaDoor.Fn
