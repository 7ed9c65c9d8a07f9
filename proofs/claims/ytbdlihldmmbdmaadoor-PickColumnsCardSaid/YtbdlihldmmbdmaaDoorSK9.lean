-- PRINTED by print.py (a twelfth state) out of the translation. Not trusted: Lean checks it.
import Derived.Test.YtbdlihldmmbdmaaDoorSK0
import Derived.Test.YtbdlihldmmbdmaaDoorSK1
import Derived.Test.YtbdlihldmmbdmaaDoorSK8
import Derived.Test.YtbdlihldmmbdmaaDoorPickFn
namespace Go.Proofs.YtbdlihldmmbdmaaDoor.SK
open Go.RowKit Go.Proofs.YtbdlihldmmbdmaaDoorW.PrintWords Go.Proofs.YtbdlihldmmbdmaaDoorW.PrintLast Go.Proofs.YtbdlihldmmbdmaaDoorW.PrintMore
attribute [local go_sem] max2_int min2_int max_two min_two max_three min_three max_four min_four   -- for this text's walks alone
set_option linter.unusedVariables false
set_option linter.unusedSimpArgs false

set_option maxHeartbeats 2000000 in
theorem pick_Check.calls (k : Nat) (A0 : Option Addr) (c0 : Nat) (l0 : List (List Int)) (A1 : Option Addr) (c1 : Nat) (l1 : List Int) (r : Int) (w : World) (hr0 : Kd.C (Kd.slice 3 (Kd.int .i64)) w A0 l0.length l0) (hc0 : l0.length ≤ c0) (hr1 : Kd.C (Kd.int .i64) w A1 l1.length l1) (hc1 : l1.length ≤ c1) (h : pick_Check.f k l0 l1 = some r) :
    Calls Tryd.prog 19 #[.slice A0 l0.length c0, .slice A1 l1.length c1] w fun e w' => e = .returned (.int .i64 r) ∧ Below w.heap.size w w' := by
  have hres : r = Go.Proofs.YtbdlihldmmbdmaaDoor.PickSpec.chk l0 l1 := by
    unfold pick_Check.f at h
    obtain ⟨x, hx, hxe⟩ := Option.bind_eq_some_iff.1 h
    have h1 := Go.Proofs.YtbdlihldmmbdmaaDoor.Plain.Ev.answer (fun k => amalgamref10_Check.mono l0 l1 k) hx (Go.Proofs.YtbdlihldmmbdmaaDoor.PickSpec.check_ev l0 l1)
    rw [← h1]
    exact (Option.some.inj hxe).symm
  clear h
  have hm1 := Kd.C_max hr1
  have hm0 := Kd.C_max hr0
  have hb1 : Below w.heap.size w (w.alloc (.cells #[.slice A1 l1.length c1] 23)) := (Below.refl _ _).alloc (Nat.le_refl _) _
  have hc : (w.alloc (.cells #[.slice A1 l1.length c1] 23)).cell? ⟨w.heap.size, 0, none⟩ = some (.slice A1 l1.length c1) := by simp
  have HI := Aside0.mk (Go.Proofs.YtbdlihldmmbdmaaDoor.Fn.containsFunc_int 35 #[] A1 c1 l1 _ Go.Proofs.YtbdlihldmmbdmaaDoor.PickSpec.badW (Kd.C_below hr1 hb1) Go.Proofs.YtbdlihldmmbdmaaDoor.PickFn.enters35 (fun y _ => Go.Proofs.YtbdlihldmmbdmaaDoor.PickFn.asks35 y _))
  have HR := fun m => Aside0.mk (Go.Proofs.YtbdlihldmmbdmaaDoor.PickFn.containsFunc_row 36 #[.pointer (some ⟨w.heap.size, 0, none⟩)] A0 c0 l0 ((w.alloc (.cells #[.slice A1 l1.length c1] 23)).drewN m) (Go.Proofs.YtbdlihldmmbdmaaDoor.PickSpec.badR l1) (Kd.C_drewN (Kd.C_below hr0 hb1) m) Go.Proofs.YtbdlihldmmbdmaaDoor.PickFn.enters36
    (fun x _ A c hx _ => Go.Proofs.YtbdlihldmmbdmaaDoor.PickFn.asks36 l1 w.heap.size A1 c1 _ (by simp) x A c hx hm1))
  have HR' := Aside0.mk HR
  clear HR hr0 hr1 hc hb1
  subst hres
  unfold Go.Proofs.YtbdlihldmmbdmaaDoor.PickSpec.chk
  by_cases h16 : l0.length > 16
  · rw [if_pos h16]
    go_enter Tryd.func19, Tryd.ntmps19
    go_wp2
    go_ret
    exact ⟨rfl, (Below.refl _ _).alloc (Nat.le_refl _) _⟩
  rw [if_neg h16]
  by_cases h10 : l1.length > 10
  · rw [if_pos h10]
    go_enter Tryd.func19, Tryd.ntmps19
    go_wp2
    go_ret
    exact ⟨rfl, (Below.refl _ _).alloc (Nat.le_refl _) _⟩
  rw [if_neg h10]
  obtain ⟨b, hb⟩ : ∃ b, b = l1.any Go.Proofs.YtbdlihldmmbdmaaDoor.PickSpec.badW := ⟨_, rfl⟩
  rw [← hb] at HI ⊢
  clear hb
  obtain ⟨b2, hb2⟩ : ∃ b, b = l0.any (Go.Proofs.YtbdlihldmmbdmaaDoor.PickSpec.badR l1) := ⟨_, rfl⟩
  rw [← hb2] at HR' ⊢
  clear hb2
  go_enter Tryd.func19, Tryd.ntmps19
  cases b with
  | true =>
    go_wp2_with (go_at_call 37; refine HI.out.mono ?_; rintro e w' ⟨rfl, ⟨n, rfl⟩⟩)
    go_ret
    exact ⟨rfl, pw_below_drewN ((Below.refl _ _).alloc (Nat.le_refl _) _) n⟩
  | false =>
    cases b2 with
    | true =>
      go_wp2_with (first | (go_at_call 37; refine HI.out.mono ?_; rintro e w' ⟨rfl, ⟨n, rfl⟩⟩) | (go_at_call 39; refine (HR'.out n).out.mono ?_; rintro e w' ⟨rfl, ⟨n2, rfl⟩⟩))
      go_ret
      exact ⟨rfl, pw_below_drewN ((Below.refl _ _).alloc (Nat.le_refl _) _) _⟩
    | false =>
      go_wp2_with (first | (go_at_call 37; refine HI.out.mono ?_; rintro e w' ⟨rfl, ⟨n, rfl⟩⟩) | (go_at_call 39; refine (HR'.out n).out.mono ?_; rintro e w' ⟨rfl, ⟨n2, rfl⟩⟩))
      go_ret
      exact ⟨rfl, pw_below_drewN ((Below.refl _ _).alloc (Nat.le_refl _) _) _⟩

end Go.Proofs.YtbdlihldmmbdmaaDoor.SK
