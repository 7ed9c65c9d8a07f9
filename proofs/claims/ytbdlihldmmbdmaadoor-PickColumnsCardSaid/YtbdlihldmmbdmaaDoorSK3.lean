-- PRINTED by print.py (a twelfth state) out of the translation. Not trusted: Lean checks it.
import Derived.Test.YtbdlihldmmbdmaaDoorSK0
import Derived.Test.YtbdlihldmmbdmaaDoorSK2
import Derived.Test.YtbdlihldmmbdmaaDoorBits
import Derived.Test.YtbdlihldmmbdmaaDoorPickList
namespace Go.Proofs.YtbdlihldmmbdmaaDoor.SK
open Go.RowKit Go.Proofs.YtbdlihldmmbdmaaDoorW.PrintWords Go.Proofs.YtbdlihldmmbdmaaDoorW.PrintLast Go.Proofs.YtbdlihldmmbdmaaDoorW.PrintMore
attribute [local go_sem] max2_int min2_int max_two min_two max_three min_three max_four min_four   -- for this text's walks alone
set_option linter.unusedVariables false
set_option linter.unusedSimpArgs false

set_option maxHeartbeats 2000000 in
theorem pick_List.calls (k : Nat) (A0 : Option Addr) (c0 : Nat) (l0 : List (List Int)) (A1 : Option Addr) (c1 : Nat) (l1 : List Int) (a2 : Int) (r1 : List Int) (r2 : Int) (w : World) (hr0 : Kd.C (Kd.slice 3 (Kd.int .i64)) w A0 l0.length l0) (hc0 : l0.length ≤ c0) (hr1 : Kd.C (Kd.int .i64) w A1 l1.length l1) (hc1 : l1.length ≤ c1) (h : pick_List.f k l0 l1 a2 = some (r1, r2)) (hT : Go.Proofs.YtbdlihldmmbdmaaDoor.Bits.TabW w) :
    Calls Tryd.prog 10 #[.slice A0 l0.length c0, .slice A1 l1.length c1, .int .i64 a2] w fun e w' => ∃ v0_ : Value, e = .returned (.tuple #[v0_, .int .i64 r2]) ∧ Kd.R (Kd.int .u32) 37 w' w.heap.size (fun _ => True) v0_ r1 ∧ Below w.heap.size w w' := by
  have hres : (r1, r2) = Go.Proofs.YtbdlihldmmbdmaaDoor.PickSpec.listS l0 l1 a2 := by
    unfold pick_List.f at h
    obtain ⟨x, hx, hxe⟩ := Option.bind_eq_some_iff.1 h
    have h1 := Go.Proofs.YtbdlihldmmbdmaaDoor.Plain.Ev.answer (fun k => amalgamref10_List.mono l0 l1 a2 k) hx (Go.Proofs.YtbdlihldmmbdmaaDoor.PickSpec.list_ev l0 l1 a2)
    rw [← h1]
    exact (Option.some.inj hxe).symm
  unfold Go.Proofs.YtbdlihldmmbdmaaDoor.PickSpec.listS at hres
  by_cases hc : Go.Proofs.YtbdlihldmmbdmaaDoor.PickSpec.chk l0 l1 = 0
  · rw [if_pos hc] at hres
    by_cases hm : a2 < 0
    · rw [if_pos hm] at hres
      obtain ⟨rfl, rfl⟩ := Prod.mk.inj hres
      refine (Go.Proofs.YtbdlihldmmbdmaaDoor.PickList.list_early A0 c0 l0 A1 c1 l1 a2 w hr0 hc0 hr1 hc1 (.inr hm)).mono ?_
      rw [if_pos hc]
      exact fun _ _ h => h
    · rw [if_neg hm] at hres
      refine (Go.Proofs.YtbdlihldmmbdmaaDoor.PickList.list_main A0 c0 l0 A1 c1 l1 a2 w hr0 hc0 hr1 hc1 hT hc (by omega)).mono ?_
      split at hres
      · obtain ⟨rfl, rfl⟩ := Prod.mk.inj hres
        rename_i hg
        rw [if_pos hg, if_pos hg]
        exact fun _ _ h => h
      · obtain ⟨rfl, rfl⟩ := Prod.mk.inj hres
        rename_i hg
        rw [if_neg hg, if_neg hg]
        exact fun _ _ h => h
  · rw [if_neg hc] at hres
    obtain ⟨rfl, rfl⟩ := Prod.mk.inj hres
    refine (Go.Proofs.YtbdlihldmmbdmaaDoor.PickList.list_early A0 c0 l0 A1 c1 l1 a2 w hr0 hc0 hr1 hc1 (.inl hc)).mono ?_
    rw [if_neg hc]
    exact fun _ _ h => h

end Go.Proofs.YtbdlihldmmbdmaaDoor.SK
