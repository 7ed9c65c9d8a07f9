-- PRINTED by print.py (a twelfth state) out of the translation. Not trusted: Lean checks it.
import Derived.Test.YtbdlihldmmbdmaaDoorSK0
import Derived.Test.YtbdlihldmmbdmaaDoorSK1
namespace Go.Proofs.YtbdlihldmmbdmaaDoor.SK
open Go.RowKit Go.Proofs.YtbdlihldmmbdmaaDoorW.PrintWords Go.Proofs.YtbdlihldmmbdmaaDoorW.PrintLast Go.Proofs.YtbdlihldmmbdmaaDoorW.PrintMore
attribute [local go_sem] max2_int min2_int max_two min_two max_three min_three max_four min_four   -- for this text's walks alone
set_option linter.unusedVariables false
set_option linter.unusedSimpArgs false

/-! ### pick_Check: function 19 -/
def pick_Check.f (k : Nat) (l0 : List (List Int)) (l1 : List Int) : Option (Int) := (amalgamref10_Check.f k l0 l1).bind fun t208 => (some t208)
theorem pick_Check.mono : ∀ a0 a1 k, LeO (pick_Check.f k a0 a1) (pick_Check.f (k + 1) a0 a1) := by
  intro a0 a1 k
  unfold pick_Check.f
  repeat' first
      | (with_reducible exact amalgamref10_Check.mono _ _ _)
      | (with_reducible exact LeO.refl _)
      | (with_reducible exact LeO.none _)
      | (with_reducible refine LeO.ite ?_ ?_)
      | (with_reducible refine LeO.bind ?_ (fun _ => ?_))
      | exact amalgamref10_Check.mono _ _ _
      | exact LeO.none _
      | refine LeO.ite ?_ ?_
      | refine LeO.bind ?_ (fun _ => ?_)

end Go.Proofs.YtbdlihldmmbdmaaDoor.SK
