/- What Sum answers, told on lists; the reference's Sum answers it. -/
import Derived.Test.YtbdlihldmmbdmaaDoorPickSum
import Derived.Lib.BitFns
import Derived.Test.YtbdlihldmmbdmaaDoorSK6
namespace Go.Proofs.YtbdlihldmmbdmaaDoor.PickSpec
open Go.RowKit Go.Proofs.YtbdlihldmmbdmaaDoor.SK Go.Proofs.YtbdlihldmmbdmaaDoorW.PrintWords Go.Proofs.YtbdlihldmmbdmaaDoorW.PrintMore Go.Proofs.YtbdlihldmmbdmaaDoor.Plain
set_option linter.unusedVariables false

def sumS (rows : List (List Int)) (want : List Int) (m : Nat) : List Int × Int :=
  if chk rows want = 0 then (if m / 2 ^ rows.length = 0 then (addM rows m (List.replicate want.length 0), 0) else ([], 1)) else ([], chk rows want)
theorem rows_len {rows : List (List Int)} {want : List Int} (h : chk rows want = 0) : ∀ (i : Nat) (h : i < rows.length), rows[i].length = want.length := fun i hi => ((chk_zero h).2.2.2 _ (List.getElem_mem hi)).1
theorem sum_ev (rows : List (List Int)) (want : List Int) (m : Nat) (hm : m < 4294967296) : Ev (fun k => amalgamref10_Sum.f k rows want (m : Int)) (sumS rows want m) := by
  have h0 := check_ev rows want
  unfold sumS
  by_cases hc : chk rows want = 0
  · obtain ⟨h16, h10, _⟩ := chk_zero hc
    rw [if_pos hc]
    have hs := shr_nat m rows.length (by omega)
    by_cases hz : m / 2 ^ rows.length = 0
    · rw [if_pos hz]
      have h1 := add_ev rows want.length m h10 h16 hm (rows_len hc)
      refine Ev.congr (f := fun k => (amalgamref10_Check.f k rows want).bind fun t => if t = 0 then ((amalgamref10_add.f k rows (want.length : Int) (m : Int)).bind fun t2 => some (t2, 0)) else some (([] : List Int), t)) (fun k => ?_) ?_
      · unfold amalgamref10_Sum.f
        rw [hs, if_pos (by omega)]
      · refine Ev.then h0 ?_
        simp only [hc, if_true]
        exact Ev.then h1 (Ev.now _)
    · rw [if_neg hz]
      refine Ev.congr (f := fun k => (amalgamref10_Check.f k rows want).bind fun t => if t = 0 then some (([] : List Int), 1) else some (([] : List Int), t)) (fun k => ?_) ?_
      · unfold amalgamref10_Sum.f
        rw [hs, if_neg (by omega)]
      · refine Ev.then h0 ?_
        simp only [hc, if_true]
        exact Ev.now _
  · rw [if_neg hc]
    unfold amalgamref10_Sum.f
    refine Ev.then h0 ?_
    simp only [hc, if_false]
    exact Ev.now _
theorem bitLen_gt (m n : Nat) (hm : m < 4294967296) (hn : n ≤ 16) : (n < Lib.bitLen m) ↔ ¬ m / 2 ^ n = 0 := by
  constructor
  · intro h hz
    have h1 : m < 2 ^ n := by
      rcases Nat.lt_or_ge m (2 ^ n) with h | h
      · exact h
      · have := Nat.div_pos h (Nat.two_pow_pos n)
        omega
    have := Lib.bitLen_le m n (by omega) h1
    omega
  · intro hz
    have h1 : 2 ^ n ≤ m := by
      rcases Nat.lt_or_ge m (2 ^ n) with h | h
      · exact absurd (Nat.div_eq_of_lt h) hz
      · exact h
    have h2 := Lib.bitLen_shift n m h1 (by omega)
    have h3 : Lib.bitLen (m / 2 ^ n) ≠ 0 := by
      rw [Lib.bitLen_half (m / 2 ^ n) hz (Nat.lt_of_le_of_lt (Nat.div_le_self _ _) (by omega))]
      omega
    omega
end Go.Proofs.YtbdlihldmmbdmaaDoor.PickSpec
