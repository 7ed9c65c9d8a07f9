/- What pick's functions answer, told on lists; the reference's Check, add, fits and All answer it. -/
import Derived.Test.YtbdlihldmmbdmaaDoorPlain
import Derived.Test.YtbdlihldmmbdmaaDoorSK1
import Derived.Test.YtbdlihldmmbdmaaDoorSK2
namespace Go.Proofs.YtbdlihldmmbdmaaDoor.PickSpec
open Go.RowKit Go.Proofs.YtbdlihldmmbdmaaDoor.SK Go.Proofs.YtbdlihldmmbdmaaDoorW.PrintWords Go.Proofs.YtbdlihldmmbdmaaDoor.Plain
set_option linter.unusedVariables false

def badW (w : Int) : Bool := decide (w < 0) || decide (w > 2)
def badN (n : Int) : Bool := decide (n < 0) || decide (n > 1048576)
def badR (want row : List Int) : Bool := decide (row.length ≠ want.length) || row.any badN
def chk (rows : List (List Int)) (want : List Int) : Int :=
  if rows.length > 16 then 101 else if want.length > 10 then 102 else if want.any badW then 102 else if rows.any (badR want) then 103 else 0

theorem rdL_lt {xs : List (List Int)} {k : Nat} (h : k < xs.length) : rd_L1 xs (k : Int) = xs[k] := by
  unfold rd_L1
  rw [Int.toNat_natCast, List.getD_eq_getElem?_getD, List.getElem?_eq_getElem h]; rfl

theorem check_l2 (rows : List (List Int)) (want : List Int) (hw : want.length ≤ 10) (i : Nat) (hi : i < rows.length) (hi' : rows.length ≤ 16) (he : rows[i].length = want.length) (r : Int)
    (hn : Ev (fun k => amalgamref10_Check.l1 k rows want ((i + 1 : Nat) : Int)) r) :
    ∀ d j : Nat, j + d = want.length → Ev (fun k => amalgamref10_Check.l2 k rows want (i : Int) (j : Int)) (if (rows[i].drop j).any badN then 103 else r) := by
  intro d
  induction d with
  | zero =>
    intro j hj
    rw [drop_any_end (by omega)]
    refine Ev.round hn fun k => ?_
    simp only [amalgamref10_Check.l2]
    rw [if_neg (by omega), wrap_nat (by omega)]
  | succ d ih =>
    intro j hj
    have h1 : j < rows[i].length := by omega
    rw [drop_any h1]
    cases hb : badN rows[i][j] with
    | true =>
      refine Ev.round (Ev.now _) fun k => ?_
      simp only [amalgamref10_Check.l2]
      rw [if_pos (by omega), if_pos (by omega), if_pos (by omega), if_pos (by omega), rdL_lt hi, if_pos (by omega), rd_lt h1]
      by_cases h2 : rows[i][j] < 0
      · rw [if_pos h2]; simp
      · rw [if_neg h2, if_pos (by simp only [badN, Bool.or_eq_true, decide_eq_true_eq] at hb; omega)]; simp
    | false =>
      simp only [badN, Bool.or_eq_false_iff, decide_eq_false_iff_not] at hb
      refine Ev.round (Ev.cast (ih (j + 1) (by omega)) (by simp)) fun k => ?_
      simp only [amalgamref10_Check.l2]
      rw [if_pos (by omega), if_pos (by omega), if_pos (by omega), if_pos (by omega), rdL_lt hi, if_pos (by omega), rd_lt h1, if_neg hb.1, if_neg hb.2, wrap_nat (by omega)]
theorem check_l1 (rows : List (List Int)) (want : List Int) (hw : want.length ≤ 10) (hi' : rows.length ≤ 16) :
    ∀ d i : Nat, i + d = rows.length → Ev (fun k => amalgamref10_Check.l1 k rows want (i : Int)) (if (rows.drop i).any (badR want) then 103 else 0) := by
  intro d
  induction d with
  | zero =>
    intro i hi
    rw [drop_any_end (by omega)]
    refine Ev.round (Ev.now _) fun k => ?_
    simp only [amalgamref10_Check.l1]
    rw [if_neg (by omega)]; simp
  | succ d ih =>
    intro i hi
    have h1 : i < rows.length := by omega
    rw [drop_any h1]
    by_cases he : rows[i].length = want.length
    · have h2 := check_l2 rows want hw i h1 hi' he _ (ih (i + 1) (by omega)) want.length 0 (by omega)
      refine Ev.round (Ev.cast h2 ?_) fun k => ?_
      · simp only [badR, List.drop_zero, he, ne_eq, not_true, decide_false, Bool.false_or]
        cases rows[i].any badN <;> simp
      · simp only [amalgamref10_Check.l1]
        rw [if_pos (by omega), if_pos (by omega), rdL_lt h1, if_pos (by omega)]; rfl
    · refine Ev.round (Ev.now _) fun k => ?_
      simp only [amalgamref10_Check.l1]
      rw [if_pos (by omega), if_pos (by omega), rdL_lt h1, if_neg (by omega)]
      simp [badR, he]
theorem check_l0 (rows : List (List Int)) (want : List Int) (hw : want.length ≤ 10) (hi' : rows.length ≤ 16) :
    ∀ d i : Nat, i + d = want.length → Ev (fun k => amalgamref10_Check.l0 k rows want (i : Int)) (if (want.drop i).any badW then 102 else if rows.any (badR want) then 103 else 0) := by
  intro d
  induction d with
  | zero =>
    intro i hi
    rw [drop_any_end (by omega)]
    refine Ev.round (Ev.cast (check_l1 rows want hw hi' rows.length 0 (by omega)) (by simp)) fun k => ?_
    simp only [amalgamref10_Check.l0]
    rw [if_neg (by omega)]; rfl
  | succ d ih =>
    intro i hi
    have h1 : i < want.length := by omega
    rw [drop_any h1]
    cases hb : badW want[i] with
    | true =>
      refine Ev.round (Ev.now _) fun k => ?_
      simp only [amalgamref10_Check.l0]
      rw [if_pos (by omega), if_pos (by omega), rd_lt h1]
      by_cases h2 : want[i] < 0
      · rw [if_pos h2]; simp
      · rw [if_neg h2, if_pos (by simp only [badW, Bool.or_eq_true, decide_eq_true_eq] at hb; omega)]; simp
    | false =>
      simp only [badW, Bool.or_eq_false_iff, decide_eq_false_iff_not] at hb
      refine Ev.round (Ev.cast (ih (i + 1) (by omega)) (by simp)) fun k => ?_
      simp only [amalgamref10_Check.l0]
      rw [if_pos (by omega), if_pos (by omega), rd_lt h1, if_neg hb.1, if_neg hb.2, wrap_nat (by omega)]
theorem check_ev (rows : List (List Int)) (want : List Int) : Ev (fun k => amalgamref10_Check.f k rows want) (chk rows want) := by
  unfold chk
  by_cases h1 : rows.length > 16
  · rw [if_pos h1]
    exact Ev.congr (fun k => by unfold amalgamref10_Check.f; rw [if_pos (by omega)]) (Ev.now _)
  · rw [if_neg h1]
    by_cases h2 : want.length > 10
    · rw [if_pos h2]
      exact Ev.congr (fun k => by unfold amalgamref10_Check.f; rw [if_neg (by omega), if_pos (by omega)]) (Ev.now _)
    · rw [if_neg h2]
      exact Ev.congr (fun k => by unfold amalgamref10_Check.f; rw [if_neg (by omega), if_neg (by omega)]; rfl) (check_l0 rows want (by omega) (by omega) want.length 0 (by omega))
end Go.Proofs.YtbdlihldmmbdmaaDoor.PickSpec
