/- Which masks fit, told on lists; the reference's fits, All and List, and the program's meets, answer it. -/
import Derived.Test.YtbdlihldmmbdmaaDoorPickSum
import Derived.Test.YtbdlihldmmbdmaaDoorSK1
import Derived.Test.YtbdlihldmmbdmaaDoorSK2
import Derived.Test.YtbdlihldmmbdmaaDoorSK10
namespace Go.Proofs.YtbdlihldmmbdmaaDoor.PickSpec
open Go.RowKit Go.Proofs.YtbdlihldmmbdmaaDoor.SK Go.Proofs.YtbdlihldmmbdmaaDoorW.PrintWords Go.Proofs.YtbdlihldmmbdmaaDoorW.PrintMore Go.Proofs.YtbdlihldmmbdmaaDoor.Plain
set_option linter.unusedVariables false

def fitB (s w : Int) : Bool := !((w == 1 && decide (s < 1)) || (w == 2 && !(s == 1)))
def fitsB (sum want : List Int) : Bool := (List.zipWith fitB sum want).all id
theorem zip_len {sum want : List Int} (h : sum.length = want.length) : (List.zipWith fitB sum want).length = want.length := by simp [h]
theorem zip_get {sum want : List Int} {i : Nat} (h1 : i < sum.length) (h2 : i < want.length) (h : i < (List.zipWith fitB sum want).length) : (List.zipWith fitB sum want)[i] = fitB sum[i] want[i] := by simp

theorem fits_l0 (sum want : List Int) (hl : sum.length = want.length) (hw : want.length ≤ 10) :
    ∀ d i : Nat, i + d = want.length → Ev (fun k => amalgamref10_fits.l0 k sum want (i : Int)) (((List.zipWith fitB sum want).drop i).all id) := by
  intro d
  induction d with
  | zero =>
    intro i hi
    rw [drop_all_end (by rw [zip_len hl]; omega)]
    refine Ev.round (Ev.now _) fun k => ?_
    simp only [amalgamref10_fits.l0]
    rw [if_neg (by omega)]
  | succ d ih =>
    intro i hi
    have h1 : i < want.length := by omega
    have h2 : i < sum.length := by omega
    rw [drop_all (show i < (List.zipWith fitB sum want).length by rw [zip_len hl]; omega), zip_get h2 h1]
    have hih := ih (i + 1) (by omega)
    generalize (((List.zipWith fitB sum want).drop (i + 1)).all id) = rest at hih ⊢
    have h3 := rd_lt h1
    have h4 := rd_lt h2
    have hwr : wrap64 ((i : Int) + 1) = ((i + 1 : Nat) : Int) := wrap_nat (by omega)
    by_cases c1 : want[i] = 1
    · by_cases c2 : sum[i] < 1
      · refine Ev.round (Ev.now _) fun k => ?_
        simp only [amalgamref10_fits.l0]
        rw [if_pos (by omega), if_pos (by omega), h3, if_pos c1, if_pos (by omega), h4, if_pos c2]
        simp [fitB, c1, c2]
      · refine Ev.round (Ev.cast hih (by simp [fitB, c1, c2])) fun k => ?_
        simp only [amalgamref10_fits.l0]
        rw [if_pos (by omega), if_pos (by omega), h3, if_pos c1, if_pos (by omega), h4, if_neg c2, if_neg (by omega), hwr]
    · by_cases c2 : want[i] = 2
      · by_cases c3 : sum[i] = 1
        · refine Ev.round (Ev.cast hih (by simp [fitB, c2, c3])) fun k => ?_
          simp only [amalgamref10_fits.l0]
          rw [if_pos (by omega), if_pos (by omega), h3, if_neg c1, if_pos c2, if_pos (by omega), h4, if_pos c3, hwr]
        · refine Ev.round (Ev.now _) fun k => ?_
          simp only [amalgamref10_fits.l0]
          rw [if_pos (by omega), if_pos (by omega), h3, if_neg c1, if_pos c2, if_pos (by omega), h4, if_neg c3]
          simp [fitB, c2, c3]
      · refine Ev.round (Ev.cast hih (by simp [fitB, c1, c2])) fun k => ?_
        simp only [amalgamref10_fits.l0]
        rw [if_pos (by omega), if_pos (by omega), h3, if_neg c1, if_neg c2, hwr]
theorem fits_ev (sum want : List Int) (hl : sum.length = want.length) (hw : want.length ≤ 10) : Ev (fun k => amalgamref10_fits.f k sum want) (fitsB sum want) :=
  Ev.cast (fits_l0 sum want hl hw want.length 0 (by omega)) (by simp [fitsB])

theorem meets_l0 (sum want : List Int) (hl : sum.length = want.length) (hw : want.length ≤ 10) (hs : ∀ s ∈ sum, 0 ≤ s) :
    ∀ d i : Nat, i + d = want.length → Ev (fun k => pick_meets.l0 k sum want (want.length : Int) (i : Int)) (((List.zipWith fitB sum want).drop i).all id) := by
  intro d
  induction d with
  | zero =>
    intro i hi
    rw [drop_all_end (by rw [zip_len hl]; omega)]
    refine Ev.round (Ev.now _) fun k => ?_
    simp only [pick_meets.l0]
    rw [if_neg (by omega)]
  | succ d ih =>
    intro i hi
    have h1 : i < want.length := by omega
    have h2 : i < sum.length := by omega
    rw [drop_all (show i < (List.zipWith fitB sum want).length by rw [zip_len hl]; omega), zip_get h2 h1]
    have hih := ih (i + 1) (by omega)
    generalize (((List.zipWith fitB sum want).drop (i + 1)).all id) = rest at hih ⊢
    have h3 := rd_lt h1
    have h4 := rd_lt h2
    have h5 := hs _ (List.getElem_mem h2)
    have hwr : wrap64 ((i : Int) + 1) = ((i + 1 : Nat) : Int) := wrap_nat (by omega)
    by_cases c1 : want[i] = 1
    · by_cases c2 : sum[i] = 0
      · refine Ev.round (Ev.now _) fun k => ?_
        simp only [pick_meets.l0]
        rw [if_pos (by omega), if_pos (by omega), if_pos (by omega), h3, if_pos c1, if_pos (by omega), h4, if_pos c2]
        simp [fitB, c1, c2]
      · refine Ev.round (Ev.cast hih (by simp [fitB, c1]; omega)) fun k => ?_
        simp only [pick_meets.l0]
        rw [if_pos (by omega), if_pos (by omega), if_pos (by omega), h3, if_pos c1, if_pos (by omega), h4, if_neg c2, if_neg (by omega), hwr]
    · by_cases c2 : want[i] = 2
      · by_cases c3 : sum[i] = 1
        · refine Ev.round (Ev.cast hih (by simp [fitB, c2, c3])) fun k => ?_
          simp only [pick_meets.l0]
          rw [if_pos (by omega), if_pos (by omega), if_pos (by omega), h3, if_neg c1, if_pos c2, if_pos (by omega), h4, if_pos c3, hwr]
        · refine Ev.round (Ev.now _) fun k => ?_
          simp only [pick_meets.l0]
          rw [if_pos (by omega), if_pos (by omega), if_pos (by omega), h3, if_neg c1, if_pos c2, if_pos (by omega), h4, if_neg c3]
          simp [fitB, c2, c3]
      · refine Ev.round (Ev.cast hih (by simp [fitB, c1, c2])) fun k => ?_
        simp only [pick_meets.l0]
        rw [if_pos (by omega), if_pos (by omega), if_pos (by omega), h3, if_neg c1, if_neg c2, hwr]
theorem meets_ev (sum want : List Int) (hl : sum.length = want.length) (hw : want.length ≤ 10) (hs : ∀ s ∈ sum, 0 ≤ s) : Ev (fun k => pick_meets.f k sum want) (fitsB sum want) :=
  Ev.cast (meets_l0 sum want hl hw hs want.length 0 (by omega)) (by simp [fitsB])

/-! sums of right rows: no wrap -/
theorem addM_length : ∀ (rows : List (List Int)) (m n : Nat) (acc : List Int), (∀ row ∈ rows, row.length = n) → acc.length = n → (addM rows m acc).length = n
  | [], _, _, _, _, h => h
  | row :: rows, m, n, acc, hr, h => by
    unfold addM
    refine addM_length rows _ n _ (fun r hr' => hr r (List.mem_cons_of_mem _ hr')) ?_
    split
    · exact addRow_length h (hr row List.mem_cons_self)
    · exact h
theorem addM_bound : ∀ (rows : List (List Int)) (m B : Nat) (acc : List Int), (∀ row ∈ rows, ∀ x ∈ row, 0 ≤ x ∧ x ≤ 1048576) → (∀ x ∈ acc, 0 ≤ x ∧ x ≤ (B : Int)) → B + rows.length * 1048576 ≤ 4611686018427387904 →
    ∀ x ∈ addM rows m acc, 0 ≤ x ∧ x ≤ ((B + rows.length * 1048576 : Nat) : Int)
  | [], _, B, acc, _, h, _ => fun x hx => by
    have := h x hx
    simp
    omega
  | row :: rows, m, B, acc, hr, h, hb => fun x hx => by
    unfold addM at hx
    simp only [List.length_cons] at hb ⊢
    have := addM_bound rows (m / 2) (B + 1048576) (if m % 2 = 1 then addRow acc row else acc) (fun r hr' => hr r (List.mem_cons_of_mem _ hr')) (fun y hy => by
      split at hy
      · unfold addRow at hy
        obtain ⟨i, hi, rfl⟩ := List.getElem_of_mem hy
        have hi' : i < acc.length ∧ i < row.length := by simp at hi; omega
        rw [List.getElem_zipWith]
        have h1 := h _ (List.getElem_mem hi'.1)
        have h2 := hr row List.mem_cons_self _ (List.getElem_mem hi'.2)
        rw [wrap_id (by omega) (by omega)]
        omega
      · have := h y hy
        omega) (by omega) x hx
    omega
def zeros (n : Nat) : List Int := List.replicate n 0
def fitsM (rows : List (List Int)) (want : List Int) (m : Nat) : Bool := fitsB (addM rows m (List.replicate want.length 0)) want
theorem addM_right {rows : List (List Int)} {want : List Int} (h : chk rows want = 0) (m : Nat) :
    (addM rows m (List.replicate want.length 0)).length = want.length ∧ ∀ x ∈ addM rows m (List.replicate want.length 0), 0 ≤ x ∧ x ≤ 16777216 := by
  obtain ⟨h16, h10, _, hr⟩ := chk_zero h
  refine ⟨addM_length rows m want.length _ (fun row hrow => (hr row hrow).1) (by simp), fun x hx => ?_⟩
  have := addM_bound rows m 0 (List.replicate want.length 0) (fun row hrow => (hr row hrow).2) (fun y hy => by rw [List.eq_of_mem_replicate hy]; simp) (by omega) x hx
  omega

/-! All and List -/
def masksFrom (rows : List (List Int)) (want : List Int) (m d : Nat) : List Nat := (List.range' m d).filter (fitsM rows want)
theorem masksFrom_succ (rows : List (List Int)) (want : List Int) (m d : Nat) : masksFrom rows want m (d + 1) = if fitsM rows want m then m :: masksFrom rows want (m + 1) d else masksFrom rows want (m + 1) d := by
  unfold masksFrom
  rw [List.range'_succ, List.filter_cons]
def masksN (rows : List (List Int)) (want : List Int) : List Nat := masksFrom rows want 0 (2 ^ rows.length)
def masks (rows : List (List Int)) (want : List Int) : List Int := (masksN rows want).map fun m : Nat => (m : Int)
theorem pow_le16 {n : Nat} (h : n ≤ 16) : 2 ^ n ≤ 65536 := Nat.le_trans (Nat.pow_le_pow_right (by decide) h) (by decide)
theorem masksN_length (rows : List (List Int)) (want : List Int) (h : rows.length ≤ 16) : (masksN rows want).length ≤ 65536 := by
  unfold masksN masksFrom
  exact Nat.le_trans (List.length_filter_le _ _) (by rw [List.length_range']; exact pow_le16 h)
theorem shl_one {n : Nat} (h : n ≤ 16) : shl .u32 1 (n : Int) = ((2 ^ n : Nat) : Int) := by
  unfold shl
  rw [Int.toNat_natCast, Nat.min_eq_left (show n ≤ IntKind.u32.bits by simp [IntKind.bits]; omega), IntKind.wrap_u32]
  have := pow_le16 h
  rw [Int.one_mul]
  have h2 : ((2 : Int) ^ n) = ((2 ^ n : Nat) : Int) := by simp
  rw [h2]
  exact Int.emod_eq_of_lt (Int.natCast_nonneg _) (by omega)
theorem all_l0 (rows : List (List Int)) (want : List Int) (hc : chk rows want = 0) :
    ∀ d m : Nat, ∀ out : List Int, m + d = 2 ^ rows.length → out.length ≤ m → Ev (fun k => amalgamref10_All.l0 k rows want 65536 out (m : Int)) (out ++ (masksFrom rows want m d).map fun m : Nat => (m : Int)) := by
  obtain ⟨h16, h10, _, hr⟩ := chk_zero hc
  have hp := pow_le16 h16
  intro d
  induction d with
  | zero =>
    intro m out hm ho
    refine Ev.round (f := fun k => amalgamref10_All.j1 k rows want 65536 out (m : Int) false) (Ev.round (Ev.now _) fun k => ?_) fun k => ?_
    · simp only [amalgamref10_All.j1]
      rw [if_neg (by simp)]
      simp [masksFrom]
    · simp only [amalgamref10_All.l0]
      rw [shl_one h16, if_neg (by omega)]
  | succ d ih =>
    intro m out hm ho
    have hadd := add_ev rows want.length m h10 h16 (by omega) (fun i hi => (hr _ (List.getElem_mem hi)).1)
    have hr2 := addM_right hc m
    have hfit := fits_ev (addM rows m (List.replicate want.length 0)) want hr2.1 h10
    refine Ev.round (f := fun k => amalgamref10_All.j1 k rows want 65536 out (m : Int) true) (Ev.round (f := fun k => (amalgamref10_add.f k rows (want.length : Int) (m : Int)).bind fun t => (amalgamref10_fits.f k t want).bind fun t2 => if t2 = true then (amalgamref10_All.l0 k rows want 65536 (out ++ [(m : Int)]) ((m + 1 : Nat) : Int)) else (amalgamref10_All.l0 k rows want 65536 out ((m + 1 : Nat) : Int))) (Ev.then hadd (Ev.then hfit ?_)) fun k => ?_) fun k => ?_
    · rw [masksFrom_succ]
      unfold fitsM
      cases hb : fitsB (addM rows m (List.replicate want.length 0)) want with
      | true =>
        simp only [if_true]
        exact Ev.cast (ih (m + 1) (out ++ [(m : Int)]) (by omega) (by simp; omega)) (by simp)
      | false =>
        simp only [Bool.false_eq_true, if_false]
        exact ih (m + 1) out (by omega) (by omega)
    · simp only [amalgamref10_All.j1]
      have hm1 : ((m : Int) + 1) % 4294967296 = ((m + 1 : Nat) : Int) := by omega
      rw [if_pos trivial, hm1]
      simp only [if_pos (show out.length < 35184372088832 by omega)]
    · simp only [amalgamref10_All.l0]
      rw [shl_one h16, if_pos (by omega), decide_eq_true (by omega : (out.length : Int) < 65536)]
theorem all_ev (rows : List (List Int)) (want : List Int) (hc : chk rows want = 0) : Ev (fun k => amalgamref10_All.f k rows want 65536) (masks rows want) := by
  unfold amalgamref10_All.f
  refine Ev.then (check_ev rows want) ?_
  simp only [hc, if_true]
  exact Ev.cast (all_l0 rows want hc (2 ^ rows.length) 0 [] (by omega) (by simp)) (by simp [masks, masksN])
def listS (rows : List (List Int)) (want : List Int) (most : Int) : List Int × Int :=
  if chk rows want = 0 then (if most < 0 then ([], 1) else if ((masks rows want).length : Int) > most then ([], 2) else (masks rows want, 0)) else ([], chk rows want)
theorem list_ev (rows : List (List Int)) (want : List Int) (most : Int) : Ev (fun k => amalgamref10_List.f k rows want most) (listS rows want most) := by
  unfold amalgamref10_List.f listS
  refine Ev.then (check_ev rows want) ?_
  by_cases hc : chk rows want = 0
  · simp only [hc, if_true]
    by_cases hm : most < 0
    · simp only [hm, if_true]
      exact Ev.now _
    · simp only [hm, if_false]
      refine Ev.then (all_ev rows want hc) ?_
      split
      · exact Ev.now _
      · exact Ev.now _
  · simp only [hc, if_false]
    exact Ev.now _
end Go.Proofs.YtbdlihldmmbdmaaDoor.PickSpec
