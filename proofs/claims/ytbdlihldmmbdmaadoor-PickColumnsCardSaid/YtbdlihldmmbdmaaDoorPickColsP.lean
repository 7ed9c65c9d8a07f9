/- What PickColumns leans on, told on lists: Fits where the counts are right; one column alone; more rows. -/
import Derived.Test.YtbdlihldmmbdmaaDoorPickMeets
import Derived.Test.YtbdlihldmmbdmaaDoorPickSumB
import Derived.Test.YtbdlihldmmbdmaaDoorSK10
import Derived.Test.YtbdlihldmmbdmaaDoorSK4
namespace Go.Proofs.YtbdlihldmmbdmaaDoor.PickSpec
open Go.RowKit Go.Proofs.YtbdlihldmmbdmaaDoor.SK Go.Proofs.YtbdlihldmmbdmaaDoorW.PrintWords Go.Proofs.YtbdlihldmmbdmaaDoorW.PrintMore Go.Proofs.YtbdlihldmmbdmaaDoor.Plain
set_option linter.unusedVariables false

theorem pick_sum_ev (rows : List (List Int)) (want : List Int) (m : Nat) (hm : m < 4294967296) : Ev (fun k => pick_Sum.f k rows want (m : Int)) (sumS rows want m) := by
  refine Ev.congr (f := fun k => (amalgamref10_Sum.f k rows want (m : Int)).bind fun bt => some (bt.1, bt.2)) (fun k => ?_) (Ev.cast (Ev.then (sum_ev rows want m hm) (Ev.now _)) rfl)
  unfold pick_Sum.f
  rw [if_pos (by omega), if_pos (by simp; omega)]
theorem pick_fits_ev (rows : List (List Int)) (want : List Int) (hc : chk rows want = 0) (m : Nat) (hm : m < 2 ^ rows.length) : Ev (fun k => pick_Fits.f k rows want (m : Int)) (fitsM rows want m, 0) := by
  obtain ⟨h16, h10, _, _⟩ := chk_zero hc
  have hp := pow_le16 h16
  have hs : sumS rows want m = (addM rows m (List.replicate want.length 0), 0) := by
    unfold sumS
    rw [if_pos hc, if_pos (Nat.div_eq_of_lt hm)]
  have hr := addM_right hc m
  refine Ev.then (f := fun k bt => if bt.2 = 0 then ((pick_meets.f k bt.1 want).bind fun t => some (t, 0)) else some (false, bt.2)) (Ev.cast (pick_sum_ev rows want m (by omega)) hs) ?_
  simp only [if_true]
  exact Ev.then (meets_ev _ want hr.1 h10 (fun s h => (hr.2 s h).1)) (Ev.now _)
theorem chk_of {rows : List (List Int)} {want : List Int} (h16 : rows.length ≤ 16) (h10 : want.length ≤ 10) (hw : ∀ w ∈ want, 0 ≤ w ∧ w ≤ 2) (hr : ∀ row ∈ rows, row.length = want.length ∧ ∀ n ∈ row, 0 ≤ n ∧ n ≤ 1048576) : chk rows want = 0 := by
  unfold chk
  rw [if_neg (by omega), if_neg (by omega), if_neg, if_neg]
  · simp only [List.any_eq_true, not_exists, not_and, Bool.not_eq_true]
    intro row hrow
    obtain ⟨h1, h2⟩ := hr row hrow
    simp only [badR, h1, ne_eq, not_true, decide_false, Bool.false_or, List.any_eq_false, badN, Bool.or_eq_true, decide_eq_true_eq]
    intro x hx
    have := h2 x hx
    omega
  · simp only [List.any_eq_true, not_exists, not_and, Bool.not_eq_true]
    intro x hx
    have := hw x hx
    simp only [badW, Bool.or_eq_false_iff, decide_eq_false_iff_not]
    omega
/-- All wants any, but one. -/
def alone (want : List Int) (i : Nat) : List Int := (List.replicate want.length 0).set i (want.getD i 0)
theorem alone_length (want : List Int) (i : Nat) : (alone want i).length = want.length := by simp [alone]
theorem chk_alone {rows : List (List Int)} {want : List Int} (hc : chk rows want = 0) (i : Nat) (hi : i < want.length) : chk rows (alone want i) = 0 := by
  obtain ⟨h16, h10, hw, hr⟩ := chk_zero hc
  refine chk_of h16 (by rw [alone_length]; exact h10) (fun w h => ?_) (fun row h => by rw [alone_length]; exact hr row h)
  unfold alone at h
  rcases List.mem_or_eq_of_mem_set h with h | h
  · rw [List.eq_of_mem_replicate h]; decide
  · rw [h, List.getD_eq_getElem?_getD, List.getElem?_eq_getElem hi]
    exact hw _ (List.getElem_mem hi)
theorem fitsB_alone (sum want : List Int) (hl : sum.length = want.length) (i : Nat) (hi : i < want.length) : fitsB sum (alone want i) = fitB (sum.getD i 0) (want.getD i 0) := by
  have hla := alone_length want i
  unfold fitsB
  rw [Bool.eq_iff_iff, List.all_eq_true]
  constructor
  · intro h
    have h1 := h _ (List.getElem_mem (l := List.zipWith fitB sum (alone want i)) (n := i) (by simp [hla]; omega))
    rw [zip_get (by omega) (by omega)] at h1
    rw [List.getD_eq_getElem?_getD, List.getElem?_eq_getElem (by omega : i < sum.length)]
    simpa [alone] using h1
  · intro h b hb
    obtain ⟨j, hj, rfl⟩ := List.getElem_of_mem hb
    have hj' : j < want.length := by simp [hla] at hj; omega
    rw [zip_get (by omega) (by omega)]
    by_cases hij : i = j
    · subst hij
      rw [List.getD_eq_getElem?_getD, List.getElem?_eq_getElem (by omega : i < sum.length)] at h
      simpa [alone] using h
    · simp [alone, hij, fitB]
theorem fitsB_each (sum want : List Int) (hl : sum.length = want.length) : fitsB sum want = (List.range want.length).all fun i => fitB (sum.getD i 0) (want.getD i 0) := by
  unfold fitsB
  rw [Bool.eq_iff_iff, List.all_eq_true, List.all_eq_true]
  constructor
  · intro h i hi
    have hi := List.mem_range.1 hi
    have h1 := h _ (List.getElem_mem (l := List.zipWith fitB sum want) (n := i) (by simp; omega))
    rw [zip_get (by omega) hi] at h1
    rw [List.getD_eq_getElem?_getD, List.getD_eq_getElem?_getD, List.getElem?_eq_getElem (by omega : i < sum.length), List.getElem?_eq_getElem hi]
    exact h1
  · intro h b hb
    obtain ⟨j, hj, rfl⟩ := List.getElem_of_mem hb
    have hj' : j < want.length := by simp at hj; omega
    rw [zip_get (by omega) hj']
    have h1 := h j (List.mem_range.2 hj')
    rw [List.getD_eq_getElem?_getD, List.getD_eq_getElem?_getD, List.getElem?_eq_getElem (by omega : j < sum.length), List.getElem?_eq_getElem hj'] at h1
    exact h1
theorem addRow_get {acc row : List Int} {n i : Nat} (ha : acc.length = n) (hr : row.length = n) (hi : i < n) : (addRow acc row).getD i 0 = wrap64 (acc.getD i 0 + row.getD i 0) := by
  rw [List.getD_eq_getElem?_getD, List.getD_eq_getElem?_getD, List.getD_eq_getElem?_getD, List.getElem?_eq_getElem (by rw [addRow_length ha hr]; exact hi), List.getElem?_eq_getElem (by omega : i < acc.length), List.getElem?_eq_getElem (by omega : i < row.length)]
  simp [addRow]
/-- More rows, greater sums (where nothing wraps). -/
theorem addM_more : ∀ (rows : List (List Int)) (m m' n B : Nat) (acc acc' : List Int), (∀ row ∈ rows, row.length = n ∧ ∀ x ∈ row, 0 ≤ x ∧ x ≤ 1048576) → acc.length = n → acc'.length = n → (∀ i, m.testBit i = true → m'.testBit i = true) →
    (∀ i, i < n → 0 ≤ acc.getD i 0 ∧ acc.getD i 0 ≤ acc'.getD i 0 ∧ acc'.getD i 0 ≤ (B : Int)) → B + rows.length * 1048576 ≤ 4611686018427387904 → ∀ i, i < n → (addM rows m acc).getD i 0 ≤ (addM rows m' acc').getD i 0
  | [], _, _, n, B, acc, acc', _, _, _, _, h, _ => fun i hi => (h i hi).2.1
  | row :: rows, m, m', n, B, acc, acc', hr, ha, ha', hsub, h, hB => fun i hi => by
    obtain ⟨hrl, hrx⟩ := hr row List.mem_cons_self
    simp only [List.length_cons] at hB
    unfold addM
    refine addM_more rows (m / 2) (m' / 2) n (B + 1048576) _ _ (fun r h => hr r (List.mem_cons_of_mem _ h)) (by split; exact addRow_length ha hrl; exact ha) (by split; exact addRow_length ha' hrl; exact ha') (fun j hj => ?_) (fun j hj => ?_) (by omega) i hi
    · have := hsub (j + 1)
      rw [Nat.testBit_succ, Nat.testBit_succ] at this
      exact this hj
    · obtain ⟨h1, h2, h3⟩ := h j hj
      have hx := hrx row[j] (List.getElem_mem (by omega))
      have hrd : row.getD j 0 = row[j] := by rw [List.getD_eq_getElem?_getD, List.getElem?_eq_getElem (by omega : j < row.length)]; rfl
      have hb := hsub 0
      simp only [Nat.testBit_zero, decide_eq_true_eq] at hb
      by_cases c1 : m % 2 = 1
      · rw [if_pos c1, if_pos (hb c1), addRow_get ha hrl hj, addRow_get ha' hrl hj, hrd, wrap_id (by omega) (by omega), wrap_id (by omega) (by omega)]
        omega
      · rw [if_neg c1]
        by_cases c2 : m' % 2 = 1
        · rw [if_pos c2, addRow_get ha' hrl hj, hrd, wrap_id (by omega) (by omega)]
          omega
        · rw [if_neg c2]
          omega
theorem fits_more {rows : List (List Int)} {want : List Int} (hc : chk rows want = 0) (m m' : Nat) (hsub : ∀ i, m.testBit i = true → m'.testBit i = true) (h2 : ∀ i, i < want.length → want.getD i 0 ≠ 2) (h : fitsM rows want m = true) : fitsM rows want m' = true := by
  obtain ⟨h16, h10, hw, hr⟩ := chk_zero hc
  unfold fitsM at h ⊢
  rw [fitsB_each _ _ (addM_right hc _).1, List.all_eq_true] at h ⊢
  intro i hi
  have hi' := List.mem_range.1 hi
  have h1 := h i hi
  have hz : (List.replicate want.length (0 : Int)).getD i 0 = 0 := by rw [List.getD_eq_getElem?_getD, List.getElem?_replicate]; split <;> rfl
  have hle := addM_more rows m m' want.length 0 (List.replicate want.length 0) (List.replicate want.length 0) hr (by simp) (by simp) hsub (fun j hj => by
    have : (List.replicate want.length (0 : Int)).getD j 0 = 0 := by rw [List.getD_eq_getElem?_getD, List.getElem?_replicate]; split <;> rfl
    rw [this]; simp) (by omega) i hi'
  have hne := h2 i hi'
  generalize (addM rows m (List.replicate want.length 0)).getD i 0 = s at h1 hle
  generalize (addM rows m' (List.replicate want.length 0)).getD i 0 = s' at hle ⊢
  generalize want.getD i 0 = w at h1 hne ⊢
  unfold fitB at h1 ⊢
  have hw2 : (w == 2) = false := by simpa using hne
  rw [hw2] at h1 ⊢
  simp at h1 ⊢
  omega
theorem u32_mask (x n : Nat) (hx : x < 4294967296) (hn : n ≤ 16) : Go.bits .and .u32 (x : Int) ((shl .u32 1 (n : Int) - 1) % 4294967296) = ((x &&& (2 ^ n - 1) : Nat) : Int) := by
  have hp := pow_le16 hn
  have hpos := Nat.two_pow_pos n
  rw [shl_one hn, show (((2 ^ n : Nat) : Int) - 1) % 4294967296 = ((2 ^ n - 1 : Nat) : Int) by omega]
  exact bits_and_u32_nat x (2 ^ n - 1) hx (by omega)
theorem bits_or_u32_nat (a b : Nat) (ha : a < 4294967296) (hb : b < 4294967296) : Go.bits .or .u32 (a : Int) (b : Int) = ((a ||| b : Nat) : Int) := by
  have hx : a ||| b < 2 ^ 32 := Nat.or_lt_two_pow (by omega) (by omega)
  have h1 : (BitVec.ofInt 32 (a : Int)).toNat = a := by
    rw [BitVec.ofInt_natCast, BitVec.toNat_ofNat]; exact Nat.mod_eq_of_lt (by omega)
  have h2 : (BitVec.ofInt 32 (b : Int)).toNat = b := by
    rw [BitVec.ofInt_natCast, BitVec.toNat_ofNat]; exact Nat.mod_eq_of_lt (by omega)
  show IntKind.u32.wrap ((BitVec.ofInt 32 (a : Int) ||| BitVec.ofInt 32 (b : Int)).toNat : Int) = _
  rw [BitVec.toNat_or, h1, h2, IntKind.wrap_u32]
  omega
theorem and_mask_lt (x n : Nat) : x &&& (2 ^ n - 1) < 2 ^ n := by
  have := Nat.two_pow_pos n
  have h : x &&& (2 ^ n - 1) ≤ 2 ^ n - 1 := Nat.and_le_right
  omega
end Go.Proofs.YtbdlihldmmbdmaaDoor.PickSpec
