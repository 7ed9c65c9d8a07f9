/- The sum of a mask's rows, told on lists; the reference's add answers it; what is left of it behind the lowest bit. -/
import Derived.Test.YtbdlihldmmbdmaaDoorPickSpec
import Derived.Lib.TrailingZeros
import Derived.Shelf.Spec.TrailingZeros
namespace Go.Proofs.YtbdlihldmmbdmaaDoor.PickSpec
open Go.RowKit Go.Proofs.YtbdlihldmmbdmaaDoor.SK Go.Proofs.YtbdlihldmmbdmaaDoorW.PrintWords Go.Proofs.YtbdlihldmmbdmaaDoorW.PrintMore Go.Proofs.YtbdlihldmmbdmaaDoor.Plain
set_option linter.unusedVariables false

def addRow (acc row : List Int) : List Int := List.zipWith (fun a b => wrap64 (a + b)) acc row
def addM : List (List Int) → Nat → List Int → List Int
  | [], _, acc => acc
  | row :: rows, m, acc => addM rows (m / 2) (if m % 2 = 1 then addRow acc row else acc)
theorem addRow_length {acc row : List Int} {n : Nat} (h : acc.length = n) (h' : row.length = n) : (addRow acc row).length = n := by simp [addRow, h, h']
theorem addM_zero : ∀ (rows : List (List Int)) (acc : List Int), addM rows 0 acc = acc
  | [], _ => rfl
  | _ :: rows, acc => by simp [addM, addM_zero rows]
theorem addM_shift : ∀ (t : Nat) (rows : List (List Int)) (x : Nat) (acc : List Int), t ≤ rows.length → addM rows (2 ^ t * x) acc = addM (rows.drop t) x acc
  | 0, rows, x, acc, _ => by simp
  | t + 1, [], x, acc, h => by simp at h
  | t + 1, row :: rows, x, acc, h => by
    have h1 : 2 ^ (t + 1) * x % 2 = 0 := by rw [Nat.pow_succ, Nat.mul_comm (2 ^ t), Nat.mul_assoc]; omega
    have h2 : 2 ^ (t + 1) * x / 2 = 2 ^ t * x := by rw [Nat.pow_succ, Nat.mul_comm (2 ^ t), Nat.mul_assoc]; omega
    simp only [addM, h1, h2, List.drop_succ_cons]
    rw [if_neg (by omega)]
    exact addM_shift t rows x acc (by simp at h; omega)
/-- x & (x - 1): the lowest bit is gone. -/
theorem and_pred (k m : Nat) : (2 ^ k * (2 * m + 1)) &&& (2 ^ k * (2 * m + 1) - 1) = 2 ^ k * (2 * m) := by
  have hp : 0 < 2 ^ k := Nat.two_pow_pos k
  have e : 2 ^ k * (2 * m + 1) - 1 = 2 ^ k * (2 * m) + (2 ^ k - 1) := by rw [Nat.mul_add]; omega
  rw [e]
  apply Nat.eq_of_testBit_eq
  intro i
  rw [Nat.testBit_and, Nat.testBit_two_pow_mul_add (2 * m) (by omega : 2 ^ k - 1 < 2 ^ k) i]
  rw [Nat.mul_comm (2 ^ k) (2 * m + 1), Nat.testBit_mul_two_pow, Nat.mul_comm (2 ^ k) (2 * m), Nat.testBit_mul_two_pow]
  by_cases hik : k ≤ i
  · rw [if_neg (by omega)]
    simp only [hik, decide_true, Bool.true_and]
    rcases Nat.eq_zero_or_pos (i - k) with h0 | h0
    · rw [h0]; simp
    · obtain ⟨j, hj⟩ : ∃ j, i - k = j + 1 := ⟨i - k - 1, by omega⟩
      rw [hj, Nat.testBit_succ, Nat.testBit_succ]
      have d1 : (2 * m + 1) / 2 = m := by omega
      have d2 : 2 * m / 2 = m := by omega
      rw [d1, d2, Bool.and_self]
  · simp [hik]
/-- The lowest bit's row, and the others. -/
theorem addM_low (rows : List (List Int)) (m : Nat) (acc : List Int) (h0 : m ≠ 0) (h32 : m < 4294967296) (hm : m < 2 ^ rows.length) :
    ∃ h : Lib.ctz 32 m < rows.length, addM rows m acc = addM rows (m &&& (m - 1)) (addRow acc (rows[Lib.ctz 32 m]'h)) ∧ (m &&& (m - 1)) < m := by
  have hc : Lib.ctz 32 m = Lib.ctzFrom 32 m := by unfold Lib.ctz; rw [if_neg h0]
  obtain ⟨q, hq, _⟩ := Lib.ctzFrom_spec 32 m (by omega) (by omega)
  rw [hc]
  obtain ⟨t, ht⟩ : ∃ t, t = Lib.ctzFrom 32 m := ⟨_, rfl⟩
  rw [← ht] at hq ⊢
  have hp : 0 < 2 ^ t := Nat.two_pow_pos t
  have hlt : t < rows.length := by
    apply Nat.lt_of_not_le
    intro hle
    have : 2 ^ rows.length ≤ 2 ^ t := Nat.pow_le_pow_right (by decide) hle
    have h1 : 2 ^ t ≤ 2 ^ t * (2 * q + 1) := Nat.le_mul_of_pos_right _ (by omega)
    omega
  refine ⟨hlt, ?_, ?_⟩
  · have e : m &&& (m - 1) = 2 ^ t * (2 * q) := by rw [hq]; exact and_pred t q
    rw [e, hq, addM_shift t rows (2 * q + 1) acc (by omega), addM_shift t rows (2 * q) _ (by omega), List.drop_eq_getElem_cons hlt]
    simp only [addM]
    have d1 : (2 * q + 1) / 2 = q := by omega
    have d2 : 2 * q / 2 = q := by omega
    rw [d1, d2, if_pos (by omega), if_neg (by omega)]
  · have e : m &&& (m - 1) = 2 ^ t * (2 * q) := by rw [hq]; exact and_pred t q
    rw [e, hq, Nat.mul_add, Nat.mul_one]; omega
theorem u32_and1 (x : Nat) (h1 : x < 4294967296) : Go.bits .and .u32 (x : Int) 1 = ((x % 2 : Nat) : Int) := by
  have h := bits_and_u32_nat x 1 h1 (by decide)
  rw [show ((1 : Nat) : Int) = 1 from rfl] at h
  rw [h, Nat.and_one_is_mod]
theorem shr_nat (m i : Nat) (hi : i ≤ 32) : shr .u32 (m : Int) (i : Int) = ((m / 2 ^ i : Nat) : Int) := by
  unfold shr
  rw [Int.toNat_natCast, Nat.min_eq_left (show i ≤ IntKind.u32.bits by simpa [IntKind.bits] using hi)]
  simp

theorem add_l1 (rows : List (List Int)) (n : Nat) (mask : Int) (hn : n ≤ 10) (hr16 : rows.length ≤ 16) (i : Nat) (hi : i < rows.length) (hrow : rows[i].length = n) (acc : List Int) (hacc : acc.length = n) (r : List Int)
    (hnx : Ev (fun k => amalgamref10_add.l0 k rows (n : Int) mask (addRow acc rows[i]) ((i + 1 : Nat) : Int)) r) :
    ∀ d j : Nat, j + d = n → Ev (fun k => amalgamref10_add.l1 k rows (n : Int) mask (upTo j (addRow acc rows[i]) acc) (i : Int) (j : Int)) r := by
  have hl := addRow_length hacc hrow
  intro d
  induction d with
  | zero =>
    intro j hj
    rw [upTo_all j _ _ (by omega) (by omega)]
    refine Ev.round hnx fun k => ?_
    simp only [amalgamref10_add.l1]
    rw [if_neg (by omega), wrap_nat (by omega)]
  | succ d ih =>
    intro j hj
    have h1 : j < rows[i].length := by omega
    have h2 : j < acc.length := by omega
    refine Ev.round (ih (j + 1) (by omega)) fun k => ?_
    simp only [amalgamref10_add.l1]
    have hu := upTo_length j (addRow acc rows[i]) acc (by omega)
    rw [if_pos (by omega), if_pos (by omega), if_pos (by omega), if_pos (by omega), if_pos (by omega), rdL_lt hi, if_pos (by omega), wrap_nat (by omega), rd_lt h1, Int.toNat_natCast]
    have hg : rd (upTo j (addRow acc rows[i]) acc) (j : Int) = acc[j] := rd_get? (by rw [upTo_get j _ _ h2 (by omega)]; exact List.getElem?_eq_getElem h2)
    rw [hg, ← upTo_set j (addRow acc rows[i]) acc h2 (by omega)]
    simp [addRow]
theorem add_l0 (rows : List (List Int)) (n m : Nat) (hn : n ≤ 10) (hr16 : rows.length ≤ 16) (hm : m < 4294967296) (hrow : ∀ (i : Nat) (h : i < rows.length), rows[i].length = n) :
    ∀ d i : Nat, ∀ acc : List Int, acc.length = n → i + d = rows.length → Ev (fun k => amalgamref10_add.l0 k rows (n : Int) (m : Int) acc (i : Int)) (addM (rows.drop i) (m / 2 ^ i) acc) := by
  intro d
  induction d with
  | zero =>
    intro i acc hacc hi
    rw [List.drop_eq_nil_of_le (by omega)]
    refine Ev.round (Ev.now _) fun k => ?_
    simp only [amalgamref10_add.l0, addM]
    rw [if_neg (by omega)]
  | succ d ih =>
    intro i acc hacc hi
    have h1 : i < rows.length := by omega
    have hb : Go.bits .and .u32 (shr .u32 (m : Int) (i : Int)) 1 = ((m / 2 ^ i % 2 : Nat) : Int) := by
      rw [shr_nat m i (by omega), u32_and1 _ (Nat.lt_of_le_of_lt (Nat.div_le_self _ _) hm)]
    have hd : m / 2 ^ i / 2 = m / 2 ^ (i + 1) := by rw [Nat.div_div_eq_div_mul, Nat.pow_succ]
    rw [List.drop_eq_getElem_cons h1]
    simp only [addM, hd]
    by_cases hbit : m / 2 ^ i % 2 = 1
    · rw [if_pos hbit]
      have h2 := add_l1 rows n (m : Int) hn hr16 i h1 (hrow i h1) acc hacc _ (ih (i + 1) (addRow acc rows[i]) (addRow_length hacc (hrow i h1)) (by omega)) n 0 (by omega)
      rw [upTo_zero] at h2
      refine Ev.round h2 fun k => ?_
      simp only [amalgamref10_add.l0]
      rw [if_pos (by omega), if_pos (by omega), hb, if_pos (by omega)]; rfl
    · rw [if_neg hbit]
      refine Ev.round (ih (i + 1) acc hacc (by omega)) fun k => ?_
      simp only [amalgamref10_add.l0]
      rw [if_pos (by omega), if_pos (by omega), hb, if_neg (by omega), wrap_nat (by omega)]
theorem add_ev (rows : List (List Int)) (n m : Nat) (hn : n ≤ 10) (hr16 : rows.length ≤ 16) (hm : m < 4294967296) (hrow : ∀ (i : Nat) (h : i < rows.length), rows[i].length = n) :
    Ev (fun k => amalgamref10_add.f k rows (n : Int) (m : Int)) (addM rows m (List.replicate n 0)) := by
  have h := add_l0 rows n m hn hr16 hm hrow rows.length 0 (List.replicate n 0) (by simp) (by omega)
  refine Ev.cast (Ev.congr (fun k => ?_) h) (by simp)
  unfold amalgamref10_add.f
  rw [if_pos (by omega), if_pos (by rw [Int.toNat_natCast]; omega), Int.toNat_natCast]; rfl
/-- What a right Check says. -/
theorem chk_zero {rows : List (List Int)} {want : List Int} (h : chk rows want = 0) : rows.length ≤ 16 ∧ want.length ≤ 10 ∧ (∀ w ∈ want, 0 ≤ w ∧ w ≤ 2) ∧ ∀ row ∈ rows, row.length = want.length ∧ ∀ n ∈ row, 0 ≤ n ∧ n ≤ 1048576 := by
  unfold chk at h
  split at h
  · simp at h
  rename_i h1
  split at h
  · simp at h
  rename_i h2
  split at h
  · simp at h
  rename_i h3
  split at h
  · simp at h
  rename_i h4
  refine ⟨by omega, by omega, fun w hw => ?_, fun row hrow => ?_⟩
  · have := List.any_eq_false.1 (by simpa using h3) w hw
    simp [badW] at this
    omega
  · have := List.any_eq_false.1 (by simpa using h4) row hrow
    simp only [badR, Bool.or_eq_true, decide_eq_true_eq, not_or] at this
    refine ⟨by omega, fun n hn => ?_⟩
    have h5 := List.any_eq_false.1 (by simpa using this.2) n hn
    simp [badN] at h5
    omega
end Go.Proofs.YtbdlihldmmbdmaaDoor.PickSpec
