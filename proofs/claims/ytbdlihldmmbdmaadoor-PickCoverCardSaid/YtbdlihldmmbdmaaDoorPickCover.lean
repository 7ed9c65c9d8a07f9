/- PickCover, told on lists: its answer is yes. -/
import Derived.Test.YtbdlihldmmbdmaaDoorPickMeets
import Derived.Test.YtbdlihldmmbdmaaDoorSK5
namespace Go.Proofs.YtbdlihldmmbdmaaDoor.PickCover
set_option linter.unusedSectionVars false
open Go.RowKit Go.Proofs.YtbdlihldmmbdmaaDoor.SK Go.Proofs.YtbdlihldmmbdmaaDoorW.PrintWords Go.Proofs.YtbdlihldmmbdmaaDoorW.PrintMore Go.Proofs.YtbdlihldmmbdmaaDoor.Plain Go.Proofs.YtbdlihldmmbdmaaDoor.PickSpec
set_option linter.unusedVariables false

theorem pick_list_ev (rows : List (List Int)) (want : List Int) (most : Int) : Ev (fun k => pick_List.f k rows want most) (listS rows want most) := by
  unfold pick_List.f
  exact Ev.cast (Ev.then (list_ev rows want most) (Ev.now _)) rfl
theorem lives_ev : Ev (fun k => amalgamlaw10_lives.f k) true := by
  unfold amalgamlaw10_lives.f
  have h : listS [[1], [2]] [1] 9 = ([1, 2, 3], 0) := by decide +kernel
  exact Ev.cast (Ev.then (Ev.cast (pick_list_ev [[1], [2]] [1] 9) h) (Ev.now _)) (by decide)

/-- One column of a mask's sum. -/
def metS : List (List Int) → Nat → Nat → Int → Int
  | [], _, _, s => s
  | row :: rows, m, c, s => metS rows (m / 2) c (if m % 2 = 1 then wrap64 (s + rd row (c : Int)) else s)
theorem addM_get : ∀ (rows : List (List Int)) (m n c : Nat) (acc : List Int) (hr : ∀ row ∈ rows, row.length = n) (ha : acc.length = n) (hc : c < n),
    (addM rows m acc)[c]? = some (metS rows m c (rd acc (c : Int)))
  | [], _, n, c, acc, _, ha, hc => by
    simp only [addM, metS]
    rw [rd_lt (by omega)]
    exact List.getElem?_eq_getElem (by omega)
  | row :: rows, m, n, c, acc, hr, ha, hc => by
    simp only [addM, metS]
    have hrow := hr row List.mem_cons_self
    rw [addM_get rows (m / 2) n c _ (fun r h => hr r (List.mem_cons_of_mem _ h)) (by split; exact addRow_length ha hrow; exact ha) hc]
    congr 2
    split
    · rw [rd_lt (by rw [addRow_length ha hrow]; exact hc), rd_lt (by omega : c < acc.length), rd_lt (by omega : c < row.length)]
      simp [addRow]
    · rfl
/-- The wants of just one each. -/
def covers (rows : List (List Int)) (n m : Nat) : Bool := (List.range n).all fun c => metS rows m c 0 == 1
theorem fitsM_covers (rows : List (List Int)) (n m : Nat) (hr : ∀ row ∈ rows, row.length = n) : fitsM rows (List.replicate n 2) m = covers rows n m := by
  unfold fitsM fitsB covers
  rw [List.length_replicate]
  rw [Bool.eq_iff_iff, List.all_eq_true, List.all_eq_true]
  have hl := addM_length rows m n (List.replicate n 0) hr (by simp)
  constructor
  · intro h c hc
    have hc := List.mem_range.1 hc
    have h1 := h _ (List.getElem_mem (l := List.zipWith fitB (addM rows m (List.replicate n 0)) (List.replicate n 2)) (n := c) (by simp; omega))
    rw [zip_get (by omega) (by simp; exact hc)] at h1
    have h2 := addM_get rows m n c (List.replicate n 0) hr (by simp) hc
    rw [List.getElem?_eq_getElem (by omega)] at h2
    rw [Option.some.inj h2, rd_lt (by simp; exact hc)] at h1
    simpa [fitB] using h1
  · intro h b hb
    obtain ⟨c, hc, rfl⟩ := List.getElem_of_mem hb
    have hc' : c < n := by simp at hc; omega
    rw [zip_get (by omega) (by simp; exact hc')]
    have h2 := addM_get rows m n c (List.replicate n 0) hr (by simp) hc'
    rw [List.getElem?_eq_getElem (by omega)] at h2
    rw [Option.some.inj h2, rd_lt (by simp; exact hc')]
    have := h c (List.mem_range.2 hc')
    simpa [fitB] using this

theorem mem_masksFrom {rows : List (List Int)} {want : List Int} {m d x : Nat} (h : x ∈ masksFrom rows want m d) : m ≤ x := by
  unfold masksFrom at h
  have := (List.mem_filter.1 h).1
  simp [List.mem_range'_1] at this
  omega
theorem i64_and1 (x : Int) : 0 ≤ Go.bits .and .i64 x 1 ∧ Go.bits .and .i64 x 1 ≤ 1 := by
  have h2 : (BitVec.ofInt 64 (1 : Int)).toNat = 1 := rfl
  have h : Go.bits .and .i64 x 1 = IntKind.i64.wrap (((BitVec.ofInt 64 x).toNat % 2 : Nat) : Int) := by
    show IntKind.i64.wrap ((BitVec.ofInt 64 x &&& BitVec.ofInt 64 1).toNat : Int) = _
    rw [BitVec.toNat_and, h2, Nat.and_one_is_mod]
  rw [h]
  rcases Nat.mod_two_eq_zero_or_one (BitVec.ofInt 64 x).toNat with e | e <;> rw [e] <;> decide
/-- The rows of its own: as many columns, noughts and ones. -/
def Own (n : Nat) (own : List (List Int)) : Prop := ∀ row ∈ own, row.length = n ∧ ∀ x ∈ row, 0 ≤ x ∧ x ≤ 1

section
variable (n : Nat) (hn : n ≤ 10) (own : List (List Int)) (h8 : own.length ≤ 8) (ho : Own n own) (L : List Int) (hL : L.length ≤ 65536)
include hn h8 ho hL

theorem cover_l5 (at_ m c : Nat) (b : Bool) (hc : c < n) (hm : m < 4294967296) (r : Bool) (nx : ∀ s : Int, s = metS own m c 0 → Ev (fun k => amalgamlaw10_PickCover.l4 k n own L at_ m (b && s == 1) ((c + 1 : Nat) : Int)) r) :
    ∀ d i : Nat, ∀ s : Int, i + d = own.length → metS (own.drop i) (m / 2 ^ i) c s = metS own m c 0 → Ev (fun k => amalgamlaw10_PickCover.l5 k n own L at_ m b c s i) r := by
  intro d
  induction d with
  | zero =>
    intro i s hi hs
    rw [List.drop_eq_nil_of_le (by omega)] at hs
    simp only [metS] at hs
    refine Ev.round (nx s hs) fun k => ?_
    simp only [amalgamlaw10_PickCover.l5]
    rw [if_neg (by omega), wrap_nat (by omega)]
    cases b <;> simp
  | succ d ih =>
    intro i s hi hs
    have h1 : i < own.length := by omega
    have hrow := (ho _ (List.getElem_mem h1)).1
    rw [List.drop_eq_getElem_cons h1] at hs
    simp only [metS] at hs
    rw [Nat.div_div_eq_div_mul, ← Nat.pow_succ] at hs
    have hlt : m / 2 ^ i < 4294967296 := Nat.lt_of_le_of_lt (Nat.div_le_self _ _) hm
    by_cases hb : m / 2 ^ i % 2 = 1
    · rw [if_pos hb] at hs
      refine Ev.round (ih (i + 1) _ (by omega) hs) fun k => ?_
      simp only [amalgamlaw10_PickCover.l5]
      rw [if_pos (by omega), if_pos (by omega), shr_nat _ _ (by omega), u32_and1 _ hlt, if_pos (by omega), if_pos (by omega), rdL_lt h1, if_pos (by omega), wrap_nat (by omega)]
    · rw [if_neg hb] at hs
      refine Ev.round (ih (i + 1) _ (by omega) hs) fun k => ?_
      simp only [amalgamlaw10_PickCover.l5]
      rw [if_pos (by omega), if_pos (by omega), shr_nat _ _ (by omega), u32_and1 _ hlt, if_neg (by omega), wrap_nat (by omega)]

theorem cover_l4 (at_ m : Nat) (hm : m < 4294967296) (r : Bool) (nx : Ev (fun k => if (at_ : Int) < (L.length : Int) then amalgamlaw10_PickCover.j9 k n own L at_ m (covers own n m) (rd L at_ == (m : Int)) else amalgamlaw10_PickCover.j9 k n own L at_ m (covers own n m) false) r) :
    ∀ d c : Nat, ∀ b : Bool, c + d = n → (b && ((List.range n).drop c).all fun c => metS own m c 0 == 1) = covers own n m → Ev (fun k => amalgamlaw10_PickCover.l4 k n own L at_ m b c) r := by
  intro d
  induction d with
  | zero =>
    intro c b hc hb
    rw [List.drop_eq_nil_of_le (by simp; omega), List.all_nil, Bool.and_true] at hb
    subst hb
    refine Ev.round nx fun k => ?_
    simp only [amalgamlaw10_PickCover.l4]
    rw [if_neg (by omega)]
    simp only [show (0 : Int) ≤ (at_ : Int) by omega, if_true]
  | succ d ih =>
    intro c b hc hb
    rw [List.drop_eq_getElem_cons (by simp; omega), List.all_cons, List.getElem_range, ← Bool.and_assoc] at hb
    refine Ev.round (cover_l5 n hn own h8 ho L hL at_ m c b (by omega) hm r (fun s hs => ih (c + 1) _ (by omega) (by rw [hs]; exact hb)) own.length 0 0 (by omega) (by simp)) fun k => ?_
    simp only [amalgamlaw10_PickCover.l4]
    rw [if_pos (by omega)]; rfl

theorem cover_l3 (hLm : L = masks own (List.replicate n 2)) :
    ∀ d m : Nat, ∀ pre : List Int, m + d = 2 ^ own.length → L = pre ++ (masksFrom own (List.replicate n 2) m d).map (fun m : Nat => (m : Int)) → Ev (fun k => amalgamlaw10_PickCover.l3 k n own L pre.length m) true := by
  have hp : 2 ^ own.length ≤ 256 := Nat.le_trans (Nat.pow_le_pow_right (by decide) h8) (by decide)
  intro d
  induction d with
  | zero =>
    intro m pre hm hpre
    simp only [masksFrom, List.range'_zero, List.filter_nil, List.map_nil, List.append_nil] at hpre
    refine Ev.round (Ev.now _) fun k => ?_
    simp only [amalgamlaw10_PickCover.l3]
    rw [shl_one (by omega), if_neg (by omega), ← hpre]
    simp
  | succ d ih =>
    intro m pre hm hpre
    have hfit := fitsM_covers own n m (fun row h => (ho row h).1)
    rw [masksFrom_succ, hfit] at hpre
    refine Ev.round (cover_l4 n hn own h8 ho L hL pre.length m (by omega) true ?_ n 0 true (by omega) (by simp [covers])) fun k => ?_
    · have hm1 : ((m : Int) + 1) % 4294967296 = ((m + 1 : Nat) : Int) := by omega
      cases hcv : covers own n m with
      | true =>
        rw [hcv, if_pos rfl, List.map_cons] at hpre
        have hlt : pre.length < L.length := by rw [hpre]; simp
        have hat : rd L (pre.length : Int) = (m : Int) := rd_get? (by rw [hpre]; simp)
        refine Ev.congr (fun k => by rw [if_pos (by omega), hat]) (Ev.round (ih (m + 1) (pre ++ [(m : Int)]) (by omega) (by rw [hpre]; simp)) fun k => ?_)
        simp only [amalgamlaw10_PickCover.j9, beq_self_eq_true]
        rw [if_pos trivial, if_neg (by simp), hm1, wrap_nat (by omega)]
        simp
      | false =>
        rw [hcv, if_neg (by simp)] at hpre
        have hno : Ev (fun k => amalgamlaw10_PickCover.j9 k n own L pre.length m false false) true := by
          refine Ev.round (ih (m + 1) pre (by omega) hpre) fun k => ?_
          simp only [amalgamlaw10_PickCover.j9]
          rw [if_neg (by simp), if_neg (by simp), hm1]
        by_cases hlt : pre.length < L.length
        · refine Ev.congr (fun k => by rw [if_pos (by omega)]) ?_
          have hne : (rd L (pre.length : Int) == (m : Int)) = false := by
            rw [rd_lt hlt]
            simp only [beq_eq_false_iff_ne, ne_eq]
            intro e
            have h1 : L[pre.length]? = some (m : Int) := by rw [List.getElem?_eq_getElem hlt, e]
            rw [hpre, List.getElem?_append_right (Nat.le_refl _), Nat.sub_self] at h1
            have h2 := List.mem_of_getElem? h1
            obtain ⟨x, hx, hxe⟩ := List.mem_map.1 h2
            have := mem_masksFrom hx
            omega
          rw [hne]
          exact hno
        · exact Ev.congr (fun k => by rw [if_neg (by omega)]) hno
    · simp only [amalgamlaw10_PickCover.l3]
      rw [shl_one (by omega), if_pos (by omega)]; rfl
end

theorem chk_own (n : Nat) (hn : n ≤ 10) (own : List (List Int)) (h8 : own.length ≤ 8) (ho : Own n own) : chk own (List.replicate n 2) = 0 := by
  unfold chk
  rw [if_neg (by omega), if_neg (by simp; omega), if_neg, if_neg]
  · simp only [List.any_eq_true, not_exists, not_and, Bool.not_eq_true]
    intro row hrow
    obtain ⟨h1, h2⟩ := ho row hrow
    simp only [badR, h1, List.length_replicate, ne_eq, not_true, decide_false, Bool.false_or, List.any_eq_false, badN, Bool.or_eq_true, decide_eq_true_eq]
    intro x hx
    have := h2 x hx
    omega
  · simp only [List.any_eq_true, not_exists, not_and, Bool.not_eq_true]
    intro x hx
    rw [List.eq_of_mem_replicate hx]; rfl
theorem cover_l2 (n : Nat) (hn : n ≤ 10) (own : List (List Int)) (h8 : own.length ≤ 8) (ho : Own n own) :
    ∀ d j : Nat, j + d = n → Ev (fun k => amalgamlaw10_PickCover.l2 k true n (upTo j (List.replicate n 2) (List.replicate n 0)) own j) true := by
  intro d
  induction d with
  | zero =>
    intro j hj
    rw [upTo_all j _ _ (by simp; omega) (by simp; omega)]
    have hc := chk_own n hn own h8 ho
    have hml := masksN_length own (List.replicate n 2) (by omega)
    have hs : listS own (List.replicate n 2) 65536 = (masks own (List.replicate n 2), 0) := by
      unfold listS
      rw [if_pos hc, if_neg (by omega), if_neg (by unfold masks; rw [List.length_map]; omega)]
    refine Ev.round (f := fun k => (pick_List.f k own (List.replicate n 2) 65536).bind fun bt => amalgamlaw10_PickCover.j5 k n own bt.1 (bt.2 != 0)) (Ev.then (f := fun k bt => amalgamlaw10_PickCover.j5 k n own bt.1 (bt.2 != 0)) (Ev.cast (pick_list_ev own (List.replicate n 2) 65536) hs) (Ev.round (cover_l3 n hn own h8 ho (masks own (List.replicate n 2)) (by unfold masks; rw [List.length_map]; omega) rfl (2 ^ own.length) 0 [] (by omega) (by simp [masks, masksN])) fun k => ?_)) fun k => ?_
    · simp only [amalgamlaw10_PickCover.j5]
      rw [if_neg (by decide)]; rfl
    · simp only [amalgamlaw10_PickCover.l2]
      rw [if_neg (by omega)]
      simp
  | succ d ih =>
    intro j hj
    refine Ev.round (ih (j + 1) (by omega)) fun k => ?_
    simp only [amalgamlaw10_PickCover.l2]
    have hu := upTo_length j (List.replicate n (2 : Int)) (List.replicate n 0) (by simp)
    rw [List.length_replicate] at hu
    rw [if_pos (by omega), if_pos (by omega), if_pos (by omega), wrap_nat (by omega), Int.toNat_natCast, ← upTo_set j (List.replicate n (2 : Int)) (List.replicate n 0) (by simp; omega) (by simp)]
    simp
theorem cover_l1 (rows : List (List Int)) (n : Nat) (hn : n ≤ 10) (own : List (List Int)) (h8 : own.length < 8) (w0 : List Int) (i : Nat) (hi : i < rows.length) (hi8 : i < 8) (ho : Own n own)
    (nx : ∀ row : List Int, row.length = n → (∀ x ∈ row, 0 ≤ x ∧ x ≤ 1) → Ev (fun k => amalgamlaw10_PickCover.l0 k rows true n w0 (own ++ [row]) ((i + 1 : Nat) : Int)) true) :
    ∀ d j : Nat, ∀ x : List Int, j + d = n → x.length = n → (∀ y ∈ x, 0 ≤ y ∧ y ≤ 1) → Ev (fun k => amalgamlaw10_PickCover.l1 k rows true n w0 own i x j) true := by
  intro d
  induction d with
  | zero =>
    intro j x hj hl hx
    refine Ev.round (nx x hl hx) fun k => ?_
    simp only [amalgamlaw10_PickCover.l1]
    rw [if_neg (by omega), if_pos (by omega), wrap_nat (by omega)]
  | succ d ih =>
    intro j x hj hl hx
    by_cases hr : j < rows[i].length
    · refine Ev.round (ih (j + 1) (x.set j (Go.bits .and .i64 rows[i][j] 1)) (by omega) (by simp [hl]) (fun y hy => ?_)) fun k => ?_
      · rcases List.mem_or_eq_of_mem_set hy with hy | hy
        · exact hx y hy
        · rw [hy]; exact i64_and1 _
      · simp only [amalgamlaw10_PickCover.l1]
        rw [if_pos (by omega), if_pos (by omega), if_pos (by omega), rdL_lt hi, if_pos (by omega), if_pos (by omega), if_pos (by omega), rd_lt hr, wrap_nat (by omega), Int.toNat_natCast]
    · refine Ev.round (nx x hl hx) fun k => ?_
      simp only [amalgamlaw10_PickCover.l1]
      rw [if_pos (by omega), if_pos (by omega), if_pos (by omega), rdL_lt hi, if_neg (by omega), if_pos (by omega), wrap_nat (by omega)]
theorem cover_l0 (rows : List (List Int)) (n : Nat) (hn : n ≤ 10) :
    ∀ d i : Nat, ∀ own : List (List Int), i + d = 8 → own.length = i → Own n own → Ev (fun k => amalgamlaw10_PickCover.l0 k rows true n (List.replicate n 0) own i) true := by
  intro d
  induction d with
  | zero =>
    intro i own hi hl ho
    have h2 := cover_l2 n hn own (by omega) ho n 0 (by omega)
    rw [upTo_zero] at h2
    refine Ev.round (f := fun k => amalgamlaw10_PickCover.j2 k rows true n (List.replicate n 0) own i false) (Ev.round h2 fun k => ?_) fun k => ?_
    · simp only [amalgamlaw10_PickCover.j2]
      rw [if_neg (by simp)]; rfl
    · simp only [amalgamlaw10_PickCover.l0]
      split
      · rw [decide_eq_false (by omega)]
      · rfl
  | succ d ih =>
    intro i own hi hl ho
    by_cases hr : i < rows.length
    · refine Ev.round (f := fun k => amalgamlaw10_PickCover.j2 k rows true n (List.replicate n 0) own i true) (Ev.round (cover_l1 rows n hn own (by omega) (List.replicate n 0) i hr (by omega) ho (fun row h1 h2 => ih (i + 1) (own ++ [row]) (by omega) (by simp; omega) (fun r hr' => ?_)) n 0 (List.replicate n 0) (by omega) (by simp) (fun y hy => ?_)) fun k => ?_) fun k => ?_
      · rcases List.mem_append.1 hr' with h | h
        · exact ho r h
        · rw [List.mem_singleton.1 h]; exact ⟨h1, h2⟩
      · rw [List.eq_of_mem_replicate hy]; decide
      · simp only [amalgamlaw10_PickCover.j2]
        rw [if_pos trivial, if_pos (by omega), if_pos (by omega), Int.toNat_natCast]; rfl
      · simp only [amalgamlaw10_PickCover.l0]
        rw [if_pos (by omega), decide_eq_true (by omega)]
    · have h2 := cover_l2 n hn own (by omega) ho n 0 (by omega)
      rw [upTo_zero] at h2
      refine Ev.round (f := fun k => amalgamlaw10_PickCover.j2 k rows true n (List.replicate n 0) own i false) (Ev.round h2 fun k => ?_) fun k => ?_
      · simp only [amalgamlaw10_PickCover.j2]
        rw [if_neg (by simp)]; rfl
      · simp only [amalgamlaw10_PickCover.l0]
        rw [if_neg (by omega)]
theorem cover_j0 (rows : List (List Int)) (n : Nat) (hn : n ≤ 10) : Ev (fun k => amalgamlaw10_PickCover.j0 k rows true n) true := by
  refine Ev.round (cover_l0 rows n hn 8 0 [] (by omega) rfl (fun row h => by cases h)) fun k => ?_
  simp only [amalgamlaw10_PickCover.j0]
  rw [if_pos (by omega), if_pos (by omega), Int.toNat_natCast]; rfl
theorem cover_ev (rows : List (List Int)) (columns : Int) : Ev (fun k => amalgamlaw10_PickCover.f k rows columns) true := by
  unfold amalgamlaw10_PickCover.f
  refine Ev.then (f := fun k t => if (Int.tmod columns 11) < 0 then (amalgamlaw10_PickCover.j0 k rows t (wrap64 (-(Int.tmod columns 11)))) else (amalgamlaw10_PickCover.j0 k rows t (Int.tmod columns 11))) lives_ev ?_
  have h1 : -11 < Int.tmod columns 11 ∧ Int.tmod columns 11 < 11 := by
    have h := Int.natAbs_tmod columns 11
    have h2 : (Int.tmod columns 11).natAbs < 11 := by rw [h]; exact Nat.mod_lt _ (by decide)
    omega
  by_cases h : Int.tmod columns 11 < 0
  · simp only [if_pos h]
    rw [wrap_id (by omega) (by omega)]
    obtain ⟨n, hn⟩ : ∃ n : Nat, -(Int.tmod columns 11) = (n : Int) := ⟨(-(Int.tmod columns 11)).toNat, by omega⟩
    rw [hn]
    exact cover_j0 rows n (by omega)
  · simp only [if_neg h]
    obtain ⟨n, hn⟩ : ∃ n : Nat, Int.tmod columns 11 = (n : Int) := ⟨(Int.tmod columns 11).toNat, by omega⟩
    rw [hn]
    exact cover_j0 rows n (by omega)
end Go.Proofs.YtbdlihldmmbdmaaDoor.PickCover
