/- The law PickLists holds, where what came in and the table hold together at most 1048576 values: the call answers true and all that came in reads as it did; the printed and hand-written texts that this takes. (part 2 of 3) -/
import Derived.Test.YtbdlihldmmbdmaaDoorMPickLists1
import Derived.Lib.BitFns
import Derived.Shelf.Small.Bits
import Derived.Ground.Names2Prog
import Derived.Test.YtbdlihldmmbdmaaDoorProg
import Derived.OneCell
import Derived.Deep.RegionHeld3
import Derived.Shelf.Abstract
import Derived.Shelf.RegionOpen
import Derived.OwnWalkIn
import Derived.TacticsInMore
import Derived.LoopNIn
import Derived.LoopIn
import Derived.Deep.LoopGhost
import Derived.Test.YtbdlihldmmbdmaaDoorWWords
import Derived.Maps.OwnIn
-- PRINTED by print.py (a twelfth state) out of the translation. Not trusted: Lean checks it.
namespace Go.Proofs.YtbdlihldmmbdmaaDoor.SK
open Go.RowKit Go.Proofs.YtbdlihldmmbdmaaDoorW.PrintWords Go.Proofs.YtbdlihldmmbdmaaDoorW.PrintLast Go.Proofs.YtbdlihldmmbdmaaDoorW.PrintMore
attribute [local go_sem] max2_int min2_int max_two min_two max_three min_three max_four min_four   -- for this text's walks alone
set_option linter.unusedVariables false
set_option linter.unusedSimpArgs false

/-! ### amalgamref10_Same: function 12 -/
def amalgamref10_Same.l0 : Nat → List Int → List Int → Int → Option (Bool)
  | 0, _, _, _ => none
  | k + 1, x0, x1, x5 => if x5 < (x0.length : Int) then (if 0 ≤ x5 then (if x5 < (x1.length : Int) then (if (rd x0 x5) = (rd x1 x5) then (amalgamref10_Same.l0 k x0 x1 (wrap64 (x5 + 1))) else (some false)) else (none)) else (none)) else (some true)
def amalgamref10_Same.f (k : Nat) (l0 : List Int) (l1 : List Int) : Option (Bool) := if (l0.length : Int) = (l1.length : Int) then (amalgamref10_Same.l0 k l0 l1 0) else (some false)
theorem amalgamref10_Same.mono_l : ∀ k, (∀ y0 y1 y2, LeO (amalgamref10_Same.l0 k y0 y1 y2) (amalgamref10_Same.l0 (k + 1) y0 y1 y2))
  | 0 => fun _ _ _ r h => by simp [amalgamref10_Same.l0] at h
  | k + 1 => by
    have ih0 := amalgamref10_Same.mono_l k
    · intro y0 y1 y2
      unfold amalgamref10_Same.l0
      repeat' first
      | (with_reducible exact ih0 _ _ _)
      | (with_reducible exact LeO.refl _)
      | (with_reducible exact LeO.none _)
      | (with_reducible refine LeO.ite ?_ ?_)
      | (with_reducible refine LeO.bind ?_ (fun _ => ?_))
      | exact ih0 _ _ _
      | exact LeO.none _
      | refine LeO.ite ?_ ?_
      | refine LeO.bind ?_ (fun _ => ?_)
theorem amalgamref10_Same.mono : ∀ a0 a1 k, LeO (amalgamref10_Same.f k a0 a1) (amalgamref10_Same.f (k + 1) a0 a1) := by
  intro a0 a1 k
  have ih0 := amalgamref10_Same.mono_l k
  unfold amalgamref10_Same.f
  repeat' first
      | (with_reducible exact ih0 _ _ _)
      | (with_reducible exact LeO.refl _)
      | (with_reducible exact LeO.none _)
      | (with_reducible refine LeO.ite ?_ ?_)
      | (with_reducible refine LeO.bind ?_ (fun _ => ?_))
      | exact ih0 _ _ _
      | exact LeO.none _
      | refine LeO.ite ?_ ?_
      | refine LeO.bind ?_ (fun _ => ?_)
set_option maxHeartbeats 8000000 in
set_option maxRecDepth 100000 in
theorem amalgamref10_Same.calls (k : Nat) (A0 : Option Addr) (c0 : Nat) (l0 : List Int) (A1 : Option Addr) (c1 : Nat) (l1 : List Int) (r : Bool) (w : World) (hr0 : Kd.C (Kd.int .u32) w A0 l0.length l0) (hc0 : l0.length ≤ c0) (hr1 : Kd.C (Kd.int .u32) w A1 l1.length l1) (hc1 : l1.length ≤ c1) (h : amalgamref10_Same.f k l0 l1 = some r) :
    Calls Tryd.prog 12 #[.slice A0 l0.length c0, .slice A1 l1.length c1] w fun e w' => e = .returned (.bool r) ∧ Drawn0 w w' := by
  have HR0 := Aside0.mk hr0
  have HC0 := Aside0.mk hc0
  clear hr0 hc0
  have HR1 := Aside0.mk hr1
  have HC1 := Aside0.mk hc1
  clear hr1 hc1
  have H : (if (l0.length : Int) = (l1.length : Int) then (amalgamref10_Same.l0 k l0 l1 0) else (some false)) = some r := h
  clear h
  by_cases c3 : (l0.length : Int) = (l1.length : Int)
  · rw [if_pos c3] at H
    have c3b0 : ((l0.length : Int) == (l1.length : Int)) = true := beq_iff_eq.mpr c3
    have c3b1 : ((l0.length : Int) != (l1.length : Int)) = false := bne_eq_false_iff_eq.mpr c3
    have c3b2 : (l0.length == l1.length) = true := by first | simpa using c3 | (simp at c3 ⊢; omega)
    clear c3
    have H' := Aside0.mk H
    clear H
    go_enter Tryd.func12, Tryd.ntmps12
    go_wp2
    repeat (go_quiet (fail); try go_wp2)
    go_loopg [5] k (fun kq v5 w' => ∃ (x5_1 : Int), v5 = .int .i64 x5_1 ∧ Aside0 (amalgamref10_Same.l0 kq l0 l1 x5_1 = some r) ∧ Aside0 (kq ≤ k) ∧ Drawn0 w w')
    case atStart => exact ⟨(0), (by first | rfl | (simp; done) | (simp [*]; done)), H', ⟨Nat.le_refl _⟩, by repeat (first | exact Drawn0.refl _ | apply Drawn0.step)⟩
    case round =>
      clear H'
      try clear c1
      try clear p2
      try clear c3
      try clear c3b0
      try clear c3b1
      try clear c3b2
      obtain ⟨x5_1, rfl, HA, HK1, ⟨m1, rfl⟩⟩ := hrel
      cases gk with
      | zero => exact absurd HA.out (by simp [amalgamref10_Same.l0])
      | succ k1 =>
        have H := HA.out
        clear HA
        simp only [amalgamref10_Same.l0] at H
        by_cases c4 : x5_1 < (l0.length : Int)
        · rw [if_pos c4] at H
          have c4b0 : decide (x5_1 < (l0.length : Int)) = true := decide_eq_true c4
          clear c4
          by_cases c5 : 0 ≤ x5_1
          · rw [if_pos c5] at H
            have c5b0 : decide (0 ≤ x5_1) = true := decide_eq_true c5
            clear c5
            by_cases c6 : x5_1 < (l1.length : Int)
            · rw [if_pos c6] at H
              have c6b0 : decide (x5_1 < (l1.length : Int)) = true := decide_eq_true c6
              clear c6
              by_cases c7 : (rd l0 x5_1) = (rd l1 x5_1)
              · rw [if_pos c7] at H
                have c7b0 : ((rd l0 x5_1) == (rd l1 x5_1)) = true := beq_iff_eq.mpr c7
                have c7b1 : ((rd l0 x5_1) != (rd l1 x5_1)) = false := bne_eq_false_iff_eq.mpr c7
                clear c7
                have H' := Aside0.mk H
                clear H
                have p179 : 0 ≤ (x5_1 : Int) := of_decide_eq_true (by first | (with_reducible assumption) | assumption)
                have q179 : x5_1 < (l0.length : Int) := of_decide_eq_true (by first | (with_reducible assumption) | assumption)
                obtain ⟨ad179, e179, hx179_0⟩ := Kd.at_int HR0.out x5_1 p179 q179
                cases e179
                replace p179 := eq_true p179
                replace q179 := eq_true q179
                have p180 : 0 ≤ (x5_1 : Int) := of_decide_eq_true (by first | (with_reducible assumption) | assumption)
                have q180 : x5_1 < (l1.length : Int) := of_decide_eq_true (by first | (with_reducible assumption) | assumption)
                obtain ⟨ad180, e180, hx180_0⟩ := Kd.at_int HR1.out x5_1 p180 q180
                cases e180
                replace p180 := eq_true p180
                replace q180 := eq_true q180
                go_wp2
                repeat (go_quiet (fail); try go_wp2)
                go_roundg k1
                case measure => have := HK1.out; omega
                case rel => exact ⟨(wrap64 (x5_1 + 1)), (by first | rfl | (simp; done) | (simp [*]; done)), H', ⟨by have := HK1.out; omega⟩, by repeat (first | exact Drawn0.refl _ | apply Drawn0.step)⟩
              · rw [if_neg c7] at H
                have c7b0 : ((rd l0 x5_1) == (rd l1 x5_1)) = false := beq_eq_false_iff_ne.mpr c7
                have c7b1 : ((rd l0 x5_1) != (rd l1 x5_1)) = true := bne_iff_ne.mpr c7
                obtain rfl := Option.some.inj H
                have p179 : 0 ≤ (x5_1 : Int) := of_decide_eq_true (by first | (with_reducible assumption) | assumption)
                have q179 : x5_1 < (l0.length : Int) := of_decide_eq_true (by first | (with_reducible assumption) | assumption)
                obtain ⟨ad179, e179, hx179_0⟩ := Kd.at_int HR0.out x5_1 p179 q179
                cases e179
                replace p179 := eq_true p179
                replace q179 := eq_true q179
                have p180 : 0 ≤ (x5_1 : Int) := of_decide_eq_true (by first | (with_reducible assumption) | assumption)
                have q180 : x5_1 < (l1.length : Int) := of_decide_eq_true (by first | (with_reducible assumption) | assumption)
                obtain ⟨ad180, e180, hx180_0⟩ := Kd.at_int HR1.out x5_1 p180 q180
                cases e180
                replace p180 := eq_true p180
                replace q180 := eq_true q180
                go_wp2
                repeat (go_quiet (fail); try go_wp2)
                go_ret
                exact ⟨by first | rfl | (simp; done) | (simp [*]; done), by repeat (first | exact Drawn0.refl _ | apply Drawn0.step)⟩
            · rw [if_neg c6] at H
              exact absurd H (by simp)
          · rw [if_neg c5] at H
            exact absurd H (by simp)
        · rw [if_neg c4] at H
          have c4b0 : decide (x5_1 < (l0.length : Int)) = false := decide_eq_false c4
          clear c4
          obtain rfl := Option.some.inj H
          go_wp2
          repeat (go_quiet (fail); try go_wp2)
          go_ret
          exact ⟨by first | rfl | (simp; done) | (simp [*]; done), by repeat (first | exact Drawn0.refl _ | apply Drawn0.step)⟩
  · rw [if_neg c3] at H
    have c3b0 : ((l0.length : Int) == (l1.length : Int)) = false := beq_eq_false_iff_ne.mpr c3
    have c3b1 : ((l0.length : Int) != (l1.length : Int)) = true := bne_iff_ne.mpr c3
    have c3b2 : (l0.length == l1.length) = false := by first | simpa using c3 | (simp at c3 ⊢; omega)
    obtain rfl := Option.some.inj H
    go_enter Tryd.func12, Tryd.ntmps12
    go_wp2
    repeat (go_quiet (fail); try go_wp2)
    go_ret
    exact ⟨by first | rfl | (simp; done) | (simp [*]; done), by repeat (first | exact Drawn0.refl _ | apply Drawn0.step)⟩

/-! ### amalgamlaw10_three: function 17 -/
def amalgamlaw10_three.f  : Option ((List (List Int))) := some (([(([1, 1, 0] : List Int)), (([0, 1, 1] : List Int)), (([1, 0, 2] : List Int))] : List (List Int)))
set_option maxHeartbeats 8000000 in
set_option maxRecDepth 100000 in
theorem amalgamlaw10_three.calls  (r : List (List Int)) (w : World) (h : amalgamlaw10_three.f  = some r) :
    Calls Tryd.prog 17 #[] w fun e w' => ∃ v0_ : Value, e = .returned (v0_) ∧ Kd.N (Kd.slice 3 (Kd.int .i64)) 23 w' w.heap.size (fun k_ => (w.heap.size ≤ k_)) v0_ r ∧ Below w.heap.size w w' := by
  have HB := Aside0.mk (Below.refl w.heap.size w)
  have H : (some (([(([1, 1, 0] : List Int)), (([0, 1, 1] : List Int)), (([1, 0, 2] : List Int))] : List (List Int)))) = some r := h
  clear h
  obtain ⟨y181, hy181⟩ : ∃ y_ : List Int, y_ = (([1, 1, 0] : List Int)) := ⟨_, rfl⟩
  replace H : (some (([y181, (([0, 1, 1] : List Int)), (([1, 0, 2] : List Int))] : List (List Int)))) = some r := by first | (rw [hy181]; with_reducible exact H) | (have H2_ := (Option.bind_some _ _).symm.trans H; rw [hy181]; with_reducible exact H2_) | (have H2_ := (Option.bind_some _ _).symm.trans H; with_reducible exact H2_) | with_reducible exact H | (rw [hy181]; exact H) | exact H
  have Ny181 := Aside0.mk hy181
  clear hy181
  obtain ⟨y184, hy184⟩ : ∃ y_ : List Int, y_ = (([0, 1, 1] : List Int)) := ⟨_, rfl⟩
  replace H : (some (([y181, y184, (([1, 0, 2] : List Int))] : List (List Int)))) = some r := by first | (rw [hy184]; with_reducible exact H) | (have H2_ := (Option.bind_some _ _).symm.trans H; rw [hy184]; with_reducible exact H2_) | (have H2_ := (Option.bind_some _ _).symm.trans H; with_reducible exact H2_) | with_reducible exact H | (rw [hy184]; exact H) | exact H
  have Ny184 := Aside0.mk hy184
  clear hy184
  obtain ⟨y187, hy187⟩ : ∃ y_ : List Int, y_ = (([1, 0, 2] : List Int)) := ⟨_, rfl⟩
  replace H : (some (([y181, y184, y187] : List (List Int)))) = some r := by first | (rw [hy187]; with_reducible exact H) | (have H2_ := (Option.bind_some _ _).symm.trans H; rw [hy187]; with_reducible exact H2_) | (have H2_ := (Option.bind_some _ _).symm.trans H; with_reducible exact H2_) | with_reducible exact H | (rw [hy187]; exact H) | exact H
  have Ny187 := Aside0.mk hy187
  clear hy187
  obtain ⟨y190, hy190⟩ : ∃ y_ : List (List Int), y_ = (([y181, y184, y187] : List (List Int))) := ⟨_, rfl⟩
  replace H : (some y190) = some r := by first | (rw [hy190]; with_reducible exact H) | (have H2_ := (Option.bind_some _ _).symm.trans H; rw [hy190]; with_reducible exact H2_) | (have H2_ := (Option.bind_some _ _).symm.trans H; with_reducible exact H2_) | with_reducible exact H | (rw [hy190]; exact H) | exact H
  have Ny190 := Aside0.mk hy190
  clear hy190
  obtain rfl := Option.some.inj H
  go_enter Tryd.func17, Tryd.ntmps17
  go_wp2_with (first | ((with_reducible refine gate_dst (N := 1) rfl ?_); refine Kd.R_lit (Kd.int .i64) _ 3 ?hg (N := 1) ?hd (xs := ([1, 1, 0] : List Int)) (inner := [.int .i64 1, .int .i64 1, .int .i64 0]) (ok := fun _ => True) (okp := fun _ => True) ?hr ?hp (fun _ hk => hk) trivial (Below.refl _ _) (Nat.le_refl _) (by simp) ?_; (case hd => rfl); (case hg => rfl); (case hr => first | (go_simp; done) | (go_simp; rfl)); (case hp => exact (Reps.one (show Kd.M (Kd.int .i64) _ _ _ 1 [.int .i64 1] from rfl) (Reps.one (show Kd.M (Kd.int .i64) _ _ _ 1 [.int .i64 1] from rfl) (Reps.one (show Kd.M (Kd.int .i64) _ _ _ 0 [.int .i64 0] from rfl) (Reps.none _ _))))); intro v182 w1 ho2 hb hg_ hnew_; clear hg_ hnew_; (first | rw [← Ny181.out] at ho2 | (simp only [Int.reduceToNat] at ho2; rw [← Ny181.out] at ho2)); have n0_ := Aside0.mk (Kd.R_lower (Kd.R_newM (M := fun k_ => (w.heap.size ≤ k_)) ho2 (below_size (by repeat (first | (with_reducible first | exact HB.out | apply below_alloc | apply pw_below_drewN | apply below_drew1) | exact HB.out))) (fun k_ h_ => h_)) (below_size (by repeat (first | (with_reducible first | exact HB.out | apply below_alloc | apply pw_below_drewN | apply below_drew1) | exact HB.out)))); have n1_ := Aside0.mk (below_step (by repeat (first | (with_reducible first | exact HB.out | apply below_alloc | apply pw_below_drewN | apply below_drew1) | exact HB.out)) hb); clear HB; have HO183 := n0_; have HB := n1_; clear n0_ n1_; clear hb ho2) | ((with_reducible refine gate_dst (N := 2) rfl ?_); refine Kd.R_lit (Kd.int .i64) _ 3 ?hg (N := 2) ?hd (xs := ([0, 1, 1] : List Int)) (inner := [.int .i64 0, .int .i64 1, .int .i64 1]) (ok := fun _ => True) (okp := fun _ => True) ?hr ?hp (fun _ hk => hk) trivial (Below.refl _ _) (Nat.le_refl _) (by simp) ?_; (case hd => rfl); (case hg => rfl); (case hr => first | (go_simp; done) | (go_simp; rfl)); (case hp => exact (Reps.one (show Kd.M (Kd.int .i64) _ _ _ 0 [.int .i64 0] from rfl) (Reps.one (show Kd.M (Kd.int .i64) _ _ _ 1 [.int .i64 1] from rfl) (Reps.one (show Kd.M (Kd.int .i64) _ _ _ 1 [.int .i64 1] from rfl) (Reps.none _ _))))); intro v185 w3 ho4 hb hg_ hnew_; clear hg_ hnew_; (first | rw [← Ny184.out] at ho4 | (simp only [Int.reduceToNat] at ho4; rw [← Ny184.out] at ho4)); have n0_ := Aside0.mk (Kd.R_elder' (by (with_reducible repeat (first | apply Kd.R_alloc | apply Kd.R_drewN | apply Kd.R_drew)); exact HO183.out) (Kd.R_base ho4) hb); have n1_ := Aside0.mk (Kd.R_lower (Kd.R_new' (Kd.R_newM (M := fun k_ => (w.heap.size ≤ k_)) ho4 (below_size (by repeat (first | (with_reducible first | exact HB.out | apply below_alloc | apply pw_below_drewN | apply below_drew1) | exact HB.out))) (fun k_ h_ => h_)) (Kd.R_lt (by (with_reducible repeat (first | apply Kd.R_alloc | apply Kd.R_drewN | apply Kd.R_drew)); exact HO183.out))) (below_size (by repeat (first | (with_reducible first | exact HB.out | apply below_alloc | apply pw_below_drewN | apply below_drew1) | exact HB.out)))); have n2_ := Aside0.mk (below_step (by repeat (first | (with_reducible first | exact HB.out | apply below_alloc | apply pw_below_drewN | apply below_drew1) | exact HB.out)) hb); clear HO183; clear HB; have HO183 := n0_; have HO186 := n1_; have HB := n2_; clear n0_ n1_ n2_; clear hb ho4) | ((with_reducible refine gate_dst (N := 3) rfl ?_); refine Kd.R_lit (Kd.int .i64) _ 3 ?hg (N := 3) ?hd (xs := ([1, 0, 2] : List Int)) (inner := [.int .i64 1, .int .i64 0, .int .i64 2]) (ok := fun _ => True) (okp := fun _ => True) ?hr ?hp (fun _ hk => hk) trivial (Below.refl _ _) (Nat.le_refl _) (by simp) ?_; (case hd => rfl); (case hg => rfl); (case hr => first | (go_simp; done) | (go_simp; rfl)); (case hp => exact (Reps.one (show Kd.M (Kd.int .i64) _ _ _ 1 [.int .i64 1] from rfl) (Reps.one (show Kd.M (Kd.int .i64) _ _ _ 0 [.int .i64 0] from rfl) (Reps.one (show Kd.M (Kd.int .i64) _ _ _ 2 [.int .i64 2] from rfl) (Reps.none _ _))))); intro v188 w5 ho6 hb hg_ hnew_; clear hg_ hnew_; (first | rw [← Ny187.out] at ho6 | (simp only [Int.reduceToNat] at ho6; rw [← Ny187.out] at ho6)); have n0_ := Aside0.mk (Kd.R_elder' (by (with_reducible repeat (first | apply Kd.R_alloc | apply Kd.R_drewN | apply Kd.R_drew)); exact HO183.out) (Kd.R_base ho6) hb); have n1_ := Aside0.mk (Kd.R_elder' (by (with_reducible repeat (first | apply Kd.R_alloc | apply Kd.R_drewN | apply Kd.R_drew)); exact HO186.out) (Kd.R_base ho6) hb); have n2_ := Aside0.mk (Kd.R_lower (Kd.R_new' (Kd.R_new' (Kd.R_newM (M := fun k_ => (w.heap.size ≤ k_)) ho6 (below_size (by repeat (first | (with_reducible first | exact HB.out | apply below_alloc | apply pw_below_drewN | apply below_drew1) | exact HB.out))) (fun k_ h_ => h_)) (Kd.R_lt (by (with_reducible repeat (first | apply Kd.R_alloc | apply Kd.R_drewN | apply Kd.R_drew)); exact HO183.out))) (Kd.R_lt (by (with_reducible repeat (first | apply Kd.R_alloc | apply Kd.R_drewN | apply Kd.R_drew)); exact HO186.out))) (below_size (by repeat (first | (with_reducible first | exact HB.out | apply below_alloc | apply pw_below_drewN | apply below_drew1) | exact HB.out)))); have n3_ := Aside0.mk (below_step (by repeat (first | (with_reducible first | exact HB.out | apply below_alloc | apply pw_below_drewN | apply below_drew1) | exact HB.out)) hb); clear HO183; clear HO186; clear HB; have HO183 := n0_; have HO186 := n1_; have HO189 := n2_; have HB := n3_; clear n0_ n1_ n2_ n3_; clear hb ho6; obtain ⟨Ao7, co7, eo7⟩ := Kd.R_slice HO183.out; subst eo7; obtain ⟨Ao8, co8, eo8⟩ := Kd.R_slice HO186.out; subst eo8; obtain ⟨Ao9, co9, eo9⟩ := Kd.R_slice HO189.out; subst eo9) | ((with_reducible refine gate_dst (N := 4) rfl ?_); refine Kd.N_lit (Kd.slice 3 (Kd.int .i64)) _ 23 ?hg (N' := 4) ?hd (xs := ([y181, y184, y187] : List (List Int))) (inner := [.slice Ao7 y181.length co7, .slice Ao8 y184.length co8, .slice Ao9 y187.length co9]) (ok := (fun k_ => (w.heap.size ≤ k_))) (okp := (fun k_ => (w.heap.size ≤ k_))) ?hr ?hp (fun _ hk => hk) ((show ∀ k_, w5.heap.size ≤ k_ → (fun k_ => (w.heap.size ≤ k_)) k_ from fun k_ hk => (Nat.le_trans (below_size (by repeat (first | (with_reducible first | exact HB.out | apply below_alloc | apply pw_below_drewN | apply below_drew1) | exact HB.out))) hk)) _ (Nat.le_refl _)) (Below.refl _ _) (Nat.le_refl _) (by simp) ?_; (case hd => rfl); (case hg => rfl); (case hr => first | (go_simp; done) | (go_simp; rfl)); (case hp => exact (Reps.one (show Kd.FK (Kd.slice 3 (Kd.int .i64)) _ _ y181 [.slice Ao7 y181.length co7] from (Kd.FK_slice_mk (Kd.R_reads' (Kd.R_mono (ok' := (fun k_ => (w.heap.size ≤ k_))) (HO183.out) (fun k_ hk => hk.1.1.1))).2.1 (Kd.R_F (Kd.R_mono (ok' := (fun k_ => (w.heap.size ≤ k_))) (HO183.out) (fun k_ hk => hk.1.1.1))))) (Reps.one (show Kd.FK (Kd.slice 3 (Kd.int .i64)) _ _ y184 [.slice Ao8 y184.length co8] from (Kd.FK_slice_mk (Kd.R_reads' (Kd.R_mono (ok' := (fun k_ => (w.heap.size ≤ k_))) (HO186.out) (fun k_ hk => hk.1.1.1))).2.1 (Kd.R_F (Kd.R_mono (ok' := (fun k_ => (w.heap.size ≤ k_))) (HO186.out) (fun k_ hk => hk.1.1.1))))) (Reps.one (show Kd.FK (Kd.slice 3 (Kd.int .i64)) _ _ y187 [.slice Ao9 y187.length co9] from (Kd.FK_slice_mk (Kd.R_reads' (Kd.R_mono (ok' := (fun k_ => (w.heap.size ≤ k_))) (HO189.out) (fun k_ hk => hk.1.1.1))).2.1 (Kd.R_F (Kd.R_mono (ok' := (fun k_ => (w.heap.size ≤ k_))) (HO189.out) (fun k_ hk => hk.1.1.1))))) (Reps.none _ _))))); intro v191 w10 ho11 hb hg_ hnew_; clear hg_ hnew_; (first | rw [← Ny190.out] at ho11 | (simp only [Int.reduceToNat] at ho11; rw [← Ny190.out] at ho11)); have n0_ := Aside0.mk (Kd.N_lower ho11 (below_size (by repeat (first | (with_reducible first | exact HB.out | apply below_alloc | apply pw_below_drewN | apply below_drew1) | exact HB.out)))); have n1_ := Aside0.mk (below_step (by repeat (first | (with_reducible first | exact HB.out | apply below_alloc | apply pw_below_drewN | apply below_drew1) | exact HB.out)) hb); clear HB; clear HO183; clear HO186; clear HO189; have HO192 := n0_; have HB := n1_; clear n0_ n1_; clear hb ho11))
  go_ret
  exact ⟨_, by first | rfl | (simp [errW_none, errW_some] <;> rfl) | (simp [*, errW_none, errW_some] <;> rfl), by (with_reducible repeat (first | apply Kd.N_alloc | apply Kd.N_drewN | apply Kd.N_drew)); exact HO192.out, by repeat (first | (with_reducible first | exact HB.out | apply below_alloc | apply pw_below_drewN | apply below_drew1) | exact HB.out)⟩

/-! ### amalgamref10_Sum: function 23 -/
def amalgamref10_Sum.f (k : Nat) (l0 : List (List Int)) (l1 : List Int) (a2 : Int) : Option (List Int × Int) := (amalgamref10_Check.f k l0 l1).bind fun t193 => (if t193 = 0 then (if (shr .u32 a2 (l0.length : Int)) = 0 then ((amalgamref10_add.f k l0 (l1.length : Int) a2).bind fun t194 => (some (t194, 0))) else (some (([] : List Int), 1))) else (some (([] : List Int), t193)))
theorem amalgamref10_Sum.mono : ∀ a0 a1 a2 k, LeO (amalgamref10_Sum.f k a0 a1 a2) (amalgamref10_Sum.f (k + 1) a0 a1 a2) := by
  intro a0 a1 a2 k
  unfold amalgamref10_Sum.f
  repeat' first
      | (with_reducible exact amalgamref10_Check.mono _ _ _)
      | (with_reducible exact amalgamref10_add.mono _ _ _ _)
      | (with_reducible exact LeO.refl _)
      | (with_reducible exact LeO.none _)
      | (with_reducible refine LeO.ite ?_ ?_)
      | (with_reducible refine LeO.bind ?_ (fun _ => ?_))
      | exact amalgamref10_Check.mono _ _ _
      | exact amalgamref10_add.mono _ _ _ _
      | exact LeO.none _
      | refine LeO.ite ?_ ?_
      | refine LeO.bind ?_ (fun _ => ?_)
set_option maxHeartbeats 8000000 in
set_option maxRecDepth 100000 in
theorem amalgamref10_Sum.calls (k : Nat) (A0 : Option Addr) (c0 : Nat) (l0 : List (List Int)) (A1 : Option Addr) (c1 : Nat) (l1 : List Int) (a2 : Int) (r1 : List Int) (r2 : Int) (w : World) (hr0 : Kd.C (Kd.slice 3 (Kd.int .i64)) w A0 l0.length l0) (hc0 : l0.length ≤ c0) (hr1 : Kd.C (Kd.int .i64) w A1 l1.length l1) (hc1 : l1.length ≤ c1) (h : amalgamref10_Sum.f k l0 l1 a2 = some (r1, r2)) :
    Calls Tryd.prog 23 #[.slice A0 l0.length c0, .slice A1 l1.length c1, .int .u32 a2] w fun e w' => ∃ v0_ : Value, e = .returned (.tuple #[v0_, .int .i64 r2]) ∧ Kd.R (Kd.int .i64) 3 w' w.heap.size (fun _ => True) v0_ r1 ∧ Below w.heap.size w w' := by
  have HR0 := Aside0.mk hr0
  have HC0 := Aside0.mk hc0
  clear hr0 hc0
  have HR1 := Aside0.mk hr1
  have HC1 := Aside0.mk hc1
  clear hr1 hc1
  have HB := Aside0.mk (Below.refl w.heap.size w)
  have H : ((amalgamref10_Check.f k l0 l1).bind fun t193 => (if t193 = 0 then (if (shr .u32 a2 (l0.length : Int)) = 0 then ((amalgamref10_add.f k l0 (l1.length : Int) a2).bind fun t194 => (some (t194, 0))) else (some (([] : List Int), 1))) else (some (([] : List Int), t193)))) = some (r1, r2) := h
  clear h
  replace H := Option.bind_eq_some_iff.mp H
  obtain ⟨t193, A40, H⟩ := H
  replace H : (if t193 = 0 then (if (shr .u32 a2 (l0.length : Int)) = 0 then ((amalgamref10_add.f k l0 (l1.length : Int) a2).bind fun t194 => (some (t194, 0))) else (some (([] : List Int), 1))) else (some (([] : List Int), t193))) = some (r1, r2) := H
  have A4 := Aside0.mk A40
  clear A40
  by_cases c5 : t193 = 0
  · rw [if_pos c5] at H
    have c5b0 : (t193 == 0) = true := beq_iff_eq.mpr c5
    have c5b1 : (t193 != 0) = false := bne_eq_false_iff_eq.mpr c5
    clear c5
    obtain ⟨ji6, hji6⟩ : ∃ j_ : Int, (shr .u32 a2 (l0.length : Int)) = j_ := ⟨_, rfl⟩
    replace H : (if (ji6) = 0 then ((amalgamref10_add.f k l0 (l1.length : Int) a2).bind fun t194 => (some (t194, 0))) else (some (([] : List Int), 1))) = some (r1, r2) := by first | (rw [hji6] at H; exact H) | (simp only [hji6] at H ⊢; exact H)
    (try rw [hji6] at A4)
    have hji6_ : (a2 / 2 ^ min (l0.length : Int).toNat 32) = ji6 := hji6
    have hji6z : (l0.length : Int) ≤ 32 → (a2 / 2 ^ (l0.length : Int).toNat) = ji6 := shr_small hji6
    have hji6p : (a2 / 2 ^ min l0.length 32) = ji6 := hji6_
    have hji6q : (l0.length : Int) ≤ 32 → (a2 / 2 ^ l0.length) = ji6 := hji6z
    by_cases c7 : (ji6) = 0
    · rw [if_pos c7] at H
      have c7b0 : ((ji6) == 0) = true := beq_iff_eq.mpr c7
      have c7b1 : ((ji6) != 0) = false := bne_eq_false_iff_eq.mpr c7
      clear c7
      replace H := Option.bind_eq_some_iff.mp H
      obtain ⟨t194, A80, H⟩ := H
      replace H : (some (t194, 0)) = some (r1, r2) := H
      have A8 := Aside0.mk A80
      clear A80
      simp only [Option.some.injEq, Prod.mk.injEq] at H
      obtain ⟨rfl, rfl⟩ := H
      go_enter Tryd.func23, Tryd.ntmps23
      go_wp2_with (first | ((with_reducible refine gate_callee (f := 22) rfl ?_); refine goesL_ (some 11) rfl rfl Tryd.func22 (by kernel_rfl) rfl #[.slice A0 l0.length c0, .slice A1 l1.length c1] rfl (by (try simp only [List.map_toArray, List.map_cons, List.map_nil]); first | done | rfl | (simp only [List.length_drop, List.length_take]; rfl)) ?_; (with_reducible refine (amalgamref10_Check.calls k _ _ l0 _ _ l1 t193 _ ?side1 ?side2 ?side3 ?side4 A4.out).mono ?_); (case side1 => repeat (first | exact HR0.out | (with_reducible refine Kd.C_alloc ?_ _) | (with_reducible refine Kd.C_drewN ?_ _) | (with_reducible refine Kd.C_drew ?_))); (case side2 => exact HC0.out); (case side3 => repeat (first | exact HR1.out | (with_reducible refine Kd.C_alloc ?_ _) | (with_reducible refine Kd.C_drewN ?_ _) | (with_reducible refine Kd.C_drew ?_))); (case side4 => exact HC1.out); rintro e w' ⟨rfl, ⟨nd, rfl⟩⟩; refine ⟨_, rfl, ?_⟩) | ((with_reducible refine gate_callee (f := 32) rfl ?_); refine goesL_ (some 24) rfl rfl Tryd.func32 (by kernel_rfl) rfl #[.slice A0 l0.length c0, .int .i64 (l1.length : Int), .int .u32 a2] rfl (by (try simp only [List.map_toArray, List.map_cons, List.map_nil]); first | done | rfl | (simp only [List.length_drop, List.length_take]; rfl)) ?_; (with_reducible refine (amalgamref10_add.calls k _ _ l0 (l1.length : Int) a2 t194 _ ?side1 ?side2 A8.out).mono ?_); (case side1 => repeat (first | exact HR0.out | (with_reducible refine Kd.C_alloc ?_ _) | (with_reducible refine Kd.C_drewN ?_ _) | (with_reducible refine Kd.C_drew ?_))); (case side2 => exact HC0.out); rintro e w9 ⟨v195, rfl, ho0, hb⟩; refine ⟨_, rfl, ?_⟩; have n0_ := Aside0.mk (Kd.R_lower ho0 (below_size (by repeat (first | (with_reducible first | exact HB.out | apply below_alloc | apply pw_below_drewN | apply below_drew1) | exact HB.out)))); have n1_ := Aside0.mk (below_step (by repeat (first | (with_reducible first | exact HB.out | apply below_alloc | apply pw_below_drewN | apply below_drew1) | exact HB.out)) hb); clear HB; have HO196 := n0_; have HB := n1_; clear n0_ n1_; (try clear hb); (try clear hb2); (try clear hk); (try clear hi); (try clear ho0)))
      go_ret2
      exact ⟨_, by first | rfl | (simp [errW_none, errW_some] <;> rfl) | (simp only [← hji6]; first | rfl | (simp [errW_none, errW_some] <;> rfl)) | (simp [*, errW_none, errW_some] <;> rfl), by (with_reducible repeat (first | apply Kd.R_alloc | apply Kd.R_drewN | apply Kd.R_drew)); exact HO196.out, by repeat (first | (with_reducible first | exact HB.out | apply below_alloc | apply pw_below_drewN | apply below_drew1) | exact HB.out)⟩
    · rw [if_neg c7] at H
      have c7b0 : ((ji6) == 0) = false := beq_eq_false_iff_ne.mpr c7
      have c7b1 : ((ji6) != 0) = true := bne_iff_ne.mpr c7
      simp only [Option.some.injEq, Prod.mk.injEq] at H
      obtain ⟨rfl, rfl⟩ := H
      go_enter Tryd.func23, Tryd.ntmps23
      go_wp2_with (first | ((with_reducible refine gate_callee (f := 22) rfl ?_); refine goesL_ (some 11) rfl rfl Tryd.func22 (by kernel_rfl) rfl #[.slice A0 l0.length c0, .slice A1 l1.length c1] rfl (by (try simp only [List.map_toArray, List.map_cons, List.map_nil]); first | done | rfl | (simp only [List.length_drop, List.length_take]; rfl)) ?_; (with_reducible refine (amalgamref10_Check.calls k _ _ l0 _ _ l1 t193 _ ?side1 ?side2 ?side3 ?side4 A4.out).mono ?_); (case side1 => repeat (first | exact HR0.out | (with_reducible refine Kd.C_alloc ?_ _) | (with_reducible refine Kd.C_drewN ?_ _) | (with_reducible refine Kd.C_drew ?_))); (case side2 => exact HC0.out); (case side3 => repeat (first | exact HR1.out | (with_reducible refine Kd.C_alloc ?_ _) | (with_reducible refine Kd.C_drewN ?_ _) | (with_reducible refine Kd.C_drew ?_))); (case side4 => exact HC1.out); rintro e w' ⟨rfl, ⟨nd, rfl⟩⟩; refine ⟨_, rfl, ?_⟩))
      go_ret2
      exact ⟨_, by first | rfl | (simp [errW_none, errW_some] <;> rfl) | (simp only [← hji6]; first | rfl | (simp [errW_none, errW_some] <;> rfl)) | (simp [*, errW_none, errW_some] <;> rfl), by first | exact Kd.R_nil _ _ _ _ _ | exact Kd.N_nil _ _ _ _ _ | exact Kd.V_nil _ _ _ _ _ | exact Kd.Q_nil _ _ _ _ _ | exact Kd.S_nil _ _ _ _ _, by repeat (first | (with_reducible first | exact HB.out | apply below_alloc | apply pw_below_drewN | apply below_drew1) | exact HB.out)⟩
  · rw [if_neg c5] at H
    have c5b0 : (t193 == 0) = false := beq_eq_false_iff_ne.mpr c5
    have c5b1 : (t193 != 0) = true := bne_iff_ne.mpr c5
    simp only [Option.some.injEq, Prod.mk.injEq] at H
    obtain ⟨rfl, rfl⟩ := H
    go_enter Tryd.func23, Tryd.ntmps23
    go_wp2_with (first | ((with_reducible refine gate_callee (f := 22) rfl ?_); refine goesL_ (some 11) rfl rfl Tryd.func22 (by kernel_rfl) rfl #[.slice A0 l0.length c0, .slice A1 l1.length c1] rfl (by (try simp only [List.map_toArray, List.map_cons, List.map_nil]); first | done | rfl | (simp only [List.length_drop, List.length_take]; rfl)) ?_; (with_reducible refine (amalgamref10_Check.calls k _ _ l0 _ _ l1 t193 _ ?side1 ?side2 ?side3 ?side4 A4.out).mono ?_); (case side1 => repeat (first | exact HR0.out | (with_reducible refine Kd.C_alloc ?_ _) | (with_reducible refine Kd.C_drewN ?_ _) | (with_reducible refine Kd.C_drew ?_))); (case side2 => exact HC0.out); (case side3 => repeat (first | exact HR1.out | (with_reducible refine Kd.C_alloc ?_ _) | (with_reducible refine Kd.C_drewN ?_ _) | (with_reducible refine Kd.C_drew ?_))); (case side4 => exact HC1.out); rintro e w' ⟨rfl, ⟨nd, rfl⟩⟩; refine ⟨_, rfl, ?_⟩))
    go_ret2
    exact ⟨_, by first | rfl | (simp [errW_none, errW_some] <;> rfl) | (simp [*, errW_none, errW_some] <;> rfl), by first | exact Kd.R_nil _ _ _ _ _ | exact Kd.N_nil _ _ _ _ _ | exact Kd.V_nil _ _ _ _ _ | exact Kd.Q_nil _ _ _ _ _ | exact Kd.S_nil _ _ _ _ _, by repeat (first | (with_reducible first | exact HB.out | apply below_alloc | apply pw_below_drewN | apply below_drew1) | exact HB.out)⟩

/-! ### pick_Sum: function 18 -/
def pick_Sum.f (k : Nat) (l0 : List (List Int)) (l1 : List Int) (a2 : Int) : Option (List Int × Int) := if 0 ≤ (a2 / 4294967296) then (if (a2 / 4294967296) < ((([0] : List Int)).length : Int) then ((amalgamref10_Sum.f k l0 l1 a2).bind fun bt201 => (some (bt201.1, bt201.2))) else (none)) else (none)
theorem pick_Sum.mono : ∀ a0 a1 a2 k, LeO (pick_Sum.f k a0 a1 a2) (pick_Sum.f (k + 1) a0 a1 a2) := by
  intro a0 a1 a2 k
  unfold pick_Sum.f
  repeat' first
      | (with_reducible exact amalgamref10_Sum.mono _ _ _ _)
      | (with_reducible exact LeO.refl _)
      | (with_reducible exact LeO.none _)
      | (with_reducible refine LeO.ite ?_ ?_)
      | (with_reducible refine LeO.bind ?_ (fun _ => ?_))
      | exact amalgamref10_Sum.mono _ _ _ _
      | exact LeO.none _
      | refine LeO.ite ?_ ?_
      | refine LeO.bind ?_ (fun _ => ?_)

end Go.Proofs.YtbdlihldmmbdmaaDoor.SK

-- PRINTED by print.py (a twelfth state) out of the translation. Not trusted: Lean checks it.
namespace Go.Proofs.YtbdlihldmmbdmaaDoor.SK
open Go.RowKit Go.Proofs.YtbdlihldmmbdmaaDoorW.PrintWords Go.Proofs.YtbdlihldmmbdmaaDoorW.PrintLast Go.Proofs.YtbdlihldmmbdmaaDoorW.PrintMore
attribute [local go_sem] max2_int min2_int max_two min_two max_three min_three max_four min_four   -- for this text's walks alone
set_option linter.unusedVariables false
set_option linter.unusedSimpArgs false

/-! ### pick_Check: function 19 -/
def pick_Check.f (k : Nat) (l0 : List (List Int)) (l1 : List Int) : Option (Int) := (amalgamref10_Check.f k l0 l1).bind fun t208 => (some t208)
theorem pick_Check.mono : ∀ a0 a1 k, LeO (pick_Check.f k a0 a1) (pick_Check.f (k + 1) a0 a1) := by
  intro a0 a1 k
  unfold pick_Check.f
  repeat' first
      | (with_reducible exact amalgamref10_Check.mono _ _ _)
      | (with_reducible exact LeO.refl _)
      | (with_reducible exact LeO.none _)
      | (with_reducible refine LeO.ite ?_ ?_)
      | (with_reducible refine LeO.bind ?_ (fun _ => ?_))
      | exact amalgamref10_Check.mono _ _ _
      | exact LeO.none _
      | refine LeO.ite ?_ ?_
      | refine LeO.bind ?_ (fun _ => ?_)

end Go.Proofs.YtbdlihldmmbdmaaDoor.SK

-- PRINTED by print.py (a twelfth state) out of the translation. Not trusted: Lean checks it.
namespace Go.Proofs.YtbdlihldmmbdmaaDoor.SK
open Go.RowKit Go.Proofs.YtbdlihldmmbdmaaDoorW.PrintWords Go.Proofs.YtbdlihldmmbdmaaDoorW.PrintLast Go.Proofs.YtbdlihldmmbdmaaDoorW.PrintMore
attribute [local go_sem] max2_int min2_int max_two min_two max_three min_three max_four min_four   -- for this text's walks alone
set_option linter.unusedVariables false
set_option linter.unusedSimpArgs false

set_option maxHeartbeats 2000000 in
theorem pick_Check.calls (k : Nat) (A0 : Option Addr) (c0 : Nat) (l0 : List (List Int)) (A1 : Option Addr) (c1 : Nat) (l1 : List Int) (r : Int) (w : World) (hr0 : Kd.C (Kd.slice 3 (Kd.int .i64)) w A0 l0.length l0) (hc0 : l0.length ≤ c0) (hr1 : Kd.C (Kd.int .i64) w A1 l1.length l1) (hc1 : l1.length ≤ c1) (h : pick_Check.f k l0 l1 = some r) :
    Calls Tryd.prog 19 #[.slice A0 l0.length c0, .slice A1 l1.length c1] w fun e w' => e = .returned (.int .i64 r) ∧ Below w.heap.size w w' := by
  have hres : r = Go.Proofs.YtbdlihldmmbdmaaDoor.PickSpec.chk l0 l1 := by
    unfold pick_Check.f at h
    obtain ⟨x, hx, hxe⟩ := Option.bind_eq_some_iff.1 h
    have h1 := Go.Proofs.YtbdlihldmmbdmaaDoor.Plain.Ev.answer (fun k => amalgamref10_Check.mono l0 l1 k) hx (Go.Proofs.YtbdlihldmmbdmaaDoor.PickSpec.check_ev l0 l1)
    rw [← h1]
    exact (Option.some.inj hxe).symm
  clear h
  have hm1 := Kd.C_max hr1
  have hm0 := Kd.C_max hr0
  have hb1 : Below w.heap.size w (w.alloc (.cells #[.slice A1 l1.length c1] 23)) := (Below.refl _ _).alloc (Nat.le_refl _) _
  have hc : (w.alloc (.cells #[.slice A1 l1.length c1] 23)).cell? ⟨w.heap.size, 0, none⟩ = some (.slice A1 l1.length c1) := by simp
  have HI := Aside0.mk (Go.Proofs.YtbdlihldmmbdmaaDoor.Fn.containsFunc_int 35 #[] A1 c1 l1 _ Go.Proofs.YtbdlihldmmbdmaaDoor.PickSpec.badW (Kd.C_below hr1 hb1) Go.Proofs.YtbdlihldmmbdmaaDoor.PickFn.enters35 (fun y _ => Go.Proofs.YtbdlihldmmbdmaaDoor.PickFn.asks35 y _))
  have HR := fun m => Aside0.mk (Go.Proofs.YtbdlihldmmbdmaaDoor.PickFn.containsFunc_row 36 #[.pointer (some ⟨w.heap.size, 0, none⟩)] A0 c0 l0 ((w.alloc (.cells #[.slice A1 l1.length c1] 23)).drewN m) (Go.Proofs.YtbdlihldmmbdmaaDoor.PickSpec.badR l1) (Kd.C_drewN (Kd.C_below hr0 hb1) m) Go.Proofs.YtbdlihldmmbdmaaDoor.PickFn.enters36
    (fun x _ A c hx _ => Go.Proofs.YtbdlihldmmbdmaaDoor.PickFn.asks36 l1 w.heap.size A1 c1 _ (by simp) x A c hx hm1))
  have HR' := Aside0.mk HR
  clear HR hr0 hr1 hc hb1
  subst hres
  unfold Go.Proofs.YtbdlihldmmbdmaaDoor.PickSpec.chk
  by_cases h16 : l0.length > 16
  · rw [if_pos h16]
    go_enter Tryd.func19, Tryd.ntmps19
    go_wp2
    go_ret
    exact ⟨rfl, (Below.refl _ _).alloc (Nat.le_refl _) _⟩
  rw [if_neg h16]
  by_cases h10 : l1.length > 10
  · rw [if_pos h10]
    go_enter Tryd.func19, Tryd.ntmps19
    go_wp2
    go_ret
    exact ⟨rfl, (Below.refl _ _).alloc (Nat.le_refl _) _⟩
  rw [if_neg h10]
  obtain ⟨b, hb⟩ : ∃ b, b = l1.any Go.Proofs.YtbdlihldmmbdmaaDoor.PickSpec.badW := ⟨_, rfl⟩
  rw [← hb] at HI ⊢
  clear hb
  obtain ⟨b2, hb2⟩ : ∃ b, b = l0.any (Go.Proofs.YtbdlihldmmbdmaaDoor.PickSpec.badR l1) := ⟨_, rfl⟩
  rw [← hb2] at HR' ⊢
  clear hb2
  go_enter Tryd.func19, Tryd.ntmps19
  cases b with
  | true =>
    go_wp2_with (go_at_call 37; refine HI.out.mono ?_; rintro e w' ⟨rfl, ⟨n, rfl⟩⟩)
    go_ret
    exact ⟨rfl, pw_below_drewN ((Below.refl _ _).alloc (Nat.le_refl _) _) n⟩
  | false =>
    cases b2 with
    | true =>
      go_wp2_with (first | (go_at_call 37; refine HI.out.mono ?_; rintro e w' ⟨rfl, ⟨n, rfl⟩⟩) | (go_at_call 39; refine (HR'.out n).out.mono ?_; rintro e w' ⟨rfl, ⟨n2, rfl⟩⟩))
      go_ret
      exact ⟨rfl, pw_below_drewN ((Below.refl _ _).alloc (Nat.le_refl _) _) _⟩
    | false =>
      go_wp2_with (first | (go_at_call 37; refine HI.out.mono ?_; rintro e w' ⟨rfl, ⟨n, rfl⟩⟩) | (go_at_call 39; refine (HR'.out n).out.mono ?_; rintro e w' ⟨rfl, ⟨n2, rfl⟩⟩))
      go_ret
      exact ⟨rfl, pw_below_drewN ((Below.refl _ _).alloc (Nat.le_refl _) _) _⟩

end Go.Proofs.YtbdlihldmmbdmaaDoor.SK

namespace Go.Proofs.YtbdlihldmmbdmaaDoor.PickSpec
open Go.RowKit Go.Proofs.YtbdlihldmmbdmaaDoor.SK Go.Proofs.YtbdlihldmmbdmaaDoorW.PrintWords Go.Proofs.YtbdlihldmmbdmaaDoorW.PrintMore Go.Proofs.YtbdlihldmmbdmaaDoor.Plain
set_option linter.unusedVariables false

def sumS (rows : List (List Int)) (want : List Int) (m : Nat) : List Int × Int :=
  if chk rows want = 0 then (if m / 2 ^ rows.length = 0 then (addM rows m (List.replicate want.length 0), 0) else ([], 1)) else ([], chk rows want)
theorem rows_len {rows : List (List Int)} {want : List Int} (h : chk rows want = 0) : ∀ (i : Nat) (h : i < rows.length), rows[i].length = want.length := fun i hi => ((chk_zero h).2.2.2 _ (List.getElem_mem hi)).1
theorem sum_ev (rows : List (List Int)) (want : List Int) (m : Nat) (hm : m < 4294967296) : Ev (fun k => amalgamref10_Sum.f k rows want (m : Int)) (sumS rows want m) := by
  have h0 := check_ev rows want
  unfold sumS
  by_cases hc : chk rows want = 0
  · obtain ⟨h16, h10, _⟩ := chk_zero hc
    rw [if_pos hc]
    have hs := shr_nat m rows.length (by omega)
    by_cases hz : m / 2 ^ rows.length = 0
    · rw [if_pos hz]
      have h1 := add_ev rows want.length m h10 h16 hm (rows_len hc)
      refine Ev.congr (f := fun k => (amalgamref10_Check.f k rows want).bind fun t => if t = 0 then ((amalgamref10_add.f k rows (want.length : Int) (m : Int)).bind fun t2 => some (t2, 0)) else some (([] : List Int), t)) (fun k => ?_) ?_
      · unfold amalgamref10_Sum.f
        rw [hs, if_pos (by omega)]
      · refine Ev.then h0 ?_
        simp only [hc, if_true]
        exact Ev.then h1 (Ev.now _)
    · rw [if_neg hz]
      refine Ev.congr (f := fun k => (amalgamref10_Check.f k rows want).bind fun t => if t = 0 then some (([] : List Int), 1) else some (([] : List Int), t)) (fun k => ?_) ?_
      · unfold amalgamref10_Sum.f
        rw [hs, if_neg (by omega)]
      · refine Ev.then h0 ?_
        simp only [hc, if_true]
        exact Ev.now _
  · rw [if_neg hc]
    unfold amalgamref10_Sum.f
    refine Ev.then h0 ?_
    simp only [hc, if_false]
    exact Ev.now _
theorem bitLen_gt (m n : Nat) (hm : m < 4294967296) (hn : n ≤ 16) : (n < Lib.bitLen m) ↔ ¬ m / 2 ^ n = 0 := by
  constructor
  · intro h hz
    have h1 : m < 2 ^ n := by
      rcases Nat.lt_or_ge m (2 ^ n) with h | h
      · exact h
      · have := Nat.div_pos h (Nat.two_pow_pos n)
        omega
    have := Lib.bitLen_le m n (by omega) h1
    omega
  · intro hz
    have h1 : 2 ^ n ≤ m := by
      rcases Nat.lt_or_ge m (2 ^ n) with h | h
      · exact absurd (Nat.div_eq_of_lt h) hz
      · exact h
    have h2 := Lib.bitLen_shift n m h1 (by omega)
    have h3 : Lib.bitLen (m / 2 ^ n) ≠ 0 := by
      rw [Lib.bitLen_half (m / 2 ^ n) hz (Nat.lt_of_le_of_lt (Nat.div_le_self _ _) (by omega))]
      omega
    omega
end Go.Proofs.YtbdlihldmmbdmaaDoor.PickSpec

namespace Go.Proofs
open Go.Shelf
def Tryd.lays128_ren : Go.Shelf.Ren := ⟨fun | 128 => 33 | n => n, fun | 51 => 37 | 3 => 3 | 4 => 4 | 46 => 62 | 5 => 5 | 9 => 9 | n => n, fun | n => n⟩
theorem Tryd.lays128 : Go.Proofs.Lays.n128 Tryd.prog Tryd.lays128_ren := {
  mixed := by kernel_rfl
  f128 := Tryd.func33.trans (congrArg some (by kernel_rfl))
  t3 := Tryd.underlying3
  a3 := Tryd.isAgg3
  z3 := Tryd.sizeOf3
  v3 := Tryd.zeroValue3
  t4 := Tryd.underlying4
  a4 := Tryd.isAgg4
  z4 := Tryd.sizeOf4
  v4 := Tryd.zeroValue4
  t5 := Tryd.underlying5
  a5 := Tryd.isAgg5
  z5 := Tryd.sizeOf5
  v5 := Tryd.zeroValue5
  t9 := Tryd.underlying9
  a9 := Tryd.isAgg9
  z9 := Tryd.sizeOf9
  v9 := Tryd.zeroValue9
  t46 := Tryd.underlying62
  a46 := Tryd.isAgg62
  z46 := Tryd.sizeOf62
  v46 := Tryd.zeroValue62
  t51 := Tryd.underlying37
  a51 := Tryd.isAgg37
  z51 := Tryd.sizeOf37
  v51 := Tryd.zeroValue37 }
/-- bits.Len32: "Len32 returns the minimum number of bits required to represent x; the result is 0 for x == 0.": IT RETURNS 'Lib.bitLen x'; the world is as it was. ('h0', 'h1': x is a uint32.) (LAID: no walk: one application.) -/
theorem Tryd.bits_Len32 (x : Int) (w : World) (h0 : 0 ≤ x) (h1 : x ≤ 4294967295) :
    Calls Tryd.prog 33 #[.int .u32 x] w fun e w' => e = .returned (.int .i64 (Lib.bitLen x.toNat)) ∧ w' = w := Any.bits_Len32 Tryd.lays128 x w h0 h1
end Go.Proofs

-- PRINTED by print.py (a twelfth state) out of the translation. Not trusted: Lean checks it.
namespace Go.Proofs.YtbdlihldmmbdmaaDoor.SK
open Go.RowKit Go.Proofs.YtbdlihldmmbdmaaDoorW.PrintWords Go.Proofs.YtbdlihldmmbdmaaDoorW.PrintLast Go.Proofs.YtbdlihldmmbdmaaDoorW.PrintMore
attribute [local go_sem] max2_int min2_int max_two min_two max_three min_three max_four min_four   -- for this text's walks alone
set_option linter.unusedVariables false
set_option linter.unusedSimpArgs false

-- NEEDS pick_Check.calls
set_option maxHeartbeats 2000000 in
theorem pick_Sum.calls (k : Nat) (A0 : Option Addr) (c0 : Nat) (l0 : List (List Int)) (A1 : Option Addr) (c1 : Nat) (l1 : List Int) (a2 : Int) (r1 : List Int) (r2 : Int) (w : World) (hr0 : Kd.C (Kd.slice 3 (Kd.int .i64)) w A0 l0.length l0) (hc0 : l0.length ≤ c0) (hr1 : Kd.C (Kd.int .i64) w A1 l1.length l1) (hc1 : l1.length ≤ c1) (h : pick_Sum.f k l0 l1 a2 = some (r1, r2)) (hT : Go.Proofs.YtbdlihldmmbdmaaDoor.Bits.TabW w) :
    Calls Tryd.prog 18 #[.slice A0 l0.length c0, .slice A1 l1.length c1, .int .u32 a2] w fun e w' => ∃ v0_ : Value, e = .returned (.tuple #[v0_, .int .i64 r2]) ∧ Kd.R (Kd.int .i64) 3 w' w.heap.size (fun _ => True) v0_ r1 ∧ Below w.heap.size w w' := by
  have hb0 : 0 ≤ a2 / 4294967296 := by
    unfold pick_Sum.f at h
    by_cases hb : 0 ≤ a2 / 4294967296
    · exact hb
    · rw [if_neg hb] at h; simp at h
  have hb1 : a2 / 4294967296 < 1 := by
    unfold pick_Sum.f at h
    rw [if_pos hb0] at h
    by_cases hb : a2 / 4294967296 < 1
    · exact hb
    · rw [if_neg (by simpa using hb)] at h; simp at h
  obtain ⟨m, rfl⟩ : ∃ m : Nat, a2 = (m : Int) := ⟨a2.toNat, by omega⟩
  have hm : m < 4294967296 := by omega
  have hres : (r1, r2) = Go.Proofs.YtbdlihldmmbdmaaDoor.PickSpec.sumS l0 l1 m := by
    unfold pick_Sum.f at h
    rw [if_pos hb0, if_pos (by simpa using hb1)] at h
    obtain ⟨x, hx, hxe⟩ := Option.bind_eq_some_iff.1 h
    have h1 := Go.Proofs.YtbdlihldmmbdmaaDoor.Plain.Ev.answer (fun k => amalgamref10_Sum.mono l0 l1 (m : Int) k) hx (Go.Proofs.YtbdlihldmmbdmaaDoor.PickSpec.sum_ev l0 l1 m hm)
    rw [← h1]
    exact (Option.some.inj hxe).symm
  clear h hb0 hb1
  obtain ⟨kc, hkc⟩ := Ev.rounds (Go.Proofs.YtbdlihldmmbdmaaDoor.PickSpec.check_ev l0 l1)
  have hCk := Aside0.mk (pick_Check.calls kc A0 c0 l0 A1 c1 l1 (Go.Proofs.YtbdlihldmmbdmaaDoor.PickSpec.chk l0 l1) w hr0 hc0 hr1 hc1 (by unfold pick_Check.f; rw [hkc]; rfl))
  have hmax0 := Kd.C_max hr0
  have hmax1 := Kd.C_max hr1
  unfold Go.Proofs.YtbdlihldmmbdmaaDoor.PickSpec.sumS at hres
  by_cases hc : Go.Proofs.YtbdlihldmmbdmaaDoor.PickSpec.chk l0 l1 = 0
  · obtain ⟨h16, h10, _⟩ := Go.Proofs.YtbdlihldmmbdmaaDoor.PickSpec.chk_zero hc
    rw [if_pos hc] at hres
    rw [hc] at hCk
    have hlen := fun w1 => Tryd.bits_Len32 (m : Int) w1 (by omega) (by omega)
    have HLen := Aside0.mk hlen
    have hgt := Go.Proofs.YtbdlihldmmbdmaaDoor.PickSpec.bitLen_gt m l0.length hm h16
    clear hlen
    by_cases hz : m / 2 ^ l0.length = 0
    · rw [if_pos hz] at hres
      obtain ⟨rfl, rfl⟩ := Prod.mk.inj hres
      have hle : Lib.bitLen m ≤ l0.length := by
        rcases Nat.lt_or_ge l0.length (Lib.bitLen m) with h | h
        · exact absurd hz (hgt.1 h)
        · exact h
      have hmlt : m < 2 ^ l0.length := by
        rcases Nat.lt_or_ge m (2 ^ l0.length) with h | h
        · exact h
        · have := Nat.div_pos h (Nat.two_pow_pos l0.length); omega
      have HTot := Aside0.mk (fun (w1 : World) (hb : Below w.heap.size w w1) => Go.Proofs.YtbdlihldmmbdmaaDoor.PickTotal.total_any A0 c0 l0 l1.length m w1 (Kd.C_below hr0 hb) h10 h16 (Go.Proofs.YtbdlihldmmbdmaaDoor.PickSpec.rows_len hc) hmlt (hT.below hb))
      clear hres hc hz hgt hr0 hr1 hT
      go_enter Tryd.func18, Tryd.ntmps18
      go_wp2_with (first | (go_at_call 19; refine hCk.out.mono ?_; rintro e w1 ⟨rfl, hb1⟩; have HB1 := Aside0.mk hb1; clear hb1)
                          | (go_at_call 33; refine (HLen.out _).mono ?_; rintro e w2 ⟨rfl, rfl⟩; simp only [Int.toNat_natCast])
                          | (go_at_call 34; refine (HTot.out _ HB1.out).mono ?_; rintro e w3 ⟨v, rfl, ho, hb3⟩; have HO := Aside0.mk ho; have HB3 := Aside0.mk hb3; clear ho hb3))
      go_ret2
      exact ⟨_, rfl, Kd.R_lower HO.out HB1.out.size, HB1.out.trans (HB3.out.mono HB1.out.size)⟩
    · rw [if_neg hz] at hres
      obtain ⟨rfl, rfl⟩ := Prod.mk.inj hres
      have hlt : l0.length < Lib.bitLen m := hgt.2 hz
      clear hres hc hz hgt hr0 hr1 hT
      go_enter Tryd.func18, Tryd.ntmps18
      go_wp2_with (first | (go_at_call 19; refine hCk.out.mono ?_; rintro e w1 ⟨rfl, hb1⟩; have HB1 := Aside0.mk hb1; clear hb1)
                          | (go_at_call 33; refine (HLen.out _).mono ?_; rintro e w2 ⟨rfl, rfl⟩; simp only [Int.toNat_natCast]))
      go_ret2
      exact ⟨_, rfl, Kd.R_nil _ _ _ _ _, HB1.out⟩
  · rw [if_neg hc] at hres
    obtain ⟨rfl, rfl⟩ := Prod.mk.inj hres
    obtain ⟨c, hcc⟩ : ∃ c, c = Go.Proofs.YtbdlihldmmbdmaaDoor.PickSpec.chk l0 l1 := ⟨_, rfl⟩
    rw [← hcc] at hCk hc ⊢
    have hc1 : (c == 0) = false := by simpa using hc
    have hc2 : (c != 0) = true := by simpa using hc
    clear hres hcc hc hr0 hr1 hT
    go_enter Tryd.func18, Tryd.ntmps18
    go_wp2_with (go_at_call 19; refine hCk.out.mono ?_; rintro e w1 ⟨rfl, hb1⟩; have HB1 := Aside0.mk hb1; clear hb1)
    go_ret2
    exact ⟨_, rfl, Kd.R_nil _ _ _ _ _, HB1.out⟩

end Go.Proofs.YtbdlihldmmbdmaaDoor.SK

-- PRINTED by print.py (a twelfth state) out of the translation. Not trusted: Lean checks it.
namespace Go.Proofs.YtbdlihldmmbdmaaDoor.SK
open Go.RowKit Go.Proofs.YtbdlihldmmbdmaaDoorW.PrintWords Go.Proofs.YtbdlihldmmbdmaaDoorW.PrintLast Go.Proofs.YtbdlihldmmbdmaaDoorW.PrintMore
attribute [local go_sem] max2_int min2_int max_two min_two max_three min_three max_four min_four   -- for this text's walks alone
set_option linter.unusedVariables false
set_option linter.unusedSimpArgs false

/-! ### amalgamref09_Same: function 20 -/
def amalgamref09_Same.l0 : Nat → List Int → List Int → Int → Option (Bool)
  | 0, _, _, _ => none
  | k + 1, x0, x1, x5 => if x5 < (x0.length : Int) then (if 0 ≤ x5 then (if x5 < (x1.length : Int) then (if (rd x0 x5) = (rd x1 x5) then (amalgamref09_Same.l0 k x0 x1 (wrap64 (x5 + 1))) else (some false)) else (none)) else (none)) else (some true)
def amalgamref09_Same.f (k : Nat) (l0 : List Int) (l1 : List Int) : Option (Bool) := if (l0.length : Int) = (l1.length : Int) then (amalgamref09_Same.l0 k l0 l1 0) else (some false)
theorem amalgamref09_Same.mono_l : ∀ k, (∀ y0 y1 y2, LeO (amalgamref09_Same.l0 k y0 y1 y2) (amalgamref09_Same.l0 (k + 1) y0 y1 y2))
  | 0 => fun _ _ _ r h => by simp [amalgamref09_Same.l0] at h
  | k + 1 => by
    have ih0 := amalgamref09_Same.mono_l k
    · intro y0 y1 y2
      unfold amalgamref09_Same.l0
      repeat' first
      | (with_reducible exact ih0 _ _ _)
      | (with_reducible exact LeO.refl _)
      | (with_reducible exact LeO.none _)
      | (with_reducible refine LeO.ite ?_ ?_)
      | (with_reducible refine LeO.bind ?_ (fun _ => ?_))
      | exact ih0 _ _ _
      | exact LeO.none _
      | refine LeO.ite ?_ ?_
      | refine LeO.bind ?_ (fun _ => ?_)
theorem amalgamref09_Same.mono : ∀ a0 a1 k, LeO (amalgamref09_Same.f k a0 a1) (amalgamref09_Same.f (k + 1) a0 a1) := by
  intro a0 a1 k
  have ih0 := amalgamref09_Same.mono_l k
  unfold amalgamref09_Same.f
  repeat' first
      | (with_reducible exact ih0 _ _ _)
      | (with_reducible exact LeO.refl _)
      | (with_reducible exact LeO.none _)
      | (with_reducible refine LeO.ite ?_ ?_)
      | (with_reducible refine LeO.bind ?_ (fun _ => ?_))
      | exact ih0 _ _ _
      | exact LeO.none _
      | refine LeO.ite ?_ ?_
      | refine LeO.bind ?_ (fun _ => ?_)
set_option maxHeartbeats 8000000 in
set_option maxRecDepth 100000 in
theorem amalgamref09_Same.calls (k : Nat) (A0 : Option Addr) (c0 : Nat) (l0 : List Int) (A1 : Option Addr) (c1 : Nat) (l1 : List Int) (r : Bool) (w : World) (hr0 : Kd.C (Kd.int .i64) w A0 l0.length l0) (hc0 : l0.length ≤ c0) (hr1 : Kd.C (Kd.int .i64) w A1 l1.length l1) (hc1 : l1.length ≤ c1) (h : amalgamref09_Same.f k l0 l1 = some r) :
    Calls Tryd.prog 20 #[.slice A0 l0.length c0, .slice A1 l1.length c1] w fun e w' => e = .returned (.bool r) ∧ Drawn0 w w' := by
  have HR0 := Aside0.mk hr0
  have HC0 := Aside0.mk hc0
  clear hr0 hc0
  have HR1 := Aside0.mk hr1
  have HC1 := Aside0.mk hc1
  clear hr1 hc1
  have H : (if (l0.length : Int) = (l1.length : Int) then (amalgamref09_Same.l0 k l0 l1 0) else (some false)) = some r := h
  clear h
  by_cases c3 : (l0.length : Int) = (l1.length : Int)
  · rw [if_pos c3] at H
    have c3b0 : ((l0.length : Int) == (l1.length : Int)) = true := beq_iff_eq.mpr c3
    have c3b1 : ((l0.length : Int) != (l1.length : Int)) = false := bne_eq_false_iff_eq.mpr c3
    have c3b2 : (l0.length == l1.length) = true := by first | simpa using c3 | (simp at c3 ⊢; omega)
    clear c3
    have H' := Aside0.mk H
    clear H
    go_enter Tryd.func20, Tryd.ntmps20
    go_wp2
    repeat (go_quiet (fail); try go_wp2)
    go_loopg [5] k (fun kq v5 w' => ∃ (x5_1 : Int), v5 = .int .i64 x5_1 ∧ Aside0 (amalgamref09_Same.l0 kq l0 l1 x5_1 = some r) ∧ Aside0 (kq ≤ k) ∧ Drawn0 w w')
    case atStart => exact ⟨(0), (by first | rfl | (simp; done) | (simp [*]; done)), H', ⟨Nat.le_refl _⟩, by repeat (first | exact Drawn0.refl _ | apply Drawn0.step)⟩
    case round =>
      clear H'
      try clear c1
      try clear c2
      try clear p2
      try clear c3
      try clear c3b0
      try clear c3b1
      try clear c3b2
      obtain ⟨x5_1, rfl, HA, HK1, ⟨m1, rfl⟩⟩ := hrel
      cases gk with
      | zero => exact absurd HA.out (by simp [amalgamref09_Same.l0])
      | succ k1 =>
        have H := HA.out
        clear HA
        simp only [amalgamref09_Same.l0] at H
        by_cases c4 : x5_1 < (l0.length : Int)
        · rw [if_pos c4] at H
          have c4b0 : decide (x5_1 < (l0.length : Int)) = true := decide_eq_true c4
          clear c4
          by_cases c5 : 0 ≤ x5_1
          · rw [if_pos c5] at H
            have c5b0 : decide (0 ≤ x5_1) = true := decide_eq_true c5
            clear c5
            by_cases c6 : x5_1 < (l1.length : Int)
            · rw [if_pos c6] at H
              have c6b0 : decide (x5_1 < (l1.length : Int)) = true := decide_eq_true c6
              clear c6
              by_cases c7 : (rd l0 x5_1) = (rd l1 x5_1)
              · rw [if_pos c7] at H
                have c7b0 : ((rd l0 x5_1) == (rd l1 x5_1)) = true := beq_iff_eq.mpr c7
                have c7b1 : ((rd l0 x5_1) != (rd l1 x5_1)) = false := bne_eq_false_iff_eq.mpr c7
                clear c7
                have H' := Aside0.mk H
                clear H
                have p209 : 0 ≤ (x5_1 : Int) := of_decide_eq_true (by first | (with_reducible assumption) | assumption)
                have q209 : x5_1 < (l0.length : Int) := of_decide_eq_true (by first | (with_reducible assumption) | assumption)
                obtain ⟨ad209, e209, hx209_0⟩ := Kd.at_int HR0.out x5_1 p209 q209
                cases e209
                replace p209 := eq_true p209
                replace q209 := eq_true q209
                have p210 : 0 ≤ (x5_1 : Int) := of_decide_eq_true (by first | (with_reducible assumption) | assumption)
                have q210 : x5_1 < (l1.length : Int) := of_decide_eq_true (by first | (with_reducible assumption) | assumption)
                obtain ⟨ad210, e210, hx210_0⟩ := Kd.at_int HR1.out x5_1 p210 q210
                cases e210
                replace p210 := eq_true p210
                replace q210 := eq_true q210
                go_wp2
                repeat (go_quiet (fail); try go_wp2)
                go_roundg k1
                case measure => have := HK1.out; omega
                case rel => exact ⟨(wrap64 (x5_1 + 1)), (by first | rfl | (simp; done) | (simp [*]; done)), H', ⟨by have := HK1.out; omega⟩, by repeat (first | exact Drawn0.refl _ | apply Drawn0.step)⟩
              · rw [if_neg c7] at H
                have c7b0 : ((rd l0 x5_1) == (rd l1 x5_1)) = false := beq_eq_false_iff_ne.mpr c7
                have c7b1 : ((rd l0 x5_1) != (rd l1 x5_1)) = true := bne_iff_ne.mpr c7
                obtain rfl := Option.some.inj H
                have p209 : 0 ≤ (x5_1 : Int) := of_decide_eq_true (by first | (with_reducible assumption) | assumption)
                have q209 : x5_1 < (l0.length : Int) := of_decide_eq_true (by first | (with_reducible assumption) | assumption)
                obtain ⟨ad209, e209, hx209_0⟩ := Kd.at_int HR0.out x5_1 p209 q209
                cases e209
                replace p209 := eq_true p209
                replace q209 := eq_true q209
                have p210 : 0 ≤ (x5_1 : Int) := of_decide_eq_true (by first | (with_reducible assumption) | assumption)
                have q210 : x5_1 < (l1.length : Int) := of_decide_eq_true (by first | (with_reducible assumption) | assumption)
                obtain ⟨ad210, e210, hx210_0⟩ := Kd.at_int HR1.out x5_1 p210 q210
                cases e210
                replace p210 := eq_true p210
                replace q210 := eq_true q210
                go_wp2
                repeat (go_quiet (fail); try go_wp2)
                go_ret
                exact ⟨by first | rfl | (simp; done) | (simp [*]; done), by repeat (first | exact Drawn0.refl _ | apply Drawn0.step)⟩
            · rw [if_neg c6] at H
              exact absurd H (by simp)
          · rw [if_neg c5] at H
            exact absurd H (by simp)
        · rw [if_neg c4] at H
          have c4b0 : decide (x5_1 < (l0.length : Int)) = false := decide_eq_false c4
          clear c4
          obtain rfl := Option.some.inj H
          go_wp2
          repeat (go_quiet (fail); try go_wp2)
          go_ret
          exact ⟨by first | rfl | (simp; done) | (simp [*]; done), by repeat (first | exact Drawn0.refl _ | apply Drawn0.step)⟩
  · rw [if_neg c3] at H
    have c3b0 : ((l0.length : Int) == (l1.length : Int)) = false := beq_eq_false_iff_ne.mpr c3
    have c3b1 : ((l0.length : Int) != (l1.length : Int)) = true := bne_iff_ne.mpr c3
    have c3b2 : (l0.length == l1.length) = false := by first | simpa using c3 | (simp at c3 ⊢; omega)
    obtain rfl := Option.some.inj H
    go_enter Tryd.func20, Tryd.ntmps20
    go_wp2
    repeat (go_quiet (fail); try go_wp2)
    go_ret
    exact ⟨by first | rfl | (simp; done) | (simp [*]; done), by repeat (first | exact Drawn0.refl _ | apply Drawn0.step)⟩

-- NOT PRINTED: function 5 (amalgamlaw10_PickNames)

/-! ### pick_meets: function 40 -/
def pick_meets.l0 : Nat → List Int → List Int → Int → Int → Option (Bool)
  | 0, _, _, _, _ => none
  | k + 1, x0, x7, x8, x9 => if x9 < x8 then (if 0 ≤ x9 then (if x9 < (x7.length : Int) then (if (rd x7 x9) = 1 then (if x9 < (x0.length : Int) then (if (rd x0 x9) = 0 then (some false) else (if (rd x7 x9) = 2 then (if (rd x0 x9) = 1 then (pick_meets.l0 k x0 x7 x8 (wrap64 (x9 + 1))) else (some false)) else (pick_meets.l0 k x0 x7 x8 (wrap64 (x9 + 1))))) else (none)) else (if (rd x7 x9) = 2 then (if x9 < (x0.length : Int) then (if (rd x0 x9) = 1 then (pick_meets.l0 k x0 x7 x8 (wrap64 (x9 + 1))) else (some false)) else (none)) else (pick_meets.l0 k x0 x7 x8 (wrap64 (x9 + 1))))) else (none)) else (none)) else (some true)
def pick_meets.f (k : Nat) (l0 : List Int) (l1 : List Int) : Option (Bool) := pick_meets.l0 k l0 l1 (l1.length : Int) 0
theorem pick_meets.mono_l : ∀ k, (∀ y0 y1 y2 y3, LeO (pick_meets.l0 k y0 y1 y2 y3) (pick_meets.l0 (k + 1) y0 y1 y2 y3))
  | 0 => fun _ _ _ _ r h => by simp [pick_meets.l0] at h
  | k + 1 => by
    have ih0 := pick_meets.mono_l k
    · intro y0 y1 y2 y3
      unfold pick_meets.l0
      repeat' first
      | (with_reducible exact ih0 _ _ _ _)
      | (with_reducible exact LeO.refl _)
      | (with_reducible exact LeO.none _)
      | (with_reducible refine LeO.ite ?_ ?_)
      | (with_reducible refine LeO.bind ?_ (fun _ => ?_))
      | exact ih0 _ _ _ _
      | exact LeO.none _
      | refine LeO.ite ?_ ?_
      | refine LeO.bind ?_ (fun _ => ?_)
theorem pick_meets.mono : ∀ a0 a1 k, LeO (pick_meets.f k a0 a1) (pick_meets.f (k + 1) a0 a1) := by
  intro a0 a1 k
  have ih0 := pick_meets.mono_l k
  unfold pick_meets.f
  repeat' first
      | (with_reducible exact ih0 _ _ _ _)
      | (with_reducible exact LeO.refl _)
      | (with_reducible exact LeO.none _)
      | (with_reducible refine LeO.ite ?_ ?_)
      | (with_reducible refine LeO.bind ?_ (fun _ => ?_))
      | exact ih0 _ _ _ _
      | exact LeO.none _
      | refine LeO.ite ?_ ?_
      | refine LeO.bind ?_ (fun _ => ?_)
set_option maxHeartbeats 8000000 in
set_option maxRecDepth 100000 in
theorem pick_meets.calls (k : Nat) (A0 : Option Addr) (c0 : Nat) (l0 : List Int) (A1 : Option Addr) (c1 : Nat) (l1 : List Int) (r : Bool) (w : World) (hr0 : Kd.C (Kd.int .i64) w A0 l0.length l0) (hc0 : l0.length ≤ c0) (hr1 : Kd.C (Kd.int .i64) w A1 l1.length l1) (hc1 : l1.length ≤ c1) (h : pick_meets.f k l0 l1 = some r) :
    Calls Tryd.prog 40 #[.slice A0 l0.length c0, .slice A1 l1.length c1] w fun e w' => e = .returned (.bool r) ∧ Drawn0 w w' := by
  have HR0 := Aside0.mk hr0
  have HC0 := Aside0.mk hc0
  clear hr0 hc0
  have HR1 := Aside0.mk hr1
  have HC1 := Aside0.mk hc1
  clear hr1 hc1
  have H : (pick_meets.l0 k l0 l1 (l1.length : Int) 0) = some r := h
  clear h
  have H' := Aside0.mk H
  clear H
  go_enter Tryd.func40, Tryd.ntmps40
  go_wp2
  go_loopg [9] k (fun kq v9 w' => ∃ (x9_1 : Int), v9 = .int .i64 x9_1 ∧ Aside0 (pick_meets.l0 kq l0 l1 (l1.length : Int) x9_1 = some r) ∧ Aside0 (kq ≤ k) ∧ Drawn0 w w')
  case atStart => exact ⟨(0), (by first | rfl | (simp; done) | (simp [*]; done)), H', ⟨Nat.le_refl _⟩, by repeat (first | exact Drawn0.refl _ | apply Drawn0.step)⟩
  case round =>
    clear H'
    try clear c1
    try clear p2
    obtain ⟨x9_1, rfl, HA, HK1, ⟨m1, rfl⟩⟩ := hrel
    cases gk with
    | zero => exact absurd HA.out (by simp [pick_meets.l0])
    | succ k1 =>
      have H := HA.out
      clear HA
      simp only [pick_meets.l0] at H
      by_cases c3 : x9_1 < (l1.length : Int)
      · rw [if_pos c3] at H
        have c3b0 : decide (x9_1 < (l1.length : Int)) = true := decide_eq_true c3
        clear c3
        by_cases c4 : 0 ≤ x9_1
        · rw [if_pos c4] at H
          have c4b0 : decide (0 ≤ x9_1) = true := decide_eq_true c4
          clear c4
          by_cases c5 : x9_1 < (l1.length : Int)
          · rw [if_pos c5] at H
            have c5b0 : decide (x9_1 < (l1.length : Int)) = true := decide_eq_true c5
            clear c5
            by_cases c6 : (rd l1 x9_1) = 1
            · rw [if_pos c6] at H
              have c6b0 : ((rd l1 x9_1) == 1) = true := beq_iff_eq.mpr c6
              have c6b1 : ((rd l1 x9_1) != 1) = false := bne_eq_false_iff_eq.mpr c6
              clear c6
              by_cases c7 : x9_1 < (l0.length : Int)
              · rw [if_pos c7] at H
                have c7b0 : decide (x9_1 < (l0.length : Int)) = true := decide_eq_true c7
                clear c7
                by_cases c8 : (rd l0 x9_1) = 0
                · rw [if_pos c8] at H
                  have c8b0 : ((rd l0 x9_1) == 0) = true := beq_iff_eq.mpr c8
                  have c8b1 : ((rd l0 x9_1) != 0) = false := bne_eq_false_iff_eq.mpr c8
                  clear c8
                  obtain rfl := Option.some.inj H
                  have p289 : 0 ≤ (x9_1 : Int) := of_decide_eq_true (by first | (with_reducible assumption) | assumption)
                  have q289 : x9_1 < (l1.length : Int) := of_decide_eq_true (by first | (with_reducible assumption) | assumption)
                  obtain ⟨ad289, e289, hx289_0⟩ := Kd.at_int HR1.out x9_1 p289 q289
                  cases e289
                  replace p289 := eq_true p289
                  replace q289 := eq_true q289
                  have p290 : 0 ≤ (x9_1 : Int) := of_decide_eq_true (by first | (with_reducible assumption) | assumption)
                  have q290 : x9_1 < (l0.length : Int) := of_decide_eq_true (by first | (with_reducible assumption) | assumption)
                  obtain ⟨ad290, e290, hx290_0⟩ := Kd.at_int HR0.out x9_1 p290 q290
                  cases e290
                  replace p290 := eq_true p290
                  replace q290 := eq_true q290
                  go_wp2
                  go_ret
                  exact ⟨by first | rfl | (simp; done) | (simp [*]; done), by repeat (first | exact Drawn0.refl _ | apply Drawn0.step)⟩
                · rw [if_neg c8] at H
                  have c8b0 : ((rd l0 x9_1) == 0) = false := beq_eq_false_iff_ne.mpr c8
                  have c8b1 : ((rd l0 x9_1) != 0) = true := bne_iff_ne.mpr c8
                  by_cases c9 : (rd l1 x9_1) = 2
                  · rw [if_pos c9] at H
                    have c9b0 : ((rd l1 x9_1) == 2) = true := beq_iff_eq.mpr c9
                    have c9b1 : ((rd l1 x9_1) != 2) = false := bne_eq_false_iff_eq.mpr c9
                    clear c9
                    by_cases c10 : (rd l0 x9_1) = 1
                    · rw [if_pos c10] at H
                      have c10b0 : ((rd l0 x9_1) == 1) = true := beq_iff_eq.mpr c10
                      have c10b1 : ((rd l0 x9_1) != 1) = false := bne_eq_false_iff_eq.mpr c10
                      clear c10
                      have H' := Aside0.mk H
                      clear H
                      have p289 : 0 ≤ (x9_1 : Int) := of_decide_eq_true (by first | (with_reducible assumption) | assumption)
                      have q289 : x9_1 < (l1.length : Int) := of_decide_eq_true (by first | (with_reducible assumption) | assumption)
                      obtain ⟨ad289, e289, hx289_0⟩ := Kd.at_int HR1.out x9_1 p289 q289
                      cases e289
                      replace p289 := eq_true p289
                      replace q289 := eq_true q289
                      have p290 : 0 ≤ (x9_1 : Int) := of_decide_eq_true (by first | (with_reducible assumption) | assumption)
                      have q290 : x9_1 < (l0.length : Int) := of_decide_eq_true (by first | (with_reducible assumption) | assumption)
                      obtain ⟨ad290, e290, hx290_0⟩ := Kd.at_int HR0.out x9_1 p290 q290
                      cases e290
                      replace p290 := eq_true p290
                      replace q290 := eq_true q290
                      have p291 : 0 ≤ (x9_1 : Int) := of_decide_eq_true (by first | (with_reducible assumption) | assumption)
                      have q291 : x9_1 < (l0.length : Int) := of_decide_eq_true (by first | (with_reducible assumption) | assumption)
                      obtain ⟨ad291, e291, hx291_0⟩ := Kd.at_int HR0.out x9_1 p291 q291
                      obtain rfl : ad290 = ad291 := (by injection e291)
                      replace p291 := eq_true p291
                      replace q291 := eq_true q291
                      go_wp2
                      go_roundg k1
                      case measure => have := HK1.out; omega
                      case rel => exact ⟨(wrap64 (x9_1 + 1)), (by first | rfl | (simp; done) | (simp [*]; done)), H', ⟨by have := HK1.out; omega⟩, by repeat (first | exact Drawn0.refl _ | apply Drawn0.step)⟩
                    · rw [if_neg c10] at H
                      have c10b0 : ((rd l0 x9_1) == 1) = false := beq_eq_false_iff_ne.mpr c10
                      have c10b1 : ((rd l0 x9_1) != 1) = true := bne_iff_ne.mpr c10
                      obtain rfl := Option.some.inj H
                      have p289 : 0 ≤ (x9_1 : Int) := of_decide_eq_true (by first | (with_reducible assumption) | assumption)
                      have q289 : x9_1 < (l1.length : Int) := of_decide_eq_true (by first | (with_reducible assumption) | assumption)
                      obtain ⟨ad289, e289, hx289_0⟩ := Kd.at_int HR1.out x9_1 p289 q289
                      cases e289
                      replace p289 := eq_true p289
                      replace q289 := eq_true q289
                      have p290 : 0 ≤ (x9_1 : Int) := of_decide_eq_true (by first | (with_reducible assumption) | assumption)
                      have q290 : x9_1 < (l0.length : Int) := of_decide_eq_true (by first | (with_reducible assumption) | assumption)
                      obtain ⟨ad290, e290, hx290_0⟩ := Kd.at_int HR0.out x9_1 p290 q290
                      cases e290
                      replace p290 := eq_true p290
                      replace q290 := eq_true q290
                      have p291 : 0 ≤ (x9_1 : Int) := of_decide_eq_true (by first | (with_reducible assumption) | assumption)
                      have q291 : x9_1 < (l0.length : Int) := of_decide_eq_true (by first | (with_reducible assumption) | assumption)
                      obtain ⟨ad291, e291, hx291_0⟩ := Kd.at_int HR0.out x9_1 p291 q291
                      obtain rfl : ad290 = ad291 := (by injection e291)
                      replace p291 := eq_true p291
                      replace q291 := eq_true q291
                      go_wp2
                      go_ret
                      exact ⟨by first | rfl | (simp; done) | (simp [*]; done), by repeat (first | exact Drawn0.refl _ | apply Drawn0.step)⟩
                  · rw [if_neg c9] at H
                    have c9b0 : ((rd l1 x9_1) == 2) = false := beq_eq_false_iff_ne.mpr c9
                    have c9b1 : ((rd l1 x9_1) != 2) = true := bne_iff_ne.mpr c9
                    have H' := Aside0.mk H
                    clear H
                    have p289 : 0 ≤ (x9_1 : Int) := of_decide_eq_true (by first | (with_reducible assumption) | assumption)
                    have q289 : x9_1 < (l1.length : Int) := of_decide_eq_true (by first | (with_reducible assumption) | assumption)
                    obtain ⟨ad289, e289, hx289_0⟩ := Kd.at_int HR1.out x9_1 p289 q289
                    cases e289
                    replace p289 := eq_true p289
                    replace q289 := eq_true q289
                    have p290 : 0 ≤ (x9_1 : Int) := of_decide_eq_true (by first | (with_reducible assumption) | assumption)
                    have q290 : x9_1 < (l0.length : Int) := of_decide_eq_true (by first | (with_reducible assumption) | assumption)
                    obtain ⟨ad290, e290, hx290_0⟩ := Kd.at_int HR0.out x9_1 p290 q290
                    cases e290
                    replace p290 := eq_true p290
                    replace q290 := eq_true q290
                    go_wp2
                    go_roundg k1
                    case measure => have := HK1.out; omega
                    case rel => exact ⟨(wrap64 (x9_1 + 1)), (by first | rfl | (simp; done) | (simp [*]; done)), H', ⟨by have := HK1.out; omega⟩, by repeat (first | exact Drawn0.refl _ | apply Drawn0.step)⟩
              · rw [if_neg c7] at H
                exact absurd H (by simp)
            · rw [if_neg c6] at H
              have c6b0 : ((rd l1 x9_1) == 1) = false := beq_eq_false_iff_ne.mpr c6
              have c6b1 : ((rd l1 x9_1) != 1) = true := bne_iff_ne.mpr c6
              by_cases c11 : (rd l1 x9_1) = 2
              · rw [if_pos c11] at H
                have c11b0 : ((rd l1 x9_1) == 2) = true := beq_iff_eq.mpr c11
                have c11b1 : ((rd l1 x9_1) != 2) = false := bne_eq_false_iff_eq.mpr c11
                clear c11
                by_cases c12 : x9_1 < (l0.length : Int)
                · rw [if_pos c12] at H
                  have c12b0 : decide (x9_1 < (l0.length : Int)) = true := decide_eq_true c12
                  clear c12
                  by_cases c13 : (rd l0 x9_1) = 1
                  · rw [if_pos c13] at H
                    have c13b0 : ((rd l0 x9_1) == 1) = true := beq_iff_eq.mpr c13
                    have c13b1 : ((rd l0 x9_1) != 1) = false := bne_eq_false_iff_eq.mpr c13
                    clear c13
                    have H' := Aside0.mk H
                    clear H
                    have p289 : 0 ≤ (x9_1 : Int) := of_decide_eq_true (by first | (with_reducible assumption) | assumption)
                    have q289 : x9_1 < (l1.length : Int) := of_decide_eq_true (by first | (with_reducible assumption) | assumption)
                    obtain ⟨ad289, e289, hx289_0⟩ := Kd.at_int HR1.out x9_1 p289 q289
                    cases e289
                    replace p289 := eq_true p289
                    replace q289 := eq_true q289
                    have p292 : 0 ≤ (x9_1 : Int) := of_decide_eq_true (by first | (with_reducible assumption) | assumption)
                    have q292 : x9_1 < (l0.length : Int) := of_decide_eq_true (by first | (with_reducible assumption) | assumption)
                    obtain ⟨ad292, e292, hx292_0⟩ := Kd.at_int HR0.out x9_1 p292 q292
                    cases e292
                    replace p292 := eq_true p292
                    replace q292 := eq_true q292
                    go_wp2
                    go_roundg k1
                    case measure => have := HK1.out; omega
                    case rel => exact ⟨(wrap64 (x9_1 + 1)), (by first | rfl | (simp; done) | (simp [*]; done)), H', ⟨by have := HK1.out; omega⟩, by repeat (first | exact Drawn0.refl _ | apply Drawn0.step)⟩
                  · rw [if_neg c13] at H
                    have c13b0 : ((rd l0 x9_1) == 1) = false := beq_eq_false_iff_ne.mpr c13
                    have c13b1 : ((rd l0 x9_1) != 1) = true := bne_iff_ne.mpr c13
                    obtain rfl := Option.some.inj H
                    have p289 : 0 ≤ (x9_1 : Int) := of_decide_eq_true (by first | (with_reducible assumption) | assumption)
                    have q289 : x9_1 < (l1.length : Int) := of_decide_eq_true (by first | (with_reducible assumption) | assumption)
                    obtain ⟨ad289, e289, hx289_0⟩ := Kd.at_int HR1.out x9_1 p289 q289
                    cases e289
                    replace p289 := eq_true p289
                    replace q289 := eq_true q289
                    have p292 : 0 ≤ (x9_1 : Int) := of_decide_eq_true (by first | (with_reducible assumption) | assumption)
                    have q292 : x9_1 < (l0.length : Int) := of_decide_eq_true (by first | (with_reducible assumption) | assumption)
                    obtain ⟨ad292, e292, hx292_0⟩ := Kd.at_int HR0.out x9_1 p292 q292
                    cases e292
                    replace p292 := eq_true p292
                    replace q292 := eq_true q292
                    go_wp2
                    go_ret
                    exact ⟨by first | rfl | (simp; done) | (simp [*]; done), by repeat (first | exact Drawn0.refl _ | apply Drawn0.step)⟩
                · rw [if_neg c12] at H
                  exact absurd H (by simp)
              · rw [if_neg c11] at H
                have c11b0 : ((rd l1 x9_1) == 2) = false := beq_eq_false_iff_ne.mpr c11
                have c11b1 : ((rd l1 x9_1) != 2) = true := bne_iff_ne.mpr c11
                have H' := Aside0.mk H
                clear H
                have p289 : 0 ≤ (x9_1 : Int) := of_decide_eq_true (by first | (with_reducible assumption) | assumption)
                have q289 : x9_1 < (l1.length : Int) := of_decide_eq_true (by first | (with_reducible assumption) | assumption)
                obtain ⟨ad289, e289, hx289_0⟩ := Kd.at_int HR1.out x9_1 p289 q289
                cases e289
                replace p289 := eq_true p289
                replace q289 := eq_true q289
                go_wp2
                go_roundg k1
                case measure => have := HK1.out; omega
                case rel => exact ⟨(wrap64 (x9_1 + 1)), (by first | rfl | (simp; done) | (simp [*]; done)), H', ⟨by have := HK1.out; omega⟩, by repeat (first | exact Drawn0.refl _ | apply Drawn0.step)⟩
          · rw [if_neg c5] at H
            exact absurd H (by simp)
        · rw [if_neg c4] at H
          exact absurd H (by simp)
      · rw [if_neg c3] at H
        have c3b0 : decide (x9_1 < (l1.length : Int)) = false := decide_eq_false c3
        clear c3
        obtain rfl := Option.some.inj H
        go_wp2
        go_ret
        exact ⟨by first | rfl | (simp; done) | (simp [*]; done), by repeat (first | exact Drawn0.refl _ | apply Drawn0.step)⟩

/-! ### pick_Fits: function 21 -/
def pick_Fits.f (k : Nat) (l0 : List (List Int)) (l1 : List Int) (a2 : Int) : Option (Bool × Int) := (pick_Sum.f k l0 l1 a2).bind fun bt293 => (if bt293.2 = 0 then ((pick_meets.f k bt293.1 l1).bind fun t297 => (some (t297, 0))) else (some (false, bt293.2)))
theorem pick_Fits.mono : ∀ a0 a1 a2 k, LeO (pick_Fits.f k a0 a1 a2) (pick_Fits.f (k + 1) a0 a1 a2) := by
  intro a0 a1 a2 k
  unfold pick_Fits.f
  repeat' first
      | (with_reducible exact pick_Sum.mono _ _ _ _)
      | (with_reducible exact pick_meets.mono _ _ _)
      | (with_reducible exact LeO.refl _)
      | (with_reducible exact LeO.none _)
      | (with_reducible refine LeO.ite ?_ ?_)
      | (with_reducible refine LeO.bind ?_ (fun _ => ?_))
      | exact pick_Sum.mono _ _ _ _
      | exact pick_meets.mono _ _ _
      | exact LeO.none _
      | refine LeO.ite ?_ ?_
      | refine LeO.bind ?_ (fun _ => ?_)
set_option maxHeartbeats 8000000 in
set_option maxRecDepth 100000 in
theorem pick_Fits.calls (k : Nat) (A0 : Option Addr) (c0 : Nat) (l0 : List (List Int)) (A1 : Option Addr) (c1 : Nat) (l1 : List Int) (a2 : Int) (r1 : Bool) (r2 : Int) (w : World) (hr0 : Kd.C (Kd.slice 3 (Kd.int .i64)) w A0 l0.length l0) (hc0 : l0.length ≤ c0) (hr1 : Kd.C (Kd.int .i64) w A1 l1.length l1) (hc1 : l1.length ≤ c1) (h : pick_Fits.f k l0 l1 a2 = some (r1, r2)) (hT : Go.Proofs.YtbdlihldmmbdmaaDoor.Bits.TabW w) :
    Calls Tryd.prog 21 #[.slice A0 l0.length c0, .slice A1 l1.length c1, .int .u32 a2] w fun e w' => e = .returned (.tuple #[.bool r1, .int .i64 r2]) ∧ Below w.heap.size w w' := by
  have HLT := Aside0.mk hT
  clear hT
  have HR0 := Aside0.mk hr0
  have HC0 := Aside0.mk hc0
  clear hr0 hc0
  have HR1 := Aside0.mk hr1
  have HC1 := Aside0.mk hc1
  clear hr1 hc1
  have HB := Aside0.mk (Below.refl w.heap.size w)
  have H : ((pick_Sum.f k l0 l1 a2).bind fun bt293 => (if bt293.2 = 0 then ((pick_meets.f k bt293.1 l1).bind fun t297 => (some (t297, 0))) else (some (false, bt293.2)))) = some (r1, r2) := h
  clear h
  replace H := Option.bind_eq_some_iff.mp H
  obtain ⟨⟨t293, t294⟩, A40, H⟩ := H
  replace H : (if t294 = 0 then ((pick_meets.f k t293 l1).bind fun t297 => (some (t297, 0))) else (some (false, t294))) = some (r1, r2) := H
  have A4 := Aside0.mk A40
  clear A40
  by_cases c5 : t294 = 0
  · rw [if_pos c5] at H
    have c5b0 : (t294 == 0) = true := beq_iff_eq.mpr c5
    have c5b1 : (t294 != 0) = false := bne_eq_false_iff_eq.mpr c5
    clear c5
    replace H := Option.bind_eq_some_iff.mp H
    obtain ⟨t297, A60, H⟩ := H
    replace H : (some (t297, 0)) = some (r1, r2) := H
    have A6 := Aside0.mk A60
    clear A60
    simp only [Option.some.injEq, Prod.mk.injEq] at H
    obtain ⟨rfl, rfl⟩ := H
    go_enter Tryd.func21, Tryd.ntmps21
    go_wp2_with (first | ((with_reducible refine gate_callee (f := 18) rfl ?_); refine goesL_ (some 14) rfl rfl Tryd.func18 (by kernel_rfl) rfl #[.slice A0 l0.length c0, .slice A1 l1.length c1, .int .u32 a2] rfl (by (try simp only [List.map_toArray, List.map_cons, List.map_nil]); first | done | rfl | (simp only [List.length_drop, List.length_take]; rfl)) ?_; (with_reducible refine (pick_Sum.calls k _ _ l0 _ _ l1 a2 t293 t294 _ ?side1 ?side2 ?side3 ?side4 A4.out ?laid).mono ?_); (case laid => first | exact HLT.out | (repeat (first | exact HLT.out | apply Go.Proofs.YtbdlihldmmbdmaaDoor.Bits.TabW.alloc | apply Go.Proofs.YtbdlihldmmbdmaaDoor.Bits.TabW.drewN | exact Go.Proofs.YtbdlihldmmbdmaaDoor.Bits.TabW.below HLT.out HB.out))); (case side1 => repeat (first | exact HR0.out | (with_reducible refine Kd.C_alloc ?_ _) | (with_reducible refine Kd.C_drewN ?_ _) | (with_reducible refine Kd.C_drew ?_))); (case side2 => exact HC0.out); (case side3 => repeat (first | exact HR1.out | (with_reducible refine Kd.C_alloc ?_ _) | (with_reducible refine Kd.C_drewN ?_ _) | (with_reducible refine Kd.C_drew ?_))); (case side4 => exact HC1.out); rintro e w7 ⟨v295, rfl, ho0, hb⟩; refine ⟨_, rfl, ?_⟩; have n0_ := Aside0.mk (Kd.R_lower ho0 (below_size (by repeat (first | (with_reducible first | exact HB.out | apply below_alloc | apply pw_below_drewN | apply below_drew1) | exact HB.out)))); have n1_ := Aside0.mk (below_step (by repeat (first | (with_reducible first | exact HB.out | apply below_alloc | apply pw_below_drewN | apply below_drew1) | exact HB.out)) hb); clear HB; have HO296 := n0_; have HB := n1_; clear n0_ n1_; (try clear hb); (try clear hb2); (try clear hk); (try clear hi); (try clear ho0); obtain ⟨Ao8, co8, eo8⟩ := Kd.R_slice HO296.out; subst eo8) | ((with_reducible refine gate_callee (f := 40) rfl ?_); refine goesL_ (some 22) rfl rfl Tryd.func40 (by kernel_rfl) rfl #[.slice Ao8 t293.length co8, .slice A1 l1.length c1] rfl (by (try simp only [List.map_toArray, List.map_cons, List.map_nil]); first | done | rfl | (simp only [List.length_drop, List.length_take]; rfl)) ?_; (with_reducible refine (pick_meets.calls k _ _ t293 _ _ l1 t297 _ ?side1 ?side2 ?side3 ?side4 A6.out).mono ?_); (case side1 => repeat (first | exact (Kd.R_reads' HO296.out).2.2 | (with_reducible refine Kd.C_alloc ?_ _) | (with_reducible refine Kd.C_drewN ?_ _) | (with_reducible refine Kd.C_drew ?_))); (case side2 => exact (Kd.R_reads' HO296.out).2.1); (case side3 => repeat (first | exact (Kd.C_below HR1.out HB.out) | (with_reducible refine Kd.C_alloc ?_ _) | (with_reducible refine Kd.C_drewN ?_ _) | (with_reducible refine Kd.C_drew ?_))); (case side4 => exact HC1.out); rintro e w' ⟨rfl, ⟨nd, rfl⟩⟩; refine ⟨_, rfl, ?_⟩))
    go_ret2
    exact ⟨by first | rfl | (simp [errW_none, errW_some] <;> rfl) | (simp [*, errW_none, errW_some] <;> rfl), by repeat (first | (with_reducible first | exact HB.out | apply below_alloc | apply pw_below_drewN | apply below_drew1) | exact HB.out)⟩
  · rw [if_neg c5] at H
    have c5b0 : (t294 == 0) = false := beq_eq_false_iff_ne.mpr c5
    have c5b1 : (t294 != 0) = true := bne_iff_ne.mpr c5
    simp only [Option.some.injEq, Prod.mk.injEq] at H
    obtain ⟨rfl, rfl⟩ := H
    go_enter Tryd.func21, Tryd.ntmps21
    go_wp2_with (first | ((with_reducible refine gate_callee (f := 18) rfl ?_); refine goesL_ (some 14) rfl rfl Tryd.func18 (by kernel_rfl) rfl #[.slice A0 l0.length c0, .slice A1 l1.length c1, .int .u32 a2] rfl (by (try simp only [List.map_toArray, List.map_cons, List.map_nil]); first | done | rfl | (simp only [List.length_drop, List.length_take]; rfl)) ?_; (with_reducible refine (pick_Sum.calls k _ _ l0 _ _ l1 a2 t293 t294 _ ?side1 ?side2 ?side3 ?side4 A4.out ?laid).mono ?_); (case laid => first | exact HLT.out | (repeat (first | exact HLT.out | apply Go.Proofs.YtbdlihldmmbdmaaDoor.Bits.TabW.alloc | apply Go.Proofs.YtbdlihldmmbdmaaDoor.Bits.TabW.drewN | exact Go.Proofs.YtbdlihldmmbdmaaDoor.Bits.TabW.below HLT.out HB.out))); (case side1 => repeat (first | exact HR0.out | (with_reducible refine Kd.C_alloc ?_ _) | (with_reducible refine Kd.C_drewN ?_ _) | (with_reducible refine Kd.C_drew ?_))); (case side2 => exact HC0.out); (case side3 => repeat (first | exact HR1.out | (with_reducible refine Kd.C_alloc ?_ _) | (with_reducible refine Kd.C_drewN ?_ _) | (with_reducible refine Kd.C_drew ?_))); (case side4 => exact HC1.out); rintro e w9 ⟨v295, rfl, ho0, hb⟩; refine ⟨_, rfl, ?_⟩; have n0_ := Aside0.mk (Kd.R_lower ho0 (below_size (by repeat (first | (with_reducible first | exact HB.out | apply below_alloc | apply pw_below_drewN | apply below_drew1) | exact HB.out)))); have n1_ := Aside0.mk (below_step (by repeat (first | (with_reducible first | exact HB.out | apply below_alloc | apply pw_below_drewN | apply below_drew1) | exact HB.out)) hb); clear HB; have HO296 := n0_; have HB := n1_; clear n0_ n1_; (try clear hb); (try clear hb2); (try clear hk); (try clear hi); (try clear ho0)))
    go_ret2
    exact ⟨by first | rfl | (simp [errW_none, errW_some] <;> rfl) | (simp [*, errW_none, errW_some] <;> rfl), by repeat (first | (with_reducible first | exact HB.out | apply below_alloc | apply pw_below_drewN | apply below_drew1) | exact HB.out)⟩

-- NOT PRINTED: function 6 (amalgamlaw10_PickColumns)

-- NOT PRINTED: function 9 (amalgamlaw10_lent)

/-! ### amalgamref09_SameAll: function 26 -/
def amalgamref09_SameAll.l0 : Nat → List (List Int) → List (List Int) → Int → Option (Bool)
  | 0, _, _, _ => none
  | k + 1, x0, x1, x5 => if x5 < (x0.length : Int) then (if 0 ≤ x5 then (if x5 < (x1.length : Int) then ((amalgamref09_Same.f k (rd_L1 x0 x5) (rd_L1 x1 x5)).bind fun t300 => (if t300 = true then (amalgamref09_SameAll.l0 k x0 x1 (wrap64 (x5 + 1))) else (some false))) else (none)) else (none)) else (some true)
def amalgamref09_SameAll.f (k : Nat) (l0 : List (List Int)) (l1 : List (List Int)) : Option (Bool) := if (l0.length : Int) = (l1.length : Int) then (amalgamref09_SameAll.l0 k l0 l1 0) else (some false)
theorem amalgamref09_SameAll.mono_l : ∀ k, (∀ y0 y1 y2, LeO (amalgamref09_SameAll.l0 k y0 y1 y2) (amalgamref09_SameAll.l0 (k + 1) y0 y1 y2))
  | 0 => fun _ _ _ r h => by simp [amalgamref09_SameAll.l0] at h
  | k + 1 => by
    have ih0 := amalgamref09_SameAll.mono_l k
    · intro y0 y1 y2
      unfold amalgamref09_SameAll.l0
      repeat' first
      | (with_reducible exact ih0 _ _ _)
      | (with_reducible exact amalgamref09_Same.mono _ _ _)
      | (with_reducible exact LeO.refl _)
      | (with_reducible exact LeO.none _)
      | (with_reducible refine LeO.ite ?_ ?_)
      | (with_reducible refine LeO.bind ?_ (fun _ => ?_))
      | exact ih0 _ _ _
      | exact amalgamref09_Same.mono _ _ _
      | exact LeO.none _
      | refine LeO.ite ?_ ?_
      | refine LeO.bind ?_ (fun _ => ?_)
theorem amalgamref09_SameAll.mono : ∀ a0 a1 k, LeO (amalgamref09_SameAll.f k a0 a1) (amalgamref09_SameAll.f (k + 1) a0 a1) := by
  intro a0 a1 k
  have ih0 := amalgamref09_SameAll.mono_l k
  unfold amalgamref09_SameAll.f
  repeat' first
      | (with_reducible exact ih0 _ _ _)
      | (with_reducible exact amalgamref09_Same.mono _ _ _)
      | (with_reducible exact LeO.refl _)
      | (with_reducible exact LeO.none _)
      | (with_reducible refine LeO.ite ?_ ?_)
      | (with_reducible refine LeO.bind ?_ (fun _ => ?_))
      | exact ih0 _ _ _
      | exact amalgamref09_Same.mono _ _ _
      | exact LeO.none _
      | refine LeO.ite ?_ ?_
      | refine LeO.bind ?_ (fun _ => ?_)
set_option maxHeartbeats 8000000 in
set_option maxRecDepth 100000 in
theorem amalgamref09_SameAll.calls (k : Nat) (A0 : Option Addr) (c0 : Nat) (l0 : List (List Int)) (A1 : Option Addr) (c1 : Nat) (l1 : List (List Int)) (r : Bool) (w : World) (hr0 : Kd.C (Kd.slice 3 (Kd.int .i64)) w A0 l0.length l0) (hc0 : l0.length ≤ c0) (hr1 : Kd.C (Kd.slice 3 (Kd.int .i64)) w A1 l1.length l1) (hc1 : l1.length ≤ c1) (h : amalgamref09_SameAll.f k l0 l1 = some r) :
    Calls Tryd.prog 26 #[.slice A0 l0.length c0, .slice A1 l1.length c1] w fun e w' => e = .returned (.bool r) ∧ Drawn0 w w' := by
  have HR0 := Aside0.mk hr0
  have HC0 := Aside0.mk hc0
  clear hr0 hc0
  have HR1 := Aside0.mk hr1
  have HC1 := Aside0.mk hc1
  clear hr1 hc1
  have H : (if (l0.length : Int) = (l1.length : Int) then (amalgamref09_SameAll.l0 k l0 l1 0) else (some false)) = some r := h
  clear h
  by_cases c3 : (l0.length : Int) = (l1.length : Int)
  · rw [if_pos c3] at H
    have c3b0 : ((l0.length : Int) == (l1.length : Int)) = true := beq_iff_eq.mpr c3
    have c3b1 : ((l0.length : Int) != (l1.length : Int)) = false := bne_eq_false_iff_eq.mpr c3
    have c3b2 : (l0.length == l1.length) = true := by first | simpa using c3 | (simp at c3 ⊢; omega)
    clear c3
    have H' := Aside0.mk H
    clear H
    go_enter Tryd.func26, Tryd.ntmps26
    go_wp2
    repeat (go_quiet (fail); try go_wp2)
    go_loopg [5] k (fun kq v5 w' => ∃ (x5_1 : Int), v5 = .int .i64 x5_1 ∧ Aside0 (amalgamref09_SameAll.l0 kq l0 l1 x5_1 = some r) ∧ Aside0 (kq ≤ k) ∧ Drawn0 w w')
    case atStart => exact ⟨(0), (by first | rfl | (simp; done) | (simp [*]; done)), H', ⟨Nat.le_refl _⟩, by repeat (first | exact Drawn0.refl _ | apply Drawn0.step)⟩
    case round =>
      clear H'
      try clear c1
      try clear c2
      try clear p2
      try clear c3
      try clear c3b0
      try clear c3b1
      try clear c3b2
      obtain ⟨x5_1, rfl, HA, HK1, ⟨m1, rfl⟩⟩ := hrel
      cases gk with
      | zero => exact absurd HA.out (by simp [amalgamref09_SameAll.l0])
      | succ k1 =>
        have H := HA.out
        clear HA
        simp only [amalgamref09_SameAll.l0] at H
        by_cases c4 : x5_1 < (l0.length : Int)
        · rw [if_pos c4] at H
          have c4b0 : decide (x5_1 < (l0.length : Int)) = true := decide_eq_true c4
          clear c4
          by_cases c5 : 0 ≤ x5_1
          · rw [if_pos c5] at H
            have c5b0 : decide (0 ≤ x5_1) = true := decide_eq_true c5
            clear c5
            by_cases c6 : x5_1 < (l1.length : Int)
            · rw [if_pos c6] at H
              have c6b0 : decide (x5_1 < (l1.length : Int)) = true := decide_eq_true c6
              clear c6
              replace H := Option.bind_eq_some_iff.mp H
              obtain ⟨t300, A70, H⟩ := H
              replace H : (if t300 = true then (amalgamref09_SameAll.l0 k1 l0 l1 (wrap64 (x5_1 + 1))) else (some false)) = some r := H
              have A7 := Aside0.mk A70
              clear A70
              by_cases c8 : t300 = true
              · subst c8
                have H1 : (amalgamref09_SameAll.l0 k1 l0 l1 (wrap64 (x5_1 + 1))) = some r := by rw [if_pos rfl] at H; exact H
                clear H
                have H := H1
                clear H1
                have H' := Aside0.mk H
                clear H
                have p298 : 0 ≤ (x5_1 : Int) := of_decide_eq_true (by first | (with_reducible assumption) | assumption)
                have q298 : x5_1 < (l0.length : Int) := of_decide_eq_true (by first | (with_reducible assumption) | assumption)
                obtain ⟨ad298, A298_0, c298_0, e298, hx298_0, hl298_0, hi298_0⟩ := at_L1 HR0.out x5_1 p298 q298
                cases e298
                have HR298_0 := Aside0.mk hi298_0
                have HC298_0 := Aside0.mk hl298_0
                clear hi298_0 hl298_0
                replace p298 := eq_true p298
                replace q298 := eq_true q298
                have p299 : 0 ≤ (x5_1 : Int) := of_decide_eq_true (by first | (with_reducible assumption) | assumption)
                have q299 : x5_1 < (l1.length : Int) := of_decide_eq_true (by first | (with_reducible assumption) | assumption)
                obtain ⟨ad299, A299_0, c299_0, e299, hx299_0, hl299_0, hi299_0⟩ := at_L1 HR1.out x5_1 p299 q299
                cases e299
                have HR299_0 := Aside0.mk hi299_0
                have HC299_0 := Aside0.mk hl299_0
                clear hi299_0 hl299_0
                replace p299 := eq_true p299
                replace q299 := eq_true q299
                go_wp2_with (first | (go_at_call 20; (with_reducible refine (amalgamref09_Same.calls k1 _ _ (rd_L1 l0 x5_1) _ _ (rd_L1 l1 x5_1) true _ ?side1 ?side2 ?side3 ?side4 A7.out).mono ?_); (case side1 => repeat (first | exact HR298_0.out | (with_reducible refine Kd.C_alloc ?_ _) | (with_reducible refine Kd.C_drewN ?_ _) | (with_reducible refine Kd.C_drew ?_))); (case side2 => exact HC298_0.out); (case side3 => repeat (first | exact HR299_0.out | (with_reducible refine Kd.C_alloc ?_ _) | (with_reducible refine Kd.C_drewN ?_ _) | (with_reducible refine Kd.C_drew ?_))); (case side4 => exact HC299_0.out); rintro e w' ⟨rfl, ⟨nd, rfl⟩⟩; (try first | exact ⟨rfl, _, World.drewN_drewN _ _ _⟩ | exact ⟨rfl, _, Eq.trans (World.drewN_drewN _ _ _) (congrArg (World.drewN _) (Nat.add_assoc _ _ _))⟩)))
                repeat (go_quiet (first | (go_at_call 20; (with_reducible refine (amalgamref09_Same.calls k1 _ _ (rd_L1 l0 x5_1) _ _ (rd_L1 l1 x5_1) true _ ?side1 ?side2 ?side3 ?side4 A7.out).mono ?_); (case side1 => repeat (first | exact HR298_0.out | (with_reducible refine Kd.C_alloc ?_ _) | (with_reducible refine Kd.C_drewN ?_ _) | (with_reducible refine Kd.C_drew ?_))); (case side2 => exact HC298_0.out); (case side3 => repeat (first | exact HR299_0.out | (with_reducible refine Kd.C_alloc ?_ _) | (with_reducible refine Kd.C_drewN ?_ _) | (with_reducible refine Kd.C_drew ?_))); (case side4 => exact HC299_0.out); rintro e w' ⟨rfl, ⟨nd, rfl⟩⟩; (try first | exact ⟨rfl, _, World.drewN_drewN _ _ _⟩ | exact ⟨rfl, _, Eq.trans (World.drewN_drewN _ _ _) (congrArg (World.drewN _) (Nat.add_assoc _ _ _))⟩))); try go_wp2_with (first | (go_at_call 20; (with_reducible refine (amalgamref09_Same.calls k1 _ _ (rd_L1 l0 x5_1) _ _ (rd_L1 l1 x5_1) true _ ?side1 ?side2 ?side3 ?side4 A7.out).mono ?_); (case side1 => repeat (first | exact HR298_0.out | (with_reducible refine Kd.C_alloc ?_ _) | (with_reducible refine Kd.C_drewN ?_ _) | (with_reducible refine Kd.C_drew ?_))); (case side2 => exact HC298_0.out); (case side3 => repeat (first | exact HR299_0.out | (with_reducible refine Kd.C_alloc ?_ _) | (with_reducible refine Kd.C_drewN ?_ _) | (with_reducible refine Kd.C_drew ?_))); (case side4 => exact HC299_0.out); rintro e w' ⟨rfl, ⟨nd, rfl⟩⟩; (try first | exact ⟨rfl, _, World.drewN_drewN _ _ _⟩ | exact ⟨rfl, _, Eq.trans (World.drewN_drewN _ _ _) (congrArg (World.drewN _) (Nat.add_assoc _ _ _))⟩))))
                go_roundg k1
                case measure => have := HK1.out; omega
                case rel => exact ⟨(wrap64 (x5_1 + 1)), (by first | rfl | (simp; done) | (simp [*]; done)), H', ⟨by have := HK1.out; omega⟩, by repeat (first | exact Drawn0.refl _ | apply Drawn0.step)⟩
              · replace c8 := Bool.eq_false_iff.mpr c8
                subst c8
                have H1 : (some false) = some r := by rw [if_neg (show ¬ (false = true) by decide)] at H; exact H
                clear H
                have H := H1
                clear H1
                obtain rfl := Option.some.inj H
                have p298 : 0 ≤ (x5_1 : Int) := of_decide_eq_true (by first | (with_reducible assumption) | assumption)
                have q298 : x5_1 < (l0.length : Int) := of_decide_eq_true (by first | (with_reducible assumption) | assumption)
                obtain ⟨ad298, A298_0, c298_0, e298, hx298_0, hl298_0, hi298_0⟩ := at_L1 HR0.out x5_1 p298 q298
                cases e298
                have HR298_0 := Aside0.mk hi298_0
                have HC298_0 := Aside0.mk hl298_0
                clear hi298_0 hl298_0
                replace p298 := eq_true p298
                replace q298 := eq_true q298
                have p299 : 0 ≤ (x5_1 : Int) := of_decide_eq_true (by first | (with_reducible assumption) | assumption)
                have q299 : x5_1 < (l1.length : Int) := of_decide_eq_true (by first | (with_reducible assumption) | assumption)
                obtain ⟨ad299, A299_0, c299_0, e299, hx299_0, hl299_0, hi299_0⟩ := at_L1 HR1.out x5_1 p299 q299
                cases e299
                have HR299_0 := Aside0.mk hi299_0
                have HC299_0 := Aside0.mk hl299_0
                clear hi299_0 hl299_0
                replace p299 := eq_true p299
                replace q299 := eq_true q299
                go_wp2_with (first | (go_at_call 20; (with_reducible refine (amalgamref09_Same.calls k1 _ _ (rd_L1 l0 x5_1) _ _ (rd_L1 l1 x5_1) false _ ?side1 ?side2 ?side3 ?side4 A7.out).mono ?_); (case side1 => repeat (first | exact HR298_0.out | (with_reducible refine Kd.C_alloc ?_ _) | (with_reducible refine Kd.C_drewN ?_ _) | (with_reducible refine Kd.C_drew ?_))); (case side2 => exact HC298_0.out); (case side3 => repeat (first | exact HR299_0.out | (with_reducible refine Kd.C_alloc ?_ _) | (with_reducible refine Kd.C_drewN ?_ _) | (with_reducible refine Kd.C_drew ?_))); (case side4 => exact HC299_0.out); rintro e w' ⟨rfl, ⟨nd, rfl⟩⟩; (try first | exact ⟨rfl, _, World.drewN_drewN _ _ _⟩ | exact ⟨rfl, _, Eq.trans (World.drewN_drewN _ _ _) (congrArg (World.drewN _) (Nat.add_assoc _ _ _))⟩)))
                repeat (go_quiet (first | (go_at_call 20; (with_reducible refine (amalgamref09_Same.calls k1 _ _ (rd_L1 l0 x5_1) _ _ (rd_L1 l1 x5_1) false _ ?side1 ?side2 ?side3 ?side4 A7.out).mono ?_); (case side1 => repeat (first | exact HR298_0.out | (with_reducible refine Kd.C_alloc ?_ _) | (with_reducible refine Kd.C_drewN ?_ _) | (with_reducible refine Kd.C_drew ?_))); (case side2 => exact HC298_0.out); (case side3 => repeat (first | exact HR299_0.out | (with_reducible refine Kd.C_alloc ?_ _) | (with_reducible refine Kd.C_drewN ?_ _) | (with_reducible refine Kd.C_drew ?_))); (case side4 => exact HC299_0.out); rintro e w' ⟨rfl, ⟨nd, rfl⟩⟩; (try first | exact ⟨rfl, _, World.drewN_drewN _ _ _⟩ | exact ⟨rfl, _, Eq.trans (World.drewN_drewN _ _ _) (congrArg (World.drewN _) (Nat.add_assoc _ _ _))⟩))); try go_wp2_with (first | (go_at_call 20; (with_reducible refine (amalgamref09_Same.calls k1 _ _ (rd_L1 l0 x5_1) _ _ (rd_L1 l1 x5_1) false _ ?side1 ?side2 ?side3 ?side4 A7.out).mono ?_); (case side1 => repeat (first | exact HR298_0.out | (with_reducible refine Kd.C_alloc ?_ _) | (with_reducible refine Kd.C_drewN ?_ _) | (with_reducible refine Kd.C_drew ?_))); (case side2 => exact HC298_0.out); (case side3 => repeat (first | exact HR299_0.out | (with_reducible refine Kd.C_alloc ?_ _) | (with_reducible refine Kd.C_drewN ?_ _) | (with_reducible refine Kd.C_drew ?_))); (case side4 => exact HC299_0.out); rintro e w' ⟨rfl, ⟨nd, rfl⟩⟩; (try first | exact ⟨rfl, _, World.drewN_drewN _ _ _⟩ | exact ⟨rfl, _, Eq.trans (World.drewN_drewN _ _ _) (congrArg (World.drewN _) (Nat.add_assoc _ _ _))⟩))))
                go_ret
                exact ⟨by first | rfl | (simp; done) | (simp [*]; done), by repeat (first | exact Drawn0.refl _ | apply Drawn0.step)⟩
            · rw [if_neg c6] at H
              exact absurd H (by simp)
          · rw [if_neg c5] at H
            exact absurd H (by simp)
        · rw [if_neg c4] at H
          have c4b0 : decide (x5_1 < (l0.length : Int)) = false := decide_eq_false c4
          clear c4
          obtain rfl := Option.some.inj H
          go_wp2
          repeat (go_quiet (fail); try go_wp2)
          go_ret
          exact ⟨by first | rfl | (simp; done) | (simp [*]; done), by repeat (first | exact Drawn0.refl _ | apply Drawn0.step)⟩
  · rw [if_neg c3] at H
    have c3b0 : ((l0.length : Int) == (l1.length : Int)) = false := beq_eq_false_iff_ne.mpr c3
    have c3b1 : ((l0.length : Int) != (l1.length : Int)) = true := bne_iff_ne.mpr c3
    have c3b2 : (l0.length == l1.length) = false := by first | simpa using c3 | (simp at c3 ⊢; omega)
    obtain rfl := Option.some.inj H
    go_enter Tryd.func26, Tryd.ntmps26
    go_wp2
    repeat (go_quiet (fail); try go_wp2)
    go_ret
    exact ⟨by first | rfl | (simp; done) | (simp [*]; done), by repeat (first | exact Drawn0.refl _ | apply Drawn0.step)⟩

end Go.Proofs.YtbdlihldmmbdmaaDoor.SK

namespace Go.Proofs.YtbdlihldmmbdmaaDoor.PickSpec
open Go.RowKit Go.Proofs.YtbdlihldmmbdmaaDoor.SK Go.Proofs.YtbdlihldmmbdmaaDoorW.PrintWords Go.Proofs.YtbdlihldmmbdmaaDoorW.PrintMore Go.Proofs.YtbdlihldmmbdmaaDoor.Plain
set_option linter.unusedVariables false

def fitB (s w : Int) : Bool := !((w == 1 && decide (s < 1)) || (w == 2 && !(s == 1)))
def fitsB (sum want : List Int) : Bool := (List.zipWith fitB sum want).all id
theorem zip_len {sum want : List Int} (h : sum.length = want.length) : (List.zipWith fitB sum want).length = want.length := by simp [h]
theorem zip_get {sum want : List Int} {i : Nat} (h1 : i < sum.length) (h2 : i < want.length) (h : i < (List.zipWith fitB sum want).length) : (List.zipWith fitB sum want)[i] = fitB sum[i] want[i] := by simp

theorem fits_l0 (sum want : List Int) (hl : sum.length = want.length) (hw : want.length ≤ 10) :
    ∀ d i : Nat, i + d = want.length → Ev (fun k => amalgamref10_fits.l0 k sum want (i : Int)) (((List.zipWith fitB sum want).drop i).all id) := by
  intro d
  induction d with
  | zero =>
    intro i hi
    rw [drop_all_end (by rw [zip_len hl]; omega)]
    refine Ev.round (Ev.now _) fun k => ?_
    simp only [amalgamref10_fits.l0]
    rw [if_neg (by omega)]
  | succ d ih =>
    intro i hi
    have h1 : i < want.length := by omega
    have h2 : i < sum.length := by omega
    rw [drop_all (show i < (List.zipWith fitB sum want).length by rw [zip_len hl]; omega), zip_get h2 h1]
    have hih := ih (i + 1) (by omega)
    generalize (((List.zipWith fitB sum want).drop (i + 1)).all id) = rest at hih ⊢
    have h3 := rd_lt h1
    have h4 := rd_lt h2
    have hwr : wrap64 ((i : Int) + 1) = ((i + 1 : Nat) : Int) := wrap_nat (by omega)
    by_cases c1 : want[i] = 1
    · by_cases c2 : sum[i] < 1
      · refine Ev.round (Ev.now _) fun k => ?_
        simp only [amalgamref10_fits.l0]
        rw [if_pos (by omega), if_pos (by omega), h3, if_pos c1, if_pos (by omega), h4, if_pos c2]
        simp [fitB, c1, c2]
      · refine Ev.round (Ev.cast hih (by simp [fitB, c1, c2])) fun k => ?_
        simp only [amalgamref10_fits.l0]
        rw [if_pos (by omega), if_pos (by omega), h3, if_pos c1, if_pos (by omega), h4, if_neg c2, if_neg (by omega), hwr]
    · by_cases c2 : want[i] = 2
      · by_cases c3 : sum[i] = 1
        · refine Ev.round (Ev.cast hih (by simp [fitB, c2, c3])) fun k => ?_
          simp only [amalgamref10_fits.l0]
          rw [if_pos (by omega), if_pos (by omega), h3, if_neg c1, if_pos c2, if_pos (by omega), h4, if_pos c3, hwr]
        · refine Ev.round (Ev.now _) fun k => ?_
          simp only [amalgamref10_fits.l0]
          rw [if_pos (by omega), if_pos (by omega), h3, if_neg c1, if_pos c2, if_pos (by omega), h4, if_neg c3]
          simp [fitB, c2, c3]
      · refine Ev.round (Ev.cast hih (by simp [fitB, c1, c2])) fun k => ?_
        simp only [amalgamref10_fits.l0]
        rw [if_pos (by omega), if_pos (by omega), h3, if_neg c1, if_neg c2, hwr]
theorem fits_ev (sum want : List Int) (hl : sum.length = want.length) (hw : want.length ≤ 10) : Ev (fun k => amalgamref10_fits.f k sum want) (fitsB sum want) :=
  Ev.cast (fits_l0 sum want hl hw want.length 0 (by omega)) (by simp [fitsB])

theorem meets_l0 (sum want : List Int) (hl : sum.length = want.length) (hw : want.length ≤ 10) (hs : ∀ s ∈ sum, 0 ≤ s) :
    ∀ d i : Nat, i + d = want.length → Ev (fun k => pick_meets.l0 k sum want (want.length : Int) (i : Int)) (((List.zipWith fitB sum want).drop i).all id) := by
  intro d
  induction d with
  | zero =>
    intro i hi
    rw [drop_all_end (by rw [zip_len hl]; omega)]
    refine Ev.round (Ev.now _) fun k => ?_
    simp only [pick_meets.l0]
    rw [if_neg (by omega)]
  | succ d ih =>
    intro i hi
    have h1 : i < want.length := by omega
    have h2 : i < sum.length := by omega
    rw [drop_all (show i < (List.zipWith fitB sum want).length by rw [zip_len hl]; omega), zip_get h2 h1]
    have hih := ih (i + 1) (by omega)
    generalize (((List.zipWith fitB sum want).drop (i + 1)).all id) = rest at hih ⊢
    have h3 := rd_lt h1
    have h4 := rd_lt h2
    have h5 := hs _ (List.getElem_mem h2)
    have hwr : wrap64 ((i : Int) + 1) = ((i + 1 : Nat) : Int) := wrap_nat (by omega)
    by_cases c1 : want[i] = 1
    · by_cases c2 : sum[i] = 0
      · refine Ev.round (Ev.now _) fun k => ?_
        simp only [pick_meets.l0]
        rw [if_pos (by omega), if_pos (by omega), if_pos (by omega), h3, if_pos c1, if_pos (by omega), h4, if_pos c2]
        simp [fitB, c1, c2]
      · refine Ev.round (Ev.cast hih (by simp [fitB, c1]; omega)) fun k => ?_
        simp only [pick_meets.l0]
        rw [if_pos (by omega), if_pos (by omega), if_pos (by omega), h3, if_pos c1, if_pos (by omega), h4, if_neg c2, if_neg (by omega), hwr]
    · by_cases c2 : want[i] = 2
      · by_cases c3 : sum[i] = 1
        · refine Ev.round (Ev.cast hih (by simp [fitB, c2, c3])) fun k => ?_
          simp only [pick_meets.l0]
          rw [if_pos (by omega), if_pos (by omega), if_pos (by omega), h3, if_neg c1, if_pos c2, if_pos (by omega), h4, if_pos c3, hwr]
        · refine Ev.round (Ev.now _) fun k => ?_
          simp only [pick_meets.l0]
          rw [if_pos (by omega), if_pos (by omega), if_pos (by omega), h3, if_neg c1, if_pos c2, if_pos (by omega), h4, if_neg c3]
          simp [fitB, c2, c3]
      · refine Ev.round (Ev.cast hih (by simp [fitB, c1, c2])) fun k => ?_
        simp only [pick_meets.l0]
        rw [if_pos (by omega), if_pos (by omega), if_pos (by omega), h3, if_neg c1, if_neg c2, hwr]
theorem meets_ev (sum want : List Int) (hl : sum.length = want.length) (hw : want.length ≤ 10) (hs : ∀ s ∈ sum, 0 ≤ s) : Ev (fun k => pick_meets.f k sum want) (fitsB sum want) :=
  Ev.cast (meets_l0 sum want hl hw hs want.length 0 (by omega)) (by simp [fitsB])

/-! sums of right rows: no wrap -/
theorem addM_length : ∀ (rows : List (List Int)) (m n : Nat) (acc : List Int), (∀ row ∈ rows, row.length = n) → acc.length = n → (addM rows m acc).length = n
  | [], _, _, _, _, h => h
  | row :: rows, m, n, acc, hr, h => by
    unfold addM
    refine addM_length rows _ n _ (fun r hr' => hr r (List.mem_cons_of_mem _ hr')) ?_
    split
    · exact addRow_length h (hr row List.mem_cons_self)
    · exact h
theorem addM_bound : ∀ (rows : List (List Int)) (m B : Nat) (acc : List Int), (∀ row ∈ rows, ∀ x ∈ row, 0 ≤ x ∧ x ≤ 1048576) → (∀ x ∈ acc, 0 ≤ x ∧ x ≤ (B : Int)) → B + rows.length * 1048576 ≤ 4611686018427387904 →
    ∀ x ∈ addM rows m acc, 0 ≤ x ∧ x ≤ ((B + rows.length * 1048576 : Nat) : Int)
  | [], _, B, acc, _, h, _ => fun x hx => by
    have := h x hx
    simp
    omega
  | row :: rows, m, B, acc, hr, h, hb => fun x hx => by
    unfold addM at hx
    simp only [List.length_cons] at hb ⊢
    have := addM_bound rows (m / 2) (B + 1048576) (if m % 2 = 1 then addRow acc row else acc) (fun r hr' => hr r (List.mem_cons_of_mem _ hr')) (fun y hy => by
      split at hy
      · unfold addRow at hy
        obtain ⟨i, hi, rfl⟩ := List.getElem_of_mem hy
        have hi' : i < acc.length ∧ i < row.length := by simp at hi; omega
        rw [List.getElem_zipWith]
        have h1 := h _ (List.getElem_mem hi'.1)
        have h2 := hr row List.mem_cons_self _ (List.getElem_mem hi'.2)
        rw [wrap_id (by omega) (by omega)]
        omega
      · have := h y hy
        omega) (by omega) x hx
    omega
def zeros (n : Nat) : List Int := List.replicate n 0
def fitsM (rows : List (List Int)) (want : List Int) (m : Nat) : Bool := fitsB (addM rows m (List.replicate want.length 0)) want
theorem addM_right {rows : List (List Int)} {want : List Int} (h : chk rows want = 0) (m : Nat) :
    (addM rows m (List.replicate want.length 0)).length = want.length ∧ ∀ x ∈ addM rows m (List.replicate want.length 0), 0 ≤ x ∧ x ≤ 16777216 := by
  obtain ⟨h16, h10, _, hr⟩ := chk_zero h
  refine ⟨addM_length rows m want.length _ (fun row hrow => (hr row hrow).1) (by simp), fun x hx => ?_⟩
  have := addM_bound rows m 0 (List.replicate want.length 0) (fun row hrow => (hr row hrow).2) (fun y hy => by rw [List.eq_of_mem_replicate hy]; simp) (by omega) x hx
  omega

/-! All and List -/
def masksFrom (rows : List (List Int)) (want : List Int) (m d : Nat) : List Nat := (List.range' m d).filter (fitsM rows want)
theorem masksFrom_succ (rows : List (List Int)) (want : List Int) (m d : Nat) : masksFrom rows want m (d + 1) = if fitsM rows want m then m :: masksFrom rows want (m + 1) d else masksFrom rows want (m + 1) d := by
  unfold masksFrom
  rw [List.range'_succ, List.filter_cons]
def masksN (rows : List (List Int)) (want : List Int) : List Nat := masksFrom rows want 0 (2 ^ rows.length)
def masks (rows : List (List Int)) (want : List Int) : List Int := (masksN rows want).map fun m : Nat => (m : Int)
theorem pow_le16 {n : Nat} (h : n ≤ 16) : 2 ^ n ≤ 65536 := Nat.le_trans (Nat.pow_le_pow_right (by decide) h) (by decide)
theorem masksN_length (rows : List (List Int)) (want : List Int) (h : rows.length ≤ 16) : (masksN rows want).length ≤ 65536 := by
  unfold masksN masksFrom
  exact Nat.le_trans (List.length_filter_le _ _) (by rw [List.length_range']; exact pow_le16 h)
theorem shl_one {n : Nat} (h : n ≤ 16) : shl .u32 1 (n : Int) = ((2 ^ n : Nat) : Int) := by
  unfold shl
  rw [Int.toNat_natCast, Nat.min_eq_left (show n ≤ IntKind.u32.bits by simp [IntKind.bits]; omega), IntKind.wrap_u32]
  have := pow_le16 h
  rw [Int.one_mul]
  have h2 : ((2 : Int) ^ n) = ((2 ^ n : Nat) : Int) := by simp
  rw [h2]
  exact Int.emod_eq_of_lt (Int.natCast_nonneg _) (by omega)
theorem all_l0 (rows : List (List Int)) (want : List Int) (hc : chk rows want = 0) :
    ∀ d m : Nat, ∀ out : List Int, m + d = 2 ^ rows.length → out.length ≤ m → Ev (fun k => amalgamref10_All.l0 k rows want 65536 out (m : Int)) (out ++ (masksFrom rows want m d).map fun m : Nat => (m : Int)) := by
  obtain ⟨h16, h10, _, hr⟩ := chk_zero hc
  have hp := pow_le16 h16
  intro d
  induction d with
  | zero =>
    intro m out hm ho
    refine Ev.round (f := fun k => amalgamref10_All.j1 k rows want 65536 out (m : Int) false) (Ev.round (Ev.now _) fun k => ?_) fun k => ?_
    · simp only [amalgamref10_All.j1]
      rw [if_neg (by simp)]
      simp [masksFrom]
    · simp only [amalgamref10_All.l0]
      rw [shl_one h16, if_neg (by omega)]
  | succ d ih =>
    intro m out hm ho
    have hadd := add_ev rows want.length m h10 h16 (by omega) (fun i hi => (hr _ (List.getElem_mem hi)).1)
    have hr2 := addM_right hc m
    have hfit := fits_ev (addM rows m (List.replicate want.length 0)) want hr2.1 h10
    refine Ev.round (f := fun k => amalgamref10_All.j1 k rows want 65536 out (m : Int) true) (Ev.round (f := fun k => (amalgamref10_add.f k rows (want.length : Int) (m : Int)).bind fun t => (amalgamref10_fits.f k t want).bind fun t2 => if t2 = true then (amalgamref10_All.l0 k rows want 65536 (out ++ [(m : Int)]) ((m + 1 : Nat) : Int)) else (amalgamref10_All.l0 k rows want 65536 out ((m + 1 : Nat) : Int))) (Ev.then hadd (Ev.then hfit ?_)) fun k => ?_) fun k => ?_
    · rw [masksFrom_succ]
      unfold fitsM
      cases hb : fitsB (addM rows m (List.replicate want.length 0)) want with
      | true =>
        simp only [if_true]
        exact Ev.cast (ih (m + 1) (out ++ [(m : Int)]) (by omega) (by simp; omega)) (by simp)
      | false =>
        simp only [Bool.false_eq_true, if_false]
        exact ih (m + 1) out (by omega) (by omega)
    · simp only [amalgamref10_All.j1]
      have hm1 : ((m : Int) + 1) % 4294967296 = ((m + 1 : Nat) : Int) := by omega
      rw [if_pos trivial, hm1]
      simp only [if_pos (show out.length < 35184372088832 by omega)]
    · simp only [amalgamref10_All.l0]
      rw [shl_one h16, if_pos (by omega), decide_eq_true (by omega : (out.length : Int) < 65536)]
theorem all_ev (rows : List (List Int)) (want : List Int) (hc : chk rows want = 0) : Ev (fun k => amalgamref10_All.f k rows want 65536) (masks rows want) := by
  unfold amalgamref10_All.f
  refine Ev.then (check_ev rows want) ?_
  simp only [hc, if_true]
  exact Ev.cast (all_l0 rows want hc (2 ^ rows.length) 0 [] (by omega) (by simp)) (by simp [masks, masksN])
def listS (rows : List (List Int)) (want : List Int) (most : Int) : List Int × Int :=
  if chk rows want = 0 then (if most < 0 then ([], 1) else if ((masks rows want).length : Int) > most then ([], 2) else (masks rows want, 0)) else ([], chk rows want)
theorem list_ev (rows : List (List Int)) (want : List Int) (most : Int) : Ev (fun k => amalgamref10_List.f k rows want most) (listS rows want most) := by
  unfold amalgamref10_List.f listS
  refine Ev.then (check_ev rows want) ?_
  by_cases hc : chk rows want = 0
  · simp only [hc, if_true]
    by_cases hm : most < 0
    · simp only [hm, if_true]
      exact Ev.now _
    · simp only [hm, if_false]
      refine Ev.then (all_ev rows want hc) ?_
      split
      · exact Ev.now _
      · exact Ev.now _
  · simp only [hc, if_false]
    exact Ev.now _
end Go.Proofs.YtbdlihldmmbdmaaDoor.PickSpec

namespace Go.Proofs.YtbdlihldmmbdmaaDoor.PickWalker
open Go.RowKit Go.Proofs.YtbdlihldmmbdmaaDoor.SK Go.Proofs.YtbdlihldmmbdmaaDoorW.PrintWords Go.Proofs.YtbdlihldmmbdmaaDoorW.PrintMore Go.Proofs.YtbdlihldmmbdmaaDoor.PickSpec Go.Proofs.YtbdlihldmmbdmaaDoor.PickFn Go.Proofs.YtbdlihldmmbdmaaDoor.Bits Go.Proofs.YtbdlihldmmbdmaaDoor.Plain Go.Proofs.YtbdlihldmmbdmaaDoor.Range
set_option linter.unusedVariables false

/-- What the closure's call leaves, its variable (block bn) having held nx. -/
def StepPost (rows : List (List Int)) (want : List Int) (bn nx : Nat) (w : World) (e : Ending) (w' : World) : Prop :=
  ∃ (m' : Nat) (b : Bool) (nx' : Nat), e = .returned (.tuple #[.int .u32 (m' : Int), .bool b]) ∧ w'.heap[bn]? = some (.cells #[.int .u32 (nx' : Int)] 37 (0, 0)) ∧ Only (fun k => k = bn) w w' ∧ nx' ≤ 2 ^ rows.length ∧ (b = true → nx < nx') ∧
    match masksFrom rows want nx (2 ^ rows.length - nx) with
    | [] => b = false ∧ nx' = 2 ^ rows.length
    | m :: ms => b = true ∧ m' = m ∧ masksFrom rows want nx' (2 ^ rows.length - nx') = ms

/-- What the iterator reads, in blocks of ok: the rows' and the wants' boxes, the rows, the table. -/
structure Held (rows : List (List Int)) (want : List Int) (br bw base : Nat) (ok : Nat → Prop) (A0 : Option Addr) (c0 : Nat) (A1 : Option Addr) (c1 : Nat) (W : World) : Prop where
  chk0 : chk rows want = 0
  rb : W.cell? ⟨br, 0, none⟩ = some (.slice A0 rows.length c0)
  wb : W.cell? ⟨bw, 0, none⟩ = some (.slice A1 want.length c1)
  okr : ok br
  okw : ok bw
  okt : ok 0
  rows_ : Kd.R (Kd.slice 3 (Kd.int .i64)) 23 W base ok (.slice A0 rows.length c0) rows
  want_ : Kd.R (Kd.int .i64) 3 W base ok (.slice A1 want.length c1) want
  tab : TabW W
theorem cell_only {S : Nat → Prop} {A B : World} {k : Nat} {j : Nat} {v : Value} (h : Only S A B) (hs : ¬ S k) (hc : A.cell? ⟨k, j, none⟩ = some v) : B.cell? ⟨k, j, none⟩ = some v :=
  (World.cell?_of_block (a := ⟨k, j, none⟩) (h.block k (World.block_lt_of_cell? A ⟨k, j, none⟩ hc) hs)).trans hc
theorem Held.later {rows : List (List Int)} {want : List Int} {br bw base : Nat} {ok : Nat → Prop} {A0 : Option Addr} {c0 : Nat} {A1 : Option Addr} {c1 : Nat} {A B : World} (h : Held rows want br bw base ok A0 c0 A1 c1 A) (ho : Only (fun k => ¬ ok k) A B) : Held rows want br bw base ok A0 c0 A1 c1 B :=
  ⟨h.chk0, cell_only ho (fun e => e h.okr) h.rb, cell_only ho (fun e => e h.okw) h.wb, h.okr, h.okw, h.okt, Kd.R_step h.rows_ (fun k hk hl => ho.block k hl (fun e => e hk)), Kd.R_step h.want_ (fun k hk hl => ho.block k hl (fun e => e hk)),
    ⟨fun j hj => cell_only ho (fun e => e h.okt) (h.tab.out j hj)⟩⟩
theorem Held.below {rows : List (List Int)} {want : List Int} {br bw base : Nat} {ok : Nat → Prop} {A0 : Option Addr} {c0 : Nat} {A1 : Option Addr} {c1 : Nat} {A B : World} (h : Held rows want br bw base ok A0 c0 A1 c1 A) (ho : Below A.heap.size A B) : Held rows want br bw base ok A0 c0 A1 c1 B := h.later (Only.of_below ho)

def nextOf (bn : Nat) (W : World) : Nat := (intOf ((W.cell? ⟨bn, 0, none⟩).getD undef)).toNat
theorem nextOf_eq {bn x : Nat} {W : World} {t : TypeId} (h : W.heap[bn]? = some (.cells #[.int .u32 (x : Int)] t (0, 0))) : nextOf bn W = x := by
  unfold nextOf; rw [cell_of_one h]; simp [intOf]
theorem heap_below {A B : World} {k : Nat} {o : Obj} (h : Below A.heap.size A B) (hk : A.heap[k]? = some o) : B.heap[k]? = some o :=
  (h.block k (Array.getElem?_eq_some_iff.1 hk).1).trans hk

set_option maxHeartbeats 4000000 in
theorem step_any (rows : List (List Int)) (want : List Int) (br bn bw base : Nat) (ok : Nat → Prop) (A0 : Option Addr) (c0 : Nat) (A1 : Option Addr) (c1 : Nat) (w : World) (H : Held rows want br bw base ok A0 c0 A1 c1 w)
    (hbn : ¬ ok bn) (nx : Nat) (hnx : nx ≤ 2 ^ rows.length) (hnb : w.heap[bn]? = some (.cells #[.int .u32 (nx : Int)] 37 (0, 0))) :
    Calls Tryd.prog 41 #[.pointer (some ⟨br, 0, none⟩), .pointer (some ⟨bn, 0, none⟩), .pointer (some ⟨bw, 0, none⟩)] w (StepPost rows want bn nx w) := by
  obtain ⟨h16, h10, _, hr⟩ := chk_zero H.chk0
  have hp := pow_le16 h16
  have hrb := H.rb
  have hwb := H.wb
  have HN := Aside0.mk hnb
  have HH := Aside0.mk H
  have hon : ∀ {B : World}, Only (fun k => k = bn) w B → Only (fun k => ¬ ok k) w B := fun ho => ho.mono (fun k _ e => by rw [e]; exact hbn)
  have HON := Aside0.mk @hon
  have hsh := shl_one h16
  obtain ⟨E, hE⟩ : ∃ E, E = 2 ^ rows.length := ⟨_, rfl⟩
  rw [← hE] at hp hnx
  have HE := Aside0.mk hE
  have hsh2 : (2 : Int) ^ rows.length % 4294967296 = (E : Int) := by
    have : ((2 : Int) ^ rows.length) = (E : Int) := by rw [hE]; simp
    rw [this]; omega
  have HCH := Aside0.mk H.chk0
  clear hnb H hr hsh hE hon
  go_enter Tryd.func41, Tryd.ntmps41
  go_wp2
  rw [hsh2]
  clear hsh2
  go_loopw [6] (fun v6 wr => ∃ x : Nat, nx ≤ x ∧ x ≤ E ∧ Aside0 (wr.heap[bn]? = some (.cells #[.int .u32 (x : Int)] 37 (0, 0))) ∧ Aside0 (masksFrom rows want x (E - x) = masksFrom rows want nx (E - nx)) ∧ Aside0 (Only (fun k => k = bn) w wr)) (fun _ wr => E - nextOf bn wr)
  case atStart => exact ⟨nx, Nat.le_refl _, hnx, HN, ⟨rfl⟩, ⟨Only.refl _ _⟩⟩
  case round =>
    obtain ⟨x, hnxx, hx, HX, HF, HO⟩ := hrel
    have hnc := cell_of_one HX.out
    have hnf := free_of_one HX.out
    have hH1 := HH.out.later (HON.out HO.out)
    have hrb := hH1.rb
    have hwb := hH1.wb
    clear hH1
    by_cases hlt : x < E
    · have HXR := HX
      go_wp2
      obtain ⟨wr2, hwr2⟩ : ∃ W, W = wr.setCell ⟨bn, 0, none⟩ (.int .u32 ((x : Int) + 1)) := ⟨_, rfl⟩
      have HX2 := Aside0.mk (show wr2.heap[bn]? = some (.cells #[.int .u32 ((x + 1 : Nat) : Int)] 37 (0, 0)) by rw [hwr2]; exact one_setCell HX.out)
      have HO2 := Aside0.mk (show Only (fun k => k = bn) w wr2 by rw [hwr2]; exact HO.out.setCell _ _ (.inl rfl))
      have hH2 := HH.out.later (HON.out HO2.out)
      have hrb := hH2.rb
      have hwb := hH2.wb
      obtain ⟨sm, hsm⟩ : ∃ sm, sm = addM rows x (List.replicate want.length 0) := ⟨_, rfl⟩
      have HT := Aside0.mk (fun (W : World) (hb : Below wr2.heap.size wr2 W) => PickTotal.total_any A0 c0 rows want.length x W (Kd.R_reads' (hH2.below hb).rows_).2.2 h10 h16 (rows_len HCH.out) (by rw [← HE.out]; exact hlt) (hH2.below hb).tab)
      have hright := addM_right HCH.out x
      rw [← hsm] at hright HT
      obtain ⟨kk, hkk⟩ := Ev.rounds (meets_ev sm want hright.1 h10 (fun s hs => (hright.2 s hs).1))
      have HK := Aside0.mk hkk
      have HFM := Aside0.mk (show fitsM rows want x = fitsB sm want by rw [hsm]; rfl)
      obtain ⟨b, hb⟩ : ∃ b, b = fitsB sm want := ⟨_, rfl⟩
      rw [← hb] at HK HFM
      rw [← hwr2]
      have HW := Aside0.mk (fun (W : World) (hb : Below wr2.heap.size wr2 W) => (Kd.R_reads' (hH2.below hb).want_).2.2)
      have hc1 := (Kd.R_reads' hH2.want_).2.1
      have HC1 := Aside0.mk hc1
      clear hwr2 hnc hnf HX HO hsm hright hkk hb hH2 hc1
      go_region_held3 (fun W => W.cell? ⟨br, 0, none⟩ = some (.slice A0 rows.length c0) ∧ W.cell? ⟨bw, 0, none⟩ = some (.slice A1 want.length c1) ∧ Aside0 (Below wr2.heap.size wr2 W)) (first | exact ⟨by simpa using hrb, by simpa using hwb, ⟨below_drew (Below.refl _ _)⟩⟩ | exact ⟨pw_cell_below HB3.out hrb, pw_cell_below HB3.out hwb, HB3⟩ | exact ⟨by simpa using pw_cell_below HB3.out hrb, by simpa using pw_cell_below HB3.out hwb, ⟨pw_below_drewN HB3.out _⟩⟩ | go_keep)
        (first | (go_at_call 34; refine (HT.out _ (below_drew (Below.refl _ _))).mono ?_; rintro e w3 ⟨v, rfl, ho, hb3⟩; obtain ⟨Av, cv, rfl, hlv, hCv⟩ := Kd.R_reads ho; have HB3 := Aside0.mk (below_then (below_drew (Below.refl wr2.heap.size wr2)) (Nat.le_refl _) hb3); have HC3 := Aside0.mk hCv; have HL3 := Aside0.mk hlv; clear ho hb3 hCv hlv)
               | (go_at_call 40; refine (pick_meets.calls kk Av cv sm A1 c1 want b w3 HC3.out HL3.out (HW.out _ HB3.out) HC1.out HK.out).mono ?_; rintro e w4 ⟨rfl, ⟨n4, rfl⟩⟩))
      have hB4 : Below wr2.heap.size wr2 (w3.drewN n4) := pw_below_drewN HB3.out n4
      have HX4 := Aside0.mk (heap_below hB4 HX2.out)
      have HO4 := Aside0.mk (HO2.out.trans (Only.of_below hB4))
      have HMS := Aside0.mk (masksFrom_succ rows want x (E - (x + 1)))
      have HNX := Aside0.mk (nextOf_eq HX2.out)
      have hex : E - x = E - (x + 1) + 1 := by omega
      have HEX := Aside0.mk hex
      clear hex hB4
      cases b with
      | true =>
        go_wp2
        go_ret2
        refine ⟨x, true, x + 1, rfl, HX4.out, HO4.out, by rw [← HE.out]; omega, fun _ => by omega, ?_⟩
        rw [← HE.out, ← HF.out, HEX.out, HMS.out, HFM.out, if_pos rfl]
        exact ⟨rfl, rfl, rfl⟩
      | false =>
        go_wp2
        go_roundw
        case rel => exact ⟨x + 1, by omega, by omega, HX4, ⟨by rw [← HF.out, HEX.out, HMS.out, HFM.out]; simp⟩, HO4⟩
        case measure => rw [nextOf_eq HX4.out, nextOf_eq HXR.out]; omega
    · have HZ := Aside0.mk (show masksFrom rows want nx (E - nx) = [] by rw [← HF.out, show E - x = 0 by omega]; rfl)
      have hxe : x = E := by omega
      subst hxe
      go_wp2
      go_ret2
      refine ⟨0, false, x, rfl, HX.out, HO.out, by rw [← HE.out]; omega, (fun h => by cases h), ?_⟩
      rw [← HE.out, HZ.out]
      exact ⟨rfl, rfl⟩

set_option maxHeartbeats 1000000 in
theorem walker_any (v0 v1 : Value) (w : World) (A0 : Option Addr) (n0 c0 : Nat) (A1 : Option Addr) (n1 c1 : Nat) (h0 : v0 = .slice A0 n0 c0) (h1 : v1 = .slice A1 n1 c1) :
    Calls Tryd.prog 30 #[v0, v1] w fun e w' => e = .returned (.func (.func 41) #[] #[.pointer (some ⟨w.heap.size, 0, none⟩), .pointer (some ⟨w.heap.size + 2, 0, none⟩), .pointer (some ⟨w.heap.size + 1, 0, none⟩)]) ∧
      Below w.heap.size w w' ∧ w'.heap.size = w.heap.size + 3 ∧ w'.cell? ⟨w.heap.size, 0, none⟩ = some v0 ∧ w'.cell? ⟨w.heap.size + 1, 0, none⟩ = some v1 ∧ w'.heap[w.heap.size + 2]? = some (.cells #[.int .u32 0] 37 (0, 0)) := by
  subst h0
  subst h1
  go_enter Tryd.func30, Tryd.ntmps30
  go_wp2
  go_ret
  refine ⟨rfl, ((((Below.refl _ w).alloc (Nat.le_refl _) _).alloc (by simp) _).alloc (by simp; omega) _), by simp, ?_, ?_, ?_⟩
  · exact pw_cell_below (below_alloc (Below.refl _ _) _) (pw_cell_below (below_alloc (Below.refl _ _) _) (by simp))
  · refine pw_cell_below (below_alloc (Below.refl _ _) _) ?_
    have h := heap_alloc_new (w.alloc (.cells #[.slice A0 n0 c0] 22)) (.cells #[.slice A1 n1 c1] 23)
    rw [World.size_alloc] at h
    exact cell_of_one h
  · have h := heap_alloc_new ((w.alloc (.cells #[.slice A0 n0 c0] 22)).alloc (.cells #[.slice A1 n1 c1] 23)) (.cells #[.int .u32 0] 37)
    rw [World.size_alloc, World.size_alloc] at h
    exact h
end Go.Proofs.YtbdlihldmmbdmaaDoor.PickWalker

namespace Go.Proofs.YtbdlihldmmbdmaaDoor.PickIter
open Go.RowKit Go.Shelf Go.Proofs.YtbdlihldmmbdmaaDoor.SK Go.Proofs.YtbdlihldmmbdmaaDoorW.PrintWords Go.Proofs.YtbdlihldmmbdmaaDoorW.PrintMore Go.Proofs.YtbdlihldmmbdmaaDoor.PickSpec Go.Proofs.YtbdlihldmmbdmaaDoor.PickFn Go.Proofs.YtbdlihldmmbdmaaDoor.Bits Go.Proofs.YtbdlihldmmbdmaaDoor.Plain Go.Proofs.YtbdlihldmmbdmaaDoor.Range Go.Proofs.YtbdlihldmmbdmaaDoor.PickWalker
attribute [local go_sem] Oper.semAt_some
set_option linter.unusedVariables false

def RepM (W : World) (ok : Nat → Prop) (x : Nat) (vs : Array Value) : Prop := vs = #[.int .u32 (x : Int)]

/-- Between two steps: pre has come; slots 6 and 7 hold what comes next, if anything does. -/
def AtM (rows : List (List Int)) (want : List Int) (bn : Nat) (pre : List Nat) (v6 v7 : Value) (W : World) : Prop :=
  ∃ (nx m : Nat) (b : Bool), v6 = .int .u32 (m : Int) ∧ v7 = .bool b ∧ W.heap[bn]? = some (.cells #[.int .u32 (nx : Int)] 37 (0, 0)) ∧ nx ≤ 2 ^ rows.length ∧
    (b = false → masksN rows want = pre) ∧ (b = true → ∃ ms, masksN rows want = pre ++ m :: ms ∧ masksFrom rows want nx (2 ^ rows.length - nx) = ms)
def measM (E bn : Nat) (v7 : Value) (W : World) : Nat := 2 * (E - nextOf bn W) + (match v7 with | .bool true => 1 | _ => 0)

theorem at_of_post {rows : List (List Int)} {want : List Int} {bn nx : Nat} {w w' : World} {e : Ending} (pre : List Nat) (h : StepPost rows want bn nx w e w')
    (hL : masksN rows want = pre ++ masksFrom rows want nx (2 ^ rows.length - nx)) (hnx : nx ≤ 2 ^ rows.length) :
    ∃ v6 v7, e = .returned (.tuple #[v6, v7]) ∧ AtM rows want bn pre v6 v7 w' ∧ Only (fun k => k = bn) w w' ∧ measM (2 ^ rows.length) bn v7 w' < 2 * (2 ^ rows.length - nx) + 1 := by
  obtain ⟨m', b, nx', rfl, hh, ho, hle, hlt, hm⟩ := h
  refine ⟨_, _, rfl, ?_, ho, ?_⟩
  · refine ⟨nx', m', b, rfl, rfl, hh, hle, ?_, ?_⟩
    · rintro rfl
      cases hms : masksFrom rows want nx (2 ^ rows.length - nx) with
      | nil => rw [hL, hms, List.append_nil]
      | cons m ms => rw [hms] at hm; exact absurd hm.1 (by simp)
    · rintro rfl
      cases hms : masksFrom rows want nx (2 ^ rows.length - nx) with
      | nil => rw [hms] at hm; exact absurd hm.1 (by simp)
      | cons m ms =>
        rw [hms] at hm
        obtain ⟨_, rfl, h3⟩ := hm
        exact ⟨ms, by rw [hL, hms], h3⟩
  · unfold measM
    rw [nextOf_eq hh]
    cases b with
    | true => have := hlt rfl; simp only; omega
    | false =>
      cases hms : masksFrom rows want nx (2 ^ rows.length - nx) with
      | nil => rw [hms] at hm; have := hm.2; simp only; omega
      | cons m ms => rw [hms] at hm; exact absurd hm.1 (by simp)

set_option maxHeartbeats 4000000 in
theorem iter_ok (n : Nat) (rows : List (List Int)) (want : List Int) (bo br bw base : Nat) (ok : Nat → Prop) (A0 : Option Addr) (c0 : Nat) (A1 : Option Addr) (c1 : Nat) (w : World) (H : Held rows want br bw base ok A0 c0 A1 c1 w)
    (hbo : w.cell? ⟨bo, 0, none⟩ = some (.bool true)) (hoko : ok bo) (hok : ∀ k, ok k → k < w.heap.size) :
    IterC Fence.wide n Tryd.prog 29 #[.pointer (some ⟨bo, 0, none⟩), .pointer (some ⟨br, 0, none⟩), .pointer (some ⟨bw, 0, none⟩)] ok RepM (fun xs => xs = masksN rows want) (fun pre => ∃ rest, masksN rows want = pre ++ rest) ((masksN rows want).length) w := by
  intro l J Jx W hW hJ hJx hY h0
  have H1 := H.later hW
  have hbo1 := cell_only hW (fun e => e hoko) hbo
  have hrb1 := H1.rb
  have hwb1 := H1.wb
  have HH := Aside0.mk H1
  have HJ0 := Aside0.mk h0
  have HY := Aside0.mk @hY
  have HW := Aside0.mk hW
  clear hW h0 hY
  refine callsIn_of_wp Tryd.func29 rfl trivial ?_ rfl
  simp only [Tryd.ntmps29, List.size_toArray, List.length_cons, List.length_nil, Nat.reduceAdd, Nat.reduceSub, Array.replicate_succ, Array.replicate_zero, List.push_toArray, List.append_toArray, List.nil_append, List.cons_append]
  gi_wp2
  refine ⟨trivial, (fun h => absurd h (by simp [Fence.wide])), ?_⟩
  refine (callsIn_wide.2 (walker_any _ _ W A0 rows.length c0 A1 want.length c1 rfl rfl)).mono ?_
  rintro e w2 ⟨rfl, hb2, hsz2, hc1, hc2, hn2⟩
  clear hbo1 hrb1 hwb1
  obtain ⟨ok2, hok2⟩ : ∃ ok2 : Nat → Prop, ok2 = fun k => ok k ∨ k = W.heap.size ∨ k = W.heap.size + 1 := ⟨_, rfl⟩
  obtain ⟨O1, hO1⟩ : ∃ O1 : Nat → Prop, O1 = fun k => k = W.heap.size ∨ k = W.heap.size + 1 ∨ k = W.heap.size + 2 := ⟨_, rfl⟩
  have hsW := HW.out.size
  have hH2 : Held rows want W.heap.size (W.heap.size + 1) base ok2 A0 c0 A1 c1 w2 :=
    ⟨HH.out.chk0, hc1, hc2, by rw [hok2]; exact .inr (.inl rfl), by rw [hok2]; exact .inr (.inr rfl), by rw [hok2]; exact .inl HH.out.okt, Kd.R_mono (Kd.R_below HH.out.rows_ hb2) (fun k hk => by rw [hok2]; exact .inl hk),
      Kd.R_mono (Kd.R_below HH.out.want_ hb2) (fun k hk => by rw [hok2]; exact .inl hk), HH.out.tab.below hb2⟩
  have hbn : ¬ ok2 (W.heap.size + 2) := by
    rw [hok2]
    rintro (h | h | h)
    · have := hok _ h; omega
    · omega
    · omega
  have hJ2 : J O1 [] w2 := hJ _ _ _ _ _ HJ0.out (Only.of_below hb2) (fun k e => e.elim) (fun k e => .inr (by rw [hO1] at e; rw [hsz2]; rcases e with e | e | e <;> omega))
  have hO1b : ∀ k, O1 k → W.heap.size ≤ k ∧ k < W.heap.size + 3 := fun k e => by rw [hO1] at e; rcases e with e | e | e <;> omega
  have hO1n : O1 (W.heap.size + 2) := by rw [hO1]; exact .inr (.inr rfl)
  have hok2O : ∀ k, ok2 k → ok k ∨ O1 k := fun k e => by
    rw [hok2] at e
    rw [hO1]
    rcases e with e | e | e
    · exact .inl e
    · exact .inr (.inl e)
    · exact .inr (.inr (.inl e))
  have HST := Aside0.mk (fun (W' : World) (hH : Held rows want W.heap.size (W.heap.size + 1) base ok2 A0 c0 A1 c1 W') (nx : Nat) (h1 : nx ≤ 2 ^ rows.length) (h2 : W'.heap[W.heap.size + 2]? = some (.cells #[.int .u32 (nx : Int)] 37 (0, 0))) =>
    (callsIn_wide (n := n - 1)).2 (step_any rows want W.heap.size (W.heap.size + 2) (W.heap.size + 1) base ok2 A0 c0 A1 c1 W' hH hbn nx h1 h2))
  have hst := fun (pre : List Nat) (A B : World) (hj : J O1 pre A) (ho : Only (fun k => k = W.heap.size + 2) A B) => hJ _ _ _ _ _ hj (ho.mono (fun k _ e => by rw [e]; exact hO1n)) (fun _ e => e) (fun _ e => .inl e)
  have HSJ := Aside0.mk hst
  have hHon := fun (A B : World) (hH : Held rows want W.heap.size (W.heap.size + 1) base ok2 A0 c0 A1 c1 A) (ho : Only (fun k => k = W.heap.size + 2) A B) => hH.later (ho.mono (fun k _ e => by rw [e]; exact hbn))
  have HHO := Aside0.mk hHon
  have HOB := Aside0.mk hO1b
  have HON := Aside0.mk hO1n
  have HOK := Aside0.mk hok2O
  have HJ2 := Aside0.mk hJ2
  have HH2 := Aside0.mk hH2
  have HN2 := Aside0.mk hn2
  have HSZ := Aside0.mk hsz2
  clear hst hHon hO1b hO1n hok2O hJ2 hH2 hn2 hsz2 hbn hc1 hc2 hb2 hok2 hO1 hsW
  gi_wp2
  refine ⟨trivial, (fun h => absurd h (by simp [Fence.wide])), ?_⟩
  refine (HST.out w2 HH2.out 0 (Nat.zero_le _) (by simpa using HN2.out)).mono ?_
  rintro e w3 hpost
  obtain ⟨v6, v7, rfl, hat, ho3, _⟩ := at_of_post [] hpost (by simp [masksN]) (Nat.zero_le _)
  have HAT := Aside0.mk hat
  have HJ3 := Aside0.mk (HSJ.out _ _ _ HJ2.out ho3)
  have HH3 := Aside0.mk (HHO.out _ _ HH2.out ho3)
  have HS3 := Aside0.mk (show W.heap.size + 3 ≤ w3.heap.size by have := ho3.size; have := HSZ.out; omega)
  clear hpost hat ho3 HSZ
  gi_wp2
  gi_loopw [6, 7] (fun v6 v7 wr => ∃ pre, Aside0 (AtM rows want (W.heap.size + 2) pre v6 v7 wr) ∧ Aside0 (J O1 pre wr) ∧ Aside0 (Held rows want W.heap.size (W.heap.size + 1) base ok2 A0 c0 A1 c1 wr) ∧ Aside0 (W.heap.size + 3 ≤ wr.heap.size)) (fun _ v7 wr => measM (2 ^ rows.length) (W.heap.size + 2) v7 wr)
  case atStart => exact ⟨[], HAT, HJ3, HH3, HS3⟩
  case round =>
    clear HAT HJ3 HH3 HS3
    obtain ⟨pre, HAT, HJ3, HH3, HS3⟩ := hrel
    obtain ⟨nx, m, b, rfl, rfl, hn, hnx, hf, ht⟩ := HAT.out
    clear HAT
    cases b with
    | false =>
      have HL := Aside0.mk (hf rfl)
      have HN := Aside0.mk hn
      clear hf ht hn
      gi_wp2
      refine ⟨(fun _ h => by cases h), ?_⟩
      gi_wp2
      go_end0
      exact ⟨⟨_, rfl⟩, O1, fun k e => (HOB.out k e).1, .inl ⟨pre, HL.out.symm, HJ3.out⟩⟩
    | true =>
      obtain ⟨ms, hL, hms⟩ := ht rfl
      have hlen : pre.length < (masksN rows want).length := by rw [hL]; simp
      obtain ⟨fn, tmps, assign, body, hy, hR⟩ := HY.out O1 pre m #[.int .u32 (m : Int)] wr wr (fun k e => ⟨(HOB.out k e).1, by have := (HOB.out k e).2; have := HS3.out; omega⟩) HJ3.out (Only.refl _ _) rfl hlen
      have HL := Aside0.mk hL
      have HMS := Aside0.mk hms
      have HN := Aside0.mk hn
      clear hf ht hL hms hlen hn
      gi_wp2
      refine ⟨(fun h => absurd h (by simp [Fence.wide])), ?_⟩
      refine hR.mono ?_
      rintro e W3 (⟨rfl, hJ4, hk4⟩ | ⟨rfl, hJx4⟩)
      · have hH4 := HH3.out.later (hk4.mono (fun k _ e h => e (HOK.out k h)))
        have hn4 := keeps_of hk4 (fun h => h (.inr HON.out)) HN.out
        have HC := Aside0.mk (HST.out W3 hH4 nx hnx hn4)
        have HJ4 := Aside0.mk hJ4
        have HH4 := Aside0.mk hH4
        have HK4 := Aside0.mk hk4.size
        have HM := Aside0.mk (nextOf_eq HN.out)
        clear hJ4 hk4 hH4 hn4 hy hR
        gi_wp2
        refine ⟨trivial, (fun h => absurd h (by simp [Fence.wide])), ?_⟩
        refine HC.out.mono ?_
        rintro e w5 hpost
        obtain ⟨v6', v7', rfl, hat, ho5, hm5⟩ := at_of_post (pre ++ [m]) hpost (by rw [HL.out, HMS.out]; simp) hnx
        have HAT := Aside0.mk hat
        have HJ5 := Aside0.mk (HSJ.out _ _ _ HJ4.out ho5)
        have HH5 := Aside0.mk (HHO.out _ _ HH4.out ho5)
        have HS5 := Aside0.mk (show W.heap.size + 3 ≤ w5.heap.size by have := ho5.size; have := HS3.out; have := HK4.out; omega)
        have HM5 := Aside0.mk hm5
        clear hpost hat ho5 hm5
        gi_wp2
        go_roundw
        case rel => exact ⟨pre ++ [m], HAT, HJ5, HH5, HS5⟩
        case measure =>
          have h1 := HM5.out
          have h2 := HM.out
          unfold measM at h1 ⊢
          rw [h2]
          omega
      · have HJX := Aside0.mk hJx4
        clear hJx4 hy hR
        gi_wp2
        go_end0
        exact ⟨⟨_, rfl⟩, O1, fun k e => (HOB.out k e).1, .inr ⟨pre ++ [m], ⟨ms, by rw [HL.out]; simp⟩, HJX.out⟩⟩

set_option maxHeartbeats 1000000 in
theorem iter_no (n : Nat) (bo br bw : Nat) (Kc : Nat → Prop) (w : World) (hbo : w.cell? ⟨bo, 0, none⟩ = some (.bool false)) (hoko : Kc bo) :
    IterC Fence.wide n Tryd.prog 29 #[.pointer (some ⟨bo, 0, none⟩), .pointer (some ⟨br, 0, none⟩), .pointer (some ⟨bw, 0, none⟩)] Kc RepM (fun xs => xs = []) (fun pre => pre = []) 0 w := by
  intro l J Jx W hW hJ hJx hY h0
  have hbo1 := cell_only hW (fun e => e hoko) hbo
  have HJ0 := Aside0.mk h0
  clear hW h0 hY
  refine callsIn_of_wp Tryd.func29 rfl trivial ?_ rfl
  simp only [Tryd.ntmps29, List.size_toArray, List.length_cons, List.length_nil, Nat.reduceAdd, Nat.reduceSub, Array.replicate_succ, Array.replicate_zero, List.push_toArray, List.append_toArray, List.nil_append, List.cons_append]
  gi_wp2
  refine bodyPost_ret (results_none rfl _ _ _) rfl ?_
  exact ⟨⟨_, rfl⟩, fun _ => False, fun k e => e.elim, .inl ⟨[], rfl, HJ0.out⟩⟩
end Go.Proofs.YtbdlihldmmbdmaaDoor.PickIter

namespace Go.Proofs.YtbdlihldmmbdmaaDoor.PickAll
open Go.RowKit Go.Proofs.YtbdlihldmmbdmaaDoor.SK Go.Proofs.YtbdlihldmmbdmaaDoorW.PrintWords Go.Proofs.YtbdlihldmmbdmaaDoorW.PrintMore Go.Proofs.YtbdlihldmmbdmaaDoor.PickSpec Go.Proofs.YtbdlihldmmbdmaaDoor.PickFn Go.Proofs.YtbdlihldmmbdmaaDoor.Bits Go.Proofs.YtbdlihldmmbdmaaDoor.Plain Go.Proofs.YtbdlihldmmbdmaaDoor.Range Go.Proofs.YtbdlihldmmbdmaaDoor.PickWalker
set_option linter.unusedVariables false

theorem info_row : (Tryd.prog.info? 23).map (fun i => (i.zero, i.size, i.bytes)) = some (some (.slice none 0 0), 1, 24) := by kernel_rfl

/-- What All leaves: a function, its three boxes; what they hold. -/
def AllPost (rows : List (List Int)) (want : List Int) (w : World) (e : Ending) (w' : World) : Prop :=
  ∃ bo br bw : Nat, e = .returned (.func (.func 29) #[] #[.pointer (some ⟨bo, 0, none⟩), .pointer (some ⟨br, 0, none⟩), .pointer (some ⟨bw, 0, none⟩)]) ∧ Below w.heap.size w w' ∧
    (w.heap.size ≤ bo ∧ bo < w'.heap.size) ∧
    w'.cell? ⟨bo, 0, none⟩ = some (.bool (chk rows want == 0)) ∧
    (chk rows want = 0 → ∃ A0 c0 A1 c1, Held rows want br bw w.heap.size (fun k => k = 0 ∨ (w.heap.size ≤ k ∧ k < w'.heap.size)) A0 c0 A1 c1 w')

theorem R_made_rows (W : World) (base n : Nat) (ok : Nat → Prop) (hok : ok W.heap.size) (hb : base ≤ W.heap.size) (hm : n ≤ 9223372036854775807) :
    Kd.R (Kd.slice 3 (Kd.int .i64)) 23 (W.alloc (.cells (madeCells #[.slice none 0 0] n) 23)) base ok (.slice (some ⟨W.heap.size, 0, none⟩) n n) (List.replicate n []) := by
  refine ⟨fun k hk => ?_, (madeCells #[.slice none 0 0] n).toList, ?_, ?_⟩
  · have : W.heap.size = k := by simpa [Value.ownBlock] using hk
    subst this
    exact hok
  · have h2 := World.ownsRow_lit (base := base) (e := 23) (size := 1) W (madeCells #[.slice none 0 0] n) n hb (by simpa [maxLen] using hm) (by simp [size_madeCells])
    simpa [Kd.slice] using h2
  · have h := Kd.reps_made (R := (Kd.slice 3 (Kd.int .i64)).M (W.alloc (.cells (madeCells #[.slice none 0 0] n) 23)) base (fun k => ok k ∧ some k ≠ (Value.slice (some ⟨W.heap.size, 0, none⟩) n n).ownBlock)) (z := .slice none 0 0) (size := 1) (z0 := ([] : List Int)) rfl (by decide) ⟨_, rfl, Kd.R_nil _ _ _ _ _⟩ n
    simpa [Kd.slice, Value.cells] using h
/-- The state of All's loop: what the boxes hold, the copy of the wants, the copies of the first j rows. g: the rows' block; a: where the copy of the wants begins. -/
structure St (rows : List (List Int)) (want : List Int) (w : World) (bw bo a g : Nat) (vw : Value) (b : Bool) (j : Nat) (W : World) : Prop where
  B : Below w.heap.size w W
  cw : W.cell? ⟨bw, 0, none⟩ = some vw
  cb : W.cell? ⟨bo, 0, none⟩ = some (.bool b)
  co : W.cell? ⟨g + 1, 0, none⟩ = some (.slice (some ⟨g, 0, none⟩) rows.length rows.length)
  RV : Kd.R (Kd.int .i64) 3 W w.heap.size (fun k => a ≤ k ∧ k < g) vw want
  RR : Kd.R (Kd.slice 3 (Kd.int .i64)) 23 W w.heap.size (fun k => k = g ∨ g + 2 ≤ k) (.slice (some ⟨g, 0, none⟩) rows.length rows.length) (upTo j rows (List.replicate rows.length []))
  sz : g + 2 ≤ W.heap.size
theorem St.put {rows : List (List Int)} {want : List Int} {w : World} {bw bo a g : Nat} {vw : Value} {b : Bool} {j : Nat} {W W1 : World} (h : St rows want w bw bo a g vw b j W) (hb : Below W.heap.size W W1) (hbw : bw < g) (hbo : bo < g) (hwg : w.heap.size ≤ g) (hj : j < rows.length)
    {v : Value} {x : List Int} (hx : x = rows[j]) (hv : Kd.R (Kd.int .i64) 3 W1 W.heap.size (fun _ => True) v x) :
    St rows want w bw bo a g vw b (j + 1) (W1.setCell ⟨g, j, none⟩ v) := by
  have hsz := h.sz
  have hB1 : Below w.heap.size w W1 := below_then h.B h.B.size hb
  have far : ∀ (k i : Nat), k ≠ g → (W1.setCell ⟨g, j, none⟩ v).cell? ⟨k, i, none⟩ = W1.cell? ⟨k, i, none⟩ := fun k i hk => World.cell?_of_block (a := ⟨k, i, none⟩) (Below.heap_setCell W1 ⟨g, j, none⟩ v _ hk)
  have hR1 := Kd.R_below h.RR hb
  have hrl : (upTo j rows (List.replicate rows.length [])).length = rows.length := by rw [upTo_length j _ _ (by simp)]; simp
  obtain ⟨c, hcl, _, hcc, _⟩ := Kd.R_elem hR1 [] (j : Int) (by omega) (by omega)
  have hseg := Kd.R_seg (okp := fun k => W.heap.size ≤ k) hR1 (j : Int) (by omega) (by omega) (c := c) (seg := [v]) (j := 0) hcl hcc (by simp [Kd.slice]) (x' := x)
    (by
      have h1 : c.length = 1 := hcl
      have h2 : (c.take 0 ++ [v] ++ c.drop (0 + [v].length)) = [v] := by simp [List.drop_eq_nil_of_le (show c.length ≤ 1 by omega)]
      rw [h2]
      exact ⟨v, rfl, Kd.R_lower (Kd.R_mono (Kd.R_bound hv) (fun k hk => hk.2.1)) h.B.size⟩)
    (fun k hk => ⟨.inr (by omega), by omega⟩)
  have e1 : (W1.setCells g ((j : Int).toNat * (Kd.slice 3 (Kd.int .i64)).sz + 0) [v]) = W1.setCell ⟨g, j, none⟩ v := by
    simp [Kd.slice, World.setCells]
  rw [e1] at hseg
  have e2 : (upTo j rows (List.replicate rows.length [])).set (j : Int).toNat x = upTo (j + 1) rows (List.replicate rows.length []) := by
    rw [Int.toNat_natCast, hx]
    exact upTo_set j rows (List.replicate rows.length []) (by simpa using hj) (by simp)
  rw [e2] at hseg
  refine ⟨hB1.setCell (p := ⟨g, j, none⟩) hwg v, ?_, ?_, ?_, ?_, hseg.1, ?_⟩
  · rw [far _ _ (by omega)]; exact pw_cell_below hb h.cw
  · rw [far _ _ (by omega)]; exact pw_cell_below hb h.cb
  · rw [far _ _ (by omega)]; exact pw_cell_below hb h.co
  · exact Kd.R_far (Kd.R_below h.RV hb) (p := ⟨g, j, none⟩) (fun k hk => by show k ≠ g; omega) v
  · have := hseg.2.size
    have := hb.size
    omega
theorem St.elem {rows : List (List Int)} {want : List Int} {w : World} {bw bo a g : Nat} {vw : Value} {b : Bool} {j : Nat} {W W1 : World} (h : St rows want w bw bo a g vw b j W) (hb : Below W.heap.size W W1) (hj : j < rows.length) :
    ∃ u, W1.cell? ⟨g, j, none⟩ = some u ∧ W1.frozen? ⟨g, j, none⟩ = false := by
  have hR1 := Kd.R_below h.RR hb
  have hrl : (upTo j rows (List.replicate rows.length [])).length = rows.length := by rw [upTo_length j _ _ (by simp)]; simp
  obtain ⟨c, hcl, _, hcc, hf⟩ := Kd.R_elem hR1 [] (j : Int) (by omega) (by omega)
  have h1 : c.length = 1 := hcl
  have h2 := hcc 0 c[0] (List.getElem?_eq_getElem (by omega))
  have h3 := hf 0
  simp [Kd.slice] at h2 h3
  exact ⟨_, h2, h3⟩
theorem make_rows (n : Nat) (hn : n * 24 ≤ 281474976710656) :
    ∀ W : World, (Instr.makeSlice 22 (.int .i64 (n : Int)) (.int .i64 (n : Int))).run Tryd.prog W = .ok (.slice (some ⟨W.heap.size, 0, none⟩) n n) (W.alloc (.cells (madeCells #[.slice none 0 0] n) 23)) := by
  intro W
  exact run_make_row' 22 23 (.slice none 0 0) 24 Tryd.underlying22 info_row rfl .i64 .i64 n (by rw [Nat.mul_comm]; exact hn) (by omega) W

set_option maxHeartbeats 4000000 in
theorem all_any (A0 : Option Addr) (c0 : Nat) (rows : List (List Int)) (A1 : Option Addr) (c1 : Nat) (want : List Int) (w : World) (hr0 : Kd.C (Kd.slice 3 (Kd.int .i64)) w A0 rows.length rows) (hc0 : rows.length ≤ c0)
    (hr1 : Kd.C (Kd.int .i64) w A1 want.length want) (hc1 : want.length ≤ c1) (hT : TabW w) (hl0 : rows.length ≤ 5864062014805) (hl1 : want.length ≤ 17592186044416) (hl2 : ∀ row ∈ rows, row.length ≤ 17592186044416) :
    Calls Tryd.prog 14 #[.slice A0 rows.length c0, .slice A1 want.length c1] w (AllPost rows want w) := by
  obtain ⟨kc, hkc⟩ := Ev.rounds (check_ev rows want)
  have hb1 : Below w.heap.size w (w.alloc (.cells #[.slice A1 want.length c1] 23)) := (Below.refl _ _).alloc (Nat.le_refl _) _
  have HCK := Aside0.mk (pick_Check.calls kc A0 c0 rows A1 c1 want (chk rows want) _ (Kd.C_below hr0 hb1) hc0 (Kd.C_below hr1 hb1) hc1 (by unfold pick_Check.f; rw [hkc]; rfl))
  have HR0 := Aside0.mk hr0
  have HR1 := Aside0.mk hr1
  have HT := Aside0.mk hT
  have HL2 := Aside0.mk hl2
  have hmax0 := Kd.C_max hr0
  obtain ⟨cv, hcv⟩ : ∃ cv, cv = chk rows want := ⟨_, rfl⟩
  rw [← hcv] at HCK
  have HCV := Aside0.mk hcv
  clear hkc hr0 hr1 hT hl2 hcv hb1
  go_enter Tryd.func14, Tryd.ntmps14
  go_wp2_with (fail)
  refine HCK.out.mono ?_
  rintro e w1 ⟨rfl, hb1⟩
  have hcw := pw_cell_below hb1 (a := ⟨w.heap.size, 0, none⟩) (v := .slice A1 want.length c1) (by simp)
  have hfw : w1.frozen? ⟨w.heap.size, 0, none⟩ = false := by rw [hb1.frozen (p := ⟨w.heap.size, 0, none⟩) (by simp)]; simp
  have hsz1 : w.heap.size + 1 ≤ w1.heap.size := by have := hb1.size; simp at this; omega
  have HB1 := Aside0.mk hb1
  clear hb1
  have hca := cell_al hcw
  have hfa := froz_al hcw hfw
  clear hcw hfw
  have hmk := make_rows rows.length (by omega)
  go_wp2_with (fail)
  refine (Clone.clone_int A1 c1 want _ (Kd.C_below HR1.out (below_then ((Below.refl w.heap.size w).alloc (Nat.le_refl _) (.cells #[.slice A1 want.length c1] 23)) (by simp) (below_alloc HB1.out _))) hl1).mono ?_
  rintro e w2 ⟨v, rfl, hv, hb2⟩
  obtain ⟨Av, cv2, rfl⟩ := Kd.R_slice hv
  have hB1 : Below w.heap.size w w1 := below_then ((Below.refl w.heap.size w).alloc (Nat.le_refl _) (.cells #[.slice A1 want.length c1] 23)) (by simp) HB1.out
  have hB2 : Below w.heap.size w w2 := below_then (below_alloc hB1 _) (by simp; omega) hb2
  have hcw := pw_cell_below hb2 (hca _)
  have hfw := froz_below (hca _) (hfa _) hb2
  have hbo2 := pw_cell_below hb2 (a := ⟨w1.heap.size, 0, none⟩) (v := .bool (cv == 0)) (by simp)
  have hsz2 : w1.heap.size + 1 ≤ w2.heap.size := by have := hb2.size; simp at this; omega
  have HV := Aside0.mk (Kd.R_lower hv (show w.heap.size ≤ _ by simp; omega))
  have HB2 := Aside0.mk hB2
  have HBO2 := Aside0.mk hbo2
  have HOKV := Aside0.mk (show ∀ k, (Value.slice Av want.length cv2).ownBlock = some k → w1.heap.size + 1 ≤ k from fun k hk => by have := Kd.R_base hv k hk; simpa using this)
  have HVB := Aside0.mk (Kd.R_mono (Kd.R_bound hv) (ok' := fun k => w1.heap.size + 1 ≤ k ∧ k < w2.heap.size) (fun k hk => ⟨by have := hk.2.1; simpa using this, hk.2.2.1⟩))
  clear hv hb2 hB1 hB2 hca hfa hbo2 HB1
  go_wp2_with (fail)
  obtain ⟨w3, hw3⟩ : ∃ W, W = (((w2.setCell ⟨w.heap.size, 0, none⟩ (.slice Av want.length cv2)).alloc (.cells (madeCells #[.slice none 0 0] rows.length) 23)).alloc (.cells #[.slice (some ⟨w2.heap.size, 0, none⟩) rows.length rows.length] 22)) := ⟨_, rfl⟩
  have hSt : St rows want w w.heap.size w1.heap.size (w1.heap.size + 1) w2.heap.size (.slice Av want.length cv2) (cv == 0) 0 w3 := by
    have hs3 : w3.heap.size = w2.heap.size + 2 := by rw [hw3]; simp
    have hBs : Below w.heap.size w (w2.setCell ⟨w.heap.size, 0, none⟩ (.slice Av want.length cv2)) := HB2.out.setCell (p := ⟨w.heap.size, 0, none⟩) (Nat.le_refl _) _
    have hb3 : Below (w2.setCell ⟨w.heap.size, 0, none⟩ (.slice Av want.length cv2)).heap.size (w2.setCell ⟨w.heap.size, 0, none⟩ (.slice Av want.length cv2)) w3 := by
      rw [hw3]; exact below_alloc (below_alloc (Below.refl _ _) _) _
    refine ⟨below_then hBs hBs.size hb3, pw_cell_below hb3 (World.cell?_setCell_same' _ _ _ (by rw [hcw]; rfl)), pw_cell_below hb3 ?_, ?_, ?_, ?_, by omega⟩
    · rw [World.cell?_of_block (a := ⟨w1.heap.size, 0, none⟩) (Below.heap_setCell w2 ⟨w.heap.size, 0, none⟩ _ _ (show w1.heap.size ≠ w.heap.size by omega))]
      exact HBO2.out
    · rw [hw3]
      have h := heap_alloc_new ((w2.setCell ⟨w.heap.size, 0, none⟩ (.slice Av want.length cv2)).alloc (.cells (madeCells #[.slice none 0 0] rows.length) 23)) (.cells #[.slice (some ⟨w2.heap.size, 0, none⟩) rows.length rows.length] 22)
      have e : ((w2.setCell ⟨w.heap.size, 0, none⟩ (.slice Av want.length cv2)).alloc (.cells (madeCells #[.slice none 0 0] rows.length) 23)).heap.size = w2.heap.size + 1 := by simp
      rw [e] at h
      exact cell_of_one h
    · exact Kd.R_below (Kd.R_far (Kd.R_lower HVB.out (by simp; omega)) (p := ⟨w.heap.size, 0, none⟩) (fun k hk => by show k ≠ w.heap.size; omega) _) hb3
    · rw [hw3, upTo_zero]
      refine Kd.R_alloc ?_ _
      have h := R_made_rows (w2.setCell ⟨w.heap.size, 0, none⟩ (.slice Av want.length cv2)) w.heap.size rows.length (fun k => k = w2.heap.size ∨ w2.heap.size + 2 ≤ k) (.inl (by simp)) hBs.size hmax0
      have e : (w2.setCell ⟨w.heap.size, 0, none⟩ (.slice Av want.length cv2)).heap.size = w2.heap.size := by simp
      rw [e] at h
      exact h
  rw [← hw3]
  have HS := Aside0.mk hSt
  clear hw3 hSt hcw hfw hmk HB2 HBO2 HOKV HVB HV
  go_loopw [20] (fun v20 wr => ∃ j : Nat, j ≤ rows.length ∧ v20 = .int .i64 (j : Int) ∧ Aside0 (St rows want w w.heap.size w1.heap.size (w1.heap.size + 1) w2.heap.size (.slice Av want.length cv2) (cv == 0) j wr)) (fun v20 _ => rows.length - (intOf v20).toNat)
  case atStart => exact ⟨0, Nat.zero_le _, rfl, HS⟩
  case round =>
    clear HS
    obtain ⟨j, hj, rfl, HS⟩ := hrel
    by_cases hlt : j < rows.length
    · obtain ⟨ad, Ar, cr, e1, hx0, hcr, hCr⟩ := at_row HR0.out j hlt
      cases e1
      obtain ⟨row, hrow⟩ : ∃ x, x = rows[j] := ⟨_, rfl⟩
      rw [← hrow] at hx0 hcr hCr
      have hx := pw_cell_below HS.out.B hx0
      have hco := HS.out.co
      have HCL := Aside0.mk (fun (W : World) (hb : Below w.heap.size w W) => Clone.clone_int Ar cr row W (Kd.C_below hCr hb) (by rw [hrow]; exact HL2.out _ (List.getElem_mem _)))
      have HROW := Aside0.mk hrow
      clear hrow hx0 hcr hCr
      go_wp2
      go_region_with (first | (go_at_call 28; refine (HCL.out _ (below_drew HS.out.B)).mono ?_; rintro e w4 ⟨vr, rfl, hvr, hb4⟩; obtain ⟨Avr, cvr, rfl⟩ := Kd.R_slice hvr; have hco4 := pw_cell_below (below_then (below_drew (Below.refl wr.heap.size wr)) (Nat.le_refl _) hb4) HS.out.co; obtain ⟨u, hcu, hfu⟩ := HS.out.elem (below_then (below_drew (Below.refl wr.heap.size wr)) (Nat.le_refl _) hb4) hlt; have HVR := Aside0.mk hvr; have HB4 := Aside0.mk hb4; clear hvr hb4))
      all_goals
        go_wp2
        go_roundw
        case rel => exact ⟨j + 1, by omega, by go_num, ⟨HS.out.put (below_then (below_drew (Below.refl wr.heap.size wr)) (Nat.le_refl _) HB4.out) (by omega) (by omega) (by omega) hlt HROW.out HVR.out⟩⟩
        case measure => simp [intOf]; omega
    · obtain rfl : j = rows.length := by omega
      go_wp2
      go_ret
      have h := HS.out
      refine ⟨w1.heap.size, w2.heap.size + 1, w.heap.size, rfl, h.B, ⟨by omega, by have := h.sz; omega⟩, by rw [← HCV.out]; exact h.cb, fun hc => ⟨some ⟨w2.heap.size, 0, none⟩, rows.length, Av, cv2, ?_⟩⟩
      have hsz := h.sz
      refine ⟨hc, h.co, h.cw, .inr ⟨by omega, by omega⟩, .inr ⟨by omega, by omega⟩, .inl rfl, ?_, ?_, HT.out.below h.B⟩
      · have hr := h.RR
        rw [upTo_all _ _ _ (Nat.le_refl _) (by simp)] at hr
        exact Kd.R_mono (Kd.R_bound hr) (fun k hk => .inr ⟨hk.2.1, hk.2.2.1⟩)
      · exact Kd.R_mono (Kd.R_bound h.RV) (fun k hk => .inr ⟨hk.2.1, hk.2.2.1⟩)
end Go.Proofs.YtbdlihldmmbdmaaDoor.PickAll

namespace Go.Proofs.YtbdlihldmmbdmaaDoor.WordsIn
open Go.RowKit Go.Proofs.YtbdlihldmmbdmaaDoorW.PrintWords Go.Proofs.YtbdlihldmmbdmaaDoor.Range
set_option linter.unusedVariables false

theorem Only.of_grownBy {W w1 : World} {row : Option Nat} (h : W.grownBy w1 row) {S : Nat → Prop} (hs : ∀ k, row = some k → S k) : Only S W w1 :=
  ⟨h.os, h.tape, h.output, h.size, fun k hk hn => h.block k hk (fun e => hn (hs k e.symm))⟩

variable {F : Fence} {nF : Nat} {P : Program} {ops : Array Oper} {rest : List Oper} {o : Oper} {a : Act} {Q : Exit → Act → World → Prop}
theorem R_append_in {α : Type} {enc : α → Value} {h1 : ∀ x, (enc x).oneCell' = true} {W : World} (base : Nat) (hgd : o.guard = none) (s x : Operand) (t e : TypeId) (z : Value) (bytes : Nat)
    (ho : o.op = .call { callee := .builtin .append, args := #[s, x], argTypes := #[t, t] })
    (ht : P.underlying t = some (.slice e)) (hinfo : (P.info? e).map (fun i => (i.zero, i.size, i.bytes)) = some (some z, 1, bytes)) (hz : z.cells.size = 1) (hb0 : 0 < bytes)
    (v : Value) (xs : List α) (y : α) (ok : Nat → Prop) (hs : a.eval s = v) (hx : a.eval x = .slice (some ⟨W.heap.size, 0, none⟩) 1 1) (hfresh : ∀ k, W.heap.size ≤ k → ok k)
    (HR : (Kd.scalar enc h1).R e W base ok v xs) (hbase : base ≤ W.heap.size) (hl : (xs.length + 1) * bytes ≤ 140737488355328)
    (h : ∀ v1 w1, (Kd.scalar enc h1).R e w1 base ok v1 (xs ++ [y]) → W.grownBy w1 v.ownBlock → wpListIn F nF P ops Q rest (a.put o.dst v1) w1) :
    wpListIn F nF P ops Q (o :: rest) a (W.alloc (.cells #[enc y] e)) := by
  obtain ⟨i0, hi, hzz⟩ := Option.map_eq_some_iff.1 hinfo
  simp only [Prod.mk.injEq] at hzz
  obtain ⟨hz0, hz1, hz2⟩ := hzz
  have hlen : xs.length + 1 ≤ 140737488355328 := Nat.le_trans (Nat.le_mul_of_pos_right _ hb0) hl
  have HO := Kd.own_of_R HR
  refine wpListIn_append_own_at (w := W.alloc (.cells #[enc y] e)) hgd s x t ho base e i0 z 1 bytes ht hi hz0 hz1 hz2 hz (by omega) v xs.length (encs enc xs) hs (HO.alloc _) ⟨W.heap.size, 0, none⟩ 1 1 [enc y] hx rfl
    (World.news_of_block (cs := #[enc y]) (t := e) (fr := (0, 0)) (heap_alloc_new W _)) (by simpa using h1 y) (by simp only [maxLen]; omega) hl (by simp; omega) ?_
  intro v1 w1 hown hg _ hat
  refine h v1 w1 (Kd.R_of_own (by simpa [encs] using hown) (fun k hk => ?_)) (World.grownBy.trans (World.grownBy_alloc W _ _) hg)
  rcases hat with hat | hat
  · exact HR.1 k (hat ▸ hk)
  · rw [hat] at hk
    injection hk with hk
    exact hfresh k (by rw [← hk]; simp)
end Go.Proofs.YtbdlihldmmbdmaaDoor.WordsIn

namespace Go.Proofs.YtbdlihldmmbdmaaDoor.PickList
open Go.RowKit Go.Shelf Go.Proofs.YtbdlihldmmbdmaaDoor.SK Go.Proofs.YtbdlihldmmbdmaaDoorW.PrintWords Go.Proofs.YtbdlihldmmbdmaaDoorW.PrintMore Go.Proofs.YtbdlihldmmbdmaaDoor.PickSpec Go.Proofs.YtbdlihldmmbdmaaDoor.PickFn Go.Proofs.YtbdlihldmmbdmaaDoor.Bits Go.Proofs.YtbdlihldmmbdmaaDoor.Plain Go.Proofs.YtbdlihldmmbdmaaDoor.Range Go.Proofs.YtbdlihldmmbdmaaDoor.PickWalker Go.Proofs.YtbdlihldmmbdmaaDoor.PickIter Go.Proofs.YtbdlihldmmbdmaaDoor.PickAll Go.Proofs.YtbdlihldmmbdmaaDoor.WordsIn
attribute [local go_sem] Oper.semAt_some
set_option linter.unusedVariables false

theorem info_u32 : (Tryd.prog.info? 37).map (fun i => (i.zero, i.size, i.bytes)) = some (some (.int .u32 0), 1, 4) := by kernel_rfl

def ListPost (l : List Int) (c : Int) (w : World) (e : Ending) (w' : World) : Prop :=
  ∃ v0 : Value, e = .returned (.tuple #[v0, .int .i64 c]) ∧ Kd.R (Kd.int .u32) 37 w' w.heap.size (fun _ => True) v0 l ∧ Below w.heap.size w w'

theorem two_set {w : World} {x y : Nat} {a b u v : Value} (hx : w.cell? ⟨x, 0, none⟩ = some u) (hy : w.cell? ⟨y, 0, none⟩ = some v) (hne : x ≠ y) :
    ((w.setCell ⟨x, 0, none⟩ a).setCell ⟨y, 0, none⟩ b).cell? ⟨x, 0, none⟩ = some a ∧ ((w.setCell ⟨x, 0, none⟩ a).setCell ⟨y, 0, none⟩ b).cell? ⟨y, 0, none⟩ = some b := by
  have h1 : (w.setCell ⟨x, 0, none⟩ a).cell? ⟨y, 0, none⟩ = some v := by
    rw [World.cell?_of_block (a := ⟨y, 0, none⟩) (Below.heap_setCell w ⟨x, 0, none⟩ a y (fun e => hne e.symm))]; exact hy
  refine ⟨?_, World.cell?_setCell_same' _ _ _ (by rw [h1]; rfl)⟩
  rw [World.cell?_of_block (a := ⟨x, 0, none⟩) (Below.heap_setCell _ ⟨y, 0, none⟩ b x hne)]
  exact World.cell?_setCell_same' _ _ _ (by rw [hx]; rfl)

set_option maxHeartbeats 4000000 in
theorem list_early (A0 : Option Addr) (c0 : Nat) (rows : List (List Int)) (A1 : Option Addr) (c1 : Nat) (want : List Int) (most : Int) (w : World) (hr0 : Kd.C (Kd.slice 3 (Kd.int .i64)) w A0 rows.length rows) (hc0 : rows.length ≤ c0)
    (hr1 : Kd.C (Kd.int .i64) w A1 want.length want) (hc1 : want.length ≤ c1) (he : chk rows want ≠ 0 ∨ most < 0) :
    Calls Tryd.prog 10 #[.slice A0 rows.length c0, .slice A1 want.length c1, .int .i64 most] w (ListPost [] (if chk rows want = 0 then 1 else chk rows want) w) := by
  obtain ⟨kc, hkc⟩ := Ev.rounds (check_ev rows want)
  obtain ⟨W1, hW1⟩ : ∃ W, W = ((w.alloc (.cells #[.int .i64 most] 3)).alloc (.cells #[.slice none 0 0] 26)).alloc (.cells #[.int .i64 0] 27) := ⟨_, rfl⟩
  have hb1 : Below w.heap.size w W1 := by rw [hW1]; exact below_alloc (below_alloc (below_alloc (Below.refl _ _) _) _) _
  have HCK := Aside0.mk (pick_Check.calls kc A0 c0 rows A1 c1 want (chk rows want) W1 (Kd.C_below hr0 hb1) hc0 (Kd.C_below hr1 hb1) hc1 (by unfold pick_Check.f; rw [hkc]; rfl))
  obtain ⟨cv, hcv⟩ : ∃ cv, cv = chk rows want := ⟨_, rfl⟩
  rw [← hcv] at HCK he ⊢
  have hs1 : W1.heap.size = w.heap.size + 3 := by rw [hW1]; simp
  have hmc : W1.cell? ⟨w.heap.size, 0, none⟩ = some (.int .i64 most) := by rw [hW1]; exact cell_al (cell_al (by simp) _) _
  have hc6 : W1.cell? ⟨w.heap.size + 1, 0, none⟩ = some (.slice none 0 0) := by
    rw [hW1]; refine cell_al ?_ _
    have h := heap_alloc_new (w.alloc (.cells #[.int .i64 most] 3)) (.cells #[.slice none 0 0] 26)
    rw [World.size_alloc] at h
    exact cell_of_one h
  have hc7 : W1.cell? ⟨w.heap.size + 2, 0, none⟩ = some (.int .i64 0) := by
    rw [hW1]
    have h := heap_alloc_new ((w.alloc (.cells #[.int .i64 most] 3)).alloc (.cells #[.slice none 0 0] 26)) (.cells #[.int .i64 0] 27)
    rw [World.size_alloc, World.size_alloc] at h
    exact cell_of_one h
  have hf6 : W1.frozen? ⟨w.heap.size + 1, 0, none⟩ = false := by
    rw [hW1]; refine froz_al (v := .slice none 0 0) ?_ ?_ _
    · have h := heap_alloc_new (w.alloc (.cells #[.int .i64 most] 3)) (.cells #[.slice none 0 0] 26)
      rw [World.size_alloc] at h
      exact cell_of_one h
    · have h := heap_alloc_new (w.alloc (.cells #[.int .i64 most] 3)) (.cells #[.slice none 0 0] 26)
      rw [World.size_alloc] at h
      exact free_of_one h
  have hf7 : W1.frozen? ⟨w.heap.size + 2, 0, none⟩ = false := by
    rw [hW1]
    have h := heap_alloc_new ((w.alloc (.cells #[.int .i64 most] 3)).alloc (.cells #[.slice none 0 0] 26)) (.cells #[.int .i64 0] 27)
    rw [World.size_alloc, World.size_alloc] at h
    exact free_of_one h
  have HE := Aside0.mk he
  have HM := Aside0.mk hmc
  have H6 := Aside0.mk hc6
  have H7 := Aside0.mk hc7
  have G6 := Aside0.mk hf6
  have G7 := Aside0.mk hf7
  have HB := Aside0.mk hb1
  have HW1 := Aside0.mk hW1
  clear he hmc hc6 hc7 hf6 hf7 hb1 hW1 hkc hr0 hr1 hs1 hcv
  by_cases h0 : cv = 0
  · have hneg : most < 0 := HE.out.resolve_left (by simpa using h0)
    subst h0
    go_enter Tryd.func10, Tryd.ntmps10
    go_wp2_with (fail)
    rw [← HW1.out]
    refine HCK.out.mono ?_
    rintro e w1 ⟨rfl, hb⟩
    have hm1 := pw_cell_below hb HM.out
    have h61 := pw_cell_below hb H6.out
    have h71 := pw_cell_below hb H7.out
    have g61 := froz_below H6.out G6.out hb
    have g71 := froz_below H7.out G7.out hb
    have HB1 := Aside0.mk (below_then HB.out HB.out.size hb)
    clear hb
    go_wp2
    obtain ⟨k6, k7⟩ := two_set (a := .slice none 0 0) (b := .int .i64 1) h61 h71 (by omega)
    refine bodyPost_ret (v := .tuple #[.slice none 0 0, .int .i64 1]) (by simp [results, Tryd.results10, go_sem, k6, k7]) rfl ?_
    exact ⟨_, rfl, Kd.R_nil _ _ _ _ _, (HB1.out.setCell (p := ⟨w.heap.size + 1, 0, none⟩) (by simp) _).setCell (p := ⟨w.heap.size + 1 + 1, 0, none⟩) (by simp; omega) _⟩
  · have hz1 : (cv == 0) = false := by simpa using h0
    have hz2 : (cv != 0) = true := by simpa using h0
    rw [if_neg h0]
    clear h0
    go_enter Tryd.func10, Tryd.ntmps10
    go_wp2_with (fail)
    rw [← HW1.out]
    refine HCK.out.mono ?_
    rintro e w1 ⟨rfl, hb⟩
    have hm1 := pw_cell_below hb HM.out
    have h61 := pw_cell_below hb H6.out
    have h71 := pw_cell_below hb H7.out
    have g61 := froz_below H6.out G6.out hb
    have g71 := froz_below H7.out G7.out hb
    have HB1 := Aside0.mk (below_then HB.out HB.out.size hb)
    clear hb
    go_wp2
    obtain ⟨k6, k7⟩ := two_set (a := .slice none 0 0) (b := .int .i64 cv) h61 h71 (by omega)
    refine bodyPost_ret (v := .tuple #[.slice none 0 0, .int .i64 cv]) (by simp [results, Tryd.results10, go_sem, k6, k7]) rfl ?_
    exact ⟨_, rfl, Kd.R_nil _ _ _ _ _, (HB1.out.setCell (p := ⟨w.heap.size + 1, 0, none⟩) (by simp) _).setCell (p := ⟨w.heap.size + 1 + 1, 0, none⟩) (by simp; omega) _⟩
/-- Between two rounds of List's range. L: l's box; H: how far the heap went when the range began. -/
structure LSt (w : World) (L H : Nat) (most : Int) (O : Nat → Prop) (pre : List Nat) (W : World) : Prop where
  B : Below w.heap.size w W
  cm : W.cell? ⟨w.heap.size, 0, none⟩ = some (.int .i64 most)
  c6 : W.cell? ⟨w.heap.size + 1, 0, none⟩ = some (.slice none 0 0)
  c7 : W.cell? ⟨w.heap.size + 2, 0, none⟩ = some (.int .i64 0)
  f6 : W.frozen? ⟨w.heap.size + 1, 0, none⟩ = false
  f7 : W.frozen? ⟨w.heap.size + 2, 0, none⟩ = false
  fl : W.frozen? ⟨L, 0, none⟩ = false
  cl : ∃ v, W.cell? ⟨L, 0, none⟩ = some v ∧ Kd.R (Kd.int .u32) 37 W w.heap.size (fun k => H ≤ k ∧ ¬ O k) v (pre.map fun m : Nat => (m : Int))
  OH : ∀ k, O k → H ≤ k
  sz : H ≤ W.heap.size
  le : (pre.length : Int) ≤ most
structure LEnd (w : World) (H : Nat) (most : Int) (O : Nat → Prop) (pre : List Nat) (W : World) : Prop where
  B : Below w.heap.size w W
  c6 : W.cell? ⟨w.heap.size + 1, 0, none⟩ = some (.slice none 0 0)
  c7 : W.cell? ⟨w.heap.size + 2, 0, none⟩ = some (.int .i64 2)
  OH : ∀ k, O k → H ≤ k
  sz : H ≤ W.heap.size
  lt : most < (pre.length : Int)
theorem froz_only {S : Nat → Prop} {A B : World} {k : Nat} {v : Value} (h : Only S A B) (hs : ¬ S k) (hc : A.cell? ⟨k, 0, none⟩ = some v) (hf : A.frozen? ⟨k, 0, none⟩ = false) : B.frozen? ⟨k, 0, none⟩ = false :=
  (World.frozen?_of_block (a := ⟨k, 0, none⟩) (h.block k (World.block_lt_of_cell? A ⟨k, 0, none⟩ hc) hs)).trans hf
theorem LSt.stable (w : World) (L H : Nat) (most : Int) (hL : w.heap.size + 3 ≤ L) (hH : L < H) : Stable (LSt w L H most) := by
  intro O O' s A B h ho hle hnew
  obtain ⟨v, hv, hr⟩ := h.cl
  have hn : ∀ k, k < H → ¬ O k := fun k hk e => by have := h.OH k e; omega
  have hsz := h.sz
  have hos := ho.size
  refine ⟨h.B.trans (ho.below h.B.size (fun k e => by have := h.OH k e; omega)), cell_only ho (hn _ (by omega)) h.cm, cell_only ho (hn _ (by omega)) h.c6, cell_only ho (hn _ (by omega)) h.c7,
    froz_only ho (hn _ (by omega)) h.c6 h.f6, froz_only ho (hn _ (by omega)) h.c7 h.f7, froz_only ho (hn _ (by omega)) hv h.fl, ⟨v, cell_only ho (hn _ (by omega)) hv, ?_⟩, fun k e => ?_, by omega, h.le⟩
  · refine Kd.R_step (Kd.R_reok (ok := fun k => H ≤ k ∧ ¬ O' k) rfl hr (fun k hk => ?_)) (fun k hk hl => ho.block k hl (fun e => hk.2 (hle k e)))
    have h1 := hr.1 k hk
    have h2 := Kd.R_lt hr k hk
    refine ⟨h1.1, fun e => ?_⟩
    rcases hnew k e with h3 | h3
    · exact h1.2 h3
    · omega
  · rcases hnew k e with h1 | h1
    · exact h.OH k h1
    · omega
theorem LEnd.stable (w : World) (H : Nat) (most : Int) (hH : w.heap.size + 3 ≤ H) : Stable (LEnd w H most) := by
  intro O O' s A B h ho hle hnew
  have hn : ∀ k, k < H → ¬ O k := fun k hk e => by have := h.OH k e; omega
  have hsz := h.sz
  have hos := ho.size
  refine ⟨h.B.trans (ho.below h.B.size (fun k e => by have := h.OH k e; omega)), cell_only ho (hn _ (by omega)) h.c6, cell_only ho (hn _ (by omega)) h.c7, fun k e => ?_, by omega, h.lt⟩
  rcases hnew k e with h1 | h1
  · exact h.OH k h1
  · omega
theorem LSt.put {w : World} {L H : Nat} {most : Int} (hL : w.heap.size + 3 ≤ L) (hH : L < H) {O : Nat → Prop} {pre : List Nat} {W w1 : World} {v v1 : Value} {x : Nat} (h : LSt w L H most O pre W) (hv : W.cell? ⟨L, 0, none⟩ = some v)
    (hr : Kd.R (Kd.int .u32) 37 W w.heap.size (fun k => H ≤ k ∧ ¬ O k) v (pre.map fun m : Nat => (m : Int))) (hg : W.grownBy w1 v.ownBlock)
    (hr1 : Kd.R (Kd.int .u32) 37 w1 w.heap.size (fun k => H ≤ k ∧ ¬ O k) v1 ((pre.map fun m : Nat => (m : Int)) ++ [(x : Int)])) (hlt : (pre.length : Int) < most) :
    LSt w L H most O (pre ++ [x]) (w1.setCell ⟨L, 0, none⟩ v1) ∧ Only (fun k => k = L ∨ (H ≤ k ∧ ¬ O k)) W (w1.setCell ⟨L, 0, none⟩ v1) := by
  have ho : Only (fun k => H ≤ k ∧ ¬ O k) W w1 := Only.of_grownBy hg (fun k hk => hr.1 k hk)
  have ho2 : Only (fun k => k = L ∨ (H ≤ k ∧ ¬ O k)) W (w1.setCell ⟨L, 0, none⟩ v1) := (ho.mono (fun k _ e => .inr e)).setCell ⟨L, 0, none⟩ v1 (.inl (.inl rfl))
  have hn : ∀ k, k < L → ¬ (k = L ∨ (H ≤ k ∧ ¬ O k)) := fun k hk e => by omega
  have hsz := h.sz
  have hos := ho2.size
  have hl1 : w1.cell? ⟨L, 0, none⟩ = some v := cell_only ho (fun e => by omega) hv
  refine ⟨⟨h.B.trans (ho2.below h.B.size (fun k e => by omega)), cell_only ho2 (hn _ (by omega)) h.cm, cell_only ho2 (hn _ (by omega)) h.c6, cell_only ho2 (hn _ (by omega)) h.c7,
    froz_only ho2 (hn _ (by omega)) h.c6 h.f6, froz_only ho2 (hn _ (by omega)) h.c7 h.f7, ?_, ⟨v1, World.cell?_setCell_same' _ _ _ (by rw [hl1]; rfl), ?_⟩, h.OH, by omega, by simp; omega⟩, ho2⟩
  · have := froz_only ho (fun e => by omega) hv h.fl
    rw [← this]
    exact World.frozen?_setCell _ _ _ _
  · rw [List.map_append]
    exact Kd.R_step hr1 (fun k hk _ => Below.heap_setCell w1 ⟨L, 0, none⟩ v1 k (by rintro rfl; have := hk.1; omega))
set_option maxHeartbeats 4000000 in
theorem list_main (A0 : Option Addr) (c0 : Nat) (rows : List (List Int)) (A1 : Option Addr) (c1 : Nat) (want : List Int) (most : Int) (w : World) (hr0 : Kd.C (Kd.slice 3 (Kd.int .i64)) w A0 rows.length rows) (hc0 : rows.length ≤ c0)
    (hr1 : Kd.C (Kd.int .i64) w A1 want.length want) (hc1 : want.length ≤ c1) (hT : TabW w) (hz : chk rows want = 0) (hm0 : 0 ≤ most) :
    Calls Tryd.prog 10 #[.slice A0 rows.length c0, .slice A1 want.length c1, .int .i64 most] w (ListPost (if ((masks rows want).length : Int) > most then [] else masks rows want) (if ((masks rows want).length : Int) > most then 2 else 0) w) := by
  obtain ⟨res, hres⟩ : ∃ res : List Int × Int, res = (if ((masks rows want).length : Int) > most then [] else masks rows want, if ((masks rows want).length : Int) > most then 2 else 0) := ⟨_, rfl⟩
  have h1 : (if ((masks rows want).length : Int) > most then [] else masks rows want) = res.1 := by rw [hres]
  have h2 : (if ((masks rows want).length : Int) > most then (2 : Int) else 0) = res.2 := by rw [hres]
  rw [h1, h2]
  have HRES := Aside0.mk hres
  clear h1 h2 hres
  obtain ⟨kc, hkc⟩ := Ev.rounds (check_ev rows want)
  obtain ⟨W1, hW1⟩ : ∃ W, W = ((w.alloc (.cells #[.int .i64 most] 3)).alloc (.cells #[.slice none 0 0] 26)).alloc (.cells #[.int .i64 0] 27) := ⟨_, rfl⟩
  have hb1 : Below w.heap.size w W1 := by rw [hW1]; exact below_alloc (below_alloc (below_alloc (Below.refl _ _) _) _) _
  have HCK := Aside0.mk (pick_Check.calls kc A0 c0 rows A1 c1 want (chk rows want) W1 (Kd.C_below hr0 hb1) hc0 (Kd.C_below hr1 hb1) hc1 (by unfold pick_Check.f; rw [hkc]; rfl))
  rw [hz] at HCK
  have HZ := Aside0.mk hz
  have HT := Aside0.mk hT
  obtain ⟨h16, h10, _, hrr⟩ := chk_zero hz
  have hs1 : W1.heap.size = w.heap.size + 3 := by rw [hW1]; simp
  have hmc : W1.cell? ⟨w.heap.size, 0, none⟩ = some (.int .i64 most) := by rw [hW1]; exact cell_al (cell_al (by simp) _) _
  have hc6 : W1.cell? ⟨w.heap.size + 1, 0, none⟩ = some (.slice none 0 0) := by
    rw [hW1]; refine cell_al ?_ _
    have h := heap_alloc_new (w.alloc (.cells #[.int .i64 most] 3)) (.cells #[.slice none 0 0] 26)
    rw [World.size_alloc] at h
    exact cell_of_one h
  have hc7 : W1.cell? ⟨w.heap.size + 2, 0, none⟩ = some (.int .i64 0) := by
    rw [hW1]
    have h := heap_alloc_new ((w.alloc (.cells #[.int .i64 most] 3)).alloc (.cells #[.slice none 0 0] 26)) (.cells #[.int .i64 0] 27)
    rw [World.size_alloc, World.size_alloc] at h
    exact cell_of_one h
  have hf6 : W1.frozen? ⟨w.heap.size + 1, 0, none⟩ = false := by
    rw [hW1]; refine froz_al (v := .slice none 0 0) ?_ ?_ _
    · have h := heap_alloc_new (w.alloc (.cells #[.int .i64 most] 3)) (.cells #[.slice none 0 0] 26)
      rw [World.size_alloc] at h
      exact cell_of_one h
    · have h := heap_alloc_new (w.alloc (.cells #[.int .i64 most] 3)) (.cells #[.slice none 0 0] 26)
      rw [World.size_alloc] at h
      exact free_of_one h
  have hf7 : W1.frozen? ⟨w.heap.size + 2, 0, none⟩ = false := by
    rw [hW1]
    have h := heap_alloc_new ((w.alloc (.cells #[.int .i64 most] 3)).alloc (.cells #[.slice none 0 0] 26)) (.cells #[.int .i64 0] 27)
    rw [World.size_alloc, World.size_alloc] at h
    exact free_of_one h
  have HR0 := Aside0.mk hr0
  have HR1 := Aside0.mk hr1
  have HRR := Aside0.mk hrr
  have HM := Aside0.mk hmc
  have H6 := Aside0.mk hc6
  have H7 := Aside0.mk hc7
  have G6 := Aside0.mk hf6
  have G7 := Aside0.mk hf7
  have HB := Aside0.mk hb1
  have HW1 := Aside0.mk hW1
  have HS1 := Aside0.mk hs1
  clear hmc hc6 hc7 hf6 hf7 hb1 hW1 hkc hr0 hr1 hs1 hz hT hrr
  refine (callsIn_wide (n := 3)).1 ?_
  refine callsIn_of_wp_marks Tryd.func10 rfl trivial ?_
  simp only [Tryd.ntmps10, List.size_toArray, List.length_cons, List.length_nil, Nat.reduceAdd, Nat.reduceSub, Array.replicate_succ, Array.replicate_zero, List.push_toArray, List.append_toArray, List.nil_append, List.cons_append]
  gi_wp2
  refine ⟨trivial, ?_⟩
  rw [← HW1.out]
  refine (callsIn_wide.2 HCK.out).mono ?_
  rintro e w1 ⟨rfl, hb⟩
  have hm1 := pw_cell_below hb HM.out
  have hbw : Below w.heap.size w w1 := below_then HB.out HB.out.size hb
  have hb9 : Below w1.heap.size w1 (w1.alloc (.cells #[.slice none 0 0] 26)) := below_alloc (Below.refl _ _) _
  have hbw9 := below_then hbw hbw.size hb9
  have HALL := Aside0.mk (all_any A0 c0 rows A1 c1 want (w1.alloc (.cells #[.slice none 0 0] 26)) (Kd.C_below HR0.out hbw9) hc0 (Kd.C_below HR1.out hbw9) hc1 (HT.out.below hbw9) (by omega) (by omega) (fun row hrow => by have := (HRR.out row hrow).1; omega))
  have HB1 := Aside0.mk hb
  clear hb hbw hb9 hbw9
  gi_wp2
  refine ⟨trivial, ?_⟩
  refine (callsIn_wide.2 HALL.out).mono ?_
  rintro e w3 ⟨bo, br, bw, rfl, hb3, hbo, hcb, hheld⟩
  obtain ⟨A0', c0', A1', c1', hheld⟩ := hheld HZ.out
  rw [HZ.out] at hcb
  have hb13 : Below W1.heap.size W1 w3 := below_then (below_then HB1.out HB1.out.size (below_alloc (Below.refl _ _) _)) (Nat.le_trans HB1.out.size (by simp)) hb3
  have hL := HB1.out.size
  rw [HS1.out] at hL
  have hcl := heap_alloc_new w1 (.cells #[.slice none 0 0] 26)
  have hl3 := pw_cell_below hb3 (cell_of_one hcl)
  have hfl3 := froz_below (cell_of_one hcl) (free_of_one hcl) hb3
  have hs9 : (w1.alloc (.cells #[.slice none 0 0] 26)).heap.size = w1.heap.size + 1 := by simp
  have hb3s := hb3.size
  rw [hs9] at hb3s hbo hheld
  have hS0 : LSt w w1.heap.size w3.heap.size most (fun _ => False) [] w3 :=
    ⟨below_then HB.out HB.out.size hb13, pw_cell_below hb13 HM.out, pw_cell_below hb13 H6.out, pw_cell_below hb13 H7.out, froz_below H6.out G6.out hb13, froz_below H7.out G7.out hb13, hfl3, ⟨_, hl3, Kd.R_nil _ _ _ _ _⟩, fun k e => e.elim, Nat.le_refl _, by simpa using hm0⟩
  have htab : 0 < w.heap.size := World.block_lt_of_cell? w ⟨0, 0, none⟩ (HT.out.out 0 (by decide))
  have HCB := Aside0.mk hcb
  have HHD := Aside0.mk hheld
  have HBO := Aside0.mk hbo
  have HST := Aside0.mk hS0
  clear hcb hheld hbo hS0 hb13 hcl hl3 hfl3 hs9 HB1 HALL HCK hb3
  gi_wp2
  refine wp_range (n := 3) (ps := #[22]) rfl (by decide) (gf := 29) (lb := #[.pointer (some ⟨bo, 0, none⟩), .pointer (some ⟨br, 0, none⟩), .pointer (some ⟨bw, 0, none⟩)]) rfl trivial (Fn.entersP_of rfl rfl ⟨_, rfl⟩)
    (Kc := fun k => k = 0 ∨ (w1.heap.size + 1 ≤ k ∧ k < w3.heap.size)) (fun k hk => by omega) (Rep := RepM) (fun h _ => h) (fun h => by rw [show _ = _ from h]; rfl)
    (iter_ok 2 rows want bo br bw (w1.heap.size + 1) _ A0' c0' A1' c1' w3 HHD.out HCB.out (.inr HBO.out) (fun k hk => by omega))
    (LSt w w1.heap.size w3.heap.size most) (fun c O pre W => c = .ret ∧ LEnd w w3.heap.size most O pre W) (LSt.stable _ _ _ _ hL (by omega)) ?sx HST.out
    (fun vs => { tmps := #[.slice A0 rows.length c0, .slice A1 want.length c1, .int .i64 most, undef, undef, .pointer (some ⟨w.heap.size, 0, none⟩), .pointer (some ⟨w.heap.size + 1, 0, none⟩), .pointer (some ⟨w.heap.size + 1 + 1, 0, none⟩), .int .i64 0, .pointer (some ⟨w1.heap.size, 0, none⟩),
      vs.getD 0 undef, .slice A0 rows.length c0, .slice A1 want.length c1, .int .i64 0, .int .i64 0, .bool false, undef, .int .i64 most, .bool (decide (most < 0)), .slice A0 rows.length c0, .slice A1 want.length c1,
      .func (.func 29) #[] #[.pointer (some ⟨bo, 0, none⟩), .pointer (some ⟨br, 0, none⟩), .pointer (some ⟨bw, 0, none⟩)], vs.getD 0 undef, undef, undef, undef, undef, undef, undef, undef, undef, undef], defers := [] }) ?ca ?bd ?dn ?st
  case sx =>
    rintro c O O' s A B ⟨rfl, h⟩ ho hle hnew
    exact ⟨rfl, LEnd.stable _ _ _ (by omega) _ _ _ _ _ h ho hle hnew⟩
  case ca =>
    intro l vs W K hvs hK
    obtain ⟨v, rfl⟩ := Array.size_eq_one_iff.1 hvs
    gi_wp2
    exact hK
  case bd =>
    rintro l O pre x vs W0 W1 hl hrec hO hI ho rfl hlen
    have hx0 : (#[Value.int .u32 (x : Int)] : Array Value).getD 0 undef = .int .u32 x := rfl
    simp only [hx0]
    have hS := LSt.stable w w1.heap.size w3.heap.size most hL (by omega) _ _ _ _ _ hI ho (fun _ e => e) (fun _ e => .inl e)
    obtain ⟨v, hv, hr⟩ := hS.cl
    obtain ⟨Av, cv, rfl⟩ := Kd.R_slice hr
    have hcm := hS.cm
    have hle := hS.le
    rw [List.length_map] at hv hr
    have HSA := Aside0.mk hS
    have HV := Aside0.mk hr
    have HO := Aside0.mk hO
    have HW01 := Aside0.mk ho.size
    clear hI ho hr hS hO hrec
    have hlen2 := masksN_length rows want h16
    by_cases hfull : (pre.length : Int) = most
    · have hc6 := HSA.out.c6
      have hc7 := HSA.out.c7
      have hf6 := HSA.out.f6
      have hf7 := HSA.out.f7
      have hq : ((pre.length : Int) == most) = true := by simpa using hfull
      gi_wp2
      have hn : ∀ k, k < w3.heap.size → ¬ O k := fun k hk e => by have := HSA.out.OH k e; omega
      obtain ⟨k6, k7⟩ := two_set (a := .slice none 0 0) (b := .int .i64 2) hc6 hc7 (by omega)
      exact ⟨((Only.refl _ _).setCell ⟨w.heap.size + 1, 0, none⟩ _ (.inl (hn (w.heap.size + 1) (by omega)))).setCell ⟨w.heap.size + 1 + 1, 0, none⟩ _ (.inl (hn (w.heap.size + 1 + 1) (by omega))), rfl,
        (HSA.out.B.setCell (p := ⟨w.heap.size + 1, 0, none⟩) (by simp) _).setCell (p := ⟨w.heap.size + 1 + 1, 0, none⟩) (by simp; omega) _, k6, k7, HSA.out.OH, by simpa using HSA.out.sz, by simp; omega⟩
    · have hq : ((pre.length : Int) == most) = false := by simpa using hfull
      gi_wp2_with (gi_at_builtin; refine (show (Nat → _) → _ from fun h => h 0) ?_)
      intro _
      refine R_append_in (h1 := fun _ => rfl) (enc := fun x : Int => .int .u32 x) w.heap.size rfl (.tmp 27) (.tmp 29) 26 37 (.int .u32 0) 4 rfl rfl info_u32 rfl (by decide) (.slice Av pre.length cv) (pre.map fun m : Nat => (m : Int)) (x : Int) (fun k => w3.heap.size ≤ k ∧ ¬ O k) rfl rfl
        (fun k hk => ⟨Nat.le_trans HSA.out.sz hk, fun e => by have := (HO.out k e).2; have := HW01.out; omega⟩) HV.out HSA.out.B.size (by rw [List.length_map]; omega) ?_
      intro v1 w5 hr1 hg
      have hg2 := Only.of_grownBy hg (S := fun k => w3.heap.size ≤ k ∧ ¬ O k) (fun k hk => HV.out.1 k hk)
      have hv5 := cell_only hg2 (fun e => by omega) hv
      have hf5 := froz_only hg2 (fun e => by omega) hv HSA.out.fl
      obtain ⟨hS2, hO2⟩ := HSA.out.put hL (by omega) hv HV.out hg hr1 (by omega)
      obtain ⟨A5, c5, rfl⟩ := Kd.R_slice hr1
      rw [show ((pre.map fun m : Nat => (m : Int)) ++ [(x : Int)]).length = pre.length + 1 by simp] at hS2 hO2
      have HS2 := Aside0.mk hS2
      have HO2 := Aside0.mk hO2
      clear hr1 hg hg2 hS2 hO2
      gi_wp2
      refine ⟨HO2.out.mono (fun k _ e h => ?_), HS2.out⟩
      rcases e with e | ⟨e1, e2⟩
      · rcases h with h | h
        · omega
        · have := HSA.out.OH k h; omega
      · rcases h with h | h
        · omega
        · exact e2 h
  case dn =>
    rintro D O xs W hD rfl hI hK hOD
    obtain ⟨v, hv, hr⟩ := hI.cl
    obtain ⟨Av, cv, rfl⟩ := Kd.R_slice hr
    rw [List.length_map] at hv hr
    have hc6 := hI.c6
    have hc7 := hI.c7
    have hf6 := hI.f6
    have hf7 := hI.f7
    have HSA := Aside0.mk hI
    have HV := Aside0.mk hr
    have HK := Aside0.mk hK
    have HOD := Aside0.mk hOD
    clear hI hr hK hOD
    gi_wp2
    obtain ⟨k6, k7⟩ := two_set (a := .slice Av (masksN rows want).length cv) (b := .int .i64 0) hc6 hc7 (by omega)
    obtain ⟨W4, hW4⟩ : ∃ W4, (W.setCell ⟨w.heap.size + 1, 0, none⟩ (.slice Av (masksN rows want).length cv)).setCell ⟨w.heap.size + 1 + 1, 0, none⟩ (.int .i64 0) = W4 := ⟨_, rfl⟩
    have hO4 : Only (fun k => k = w.heap.size + 1 ∨ k = w.heap.size + 2) W W4 := by
      rw [← hW4]
      exact ((Only.refl _ _).setCell ⟨w.heap.size + 1, 0, none⟩ _ (.inl (.inl rfl))).setCell ⟨w.heap.size + 1 + 1, 0, none⟩ _ (.inl (.inr rfl))
    rw [hW4] at k6 k7 ⊢
    have hK4 := keeps_of hO4 (fun e => by omega) HK.out
    refine ⟨by simp, .inl ⟨_, _, rfl, run_takeDeferred hK4, ?_⟩⟩
    have hO5 : Only (fun k => k = D) W4 (W4.putObj D (.deferred none)) := Only.putObj _ _ _ rfl
    have k6' := cell_only hO5 (fun e => by omega) k6
    have k7' := cell_only hO5 (fun e => by omega) k7
    have hsz := HSA.out.sz
    have hle := HSA.out.le
    have hml : (masks rows want).length = (masksN rows want).length := by unfold masks; rw [List.length_map]
    refine ⟨.tuple #[.slice Av (masksN rows want).length cv, .int .i64 0], by simp [results, Tryd.results10, go_sem, k6', k7'], ?_⟩
    have hres := HRES.out
    rw [hml, if_neg (by omega), if_neg (by omega)] at hres
    rw [hres]
    refine ⟨_, rfl, ?_, (HSA.out.B.trans (hO4.below HSA.out.B.size (fun k e => by omega))).trans (hO5.below (by have := hO4.size; omega) (fun k e => by omega))⟩
    refine Kd.R_mono (ok := fun k => w3.heap.size ≤ k ∧ ¬ O k) (Kd.R_step (Kd.R_step HV.out (fun k hk hl => hO4.block k hl (fun e => by omega))) (fun k hk hl => hO5.block k hl (fun e => hk.2 (by rw [e]; exact HOD.out)))) (fun _ _ => trivial)
  case st =>
    rintro D O c pre W hD ⟨rest, hrest⟩ ⟨rfl, hI⟩ hK hOD
    have HSA := Aside0.mk hI
    have HK := Aside0.mk hK
    clear hI hK
    gi_wp2
    refine ⟨by simp, .inl ⟨_, _, rfl, run_takeDeferred HK.out, ?_⟩⟩
    have hO5 : Only (fun k => k = D) W (W.putObj D (.deferred none)) := Only.putObj _ _ _ rfl
    have k6' := cell_only hO5 (fun e => by omega) HSA.out.c6
    have k7' := cell_only hO5 (fun e => by omega) HSA.out.c7
    have hml : (masks rows want).length = (masksN rows want).length := by unfold masks; rw [List.length_map]
    have hlt := HSA.out.lt
    have hpl : pre.length ≤ (masksN rows want).length := by rw [hrest, List.length_append]; omega
    refine ⟨.tuple #[.slice none 0 0, .int .i64 2], by simp [results, Tryd.results10, go_sem, k6', k7'], ?_⟩
    have hres := HRES.out
    rw [hml, if_pos (by omega), if_pos (by omega)] at hres
    rw [hres]
    exact ⟨_, rfl, Kd.R_nil _ _ _ _ _, HSA.out.B.trans (hO5.below HSA.out.B.size (fun k e => by omega))⟩
end Go.Proofs.YtbdlihldmmbdmaaDoor.PickList

-- PRINTED by print.py (a twelfth state) out of the translation. Not trusted: Lean checks it.
namespace Go.Proofs.YtbdlihldmmbdmaaDoor.SK
open Go.RowKit Go.Proofs.YtbdlihldmmbdmaaDoorW.PrintWords Go.Proofs.YtbdlihldmmbdmaaDoorW.PrintLast Go.Proofs.YtbdlihldmmbdmaaDoorW.PrintMore
attribute [local go_sem] max2_int min2_int max_two min_two max_three min_three max_four min_four   -- for this text's walks alone
set_option linter.unusedVariables false
set_option linter.unusedSimpArgs false

set_option maxHeartbeats 2000000 in
theorem pick_List.calls (k : Nat) (A0 : Option Addr) (c0 : Nat) (l0 : List (List Int)) (A1 : Option Addr) (c1 : Nat) (l1 : List Int) (a2 : Int) (r1 : List Int) (r2 : Int) (w : World) (hr0 : Kd.C (Kd.slice 3 (Kd.int .i64)) w A0 l0.length l0) (hc0 : l0.length ≤ c0) (hr1 : Kd.C (Kd.int .i64) w A1 l1.length l1) (hc1 : l1.length ≤ c1) (h : pick_List.f k l0 l1 a2 = some (r1, r2)) (hT : Go.Proofs.YtbdlihldmmbdmaaDoor.Bits.TabW w) :
    Calls Tryd.prog 10 #[.slice A0 l0.length c0, .slice A1 l1.length c1, .int .i64 a2] w fun e w' => ∃ v0_ : Value, e = .returned (.tuple #[v0_, .int .i64 r2]) ∧ Kd.R (Kd.int .u32) 37 w' w.heap.size (fun _ => True) v0_ r1 ∧ Below w.heap.size w w' := by
  have hres : (r1, r2) = Go.Proofs.YtbdlihldmmbdmaaDoor.PickSpec.listS l0 l1 a2 := by
    unfold pick_List.f at h
    obtain ⟨x, hx, hxe⟩ := Option.bind_eq_some_iff.1 h
    have h1 := Go.Proofs.YtbdlihldmmbdmaaDoor.Plain.Ev.answer (fun k => amalgamref10_List.mono l0 l1 a2 k) hx (Go.Proofs.YtbdlihldmmbdmaaDoor.PickSpec.list_ev l0 l1 a2)
    rw [← h1]
    exact (Option.some.inj hxe).symm
  unfold Go.Proofs.YtbdlihldmmbdmaaDoor.PickSpec.listS at hres
  by_cases hc : Go.Proofs.YtbdlihldmmbdmaaDoor.PickSpec.chk l0 l1 = 0
  · rw [if_pos hc] at hres
    by_cases hm : a2 < 0
    · rw [if_pos hm] at hres
      obtain ⟨rfl, rfl⟩ := Prod.mk.inj hres
      refine (Go.Proofs.YtbdlihldmmbdmaaDoor.PickList.list_early A0 c0 l0 A1 c1 l1 a2 w hr0 hc0 hr1 hc1 (.inr hm)).mono ?_
      rw [if_pos hc]
      exact fun _ _ h => h
    · rw [if_neg hm] at hres
      refine (Go.Proofs.YtbdlihldmmbdmaaDoor.PickList.list_main A0 c0 l0 A1 c1 l1 a2 w hr0 hc0 hr1 hc1 hT hc (by omega)).mono ?_
      split at hres
      · obtain ⟨rfl, rfl⟩ := Prod.mk.inj hres
        rename_i hg
        rw [if_pos hg, if_pos hg]
        exact fun _ _ h => h
      · obtain ⟨rfl, rfl⟩ := Prod.mk.inj hres
        rename_i hg
        rw [if_neg hg, if_neg hg]
        exact fun _ _ h => h
  · rw [if_neg hc] at hres
    obtain ⟨rfl, rfl⟩ := Prod.mk.inj hres
    refine (Go.Proofs.YtbdlihldmmbdmaaDoor.PickList.list_early A0 c0 l0 A1 c1 l1 a2 w hr0 hc0 hr1 hc1 (.inl hc)).mono ?_
    rw [if_neg hc]
    exact fun _ _ h => h

end Go.Proofs.YtbdlihldmmbdmaaDoor.SK

-- PRINTED by print.py (a twelfth state) out of the translation. Not trusted: Lean checks it.
namespace Go.Proofs.YtbdlihldmmbdmaaDoor.SK
open Go.RowKit Go.Proofs.YtbdlihldmmbdmaaDoorW.PrintWords Go.Proofs.YtbdlihldmmbdmaaDoorW.PrintLast Go.Proofs.YtbdlihldmmbdmaaDoorW.PrintMore
attribute [local go_sem] max2_int min2_int max_two min_two max_three min_three max_four min_four   -- for this text's walks alone
set_option linter.unusedVariables false
set_option linter.unusedSimpArgs false

/-! ### amalgamlaw10_lives: function 8 -/
def amalgamlaw10_lives.f (k : Nat)  : Option (Bool) := (pick_List.f k (([(([1] : List Int)), (([2] : List Int))] : List (List Int))) (([1] : List Int)) 9).bind fun bt149 => (if (bt149.1.length : Int) = 3 then (if 2 < (bt149.1.length : Int) then (if (rd bt149.1 2) = 3 then (some (bt149.2 == 0)) else (some false)) else (none)) else (some false))
theorem amalgamlaw10_lives.mono : ∀ k, LeO (amalgamlaw10_lives.f k ) (amalgamlaw10_lives.f (k + 1) ) := by
  intro  k
  unfold amalgamlaw10_lives.f
  repeat' first
      | (with_reducible exact pick_List.mono _ _ _ _)
      | (with_reducible exact LeO.refl _)
      | (with_reducible exact LeO.none _)
      | (with_reducible refine LeO.ite ?_ ?_)
      | (with_reducible refine LeO.bind ?_ (fun _ => ?_))
      | exact pick_List.mono _ _ _ _
      | exact LeO.none _
      | refine LeO.ite ?_ ?_
      | refine LeO.bind ?_ (fun _ => ?_)
set_option maxHeartbeats 8000000 in
set_option maxRecDepth 100000 in
theorem amalgamlaw10_lives.calls (k : Nat)  (r : Bool) (w : World) (h : amalgamlaw10_lives.f k  = some r) (hT : Go.Proofs.YtbdlihldmmbdmaaDoor.Bits.TabW w) :
    Calls Tryd.prog 8 #[] w fun e w' => e = .returned (.bool r) ∧ Below w.heap.size w w' := by
  have HLT := Aside0.mk hT
  clear hT
  have HB := Aside0.mk (Below.refl w.heap.size w)
  have H : ((pick_List.f k (([(([1] : List Int)), (([2] : List Int))] : List (List Int))) (([1] : List Int)) 9).bind fun bt149 => (if (bt149.1.length : Int) = 3 then (if 2 < (bt149.1.length : Int) then (if (rd bt149.1 2) = 3 then (some (bt149.2 == 0)) else (some false)) else (none)) else (some false))) = some r := h
  clear h
  obtain ⟨y137, hy137⟩ : ∃ y_ : List Int, y_ = (([1] : List Int)) := ⟨_, rfl⟩
  replace H : ((pick_List.f k (([y137, (([2] : List Int))] : List (List Int))) (([1] : List Int)) 9).bind fun bt149 => (if (bt149.1.length : Int) = 3 then (if 2 < (bt149.1.length : Int) then (if (rd bt149.1 2) = 3 then (some (bt149.2 == 0)) else (some false)) else (none)) else (some false))) = some r := by first | (rw [hy137]; with_reducible exact H) | (have H2_ := (Option.bind_some _ _).symm.trans H; rw [hy137]; with_reducible exact H2_) | (have H2_ := (Option.bind_some _ _).symm.trans H; with_reducible exact H2_) | with_reducible exact H | (rw [hy137]; exact H) | exact H
  have Ny137 := Aside0.mk hy137
  clear hy137
  obtain ⟨y140, hy140⟩ : ∃ y_ : List Int, y_ = (([2] : List Int)) := ⟨_, rfl⟩
  replace H : ((pick_List.f k (([y137, y140] : List (List Int))) (([1] : List Int)) 9).bind fun bt149 => (if (bt149.1.length : Int) = 3 then (if 2 < (bt149.1.length : Int) then (if (rd bt149.1 2) = 3 then (some (bt149.2 == 0)) else (some false)) else (none)) else (some false))) = some r := by first | (rw [hy140]; with_reducible exact H) | (have H2_ := (Option.bind_some _ _).symm.trans H; rw [hy140]; with_reducible exact H2_) | (have H2_ := (Option.bind_some _ _).symm.trans H; with_reducible exact H2_) | with_reducible exact H | (rw [hy140]; exact H) | exact H
  have Ny140 := Aside0.mk hy140
  clear hy140
  obtain ⟨y143, hy143⟩ : ∃ y_ : List (List Int), y_ = (([y137, y140] : List (List Int))) := ⟨_, rfl⟩
  replace H : ((pick_List.f k y143 (([1] : List Int)) 9).bind fun bt149 => (if (bt149.1.length : Int) = 3 then (if 2 < (bt149.1.length : Int) then (if (rd bt149.1 2) = 3 then (some (bt149.2 == 0)) else (some false)) else (none)) else (some false))) = some r := by first | (rw [hy143]; with_reducible exact H) | (have H2_ := (Option.bind_some _ _).symm.trans H; rw [hy143]; with_reducible exact H2_) | (have H2_ := (Option.bind_some _ _).symm.trans H; with_reducible exact H2_) | with_reducible exact H | (rw [hy143]; exact H) | exact H
  have Ny143 := Aside0.mk hy143
  clear hy143
  obtain ⟨y146, hy146⟩ : ∃ y_ : List Int, y_ = (([1] : List Int)) := ⟨_, rfl⟩
  replace H : ((pick_List.f k y143 y146 9).bind fun bt149 => (if (bt149.1.length : Int) = 3 then (if 2 < (bt149.1.length : Int) then (if (rd bt149.1 2) = 3 then (some (bt149.2 == 0)) else (some false)) else (none)) else (some false))) = some r := by first | (rw [hy146]; with_reducible exact H) | (have H2_ := (Option.bind_some _ _).symm.trans H; rw [hy146]; with_reducible exact H2_) | (have H2_ := (Option.bind_some _ _).symm.trans H; with_reducible exact H2_) | with_reducible exact H | (rw [hy146]; exact H) | exact H
  have Ny146 := Aside0.mk hy146
  clear hy146
  replace H := Option.bind_eq_some_iff.mp H
  obtain ⟨⟨t149, t150⟩, A10, H⟩ := H
  replace H : (if (t149.length : Int) = 3 then (if 2 < (t149.length : Int) then (if (rd t149 2) = 3 then (some (t150 == 0)) else (some false)) else (none)) else (some false)) = some r := H
  have A1 := Aside0.mk A10
  clear A10
  by_cases c2 : (t149.length : Int) = 3
  · rw [if_pos c2] at H
    have c2b0 : ((t149.length : Int) == 3) = true := beq_iff_eq.mpr c2
    have c2b1 : ((t149.length : Int) != 3) = false := bne_eq_false_iff_eq.mpr c2
    clear c2
    by_cases c3 : 2 < (t149.length : Int)
    · rw [if_pos c3] at H
      have c3b0 : decide (2 < (t149.length : Int)) = true := decide_eq_true c3
      have c3b1 : decide (2 < t149.length) = true := decide_eq_true (by omega)
      clear c3
      by_cases c4 : (rd t149 2) = 3
      · rw [if_pos c4] at H
        have c4b0 : ((rd t149 2) == 3) = true := beq_iff_eq.mpr c4
        have c4b1 : ((rd t149 2) != 3) = false := bne_eq_false_iff_eq.mpr c4
        clear c4
        obtain rfl := Option.some.inj H
        go_enter Tryd.func8, Tryd.ntmps8
        go_wp2_with (first | ((with_reducible refine gate_dst (N := 4) rfl ?_); refine Kd.R_lit (Kd.int .i64) _ 3 ?hg (N := 4) ?hd (xs := ([1] : List Int)) (inner := [.int .i64 1]) (ok := fun _ => True) (okp := fun _ => True) ?hr ?hp (fun _ hk => hk) trivial (Below.refl _ _) (Nat.le_refl _) (by simp) ?_; (case hd => rfl); (case hg => rfl); (case hr => first | (go_simp; done) | (go_simp; rfl)); (case hp => exact (Reps.one (show Kd.M (Kd.int .i64) _ _ _ 1 [.int .i64 1] from rfl) (Reps.none _ _))); intro v138 w5 ho6 hb hg_ hnew_; clear hg_ hnew_; (first | rw [← Ny137.out] at ho6 | (simp only [Int.reduceToNat] at ho6; rw [← Ny137.out] at ho6)); have n0_ := Aside0.mk (Kd.R_lower ho6 (below_size (by repeat (first | (with_reducible first | exact HB.out | apply below_alloc | apply pw_below_drewN | apply below_drew1) | exact HB.out)))); have n1_ := Aside0.mk (below_step (by repeat (first | (with_reducible first | exact HB.out | apply below_alloc | apply pw_below_drewN | apply below_drew1) | exact HB.out)) hb); clear HB; have HO139 := n0_; have HB := n1_; clear n0_ n1_; clear hb ho6) | ((with_reducible refine gate_dst (N := 5) rfl ?_); refine Kd.R_lit (Kd.int .i64) _ 3 ?hg (N := 5) ?hd (xs := ([2] : List Int)) (inner := [.int .i64 2]) (ok := fun _ => True) (okp := fun _ => True) ?hr ?hp (fun _ hk => hk) trivial (Below.refl _ _) (Nat.le_refl _) (by simp) ?_; (case hd => rfl); (case hg => rfl); (case hr => first | (go_simp; done) | (go_simp; rfl)); (case hp => exact (Reps.one (show Kd.M (Kd.int .i64) _ _ _ 2 [.int .i64 2] from rfl) (Reps.none _ _))); intro v141 w7 ho8 hb hg_ hnew_; clear hg_ hnew_; (first | rw [← Ny140.out] at ho8 | (simp only [Int.reduceToNat] at ho8; rw [← Ny140.out] at ho8)); have n0_ := Aside0.mk (Kd.R_elder' (by (with_reducible repeat (first | apply Kd.R_alloc | apply Kd.R_drewN | apply Kd.R_drew)); exact HO139.out) (Kd.R_base ho8) hb); have n1_ := Aside0.mk (Kd.R_lower (Kd.R_new' ho8 (Kd.R_lt (by (with_reducible repeat (first | apply Kd.R_alloc | apply Kd.R_drewN | apply Kd.R_drew)); exact HO139.out))) (below_size (by repeat (first | (with_reducible first | exact HB.out | apply below_alloc | apply pw_below_drewN | apply below_drew1) | exact HB.out)))); have n2_ := Aside0.mk (below_step (by repeat (first | (with_reducible first | exact HB.out | apply below_alloc | apply pw_below_drewN | apply below_drew1) | exact HB.out)) hb); clear HO139; clear HB; have HO139 := n0_; have HO142 := n1_; have HB := n2_; clear n0_ n1_ n2_; clear hb ho8; obtain ⟨Ao9, co9, eo9⟩ := Kd.R_slice HO139.out; subst eo9; obtain ⟨Ao10, co10, eo10⟩ := Kd.R_slice HO142.out; subst eo10) | ((with_reducible refine gate_dst (N := 6) rfl ?_); refine Kd.N_lit (Kd.slice 3 (Kd.int .i64)) _ 23 ?hg (N' := 6) ?hd (xs := ([y137, y140] : List (List Int))) (inner := [.slice Ao9 y137.length co9, .slice Ao10 y140.length co10]) (ok := (fun _ => True)) (okp := (fun _ => True)) ?hr ?hp (fun _ hk => hk) ((show ∀ k_, w7.heap.size ≤ k_ → (fun _ => True) k_ from fun k_ hk => trivial) _ (Nat.le_refl _)) (Below.refl _ _) (Nat.le_refl _) (by simp) ?_; (case hd => rfl); (case hg => rfl); (case hr => first | (go_simp; done) | (go_simp; rfl)); (case hp => exact (Reps.one (show Kd.FK (Kd.slice 3 (Kd.int .i64)) _ _ y137 [.slice Ao9 y137.length co9] from (Kd.FK_slice_mk (Kd.R_reads' (Kd.R_mono (ok' := (fun _ => True)) (HO139.out) (fun k_ hk => trivial))).2.1 (Kd.R_F (Kd.R_mono (ok' := (fun _ => True)) (HO139.out) (fun k_ hk => trivial))))) (Reps.one (show Kd.FK (Kd.slice 3 (Kd.int .i64)) _ _ y140 [.slice Ao10 y140.length co10] from (Kd.FK_slice_mk (Kd.R_reads' (Kd.R_mono (ok' := (fun _ => True)) (HO142.out) (fun k_ hk => trivial))).2.1 (Kd.R_F (Kd.R_mono (ok' := (fun _ => True)) (HO142.out) (fun k_ hk => trivial))))) (Reps.none _ _)))); intro v144 w11 ho12 hb hg_ hnew_; clear hg_ hnew_; (first | rw [← Ny143.out] at ho12 | (simp only [Int.reduceToNat] at ho12; rw [← Ny143.out] at ho12)); have n0_ := Aside0.mk (Kd.N_lower ho12 (below_size (by repeat (first | (with_reducible first | exact HB.out | apply below_alloc | apply pw_below_drewN | apply below_drew1) | exact HB.out)))); have n1_ := Aside0.mk (below_step (by repeat (first | (with_reducible first | exact HB.out | apply below_alloc | apply pw_below_drewN | apply below_drew1) | exact HB.out)) hb); clear HB; clear HO139; clear HO142; have HO145 := n0_; have HB := n1_; clear n0_ n1_; clear hb ho12) | ((with_reducible refine gate_dst (N := 7) rfl ?_); refine Kd.R_lit (Kd.int .i64) _ 3 ?hg (N := 7) ?hd (xs := ([1] : List Int)) (inner := [.int .i64 1]) (ok := fun _ => True) (okp := fun _ => True) ?hr ?hp (fun _ hk => hk) trivial (Below.refl _ _) (Nat.le_refl _) (by simp) ?_; (case hd => rfl); (case hg => rfl); (case hr => first | (go_simp; done) | (go_simp; rfl)); (case hp => exact (Reps.one (show Kd.M (Kd.int .i64) _ _ _ 1 [.int .i64 1] from rfl) (Reps.none _ _))); intro v147 w13 ho14 hb hg_ hnew_; clear hg_ hnew_; (first | rw [← Ny146.out] at ho14 | (simp only [Int.reduceToNat] at ho14; rw [← Ny146.out] at ho14)); have n0_ := Aside0.mk (Kd.N_elder' (by (with_reducible repeat (first | apply Kd.N_alloc | apply Kd.N_drewN | apply Kd.N_drew)); exact HO145.out) (Kd.R_base ho14) hb); have n1_ := Aside0.mk (Kd.R_lower ho14 (below_size (by repeat (first | (with_reducible first | exact HB.out | apply below_alloc | apply pw_below_drewN | apply below_drew1) | exact HB.out)))); have n2_ := Aside0.mk (below_step (by repeat (first | (with_reducible first | exact HB.out | apply below_alloc | apply pw_below_drewN | apply below_drew1) | exact HB.out)) hb); clear HO145; clear HB; have HO145 := n0_; have HO148 := n1_; have HB := n2_; clear n0_ n1_ n2_; clear hb ho14; obtain ⟨Ao15, co15, eo15⟩ := Kd.N_slice HO145.out; subst eo15; obtain ⟨Ao16, co16, eo16⟩ := Kd.R_slice HO148.out; subst eo16) | ((with_reducible refine gate_callee (f := 10) rfl ?_); refine goesL_ (some 8) rfl rfl Tryd.func10 (by kernel_rfl) rfl #[.slice Ao15 y143.length co15, .slice Ao16 y146.length co16, .int .i64 9] rfl (by (try simp only [List.map_toArray, List.map_cons, List.map_nil]); first | done | rfl | (simp only [List.length_drop, List.length_take]; rfl)) ?_; (with_reducible refine (pick_List.calls k _ _ y143 _ _ y146 9 t149 t150 _ ?side1 ?side2 ?side3 ?side4 A1.out ?laid).mono ?_); (case laid => first | exact HLT.out | (repeat (first | exact HLT.out | apply Go.Proofs.YtbdlihldmmbdmaaDoor.Bits.TabW.alloc | apply Go.Proofs.YtbdlihldmmbdmaaDoor.Bits.TabW.drewN | exact Go.Proofs.YtbdlihldmmbdmaaDoor.Bits.TabW.below HLT.out HB.out))); (case side1 => repeat (first | exact (Kd.N_reads' HO145.out).2.2 | (with_reducible refine Kd.C_alloc ?_ _) | (with_reducible refine Kd.C_drewN ?_ _) | (with_reducible refine Kd.C_drew ?_))); (case side2 => exact (Kd.N_reads' HO145.out).2.1); (case side3 => repeat (first | exact (Kd.R_reads' HO148.out).2.2 | (with_reducible refine Kd.C_alloc ?_ _) | (with_reducible refine Kd.C_drewN ?_ _) | (with_reducible refine Kd.C_drew ?_))); (case side4 => exact (Kd.R_reads' HO148.out).2.1); rintro e w17 ⟨v151, rfl, ho0, hb⟩; refine ⟨_, rfl, ?_⟩; have n0_ := Aside0.mk (Kd.N_elder' (by (with_reducible repeat (first | apply Kd.N_alloc | apply Kd.N_drewN | apply Kd.N_drew)); exact HO145.out) (Kd.R_base ho0) hb); have n1_ := Aside0.mk (Kd.R_below (by (with_reducible repeat (first | apply Kd.R_alloc | apply Kd.R_drewN | apply Kd.R_drew)); exact HO148.out) hb); have n2_ := Aside0.mk (Kd.R_lower ho0 (below_size (by repeat (first | (with_reducible first | exact HB.out | apply below_alloc | apply pw_below_drewN | apply below_drew1) | exact HB.out)))); have n3_ := Aside0.mk (below_step (by repeat (first | (with_reducible first | exact HB.out | apply below_alloc | apply pw_below_drewN | apply below_drew1) | exact HB.out)) hb); clear HO145; clear HO148; clear HB; have HO145 := n0_; have HO148 := n1_; have HO152 := n2_; have HB := n3_; clear n0_ n1_ n2_ n3_; (try clear hb); (try clear hb2); (try clear hk); (try clear hi); (try clear ho0); obtain ⟨Ao18, co18, eo18⟩ := Kd.R_slice HO152.out; subst eo18; have p153 : 0 ≤ (2 : Int) := (by omega); have q153 : 2 < (t149.length : Int) := of_decide_eq_true (by first | (with_reducible assumption) | assumption); obtain ⟨ad153, e153, hx153_0⟩ := Kd.at_int (Kd.R_reads' HO152.out).2.2 2 p153 q153; cases e153; (try simp only [show (2 : Int).toNat = 2 from rfl, Nat.reduceMul, Nat.reduceEqDiff, Go.Addr.add, ↓reduceIte] at hx153_0); have qi153 : (2 < t149.length) = True := eq_true (by omega); (try rw [show ((2 : Int)).toNat = 2 from rfl] at hx153_0); replace p153 := eq_true p153; replace q153 := eq_true q153))
        go_ret
        exact ⟨by first | rfl | (simp [errW_none, errW_some] <;> rfl) | (simp [*, errW_none, errW_some] <;> rfl), by repeat (first | (with_reducible first | exact HB.out | apply below_alloc | apply pw_below_drewN | apply below_drew1) | exact HB.out)⟩
      · rw [if_neg c4] at H
        have c4b0 : ((rd t149 2) == 3) = false := beq_eq_false_iff_ne.mpr c4
        have c4b1 : ((rd t149 2) != 3) = true := bne_iff_ne.mpr c4
        obtain rfl := Option.some.inj H
        go_enter Tryd.func8, Tryd.ntmps8
        go_wp2_with (first | ((with_reducible refine gate_dst (N := 4) rfl ?_); refine Kd.R_lit (Kd.int .i64) _ 3 ?hg (N := 4) ?hd (xs := ([1] : List Int)) (inner := [.int .i64 1]) (ok := fun _ => True) (okp := fun _ => True) ?hr ?hp (fun _ hk => hk) trivial (Below.refl _ _) (Nat.le_refl _) (by simp) ?_; (case hd => rfl); (case hg => rfl); (case hr => first | (go_simp; done) | (go_simp; rfl)); (case hp => exact (Reps.one (show Kd.M (Kd.int .i64) _ _ _ 1 [.int .i64 1] from rfl) (Reps.none _ _))); intro v138 w19 ho20 hb hg_ hnew_; clear hg_ hnew_; (first | rw [← Ny137.out] at ho20 | (simp only [Int.reduceToNat] at ho20; rw [← Ny137.out] at ho20)); have n0_ := Aside0.mk (Kd.R_lower ho20 (below_size (by repeat (first | (with_reducible first | exact HB.out | apply below_alloc | apply pw_below_drewN | apply below_drew1) | exact HB.out)))); have n1_ := Aside0.mk (below_step (by repeat (first | (with_reducible first | exact HB.out | apply below_alloc | apply pw_below_drewN | apply below_drew1) | exact HB.out)) hb); clear HB; have HO139 := n0_; have HB := n1_; clear n0_ n1_; clear hb ho20) | ((with_reducible refine gate_dst (N := 5) rfl ?_); refine Kd.R_lit (Kd.int .i64) _ 3 ?hg (N := 5) ?hd (xs := ([2] : List Int)) (inner := [.int .i64 2]) (ok := fun _ => True) (okp := fun _ => True) ?hr ?hp (fun _ hk => hk) trivial (Below.refl _ _) (Nat.le_refl _) (by simp) ?_; (case hd => rfl); (case hg => rfl); (case hr => first | (go_simp; done) | (go_simp; rfl)); (case hp => exact (Reps.one (show Kd.M (Kd.int .i64) _ _ _ 2 [.int .i64 2] from rfl) (Reps.none _ _))); intro v141 w21 ho22 hb hg_ hnew_; clear hg_ hnew_; (first | rw [← Ny140.out] at ho22 | (simp only [Int.reduceToNat] at ho22; rw [← Ny140.out] at ho22)); have n0_ := Aside0.mk (Kd.R_elder' (by (with_reducible repeat (first | apply Kd.R_alloc | apply Kd.R_drewN | apply Kd.R_drew)); exact HO139.out) (Kd.R_base ho22) hb); have n1_ := Aside0.mk (Kd.R_lower (Kd.R_new' ho22 (Kd.R_lt (by (with_reducible repeat (first | apply Kd.R_alloc | apply Kd.R_drewN | apply Kd.R_drew)); exact HO139.out))) (below_size (by repeat (first | (with_reducible first | exact HB.out | apply below_alloc | apply pw_below_drewN | apply below_drew1) | exact HB.out)))); have n2_ := Aside0.mk (below_step (by repeat (first | (with_reducible first | exact HB.out | apply below_alloc | apply pw_below_drewN | apply below_drew1) | exact HB.out)) hb); clear HO139; clear HB; have HO139 := n0_; have HO142 := n1_; have HB := n2_; clear n0_ n1_ n2_; clear hb ho22; obtain ⟨Ao23, co23, eo23⟩ := Kd.R_slice HO139.out; subst eo23; obtain ⟨Ao24, co24, eo24⟩ := Kd.R_slice HO142.out; subst eo24) | ((with_reducible refine gate_dst (N := 6) rfl ?_); refine Kd.N_lit (Kd.slice 3 (Kd.int .i64)) _ 23 ?hg (N' := 6) ?hd (xs := ([y137, y140] : List (List Int))) (inner := [.slice Ao23 y137.length co23, .slice Ao24 y140.length co24]) (ok := (fun _ => True)) (okp := (fun _ => True)) ?hr ?hp (fun _ hk => hk) ((show ∀ k_, w21.heap.size ≤ k_ → (fun _ => True) k_ from fun k_ hk => trivial) _ (Nat.le_refl _)) (Below.refl _ _) (Nat.le_refl _) (by simp) ?_; (case hd => rfl); (case hg => rfl); (case hr => first | (go_simp; done) | (go_simp; rfl)); (case hp => exact (Reps.one (show Kd.FK (Kd.slice 3 (Kd.int .i64)) _ _ y137 [.slice Ao23 y137.length co23] from (Kd.FK_slice_mk (Kd.R_reads' (Kd.R_mono (ok' := (fun _ => True)) (HO139.out) (fun k_ hk => trivial))).2.1 (Kd.R_F (Kd.R_mono (ok' := (fun _ => True)) (HO139.out) (fun k_ hk => trivial))))) (Reps.one (show Kd.FK (Kd.slice 3 (Kd.int .i64)) _ _ y140 [.slice Ao24 y140.length co24] from (Kd.FK_slice_mk (Kd.R_reads' (Kd.R_mono (ok' := (fun _ => True)) (HO142.out) (fun k_ hk => trivial))).2.1 (Kd.R_F (Kd.R_mono (ok' := (fun _ => True)) (HO142.out) (fun k_ hk => trivial))))) (Reps.none _ _)))); intro v144 w25 ho26 hb hg_ hnew_; clear hg_ hnew_; (first | rw [← Ny143.out] at ho26 | (simp only [Int.reduceToNat] at ho26; rw [← Ny143.out] at ho26)); have n0_ := Aside0.mk (Kd.N_lower ho26 (below_size (by repeat (first | (with_reducible first | exact HB.out | apply below_alloc | apply pw_below_drewN | apply below_drew1) | exact HB.out)))); have n1_ := Aside0.mk (below_step (by repeat (first | (with_reducible first | exact HB.out | apply below_alloc | apply pw_below_drewN | apply below_drew1) | exact HB.out)) hb); clear HB; clear HO139; clear HO142; have HO145 := n0_; have HB := n1_; clear n0_ n1_; clear hb ho26) | ((with_reducible refine gate_dst (N := 7) rfl ?_); refine Kd.R_lit (Kd.int .i64) _ 3 ?hg (N := 7) ?hd (xs := ([1] : List Int)) (inner := [.int .i64 1]) (ok := fun _ => True) (okp := fun _ => True) ?hr ?hp (fun _ hk => hk) trivial (Below.refl _ _) (Nat.le_refl _) (by simp) ?_; (case hd => rfl); (case hg => rfl); (case hr => first | (go_simp; done) | (go_simp; rfl)); (case hp => exact (Reps.one (show Kd.M (Kd.int .i64) _ _ _ 1 [.int .i64 1] from rfl) (Reps.none _ _))); intro v147 w27 ho28 hb hg_ hnew_; clear hg_ hnew_; (first | rw [← Ny146.out] at ho28 | (simp only [Int.reduceToNat] at ho28; rw [← Ny146.out] at ho28)); have n0_ := Aside0.mk (Kd.N_elder' (by (with_reducible repeat (first | apply Kd.N_alloc | apply Kd.N_drewN | apply Kd.N_drew)); exact HO145.out) (Kd.R_base ho28) hb); have n1_ := Aside0.mk (Kd.R_lower ho28 (below_size (by repeat (first | (with_reducible first | exact HB.out | apply below_alloc | apply pw_below_drewN | apply below_drew1) | exact HB.out)))); have n2_ := Aside0.mk (below_step (by repeat (first | (with_reducible first | exact HB.out | apply below_alloc | apply pw_below_drewN | apply below_drew1) | exact HB.out)) hb); clear HO145; clear HB; have HO145 := n0_; have HO148 := n1_; have HB := n2_; clear n0_ n1_ n2_; clear hb ho28; obtain ⟨Ao29, co29, eo29⟩ := Kd.N_slice HO145.out; subst eo29; obtain ⟨Ao30, co30, eo30⟩ := Kd.R_slice HO148.out; subst eo30) | ((with_reducible refine gate_callee (f := 10) rfl ?_); refine goesL_ (some 8) rfl rfl Tryd.func10 (by kernel_rfl) rfl #[.slice Ao29 y143.length co29, .slice Ao30 y146.length co30, .int .i64 9] rfl (by (try simp only [List.map_toArray, List.map_cons, List.map_nil]); first | done | rfl | (simp only [List.length_drop, List.length_take]; rfl)) ?_; (with_reducible refine (pick_List.calls k _ _ y143 _ _ y146 9 t149 t150 _ ?side1 ?side2 ?side3 ?side4 A1.out ?laid).mono ?_); (case laid => first | exact HLT.out | (repeat (first | exact HLT.out | apply Go.Proofs.YtbdlihldmmbdmaaDoor.Bits.TabW.alloc | apply Go.Proofs.YtbdlihldmmbdmaaDoor.Bits.TabW.drewN | exact Go.Proofs.YtbdlihldmmbdmaaDoor.Bits.TabW.below HLT.out HB.out))); (case side1 => repeat (first | exact (Kd.N_reads' HO145.out).2.2 | (with_reducible refine Kd.C_alloc ?_ _) | (with_reducible refine Kd.C_drewN ?_ _) | (with_reducible refine Kd.C_drew ?_))); (case side2 => exact (Kd.N_reads' HO145.out).2.1); (case side3 => repeat (first | exact (Kd.R_reads' HO148.out).2.2 | (with_reducible refine Kd.C_alloc ?_ _) | (with_reducible refine Kd.C_drewN ?_ _) | (with_reducible refine Kd.C_drew ?_))); (case side4 => exact (Kd.R_reads' HO148.out).2.1); rintro e w31 ⟨v151, rfl, ho0, hb⟩; refine ⟨_, rfl, ?_⟩; have n0_ := Aside0.mk (Kd.N_elder' (by (with_reducible repeat (first | apply Kd.N_alloc | apply Kd.N_drewN | apply Kd.N_drew)); exact HO145.out) (Kd.R_base ho0) hb); have n1_ := Aside0.mk (Kd.R_below (by (with_reducible repeat (first | apply Kd.R_alloc | apply Kd.R_drewN | apply Kd.R_drew)); exact HO148.out) hb); have n2_ := Aside0.mk (Kd.R_lower ho0 (below_size (by repeat (first | (with_reducible first | exact HB.out | apply below_alloc | apply pw_below_drewN | apply below_drew1) | exact HB.out)))); have n3_ := Aside0.mk (below_step (by repeat (first | (with_reducible first | exact HB.out | apply below_alloc | apply pw_below_drewN | apply below_drew1) | exact HB.out)) hb); clear HO145; clear HO148; clear HB; have HO145 := n0_; have HO148 := n1_; have HO152 := n2_; have HB := n3_; clear n0_ n1_ n2_ n3_; (try clear hb); (try clear hb2); (try clear hk); (try clear hi); (try clear ho0); obtain ⟨Ao32, co32, eo32⟩ := Kd.R_slice HO152.out; subst eo32; have p153 : 0 ≤ (2 : Int) := (by omega); have q153 : 2 < (t149.length : Int) := of_decide_eq_true (by first | (with_reducible assumption) | assumption); obtain ⟨ad153, e153, hx153_0⟩ := Kd.at_int (Kd.R_reads' HO152.out).2.2 2 p153 q153; cases e153; (try simp only [show (2 : Int).toNat = 2 from rfl, Nat.reduceMul, Nat.reduceEqDiff, Go.Addr.add, ↓reduceIte] at hx153_0); have qi153 : (2 < t149.length) = True := eq_true (by omega); (try rw [show ((2 : Int)).toNat = 2 from rfl] at hx153_0); replace p153 := eq_true p153; replace q153 := eq_true q153))
        go_ret
        exact ⟨by first | rfl | (simp [errW_none, errW_some] <;> rfl) | (simp [*, errW_none, errW_some] <;> rfl), by repeat (first | (with_reducible first | exact HB.out | apply below_alloc | apply pw_below_drewN | apply below_drew1) | exact HB.out)⟩
    · rw [if_neg c3] at H
      exact absurd H (by simp)
  · rw [if_neg c2] at H
    have c2b0 : ((t149.length : Int) == 3) = false := beq_eq_false_iff_ne.mpr c2
    have c2b1 : ((t149.length : Int) != 3) = true := bne_iff_ne.mpr c2
    obtain rfl := Option.some.inj H
    go_enter Tryd.func8, Tryd.ntmps8
    go_wp2_with (first | ((with_reducible refine gate_dst (N := 4) rfl ?_); refine Kd.R_lit (Kd.int .i64) _ 3 ?hg (N := 4) ?hd (xs := ([1] : List Int)) (inner := [.int .i64 1]) (ok := fun _ => True) (okp := fun _ => True) ?hr ?hp (fun _ hk => hk) trivial (Below.refl _ _) (Nat.le_refl _) (by simp) ?_; (case hd => rfl); (case hg => rfl); (case hr => first | (go_simp; done) | (go_simp; rfl)); (case hp => exact (Reps.one (show Kd.M (Kd.int .i64) _ _ _ 1 [.int .i64 1] from rfl) (Reps.none _ _))); intro v138 w33 ho34 hb hg_ hnew_; clear hg_ hnew_; (first | rw [← Ny137.out] at ho34 | (simp only [Int.reduceToNat] at ho34; rw [← Ny137.out] at ho34)); have n0_ := Aside0.mk (Kd.R_lower ho34 (below_size (by repeat (first | (with_reducible first | exact HB.out | apply below_alloc | apply pw_below_drewN | apply below_drew1) | exact HB.out)))); have n1_ := Aside0.mk (below_step (by repeat (first | (with_reducible first | exact HB.out | apply below_alloc | apply pw_below_drewN | apply below_drew1) | exact HB.out)) hb); clear HB; have HO139 := n0_; have HB := n1_; clear n0_ n1_; clear hb ho34) | ((with_reducible refine gate_dst (N := 5) rfl ?_); refine Kd.R_lit (Kd.int .i64) _ 3 ?hg (N := 5) ?hd (xs := ([2] : List Int)) (inner := [.int .i64 2]) (ok := fun _ => True) (okp := fun _ => True) ?hr ?hp (fun _ hk => hk) trivial (Below.refl _ _) (Nat.le_refl _) (by simp) ?_; (case hd => rfl); (case hg => rfl); (case hr => first | (go_simp; done) | (go_simp; rfl)); (case hp => exact (Reps.one (show Kd.M (Kd.int .i64) _ _ _ 2 [.int .i64 2] from rfl) (Reps.none _ _))); intro v141 w35 ho36 hb hg_ hnew_; clear hg_ hnew_; (first | rw [← Ny140.out] at ho36 | (simp only [Int.reduceToNat] at ho36; rw [← Ny140.out] at ho36)); have n0_ := Aside0.mk (Kd.R_elder' (by (with_reducible repeat (first | apply Kd.R_alloc | apply Kd.R_drewN | apply Kd.R_drew)); exact HO139.out) (Kd.R_base ho36) hb); have n1_ := Aside0.mk (Kd.R_lower (Kd.R_new' ho36 (Kd.R_lt (by (with_reducible repeat (first | apply Kd.R_alloc | apply Kd.R_drewN | apply Kd.R_drew)); exact HO139.out))) (below_size (by repeat (first | (with_reducible first | exact HB.out | apply below_alloc | apply pw_below_drewN | apply below_drew1) | exact HB.out)))); have n2_ := Aside0.mk (below_step (by repeat (first | (with_reducible first | exact HB.out | apply below_alloc | apply pw_below_drewN | apply below_drew1) | exact HB.out)) hb); clear HO139; clear HB; have HO139 := n0_; have HO142 := n1_; have HB := n2_; clear n0_ n1_ n2_; clear hb ho36; obtain ⟨Ao37, co37, eo37⟩ := Kd.R_slice HO139.out; subst eo37; obtain ⟨Ao38, co38, eo38⟩ := Kd.R_slice HO142.out; subst eo38) | ((with_reducible refine gate_dst (N := 6) rfl ?_); refine Kd.N_lit (Kd.slice 3 (Kd.int .i64)) _ 23 ?hg (N' := 6) ?hd (xs := ([y137, y140] : List (List Int))) (inner := [.slice Ao37 y137.length co37, .slice Ao38 y140.length co38]) (ok := (fun _ => True)) (okp := (fun _ => True)) ?hr ?hp (fun _ hk => hk) ((show ∀ k_, w35.heap.size ≤ k_ → (fun _ => True) k_ from fun k_ hk => trivial) _ (Nat.le_refl _)) (Below.refl _ _) (Nat.le_refl _) (by simp) ?_; (case hd => rfl); (case hg => rfl); (case hr => first | (go_simp; done) | (go_simp; rfl)); (case hp => exact (Reps.one (show Kd.FK (Kd.slice 3 (Kd.int .i64)) _ _ y137 [.slice Ao37 y137.length co37] from (Kd.FK_slice_mk (Kd.R_reads' (Kd.R_mono (ok' := (fun _ => True)) (HO139.out) (fun k_ hk => trivial))).2.1 (Kd.R_F (Kd.R_mono (ok' := (fun _ => True)) (HO139.out) (fun k_ hk => trivial))))) (Reps.one (show Kd.FK (Kd.slice 3 (Kd.int .i64)) _ _ y140 [.slice Ao38 y140.length co38] from (Kd.FK_slice_mk (Kd.R_reads' (Kd.R_mono (ok' := (fun _ => True)) (HO142.out) (fun k_ hk => trivial))).2.1 (Kd.R_F (Kd.R_mono (ok' := (fun _ => True)) (HO142.out) (fun k_ hk => trivial))))) (Reps.none _ _)))); intro v144 w39 ho40 hb hg_ hnew_; clear hg_ hnew_; (first | rw [← Ny143.out] at ho40 | (simp only [Int.reduceToNat] at ho40; rw [← Ny143.out] at ho40)); have n0_ := Aside0.mk (Kd.N_lower ho40 (below_size (by repeat (first | (with_reducible first | exact HB.out | apply below_alloc | apply pw_below_drewN | apply below_drew1) | exact HB.out)))); have n1_ := Aside0.mk (below_step (by repeat (first | (with_reducible first | exact HB.out | apply below_alloc | apply pw_below_drewN | apply below_drew1) | exact HB.out)) hb); clear HB; clear HO139; clear HO142; have HO145 := n0_; have HB := n1_; clear n0_ n1_; clear hb ho40) | ((with_reducible refine gate_dst (N := 7) rfl ?_); refine Kd.R_lit (Kd.int .i64) _ 3 ?hg (N := 7) ?hd (xs := ([1] : List Int)) (inner := [.int .i64 1]) (ok := fun _ => True) (okp := fun _ => True) ?hr ?hp (fun _ hk => hk) trivial (Below.refl _ _) (Nat.le_refl _) (by simp) ?_; (case hd => rfl); (case hg => rfl); (case hr => first | (go_simp; done) | (go_simp; rfl)); (case hp => exact (Reps.one (show Kd.M (Kd.int .i64) _ _ _ 1 [.int .i64 1] from rfl) (Reps.none _ _))); intro v147 w41 ho42 hb hg_ hnew_; clear hg_ hnew_; (first | rw [← Ny146.out] at ho42 | (simp only [Int.reduceToNat] at ho42; rw [← Ny146.out] at ho42)); have n0_ := Aside0.mk (Kd.N_elder' (by (with_reducible repeat (first | apply Kd.N_alloc | apply Kd.N_drewN | apply Kd.N_drew)); exact HO145.out) (Kd.R_base ho42) hb); have n1_ := Aside0.mk (Kd.R_lower ho42 (below_size (by repeat (first | (with_reducible first | exact HB.out | apply below_alloc | apply pw_below_drewN | apply below_drew1) | exact HB.out)))); have n2_ := Aside0.mk (below_step (by repeat (first | (with_reducible first | exact HB.out | apply below_alloc | apply pw_below_drewN | apply below_drew1) | exact HB.out)) hb); clear HO145; clear HB; have HO145 := n0_; have HO148 := n1_; have HB := n2_; clear n0_ n1_ n2_; clear hb ho42; obtain ⟨Ao43, co43, eo43⟩ := Kd.N_slice HO145.out; subst eo43; obtain ⟨Ao44, co44, eo44⟩ := Kd.R_slice HO148.out; subst eo44) | ((with_reducible refine gate_callee (f := 10) rfl ?_); refine goesL_ (some 8) rfl rfl Tryd.func10 (by kernel_rfl) rfl #[.slice Ao43 y143.length co43, .slice Ao44 y146.length co44, .int .i64 9] rfl (by (try simp only [List.map_toArray, List.map_cons, List.map_nil]); first | done | rfl | (simp only [List.length_drop, List.length_take]; rfl)) ?_; (with_reducible refine (pick_List.calls k _ _ y143 _ _ y146 9 t149 t150 _ ?side1 ?side2 ?side3 ?side4 A1.out ?laid).mono ?_); (case laid => first | exact HLT.out | (repeat (first | exact HLT.out | apply Go.Proofs.YtbdlihldmmbdmaaDoor.Bits.TabW.alloc | apply Go.Proofs.YtbdlihldmmbdmaaDoor.Bits.TabW.drewN | exact Go.Proofs.YtbdlihldmmbdmaaDoor.Bits.TabW.below HLT.out HB.out))); (case side1 => repeat (first | exact (Kd.N_reads' HO145.out).2.2 | (with_reducible refine Kd.C_alloc ?_ _) | (with_reducible refine Kd.C_drewN ?_ _) | (with_reducible refine Kd.C_drew ?_))); (case side2 => exact (Kd.N_reads' HO145.out).2.1); (case side3 => repeat (first | exact (Kd.R_reads' HO148.out).2.2 | (with_reducible refine Kd.C_alloc ?_ _) | (with_reducible refine Kd.C_drewN ?_ _) | (with_reducible refine Kd.C_drew ?_))); (case side4 => exact (Kd.R_reads' HO148.out).2.1); rintro e w45 ⟨v151, rfl, ho0, hb⟩; refine ⟨_, rfl, ?_⟩; have n0_ := Aside0.mk (Kd.N_elder' (by (with_reducible repeat (first | apply Kd.N_alloc | apply Kd.N_drewN | apply Kd.N_drew)); exact HO145.out) (Kd.R_base ho0) hb); have n1_ := Aside0.mk (Kd.R_below (by (with_reducible repeat (first | apply Kd.R_alloc | apply Kd.R_drewN | apply Kd.R_drew)); exact HO148.out) hb); have n2_ := Aside0.mk (Kd.R_lower ho0 (below_size (by repeat (first | (with_reducible first | exact HB.out | apply below_alloc | apply pw_below_drewN | apply below_drew1) | exact HB.out)))); have n3_ := Aside0.mk (below_step (by repeat (first | (with_reducible first | exact HB.out | apply below_alloc | apply pw_below_drewN | apply below_drew1) | exact HB.out)) hb); clear HO145; clear HO148; clear HB; have HO145 := n0_; have HO148 := n1_; have HO152 := n2_; have HB := n3_; clear n0_ n1_ n2_ n3_; (try clear hb); (try clear hb2); (try clear hk); (try clear hi); (try clear ho0); obtain ⟨Ao46, co46, eo46⟩ := Kd.R_slice HO152.out; subst eo46))
    go_ret
    exact ⟨by first | rfl | (simp [errW_none, errW_some] <;> rfl) | (simp [*, errW_none, errW_some] <;> rfl), by repeat (first | (with_reducible first | exact HB.out | apply below_alloc | apply pw_below_drewN | apply below_drew1) | exact HB.out)⟩

end Go.Proofs.YtbdlihldmmbdmaaDoor.SK

namespace Go.Proofs.YtbdlihldmmbdmaaDoor.PickSpec
open Go.RowKit Go.Proofs.YtbdlihldmmbdmaaDoor.SK Go.Proofs.YtbdlihldmmbdmaaDoorW.PrintWords Go.Proofs.YtbdlihldmmbdmaaDoorW.PrintMore Go.Proofs.YtbdlihldmmbdmaaDoor.Plain
set_option linter.unusedVariables false

theorem pick_sum_ev (rows : List (List Int)) (want : List Int) (m : Nat) (hm : m < 4294967296) : Ev (fun k => pick_Sum.f k rows want (m : Int)) (sumS rows want m) := by
  refine Ev.congr (f := fun k => (amalgamref10_Sum.f k rows want (m : Int)).bind fun bt => some (bt.1, bt.2)) (fun k => ?_) (Ev.cast (Ev.then (sum_ev rows want m hm) (Ev.now _)) rfl)
  unfold pick_Sum.f
  rw [if_pos (by omega), if_pos (by simp; omega)]
theorem pick_fits_ev (rows : List (List Int)) (want : List Int) (hc : chk rows want = 0) (m : Nat) (hm : m < 2 ^ rows.length) : Ev (fun k => pick_Fits.f k rows want (m : Int)) (fitsM rows want m, 0) := by
  obtain ⟨h16, h10, _, _⟩ := chk_zero hc
  have hp := pow_le16 h16
  have hs : sumS rows want m = (addM rows m (List.replicate want.length 0), 0) := by
    unfold sumS
    rw [if_pos hc, if_pos (Nat.div_eq_of_lt hm)]
  have hr := addM_right hc m
  refine Ev.then (f := fun k bt => if bt.2 = 0 then ((pick_meets.f k bt.1 want).bind fun t => some (t, 0)) else some (false, bt.2)) (Ev.cast (pick_sum_ev rows want m (by omega)) hs) ?_
  simp only [if_true]
  exact Ev.then (meets_ev _ want hr.1 h10 (fun s h => (hr.2 s h).1)) (Ev.now _)
theorem chk_of {rows : List (List Int)} {want : List Int} (h16 : rows.length ≤ 16) (h10 : want.length ≤ 10) (hw : ∀ w ∈ want, 0 ≤ w ∧ w ≤ 2) (hr : ∀ row ∈ rows, row.length = want.length ∧ ∀ n ∈ row, 0 ≤ n ∧ n ≤ 1048576) : chk rows want = 0 := by
  unfold chk
  rw [if_neg (by omega), if_neg (by omega), if_neg, if_neg]
  · simp only [List.any_eq_true, not_exists, not_and, Bool.not_eq_true]
    intro row hrow
    obtain ⟨h1, h2⟩ := hr row hrow
    simp only [badR, h1, ne_eq, not_true, decide_false, Bool.false_or, List.any_eq_false, badN, Bool.or_eq_true, decide_eq_true_eq]
    intro x hx
    have := h2 x hx
    omega
  · simp only [List.any_eq_true, not_exists, not_and, Bool.not_eq_true]
    intro x hx
    have := hw x hx
    simp only [badW, Bool.or_eq_false_iff, decide_eq_false_iff_not]
    omega
/-- All wants any, but one. -/
def alone (want : List Int) (i : Nat) : List Int := (List.replicate want.length 0).set i (want.getD i 0)
theorem alone_length (want : List Int) (i : Nat) : (alone want i).length = want.length := by simp [alone]
theorem chk_alone {rows : List (List Int)} {want : List Int} (hc : chk rows want = 0) (i : Nat) (hi : i < want.length) : chk rows (alone want i) = 0 := by
  obtain ⟨h16, h10, hw, hr⟩ := chk_zero hc
  refine chk_of h16 (by rw [alone_length]; exact h10) (fun w h => ?_) (fun row h => by rw [alone_length]; exact hr row h)
  unfold alone at h
  rcases List.mem_or_eq_of_mem_set h with h | h
  · rw [List.eq_of_mem_replicate h]; decide
  · rw [h, List.getD_eq_getElem?_getD, List.getElem?_eq_getElem hi]
    exact hw _ (List.getElem_mem hi)
theorem fitsB_alone (sum want : List Int) (hl : sum.length = want.length) (i : Nat) (hi : i < want.length) : fitsB sum (alone want i) = fitB (sum.getD i 0) (want.getD i 0) := by
  have hla := alone_length want i
  unfold fitsB
  rw [Bool.eq_iff_iff, List.all_eq_true]
  constructor
  · intro h
    have h1 := h _ (List.getElem_mem (l := List.zipWith fitB sum (alone want i)) (n := i) (by simp [hla]; omega))
    rw [zip_get (by omega) (by omega)] at h1
    rw [List.getD_eq_getElem?_getD, List.getElem?_eq_getElem (by omega : i < sum.length)]
    simpa [alone] using h1
  · intro h b hb
    obtain ⟨j, hj, rfl⟩ := List.getElem_of_mem hb
    have hj' : j < want.length := by simp [hla] at hj; omega
    rw [zip_get (by omega) (by omega)]
    by_cases hij : i = j
    · subst hij
      rw [List.getD_eq_getElem?_getD, List.getElem?_eq_getElem (by omega : i < sum.length)] at h
      simpa [alone] using h
    · simp [alone, hij, fitB]
theorem fitsB_each (sum want : List Int) (hl : sum.length = want.length) : fitsB sum want = (List.range want.length).all fun i => fitB (sum.getD i 0) (want.getD i 0) := by
  unfold fitsB
  rw [Bool.eq_iff_iff, List.all_eq_true, List.all_eq_true]
  constructor
  · intro h i hi
    have hi := List.mem_range.1 hi
    have h1 := h _ (List.getElem_mem (l := List.zipWith fitB sum want) (n := i) (by simp; omega))
    rw [zip_get (by omega) hi] at h1
    rw [List.getD_eq_getElem?_getD, List.getD_eq_getElem?_getD, List.getElem?_eq_getElem (by omega : i < sum.length), List.getElem?_eq_getElem hi]
    exact h1
  · intro h b hb
    obtain ⟨j, hj, rfl⟩ := List.getElem_of_mem hb
    have hj' : j < want.length := by simp at hj; omega
    rw [zip_get (by omega) hj']
    have h1 := h j (List.mem_range.2 hj')
    rw [List.getD_eq_getElem?_getD, List.getD_eq_getElem?_getD, List.getElem?_eq_getElem (by omega : j < sum.length), List.getElem?_eq_getElem hj'] at h1
    exact h1
theorem addRow_get {acc row : List Int} {n i : Nat} (ha : acc.length = n) (hr : row.length = n) (hi : i < n) : (addRow acc row).getD i 0 = wrap64 (acc.getD i 0 + row.getD i 0) := by
  rw [List.getD_eq_getElem?_getD, List.getD_eq_getElem?_getD, List.getD_eq_getElem?_getD, List.getElem?_eq_getElem (by rw [addRow_length ha hr]; exact hi), List.getElem?_eq_getElem (by omega : i < acc.length), List.getElem?_eq_getElem (by omega : i < row.length)]
  simp [addRow]
/-- More rows, greater sums (where nothing wraps). -/
theorem addM_more : ∀ (rows : List (List Int)) (m m' n B : Nat) (acc acc' : List Int), (∀ row ∈ rows, row.length = n ∧ ∀ x ∈ row, 0 ≤ x ∧ x ≤ 1048576) → acc.length = n → acc'.length = n → (∀ i, m.testBit i = true → m'.testBit i = true) →
    (∀ i, i < n → 0 ≤ acc.getD i 0 ∧ acc.getD i 0 ≤ acc'.getD i 0 ∧ acc'.getD i 0 ≤ (B : Int)) → B + rows.length * 1048576 ≤ 4611686018427387904 → ∀ i, i < n → (addM rows m acc).getD i 0 ≤ (addM rows m' acc').getD i 0
  | [], _, _, n, B, acc, acc', _, _, _, _, h, _ => fun i hi => (h i hi).2.1
  | row :: rows, m, m', n, B, acc, acc', hr, ha, ha', hsub, h, hB => fun i hi => by
    obtain ⟨hrl, hrx⟩ := hr row List.mem_cons_self
    simp only [List.length_cons] at hB
    unfold addM
    refine addM_more rows (m / 2) (m' / 2) n (B + 1048576) _ _ (fun r h => hr r (List.mem_cons_of_mem _ h)) (by split; exact addRow_length ha hrl; exact ha) (by split; exact addRow_length ha' hrl; exact ha') (fun j hj => ?_) (fun j hj => ?_) (by omega) i hi
    · have := hsub (j + 1)
      rw [Nat.testBit_succ, Nat.testBit_succ] at this
      exact this hj
    · obtain ⟨h1, h2, h3⟩ := h j hj
      have hx := hrx row[j] (List.getElem_mem (by omega))
      have hrd : row.getD j 0 = row[j] := by rw [List.getD_eq_getElem?_getD, List.getElem?_eq_getElem (by omega : j < row.length)]; rfl
      have hb := hsub 0
      simp only [Nat.testBit_zero, decide_eq_true_eq] at hb
      by_cases c1 : m % 2 = 1
      · rw [if_pos c1, if_pos (hb c1), addRow_get ha hrl hj, addRow_get ha' hrl hj, hrd, wrap_id (by omega) (by omega), wrap_id (by omega) (by omega)]
        omega
      · rw [if_neg c1]
        by_cases c2 : m' % 2 = 1
        · rw [if_pos c2, addRow_get ha' hrl hj, hrd, wrap_id (by omega) (by omega)]
          omega
        · rw [if_neg c2]
          omega
theorem fits_more {rows : List (List Int)} {want : List Int} (hc : chk rows want = 0) (m m' : Nat) (hsub : ∀ i, m.testBit i = true → m'.testBit i = true) (h2 : ∀ i, i < want.length → want.getD i 0 ≠ 2) (h : fitsM rows want m = true) : fitsM rows want m' = true := by
  obtain ⟨h16, h10, hw, hr⟩ := chk_zero hc
  unfold fitsM at h ⊢
  rw [fitsB_each _ _ (addM_right hc _).1, List.all_eq_true] at h ⊢
  intro i hi
  have hi' := List.mem_range.1 hi
  have h1 := h i hi
  have hz : (List.replicate want.length (0 : Int)).getD i 0 = 0 := by rw [List.getD_eq_getElem?_getD, List.getElem?_replicate]; split <;> rfl
  have hle := addM_more rows m m' want.length 0 (List.replicate want.length 0) (List.replicate want.length 0) hr (by simp) (by simp) hsub (fun j hj => by
    have : (List.replicate want.length (0 : Int)).getD j 0 = 0 := by rw [List.getD_eq_getElem?_getD, List.getElem?_replicate]; split <;> rfl
    rw [this]; simp) (by omega) i hi'
  have hne := h2 i hi'
  generalize (addM rows m (List.replicate want.length 0)).getD i 0 = s at h1 hle
  generalize (addM rows m' (List.replicate want.length 0)).getD i 0 = s' at hle ⊢
  generalize want.getD i 0 = w at h1 hne ⊢
  unfold fitB at h1 ⊢
  have hw2 : (w == 2) = false := by simpa using hne
  rw [hw2] at h1 ⊢
  simp at h1 ⊢
  omega
theorem u32_mask (x n : Nat) (hx : x < 4294967296) (hn : n ≤ 16) : Go.bits .and .u32 (x : Int) ((shl .u32 1 (n : Int) - 1) % 4294967296) = ((x &&& (2 ^ n - 1) : Nat) : Int) := by
  have hp := pow_le16 hn
  have hpos := Nat.two_pow_pos n
  rw [shl_one hn, show (((2 ^ n : Nat) : Int) - 1) % 4294967296 = ((2 ^ n - 1 : Nat) : Int) by omega]
  exact bits_and_u32_nat x (2 ^ n - 1) hx (by omega)
theorem bits_or_u32_nat (a b : Nat) (ha : a < 4294967296) (hb : b < 4294967296) : Go.bits .or .u32 (a : Int) (b : Int) = ((a ||| b : Nat) : Int) := by
  have hx : a ||| b < 2 ^ 32 := Nat.or_lt_two_pow (by omega) (by omega)
  have h1 : (BitVec.ofInt 32 (a : Int)).toNat = a := by
    rw [BitVec.ofInt_natCast, BitVec.toNat_ofNat]; exact Nat.mod_eq_of_lt (by omega)
  have h2 : (BitVec.ofInt 32 (b : Int)).toNat = b := by
    rw [BitVec.ofInt_natCast, BitVec.toNat_ofNat]; exact Nat.mod_eq_of_lt (by omega)
  show IntKind.u32.wrap ((BitVec.ofInt 32 (a : Int) ||| BitVec.ofInt 32 (b : Int)).toNat : Int) = _
  rw [BitVec.toNat_or, h1, h2, IntKind.wrap_u32]
  omega
theorem and_mask_lt (x n : Nat) : x &&& (2 ^ n - 1) < 2 ^ n := by
  have := Nat.two_pow_pos n
  have h : x &&& (2 ^ n - 1) ≤ 2 ^ n - 1 := Nat.and_le_right
  omega
end Go.Proofs.YtbdlihldmmbdmaaDoor.PickSpec

namespace Go.Proofs.YtbdlihldmmbdmaaDoor.PickPicked
open Go.RowKit Go.Proofs.YtbdlihldmmbdmaaDoor.Full Go.Proofs.YtbdlihldmmbdmaaDoorW.PrintWords Go.Proofs.YtbdlihldmmbdmaaDoorW.PrintMore Go.Proofs.YtbdlihldmmbdmaaDoor.Plain Go.Proofs.YtbdlihldmmbdmaaDoor.PickSpec Go.Proofs.YtbdlihldmmbdmaaDoor.PickFn
set_option linter.unusedVariables false

theorem info_row : (Tryd.prog.info? 23).map (fun i => (i.zero, i.size, i.bytes)) = some (some (.slice none 0 0), 1, 24) := by kernel_rfl
/-- The rows from the i-th on that the mask picks. -/
def pickedTo (rows : List (List Int)) (m : Nat) : Nat → List (List Int)
  | 0 => []
  | i + 1 => pickedTo rows m i ++ (if i < 32 ∧ m / 2 ^ i % 2 = 1 then [rows.getD i []] else [])
theorem pickedTo_length (rows : List (List Int)) (m : Nat) : ∀ i, (pickedTo rows m i).length ≤ i ∧ (pickedTo rows m i).length ≤ 32 := by
  intro i
  induction i with
  | zero => simp [pickedTo]
  | succ i ih =>
    unfold pickedTo
    have : ∀ j, (pickedTo rows m j).length ≤ j := by
      intro j
      induction j with
      | zero => simp [pickedTo]
      | succ j ih =>
        unfold pickedTo
        split <;> simp <;> omega
    have hi := this i
    split
    · simp; omega
    · simp; omega

set_option maxHeartbeats 4000000 in
theorem picked_any (A0 : Option Addr) (c0 : Nat) (rows : List (List Int)) (m : Nat) (w : World) (hm : m < 4294967296) (hr : Kd.C (Kd.slice 3 (Kd.int .i64)) w A0 rows.length rows) (hl : ∀ row ∈ rows, row.length ≤ 1048576) :
    Calls Tryd.prog 25 #[.slice A0 rows.length c0, .int .u32 (m : Int)] w fun e w' => ∃ v vals, e = .returned v ∧ FullRow w' w.heap.size 23 (.slice none 0 0) v vals ∧ RowsAre w' w.heap.size 3 vals (pickedTo rows m rows.length) ∧ Below w.heap.size w w' := by
  have HR := Aside0.mk hr
  have HL := Aside0.mk hl
  have hmax := Kd.C_max hr
  clear hr hl
  go_enter Tryd.func25, Tryd.ntmps25
  go_wp2
  go_loopw [5, 10] (fun v5 v10 wr => ∃ (i : Nat) (vals : List Value), v10 = .int .i64 (i : Int) ∧ i ≤ rows.length ∧ Aside0 (FullRow wr w.heap.size 23 (.slice none 0 0) v5 vals) ∧ Aside0 (RowsAre wr w.heap.size 3 vals (pickedTo rows m i)) ∧ Aside0 (Below w.heap.size w wr)) (fun _ v10 _ => rows.length - (intOf v10).toNat)
  case atStart => exact ⟨0, [], rfl, Nat.zero_le _, ⟨.inl ⟨rfl, rfl⟩⟩, ⟨.nil⟩, ⟨Below.refl _ _⟩⟩
  case round =>
    obtain ⟨i, vals, rfl, hi, HF, HO, HB⟩ := hrel
    by_cases hin : i < rows.length
    · obtain ⟨ad, A1, c1, e, hx, hc1, hC1⟩ := at_row (Kd.C_below HR.out HB.out) i hin
      cases e
      obtain ⟨row, hrow⟩ : ∃ row, row = rows[i] := ⟨_, rfl⟩
      rw [← hrow] at hx hc1 hC1
      have hxi : wr.cell? (ad.add i) = some (.slice A1 row.length c1) := hx
      have hlen : row.length ≤ 1048576 := by rw [hrow]; exact HL.out _ (List.getElem_mem _)
      have HCL := Aside0.mk (Clone.clone_int A1 c1 row wr hC1 (by omega))
      have hgd : rows.getD i [] = row := by rw [hrow, List.getD_eq_getElem?_getD, List.getElem?_eq_getElem hin]; rfl
      have hsucc : pickedTo rows m (i + 1) = pickedTo rows m i ++ (if i < 32 ∧ m / 2 ^ i % 2 = 1 then [row] else []) := by rw [← hgd]; rfl
      have HS := Aside0.mk hsucc
      have hpl := (pickedTo_length rows m i).2
      clear hx hC1 hc1 hrow hgd hsucc
      by_cases h32 : i < 32
      · obtain ⟨q, hq⟩ : ∃ q, q = m / 2 ^ i := ⟨_, rfl⟩
        have hs : (m : Int) / 2 ^ i = (q : Int) := by rw [hq]; simp
        have hlt : q < 4294967296 := by rw [hq]; exact Nat.lt_of_le_of_lt (Nat.div_le_self _ _) hm
        have hb1 := u32_and1 q hlt
        rw [← hq] at HS
        clear hq
        by_cases hbit : q % 2 = 1
        · rw [hbit] at hb1
          have hb2 : Go.bits .and .u32 (q : Int) 1 = 1 := hb1
          have hsx := HS.out
          rw [if_pos ⟨h32, hbit⟩] at hsx
          have HS2 := Aside0.mk hsx
          clear hsx HS hb1 hbit
          go_wp2_with (go_at_call 28; refine (show (Nat → _) → _ from fun h => h 0) ?_)
          intro _
          refine HCL.out.mono ?_
          rintro e w2 ⟨v2, rfl, hR, hb⟩
          have hB2 : Below w.heap.size w w2 := below_then HB.out HB.out.size hb
          have hF2 := HF.out.move (w1 := w2) (fun k hk => hb.block k (HF.out.lt k hk).2)
          have hR2 := (HO.out.later hb).snoc (Kd.R_lower hR HB.out.size)
          rw [← HS2.out] at hR2
          have hvl : vals.length ≤ 32 := by rw [HO.out.length]; exact hpl
          obtain ⟨A2, c2, rfl⟩ := Kd.R_slice hR
          have hF3 := hF2.move (w1 := w2.alloc (.cells #[.slice A2 row.length c2] 23)) (fun k hk => (below_alloc (Below.refl _ w2) _).block k (hF2.lt k hk).2)
          have hu := cell_of_one (heap_alloc_new w2 (.cells #[.slice A2 row.length c2] 23))
          have HR3 := Aside0.mk (hR2.later (below_alloc (Below.refl _ w2) (.cells #[.slice A2 row.length c2] 23)))
          have HF3 := Aside0.mk hF3
          have HU := Aside0.mk hu
          have HB2 := Aside0.mk hB2
          have HVL := Aside0.mk hvl
          clear hR hb hF2 hR2 hF3 hB2 HCL HO HF hvl hu
          go_wp2_with (at_builtin; refine (show (Nat → _) → _ from fun h => h 0) ?_)
          intro _
          refine wpList_append_full _ w.heap.size rfl (.tmp 24) (.tmp 27) 22 23 (.slice none 0 0) 24 rfl rfl info_row rfl (by decide) u5 vals (.slice A2 row.length c2) rfl HF3.out ⟨w2.heap.size, 0, none⟩ 1 rfl HU.out rfl (by have := HVL.out; omega) (Nat.le_trans HB2.out.size (by simp)) ?_
          intro v1 w5 hF5 hg _
          have HF5 := Aside0.mk hF5
          have HR5 := Aside0.mk (HR3.out.grown HF3.out (by decide) hg)
          have HB5 := Aside0.mk (show Below w.heap.size w w5 from ?bb)
          case bb => exact ⟨hg.os.trans HB2.out.os, hg.tape.trans HB2.out.tape, hg.output.trans HB2.out.output, Nat.le_trans HB2.out.size (Nat.le_trans (by simp) hg.size), fun k hk => (hg.block k (by have := HB2.out.size; simp; omega) (fun e => by have := (HF3.out.lt k e.symm).1; omega)).trans ((below_alloc (Below.refl _ w2) _).block k (by have := HB2.out.size; omega) |>.trans (HB2.out.block k hk))⟩
          clear hF5 hg HR3 HF3 HU
          go_wp2
          exact ⟨⟨i + 1, _, by go_num, by omega, HF5, HR5, HB5⟩, by simp only [intOf]; omega⟩
        · have hb2 : Go.bits .and .u32 (q : Int) 1 = 0 := by rw [hb1]; omega
          have hsx := HS.out
          rw [if_neg (fun h => hbit h.2), List.append_nil] at hsx
          rw [← hsx] at HO
          clear hsx HS hb1 hbit HCL
          go_wp2
          exact ⟨⟨i + 1, vals, by go_num, by omega, HF, HO, HB⟩, by simp only [intOf]; omega⟩
      · have hsx := HS.out
        rw [if_neg (fun h => h32 h.1), List.append_nil] at hsx
        rw [← hsx] at HO
        clear hsx HS HCL
        go_wp2
        exact ⟨⟨i + 1, vals, by go_num, by omega, HF, HO, HB⟩, by simp only [intOf]; omega⟩
    · have hie : i = rows.length := by omega
      subst hie
      go_wp2
      go_ret
      exact ⟨_, vals, rfl, HF.out, HO.out, HB.out⟩
end Go.Proofs.YtbdlihldmmbdmaaDoor.PickPicked

-- PRINTED by print.py (a twelfth state) out of the translation. Not trusted: Lean checks it.
namespace Go.Proofs.YtbdlihldmmbdmaaDoor.SK
open Go.RowKit Go.Proofs.YtbdlihldmmbdmaaDoorW.PrintWords Go.Proofs.YtbdlihldmmbdmaaDoorW.PrintLast Go.Proofs.YtbdlihldmmbdmaaDoorW.PrintMore
attribute [local go_sem] max2_int min2_int max_two min_two max_three min_three max_four min_four   -- for this text's walks alone
set_option linter.unusedVariables false
set_option linter.unusedSimpArgs false

/-! ### amalgamlaw10_kept: function 13 -/
def amalgamref10_Fits.f (k : Nat) (l0 : List (List Int)) (l1 : List Int) (a2 : Int) : Option (Bool × Int) := (amalgamref10_Sum.f k l0 l1 a2).bind fun bt312 => (if bt312.2 = 0 then ((amalgamref10_fits.f k bt312.1 l1).bind fun t316 => (some (t316, 0))) else (some (false, bt312.2)))
theorem amalgamref10_Fits.mono : ∀ a0 a1 a2 k, LeO (amalgamref10_Fits.f k a0 a1 a2) (amalgamref10_Fits.f (k + 1) a0 a1 a2) := by
  intro a0 a1 a2 k
  unfold amalgamref10_Fits.f
  repeat' first
      | (with_reducible exact amalgamref10_Sum.mono _ _ _ _)
      | (with_reducible exact amalgamref10_fits.mono _ _ _)
      | (with_reducible exact LeO.refl _)
      | (with_reducible exact LeO.none _)
      | (with_reducible refine LeO.ite ?_ ?_)
      | (with_reducible refine LeO.bind ?_ (fun _ => ?_))
      | exact amalgamref10_Sum.mono _ _ _ _
      | exact amalgamref10_fits.mono _ _ _
      | exact LeO.none _
      | refine LeO.ite ?_ ?_
      | refine LeO.bind ?_ (fun _ => ?_)
set_option maxHeartbeats 8000000 in
set_option maxRecDepth 100000 in
theorem amalgamref10_Fits.calls (k : Nat) (A0 : Option Addr) (c0 : Nat) (l0 : List (List Int)) (A1 : Option Addr) (c1 : Nat) (l1 : List Int) (a2 : Int) (r1 : Bool) (r2 : Int) (w : World) (hr0 : Kd.C (Kd.slice 3 (Kd.int .i64)) w A0 l0.length l0) (hc0 : l0.length ≤ c0) (hr1 : Kd.C (Kd.int .i64) w A1 l1.length l1) (hc1 : l1.length ≤ c1) (h : amalgamref10_Fits.f k l0 l1 a2 = some (r1, r2)) :
    Calls Tryd.prog 24 #[.slice A0 l0.length c0, .slice A1 l1.length c1, .int .u32 a2] w fun e w' => e = .returned (.tuple #[.bool r1, .int .i64 r2]) ∧ Below w.heap.size w w' := by
  have HR0 := Aside0.mk hr0
  have HC0 := Aside0.mk hc0
  clear hr0 hc0
  have HR1 := Aside0.mk hr1
  have HC1 := Aside0.mk hc1
  clear hr1 hc1
  have HB := Aside0.mk (Below.refl w.heap.size w)
  have H : ((amalgamref10_Sum.f k l0 l1 a2).bind fun bt312 => (if bt312.2 = 0 then ((amalgamref10_fits.f k bt312.1 l1).bind fun t316 => (some (t316, 0))) else (some (false, bt312.2)))) = some (r1, r2) := h
  clear h
  replace H := Option.bind_eq_some_iff.mp H
  obtain ⟨⟨t312, t313⟩, A40, H⟩ := H
  replace H : (if t313 = 0 then ((amalgamref10_fits.f k t312 l1).bind fun t316 => (some (t316, 0))) else (some (false, t313))) = some (r1, r2) := H
  have A4 := Aside0.mk A40
  clear A40
  by_cases c5 : t313 = 0
  · rw [if_pos c5] at H
    have c5b0 : (t313 == 0) = true := beq_iff_eq.mpr c5
    have c5b1 : (t313 != 0) = false := bne_eq_false_iff_eq.mpr c5
    clear c5
    replace H := Option.bind_eq_some_iff.mp H
    obtain ⟨t316, A60, H⟩ := H
    replace H : (some (t316, 0)) = some (r1, r2) := H
    have A6 := Aside0.mk A60
    clear A60
    simp only [Option.some.injEq, Prod.mk.injEq] at H
    obtain ⟨rfl, rfl⟩ := H
    go_enter Tryd.func24, Tryd.ntmps24
    go_wp2_with (first | ((with_reducible refine gate_callee (f := 23) rfl ?_); refine goesL_ (some 14) rfl rfl Tryd.func23 (by kernel_rfl) rfl #[.slice A0 l0.length c0, .slice A1 l1.length c1, .int .u32 a2] rfl (by (try simp only [List.map_toArray, List.map_cons, List.map_nil]); first | done | rfl | (simp only [List.length_drop, List.length_take]; rfl)) ?_; (with_reducible refine (amalgamref10_Sum.calls k _ _ l0 _ _ l1 a2 t312 t313 _ ?side1 ?side2 ?side3 ?side4 A4.out).mono ?_); (case side1 => repeat (first | exact HR0.out | (with_reducible refine Kd.C_alloc ?_ _) | (with_reducible refine Kd.C_drewN ?_ _) | (with_reducible refine Kd.C_drew ?_))); (case side2 => exact HC0.out); (case side3 => repeat (first | exact HR1.out | (with_reducible refine Kd.C_alloc ?_ _) | (with_reducible refine Kd.C_drewN ?_ _) | (with_reducible refine Kd.C_drew ?_))); (case side4 => exact HC1.out); rintro e w7 ⟨v314, rfl, ho0, hb⟩; refine ⟨_, rfl, ?_⟩; have n0_ := Aside0.mk (Kd.R_lower ho0 (below_size (by repeat (first | (with_reducible first | exact HB.out | apply below_alloc | apply pw_below_drewN | apply below_drew1) | exact HB.out)))); have n1_ := Aside0.mk (below_step (by repeat (first | (with_reducible first | exact HB.out | apply below_alloc | apply pw_below_drewN | apply below_drew1) | exact HB.out)) hb); clear HB; have HO315 := n0_; have HB := n1_; clear n0_ n1_; (try clear hb); (try clear hb2); (try clear hk); (try clear hi); (try clear ho0); obtain ⟨Ao8, co8, eo8⟩ := Kd.R_slice HO315.out; subst eo8) | ((with_reducible refine gate_callee (f := 31) rfl ?_); refine goesL_ (some 22) rfl rfl Tryd.func31 (by kernel_rfl) rfl #[.slice Ao8 t312.length co8, .slice A1 l1.length c1] rfl (by (try simp only [List.map_toArray, List.map_cons, List.map_nil]); first | done | rfl | (simp only [List.length_drop, List.length_take]; rfl)) ?_; (with_reducible refine (amalgamref10_fits.calls k _ _ t312 _ _ l1 t316 _ ?side1 ?side2 ?side3 ?side4 A6.out).mono ?_); (case side1 => repeat (first | exact (Kd.R_reads' HO315.out).2.2 | (with_reducible refine Kd.C_alloc ?_ _) | (with_reducible refine Kd.C_drewN ?_ _) | (with_reducible refine Kd.C_drew ?_))); (case side2 => exact (Kd.R_reads' HO315.out).2.1); (case side3 => repeat (first | exact (Kd.C_below HR1.out HB.out) | (with_reducible refine Kd.C_alloc ?_ _) | (with_reducible refine Kd.C_drewN ?_ _) | (with_reducible refine Kd.C_drew ?_))); (case side4 => exact HC1.out); rintro e w' ⟨rfl, ⟨nd, rfl⟩⟩; refine ⟨_, rfl, ?_⟩))
    go_ret2
    exact ⟨by first | rfl | (simp [errW_none, errW_some] <;> rfl) | (simp [*, errW_none, errW_some] <;> rfl), by repeat (first | (with_reducible first | exact HB.out | apply below_alloc | apply pw_below_drewN | apply below_drew1) | exact HB.out)⟩
  · rw [if_neg c5] at H
    have c5b0 : (t313 == 0) = false := beq_eq_false_iff_ne.mpr c5
    have c5b1 : (t313 != 0) = true := bne_iff_ne.mpr c5
    simp only [Option.some.injEq, Prod.mk.injEq] at H
    obtain ⟨rfl, rfl⟩ := H
    go_enter Tryd.func24, Tryd.ntmps24
    go_wp2_with (first | ((with_reducible refine gate_callee (f := 23) rfl ?_); refine goesL_ (some 14) rfl rfl Tryd.func23 (by kernel_rfl) rfl #[.slice A0 l0.length c0, .slice A1 l1.length c1, .int .u32 a2] rfl (by (try simp only [List.map_toArray, List.map_cons, List.map_nil]); first | done | rfl | (simp only [List.length_drop, List.length_take]; rfl)) ?_; (with_reducible refine (amalgamref10_Sum.calls k _ _ l0 _ _ l1 a2 t312 t313 _ ?side1 ?side2 ?side3 ?side4 A4.out).mono ?_); (case side1 => repeat (first | exact HR0.out | (with_reducible refine Kd.C_alloc ?_ _) | (with_reducible refine Kd.C_drewN ?_ _) | (with_reducible refine Kd.C_drew ?_))); (case side2 => exact HC0.out); (case side3 => repeat (first | exact HR1.out | (with_reducible refine Kd.C_alloc ?_ _) | (with_reducible refine Kd.C_drewN ?_ _) | (with_reducible refine Kd.C_drew ?_))); (case side4 => exact HC1.out); rintro e w9 ⟨v314, rfl, ho0, hb⟩; refine ⟨_, rfl, ?_⟩; have n0_ := Aside0.mk (Kd.R_lower ho0 (below_size (by repeat (first | (with_reducible first | exact HB.out | apply below_alloc | apply pw_below_drewN | apply below_drew1) | exact HB.out)))); have n1_ := Aside0.mk (below_step (by repeat (first | (with_reducible first | exact HB.out | apply below_alloc | apply pw_below_drewN | apply below_drew1) | exact HB.out)) hb); clear HB; have HO315 := n0_; have HB := n1_; clear n0_ n1_; (try clear hb); (try clear hb2); (try clear hk); (try clear hi); (try clear ho0)))
    go_ret2
    exact ⟨by first | rfl | (simp [errW_none, errW_some] <;> rfl) | (simp [*, errW_none, errW_some] <;> rfl), by repeat (first | (with_reducible first | exact HB.out | apply below_alloc | apply pw_below_drewN | apply below_drew1) | exact HB.out)⟩

/-! ### amalgamref10_Picked: function 27 -/
mutual
def amalgamref10_Picked.l0 : Nat → List (List Int) → Int → List (List Int) → Int → Option ((List (List Int)))
  | 0, _, _, _, _ => none
  | k + 1, x0, x1, x5, x6 => if x6 < (x0.length : Int) then (amalgamref10_Picked.j1 k x0 x1 x5 x6 (decide (x6 < 32))) else (amalgamref10_Picked.j1 k x0 x1 x5 x6 false)
def amalgamref10_Picked.j1 : Nat → List (List Int) → Int → List (List Int) → Int → Bool → Option ((List (List Int)))
  | 0, _, _, _, _, _ => none
  | k + 1, x0, x1, x5, x6, x14 => if x14 = true then (if 0 ≤ x6 then (if (Go.bits .and .u32 (shr .u32 x1 x6) 1) = 1 then ((some (([] : List Int) : List Int)).bind fun y317 => (if x6 < (x0.length : Int) then (if y317.length + (rd_L1 x0 x6).length < 17592186044416 then (if x5.length < 5864062014805 then (amalgamref10_Picked.l0 k x0 x1 (x5 ++ [(y317 ++ (rd_L1 x0 x6))]) (wrap64 (x6 + 1))) else (none)) else (none)) else (none))) else (amalgamref10_Picked.l0 k x0 x1 x5 (wrap64 (x6 + 1)))) else (none)) else (some x5)
end
def amalgamref10_Picked.f (k : Nat) (l0 : List (List Int)) (a1 : Int) : Option ((List (List Int))) := amalgamref10_Picked.l0 k l0 a1 ([] : List (List Int)) 0
theorem amalgamref10_Picked.mono_l : ∀ k, (∀ y0 y1 y2 y3, LeO (amalgamref10_Picked.l0 k y0 y1 y2 y3) (amalgamref10_Picked.l0 (k + 1) y0 y1 y2 y3)) ∧ (∀ y0 y1 y2 y3 y4, LeO (amalgamref10_Picked.j1 k y0 y1 y2 y3 y4) (amalgamref10_Picked.j1 (k + 1) y0 y1 y2 y3 y4))
  | 0 => ⟨fun _ _ _ _ r h => by simp [amalgamref10_Picked.l0] at h, fun _ _ _ _ _ r h => by simp [amalgamref10_Picked.j1] at h⟩
  | k + 1 => by
    obtain ⟨ih0, ih1⟩ := amalgamref10_Picked.mono_l k
    refine ⟨?_, ?_⟩
    · intro y0 y1 y2 y3
      unfold amalgamref10_Picked.l0
      repeat' first
      | (with_reducible exact ih0 _ _ _ _)
      | (with_reducible exact ih1 _ _ _ _ _)
      | (with_reducible exact LeO.refl _)
      | (with_reducible exact LeO.none _)
      | (with_reducible refine LeO.ite ?_ ?_)
      | (with_reducible refine LeO.bind ?_ (fun _ => ?_))
      | exact ih0 _ _ _ _
      | exact ih1 _ _ _ _ _
      | exact LeO.none _
      | refine LeO.ite ?_ ?_
      | refine LeO.bind ?_ (fun _ => ?_)
    · intro y0 y1 y2 y3 y4
      unfold amalgamref10_Picked.j1
      repeat' first
      | (with_reducible exact ih0 _ _ _ _)
      | (with_reducible exact ih1 _ _ _ _ _)
      | (with_reducible exact LeO.refl _)
      | (with_reducible exact LeO.none _)
      | (with_reducible refine LeO.ite ?_ ?_)
      | (with_reducible refine LeO.bind ?_ (fun _ => ?_))
      | exact ih0 _ _ _ _
      | exact ih1 _ _ _ _ _
      | exact LeO.none _
      | refine LeO.ite ?_ ?_
      | refine LeO.bind ?_ (fun _ => ?_)
theorem amalgamref10_Picked.mono : ∀ a0 a1 k, LeO (amalgamref10_Picked.f k a0 a1) (amalgamref10_Picked.f (k + 1) a0 a1) := by
  intro a0 a1 k
  obtain ⟨ih0, ih1⟩ := amalgamref10_Picked.mono_l k
  unfold amalgamref10_Picked.f
  repeat' first
      | (with_reducible exact ih0 _ _ _ _)
      | (with_reducible exact ih1 _ _ _ _ _)
      | (with_reducible exact LeO.refl _)
      | (with_reducible exact LeO.none _)
      | (with_reducible refine LeO.ite ?_ ?_)
      | (with_reducible refine LeO.bind ?_ (fun _ => ?_))
      | exact ih0 _ _ _ _
      | exact ih1 _ _ _ _ _
      | exact LeO.none _
      | refine LeO.ite ?_ ?_
      | refine LeO.bind ?_ (fun _ => ?_)
set_option maxHeartbeats 8000000 in
set_option maxRecDepth 100000 in
theorem amalgamref10_Picked.calls (k : Nat) (A0 : Option Addr) (c0 : Nat) (l0 : List (List Int)) (a1 : Int) (r : List (List Int)) (w : World) (hr0 : Kd.C (Kd.slice 3 (Kd.int .i64)) w A0 l0.length l0) (hc0 : l0.length ≤ c0) (h : amalgamref10_Picked.f k l0 a1 = some r) :
    Calls Tryd.prog 27 #[.slice A0 l0.length c0, .int .u32 a1] w fun e w' => ∃ v0_ : Value, e = .returned (v0_) ∧ Kd.S (Kd.slice 3 (Kd.int .i64)) 23 w' w.heap.size (fun _ => True) v0_ r ∧ Below w.heap.size w w' := by
  have HR0 := Aside0.mk hr0
  have HC0 := Aside0.mk hc0
  clear hr0 hc0
  have HB := Aside0.mk (Below.refl w.heap.size w)
  have H : (amalgamref10_Picked.l0 k l0 a1 ([] : List (List Int)) 0) = some r := h
  clear h
  have H' := Aside0.mk H
  clear H
  go_enter Tryd.func27, Tryd.ntmps27
  go_wp2
  go_loopg [5, 6] k (fun kq v5 v6 w' => ∃ (x5_1 : List (List Int)) (x6_1 : Int), v6 = .int .i64 x6_1 ∧ Aside0 (amalgamref10_Picked.l0 kq l0 a1 x5_1 x6_1 = some r) ∧ Aside0 (kq ≤ k) ∧ Aside0 (Kd.S (Kd.slice 3 (Kd.int .i64)) 23 w' w.heap.size (fun _ => True) v5 x5_1) ∧ Aside0 (Below w.heap.size w w'))
  case atStart => exact ⟨(([] : List (List Int))), (0), (by first | rfl | (simp; done) | (simp [*]; done)), H', ⟨Nat.le_refl _⟩, ⟨by first | exact Kd.S_nil _ _ _ _ _ | exact Kd.N_nil _ _ _ _ _ | exact Kd.V_nil _ _ _ _ _ | exact Kd.Q_nil _ _ _ _ _ | exact Kd.R_nil _ _ _ _ _⟩, ⟨by repeat (first | (with_reducible first | exact HB.out | apply below_alloc | apply pw_below_drewN | apply below_drew1) | exact HB.out)⟩⟩
  case round =>
    clear H'
    try clear c2
    try clear p2
    obtain ⟨x5_1, x6_1, rfl, HA, HK1, HO_5, HB⟩ := hrel
    cases gk with
    | zero => exact absurd HA.out (by simp [amalgamref10_Picked.l0])
    | succ k1 =>
      have H := HA.out
      clear HA
      simp only [amalgamref10_Picked.l0] at H
      have HC3 := Aside0.mk H
      clear H
      go_upto_region 3 with (fail)
      go_cut [14] (fun v14 wc => ∃ (kq : Nat) (x14_2 : Bool), v14 = .bool x14_2 ∧ Aside0 (amalgamref10_Picked.j1 kq l0 a1 x5_1 x6_1 x14_2 = some r) ∧ Aside0 (kq ≤ k1) ∧ Aside0 (Kd.S (Kd.slice 3 (Kd.int .i64)) 23 wc w.heap.size (fun _ => True) u5 x5_1) ∧ Aside0 (Below w.heap.size w wc))
      case first =>
        have H := HC3.out
        clear HC3
        by_cases c4 : x6_1 < (l0.length : Int)
        · rw [if_pos c4] at H
          have c4b0 : decide (x6_1 < (l0.length : Int)) = true := decide_eq_true c4
          clear c4
          (first | rw [c4b0] | (simp only [i64_w, i32_w]; rw [c4b0]) | skip)
          have H' := Aside0.mk H
          clear H
          go_wp2
          go_meet
          case rel => exact ⟨_, (decide (x6_1 < 32)), (by first | rfl | (simp; done) | (simp [*]; done)), H', ⟨by have := HK1.out; first | omega | exact Nat.le_refl _⟩, ⟨by (with_reducible repeat (first | apply Kd.S_alloc | apply Kd.S_drewN | apply Kd.S_drew)); exact HO_5.out⟩, ⟨by repeat (first | (with_reducible first | exact HB.out | apply below_alloc | apply pw_below_drewN | apply below_drew1) | exact HB.out)⟩⟩
        · rw [if_neg c4] at H
          have c4b0 : decide (x6_1 < (l0.length : Int)) = false := decide_eq_false c4
          clear c4
          (first | rw [c4b0] | (simp only [i64_w, i32_w]; rw [c4b0]) | skip)
          have H' := Aside0.mk H
          clear H
          go_wp2
          go_meet
          case rel => exact ⟨_, (false), (by first | rfl | (simp; done) | (simp [*]; done)), H', ⟨by have := HK1.out; first | omega | exact Nat.le_refl _⟩, ⟨by (with_reducible repeat (first | apply Kd.S_alloc | apply Kd.S_drewN | apply Kd.S_drew)); exact HO_5.out⟩, ⟨by repeat (first | (with_reducible first | exact HB.out | apply below_alloc | apply pw_below_drewN | apply below_drew1) | exact HB.out)⟩⟩
      case rest =>
        clear HC3
        try clear c2
        try clear p2
        try clear c4
        try clear c4b0
        try clear p2
        obtain ⟨kq, x14_2, rfl, HA, HJ2, HO_5, HB⟩ := hcut
        cases kq with
        | zero => exact absurd HA.out (by simp [amalgamref10_Picked.j1])
        | succ kj2 =>
          have H := HA.out
          clear HA
          simp only [amalgamref10_Picked.j1] at H
          by_cases c5 : x14_2 = true
          · subst c5
            have H1 : (if 0 ≤ x6_1 then (if (Go.bits .and .u32 (shr .u32 a1 x6_1) 1) = 1 then ((some (([] : List Int) : List Int)).bind fun y317 => (if x6_1 < (l0.length : Int) then (if y317.length + (rd_L1 l0 x6_1).length < 17592186044416 then (if x5_1.length < 5864062014805 then (amalgamref10_Picked.l0 kj2 l0 a1 (x5_1 ++ [(y317 ++ (rd_L1 l0 x6_1))]) (wrap64 (x6_1 + 1))) else (none)) else (none)) else (none))) else (amalgamref10_Picked.l0 kj2 l0 a1 x5_1 (wrap64 (x6_1 + 1)))) else (none)) = some r := by rw [if_pos rfl] at H; exact H
            clear H
            have H := H1
            clear H1
            by_cases c6 : 0 ≤ x6_1
            · rw [if_pos c6] at H
              have c6b0 := eq_true c6
              have c6b1 : decide (0 ≤ x6_1) = true := decide_eq_true c6
              clear c6
              obtain ⟨ji7, hji7⟩ : ∃ j_ : Int, (shr .u32 a1 x6_1) = j_ := ⟨_, rfl⟩
              replace H : (if (Go.bits .and .u32 (ji7) 1) = 1 then ((some (([] : List Int) : List Int)).bind fun y317 => (if x6_1 < (l0.length : Int) then (if y317.length + (rd_L1 l0 x6_1).length < 17592186044416 then (if x5_1.length < 5864062014805 then (amalgamref10_Picked.l0 kj2 l0 a1 (x5_1 ++ [(y317 ++ (rd_L1 l0 x6_1))]) (wrap64 (x6_1 + 1))) else (none)) else (none)) else (none))) else (amalgamref10_Picked.l0 kj2 l0 a1 x5_1 (wrap64 (x6_1 + 1)))) = some r := by first | (rw [hji7] at H; exact H) | (simp only [hji7] at H ⊢; exact H)
              have hji7_ : (a1 / 2 ^ min x6_1.toNat 32) = ji7 := hji7
              have hji7z : x6_1 ≤ 32 → (a1 / 2 ^ x6_1.toNat) = ji7 := shr_small hji7
              by_cases c8 : (Go.bits .and .u32 (ji7) 1) = 1
              · rw [if_pos c8] at H
                have c8b0 : ((Go.bits .and .u32 (ji7) 1) == 1) = true := beq_iff_eq.mpr c8
                have c8b1 : ((Go.bits .and .u32 (ji7) 1) != 1) = false := bne_eq_false_iff_eq.mpr c8
                clear c8
                obtain ⟨y317, hy317⟩ : ∃ y_ : List Int, y_ = (([] : List Int)) := ⟨_, rfl⟩
                replace H : (if x6_1 < (l0.length : Int) then (if y317.length + (rd_L1 l0 x6_1).length < 17592186044416 then (if x5_1.length < 5864062014805 then (amalgamref10_Picked.l0 kj2 l0 a1 (x5_1 ++ [(y317 ++ (rd_L1 l0 x6_1))]) (wrap64 (x6_1 + 1))) else (none)) else (none)) else (none)) = some r := by first | (rw [hy317]; with_reducible exact H) | (have H2_ := (Option.bind_some _ _).symm.trans H; rw [hy317]; with_reducible exact H2_) | (have H2_ := (Option.bind_some _ _).symm.trans H; with_reducible exact H2_) | with_reducible exact H | (rw [hy317]; exact H) | exact H
                have Ny317 := Aside0.mk hy317
                clear hy317
                by_cases c9 : x6_1 < (l0.length : Int)
                · rw [if_pos c9] at H
                  have c9b0 : decide (x6_1 < (l0.length : Int)) = true := decide_eq_true c9
                  clear c9
                  by_cases c10 : y317.length + (rd_L1 l0 x6_1).length < 17592186044416
                  · rw [if_pos c10] at H
                    have LMc10 := Aside0.mk c10
                    clear c10
                    obtain ⟨y321, hy321⟩ : ∃ y_ : List Int, y_ = (y317 ++ (rd_L1 l0 x6_1)) := ⟨_, rfl⟩
                    replace H : (if x5_1.length < 5864062014805 then (amalgamref10_Picked.l0 kj2 l0 a1 (x5_1 ++ [y321]) (wrap64 (x6_1 + 1))) else (none)) = some r := by first | (rw [hy321]; with_reducible exact H) | (have H2_ := (Option.bind_some _ _).symm.trans H; rw [hy321]; with_reducible exact H2_) | (have H2_ := (Option.bind_some _ _).symm.trans H; with_reducible exact H2_) | with_reducible exact H | (rw [hy321]; exact H) | exact H
                    have Ny321 := Aside0.mk hy321
                    clear hy321
                    by_cases c11 : x5_1.length < 5864062014805
                    · rw [if_pos c11] at H
                      have LMc11 := Aside0.mk c11
                      clear c11
                      obtain ⟨y324, hy324⟩ : ∃ y_ : List (List Int), y_ = (x5_1 ++ [y321]) := ⟨_, rfl⟩
                      replace H : (amalgamref10_Picked.l0 kj2 l0 a1 y324 (wrap64 (x6_1 + 1))) = some r := by first | (rw [hy324]; with_reducible exact H) | (have H2_ := (Option.bind_some _ _).symm.trans H; rw [hy324]; with_reducible exact H2_) | (have H2_ := (Option.bind_some _ _).symm.trans H; with_reducible exact H2_) | with_reducible exact H | (rw [hy324]; exact H) | exact H
                      have Ny324 := Aside0.mk hy324
                      clear hy324
                      have H' := Aside0.mk H
                      clear H
                      go_wp2_with (first | ((with_reducible refine gate_dst (N := 23) rfl ?_); refine Kd.R_lit (Kd.int .i64) _ 3 ?hg (N := 23) ?hd (xs := ([] : List Int)) (inner := []) (ok := fun _ => True) (okp := fun _ => True) ?hr ?hp (fun _ hk => hk) trivial (Below.refl _ _) (Nat.le_refl _) (by simp) ?_; (case hd => rfl); (case hg => rfl); (case hr => first | (go_simp; done) | (go_simp; rfl)); (case hp => exact (Reps.none _ _)); intro v318 w12 ho13 hb hg_ hnew_; clear hg_ hnew_; (first | rw [← Ny317.out] at ho13 | (simp only [Int.reduceToNat] at ho13; rw [← Ny317.out] at ho13)); have n0_ := Aside0.mk (Kd.S_elder' (by (with_reducible repeat (first | apply Kd.S_alloc | apply Kd.S_drewN | apply Kd.S_drew)); exact HO_5.out) (Kd.R_base ho13) hb); have n1_ := Aside0.mk (Kd.R_lower ho13 (below_size (by repeat (first | (with_reducible first | exact HB.out | apply below_alloc | apply pw_below_drewN | apply below_drew1) | exact HB.out)))); have n2_ := Aside0.mk (below_step (by repeat (first | (with_reducible first | exact HB.out | apply below_alloc | apply pw_below_drewN | apply below_drew1) | exact HB.out)) hb); clear HO_5; clear HB; have HO_5 := n0_; have HO319 := n1_; have HB := n2_; clear n0_ n1_ n2_; clear hb ho13; have p320 : 0 ≤ (x6_1 : Int) := of_decide_eq_true (by first | (with_reducible assumption) | assumption); have q320 : x6_1 < (l0.length : Int) := of_decide_eq_true (by first | (with_reducible assumption) | assumption); obtain ⟨ad320, A320_0, c320_0, e320, hx320_0, hl320_0, hi320_0⟩ := at_L1 HR0.out x6_1 p320 q320; cases e320; replace hx320_0 := (HB.out.cell (World.block_lt_of_cell? w _ hx320_0)).trans hx320_0; have HR320_0 := Aside0.mk hi320_0; have HC320_0 := Aside0.mk hl320_0; clear hi320_0 hl320_0; replace p320 := eq_true p320; replace q320 := eq_true q320) | ((with_reducible refine gate_builtin (b := .append) (xs := #[.tmp 23, .tmp 27]) rfl ?_); at_builtin; refine Kd.R_append_rows (Kd.int .i64) (w0 := w) w.heap.size rfl (.tmp 23) (.tmp 27) 23 3 (.int .i64 0) 8 rfl Tryd.underlying23 info3 rfl (by decide) (by omega) v318 y317 (rd_L1 l0 x6_1) _ _ _ (fun _ => True) (fun _ => False) rfl rfl ?aO ?aR (fun _ _ h => h) (fun _ h => h.elim) ?aF ?aB ?aS ?aL ?_; (case aR => repeat (first | exact (Kd.C_below HR320_0.out HB.out) | (with_reducible refine Kd.C_alloc ?_ _) | (with_reducible refine Kd.C_drewN ?_ _) | (with_reducible refine Kd.C_drew ?_))); (case aB => exact (by repeat (first | (with_reducible first | exact HB.out | apply below_alloc | apply pw_below_drewN | apply below_drew1) | exact HB.out))); (case aF => exact (fun _ _ => trivial)); (case aO => exact (by (with_reducible repeat (first | apply Kd.R_alloc | apply Kd.R_drewN | apply Kd.R_drew)); exact HO319.out)); (case aS => exact (below_size (by repeat (first | (with_reducible first | exact HB.out | apply below_alloc | apply pw_below_drewN | apply below_drew1) | exact HB.out)))); (case aL => have := LMc10.out; omega); intro v322 w14 ho hb hg hat; rw [← Ny321.out] at ho; have n0_ := Aside0.mk (Kd.S_after (ok := (fun _ => True)) (by (with_reducible repeat (first | apply Kd.S_alloc | apply Kd.S_drewN | apply Kd.S_drew)); exact HO_5.out) hg hat); have n1_ := Aside0.mk (hb); have n2_ := Aside0.mk (ho); clear HO_5; clear HB; clear HO319; have HO_5 := n0_; have HB := n1_; have HO323 := n2_; clear n0_ n1_ n2_; clear ho hb hg hat; obtain ⟨Ao16, co16, eo16⟩ := Kd.R_slice HO323.out; subst eo16) | ((with_reducible refine gate_builtin (b := .append) (xs := #[.tmp 22, .tmp 29]) rfl ?_); at_builtin; refine Kd.S_append (Kd.slice 3 (Kd.int .i64)) (w0 := w) w.heap.size rfl (.tmp 22) (.tmp 29) 22 23 (.slice none 0 0) 24 rfl Tryd.underlying22 info23 rfl (by decide) (by omega) u5 x5_1 y321 [.slice Ao16 y321.length co16] (fun _ => True) (fun k_ => some k_ = (.slice Ao16 y321.length co16 : Value).ownBlock) rfl rfl ?aP (fun k_ hk_ => ((Kd.R_mono (ok' := fun k_ => ((fun _ => True)) k_ ∧ some k_ ≠ (u5 : Value).ownBlock) (Kd.R_apart' (HO323.out) (Kd.S_typed HO_5.out) (by decide)) (fun k_ hk => ⟨trivial, hk.2⟩))).1 k_ hk_.symm) ?aF ?aO ?aB ?aS ?aL ?_; (case aP => exact Kd.M_row (Kd.R_mono (Kd.R_tight rfl (Kd.R_mono (ok' := fun k_ => ((fun _ => True)) k_ ∧ some k_ ≠ (u5 : Value).ownBlock) (Kd.R_apart' (HO323.out) (Kd.S_typed HO_5.out) (by decide)) (fun k_ hk => ⟨trivial, hk.2⟩))) (fun _ h_ => h_))); (case aB => exact (by repeat (first | (with_reducible first | exact HB.out | apply below_alloc | apply pw_below_drewN | apply below_drew1) | exact HB.out))); (case aF => exact (fun _ _ => trivial)); (case aO => exact (by (with_reducible repeat (first | apply Kd.S_alloc | apply Kd.S_drewN | apply Kd.S_drew)); exact Kd.S_mono HO_5.out (fun k_ hk => ⟨trivial, fun e_ => hk.2 e_⟩))); (case aS => exact (below_size (by repeat (first | (with_reducible first | exact HB.out | apply below_alloc | apply pw_below_drewN | apply below_drew1) | exact HB.out)))); (case aL => have := LMc11.out; omega); intro v325 w15 ho hb hg hat; rw [← Ny324.out] at ho; have n0_ := Aside0.mk (hb); have n1_ := Aside0.mk (ho); clear HB; clear HO_5; clear HO323; have HB := n0_; have HO326 := n1_; clear n0_ n1_; clear ho hb hg hat))
                      go_roundg kj2
                      case measure => have := HK1.out; have := HJ2.out; omega
                      case rel => exact ⟨(y324), (wrap64 (x6_1 + 1)), (by first | rfl | (simp; done) | (simp [*]; done)), H', ⟨by have := HK1.out; have := HJ2.out; omega⟩, ⟨by (with_reducible repeat (first | apply Kd.S_alloc | apply Kd.S_drewN | apply Kd.S_drew)); exact HO326.out⟩, ⟨by repeat (first | (with_reducible first | exact HB.out | apply below_alloc | apply pw_below_drewN | apply below_drew1) | exact HB.out)⟩⟩
                    · rw [if_neg c11] at H
                      exact absurd H (by simp)
                  · rw [if_neg c10] at H
                    exact absurd H (by simp)
                · rw [if_neg c9] at H
                  exact absurd H (by simp)
              · rw [if_neg c8] at H
                have c8b0 : ((Go.bits .and .u32 (ji7) 1) == 1) = false := beq_eq_false_iff_ne.mpr c8
                have c8b1 : ((Go.bits .and .u32 (ji7) 1) != 1) = true := bne_iff_ne.mpr c8
                have H' := Aside0.mk H
                clear H
                go_wp2
                go_roundg kj2
                case measure => have := HK1.out; have := HJ2.out; omega
                case rel => exact ⟨(x5_1), (wrap64 (x6_1 + 1)), (by first | rfl | (simp; done) | (simp [*]; done)), H', ⟨by have := HK1.out; have := HJ2.out; omega⟩, ⟨by (with_reducible repeat (first | apply Kd.S_alloc | apply Kd.S_drewN | apply Kd.S_drew)); exact HO_5.out⟩, ⟨by repeat (first | (with_reducible first | exact HB.out | apply below_alloc | apply pw_below_drewN | apply below_drew1) | exact HB.out)⟩⟩
            · rw [if_neg c6] at H
              exact absurd H (by simp)
          · replace c5 := Bool.eq_false_iff.mpr c5
            subst c5
            have H1 : (some x5_1) = some r := by rw [if_neg (show ¬ (false = true) by decide)] at H; exact H
            clear H
            have H := H1
            clear H1
            obtain rfl := Option.some.inj H
            go_wp2
            go_ret
            exact ⟨_, by first | rfl | (simp [errW_none, errW_some] <;> rfl) | (simp [*, errW_none, errW_some] <;> rfl), by (with_reducible repeat (first | apply Kd.S_alloc | apply Kd.S_drewN | apply Kd.S_drew)); exact HO_5.out, by repeat (first | (with_reducible first | exact HB.out | apply below_alloc | apply pw_below_drewN | apply below_drew1) | exact HB.out)⟩

/-! ### pick_Picked: function 25 -/
end Go.Proofs.YtbdlihldmmbdmaaDoor.SK

namespace Go.Proofs.YtbdlihldmmbdmaaDoor.PickSpec
open Go.RowKit Go.Proofs.YtbdlihldmmbdmaaDoor.SK Go.Proofs.YtbdlihldmmbdmaaDoorW.PrintWords Go.Proofs.YtbdlihldmmbdmaaDoorW.PrintMore Go.Proofs.YtbdlihldmmbdmaaDoor.Plain Go.Proofs.YtbdlihldmmbdmaaDoor.PickPicked
set_option linter.unusedVariables false

def fitsS (rows : List (List Int)) (want : List Int) (m : Nat) : Bool × Int :=
  if chk rows want = 0 then (if m / 2 ^ rows.length = 0 then (fitsM rows want m, 0) else (false, 1)) else (false, chk rows want)
theorem fitsS_of {rows : List (List Int)} {want : List Int} {m : Nat} (h : (sumS rows want m).2 ≠ 0) : fitsS rows want m = (false, (sumS rows want m).2) := by
  unfold fitsS sumS at *
  by_cases hc : chk rows want = 0
  · rw [if_pos hc] at h ⊢
    by_cases hz : m / 2 ^ rows.length = 0
    · rw [if_pos hz] at h; exact absurd rfl h
    · rw [if_neg hz, if_pos hc, if_neg hz]
  · rw [if_neg hc, if_neg hc]
theorem sumS_zero {rows : List (List Int)} {want : List Int} {m : Nat} (h : (sumS rows want m).2 = 0) : chk rows want = 0 ∧ m / 2 ^ rows.length = 0 ∧ sumS rows want m = (addM rows m (List.replicate want.length 0), 0) := by
  unfold sumS at *
  by_cases hc : chk rows want = 0
  · rw [if_pos hc] at h ⊢
    by_cases hz : m / 2 ^ rows.length = 0
    · exact ⟨hc, hz, by rw [if_pos hz]⟩
    · rw [if_neg hz] at h; exact absurd h (by decide)
  · rw [if_neg hc] at h; exact absurd h hc
theorem pick_fits_all (rows : List (List Int)) (want : List Int) (m : Nat) (hm : m < 4294967296) : Ev (fun k => pick_Fits.f k rows want (m : Int)) (fitsS rows want m) := by
  refine Ev.then (f := fun k bt => if bt.2 = 0 then ((pick_meets.f k bt.1 want).bind fun t => some (t, 0)) else some (false, bt.2)) (pick_sum_ev rows want m hm) ?_
  by_cases h : (sumS rows want m).2 = 0
  · obtain ⟨hc, hz, hs⟩ := sumS_zero h
    have hr := addM_right hc m
    obtain ⟨_, h10, _, _⟩ := chk_zero hc
    rw [hs, show fitsS rows want m = (fitsM rows want m, 0) by unfold fitsS; rw [if_pos hc, if_pos hz]]
    simp only [if_true]
    exact Ev.then (meets_ev _ want hr.1 h10 (fun s h => (hr.2 s h).1)) (Ev.now _)
  · simp only [if_neg h, fitsS_of h]
    exact Ev.now _
theorem ref_fits_all (rows : List (List Int)) (want : List Int) (m : Nat) (hm : m < 4294967296) : Ev (fun k => amalgamref10_Fits.f k rows want (m : Int)) (fitsS rows want m) := by
  refine Ev.then (f := fun k bt => if bt.2 = 0 then ((amalgamref10_fits.f k bt.1 want).bind fun t => some (t, 0)) else some (false, bt.2)) (sum_ev rows want m hm) ?_
  by_cases h : (sumS rows want m).2 = 0
  · obtain ⟨hc, hz, hs⟩ := sumS_zero h
    have hr := addM_right hc m
    obtain ⟨_, h10, _, _⟩ := chk_zero hc
    rw [hs, show fitsS rows want m = (fitsM rows want m, 0) by unfold fitsS; rw [if_pos hc, if_pos hz]]
    simp only [if_true]
    exact Ev.then (fits_ev _ want hr.1 h10) (Ev.now _)
  · simp only [if_neg h, fitsS_of h]
    exact Ev.now _

theorem same_l0 (xs : List Int) (hn : xs.length ≤ 9223372036854775807) : ∀ d i : Nat, i + d = xs.length → Ev (fun k => amalgamref09_Same.l0 k xs xs (i : Int)) true := by
  intro d
  induction d with
  | zero =>
    intro i hi
    refine Ev.round (Ev.now _) fun k => ?_
    simp only [amalgamref09_Same.l0]
    rw [if_neg (by omega)]
  | succ d ih =>
    intro i hi
    refine Ev.round (ih (i + 1) (by omega)) fun k => ?_
    simp only [amalgamref09_Same.l0]
    rw [if_pos (by omega), if_pos (by omega), if_pos (by omega), if_pos trivial, wrap_nat (by omega)]
theorem same_ev (xs : List Int) (hn : xs.length ≤ 9223372036854775807) : Ev (fun k => amalgamref09_Same.f k xs xs) true := by
  refine Ev.congr (f := fun k => amalgamref09_Same.l0 k xs xs 0) (fun k => ?_) (same_l0 xs hn xs.length 0 (by omega))
  unfold amalgamref09_Same.f
  rw [if_pos rfl]
theorem sameAll_l0 (xss : List (List Int)) (hn : xss.length ≤ 9223372036854775807) (hl : ∀ xs ∈ xss, xs.length ≤ 9223372036854775807) : ∀ d i : Nat, i + d = xss.length → Ev (fun k => amalgamref09_SameAll.l0 k xss xss (i : Int)) true := by
  intro d
  induction d with
  | zero =>
    intro i hi
    refine Ev.round (Ev.now _) fun k => ?_
    simp only [amalgamref09_SameAll.l0]
    rw [if_neg (by omega)]
  | succ d ih =>
    intro i hi
    have hlt : i < xss.length := by omega
    have h1 := same_ev (rd_L1 xss (i : Int)) (by rw [rdL_lt hlt]; exact hl _ (List.getElem_mem hlt))
    refine Ev.round (Ev.then (f := fun k t => if t = true then amalgamref09_SameAll.l0 k xss xss ((i + 1 : Nat) : Int) else some false) h1 ?_) fun k => ?_
    · simp only [if_true]; exact ih (i + 1) (by omega)
    · simp only [amalgamref09_SameAll.l0]
      rw [if_pos (by omega), if_pos (by omega), if_pos (by omega), wrap_nat (by omega)]
theorem sameAll_ev (xss : List (List Int)) (hn : xss.length ≤ 9223372036854775807) (hl : ∀ xs ∈ xss, xs.length ≤ 9223372036854775807) : Ev (fun k => amalgamref09_SameAll.f k xss xss) true := by
  refine Ev.congr (f := fun k => amalgamref09_SameAll.l0 k xss xss 0) (fun k => ?_) (sameAll_l0 xss hn hl xss.length 0 (by omega))
  unfold amalgamref09_SameAll.f
  rw [if_pos rfl]

theorem pickedTo_late (rows : List (List Int)) (m i : Nat) (h : 32 ≤ i) : ∀ d, pickedTo rows m (i + d) = pickedTo rows m i := by
  intro d
  induction d with
  | zero => rfl
  | succ d ih =>
    rw [← Nat.add_assoc]
    unfold pickedTo
    rw [ih, if_neg (by omega), List.append_nil]
    cases i with
    | zero => omega
    | succ i => rfl
theorem pickedTo_sub (rows : List (List Int)) (m : Nat) : ∀ i, i ≤ rows.length → ∀ xs ∈ pickedTo rows m i, xs ∈ rows := by
  intro i
  induction i with
  | zero => intro _ xs h; simp [pickedTo] at h
  | succ i ih =>
    intro hi xs h
    unfold pickedTo at h
    rcases List.mem_append.1 h with h | h
    · exact ih (by omega) xs h
    · split at h
      · have : xs = rows.getD i [] := by simpa using h
        rw [this, List.getD_eq_getElem?_getD, List.getElem?_eq_getElem (by omega)]
        exact List.getElem_mem _
      · simp at h
theorem picked_l0 (rows : List (List Int)) (m : Nat) (hm : m < 4294967296) (hn : rows.length ≤ 1048576) (hl : ∀ row ∈ rows, row.length ≤ 1048576) :
    ∀ d i : Nat, i + d = rows.length → Ev (fun k => amalgamref10_Picked.l0 k rows (m : Int) (pickedTo rows m i) (i : Int)) (pickedTo rows m rows.length) := by
  intro d
  induction d with
  | zero =>
    intro i hi
    refine Ev.round (f := fun k => amalgamref10_Picked.j1 k rows (m : Int) (pickedTo rows m i) (i : Int) false) (Ev.round (Ev.now _) fun k => ?_) fun k => ?_
    · simp only [amalgamref10_Picked.j1]
      rw [if_neg (by decide), show i = rows.length by omega]
    · simp only [amalgamref10_Picked.l0]
      rw [if_neg (by omega)]
  | succ d ih =>
    intro i hi
    have hlt : i < rows.length := by omega
    have hrow := rdL_lt hlt
    have hlen := hl _ (List.getElem_mem hlt)
    have hpl := (pickedTo_length rows m i).2
    by_cases h32 : i < 32
    · refine Ev.round (f := fun k => amalgamref10_Picked.j1 k rows (m : Int) (pickedTo rows m i) (i : Int) true) (Ev.round (f := fun k => amalgamref10_Picked.l0 k rows (m : Int) (pickedTo rows m (i + 1)) ((i + 1 : Nat) : Int)) (ih (i + 1) (by omega)) fun k => ?_) fun k => ?_
      · simp only [amalgamref10_Picked.j1]
        rw [if_pos trivial, if_pos (by omega), shr_nat m i (by omega), u32_and1 _ (Nat.lt_of_le_of_lt (Nat.div_le_self _ _) hm), wrap_nat (by omega)]
        by_cases hb : m / 2 ^ i % 2 = 1
        · rw [if_pos (by omega)]
          simp only [Option.bind_some]
          rw [if_pos (by omega), hrow, if_pos (by simp; omega), if_pos (by omega), List.nil_append]
          congr 1
          show _ = pickedTo rows m i ++ _
          rw [if_pos ⟨h32, hb⟩, List.getD_eq_getElem?_getD, List.getElem?_eq_getElem hlt]; rfl
        · rw [if_neg (by omega)]
          congr 1
          show _ = pickedTo rows m i ++ _
          rw [if_neg (fun h => hb h.2), List.append_nil]
      · simp only [amalgamref10_Picked.l0]
        rw [if_pos (by omega)]
        congr 1
        exact (decide_eq_true (by omega))
    · refine Ev.round (f := fun k => amalgamref10_Picked.j1 k rows (m : Int) (pickedTo rows m i) (i : Int) false) (Ev.round (Ev.now _) fun k => ?_) fun k => ?_
      · simp only [amalgamref10_Picked.j1]
        rw [if_neg (by decide), ← pickedTo_late rows m i (by omega) (d + 1), show i + (d + 1) = rows.length by omega]
      · simp only [amalgamref10_Picked.l0]
        rw [if_pos (by omega)]
        congr 1
        exact (decide_eq_false (by omega))
theorem picked_ev (rows : List (List Int)) (m : Nat) (hm : m < 4294967296) (hn : rows.length ≤ 1048576) (hl : ∀ row ∈ rows, row.length ≤ 1048576) : Ev (fun k => amalgamref10_Picked.f k rows (m : Int)) (pickedTo rows m rows.length) :=
  picked_l0 rows m hm hn hl rows.length 0 (by omega)
end Go.Proofs.YtbdlihldmmbdmaaDoor.PickSpec
