-- PRINTED by print.py (a twelfth state) out of the translation. Not trusted: Lean checks it.
import Derived.Test.YtbdlihldmmbdmaaDoorSK0
namespace Go.Proofs.YtbdlihldmmbdmaaDoor.SK
open Go.RowKit Go.Proofs.YtbdlihldmmbdmaaDoorW.PrintWords Go.Proofs.YtbdlihldmmbdmaaDoorW.PrintLast Go.Proofs.YtbdlihldmmbdmaaDoorW.PrintMore
attribute [local go_sem] max2_int min2_int max_two min_two max_three min_three max_four min_four   -- for this text's walks alone
set_option linter.unusedVariables false
set_option linter.unusedSimpArgs false

/-! ### amalgamref10_Check: function 22 -/
mutual
def amalgamref10_Check.l0 : Nat → List (List Int) → List Int → Int → Option (Int)
  | 0, _, _, _ => none
  | k + 1, x0, x1, x5 => if x5 < (x1.length : Int) then (if 0 ≤ x5 then (if (rd x1 x5) < 0 then (some 102) else (if (rd x1 x5) > 2 then (some 102) else (amalgamref10_Check.l0 k x0 x1 (wrap64 (x5 + 1))))) else (none)) else (amalgamref10_Check.l1 k x0 x1 0)
def amalgamref10_Check.l1 : Nat → List (List Int) → List Int → Int → Option (Int)
  | 0, _, _, _ => none
  | k + 1, x0, x1, x6 => if x6 < (x0.length : Int) then (if 0 ≤ x6 then (if ((rd_L1 x0 x6).length : Int) = (x1.length : Int) then (amalgamref10_Check.l2 k x0 x1 x6 0) else (some 103)) else (none)) else (some 0)
def amalgamref10_Check.l2 : Nat → List (List Int) → List Int → Int → Int → Option (Int)
  | 0, _, _, _, _ => none
  | k + 1, x0, x1, x6, x7 => if x7 < (x1.length : Int) then (if 0 ≤ x6 then (if x6 < (x0.length : Int) then (if 0 ≤ x7 then (if x7 < ((rd_L1 x0 x6).length : Int) then (if (rd (rd_L1 x0 x6) x7) < 0 then (some 103) else (if (rd (rd_L1 x0 x6) x7) > 1048576 then (some 103) else (amalgamref10_Check.l2 k x0 x1 x6 (wrap64 (x7 + 1))))) else (none)) else (none)) else (none)) else (none)) else (amalgamref10_Check.l1 k x0 x1 (wrap64 (x6 + 1)))
end
def amalgamref10_Check.f (k : Nat) (l0 : List (List Int)) (l1 : List Int) : Option (Int) := if (l0.length : Int) > 16 then (some 101) else (if (l1.length : Int) > 10 then (some 102) else (amalgamref10_Check.l0 k l0 l1 0))
theorem amalgamref10_Check.mono_l : ∀ k, (∀ y0 y1 y2, LeO (amalgamref10_Check.l0 k y0 y1 y2) (amalgamref10_Check.l0 (k + 1) y0 y1 y2)) ∧ (∀ y0 y1 y2, LeO (amalgamref10_Check.l1 k y0 y1 y2) (amalgamref10_Check.l1 (k + 1) y0 y1 y2)) ∧ (∀ y0 y1 y2 y3, LeO (amalgamref10_Check.l2 k y0 y1 y2 y3) (amalgamref10_Check.l2 (k + 1) y0 y1 y2 y3))
  | 0 => ⟨fun _ _ _ r h => by simp [amalgamref10_Check.l0] at h, fun _ _ _ r h => by simp [amalgamref10_Check.l1] at h, fun _ _ _ _ r h => by simp [amalgamref10_Check.l2] at h⟩
  | k + 1 => by
    obtain ⟨ih0, ih1, ih2⟩ := amalgamref10_Check.mono_l k
    refine ⟨?_, ?_, ?_⟩
    · intro y0 y1 y2
      unfold amalgamref10_Check.l0
      repeat' first
      | (with_reducible exact ih0 _ _ _)
      | (with_reducible exact ih1 _ _ _)
      | (with_reducible exact ih2 _ _ _ _)
      | (with_reducible exact LeO.refl _)
      | (with_reducible exact LeO.none _)
      | (with_reducible refine LeO.ite ?_ ?_)
      | (with_reducible refine LeO.bind ?_ (fun _ => ?_))
      | exact ih0 _ _ _
      | exact ih1 _ _ _
      | exact ih2 _ _ _ _
      | exact LeO.none _
      | refine LeO.ite ?_ ?_
      | refine LeO.bind ?_ (fun _ => ?_)
    · intro y0 y1 y2
      unfold amalgamref10_Check.l1
      repeat' first
      | (with_reducible exact ih0 _ _ _)
      | (with_reducible exact ih1 _ _ _)
      | (with_reducible exact ih2 _ _ _ _)
      | (with_reducible exact LeO.refl _)
      | (with_reducible exact LeO.none _)
      | (with_reducible refine LeO.ite ?_ ?_)
      | (with_reducible refine LeO.bind ?_ (fun _ => ?_))
      | exact ih0 _ _ _
      | exact ih1 _ _ _
      | exact ih2 _ _ _ _
      | exact LeO.none _
      | refine LeO.ite ?_ ?_
      | refine LeO.bind ?_ (fun _ => ?_)
    · intro y0 y1 y2 y3
      unfold amalgamref10_Check.l2
      repeat' first
      | (with_reducible exact ih0 _ _ _)
      | (with_reducible exact ih1 _ _ _)
      | (with_reducible exact ih2 _ _ _ _)
      | (with_reducible exact LeO.refl _)
      | (with_reducible exact LeO.none _)
      | (with_reducible refine LeO.ite ?_ ?_)
      | (with_reducible refine LeO.bind ?_ (fun _ => ?_))
      | exact ih0 _ _ _
      | exact ih1 _ _ _
      | exact ih2 _ _ _ _
      | exact LeO.none _
      | refine LeO.ite ?_ ?_
      | refine LeO.bind ?_ (fun _ => ?_)
theorem amalgamref10_Check.mono : ∀ a0 a1 k, LeO (amalgamref10_Check.f k a0 a1) (amalgamref10_Check.f (k + 1) a0 a1) := by
  intro a0 a1 k
  obtain ⟨ih0, ih1, ih2⟩ := amalgamref10_Check.mono_l k
  unfold amalgamref10_Check.f
  repeat' first
      | (with_reducible exact ih0 _ _ _)
      | (with_reducible exact ih1 _ _ _)
      | (with_reducible exact ih2 _ _ _ _)
      | (with_reducible exact LeO.refl _)
      | (with_reducible exact LeO.none _)
      | (with_reducible refine LeO.ite ?_ ?_)
      | (with_reducible refine LeO.bind ?_ (fun _ => ?_))
      | exact ih0 _ _ _
      | exact ih1 _ _ _
      | exact ih2 _ _ _ _
      | exact LeO.none _
      | refine LeO.ite ?_ ?_
      | refine LeO.bind ?_ (fun _ => ?_)
set_option maxHeartbeats 8000000 in
set_option maxRecDepth 100000 in
theorem amalgamref10_Check.calls (k : Nat) (A0 : Option Addr) (c0 : Nat) (l0 : List (List Int)) (A1 : Option Addr) (c1 : Nat) (l1 : List Int) (r : Int) (w : World) (hr0 : Kd.C (Kd.slice 3 (Kd.int .i64)) w A0 l0.length l0) (hc0 : l0.length ≤ c0) (hr1 : Kd.C (Kd.int .i64) w A1 l1.length l1) (hc1 : l1.length ≤ c1) (h : amalgamref10_Check.f k l0 l1 = some r) :
    Calls Tryd.prog 22 #[.slice A0 l0.length c0, .slice A1 l1.length c1] w fun e w' => e = .returned (.int .i64 r) ∧ Drawn0 w w' := by
  have HR0 := Aside0.mk hr0
  have HC0 := Aside0.mk hc0
  clear hr0 hc0
  have HR1 := Aside0.mk hr1
  have HC1 := Aside0.mk hc1
  clear hr1 hc1
  have H : (if (l0.length : Int) > 16 then (some 101) else (if (l1.length : Int) > 10 then (some 102) else (amalgamref10_Check.l0 k l0 l1 0))) = some r := h
  clear h
  by_cases c3 : (l0.length : Int) > 16
  · rw [if_pos c3] at H
    have c3b0 : decide (16 < (l0.length : Int)) = true := decide_eq_true c3
    have c3b1 : decide (16 < l0.length) = true := decide_eq_true (by omega)
    clear c3
    obtain rfl := Option.some.inj H
    go_enter Tryd.func22, Tryd.ntmps22
    go_wp2
    go_ret
    exact ⟨by first | rfl | (simp; done) | (simp [*]; done), by repeat (first | exact Drawn0.refl _ | apply Drawn0.step)⟩
  · rw [if_neg c3] at H
    have c3b0 : decide (16 < (l0.length : Int)) = false := decide_eq_false c3
    have c3b1 : decide (16 < l0.length) = false := decide_eq_false (by omega)
    clear c3
    by_cases c4 : (l1.length : Int) > 10
    · rw [if_pos c4] at H
      have c4b0 : decide (10 < (l1.length : Int)) = true := decide_eq_true c4
      have c4b1 : decide (10 < l1.length) = true := decide_eq_true (by omega)
      clear c4
      obtain rfl := Option.some.inj H
      go_enter Tryd.func22, Tryd.ntmps22
      go_wp2
      go_ret
      exact ⟨by first | rfl | (simp; done) | (simp [*]; done), by repeat (first | exact Drawn0.refl _ | apply Drawn0.step)⟩
    · rw [if_neg c4] at H
      have c4b0 : decide (10 < (l1.length : Int)) = false := decide_eq_false c4
      have c4b1 : decide (10 < l1.length) = false := decide_eq_false (by omega)
      clear c4
      have H' := Aside0.mk H
      clear H
      go_enter Tryd.func22, Tryd.ntmps22
      go_wp2
      go_loopg [5] k (fun kq v5 w' => ∃ (x5_1 : Int), v5 = .int .i64 x5_1 ∧ Aside0 (amalgamref10_Check.l0 kq l0 l1 x5_1 = some r) ∧ Aside0 (kq ≤ k) ∧ Drawn0 w w')
      case atStart => exact ⟨(0), (by first | rfl | (simp; done) | (simp [*]; done)), H', ⟨Nat.le_refl _⟩, by repeat (first | exact Drawn0.refl _ | apply Drawn0.step)⟩
      case round =>
        clear H'
        try clear c1
        try clear c2
        try clear p2
        try clear c3
        try clear c3b0
        try clear c3b1
        try clear c4
        try clear c4b0
        try clear c4b1
        obtain ⟨x5_1, rfl, HA, HK1, ⟨m1, rfl⟩⟩ := hrel
        cases gk with
        | zero => exact absurd HA.out (by simp [amalgamref10_Check.l0])
        | succ k1 =>
          have H := HA.out
          clear HA
          simp only [amalgamref10_Check.l0] at H
          by_cases c5 : x5_1 < (l1.length : Int)
          · rw [if_pos c5] at H
            have c5b0 : decide (x5_1 < (l1.length : Int)) = true := decide_eq_true c5
            clear c5
            by_cases c6 : 0 ≤ x5_1
            · rw [if_pos c6] at H
              have c6b0 : decide (0 ≤ x5_1) = true := decide_eq_true c6
              clear c6
              by_cases c7 : (rd l1 x5_1) < 0
              · rw [if_pos c7] at H
                have c7b0 : decide ((rd l1 x5_1) < 0) = true := decide_eq_true c7
                clear c7
                obtain rfl := Option.some.inj H
                have p101 : 0 ≤ (x5_1 : Int) := of_decide_eq_true (by first | (with_reducible assumption) | assumption)
                have q101 : x5_1 < (l1.length : Int) := of_decide_eq_true (by first | (with_reducible assumption) | assumption)
                obtain ⟨ad101, e101, hx101_0⟩ := Kd.at_int HR1.out x5_1 p101 q101
                cases e101
                replace p101 := eq_true p101
                replace q101 := eq_true q101
                go_wp2
                go_ret
                exact ⟨by first | rfl | (simp; done) | (simp [*]; done), by repeat (first | exact Drawn0.refl _ | apply Drawn0.step)⟩
              · rw [if_neg c7] at H
                have c7b0 : decide ((rd l1 x5_1) < 0) = false := decide_eq_false c7
                clear c7
                by_cases c8 : (rd l1 x5_1) > 2
                · rw [if_pos c8] at H
                  have c8b0 : decide (2 < (rd l1 x5_1)) = true := decide_eq_true c8
                  clear c8
                  obtain rfl := Option.some.inj H
                  have p101 : 0 ≤ (x5_1 : Int) := of_decide_eq_true (by first | (with_reducible assumption) | assumption)
                  have q101 : x5_1 < (l1.length : Int) := of_decide_eq_true (by first | (with_reducible assumption) | assumption)
                  obtain ⟨ad101, e101, hx101_0⟩ := Kd.at_int HR1.out x5_1 p101 q101
                  cases e101
                  replace p101 := eq_true p101
                  replace q101 := eq_true q101
                  have p102 : 0 ≤ (x5_1 : Int) := of_decide_eq_true (by first | (with_reducible assumption) | assumption)
                  have q102 : x5_1 < (l1.length : Int) := of_decide_eq_true (by first | (with_reducible assumption) | assumption)
                  obtain ⟨ad102, e102, hx102_0⟩ := Kd.at_int HR1.out x5_1 p102 q102
                  obtain rfl : ad101 = ad102 := (by injection e102)
                  replace p102 := eq_true p102
                  replace q102 := eq_true q102
                  go_wp2
                  go_ret
                  exact ⟨by first | rfl | (simp; done) | (simp [*]; done), by repeat (first | exact Drawn0.refl _ | apply Drawn0.step)⟩
                · rw [if_neg c8] at H
                  have c8b0 : decide (2 < (rd l1 x5_1)) = false := decide_eq_false c8
                  clear c8
                  have H' := Aside0.mk H
                  clear H
                  have p101 : 0 ≤ (x5_1 : Int) := of_decide_eq_true (by first | (with_reducible assumption) | assumption)
                  have q101 : x5_1 < (l1.length : Int) := of_decide_eq_true (by first | (with_reducible assumption) | assumption)
                  obtain ⟨ad101, e101, hx101_0⟩ := Kd.at_int HR1.out x5_1 p101 q101
                  cases e101
                  replace p101 := eq_true p101
                  replace q101 := eq_true q101
                  have p102 : 0 ≤ (x5_1 : Int) := of_decide_eq_true (by first | (with_reducible assumption) | assumption)
                  have q102 : x5_1 < (l1.length : Int) := of_decide_eq_true (by first | (with_reducible assumption) | assumption)
                  obtain ⟨ad102, e102, hx102_0⟩ := Kd.at_int HR1.out x5_1 p102 q102
                  obtain rfl : ad101 = ad102 := (by injection e102)
                  replace p102 := eq_true p102
                  replace q102 := eq_true q102
                  go_wp2
                  go_roundg k1
                  case measure => have := HK1.out; omega
                  case rel => exact ⟨(wrap64 (x5_1 + 1)), (by first | rfl | (simp; done) | (simp [*]; done)), H', ⟨by have := HK1.out; omega⟩, by repeat (first | exact Drawn0.refl _ | apply Drawn0.step)⟩
            · rw [if_neg c6] at H
              exact absurd H (by simp)
          · rw [if_neg c5] at H
            have c5b0 : decide (x5_1 < (l1.length : Int)) = false := decide_eq_false c5
            clear c5
            have H' := Aside0.mk H
            clear H
            go_wp2
            go_loopg [6] k1 (fun kq v6 w' => ∃ (x6_2 : Int), v6 = .int .i64 x6_2 ∧ Aside0 (amalgamref10_Check.l1 kq l0 l1 x6_2 = some r) ∧ Aside0 (kq ≤ k1) ∧ Drawn0 w w')
            case atStart => exact ⟨(0), (by first | rfl | (simp; done) | (simp [*]; done)), H', ⟨Nat.le_refl _⟩, by repeat (first | exact Drawn0.refl _ | apply Drawn0.step)⟩
            case round =>
              clear H'
              try clear c1
              try clear p1
              try clear q1
              try clear hx1
              try clear c2
              try clear p2
              try clear c3
              try clear c3b0
              try clear c3b1
              try clear c4
              try clear c4b0
              try clear c4b1
              try clear c5
              try clear c5b0
              try clear c6
              try clear c6b0
              try clear p6
              try clear c7
              try clear c7b0
              try clear c8
              try clear c8b0
              try clear hx101_0
              try clear hx102_0
              try clear p101
              try clear p102
              try clear p2
              try clear q101
              try clear q102
              obtain ⟨x6_2, rfl, HA, HK2, ⟨m2, rfl⟩⟩ := hrel
              cases gk with
              | zero => exact absurd HA.out (by simp [amalgamref10_Check.l1])
              | succ k2 =>
                have H := HA.out
                clear HA
                simp only [amalgamref10_Check.l1] at H
                by_cases c9 : x6_2 < (l0.length : Int)
                · rw [if_pos c9] at H
                  have c9b0 : decide (x6_2 < (l0.length : Int)) = true := decide_eq_true c9
                  clear c9
                  by_cases c10 : 0 ≤ x6_2
                  · rw [if_pos c10] at H
                    have c10b0 : decide (0 ≤ x6_2) = true := decide_eq_true c10
                    clear c10
                    by_cases c11 : ((rd_L1 l0 x6_2).length : Int) = (l1.length : Int)
                    · rw [if_pos c11] at H
                      have c11b0 : (((rd_L1 l0 x6_2).length : Int) == (l1.length : Int)) = true := beq_iff_eq.mpr c11
                      have c11b1 : (((rd_L1 l0 x6_2).length : Int) != (l1.length : Int)) = false := bne_eq_false_iff_eq.mpr c11
                      have c11b2 : ((rd_L1 l0 x6_2).length == l1.length) = true := by first | simpa using c11 | (simp at c11 ⊢; omega)
                      clear c11
                      have H' := Aside0.mk H
                      clear H
                      have p103 : 0 ≤ (x6_2 : Int) := of_decide_eq_true (by first | (with_reducible assumption) | assumption)
                      have q103 : x6_2 < (l0.length : Int) := of_decide_eq_true (by first | (with_reducible assumption) | assumption)
                      obtain ⟨ad103, A103_0, c103_0, e103, hx103_0, hl103_0, hi103_0⟩ := at_L1 HR0.out x6_2 p103 q103
                      cases e103
                      have HR103_0 := Aside0.mk hi103_0
                      have HC103_0 := Aside0.mk hl103_0
                      clear hi103_0 hl103_0
                      replace p103 := eq_true p103
                      replace q103 := eq_true q103
                      go_wp2
                      go_loopg [7] k2 (fun kq v7 w' => ∃ (x7_3 : Int), v7 = .int .i64 x7_3 ∧ Aside0 (amalgamref10_Check.l2 kq l0 l1 x6_2 x7_3 = some r) ∧ Aside0 (kq ≤ k2) ∧ Drawn0 w w')
                      case atStart => exact ⟨(0), (by first | rfl | (simp; done) | (simp [*]; done)), H', ⟨Nat.le_refl _⟩, by repeat (first | exact Drawn0.refl _ | apply Drawn0.step)⟩
                      case round =>
                        clear H'
                        try clear c1
                        try clear p1
                        try clear q1
                        try clear hx1
                        try clear c2
                        try clear p2
                        try clear c3
                        try clear c3b0
                        try clear c3b1
                        try clear c4
                        try clear c4b0
                        try clear c4b1
                        try clear c5
                        try clear c5b0
                        try clear c6
                        try clear c6b0
                        try clear p6
                        try clear c7
                        try clear c7b0
                        try clear c8
                        try clear c8b0
                        try clear c9
                        try clear c9b0
                        try clear c10
                        try clear c10b0
                        try clear p10
                        try clear q10
                        try clear hx10
                        try clear c11
                        try clear c11b0
                        try clear c11b1
                        try clear c11b2
                        try clear hx101_0
                        try clear hx102_0
                        try clear hx103_0
                        try clear p1
                        try clear p101
                        try clear p102
                        try clear p103
                        try clear p2
                        try clear p6
                        try clear q1
                        try clear q101
                        try clear q102
                        try clear q103
                        obtain ⟨x7_3, rfl, HA, HK3, ⟨m3, rfl⟩⟩ := hrel
                        cases gk with
                        | zero => exact absurd HA.out (by simp [amalgamref10_Check.l2])
                        | succ k3 =>
                          have H := HA.out
                          clear HA
                          simp only [amalgamref10_Check.l2] at H
                          by_cases c12 : x7_3 < (l1.length : Int)
                          · rw [if_pos c12] at H
                            have c12b0 : decide (x7_3 < (l1.length : Int)) = true := decide_eq_true c12
                            clear c12
                            by_cases c13 : 0 ≤ x6_2
                            · rw [if_pos c13] at H
                              have c13b0 : decide (0 ≤ x6_2) = true := decide_eq_true c13
                              clear c13
                              by_cases c14 : x6_2 < (l0.length : Int)
                              · rw [if_pos c14] at H
                                have c14b0 : decide (x6_2 < (l0.length : Int)) = true := decide_eq_true c14
                                clear c14
                                by_cases c15 : 0 ≤ x7_3
                                · rw [if_pos c15] at H
                                  have c15b0 : decide (0 ≤ x7_3) = true := decide_eq_true c15
                                  clear c15
                                  by_cases c16 : x7_3 < ((rd_L1 l0 x6_2).length : Int)
                                  · rw [if_pos c16] at H
                                    have c16b0 : decide (x7_3 < ((rd_L1 l0 x6_2).length : Int)) = true := decide_eq_true c16
                                    clear c16
                                    by_cases c17 : (rd (rd_L1 l0 x6_2) x7_3) < 0
                                    · rw [if_pos c17] at H
                                      have c17b0 : decide ((rd (rd_L1 l0 x6_2) x7_3) < 0) = true := decide_eq_true c17
                                      clear c17
                                      obtain rfl := Option.some.inj H
                                      have p104 : 0 ≤ (x6_2 : Int) := of_decide_eq_true (by first | (with_reducible assumption) | assumption)
                                      have q104 : x6_2 < (l0.length : Int) := of_decide_eq_true (by first | (with_reducible assumption) | assumption)
                                      obtain ⟨ad104, A104_0, c104_0, e104, hx104_0, hl104_0, hi104_0⟩ := at_L1 HR0.out x6_2 p104 q104
                                      obtain rfl : ad103 = ad104 := (by injection e104)
                                      have HR104_0 := Aside0.mk hi104_0
                                      have HC104_0 := Aside0.mk hl104_0
                                      clear hi104_0 hl104_0
                                      replace p104 := eq_true p104
                                      replace q104 := eq_true q104
                                      have p105 : 0 ≤ (x7_3 : Int) := of_decide_eq_true (by first | (with_reducible assumption) | assumption)
                                      have q105 : x7_3 < ((rd_L1 l0 x6_2).length : Int) := of_decide_eq_true (by first | (with_reducible assumption) | assumption)
                                      obtain ⟨ad105, e105, hx105_0⟩ := Kd.at_int HR104_0.out x7_3 p105 q105
                                      cases e105
                                      replace p105 := eq_true p105
                                      replace q105 := eq_true q105
                                      go_wp2
                                      go_ret
                                      exact ⟨by first | rfl | (simp; done) | (simp [*]; done), by repeat (first | exact Drawn0.refl _ | apply Drawn0.step)⟩
                                    · rw [if_neg c17] at H
                                      have c17b0 : decide ((rd (rd_L1 l0 x6_2) x7_3) < 0) = false := decide_eq_false c17
                                      clear c17
                                      by_cases c18 : (rd (rd_L1 l0 x6_2) x7_3) > 1048576
                                      · rw [if_pos c18] at H
                                        have c18b0 : decide (1048576 < (rd (rd_L1 l0 x6_2) x7_3)) = true := decide_eq_true c18
                                        clear c18
                                        obtain rfl := Option.some.inj H
                                        have p104 : 0 ≤ (x6_2 : Int) := of_decide_eq_true (by first | (with_reducible assumption) | assumption)
                                        have q104 : x6_2 < (l0.length : Int) := of_decide_eq_true (by first | (with_reducible assumption) | assumption)
                                        obtain ⟨ad104, A104_0, c104_0, e104, hx104_0, hl104_0, hi104_0⟩ := at_L1 HR0.out x6_2 p104 q104
                                        obtain rfl : ad103 = ad104 := (by injection e104)
                                        have HR104_0 := Aside0.mk hi104_0
                                        have HC104_0 := Aside0.mk hl104_0
                                        clear hi104_0 hl104_0
                                        replace p104 := eq_true p104
                                        replace q104 := eq_true q104
                                        have p105 : 0 ≤ (x7_3 : Int) := of_decide_eq_true (by first | (with_reducible assumption) | assumption)
                                        have q105 : x7_3 < ((rd_L1 l0 x6_2).length : Int) := of_decide_eq_true (by first | (with_reducible assumption) | assumption)
                                        obtain ⟨ad105, e105, hx105_0⟩ := Kd.at_int HR104_0.out x7_3 p105 q105
                                        cases e105
                                        replace p105 := eq_true p105
                                        replace q105 := eq_true q105
                                        have p106 : 0 ≤ (x6_2 : Int) := of_decide_eq_true (by first | (with_reducible assumption) | assumption)
                                        have q106 : x6_2 < (l0.length : Int) := of_decide_eq_true (by first | (with_reducible assumption) | assumption)
                                        obtain ⟨ad106, A106_0, c106_0, e106, hx106_0, hl106_0, hi106_0⟩ := at_L1 HR0.out x6_2 p106 q106
                                        obtain rfl : ad103 = ad106 := (by injection e106)
                                        have HR106_0 := Aside0.mk hi106_0
                                        have HC106_0 := Aside0.mk hl106_0
                                        clear hi106_0 hl106_0
                                        replace p106 := eq_true p106
                                        replace q106 := eq_true q106
                                        have ea_ := Option.some.inj (hx104_0.symm.trans hx106_0)
                                        injection ea_ with ea_ en_ ec_
                                        subst ea_
                                        subst ec_
                                        clear en_
                                        have p107 : 0 ≤ (x7_3 : Int) := of_decide_eq_true (by first | (with_reducible assumption) | assumption)
                                        have q107 : x7_3 < ((rd_L1 l0 x6_2).length : Int) := of_decide_eq_true (by first | (with_reducible assumption) | assumption)
                                        obtain ⟨ad107, e107, hx107_0⟩ := Kd.at_int HR106_0.out x7_3 p107 q107
                                        cases e107
                                        replace p107 := eq_true p107
                                        replace q107 := eq_true q107
                                        go_wp2
                                        go_ret
                                        exact ⟨by first | rfl | (simp; done) | (simp [*]; done), by repeat (first | exact Drawn0.refl _ | apply Drawn0.step)⟩
                                      · rw [if_neg c18] at H
                                        have c18b0 : decide (1048576 < (rd (rd_L1 l0 x6_2) x7_3)) = false := decide_eq_false c18
                                        clear c18
                                        have H' := Aside0.mk H
                                        clear H
                                        have p104 : 0 ≤ (x6_2 : Int) := of_decide_eq_true (by first | (with_reducible assumption) | assumption)
                                        have q104 : x6_2 < (l0.length : Int) := of_decide_eq_true (by first | (with_reducible assumption) | assumption)
                                        obtain ⟨ad104, A104_0, c104_0, e104, hx104_0, hl104_0, hi104_0⟩ := at_L1 HR0.out x6_2 p104 q104
                                        obtain rfl : ad103 = ad104 := (by injection e104)
                                        have HR104_0 := Aside0.mk hi104_0
                                        have HC104_0 := Aside0.mk hl104_0
                                        clear hi104_0 hl104_0
                                        replace p104 := eq_true p104
                                        replace q104 := eq_true q104
                                        have p105 : 0 ≤ (x7_3 : Int) := of_decide_eq_true (by first | (with_reducible assumption) | assumption)
                                        have q105 : x7_3 < ((rd_L1 l0 x6_2).length : Int) := of_decide_eq_true (by first | (with_reducible assumption) | assumption)
                                        obtain ⟨ad105, e105, hx105_0⟩ := Kd.at_int HR104_0.out x7_3 p105 q105
                                        cases e105
                                        replace p105 := eq_true p105
                                        replace q105 := eq_true q105
                                        have p106 : 0 ≤ (x6_2 : Int) := of_decide_eq_true (by first | (with_reducible assumption) | assumption)
                                        have q106 : x6_2 < (l0.length : Int) := of_decide_eq_true (by first | (with_reducible assumption) | assumption)
                                        obtain ⟨ad106, A106_0, c106_0, e106, hx106_0, hl106_0, hi106_0⟩ := at_L1 HR0.out x6_2 p106 q106
                                        obtain rfl : ad103 = ad106 := (by injection e106)
                                        have HR106_0 := Aside0.mk hi106_0
                                        have HC106_0 := Aside0.mk hl106_0
                                        clear hi106_0 hl106_0
                                        replace p106 := eq_true p106
                                        replace q106 := eq_true q106
                                        have ea_ := Option.some.inj (hx104_0.symm.trans hx106_0)
                                        injection ea_ with ea_ en_ ec_
                                        subst ea_
                                        subst ec_
                                        clear en_
                                        have p107 : 0 ≤ (x7_3 : Int) := of_decide_eq_true (by first | (with_reducible assumption) | assumption)
                                        have q107 : x7_3 < ((rd_L1 l0 x6_2).length : Int) := of_decide_eq_true (by first | (with_reducible assumption) | assumption)
                                        obtain ⟨ad107, e107, hx107_0⟩ := Kd.at_int HR106_0.out x7_3 p107 q107
                                        cases e107
                                        replace p107 := eq_true p107
                                        replace q107 := eq_true q107
                                        go_wp2
                                        go_roundg k3
                                        case measure => have := HK1.out; have := HK2.out; have := HK3.out; omega
                                        case rel => exact ⟨(wrap64 (x7_3 + 1)), (by first | rfl | (simp; done) | (simp [*]; done)), H', ⟨by have := HK1.out; have := HK2.out; have := HK3.out; omega⟩, by repeat (first | exact Drawn0.refl _ | apply Drawn0.step)⟩
                                  · rw [if_neg c16] at H
                                    exact absurd H (by simp)
                                · rw [if_neg c15] at H
                                  exact absurd H (by simp)
                              · rw [if_neg c14] at H
                                exact absurd H (by simp)
                            · rw [if_neg c13] at H
                              exact absurd H (by simp)
                          · rw [if_neg c12] at H
                            have c12b0 : decide (x7_3 < (l1.length : Int)) = false := decide_eq_false c12
                            clear c12
                            have H' := Aside0.mk H
                            clear H
                            go_wp2
                            go_roundg k3
                            case measure => have := HK1.out; have := HK2.out; have := HK3.out; omega
                            case rel => exact ⟨(wrap64 (x6_2 + 1)), (by first | rfl | (simp; done) | (simp [*]; done)), H', ⟨by have := HK1.out; have := HK2.out; have := HK3.out; omega⟩, by repeat (first | exact Drawn0.refl _ | apply Drawn0.step)⟩
                    · rw [if_neg c11] at H
                      have c11b0 : (((rd_L1 l0 x6_2).length : Int) == (l1.length : Int)) = false := beq_eq_false_iff_ne.mpr c11
                      have c11b1 : (((rd_L1 l0 x6_2).length : Int) != (l1.length : Int)) = true := bne_iff_ne.mpr c11
                      have c11b2 : ((rd_L1 l0 x6_2).length == l1.length) = false := by first | simpa using c11 | (simp at c11 ⊢; omega)
                      obtain rfl := Option.some.inj H
                      have p103 : 0 ≤ (x6_2 : Int) := of_decide_eq_true (by first | (with_reducible assumption) | assumption)
                      have q103 : x6_2 < (l0.length : Int) := of_decide_eq_true (by first | (with_reducible assumption) | assumption)
                      obtain ⟨ad103, A103_0, c103_0, e103, hx103_0, hl103_0, hi103_0⟩ := at_L1 HR0.out x6_2 p103 q103
                      cases e103
                      have HR103_0 := Aside0.mk hi103_0
                      have HC103_0 := Aside0.mk hl103_0
                      clear hi103_0 hl103_0
                      replace p103 := eq_true p103
                      replace q103 := eq_true q103
                      go_wp2
                      go_ret
                      exact ⟨by first | rfl | (simp; done) | (simp [*]; done), by repeat (first | exact Drawn0.refl _ | apply Drawn0.step)⟩
                  · rw [if_neg c10] at H
                    exact absurd H (by simp)
                · rw [if_neg c9] at H
                  have c9b0 : decide (x6_2 < (l0.length : Int)) = false := decide_eq_false c9
                  clear c9
                  obtain rfl := Option.some.inj H
                  go_wp2
                  go_ret
                  exact ⟨by first | rfl | (simp; done) | (simp [*]; done), by repeat (first | exact Drawn0.refl _ | apply Drawn0.step)⟩

/-! ### amalgamref10_fits: function 31 -/
def amalgamref10_fits.l0 : Nat → List Int → List Int → Int → Option (Bool)
  | 0, _, _, _ => none
  | k + 1, x0, x1, x5 => if x5 < (x1.length : Int) then (if 0 ≤ x5 then (if (rd x1 x5) = 1 then (if x5 < (x0.length : Int) then (if (rd x0 x5) < 1 then (some false) else (if (rd x1 x5) = 2 then (if (rd x0 x5) = 1 then (amalgamref10_fits.l0 k x0 x1 (wrap64 (x5 + 1))) else (some false)) else (amalgamref10_fits.l0 k x0 x1 (wrap64 (x5 + 1))))) else (none)) else (if (rd x1 x5) = 2 then (if x5 < (x0.length : Int) then (if (rd x0 x5) = 1 then (amalgamref10_fits.l0 k x0 x1 (wrap64 (x5 + 1))) else (some false)) else (none)) else (amalgamref10_fits.l0 k x0 x1 (wrap64 (x5 + 1))))) else (none)) else (some true)
def amalgamref10_fits.f (k : Nat) (l0 : List Int) (l1 : List Int) : Option (Bool) := amalgamref10_fits.l0 k l0 l1 0
theorem amalgamref10_fits.mono_l : ∀ k, (∀ y0 y1 y2, LeO (amalgamref10_fits.l0 k y0 y1 y2) (amalgamref10_fits.l0 (k + 1) y0 y1 y2))
  | 0 => fun _ _ _ r h => by simp [amalgamref10_fits.l0] at h
  | k + 1 => by
    have ih0 := amalgamref10_fits.mono_l k
    · intro y0 y1 y2
      unfold amalgamref10_fits.l0
      repeat' first
      | (with_reducible exact ih0 _ _ _)
      | (with_reducible exact LeO.refl _)
      | (with_reducible exact LeO.none _)
      | (with_reducible refine LeO.ite ?_ ?_)
      | (with_reducible refine LeO.bind ?_ (fun _ => ?_))
      | exact ih0 _ _ _
      | exact LeO.none _
      | refine LeO.ite ?_ ?_
      | refine LeO.bind ?_ (fun _ => ?_)
theorem amalgamref10_fits.mono : ∀ a0 a1 k, LeO (amalgamref10_fits.f k a0 a1) (amalgamref10_fits.f (k + 1) a0 a1) := by
  intro a0 a1 k
  have ih0 := amalgamref10_fits.mono_l k
  unfold amalgamref10_fits.f
  repeat' first
      | (with_reducible exact ih0 _ _ _)
      | (with_reducible exact LeO.refl _)
      | (with_reducible exact LeO.none _)
      | (with_reducible refine LeO.ite ?_ ?_)
      | (with_reducible refine LeO.bind ?_ (fun _ => ?_))
      | exact ih0 _ _ _
      | exact LeO.none _
      | refine LeO.ite ?_ ?_
      | refine LeO.bind ?_ (fun _ => ?_)
set_option maxHeartbeats 8000000 in
set_option maxRecDepth 100000 in
theorem amalgamref10_fits.calls (k : Nat) (A0 : Option Addr) (c0 : Nat) (l0 : List Int) (A1 : Option Addr) (c1 : Nat) (l1 : List Int) (r : Bool) (w : World) (hr0 : Kd.C (Kd.int .i64) w A0 l0.length l0) (hc0 : l0.length ≤ c0) (hr1 : Kd.C (Kd.int .i64) w A1 l1.length l1) (hc1 : l1.length ≤ c1) (h : amalgamref10_fits.f k l0 l1 = some r) :
    Calls Tryd.prog 31 #[.slice A0 l0.length c0, .slice A1 l1.length c1] w fun e w' => e = .returned (.bool r) ∧ Drawn0 w w' := by
  have HR0 := Aside0.mk hr0
  have HC0 := Aside0.mk hc0
  clear hr0 hc0
  have HR1 := Aside0.mk hr1
  have HC1 := Aside0.mk hc1
  clear hr1 hc1
  have H : (amalgamref10_fits.l0 k l0 l1 0) = some r := h
  clear h
  have H' := Aside0.mk H
  clear H
  go_enter Tryd.func31, Tryd.ntmps31
  go_wp2
  go_loopg [5] k (fun kq v5 w' => ∃ (x5_1 : Int), v5 = .int .i64 x5_1 ∧ Aside0 (amalgamref10_fits.l0 kq l0 l1 x5_1 = some r) ∧ Aside0 (kq ≤ k) ∧ Drawn0 w w')
  case atStart => exact ⟨(0), (by first | rfl | (simp; done) | (simp [*]; done)), H', ⟨Nat.le_refl _⟩, by repeat (first | exact Drawn0.refl _ | apply Drawn0.step)⟩
  case round =>
    clear H'
    try clear c1
    try clear p2
    obtain ⟨x5_1, rfl, HA, HK1, ⟨m1, rfl⟩⟩ := hrel
    cases gk with
    | zero => exact absurd HA.out (by simp [amalgamref10_fits.l0])
    | succ k1 =>
      have H := HA.out
      clear HA
      simp only [amalgamref10_fits.l0] at H
      by_cases c3 : x5_1 < (l1.length : Int)
      · rw [if_pos c3] at H
        have c3b0 : decide (x5_1 < (l1.length : Int)) = true := decide_eq_true c3
        clear c3
        by_cases c4 : 0 ≤ x5_1
        · rw [if_pos c4] at H
          have c4b0 : decide (0 ≤ x5_1) = true := decide_eq_true c4
          clear c4
          by_cases c5 : (rd l1 x5_1) = 1
          · rw [if_pos c5] at H
            have c5b0 : ((rd l1 x5_1) == 1) = true := beq_iff_eq.mpr c5
            have c5b1 : ((rd l1 x5_1) != 1) = false := bne_eq_false_iff_eq.mpr c5
            clear c5
            by_cases c6 : x5_1 < (l0.length : Int)
            · rw [if_pos c6] at H
              have c6b0 : decide (x5_1 < (l0.length : Int)) = true := decide_eq_true c6
              clear c6
              by_cases c7 : (rd l0 x5_1) < 1
              · rw [if_pos c7] at H
                have c7b0 : decide ((rd l0 x5_1) < 1) = true := decide_eq_true c7
                clear c7
                obtain rfl := Option.some.inj H
                have p108 : 0 ≤ (x5_1 : Int) := of_decide_eq_true (by first | (with_reducible assumption) | assumption)
                have q108 : x5_1 < (l1.length : Int) := of_decide_eq_true (by first | (with_reducible assumption) | assumption)
                obtain ⟨ad108, e108, hx108_0⟩ := Kd.at_int HR1.out x5_1 p108 q108
                cases e108
                replace p108 := eq_true p108
                replace q108 := eq_true q108
                have p109 : 0 ≤ (x5_1 : Int) := of_decide_eq_true (by first | (with_reducible assumption) | assumption)
                have q109 : x5_1 < (l0.length : Int) := of_decide_eq_true (by first | (with_reducible assumption) | assumption)
                obtain ⟨ad109, e109, hx109_0⟩ := Kd.at_int HR0.out x5_1 p109 q109
                cases e109
                replace p109 := eq_true p109
                replace q109 := eq_true q109
                go_wp2
                go_ret
                exact ⟨by first | rfl | (simp; done) | (simp [*]; done), by repeat (first | exact Drawn0.refl _ | apply Drawn0.step)⟩
              · rw [if_neg c7] at H
                have c7b0 : decide ((rd l0 x5_1) < 1) = false := decide_eq_false c7
                clear c7
                by_cases c8 : (rd l1 x5_1) = 2
                · rw [if_pos c8] at H
                  have c8b0 : ((rd l1 x5_1) == 2) = true := beq_iff_eq.mpr c8
                  have c8b1 : ((rd l1 x5_1) != 2) = false := bne_eq_false_iff_eq.mpr c8
                  clear c8
                  by_cases c9 : (rd l0 x5_1) = 1
                  · rw [if_pos c9] at H
                    have c9b0 : ((rd l0 x5_1) == 1) = true := beq_iff_eq.mpr c9
                    have c9b1 : ((rd l0 x5_1) != 1) = false := bne_eq_false_iff_eq.mpr c9
                    clear c9
                    have H' := Aside0.mk H
                    clear H
                    have p108 : 0 ≤ (x5_1 : Int) := of_decide_eq_true (by first | (with_reducible assumption) | assumption)
                    have q108 : x5_1 < (l1.length : Int) := of_decide_eq_true (by first | (with_reducible assumption) | assumption)
                    obtain ⟨ad108, e108, hx108_0⟩ := Kd.at_int HR1.out x5_1 p108 q108
                    cases e108
                    replace p108 := eq_true p108
                    replace q108 := eq_true q108
                    have p109 : 0 ≤ (x5_1 : Int) := of_decide_eq_true (by first | (with_reducible assumption) | assumption)
                    have q109 : x5_1 < (l0.length : Int) := of_decide_eq_true (by first | (with_reducible assumption) | assumption)
                    obtain ⟨ad109, e109, hx109_0⟩ := Kd.at_int HR0.out x5_1 p109 q109
                    cases e109
                    replace p109 := eq_true p109
                    replace q109 := eq_true q109
                    have p110 : 0 ≤ (x5_1 : Int) := of_decide_eq_true (by first | (with_reducible assumption) | assumption)
                    have q110 : x5_1 < (l1.length : Int) := of_decide_eq_true (by first | (with_reducible assumption) | assumption)
                    obtain ⟨ad110, e110, hx110_0⟩ := Kd.at_int HR1.out x5_1 p110 q110
                    obtain rfl : ad108 = ad110 := (by injection e110)
                    replace p110 := eq_true p110
                    replace q110 := eq_true q110
                    have p111 : 0 ≤ (x5_1 : Int) := of_decide_eq_true (by first | (with_reducible assumption) | assumption)
                    have q111 : x5_1 < (l0.length : Int) := of_decide_eq_true (by first | (with_reducible assumption) | assumption)
                    obtain ⟨ad111, e111, hx111_0⟩ := Kd.at_int HR0.out x5_1 p111 q111
                    obtain rfl : ad109 = ad111 := (by injection e111)
                    replace p111 := eq_true p111
                    replace q111 := eq_true q111
                    go_wp2
                    go_roundg k1
                    case measure => have := HK1.out; omega
                    case rel => exact ⟨(wrap64 (x5_1 + 1)), (by first | rfl | (simp; done) | (simp [*]; done)), H', ⟨by have := HK1.out; omega⟩, by repeat (first | exact Drawn0.refl _ | apply Drawn0.step)⟩
                  · rw [if_neg c9] at H
                    have c9b0 : ((rd l0 x5_1) == 1) = false := beq_eq_false_iff_ne.mpr c9
                    have c9b1 : ((rd l0 x5_1) != 1) = true := bne_iff_ne.mpr c9
                    obtain rfl := Option.some.inj H
                    have p108 : 0 ≤ (x5_1 : Int) := of_decide_eq_true (by first | (with_reducible assumption) | assumption)
                    have q108 : x5_1 < (l1.length : Int) := of_decide_eq_true (by first | (with_reducible assumption) | assumption)
                    obtain ⟨ad108, e108, hx108_0⟩ := Kd.at_int HR1.out x5_1 p108 q108
                    cases e108
                    replace p108 := eq_true p108
                    replace q108 := eq_true q108
                    have p109 : 0 ≤ (x5_1 : Int) := of_decide_eq_true (by first | (with_reducible assumption) | assumption)
                    have q109 : x5_1 < (l0.length : Int) := of_decide_eq_true (by first | (with_reducible assumption) | assumption)
                    obtain ⟨ad109, e109, hx109_0⟩ := Kd.at_int HR0.out x5_1 p109 q109
                    cases e109
                    replace p109 := eq_true p109
                    replace q109 := eq_true q109
                    have p110 : 0 ≤ (x5_1 : Int) := of_decide_eq_true (by first | (with_reducible assumption) | assumption)
                    have q110 : x5_1 < (l1.length : Int) := of_decide_eq_true (by first | (with_reducible assumption) | assumption)
                    obtain ⟨ad110, e110, hx110_0⟩ := Kd.at_int HR1.out x5_1 p110 q110
                    obtain rfl : ad108 = ad110 := (by injection e110)
                    replace p110 := eq_true p110
                    replace q110 := eq_true q110
                    have p111 : 0 ≤ (x5_1 : Int) := of_decide_eq_true (by first | (with_reducible assumption) | assumption)
                    have q111 : x5_1 < (l0.length : Int) := of_decide_eq_true (by first | (with_reducible assumption) | assumption)
                    obtain ⟨ad111, e111, hx111_0⟩ := Kd.at_int HR0.out x5_1 p111 q111
                    obtain rfl : ad109 = ad111 := (by injection e111)
                    replace p111 := eq_true p111
                    replace q111 := eq_true q111
                    go_wp2
                    go_ret
                    exact ⟨by first | rfl | (simp; done) | (simp [*]; done), by repeat (first | exact Drawn0.refl _ | apply Drawn0.step)⟩
                · rw [if_neg c8] at H
                  have c8b0 : ((rd l1 x5_1) == 2) = false := beq_eq_false_iff_ne.mpr c8
                  have c8b1 : ((rd l1 x5_1) != 2) = true := bne_iff_ne.mpr c8
                  have H' := Aside0.mk H
                  clear H
                  have p108 : 0 ≤ (x5_1 : Int) := of_decide_eq_true (by first | (with_reducible assumption) | assumption)
                  have q108 : x5_1 < (l1.length : Int) := of_decide_eq_true (by first | (with_reducible assumption) | assumption)
                  obtain ⟨ad108, e108, hx108_0⟩ := Kd.at_int HR1.out x5_1 p108 q108
                  cases e108
                  replace p108 := eq_true p108
                  replace q108 := eq_true q108
                  have p109 : 0 ≤ (x5_1 : Int) := of_decide_eq_true (by first | (with_reducible assumption) | assumption)
                  have q109 : x5_1 < (l0.length : Int) := of_decide_eq_true (by first | (with_reducible assumption) | assumption)
                  obtain ⟨ad109, e109, hx109_0⟩ := Kd.at_int HR0.out x5_1 p109 q109
                  cases e109
                  replace p109 := eq_true p109
                  replace q109 := eq_true q109
                  have p110 : 0 ≤ (x5_1 : Int) := of_decide_eq_true (by first | (with_reducible assumption) | assumption)
                  have q110 : x5_1 < (l1.length : Int) := of_decide_eq_true (by first | (with_reducible assumption) | assumption)
                  obtain ⟨ad110, e110, hx110_0⟩ := Kd.at_int HR1.out x5_1 p110 q110
                  obtain rfl : ad108 = ad110 := (by injection e110)
                  replace p110 := eq_true p110
                  replace q110 := eq_true q110
                  go_wp2
                  go_roundg k1
                  case measure => have := HK1.out; omega
                  case rel => exact ⟨(wrap64 (x5_1 + 1)), (by first | rfl | (simp; done) | (simp [*]; done)), H', ⟨by have := HK1.out; omega⟩, by repeat (first | exact Drawn0.refl _ | apply Drawn0.step)⟩
            · rw [if_neg c6] at H
              exact absurd H (by simp)
          · rw [if_neg c5] at H
            have c5b0 : ((rd l1 x5_1) == 1) = false := beq_eq_false_iff_ne.mpr c5
            have c5b1 : ((rd l1 x5_1) != 1) = true := bne_iff_ne.mpr c5
            by_cases c10 : (rd l1 x5_1) = 2
            · rw [if_pos c10] at H
              have c10b0 : ((rd l1 x5_1) == 2) = true := beq_iff_eq.mpr c10
              have c10b1 : ((rd l1 x5_1) != 2) = false := bne_eq_false_iff_eq.mpr c10
              clear c10
              by_cases c11 : x5_1 < (l0.length : Int)
              · rw [if_pos c11] at H
                have c11b0 : decide (x5_1 < (l0.length : Int)) = true := decide_eq_true c11
                clear c11
                by_cases c12 : (rd l0 x5_1) = 1
                · rw [if_pos c12] at H
                  have c12b0 : ((rd l0 x5_1) == 1) = true := beq_iff_eq.mpr c12
                  have c12b1 : ((rd l0 x5_1) != 1) = false := bne_eq_false_iff_eq.mpr c12
                  clear c12
                  have H' := Aside0.mk H
                  clear H
                  have p108 : 0 ≤ (x5_1 : Int) := of_decide_eq_true (by first | (with_reducible assumption) | assumption)
                  have q108 : x5_1 < (l1.length : Int) := of_decide_eq_true (by first | (with_reducible assumption) | assumption)
                  obtain ⟨ad108, e108, hx108_0⟩ := Kd.at_int HR1.out x5_1 p108 q108
                  cases e108
                  replace p108 := eq_true p108
                  replace q108 := eq_true q108
                  have p112 : 0 ≤ (x5_1 : Int) := of_decide_eq_true (by first | (with_reducible assumption) | assumption)
                  have q112 : x5_1 < (l1.length : Int) := of_decide_eq_true (by first | (with_reducible assumption) | assumption)
                  obtain ⟨ad112, e112, hx112_0⟩ := Kd.at_int HR1.out x5_1 p112 q112
                  obtain rfl : ad108 = ad112 := (by injection e112)
                  replace p112 := eq_true p112
                  replace q112 := eq_true q112
                  have p113 : 0 ≤ (x5_1 : Int) := of_decide_eq_true (by first | (with_reducible assumption) | assumption)
                  have q113 : x5_1 < (l0.length : Int) := of_decide_eq_true (by first | (with_reducible assumption) | assumption)
                  obtain ⟨ad113, e113, hx113_0⟩ := Kd.at_int HR0.out x5_1 p113 q113
                  cases e113
                  replace p113 := eq_true p113
                  replace q113 := eq_true q113
                  go_wp2
                  go_roundg k1
                  case measure => have := HK1.out; omega
                  case rel => exact ⟨(wrap64 (x5_1 + 1)), (by first | rfl | (simp; done) | (simp [*]; done)), H', ⟨by have := HK1.out; omega⟩, by repeat (first | exact Drawn0.refl _ | apply Drawn0.step)⟩
                · rw [if_neg c12] at H
                  have c12b0 : ((rd l0 x5_1) == 1) = false := beq_eq_false_iff_ne.mpr c12
                  have c12b1 : ((rd l0 x5_1) != 1) = true := bne_iff_ne.mpr c12
                  obtain rfl := Option.some.inj H
                  have p108 : 0 ≤ (x5_1 : Int) := of_decide_eq_true (by first | (with_reducible assumption) | assumption)
                  have q108 : x5_1 < (l1.length : Int) := of_decide_eq_true (by first | (with_reducible assumption) | assumption)
                  obtain ⟨ad108, e108, hx108_0⟩ := Kd.at_int HR1.out x5_1 p108 q108
                  cases e108
                  replace p108 := eq_true p108
                  replace q108 := eq_true q108
                  have p112 : 0 ≤ (x5_1 : Int) := of_decide_eq_true (by first | (with_reducible assumption) | assumption)
                  have q112 : x5_1 < (l1.length : Int) := of_decide_eq_true (by first | (with_reducible assumption) | assumption)
                  obtain ⟨ad112, e112, hx112_0⟩ := Kd.at_int HR1.out x5_1 p112 q112
                  obtain rfl : ad108 = ad112 := (by injection e112)
                  replace p112 := eq_true p112
                  replace q112 := eq_true q112
                  have p113 : 0 ≤ (x5_1 : Int) := of_decide_eq_true (by first | (with_reducible assumption) | assumption)
                  have q113 : x5_1 < (l0.length : Int) := of_decide_eq_true (by first | (with_reducible assumption) | assumption)
                  obtain ⟨ad113, e113, hx113_0⟩ := Kd.at_int HR0.out x5_1 p113 q113
                  cases e113
                  replace p113 := eq_true p113
                  replace q113 := eq_true q113
                  go_wp2
                  go_ret
                  exact ⟨by first | rfl | (simp; done) | (simp [*]; done), by repeat (first | exact Drawn0.refl _ | apply Drawn0.step)⟩
              · rw [if_neg c11] at H
                exact absurd H (by simp)
            · rw [if_neg c10] at H
              have c10b0 : ((rd l1 x5_1) == 2) = false := beq_eq_false_iff_ne.mpr c10
              have c10b1 : ((rd l1 x5_1) != 2) = true := bne_iff_ne.mpr c10
              have H' := Aside0.mk H
              clear H
              have p108 : 0 ≤ (x5_1 : Int) := of_decide_eq_true (by first | (with_reducible assumption) | assumption)
              have q108 : x5_1 < (l1.length : Int) := of_decide_eq_true (by first | (with_reducible assumption) | assumption)
              obtain ⟨ad108, e108, hx108_0⟩ := Kd.at_int HR1.out x5_1 p108 q108
              cases e108
              replace p108 := eq_true p108
              replace q108 := eq_true q108
              have p112 : 0 ≤ (x5_1 : Int) := of_decide_eq_true (by first | (with_reducible assumption) | assumption)
              have q112 : x5_1 < (l1.length : Int) := of_decide_eq_true (by first | (with_reducible assumption) | assumption)
              obtain ⟨ad112, e112, hx112_0⟩ := Kd.at_int HR1.out x5_1 p112 q112
              obtain rfl : ad108 = ad112 := (by injection e112)
              replace p112 := eq_true p112
              replace q112 := eq_true q112
              go_wp2
              go_roundg k1
              case measure => have := HK1.out; omega
              case rel => exact ⟨(wrap64 (x5_1 + 1)), (by first | rfl | (simp; done) | (simp [*]; done)), H', ⟨by have := HK1.out; omega⟩, by repeat (first | exact Drawn0.refl _ | apply Drawn0.step)⟩
        · rw [if_neg c4] at H
          exact absurd H (by simp)
      · rw [if_neg c3] at H
        have c3b0 : decide (x5_1 < (l1.length : Int)) = false := decide_eq_false c3
        clear c3
        obtain rfl := Option.some.inj H
        go_wp2
        go_ret
        exact ⟨by first | rfl | (simp; done) | (simp [*]; done), by repeat (first | exact Drawn0.refl _ | apply Drawn0.step)⟩

end Go.Proofs.YtbdlihldmmbdmaaDoor.SK
