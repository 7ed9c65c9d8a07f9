-- PRINTED by print.py (a twelfth state) out of the translation. Not trusted: Lean checks it.
import Derived.Test.YtbdlihldmmbdmaaDoorSK0
import Derived.Test.YtbdlihldmmbdmaaDoorSK2
import Derived.Test.YtbdlihldmmbdmaaDoorSK3
import Derived.Test.YtbdlihldmmbdmaaDoorSK4
import Derived.Test.YtbdlihldmmbdmaaDoorBits
namespace Go.Proofs.YtbdlihldmmbdmaaDoor.SK
open Go.RowKit Go.Proofs.YtbdlihldmmbdmaaDoorW.PrintWords Go.Proofs.YtbdlihldmmbdmaaDoorW.PrintLast Go.Proofs.YtbdlihldmmbdmaaDoorW.PrintMore
attribute [local go_sem] max2_int min2_int max_two min_two max_three min_three max_four min_four   -- for this text's walks alone
set_option linter.unusedVariables false
set_option linter.unusedSimpArgs false

/-! ### amalgamlaw10_PickCover: function 4 -/
mutual
def amalgamlaw10_PickCover.j0 : Nat → List (List Int) → Bool → Int → Option (Bool)
  | 0, _, _, _ => none
  | k + 1, x0, x5, x6 => if 0 ≤ x6 then (if (x6 : Int).toNat ≤ 35184372088832 then (amalgamlaw10_PickCover.l0 k x0 x5 x6 (List.replicate (x6 : Int).toNat 0) ([] : List (List Int)) 0) else (none)) else (none)
def amalgamlaw10_PickCover.l0 : Nat → List (List Int) → Bool → Int → List Int → List (List Int) → Int → Option (Bool)
  | 0, _, _, _, _, _, _ => none
  | k + 1, x0, x5, x6, x7, x8, x9 => if x9 < (x0.length : Int) then (amalgamlaw10_PickCover.j2 k x0 x5 x6 x7 x8 x9 (decide (x9 < 8))) else (amalgamlaw10_PickCover.j2 k x0 x5 x6 x7 x8 x9 false)
def amalgamlaw10_PickCover.j2 : Nat → List (List Int) → Bool → Int → List Int → List (List Int) → Int → Bool → Option (Bool)
  | 0, _, _, _, _, _, _, _ => none
  | k + 1, x0, x5, x6, x7, x8, x9, x38 => if x38 = true then (if 0 ≤ x6 then (if (x6 : Int).toNat ≤ 35184372088832 then (amalgamlaw10_PickCover.l1 k x0 x5 x6 x7 x8 x9 (List.replicate (x6 : Int).toNat 0) 0) else (none)) else (none)) else (amalgamlaw10_PickCover.l2 k x5 x6 x7 x8 0)
def amalgamlaw10_PickCover.l1 : Nat → List (List Int) → Bool → Int → List Int → List (List Int) → Int → List Int → Int → Option (Bool)
  | 0, _, _, _, _, _, _, _, _ => none
  | k + 1, x0, x5, x6, x7, x8, x9, x10, x11 => if x11 < x6 then (if 0 ≤ x9 then (if x9 < (x0.length : Int) then (if x11 < ((rd_L1 x0 x9).length : Int) then (if 0 ≤ x11 then (if x11 < (x10.length : Int) then (amalgamlaw10_PickCover.l1 k x0 x5 x6 x7 x8 x9 (x10.set (x11 : Int).toNat (Go.bits .and .i64 (rd (rd_L1 x0 x9) x11) 1)) (wrap64 (x11 + 1))) else (none)) else (none)) else (if x8.length < 5864062014805 then (amalgamlaw10_PickCover.l0 k x0 x5 x6 x7 (x8 ++ [x10]) (wrap64 (x9 + 1))) else (none))) else (none)) else (none)) else (if x8.length < 5864062014805 then (amalgamlaw10_PickCover.l0 k x0 x5 x6 x7 (x8 ++ [x10]) (wrap64 (x9 + 1))) else (none))
def amalgamlaw10_PickCover.l2 : Nat → Bool → Int → List Int → List (List Int) → Int → Option (Bool)
  | 0, _, _, _, _, _ => none
  | k + 1, x5, x6, x7, x8, x12 => if x12 < x6 then (if 0 ≤ x12 then (if x12 < (x7.length : Int) then (amalgamlaw10_PickCover.l2 k x5 x6 (x7.set (x12 : Int).toNat 2) x8 (wrap64 (x12 + 1))) else (none)) else (none)) else ((pick_List.f k x8 x7 65536).bind fun bt172 => (if x5 = true then (amalgamlaw10_PickCover.j5 k x6 x8 bt172.1 (bt172.2 != 0)) else (amalgamlaw10_PickCover.j5 k x6 x8 bt172.1 true)))
def amalgamlaw10_PickCover.j5 : Nat → Int → List (List Int) → List Int → Bool → Option (Bool)
  | 0, _, _, _, _ => none
  | k + 1, x6, x8, x13, x91 => if x91 = true then (some false) else (amalgamlaw10_PickCover.l3 k x6 x8 x13 0 0)
def amalgamlaw10_PickCover.l3 : Nat → Int → List (List Int) → List Int → Int → Int → Option (Bool)
  | 0, _, _, _, _, _ => none
  | k + 1, x6, x8, x13, x15, x16 => if x16 < (shl .u32 1 (x8.length : Int)) then (amalgamlaw10_PickCover.l4 k x6 x8 x13 x15 x16 true 0) else (some (x15 == (x13.length : Int)))
def amalgamlaw10_PickCover.l4 : Nat → Int → List (List Int) → List Int → Int → Int → Bool → Int → Option (Bool)
  | 0, _, _, _, _, _, _, _ => none
  | k + 1, x6, x8, x13, x15, x16, x17, x18 => if x18 < x6 then (amalgamlaw10_PickCover.l5 k x6 x8 x13 x15 x16 x17 x18 0 0) else (if x15 < (x13.length : Int) then (if 0 ≤ x15 then (amalgamlaw10_PickCover.j9 k x6 x8 x13 x15 x16 x17 ((rd x13 x15) == x16)) else (none)) else (amalgamlaw10_PickCover.j9 k x6 x8 x13 x15 x16 x17 false))
def amalgamlaw10_PickCover.l5 : Nat → Int → List (List Int) → List Int → Int → Int → Bool → Int → Int → Int → Option (Bool)
  | 0, _, _, _, _, _, _, _, _, _ => none
  | k + 1, x6, x8, x13, x15, x16, x17, x18, x19, x20 => if x20 < (x8.length : Int) then (if 0 ≤ x20 then (if (Go.bits .and .u32 (shr .u32 x16 x20) 1) = 1 then (if 0 ≤ x18 then (if x18 < ((rd_L1 x8 x20).length : Int) then (amalgamlaw10_PickCover.l5 k x6 x8 x13 x15 x16 x17 x18 (wrap64 (x19 + (rd (rd_L1 x8 x20) x18))) (wrap64 (x20 + 1))) else (none)) else (none)) else (amalgamlaw10_PickCover.l5 k x6 x8 x13 x15 x16 x17 x18 x19 (wrap64 (x20 + 1)))) else (none)) else (if x17 = true then (amalgamlaw10_PickCover.l4 k x6 x8 x13 x15 x16 (x19 == 1) (wrap64 (x18 + 1))) else (amalgamlaw10_PickCover.l4 k x6 x8 x13 x15 x16 false (wrap64 (x18 + 1))))
def amalgamlaw10_PickCover.j9 : Nat → Int → List (List Int) → List Int → Int → Int → Bool → Bool → Option (Bool)
  | 0, _, _, _, _, _, _, _ => none
  | k + 1, x6, x8, x13, x15, x16, x17, x21 => if x21 = true then (if (x21 != x17) = true then (some false) else (amalgamlaw10_PickCover.l3 k x6 x8 x13 (wrap64 (x15 + 1)) ((x16 + 1) % 4294967296))) else (if (x21 != x17) = true then (some false) else (amalgamlaw10_PickCover.l3 k x6 x8 x13 x15 ((x16 + 1) % 4294967296)))
end
def amalgamlaw10_PickCover.f (k : Nat) (l0 : List (List Int)) (a1 : Int) : Option (Bool) := (amalgamlaw10_lives.f k).bind fun t154 => (if (Int.tmod a1 11) < 0 then (amalgamlaw10_PickCover.j0 k l0 t154 (wrap64 (-(Int.tmod a1 11)))) else (amalgamlaw10_PickCover.j0 k l0 t154 (Int.tmod a1 11)))
theorem amalgamlaw10_PickCover.mono_l : ∀ k, (∀ y0 y1 y2, LeO (amalgamlaw10_PickCover.j0 k y0 y1 y2) (amalgamlaw10_PickCover.j0 (k + 1) y0 y1 y2)) ∧ (∀ y0 y1 y2 y3 y4 y5, LeO (amalgamlaw10_PickCover.l0 k y0 y1 y2 y3 y4 y5) (amalgamlaw10_PickCover.l0 (k + 1) y0 y1 y2 y3 y4 y5)) ∧ (∀ y0 y1 y2 y3 y4 y5 y6, LeO (amalgamlaw10_PickCover.j2 k y0 y1 y2 y3 y4 y5 y6) (amalgamlaw10_PickCover.j2 (k + 1) y0 y1 y2 y3 y4 y5 y6)) ∧ (∀ y0 y1 y2 y3 y4 y5 y6 y7, LeO (amalgamlaw10_PickCover.l1 k y0 y1 y2 y3 y4 y5 y6 y7) (amalgamlaw10_PickCover.l1 (k + 1) y0 y1 y2 y3 y4 y5 y6 y7)) ∧ (∀ y0 y1 y2 y3 y4, LeO (amalgamlaw10_PickCover.l2 k y0 y1 y2 y3 y4) (amalgamlaw10_PickCover.l2 (k + 1) y0 y1 y2 y3 y4)) ∧ (∀ y0 y1 y2 y3, LeO (amalgamlaw10_PickCover.j5 k y0 y1 y2 y3) (amalgamlaw10_PickCover.j5 (k + 1) y0 y1 y2 y3)) ∧ (∀ y0 y1 y2 y3 y4, LeO (amalgamlaw10_PickCover.l3 k y0 y1 y2 y3 y4) (amalgamlaw10_PickCover.l3 (k + 1) y0 y1 y2 y3 y4)) ∧ (∀ y0 y1 y2 y3 y4 y5 y6, LeO (amalgamlaw10_PickCover.l4 k y0 y1 y2 y3 y4 y5 y6) (amalgamlaw10_PickCover.l4 (k + 1) y0 y1 y2 y3 y4 y5 y6)) ∧ (∀ y0 y1 y2 y3 y4 y5 y6 y7 y8, LeO (amalgamlaw10_PickCover.l5 k y0 y1 y2 y3 y4 y5 y6 y7 y8) (amalgamlaw10_PickCover.l5 (k + 1) y0 y1 y2 y3 y4 y5 y6 y7 y8)) ∧ (∀ y0 y1 y2 y3 y4 y5 y6, LeO (amalgamlaw10_PickCover.j9 k y0 y1 y2 y3 y4 y5 y6) (amalgamlaw10_PickCover.j9 (k + 1) y0 y1 y2 y3 y4 y5 y6))
  | 0 => ⟨fun _ _ _ r h => by simp [amalgamlaw10_PickCover.j0] at h, fun _ _ _ _ _ _ r h => by simp [amalgamlaw10_PickCover.l0] at h, fun _ _ _ _ _ _ _ r h => by simp [amalgamlaw10_PickCover.j2] at h, fun _ _ _ _ _ _ _ _ r h => by simp [amalgamlaw10_PickCover.l1] at h, fun _ _ _ _ _ r h => by simp [amalgamlaw10_PickCover.l2] at h, fun _ _ _ _ r h => by simp [amalgamlaw10_PickCover.j5] at h, fun _ _ _ _ _ r h => by simp [amalgamlaw10_PickCover.l3] at h, fun _ _ _ _ _ _ _ r h => by simp [amalgamlaw10_PickCover.l4] at h, fun _ _ _ _ _ _ _ _ _ r h => by simp [amalgamlaw10_PickCover.l5] at h, fun _ _ _ _ _ _ _ r h => by simp [amalgamlaw10_PickCover.j9] at h⟩
  | k + 1 => by
    obtain ⟨ih0, ih1, ih2, ih3, ih4, ih5, ih6, ih7, ih8, ih9⟩ := amalgamlaw10_PickCover.mono_l k
    refine ⟨?_, ?_, ?_, ?_, ?_, ?_, ?_, ?_, ?_, ?_⟩
    · intro y0 y1 y2
      unfold amalgamlaw10_PickCover.j0
      repeat' first
      | (with_reducible exact ih0 _ _ _)
      | (with_reducible exact ih1 _ _ _ _ _ _)
      | (with_reducible exact ih2 _ _ _ _ _ _ _)
      | (with_reducible exact ih3 _ _ _ _ _ _ _ _)
      | (with_reducible exact ih4 _ _ _ _ _)
      | (with_reducible exact ih5 _ _ _ _)
      | (with_reducible exact ih6 _ _ _ _ _)
      | (with_reducible exact ih7 _ _ _ _ _ _ _)
      | (with_reducible exact ih8 _ _ _ _ _ _ _ _ _)
      | (with_reducible exact ih9 _ _ _ _ _ _ _)
      | (with_reducible exact amalgamlaw10_lives.mono _)
      | (with_reducible exact pick_List.mono _ _ _ _)
      | (with_reducible exact LeO.refl _)
      | (with_reducible exact LeO.none _)
      | (with_reducible refine LeO.ite ?_ ?_)
      | (with_reducible refine LeO.bind ?_ (fun _ => ?_))
      | exact ih0 _ _ _
      | exact ih1 _ _ _ _ _ _
      | exact ih2 _ _ _ _ _ _ _
      | exact ih3 _ _ _ _ _ _ _ _
      | exact ih4 _ _ _ _ _
      | exact ih5 _ _ _ _
      | exact ih6 _ _ _ _ _
      | exact ih7 _ _ _ _ _ _ _
      | exact ih8 _ _ _ _ _ _ _ _ _
      | exact ih9 _ _ _ _ _ _ _
      | exact amalgamlaw10_lives.mono _
      | exact pick_List.mono _ _ _ _
      | exact LeO.none _
      | refine LeO.ite ?_ ?_
      | refine LeO.bind ?_ (fun _ => ?_)
    · intro y0 y1 y2 y3 y4 y5
      unfold amalgamlaw10_PickCover.l0
      repeat' first
      | (with_reducible exact ih0 _ _ _)
      | (with_reducible exact ih1 _ _ _ _ _ _)
      | (with_reducible exact ih2 _ _ _ _ _ _ _)
      | (with_reducible exact ih3 _ _ _ _ _ _ _ _)
      | (with_reducible exact ih4 _ _ _ _ _)
      | (with_reducible exact ih5 _ _ _ _)
      | (with_reducible exact ih6 _ _ _ _ _)
      | (with_reducible exact ih7 _ _ _ _ _ _ _)
      | (with_reducible exact ih8 _ _ _ _ _ _ _ _ _)
      | (with_reducible exact ih9 _ _ _ _ _ _ _)
      | (with_reducible exact amalgamlaw10_lives.mono _)
      | (with_reducible exact pick_List.mono _ _ _ _)
      | (with_reducible exact LeO.refl _)
      | (with_reducible exact LeO.none _)
      | (with_reducible refine LeO.ite ?_ ?_)
      | (with_reducible refine LeO.bind ?_ (fun _ => ?_))
      | exact ih0 _ _ _
      | exact ih1 _ _ _ _ _ _
      | exact ih2 _ _ _ _ _ _ _
      | exact ih3 _ _ _ _ _ _ _ _
      | exact ih4 _ _ _ _ _
      | exact ih5 _ _ _ _
      | exact ih6 _ _ _ _ _
      | exact ih7 _ _ _ _ _ _ _
      | exact ih8 _ _ _ _ _ _ _ _ _
      | exact ih9 _ _ _ _ _ _ _
      | exact amalgamlaw10_lives.mono _
      | exact pick_List.mono _ _ _ _
      | exact LeO.none _
      | refine LeO.ite ?_ ?_
      | refine LeO.bind ?_ (fun _ => ?_)
    · intro y0 y1 y2 y3 y4 y5 y6
      unfold amalgamlaw10_PickCover.j2
      repeat' first
      | (with_reducible exact ih0 _ _ _)
      | (with_reducible exact ih1 _ _ _ _ _ _)
      | (with_reducible exact ih2 _ _ _ _ _ _ _)
      | (with_reducible exact ih3 _ _ _ _ _ _ _ _)
      | (with_reducible exact ih4 _ _ _ _ _)
      | (with_reducible exact ih5 _ _ _ _)
      | (with_reducible exact ih6 _ _ _ _ _)
      | (with_reducible exact ih7 _ _ _ _ _ _ _)
      | (with_reducible exact ih8 _ _ _ _ _ _ _ _ _)
      | (with_reducible exact ih9 _ _ _ _ _ _ _)
      | (with_reducible exact amalgamlaw10_lives.mono _)
      | (with_reducible exact pick_List.mono _ _ _ _)
      | (with_reducible exact LeO.refl _)
      | (with_reducible exact LeO.none _)
      | (with_reducible refine LeO.ite ?_ ?_)
      | (with_reducible refine LeO.bind ?_ (fun _ => ?_))
      | exact ih0 _ _ _
      | exact ih1 _ _ _ _ _ _
      | exact ih2 _ _ _ _ _ _ _
      | exact ih3 _ _ _ _ _ _ _ _
      | exact ih4 _ _ _ _ _
      | exact ih5 _ _ _ _
      | exact ih6 _ _ _ _ _
      | exact ih7 _ _ _ _ _ _ _
      | exact ih8 _ _ _ _ _ _ _ _ _
      | exact ih9 _ _ _ _ _ _ _
      | exact amalgamlaw10_lives.mono _
      | exact pick_List.mono _ _ _ _
      | exact LeO.none _
      | refine LeO.ite ?_ ?_
      | refine LeO.bind ?_ (fun _ => ?_)
    · intro y0 y1 y2 y3 y4 y5 y6 y7
      unfold amalgamlaw10_PickCover.l1
      repeat' first
      | (with_reducible exact ih0 _ _ _)
      | (with_reducible exact ih1 _ _ _ _ _ _)
      | (with_reducible exact ih2 _ _ _ _ _ _ _)
      | (with_reducible exact ih3 _ _ _ _ _ _ _ _)
      | (with_reducible exact ih4 _ _ _ _ _)
      | (with_reducible exact ih5 _ _ _ _)
      | (with_reducible exact ih6 _ _ _ _ _)
      | (with_reducible exact ih7 _ _ _ _ _ _ _)
      | (with_reducible exact ih8 _ _ _ _ _ _ _ _ _)
      | (with_reducible exact ih9 _ _ _ _ _ _ _)
      | (with_reducible exact amalgamlaw10_lives.mono _)
      | (with_reducible exact pick_List.mono _ _ _ _)
      | (with_reducible exact LeO.refl _)
      | (with_reducible exact LeO.none _)
      | (with_reducible refine LeO.ite ?_ ?_)
      | (with_reducible refine LeO.bind ?_ (fun _ => ?_))
      | exact ih0 _ _ _
      | exact ih1 _ _ _ _ _ _
      | exact ih2 _ _ _ _ _ _ _
      | exact ih3 _ _ _ _ _ _ _ _
      | exact ih4 _ _ _ _ _
      | exact ih5 _ _ _ _
      | exact ih6 _ _ _ _ _
      | exact ih7 _ _ _ _ _ _ _
      | exact ih8 _ _ _ _ _ _ _ _ _
      | exact ih9 _ _ _ _ _ _ _
      | exact amalgamlaw10_lives.mono _
      | exact pick_List.mono _ _ _ _
      | exact LeO.none _
      | refine LeO.ite ?_ ?_
      | refine LeO.bind ?_ (fun _ => ?_)
    · intro y0 y1 y2 y3 y4
      unfold amalgamlaw10_PickCover.l2
      repeat' first
      | (with_reducible exact ih0 _ _ _)
      | (with_reducible exact ih1 _ _ _ _ _ _)
      | (with_reducible exact ih2 _ _ _ _ _ _ _)
      | (with_reducible exact ih3 _ _ _ _ _ _ _ _)
      | (with_reducible exact ih4 _ _ _ _ _)
      | (with_reducible exact ih5 _ _ _ _)
      | (with_reducible exact ih6 _ _ _ _ _)
      | (with_reducible exact ih7 _ _ _ _ _ _ _)
      | (with_reducible exact ih8 _ _ _ _ _ _ _ _ _)
      | (with_reducible exact ih9 _ _ _ _ _ _ _)
      | (with_reducible exact amalgamlaw10_lives.mono _)
      | (with_reducible exact pick_List.mono _ _ _ _)
      | (with_reducible exact LeO.refl _)
      | (with_reducible exact LeO.none _)
      | (with_reducible refine LeO.ite ?_ ?_)
      | (with_reducible refine LeO.bind ?_ (fun _ => ?_))
      | exact ih0 _ _ _
      | exact ih1 _ _ _ _ _ _
      | exact ih2 _ _ _ _ _ _ _
      | exact ih3 _ _ _ _ _ _ _ _
      | exact ih4 _ _ _ _ _
      | exact ih5 _ _ _ _
      | exact ih6 _ _ _ _ _
      | exact ih7 _ _ _ _ _ _ _
      | exact ih8 _ _ _ _ _ _ _ _ _
      | exact ih9 _ _ _ _ _ _ _
      | exact amalgamlaw10_lives.mono _
      | exact pick_List.mono _ _ _ _
      | exact LeO.none _
      | refine LeO.ite ?_ ?_
      | refine LeO.bind ?_ (fun _ => ?_)
    · intro y0 y1 y2 y3
      unfold amalgamlaw10_PickCover.j5
      repeat' first
      | (with_reducible exact ih0 _ _ _)
      | (with_reducible exact ih1 _ _ _ _ _ _)
      | (with_reducible exact ih2 _ _ _ _ _ _ _)
      | (with_reducible exact ih3 _ _ _ _ _ _ _ _)
      | (with_reducible exact ih4 _ _ _ _ _)
      | (with_reducible exact ih5 _ _ _ _)
      | (with_reducible exact ih6 _ _ _ _ _)
      | (with_reducible exact ih7 _ _ _ _ _ _ _)
      | (with_reducible exact ih8 _ _ _ _ _ _ _ _ _)
      | (with_reducible exact ih9 _ _ _ _ _ _ _)
      | (with_reducible exact amalgamlaw10_lives.mono _)
      | (with_reducible exact pick_List.mono _ _ _ _)
      | (with_reducible exact LeO.refl _)
      | (with_reducible exact LeO.none _)
      | (with_reducible refine LeO.ite ?_ ?_)
      | (with_reducible refine LeO.bind ?_ (fun _ => ?_))
      | exact ih0 _ _ _
      | exact ih1 _ _ _ _ _ _
      | exact ih2 _ _ _ _ _ _ _
      | exact ih3 _ _ _ _ _ _ _ _
      | exact ih4 _ _ _ _ _
      | exact ih5 _ _ _ _
      | exact ih6 _ _ _ _ _
      | exact ih7 _ _ _ _ _ _ _
      | exact ih8 _ _ _ _ _ _ _ _ _
      | exact ih9 _ _ _ _ _ _ _
      | exact amalgamlaw10_lives.mono _
      | exact pick_List.mono _ _ _ _
      | exact LeO.none _
      | refine LeO.ite ?_ ?_
      | refine LeO.bind ?_ (fun _ => ?_)
    · intro y0 y1 y2 y3 y4
      unfold amalgamlaw10_PickCover.l3
      repeat' first
      | (with_reducible exact ih0 _ _ _)
      | (with_reducible exact ih1 _ _ _ _ _ _)
      | (with_reducible exact ih2 _ _ _ _ _ _ _)
      | (with_reducible exact ih3 _ _ _ _ _ _ _ _)
      | (with_reducible exact ih4 _ _ _ _ _)
      | (with_reducible exact ih5 _ _ _ _)
      | (with_reducible exact ih6 _ _ _ _ _)
      | (with_reducible exact ih7 _ _ _ _ _ _ _)
      | (with_reducible exact ih8 _ _ _ _ _ _ _ _ _)
      | (with_reducible exact ih9 _ _ _ _ _ _ _)
      | (with_reducible exact amalgamlaw10_lives.mono _)
      | (with_reducible exact pick_List.mono _ _ _ _)
      | (with_reducible exact LeO.refl _)
      | (with_reducible exact LeO.none _)
      | (with_reducible refine LeO.ite ?_ ?_)
      | (with_reducible refine LeO.bind ?_ (fun _ => ?_))
      | exact ih0 _ _ _
      | exact ih1 _ _ _ _ _ _
      | exact ih2 _ _ _ _ _ _ _
      | exact ih3 _ _ _ _ _ _ _ _
      | exact ih4 _ _ _ _ _
      | exact ih5 _ _ _ _
      | exact ih6 _ _ _ _ _
      | exact ih7 _ _ _ _ _ _ _
      | exact ih8 _ _ _ _ _ _ _ _ _
      | exact ih9 _ _ _ _ _ _ _
      | exact amalgamlaw10_lives.mono _
      | exact pick_List.mono _ _ _ _
      | exact LeO.none _
      | refine LeO.ite ?_ ?_
      | refine LeO.bind ?_ (fun _ => ?_)
    · intro y0 y1 y2 y3 y4 y5 y6
      unfold amalgamlaw10_PickCover.l4
      repeat' first
      | (with_reducible exact ih0 _ _ _)
      | (with_reducible exact ih1 _ _ _ _ _ _)
      | (with_reducible exact ih2 _ _ _ _ _ _ _)
      | (with_reducible exact ih3 _ _ _ _ _ _ _ _)
      | (with_reducible exact ih4 _ _ _ _ _)
      | (with_reducible exact ih5 _ _ _ _)
      | (with_reducible exact ih6 _ _ _ _ _)
      | (with_reducible exact ih7 _ _ _ _ _ _ _)
      | (with_reducible exact ih8 _ _ _ _ _ _ _ _ _)
      | (with_reducible exact ih9 _ _ _ _ _ _ _)
      | (with_reducible exact amalgamlaw10_lives.mono _)
      | (with_reducible exact pick_List.mono _ _ _ _)
      | (with_reducible exact LeO.refl _)
      | (with_reducible exact LeO.none _)
      | (with_reducible refine LeO.ite ?_ ?_)
      | (with_reducible refine LeO.bind ?_ (fun _ => ?_))
      | exact ih0 _ _ _
      | exact ih1 _ _ _ _ _ _
      | exact ih2 _ _ _ _ _ _ _
      | exact ih3 _ _ _ _ _ _ _ _
      | exact ih4 _ _ _ _ _
      | exact ih5 _ _ _ _
      | exact ih6 _ _ _ _ _
      | exact ih7 _ _ _ _ _ _ _
      | exact ih8 _ _ _ _ _ _ _ _ _
      | exact ih9 _ _ _ _ _ _ _
      | exact amalgamlaw10_lives.mono _
      | exact pick_List.mono _ _ _ _
      | exact LeO.none _
      | refine LeO.ite ?_ ?_
      | refine LeO.bind ?_ (fun _ => ?_)
    · intro y0 y1 y2 y3 y4 y5 y6 y7 y8
      unfold amalgamlaw10_PickCover.l5
      repeat' first
      | (with_reducible exact ih0 _ _ _)
      | (with_reducible exact ih1 _ _ _ _ _ _)
      | (with_reducible exact ih2 _ _ _ _ _ _ _)
      | (with_reducible exact ih3 _ _ _ _ _ _ _ _)
      | (with_reducible exact ih4 _ _ _ _ _)
      | (with_reducible exact ih5 _ _ _ _)
      | (with_reducible exact ih6 _ _ _ _ _)
      | (with_reducible exact ih7 _ _ _ _ _ _ _)
      | (with_reducible exact ih8 _ _ _ _ _ _ _ _ _)
      | (with_reducible exact ih9 _ _ _ _ _ _ _)
      | (with_reducible exact amalgamlaw10_lives.mono _)
      | (with_reducible exact pick_List.mono _ _ _ _)
      | (with_reducible exact LeO.refl _)
      | (with_reducible exact LeO.none _)
      | (with_reducible refine LeO.ite ?_ ?_)
      | (with_reducible refine LeO.bind ?_ (fun _ => ?_))
      | exact ih0 _ _ _
      | exact ih1 _ _ _ _ _ _
      | exact ih2 _ _ _ _ _ _ _
      | exact ih3 _ _ _ _ _ _ _ _
      | exact ih4 _ _ _ _ _
      | exact ih5 _ _ _ _
      | exact ih6 _ _ _ _ _
      | exact ih7 _ _ _ _ _ _ _
      | exact ih8 _ _ _ _ _ _ _ _ _
      | exact ih9 _ _ _ _ _ _ _
      | exact amalgamlaw10_lives.mono _
      | exact pick_List.mono _ _ _ _
      | exact LeO.none _
      | refine LeO.ite ?_ ?_
      | refine LeO.bind ?_ (fun _ => ?_)
    · intro y0 y1 y2 y3 y4 y5 y6
      unfold amalgamlaw10_PickCover.j9
      repeat' first
      | (with_reducible exact ih0 _ _ _)
      | (with_reducible exact ih1 _ _ _ _ _ _)
      | (with_reducible exact ih2 _ _ _ _ _ _ _)
      | (with_reducible exact ih3 _ _ _ _ _ _ _ _)
      | (with_reducible exact ih4 _ _ _ _ _)
      | (with_reducible exact ih5 _ _ _ _)
      | (with_reducible exact ih6 _ _ _ _ _)
      | (with_reducible exact ih7 _ _ _ _ _ _ _)
      | (with_reducible exact ih8 _ _ _ _ _ _ _ _ _)
      | (with_reducible exact ih9 _ _ _ _ _ _ _)
      | (with_reducible exact amalgamlaw10_lives.mono _)
      | (with_reducible exact pick_List.mono _ _ _ _)
      | (with_reducible exact LeO.refl _)
      | (with_reducible exact LeO.none _)
      | (with_reducible refine LeO.ite ?_ ?_)
      | (with_reducible refine LeO.bind ?_ (fun _ => ?_))
      | exact ih0 _ _ _
      | exact ih1 _ _ _ _ _ _
      | exact ih2 _ _ _ _ _ _ _
      | exact ih3 _ _ _ _ _ _ _ _
      | exact ih4 _ _ _ _ _
      | exact ih5 _ _ _ _
      | exact ih6 _ _ _ _ _
      | exact ih7 _ _ _ _ _ _ _
      | exact ih8 _ _ _ _ _ _ _ _ _
      | exact ih9 _ _ _ _ _ _ _
      | exact amalgamlaw10_lives.mono _
      | exact pick_List.mono _ _ _ _
      | exact LeO.none _
      | refine LeO.ite ?_ ?_
      | refine LeO.bind ?_ (fun _ => ?_)
theorem amalgamlaw10_PickCover.mono : ∀ a0 a1 k, LeO (amalgamlaw10_PickCover.f k a0 a1) (amalgamlaw10_PickCover.f (k + 1) a0 a1) := by
  intro a0 a1 k
  obtain ⟨ih0, ih1, ih2, ih3, ih4, ih5, ih6, ih7, ih8, ih9⟩ := amalgamlaw10_PickCover.mono_l k
  unfold amalgamlaw10_PickCover.f
  repeat' first
      | (with_reducible exact ih0 _ _ _)
      | (with_reducible exact ih1 _ _ _ _ _ _)
      | (with_reducible exact ih2 _ _ _ _ _ _ _)
      | (with_reducible exact ih3 _ _ _ _ _ _ _ _)
      | (with_reducible exact ih4 _ _ _ _ _)
      | (with_reducible exact ih5 _ _ _ _)
      | (with_reducible exact ih6 _ _ _ _ _)
      | (with_reducible exact ih7 _ _ _ _ _ _ _)
      | (with_reducible exact ih8 _ _ _ _ _ _ _ _ _)
      | (with_reducible exact ih9 _ _ _ _ _ _ _)
      | (with_reducible exact amalgamlaw10_lives.mono _)
      | (with_reducible exact pick_List.mono _ _ _ _)
      | (with_reducible exact LeO.refl _)
      | (with_reducible exact LeO.none _)
      | (with_reducible refine LeO.ite ?_ ?_)
      | (with_reducible refine LeO.bind ?_ (fun _ => ?_))
      | exact ih0 _ _ _
      | exact ih1 _ _ _ _ _ _
      | exact ih2 _ _ _ _ _ _ _
      | exact ih3 _ _ _ _ _ _ _ _
      | exact ih4 _ _ _ _ _
      | exact ih5 _ _ _ _
      | exact ih6 _ _ _ _ _
      | exact ih7 _ _ _ _ _ _ _
      | exact ih8 _ _ _ _ _ _ _ _ _
      | exact ih9 _ _ _ _ _ _ _
      | exact amalgamlaw10_lives.mono _
      | exact pick_List.mono _ _ _ _
      | exact LeO.none _
      | refine LeO.ite ?_ ?_
      | refine LeO.bind ?_ (fun _ => ?_)
set_option maxHeartbeats 8000000 in
set_option maxRecDepth 100000 in
theorem amalgamlaw10_PickCover.calls (k : Nat) (A0 : Option Addr) (c0 : Nat) (l0 : List (List Int)) (a1 : Int) (r : Bool) (w : World) (hr0 : Kd.C (Kd.slice 3 (Kd.int .i64)) w A0 l0.length l0) (hc0 : l0.length ≤ c0) (h : amalgamlaw10_PickCover.f k l0 a1 = some r) (hT : Go.Proofs.YtbdlihldmmbdmaaDoor.Bits.TabW w) :
    Calls Tryd.prog 4 #[.slice A0 l0.length c0, .int .i64 a1] w fun e w' => e = .returned (.bool r) ∧ Below w.heap.size w w' := by
  have HLT := Aside0.mk hT
  clear hT
  have HR0 := Aside0.mk hr0
  have HC0 := Aside0.mk hc0
  clear hr0 hc0
  have HB := Aside0.mk (Below.refl w.heap.size w)
  have H : ((amalgamlaw10_lives.f k).bind fun t154 => (if (Int.tmod a1 11) < 0 then (amalgamlaw10_PickCover.j0 k l0 t154 (wrap64 (-(Int.tmod a1 11)))) else (amalgamlaw10_PickCover.j0 k l0 t154 (Int.tmod a1 11)))) = some r := h
  clear h
  replace H := Option.bind_eq_some_iff.mp H
  obtain ⟨t154, A30, H⟩ := H
  replace H : (if (Int.tmod a1 11) < 0 then (amalgamlaw10_PickCover.j0 k l0 t154 (wrap64 (-(Int.tmod a1 11)))) else (amalgamlaw10_PickCover.j0 k l0 t154 (Int.tmod a1 11))) = some r := H
  have A3 := Aside0.mk A30
  clear A30
  have HC4 := Aside0.mk H
  clear H
  go_enter Tryd.func4, Tryd.ntmps4
  go_upto_if 26 with (first | ((with_reducible refine gate_callee (f := 8) rfl ?_); refine goesL_ (some 22) rfl rfl Tryd.func8 (by kernel_rfl) rfl #[] rfl (by (try simp only [List.map_toArray, List.map_cons, List.map_nil]); first | done | rfl | (simp only [List.length_drop, List.length_take]; rfl)) ?_; (with_reducible refine (amalgamlaw10_lives.calls k  t154 _ A3.out ?laid).mono ?_); (case laid => first | exact HLT.out | (repeat (first | exact HLT.out | apply Go.Proofs.YtbdlihldmmbdmaaDoor.Bits.TabW.alloc | apply Go.Proofs.YtbdlihldmmbdmaaDoor.Bits.TabW.drewN | exact Go.Proofs.YtbdlihldmmbdmaaDoor.Bits.TabW.below HLT.out HB.out))); rintro e w5 ⟨rfl, hb⟩; refine ⟨_, rfl, ?_⟩; have n0_ := Aside0.mk (below_step (by repeat (first | (with_reducible first | exact HB.out | apply below_alloc | apply pw_below_drewN | apply below_drew1) | exact HB.out)) hb); clear HB; have HB := n0_; clear n0_; (try clear hb); (try clear hb2); (try clear hk); (try clear hi)))
  (try simp only [Act.put, List.setIfInBounds_toArray, List.set_cons_zero, List.set_cons_succ])
  go_cut [6] (fun v6 wc => ∃ (kq : Nat) (x6_3 : Int), v6 = .int .i64 x6_3 ∧ Aside0 (amalgamlaw10_PickCover.j0 kq l0 t154 x6_3 = some r) ∧ Aside0 (kq ≤ k) ∧ Aside0 (Below w.heap.size w wc))
  case first =>
    have H := HC4.out
    clear HC4
    by_cases c6 : (Int.tmod a1 11) < 0
    · rw [if_pos c6] at H
      have c6b0 : decide ((Int.tmod a1 11) < 0) = true := decide_eq_true c6
      clear c6
      (first | rw [c6b0] | (simp only [i64_w, i32_w]; rw [c6b0]) | skip)
      have H' := Aside0.mk H
      clear H
      go_wp2
      go_meet
      case rel => exact ⟨_, (wrap64 (-(Int.tmod a1 11))), (by first | rfl | (simp; done) | (simp [*]; done)), H', ⟨by first | omega | exact Nat.le_refl _⟩, ⟨by repeat (first | (with_reducible first | exact HB.out | apply below_alloc | apply pw_below_drewN | apply below_drew1) | exact HB.out)⟩⟩
    · rw [if_neg c6] at H
      have c6b0 : decide ((Int.tmod a1 11) < 0) = false := decide_eq_false c6
      clear c6
      (first | rw [c6b0] | (simp only [i64_w, i32_w]; rw [c6b0]) | skip)
      have H' := Aside0.mk H
      clear H
      go_wp2
      go_meet
      case rel => exact ⟨_, (Int.tmod a1 11), (by first | rfl | (simp; done) | (simp [*]; done)), H', ⟨by first | omega | exact Nat.le_refl _⟩, ⟨by repeat (first | (with_reducible first | exact HB.out | apply below_alloc | apply pw_below_drewN | apply below_drew1) | exact HB.out)⟩⟩
  case rest =>
    clear HC4
    try clear p2
    try clear c4
    try clear c6
    try clear c6b0
    try clear p6
    obtain ⟨kq, x6_3, rfl, HA, HJ3, HB⟩ := hcut
    cases kq with
    | zero => exact absurd HA.out (by simp [amalgamlaw10_PickCover.j0])
    | succ kj3 =>
      have H := HA.out
      clear HA
      simp only [amalgamlaw10_PickCover.j0] at H
      by_cases c7 : 0 ≤ x6_3
      · rw [if_pos c7] at H
        have c7b0 := eq_true c7
        have c7b1 : decide (0 ≤ x6_3) = true := decide_eq_true c7
        clear c7
        by_cases c8 : (x6_3 : Int).toNat ≤ 35184372088832
        · rw [if_pos c8] at H
          have c8b0 := eq_true c8
          have c8b1 : decide ((x6_3 : Int).toNat ≤ 35184372088832) = true := decide_eq_true c8
          clear c8
          obtain ⟨y155, hy155⟩ : ∃ y_ : List Int, y_ = (List.replicate (x6_3 : Int).toNat 0) := ⟨_, rfl⟩
          replace H : (amalgamlaw10_PickCover.l0 kj3 l0 t154 x6_3 y155 ([] : List (List Int)) 0) = some r := by first | (rw [hy155]; with_reducible exact H) | (have H2_ := (Option.bind_some _ _).symm.trans H; rw [hy155]; with_reducible exact H2_) | (have H2_ := (Option.bind_some _ _).symm.trans H; with_reducible exact H2_) | with_reducible exact H | (rw [hy155]; exact H) | exact H
          have Ny155 := Aside0.mk hy155
          clear hy155
          have H' := Aside0.mk H
          clear H
          go_wp2_with (first | ((with_reducible refine gate_dst (N := 30) rfl ?_); (try (refine gate_guard (by rfl) ?_; dsimp only)); refine Kd.R_make (Kd.int .i64) _ 3 rfl (N := 30) rfl 23 _ _ rfl x6_3 rfl rfl Tryd.underlying23 (.int .i64 0) 8 info3 rfl (by decide) (by omega) 0 (ok := fun _ => True) (okp := fun _ => True) rfl (fun _ hk => hk) trivial (of_decide_eq_true (by first | (with_reducible assumption) | assumption)) (Nat.le_trans (Nat.mul_le_mul_right _ (of_decide_eq_true (by first | (with_reducible assumption) | assumption) : x6_3.toNat ≤ 35184372088832)) (by omega)) (Below.refl _ _) (Nat.le_refl _) ?_; intro v156 w9 ho10 hb hg_ hnew_; clear hg_ hnew_; (first | rw [← Ny155.out] at ho10 | (simp only [Int.reduceToNat] at ho10; rw [← Ny155.out] at ho10)); have n0_ := Aside0.mk (Kd.R_lower ho10 (below_size (by repeat (first | (with_reducible first | exact HB.out | apply below_alloc | apply pw_below_drewN | apply below_drew1) | exact HB.out)))); have n1_ := Aside0.mk (below_step (by repeat (first | (with_reducible first | exact HB.out | apply below_alloc | apply pw_below_drewN | apply below_drew1) | exact HB.out)) hb); clear HB; have HO157 := n0_; have HB := n1_; clear n0_ n1_; clear hb ho10))
          go_loopg [8, 9] kj3 (fun kq v8 v9 w' => ∃ (x7_2 : List Int) (x8_2 : List (List Int)) (x9_2 : Int), v9 = .int .i64 x9_2 ∧ Aside0 (amalgamlaw10_PickCover.l0 kq l0 t154 x6_3 x7_2 x8_2 x9_2 = some r) ∧ Aside0 (kq ≤ kj3) ∧ Aside0 (Kd.R (Kd.int .i64) 3 w' w.heap.size (fun _ => True) v156 x7_2) ∧ Aside0 (Kd.S (Kd.slice 3 (Kd.int .i64)) 23 w' w.heap.size (fun k_ => some k_ ≠ (v156 : Value).ownBlock) v8 x8_2) ∧ Aside0 (Below w.heap.size w w'))
          case atStart => exact ⟨(y155), (([] : List (List Int))), (0), (by first | rfl | (simp; done) | (simp [*]; done)), H', ⟨Nat.le_refl _⟩, ⟨by (with_reducible repeat (first | apply Kd.R_alloc | apply Kd.R_drewN | apply Kd.R_drew)); exact HO157.out⟩, ⟨by first | exact Kd.S_nil _ _ _ _ _ | exact Kd.N_nil _ _ _ _ _ | exact Kd.V_nil _ _ _ _ _ | exact Kd.Q_nil _ _ _ _ _ | exact Kd.R_nil _ _ _ _ _⟩, ⟨by repeat (first | (with_reducible first | exact HB.out | apply below_alloc | apply pw_below_drewN | apply below_drew1) | exact HB.out)⟩⟩
          case round =>
            clear H'
            try clear p2
            try clear c4
            try clear c6
            try clear c6b0
            try clear p6
            try clear c7
            try clear c7b0
            try clear c7b1
            try clear c8
            try clear c8b0
            try clear c8b1
            try clear p2
            try clear p6
            obtain ⟨x7_2, x8_2, x9_2, rfl, HA, HK2, HO_7, HO_8, HB⟩ := hrel
            cases gk with
            | zero => exact absurd HA.out (by simp [amalgamlaw10_PickCover.l0])
            | succ k2 =>
              have H := HA.out
              clear HA
              simp only [amalgamlaw10_PickCover.l0] at H
              have HC11 := Aside0.mk H
              clear H
              go_upto_region 8 with (fail)
              go_cut [38] (fun v38 wc => ∃ (kq : Nat) (x38_10 : Bool), v38 = .bool x38_10 ∧ Aside0 (amalgamlaw10_PickCover.j2 kq l0 t154 x6_3 x7_2 x8_2 x9_2 x38_10 = some r) ∧ Aside0 (kq ≤ k2) ∧ Aside0 (Kd.R (Kd.int .i64) 3 wc w.heap.size (fun _ => True) v156 x7_2) ∧ Aside0 (Kd.S (Kd.slice 3 (Kd.int .i64)) 23 wc w.heap.size (fun k_ => some k_ ≠ (v156 : Value).ownBlock) u8 x8_2) ∧ Aside0 (Below w.heap.size w wc))
              case first =>
                have H := HC11.out
                clear HC11
                by_cases c12 : x9_2 < (l0.length : Int)
                · rw [if_pos c12] at H
                  have c12b0 : decide (x9_2 < (l0.length : Int)) = true := decide_eq_true c12
                  clear c12
                  (first | rw [c12b0] | (simp only [i64_w, i32_w]; rw [c12b0]) | skip)
                  have H' := Aside0.mk H
                  clear H
                  go_wp2
                  go_meet
                  case rel => exact ⟨_, (decide (x9_2 < 8)), (by first | rfl | (simp; done) | (simp [*]; done)), H', ⟨by have := HJ3.out; have := HK2.out; first | omega | exact Nat.le_refl _⟩, ⟨by (with_reducible repeat (first | apply Kd.R_alloc | apply Kd.R_drewN | apply Kd.R_drew)); exact HO_7.out⟩, ⟨by (with_reducible repeat (first | apply Kd.S_alloc | apply Kd.S_drewN | apply Kd.S_drew)); exact HO_8.out⟩, ⟨by repeat (first | (with_reducible first | exact HB.out | apply below_alloc | apply pw_below_drewN | apply below_drew1) | exact HB.out)⟩⟩
                · rw [if_neg c12] at H
                  have c12b0 : decide (x9_2 < (l0.length : Int)) = false := decide_eq_false c12
                  clear c12
                  (first | rw [c12b0] | (simp only [i64_w, i32_w]; rw [c12b0]) | skip)
                  have H' := Aside0.mk H
                  clear H
                  go_wp2
                  go_meet
                  case rel => exact ⟨_, (false), (by first | rfl | (simp; done) | (simp [*]; done)), H', ⟨by have := HJ3.out; have := HK2.out; first | omega | exact Nat.le_refl _⟩, ⟨by (with_reducible repeat (first | apply Kd.R_alloc | apply Kd.R_drewN | apply Kd.R_drew)); exact HO_7.out⟩, ⟨by (with_reducible repeat (first | apply Kd.S_alloc | apply Kd.S_drewN | apply Kd.S_drew)); exact HO_8.out⟩, ⟨by repeat (first | (with_reducible first | exact HB.out | apply below_alloc | apply pw_below_drewN | apply below_drew1) | exact HB.out)⟩⟩
              case rest =>
                clear HC11
                try clear c1
                try clear p2
                try clear c4
                try clear c6
                try clear c6b0
                try clear p6
                try clear c7
                try clear c7b0
                try clear c7b1
                try clear c8
                try clear c8b0
                try clear c8b1
                try clear c12
                try clear c12b0
                try clear p2
                try clear p6
                obtain ⟨kq, x38_10, rfl, HA, HJ10, HO_7, HO_8, HB⟩ := hcut
                cases kq with
                | zero => exact absurd HA.out (by simp [amalgamlaw10_PickCover.j2])
                | succ kj10 =>
                  have H := HA.out
                  clear HA
                  simp only [amalgamlaw10_PickCover.j2] at H
                  by_cases c13 : x38_10 = true
                  · subst c13
                    have H1 : (if 0 ≤ x6_3 then (if (x6_3 : Int).toNat ≤ 35184372088832 then (amalgamlaw10_PickCover.l1 kj10 l0 t154 x6_3 x7_2 x8_2 x9_2 (List.replicate (x6_3 : Int).toNat 0) 0) else (none)) else (none)) = some r := by rw [if_pos rfl] at H; exact H
                    clear H
                    have H := H1
                    clear H1
                    by_cases c14 : 0 ≤ x6_3
                    · rw [if_pos c14] at H
                      have c14b0 := eq_true c14
                      have c14b1 : decide (0 ≤ x6_3) = true := decide_eq_true c14
                      clear c14
                      by_cases c15 : (x6_3 : Int).toNat ≤ 35184372088832
                      · rw [if_pos c15] at H
                        have c15b0 := eq_true c15
                        have c15b1 : decide ((x6_3 : Int).toNat ≤ 35184372088832) = true := decide_eq_true c15
                        clear c15
                        obtain ⟨y158, hy158⟩ : ∃ y_ : List Int, y_ = (List.replicate (x6_3 : Int).toNat 0) := ⟨_, rfl⟩
                        replace H : (amalgamlaw10_PickCover.l1 kj10 l0 t154 x6_3 x7_2 x8_2 x9_2 y158 0) = some r := by first | (rw [hy158]; with_reducible exact H) | (have H2_ := (Option.bind_some _ _).symm.trans H; rw [hy158]; with_reducible exact H2_) | (have H2_ := (Option.bind_some _ _).symm.trans H; with_reducible exact H2_) | with_reducible exact H | (rw [hy158]; exact H) | exact H
                        have Ny158 := Aside0.mk hy158
                        clear hy158
                        have H' := Aside0.mk H
                        clear H
                        go_wp2_with (first | ((with_reducible refine gate_dst (N := 42) rfl ?_); (try (refine gate_guard (by rfl) ?_; dsimp only)); refine Kd.R_make (Kd.int .i64) _ 3 rfl (N := 42) rfl 23 _ _ rfl x6_3 rfl rfl Tryd.underlying23 (.int .i64 0) 8 info3 rfl (by decide) (by omega) 0 (ok := fun _ => True) (okp := fun _ => True) rfl (fun _ hk => hk) trivial (of_decide_eq_true (by first | (with_reducible assumption) | assumption)) (Nat.le_trans (Nat.mul_le_mul_right _ (of_decide_eq_true (by first | (with_reducible assumption) | assumption) : x6_3.toNat ≤ 35184372088832)) (by omega)) (Below.refl _ _) (Nat.le_refl _) ?_; intro v159 w16 ho17 hb hg_ hnew_; clear hg_ hnew_; (first | rw [← Ny158.out] at ho17 | (simp only [Int.reduceToNat] at ho17; rw [← Ny158.out] at ho17)); have n0_ := Aside0.mk (Kd.R_elder' (by (with_reducible repeat (first | apply Kd.R_alloc | apply Kd.R_drewN | apply Kd.R_drew)); exact HO_7.out) (Kd.R_base ho17) hb); have n1_ := Aside0.mk (Kd.S_elder' (by (with_reducible repeat (first | apply Kd.S_alloc | apply Kd.S_drewN | apply Kd.S_drew)); exact HO_8.out) (Kd.R_base ho17) hb); have n2_ := Aside0.mk (Kd.R_lower (Kd.R_new' ho17 (Kd.R_lt (by (with_reducible repeat (first | apply Kd.R_alloc | apply Kd.R_drewN | apply Kd.R_drew)); exact HO_7.out))) (below_size (by repeat (first | (with_reducible first | exact HB.out | apply below_alloc | apply pw_below_drewN | apply below_drew1) | exact HB.out)))); have n3_ := Aside0.mk (below_step (by repeat (first | (with_reducible first | exact HB.out | apply below_alloc | apply pw_below_drewN | apply below_drew1) | exact HB.out)) hb); clear HO_7; clear HO_8; clear HB; have HO_7 := n0_; have HO_8 := n1_; have HO160 := n2_; have HB := n3_; clear n0_ n1_ n2_ n3_; clear hb ho17))
                        go_loopg [11] kj10 (fun kq v11 w' => ∃ (x10_4 : List Int) (x11_4 : Int), v11 = .int .i64 x11_4 ∧ Aside0 (amalgamlaw10_PickCover.l1 kq l0 t154 x6_3 x7_2 x8_2 x9_2 x10_4 x11_4 = some r) ∧ Aside0 (kq ≤ kj10) ∧ Aside0 (Kd.R (Kd.int .i64) 3 w' w.heap.size (fun k_ => some k_ ≠ (v159 : Value).ownBlock) v156 x7_2) ∧ Aside0 (Kd.S (Kd.slice 3 (Kd.int .i64)) 23 w' w.heap.size (fun k_ => some k_ ≠ (v156 : Value).ownBlock ∧ some k_ ≠ (v159 : Value).ownBlock) u8 x8_2) ∧ Aside0 (Kd.R (Kd.int .i64) 3 w' w.heap.size (fun k_ => some k_ ≠ (v156 : Value).ownBlock) v159 x10_4) ∧ Aside0 (Below w.heap.size w w'))
                        case atStart => exact ⟨(y158), (0), (by first | rfl | (simp; done) | (simp [*]; done)), H', ⟨Nat.le_refl _⟩, ⟨by (with_reducible repeat (first | apply Kd.R_alloc | apply Kd.R_drewN | apply Kd.R_drew)); exact Kd.R_mono HO_7.out (fun _ hk => hk.2)⟩, ⟨by (with_reducible repeat (first | apply Kd.S_alloc | apply Kd.S_drewN | apply Kd.S_drew)); exact HO_8.out⟩, ⟨by (with_reducible repeat (first | apply Kd.R_alloc | apply Kd.R_drewN | apply Kd.R_drew)); exact Kd.R_mono HO160.out (fun _ hk => hk.2)⟩, ⟨by repeat (first | (with_reducible first | exact HB.out | apply below_alloc | apply pw_below_drewN | apply below_drew1) | exact HB.out)⟩⟩
                        case round =>
                          clear H'
                          try clear c1
                          try clear p2
                          try clear c4
                          try clear c6
                          try clear c6b0
                          try clear p6
                          try clear c7
                          try clear c7b0
                          try clear c7b1
                          try clear c8
                          try clear c8b0
                          try clear c8b1
                          try clear c12
                          try clear c12b0
                          try clear c13
                          try clear c14
                          try clear c14b0
                          try clear c14b1
                          try clear c15
                          try clear c15b0
                          try clear c15b1
                          try clear p2
                          try clear p6
                          obtain ⟨x10_4, x11_4, rfl, HA, HK4, HO_7, HO_8, HO_10, HB⟩ := hrel
                          cases gk with
                          | zero => exact absurd HA.out (by simp [amalgamlaw10_PickCover.l1])
                          | succ k4 =>
                            have H := HA.out
                            clear HA
                            simp only [amalgamlaw10_PickCover.l1] at H
                            by_cases c18 : x11_4 < x6_3
                            · rw [if_pos c18] at H
                              have c18b0 : decide (x11_4 < x6_3) = true := decide_eq_true c18
                              clear c18
                              by_cases c19 : 0 ≤ x9_2
                              · rw [if_pos c19] at H
                                have c19b0 : decide (0 ≤ x9_2) = true := decide_eq_true c19
                                clear c19
                                by_cases c20 : x9_2 < (l0.length : Int)
                                · rw [if_pos c20] at H
                                  have c20b0 : decide (x9_2 < (l0.length : Int)) = true := decide_eq_true c20
                                  clear c20
                                  by_cases c21 : x11_4 < ((rd_L1 l0 x9_2).length : Int)
                                  · rw [if_pos c21] at H
                                    have c21b0 : decide (x11_4 < ((rd_L1 l0 x9_2).length : Int)) = true := decide_eq_true c21
                                    clear c21
                                    by_cases c22 : 0 ≤ x11_4
                                    · rw [if_pos c22] at H
                                      have c22b0 : decide (0 ≤ x11_4) = true := decide_eq_true c22
                                      clear c22
                                      by_cases c23 : x11_4 < (x10_4.length : Int)
                                      · rw [if_pos c23] at H
                                        have c23b0 : decide (x11_4 < (x10_4.length : Int)) = true := decide_eq_true c23
                                        clear c23
                                        obtain ⟨y164, hy164⟩ : ∃ y_ : List Int, y_ = (x10_4.set (x11_4 : Int).toNat (Go.bits .and .i64 (rd (rd_L1 l0 x9_2) x11_4) 1)) := ⟨_, rfl⟩
                                        replace H : (amalgamlaw10_PickCover.l1 k4 l0 t154 x6_3 x7_2 x8_2 x9_2 y164 (wrap64 (x11_4 + 1))) = some r := by first | (rw [hy164]; with_reducible exact H) | (have H2_ := (Option.bind_some _ _).symm.trans H; rw [hy164]; with_reducible exact H2_) | (have H2_ := (Option.bind_some _ _).symm.trans H; with_reducible exact H2_) | with_reducible exact H | (rw [hy164]; exact H) | exact H
                                        have Ny164 := Aside0.mk hy164
                                        clear hy164
                                        have H' := Aside0.mk H
                                        clear H
                                        have p161 : 0 ≤ (x9_2 : Int) := of_decide_eq_true (by first | (with_reducible assumption) | assumption)
                                        have q161 : x9_2 < (l0.length : Int) := of_decide_eq_true (by first | (with_reducible assumption) | assumption)
                                        obtain ⟨ad161, A161_0, c161_0, e161, hx161_0, hl161_0, hi161_0⟩ := at_L1 HR0.out x9_2 p161 q161
                                        cases e161
                                        replace hx161_0 := (HB.out.cell (World.block_lt_of_cell? w _ hx161_0)).trans hx161_0
                                        have HR161_0 := Aside0.mk hi161_0
                                        have HC161_0 := Aside0.mk hl161_0
                                        clear hi161_0 hl161_0
                                        replace p161 := eq_true p161
                                        replace q161 := eq_true q161
                                        have p162 : 0 ≤ (x9_2 : Int) := of_decide_eq_true (by first | (with_reducible assumption) | assumption)
                                        have q162 : x9_2 < (l0.length : Int) := of_decide_eq_true (by first | (with_reducible assumption) | assumption)
                                        obtain ⟨ad162, A162_0, c162_0, e162, hx162_0, hl162_0, hi162_0⟩ := at_L1 HR0.out x9_2 p162 q162
                                        obtain rfl : ad161 = ad162 := (by injection e162)
                                        replace hx162_0 := (HB.out.cell (World.block_lt_of_cell? w _ hx162_0)).trans hx162_0
                                        have HR162_0 := Aside0.mk hi162_0
                                        have HC162_0 := Aside0.mk hl162_0
                                        clear hi162_0 hl162_0
                                        replace p162 := eq_true p162
                                        replace q162 := eq_true q162
                                        have ea_ := Option.some.inj (hx161_0.symm.trans hx162_0)
                                        injection ea_ with ea_ en_ ec_
                                        subst ea_
                                        subst ec_
                                        clear en_
                                        have p163 : 0 ≤ (x11_4 : Int) := of_decide_eq_true (by first | (with_reducible assumption) | assumption)
                                        have q163 : x11_4 < ((rd_L1 l0 x9_2).length : Int) := of_decide_eq_true (by first | (with_reducible assumption) | assumption)
                                        obtain ⟨ad163, e163, hx163_0⟩ := Kd.at_int HR162_0.out x11_4 p163 q163
                                        cases e163
                                        replace hx163_0 := (HB.out.cell (World.block_lt_of_cell? w _ hx163_0)).trans hx163_0
                                        replace p163 := eq_true p163
                                        replace q163 := eq_true q163
                                        have p24 : 0 ≤ (x11_4 : Int) := of_decide_eq_true (by first | (with_reducible assumption) | assumption)
                                        have q24 : (x11_4 : Int) < ((x10_4.length : Int) : Int) := of_decide_eq_true (by first | (with_reducible assumption) | assumption)
                                        obtain ⟨go24, co24, eo24, gb24, gl24, cl24, HG24⟩ := Kd.R_form HO_10.out (by omega)
                                        (first | cases eo24 | (injection eo24 with ea_ en_ ec_; (first | subst ea_ | (injection ea_ with ea_; subst ea_)); subst ec_; clear en_))
                                        have GB24 := Aside0.mk gb24
                                        have GG24 := Aside0.mk HG24
                                        clear gb24 gl24 HG24
                                        obtain ⟨hx24_0, hf24_0⟩ := Kd.R_celln 0 HO_10.out (x11_4 : Int) p24 q24
                                        replace p24 := eq_true p24
                                        replace q24 := eq_true q24
                                        have HP25 := Kd.R_putg HO_10.out (x11_4 : Int) (Go.bits .and .i64 (rd (rd_L1 l0 x9_2) x11_4) 1)
                                        go_wp2_with (first | ((with_reducible refine gate_store (t := 3) (p := 67) rfl ?_); refine store_event (t := 3) (p := 67) (v := ?vo_w26) (w1 := (wr.setCell ⟨go24, (x11_4 : Int).toNat, none⟩ (.int .i64 (Go.bits .and .i64 (rd (rd_L1 l0 x9_2) x11_4) 1)))) ?hg ?ho ?hn ?hr ?_; (case ho => rfl); (case hg => rfl); (case hn => rfl); (case hr => first | (go_simp; done) | (go_simp; rfl)); intro w26 hw; have hg : wr.grownBy w26 (some go24) := (by rw [hw]; exact HP25.2); have hp_ : Kd.R (Kd.int .i64) 3 w26 w.heap.size (fun k_ => some k_ ≠ (v156 : Value).ownBlock) (.slice (some ⟨go24, 0, none⟩) x10_4.length co24) y164 := (by rw [hw, Ny164.out]; exact HP25.1); clear HP25; have n0_ := Aside0.mk (Kd.R_after (v := (.slice (some ⟨go24, 0, none⟩) x10_4.length co24)) (v1 := (.slice (some ⟨go24, 0, none⟩) x10_4.length co24)) (ok := (fun _ => True)) (by (with_reducible repeat (first | apply Kd.R_alloc | apply Kd.R_drewN | apply Kd.R_drew)); exact Kd.R_mono HO_7.out (fun _ hk => ⟨trivial, hk⟩)) hg (.inl rfl)); have n1_ := Aside0.mk (Kd.S_after (v := (.slice (some ⟨go24, 0, none⟩) x10_4.length co24)) (v1 := (.slice (some ⟨go24, 0, none⟩) x10_4.length co24)) (ok := (fun k_ => some k_ ≠ (v156 : Value).ownBlock)) (by (with_reducible repeat (first | apply Kd.S_alloc | apply Kd.S_drewN | apply Kd.S_drew)); exact HO_8.out) hg (.inl rfl)); have n2_ := Aside0.mk (hp_); have n3_ := Aside0.mk ((by rw [hw]; exact below_set (HB.out) GB24.out : Below w.heap.size w w26)); clear HO_7; clear HO_8; clear HO_10; clear HB; have HO_7 := n0_; have HO_8 := n1_; have HO_10 := n2_; have HB := n3_; clear n0_ n1_ n2_ n3_; clear hg hw hp_))
                                        go_roundg k4
                                        case measure => have := HJ3.out; have := HK2.out; have := HJ10.out; have := HK4.out; omega
                                        case rel => exact ⟨(y164), (wrap64 (x11_4 + 1)), (by first | rfl | (simp; done) | (simp [*]; done)), H', ⟨by have := HJ3.out; have := HK2.out; have := HJ10.out; have := HK4.out; omega⟩, ⟨by (with_reducible repeat (first | apply Kd.R_alloc | apply Kd.R_drewN | apply Kd.R_drew)); exact Kd.R_mono HO_7.out (fun _ hk => hk.2)⟩, ⟨by (with_reducible repeat (first | apply Kd.S_alloc | apply Kd.S_drewN | apply Kd.S_drew)); exact HO_8.out⟩, ⟨by (with_reducible repeat (first | apply Kd.R_alloc | apply Kd.R_drewN | apply Kd.R_drew)); exact HO_10.out⟩, ⟨by repeat (first | (with_reducible first | exact HB.out | apply below_alloc | apply pw_below_drewN | apply below_drew1) | exact HB.out)⟩⟩
                                      · rw [if_neg c23] at H
                                        exact absurd H (by simp)
                                    · rw [if_neg c22] at H
                                      exact absurd H (by simp)
                                  · rw [if_neg c21] at H
                                    have c21b0 : decide (x11_4 < ((rd_L1 l0 x9_2).length : Int)) = false := decide_eq_false c21
                                    clear c21
                                    by_cases c27 : x8_2.length < 5864062014805
                                    · rw [if_pos c27] at H
                                      have LMc27 := Aside0.mk c27
                                      clear c27
                                      obtain ⟨y165, hy165⟩ : ∃ y_ : List (List Int), y_ = (x8_2 ++ [x10_4]) := ⟨_, rfl⟩
                                      replace H : (amalgamlaw10_PickCover.l0 k4 l0 t154 x6_3 x7_2 y165 (wrap64 (x9_2 + 1))) = some r := by first | (rw [hy165]; with_reducible exact H) | (have H2_ := (Option.bind_some _ _).symm.trans H; rw [hy165]; with_reducible exact H2_) | (have H2_ := (Option.bind_some _ _).symm.trans H; with_reducible exact H2_) | with_reducible exact H | (rw [hy165]; exact H) | exact H
                                      have Ny165 := Aside0.mk hy165
                                      clear hy165
                                      have H' := Aside0.mk H
                                      clear H
                                      have p161 : 0 ≤ (x9_2 : Int) := of_decide_eq_true (by first | (with_reducible assumption) | assumption)
                                      have q161 : x9_2 < (l0.length : Int) := of_decide_eq_true (by first | (with_reducible assumption) | assumption)
                                      obtain ⟨ad161, A161_0, c161_0, e161, hx161_0, hl161_0, hi161_0⟩ := at_L1 HR0.out x9_2 p161 q161
                                      cases e161
                                      replace hx161_0 := (HB.out.cell (World.block_lt_of_cell? w _ hx161_0)).trans hx161_0
                                      have HR161_0 := Aside0.mk hi161_0
                                      have HC161_0 := Aside0.mk hl161_0
                                      clear hi161_0 hl161_0
                                      replace p161 := eq_true p161
                                      replace q161 := eq_true q161
                                      obtain ⟨Ao29, co29, eo29⟩ := Kd.R_slice HO_10.out
                                      subst eo29
                                      go_wp2_with (first | ((with_reducible refine gate_builtin (b := .append) (xs := #[.tmp 68, .tmp 70]) rfl ?_); (try (refine gate_guard (by rfl) ?_; dsimp only)); at_builtin; refine Kd.S_append (Kd.slice 3 (Kd.int .i64)) (w0 := w) w.heap.size rfl (.tmp 68) (.tmp 70) 22 23 (.slice none 0 0) 24 rfl Tryd.underlying22 info23 rfl (by decide) (by omega) u8 x8_2 x10_4 [.slice Ao29 x10_4.length co29] (fun k_ => some k_ ≠ (v156 : Value).ownBlock) (fun k_ => some k_ = (.slice Ao29 x10_4.length co29 : Value).ownBlock) rfl rfl ?aP (fun k_ hk_ => ((Kd.R_mono (ok' := fun k_ => ((fun k_ => some k_ ≠ (v156 : Value).ownBlock)) k_ ∧ some k_ ≠ (u8 : Value).ownBlock) (Kd.R_apart' (HO_10.out) (Kd.S_typed HO_8.out) (by decide)) (fun k_ hk => ⟨hk.1, hk.2⟩))).1 k_ hk_.symm) ?aF ?aO ?aB ?aS ?aL ?_; (case aP => exact Kd.M_row (Kd.R_mono (Kd.R_tight rfl (Kd.R_mono (ok' := fun k_ => ((fun k_ => some k_ ≠ (v156 : Value).ownBlock)) k_ ∧ some k_ ≠ (u8 : Value).ownBlock) (Kd.R_apart' (HO_10.out) (Kd.S_typed HO_8.out) (by decide)) (fun k_ hk => ⟨hk.1, hk.2⟩))) (fun _ h_ => h_))); (case aB => exact (by repeat (first | (with_reducible first | exact HB.out | apply below_alloc | apply pw_below_drewN | apply below_drew1) | exact HB.out))); (case aF => exact (fun k_ hk => Kd.fresh' (Kd.R_lt (by (with_reducible repeat (first | apply Kd.R_alloc | apply Kd.R_drewN | apply Kd.R_drew)); exact HO_7.out)) k_ hk)); (case aO => exact (by (with_reducible repeat (first | apply Kd.S_alloc | apply Kd.S_drewN | apply Kd.S_drew)); exact Kd.S_mono HO_8.out (fun k_ hk => ⟨hk.1, fun e_ => hk.2 e_⟩))); (case aS => exact (below_size (by repeat (first | (with_reducible first | exact HB.out | apply below_alloc | apply pw_below_drewN | apply below_drew1) | exact HB.out)))); (case aL => have := LMc27.out; omega); intro v166 w28 ho hb hg hat; rw [← Ny165.out] at ho; have n0_ := Aside0.mk (Kd.R_over' (by (with_reducible repeat (first | apply Kd.R_alloc | apply Kd.R_drewN | apply Kd.R_drew)); exact HO_7.out) (Kd.S_typed (by (with_reducible repeat (first | apply Kd.S_alloc | apply Kd.S_drewN | apply Kd.S_drew)); exact HO_8.out)) (by decide) hg); have n1_ := Aside0.mk (hb); have n2_ := Aside0.mk (ho); clear HO_7; clear HB; clear HO_8; clear HO_10; have HO_7 := n0_; have HB := n1_; have HO167 := n2_; clear n0_ n1_ n2_; clear ho hb hg hat))
                                      go_roundg k4
                                      case measure => have := HJ3.out; have := HK2.out; have := HJ10.out; have := HK4.out; omega
                                      case rel => exact ⟨(x7_2), (y165), (wrap64 (x9_2 + 1)), (by first | rfl | (simp; done) | (simp [*]; done)), H', ⟨by have := HJ3.out; have := HK2.out; have := HJ10.out; have := HK4.out; omega⟩, ⟨by (with_reducible repeat (first | apply Kd.R_alloc | apply Kd.R_drewN | apply Kd.R_drew)); exact Kd.R_mono HO_7.out (fun _ hk => trivial)⟩, ⟨by (with_reducible repeat (first | apply Kd.S_alloc | apply Kd.S_drewN | apply Kd.S_drew)); exact HO167.out⟩, ⟨by repeat (first | (with_reducible first | exact HB.out | apply below_alloc | apply pw_below_drewN | apply below_drew1) | exact HB.out)⟩⟩
                                    · rw [if_neg c27] at H
                                      exact absurd H (by simp)
                                · rw [if_neg c20] at H
                                  exact absurd H (by simp)
                              · rw [if_neg c19] at H
                                exact absurd H (by simp)
                            · rw [if_neg c18] at H
                              have c18b0 : decide (x11_4 < x6_3) = false := decide_eq_false c18
                              clear c18
                              by_cases c30 : x8_2.length < 5864062014805
                              · rw [if_pos c30] at H
                                have LMc30 := Aside0.mk c30
                                clear c30
                                obtain ⟨y168, hy168⟩ : ∃ y_ : List (List Int), y_ = (x8_2 ++ [x10_4]) := ⟨_, rfl⟩
                                replace H : (amalgamlaw10_PickCover.l0 k4 l0 t154 x6_3 x7_2 y168 (wrap64 (x9_2 + 1))) = some r := by first | (rw [hy168]; with_reducible exact H) | (have H2_ := (Option.bind_some _ _).symm.trans H; rw [hy168]; with_reducible exact H2_) | (have H2_ := (Option.bind_some _ _).symm.trans H; with_reducible exact H2_) | with_reducible exact H | (rw [hy168]; exact H) | exact H
                                have Ny168 := Aside0.mk hy168
                                clear hy168
                                have H' := Aside0.mk H
                                clear H
                                obtain ⟨Ao32, co32, eo32⟩ := Kd.R_slice HO_10.out
                                subst eo32
                                go_wp2_with (first | ((with_reducible refine gate_builtin (b := .append) (xs := #[.tmp 68, .tmp 70]) rfl ?_); (try (refine gate_guard (by rfl) ?_; dsimp only)); at_builtin; refine Kd.S_append (Kd.slice 3 (Kd.int .i64)) (w0 := w) w.heap.size rfl (.tmp 68) (.tmp 70) 22 23 (.slice none 0 0) 24 rfl Tryd.underlying22 info23 rfl (by decide) (by omega) u8 x8_2 x10_4 [.slice Ao32 x10_4.length co32] (fun k_ => some k_ ≠ (v156 : Value).ownBlock) (fun k_ => some k_ = (.slice Ao32 x10_4.length co32 : Value).ownBlock) rfl rfl ?aP (fun k_ hk_ => ((Kd.R_mono (ok' := fun k_ => ((fun k_ => some k_ ≠ (v156 : Value).ownBlock)) k_ ∧ some k_ ≠ (u8 : Value).ownBlock) (Kd.R_apart' (HO_10.out) (Kd.S_typed HO_8.out) (by decide)) (fun k_ hk => ⟨hk.1, hk.2⟩))).1 k_ hk_.symm) ?aF ?aO ?aB ?aS ?aL ?_; (case aP => exact Kd.M_row (Kd.R_mono (Kd.R_tight rfl (Kd.R_mono (ok' := fun k_ => ((fun k_ => some k_ ≠ (v156 : Value).ownBlock)) k_ ∧ some k_ ≠ (u8 : Value).ownBlock) (Kd.R_apart' (HO_10.out) (Kd.S_typed HO_8.out) (by decide)) (fun k_ hk => ⟨hk.1, hk.2⟩))) (fun _ h_ => h_))); (case aB => exact (by repeat (first | (with_reducible first | exact HB.out | apply below_alloc | apply pw_below_drewN | apply below_drew1) | exact HB.out))); (case aF => exact (fun k_ hk => Kd.fresh' (Kd.R_lt (by (with_reducible repeat (first | apply Kd.R_alloc | apply Kd.R_drewN | apply Kd.R_drew)); exact HO_7.out)) k_ hk)); (case aO => exact (by (with_reducible repeat (first | apply Kd.S_alloc | apply Kd.S_drewN | apply Kd.S_drew)); exact Kd.S_mono HO_8.out (fun k_ hk => ⟨hk.1, fun e_ => hk.2 e_⟩))); (case aS => exact (below_size (by repeat (first | (with_reducible first | exact HB.out | apply below_alloc | apply pw_below_drewN | apply below_drew1) | exact HB.out)))); (case aL => have := LMc30.out; omega); intro v169 w31 ho hb hg hat; rw [← Ny168.out] at ho; have n0_ := Aside0.mk (Kd.R_over' (by (with_reducible repeat (first | apply Kd.R_alloc | apply Kd.R_drewN | apply Kd.R_drew)); exact HO_7.out) (Kd.S_typed (by (with_reducible repeat (first | apply Kd.S_alloc | apply Kd.S_drewN | apply Kd.S_drew)); exact HO_8.out)) (by decide) hg); have n1_ := Aside0.mk (hb); have n2_ := Aside0.mk (ho); clear HO_7; clear HB; clear HO_8; clear HO_10; have HO_7 := n0_; have HB := n1_; have HO170 := n2_; clear n0_ n1_ n2_; clear ho hb hg hat))
                                go_roundg k4
                                case measure => have := HJ3.out; have := HK2.out; have := HJ10.out; have := HK4.out; omega
                                case rel => exact ⟨(x7_2), (y168), (wrap64 (x9_2 + 1)), (by first | rfl | (simp; done) | (simp [*]; done)), H', ⟨by have := HJ3.out; have := HK2.out; have := HJ10.out; have := HK4.out; omega⟩, ⟨by (with_reducible repeat (first | apply Kd.R_alloc | apply Kd.R_drewN | apply Kd.R_drew)); exact Kd.R_mono HO_7.out (fun _ hk => trivial)⟩, ⟨by (with_reducible repeat (first | apply Kd.S_alloc | apply Kd.S_drewN | apply Kd.S_drew)); exact HO170.out⟩, ⟨by repeat (first | (with_reducible first | exact HB.out | apply below_alloc | apply pw_below_drewN | apply below_drew1) | exact HB.out)⟩⟩
                              · rw [if_neg c30] at H
                                exact absurd H (by simp)
                      · rw [if_neg c15] at H
                        exact absurd H (by simp)
                    · rw [if_neg c14] at H
                      exact absurd H (by simp)
                  · replace c13 := Bool.eq_false_iff.mpr c13
                    subst c13
                    have H1 : (amalgamlaw10_PickCover.l2 kj10 t154 x6_3 x7_2 x8_2 0) = some r := by rw [if_neg (show ¬ (false = true) by decide)] at H; exact H
                    clear H
                    have H := H1
                    clear H1
                    have H' := Aside0.mk H
                    clear H
                    go_wp2
                    go_loopg [12] kj10 (fun kq v12 w' => ∃ (x7_4 : List Int) (x12_4 : Int), v12 = .int .i64 x12_4 ∧ Aside0 (amalgamlaw10_PickCover.l2 kq t154 x6_3 x7_4 x8_2 x12_4 = some r) ∧ Aside0 (kq ≤ kj10) ∧ Aside0 (Kd.R (Kd.int .i64) 3 w' w.heap.size (fun _ => True) v156 x7_4) ∧ Aside0 (Kd.S (Kd.slice 3 (Kd.int .i64)) 23 w' w.heap.size (fun k_ => some k_ ≠ (v156 : Value).ownBlock) u8 x8_2) ∧ Aside0 (Below w.heap.size w w'))
                    case atStart => exact ⟨(x7_2), (0), (by first | rfl | (simp; done) | (simp [*]; done)), H', ⟨Nat.le_refl _⟩, ⟨by (with_reducible repeat (first | apply Kd.R_alloc | apply Kd.R_drewN | apply Kd.R_drew)); exact HO_7.out⟩, ⟨by (with_reducible repeat (first | apply Kd.S_alloc | apply Kd.S_drewN | apply Kd.S_drew)); exact HO_8.out⟩, ⟨by repeat (first | (with_reducible first | exact HB.out | apply below_alloc | apply pw_below_drewN | apply below_drew1) | exact HB.out)⟩⟩
                    case round =>
                      clear H'
                      try clear c1
                      try clear p1
                      try clear q1
                      try clear hx1
                      try clear c2
                      try clear p2
                      try clear q2
                      try clear hx2
                      try clear hf2
                      try clear c3
                      try clear c4
                      try clear c6
                      try clear c6b0
                      try clear p6
                      try clear c7
                      try clear c7b0
                      try clear c7b1
                      try clear c8
                      try clear c8b0
                      try clear c8b1
                      try clear c12
                      try clear c12b0
                      try clear c13
                      try clear c14
                      try clear c14b0
                      try clear c14b1
                      try clear c15
                      try clear c15b0
                      try clear c15b1
                      try clear c16
                      try clear p16
                      try clear q16
                      try clear hx16
                      try clear c18
                      try clear c18b0
                      try clear c19
                      try clear c19b0
                      try clear c20
                      try clear c20b0
                      try clear c21
                      try clear c21b0
                      try clear c22
                      try clear c22b0
                      try clear c23
                      try clear c23b0
                      try clear p24
                      try clear q24
                      try clear hx24
                      try clear hf24
                      try clear c27
                      try clear c30
                      try clear hx161_0
                      try clear hx162_0
                      try clear hx163_0
                      try clear hx24_0
                      try clear p161
                      try clear p162
                      try clear p163
                      try clear p2
                      try clear p24
                      try clear p6
                      try clear q161
                      try clear q162
                      try clear q163
                      try clear q24
                      obtain ⟨x7_4, x12_4, rfl, HA, HK4, HO_7, HO_8, HB⟩ := hrel
                      cases gk with
                      | zero => exact absurd HA.out (by simp [amalgamlaw10_PickCover.l2])
                      | succ k4 =>
                        have H := HA.out
                        clear HA
                        simp only [amalgamlaw10_PickCover.l2] at H
                        by_cases c33 : x12_4 < x6_3
                        · rw [if_pos c33] at H
                          have c33b0 : decide (x12_4 < x6_3) = true := decide_eq_true c33
                          clear c33
                          by_cases c34 : 0 ≤ x12_4
                          · rw [if_pos c34] at H
                            have c34b0 : decide (0 ≤ x12_4) = true := decide_eq_true c34
                            clear c34
                            by_cases c35 : x12_4 < (x7_4.length : Int)
                            · rw [if_pos c35] at H
                              have c35b0 : decide (x12_4 < (x7_4.length : Int)) = true := decide_eq_true c35
                              clear c35
                              obtain ⟨y171, hy171⟩ : ∃ y_ : List Int, y_ = (x7_4.set (x12_4 : Int).toNat 2) := ⟨_, rfl⟩
                              replace H : (amalgamlaw10_PickCover.l2 k4 t154 x6_3 y171 x8_2 (wrap64 (x12_4 + 1))) = some r := by first | (rw [hy171]; with_reducible exact H) | (have H2_ := (Option.bind_some _ _).symm.trans H; rw [hy171]; with_reducible exact H2_) | (have H2_ := (Option.bind_some _ _).symm.trans H; with_reducible exact H2_) | with_reducible exact H | (rw [hy171]; exact H) | exact H
                              have Ny171 := Aside0.mk hy171
                              clear hy171
                              have H' := Aside0.mk H
                              clear H
                              have p36 : 0 ≤ (x12_4 : Int) := of_decide_eq_true (by first | (with_reducible assumption) | assumption)
                              have q36 : (x12_4 : Int) < ((x7_4.length : Int) : Int) := of_decide_eq_true (by first | (with_reducible assumption) | assumption)
                              obtain ⟨go36, co36, eo36, gb36, gl36, cl36, HG36⟩ := Kd.R_form HO_7.out (by omega)
                              (first | cases eo36 | (injection eo36 with ea_ en_ ec_; (first | subst ea_ | (injection ea_ with ea_; subst ea_)); subst ec_; clear en_))
                              have GB36 := Aside0.mk gb36
                              have GG36 := Aside0.mk HG36
                              clear gb36 gl36 HG36
                              obtain ⟨hx36_0, hf36_0⟩ := Kd.R_celln 0 HO_7.out (x12_4 : Int) p36 q36
                              replace p36 := eq_true p36
                              replace q36 := eq_true q36
                              have HP37 := Kd.R_putg HO_7.out (x12_4 : Int) 2
                              go_wp2_with (first | ((with_reducible refine gate_store (t := 3) (p := 79) rfl ?_); refine store_event (t := 3) (p := 79) (v := ?vo_w38) (w1 := (wr.setCell ⟨go36, (x12_4 : Int).toNat, none⟩ (.int .i64 2))) ?hg ?ho ?hn ?hr ?_; (case ho => rfl); (case hg => rfl); (case hn => rfl); (case hr => first | (go_simp; done) | (go_simp; rfl)); intro w38 hw; have hg : wr.grownBy w38 (some go36) := (by rw [hw]; exact HP37.2); have hp_ : Kd.R (Kd.int .i64) 3 w38 w.heap.size (fun _ => True) (.slice (some ⟨go36, 0, none⟩) x7_4.length co36) y171 := (by rw [hw, Ny171.out]; exact HP37.1); clear HP37; have n0_ := Aside0.mk (hp_); have n1_ := Aside0.mk (Kd.S_after (v := (.slice (some ⟨go36, 0, none⟩) x7_4.length co36)) (v1 := (.slice (some ⟨go36, 0, none⟩) x7_4.length co36)) (ok := (fun _ => True)) (by (with_reducible repeat (first | apply Kd.S_alloc | apply Kd.S_drewN | apply Kd.S_drew)); exact Kd.S_mono HO_8.out (fun _ hk => ⟨trivial, hk⟩)) hg (.inl rfl)); have n2_ := Aside0.mk ((by rw [hw]; exact below_set (HB.out) GB36.out : Below w.heap.size w w38)); clear HO_7; clear HO_8; clear HB; have HO_7 := n0_; have HO_8 := n1_; have HB := n2_; clear n0_ n1_ n2_; clear hg hw hp_))
                              go_roundg k4
                              case measure => have := HJ3.out; have := HK2.out; have := HJ10.out; have := HK4.out; omega
                              case rel => exact ⟨(y171), (wrap64 (x12_4 + 1)), (by first | rfl | (simp; done) | (simp [*]; done)), H', ⟨by have := HJ3.out; have := HK2.out; have := HJ10.out; have := HK4.out; omega⟩, ⟨by (with_reducible repeat (first | apply Kd.R_alloc | apply Kd.R_drewN | apply Kd.R_drew)); exact HO_7.out⟩, ⟨by (with_reducible repeat (first | apply Kd.S_alloc | apply Kd.S_drewN | apply Kd.S_drew)); exact Kd.S_mono HO_8.out (fun _ hk => hk.2)⟩, ⟨by repeat (first | (with_reducible first | exact HB.out | apply below_alloc | apply pw_below_drewN | apply below_drew1) | exact HB.out)⟩⟩
                            · rw [if_neg c35] at H
                              exact absurd H (by simp)
                          · rw [if_neg c34] at H
                            exact absurd H (by simp)
                        · rw [if_neg c33] at H
                          have c33b0 : decide (x12_4 < x6_3) = false := decide_eq_false c33
                          clear c33
                          replace H := Option.bind_eq_some_iff.mp H
                          obtain ⟨⟨t172, t173⟩, A390, H⟩ := H
                          replace H : (if t154 = true then (amalgamlaw10_PickCover.j5 k4 x6_3 x8_2 t172 (t173 != 0)) else (amalgamlaw10_PickCover.j5 k4 x6_3 x8_2 t172 true)) = some r := H
                          have A39 := Aside0.mk A390
                          clear A390
                          have HC40 := Aside0.mk H
                          clear H
                          obtain ⟨Ao41, co41, eo41⟩ := Kd.S_slice HO_8.out
                          subst eo41
                          obtain ⟨Ao42, co42, eo42⟩ := Kd.R_slice HO_7.out
                          subst eo42
                          go_upto_region 21 with (first | ((with_reducible refine gate_callee (f := 10) rfl ?_); refine goesL_ (some 83) rfl rfl Tryd.func10 (by kernel_rfl) rfl #[.slice Ao41 x8_2.length co41, .slice Ao42 x7_4.length co42, .int .i64 65536] rfl (by (try simp only [List.map_toArray, List.map_cons, List.map_nil]); first | done | rfl | (simp only [List.length_drop, List.length_take]; rfl)) ?_; (with_reducible refine (pick_List.calls k4 _ _ x8_2 _ _ x7_4 65536 t172 t173 _ ?side1 ?side2 ?side3 ?side4 A39.out ?laid).mono ?_); (case laid => first | exact HLT.out | (repeat (first | exact HLT.out | apply Go.Proofs.YtbdlihldmmbdmaaDoor.Bits.TabW.alloc | apply Go.Proofs.YtbdlihldmmbdmaaDoor.Bits.TabW.drewN | exact Go.Proofs.YtbdlihldmmbdmaaDoor.Bits.TabW.below HLT.out HB.out))); (case side1 => repeat (first | exact (Kd.S_reads' HO_8.out).2.2 | (with_reducible refine Kd.C_alloc ?_ _) | (with_reducible refine Kd.C_drewN ?_ _) | (with_reducible refine Kd.C_drew ?_))); (case side2 => exact (Kd.S_reads' HO_8.out).2.1); (case side3 => repeat (first | exact (Kd.R_reads' HO_7.out).2.2 | (with_reducible refine Kd.C_alloc ?_ _) | (with_reducible refine Kd.C_drewN ?_ _) | (with_reducible refine Kd.C_drew ?_))); (case side4 => exact (Kd.R_reads' HO_7.out).2.1); rintro e w43 ⟨v174, rfl, ho0, hb⟩; refine ⟨_, rfl, ?_⟩; have n0_ := Aside0.mk (Kd.R_below (by (with_reducible repeat (first | apply Kd.R_alloc | apply Kd.R_drewN | apply Kd.R_drew)); exact HO_7.out) hb); have n1_ := Aside0.mk (Kd.S_below (by (with_reducible repeat (first | apply Kd.S_alloc | apply Kd.S_drewN | apply Kd.S_drew)); exact HO_8.out) hb); have n2_ := Aside0.mk (Kd.R_lower ho0 (below_size (by repeat (first | (with_reducible first | exact HB.out | apply below_alloc | apply pw_below_drewN | apply below_drew1) | exact HB.out)))); have n3_ := Aside0.mk (below_step (by repeat (first | (with_reducible first | exact HB.out | apply below_alloc | apply pw_below_drewN | apply below_drew1) | exact HB.out)) hb); clear HO_7; clear HO_8; clear HB; have HO_7 := n0_; have HO_8 := n1_; have HO175 := n2_; have HB := n3_; clear n0_ n1_ n2_ n3_; (try clear hb); (try clear hb2); (try clear hk); (try clear hi); (try clear ho0)))
                          (try simp only [Act.put, List.setIfInBounds_toArray, List.set_cons_zero, List.set_cons_succ])
                          go_cut [91] (fun v91 wc => ∃ (kq : Nat) (x91_39 : Bool), v91 = .bool x91_39 ∧ Aside0 (amalgamlaw10_PickCover.j5 kq x6_3 x8_2 t172 x91_39 = some r) ∧ Aside0 (kq ≤ k4) ∧ Aside0 (Kd.S (Kd.slice 3 (Kd.int .i64)) 23 wc w.heap.size (fun _ => True) (.slice Ao41 x8_2.length co41) x8_2) ∧ Aside0 (Kd.R (Kd.int .u32) 37 wc w.heap.size (fun _ => True) v174 t172) ∧ Aside0 (Below w.heap.size w wc))
                          case first =>
                            have H := HC40.out
                            clear HC40
                            by_cases c44 : t154 = true
                            · subst c44
                              have H1 : (amalgamlaw10_PickCover.j5 k4 x6_3 x8_2 t172 (t173 != 0)) = some r := by rw [if_pos rfl] at H; exact H
                              clear H
                              have H := H1
                              clear H1
                              have H' := Aside0.mk H
                              clear H
                              go_wp2
                              go_meet
                              case rel => exact ⟨_, ((t173 != 0)), (by first | rfl | (simp; done) | (simp [*]; done)), H', ⟨by have := HJ3.out; have := HK2.out; have := HJ10.out; have := HK4.out; first | omega | exact Nat.le_refl _⟩, ⟨by (with_reducible repeat (first | apply Kd.S_alloc | apply Kd.S_drewN | apply Kd.S_drew)); exact Kd.S_mono HO_8.out (fun _ hk => trivial)⟩, ⟨by (with_reducible repeat (first | apply Kd.R_alloc | apply Kd.R_drewN | apply Kd.R_drew)); exact HO175.out⟩, ⟨by repeat (first | (with_reducible first | exact HB.out | apply below_alloc | apply pw_below_drewN | apply below_drew1) | exact HB.out)⟩⟩
                            · replace c44 := Bool.eq_false_iff.mpr c44
                              subst c44
                              have H1 : (amalgamlaw10_PickCover.j5 k4 x6_3 x8_2 t172 true) = some r := by rw [if_neg (show ¬ (false = true) by decide)] at H; exact H
                              clear H
                              have H := H1
                              clear H1
                              have H' := Aside0.mk H
                              clear H
                              go_wp2
                              go_meet
                              case rel => exact ⟨_, (true), (by first | rfl | (simp; done) | (simp [*]; done)), H', ⟨by have := HJ3.out; have := HK2.out; have := HJ10.out; have := HK4.out; first | omega | exact Nat.le_refl _⟩, ⟨by (with_reducible repeat (first | apply Kd.S_alloc | apply Kd.S_drewN | apply Kd.S_drew)); exact Kd.S_mono HO_8.out (fun _ hk => trivial)⟩, ⟨by (with_reducible repeat (first | apply Kd.R_alloc | apply Kd.R_drewN | apply Kd.R_drew)); exact HO175.out⟩, ⟨by repeat (first | (with_reducible first | exact HB.out | apply below_alloc | apply pw_below_drewN | apply below_drew1) | exact HB.out)⟩⟩
                          case rest =>
                            clear HC40
                            try clear c1
                            try clear p1
                            try clear q1
                            try clear hx1
                            try clear c2
                            try clear p2
                            try clear q2
                            try clear hx2
                            try clear hf2
                            try clear c3
                            try clear p3
                            try clear q3
                            try clear hx3
                            try clear hf3
                            try clear c4
                            try clear c6
                            try clear c6b0
                            try clear p6
                            try clear c7
                            try clear c7b0
                            try clear c7b1
                            try clear c8
                            try clear c8b0
                            try clear c8b1
                            try clear c10
                            try clear c12
                            try clear c12b0
                            try clear c13
                            try clear c14
                            try clear c14b0
                            try clear c14b1
                            try clear c15
                            try clear c15b0
                            try clear c15b1
                            try clear c16
                            try clear p16
                            try clear q16
                            try clear hx16
                            try clear c18
                            try clear c18b0
                            try clear c19
                            try clear c19b0
                            try clear c20
                            try clear c20b0
                            try clear c21
                            try clear c21b0
                            try clear c22
                            try clear c22b0
                            try clear c23
                            try clear c23b0
                            try clear p24
                            try clear q24
                            try clear hx24
                            try clear hf24
                            try clear c27
                            try clear c30
                            try clear c33
                            try clear c33b0
                            try clear c34
                            try clear c34b0
                            try clear c35
                            try clear c35b0
                            try clear p36
                            try clear q36
                            try clear hx36
                            try clear hf36
                            try clear c44
                            try clear hx161_0
                            try clear hx162_0
                            try clear hx163_0
                            try clear hx24_0
                            try clear hx36_0
                            try clear p1
                            try clear p16
                            try clear p161
                            try clear p162
                            try clear p163
                            try clear p2
                            try clear p24
                            try clear p36
                            try clear p6
                            try clear q1
                            try clear q16
                            try clear q161
                            try clear q162
                            try clear q163
                            try clear q2
                            try clear q24
                            try clear q36
                            obtain ⟨kq, x91_39, rfl, HA, HJ39, HO_8, HO_13, HB⟩ := hcut
                            cases kq with
                            | zero => exact absurd HA.out (by simp [amalgamlaw10_PickCover.j5])
                            | succ kj39 =>
                              have H := HA.out
                              clear HA
                              simp only [amalgamlaw10_PickCover.j5] at H
                              by_cases c45 : x91_39 = true
                              · subst c45
                                have H1 : (some false) = some r := by rw [if_pos rfl] at H; exact H
                                clear H
                                have H := H1
                                clear H1
                                obtain rfl := Option.some.inj H
                                go_wp2
                                go_ret
                                exact ⟨by first | rfl | (simp [errW_none, errW_some] <;> rfl) | (simp [*, errW_none, errW_some] <;> rfl), by repeat (first | (with_reducible first | exact HB.out | apply below_alloc | apply pw_below_drewN | apply below_drew1) | exact HB.out)⟩
                              · replace c45 := Bool.eq_false_iff.mpr c45
                                subst c45
                                have H1 : (amalgamlaw10_PickCover.l3 kj39 x6_3 x8_2 t172 0 0) = some r := by rw [if_neg (show ¬ (false = true) by decide)] at H; exact H
                                clear H
                                have H := H1
                                clear H1
                                have H' := Aside0.mk H
                                clear H
                                go_wp2
                                go_loopg [15, 16] kj39 (fun kq v15 v16 w' => ∃ (x15_6 : Int) (x16_6 : Int), v15 = .int .i64 x15_6 ∧ v16 = .int .u32 x16_6 ∧ Aside0 (amalgamlaw10_PickCover.l3 kq x6_3 x8_2 t172 x15_6 x16_6 = some r) ∧ Aside0 (kq ≤ kj39) ∧ Aside0 (Kd.S (Kd.slice 3 (Kd.int .i64)) 23 w' w.heap.size (fun _ => True) (.slice Ao41 x8_2.length co41) x8_2) ∧ Aside0 (Kd.R (Kd.int .u32) 37 w' w.heap.size (fun _ => True) v174 t172) ∧ Aside0 (Below w.heap.size w w'))
                                case atStart => exact ⟨(0), (0), (by first | rfl | (simp; done) | (simp [*]; done)), (by first | rfl | (simp; done) | (simp [*]; done)), H', ⟨Nat.le_refl _⟩, ⟨by (with_reducible repeat (first | apply Kd.S_alloc | apply Kd.S_drewN | apply Kd.S_drew)); exact HO_8.out⟩, ⟨by (with_reducible repeat (first | apply Kd.R_alloc | apply Kd.R_drewN | apply Kd.R_drew)); exact HO_13.out⟩, ⟨by repeat (first | (with_reducible first | exact HB.out | apply below_alloc | apply pw_below_drewN | apply below_drew1) | exact HB.out)⟩⟩
                                case round =>
                                  clear H'
                                  try clear c1
                                  try clear p1
                                  try clear q1
                                  try clear hx1
                                  try clear c2
                                  try clear p2
                                  try clear q2
                                  try clear hx2
                                  try clear hf2
                                  try clear c3
                                  try clear p3
                                  try clear q3
                                  try clear hx3
                                  try clear hf3
                                  try clear c4
                                  try clear c6
                                  try clear c6b0
                                  try clear p6
                                  try clear c7
                                  try clear c7b0
                                  try clear c7b1
                                  try clear c8
                                  try clear c8b0
                                  try clear c8b1
                                  try clear c10
                                  try clear c12
                                  try clear c12b0
                                  try clear c13
                                  try clear c14
                                  try clear c14b0
                                  try clear c14b1
                                  try clear c15
                                  try clear c15b0
                                  try clear c15b1
                                  try clear c16
                                  try clear p16
                                  try clear q16
                                  try clear hx16
                                  try clear c18
                                  try clear c18b0
                                  try clear c19
                                  try clear c19b0
                                  try clear c20
                                  try clear c20b0
                                  try clear c21
                                  try clear c21b0
                                  try clear c22
                                  try clear c22b0
                                  try clear c23
                                  try clear c23b0
                                  try clear p24
                                  try clear q24
                                  try clear hx24
                                  try clear hf24
                                  try clear c27
                                  try clear c30
                                  try clear c33
                                  try clear c33b0
                                  try clear c34
                                  try clear c34b0
                                  try clear c35
                                  try clear c35b0
                                  try clear p36
                                  try clear q36
                                  try clear hx36
                                  try clear hf36
                                  try clear c44
                                  try clear c45
                                  try clear hx161_0
                                  try clear hx162_0
                                  try clear hx163_0
                                  try clear hx24_0
                                  try clear hx36_0
                                  try clear p1
                                  try clear p16
                                  try clear p161
                                  try clear p162
                                  try clear p163
                                  try clear p2
                                  try clear p24
                                  try clear p3
                                  try clear p36
                                  try clear p6
                                  try clear q1
                                  try clear q16
                                  try clear q161
                                  try clear q162
                                  try clear q163
                                  try clear q2
                                  try clear q24
                                  try clear q3
                                  try clear q36
                                  obtain ⟨x15_6, x16_6, rfl, rfl, HA, HK6, HO_8, HO_13, HB⟩ := hrel
                                  cases gk with
                                  | zero => exact absurd HA.out (by simp [amalgamlaw10_PickCover.l3])
                                  | succ k6 =>
                                    have H := HA.out
                                    clear HA
                                    simp only [amalgamlaw10_PickCover.l3] at H
                                    obtain ⟨ji46, hji46⟩ : ∃ j_ : Int, (shl .u32 1 (x8_2.length : Int)) = j_ := ⟨_, rfl⟩
                                    replace H : (if x16_6 < (ji46) then (amalgamlaw10_PickCover.l4 k6 x6_3 x8_2 t172 x15_6 x16_6 true 0) else (some (x15_6 == (t172.length : Int)))) = some r := by first | (rw [hji46] at H; exact H) | (simp only [hji46] at H ⊢; exact H)
                                    have hji46_ : (IntKind.u32.wrap (1 * 2 ^ min (x8_2.length : Int).toNat 32)) = ji46 := hji46
                                    have hji46z : (x8_2.length : Int) ≤ 32 → (IntKind.u32.wrap (1 * 2 ^ (x8_2.length : Int).toNat)) = ji46 := shl_small hji46
                                    have hji46p : (IntKind.u32.wrap (1 * 2 ^ min x8_2.length 32)) = ji46 := hji46_
                                    have hji46q : (x8_2.length : Int) ≤ 32 → (IntKind.u32.wrap (1 * 2 ^ x8_2.length)) = ji46 := hji46z
                                    have hji46r : (IntKind.u32.wrap (2 ^ min x8_2.length 32)) = ji46 := by have h_ := hji46p; rw [Int.one_mul] at h_; exact h_
                                    have hji46s : (x8_2.length : Int) ≤ 32 → (IntKind.u32.wrap (2 ^ x8_2.length)) = ji46 := fun hle_ => by have h_ := hji46q hle_; rw [Int.one_mul] at h_; exact h_
                                    have hji46u : (IntKind.u32.wrap (2 ^ min (x8_2.length : Int).toNat 32)) = ji46 := by have h_ := hji46_; rw [Int.one_mul] at h_; exact h_
                                    have hji46v : (x8_2.length : Int) ≤ 32 → (IntKind.u32.wrap (2 ^ (x8_2.length : Int).toNat)) = ji46 := fun hle_ => by have h_ := hji46z hle_; rw [Int.one_mul] at h_; exact h_
                                    by_cases c47 : x16_6 < (ji46)
                                    · rw [if_pos c47] at H
                                      have c47b0 : decide (x16_6 < (ji46)) = true := decide_eq_true c47
                                      clear c47
                                      have H' := Aside0.mk H
                                      clear H
                                      go_wp2
                                      go_loopg [17, 18] k6 (fun kq v17 v18 w' => ∃ (x17_7 : Bool) (x18_7 : Int), v17 = .bool x17_7 ∧ v18 = .int .i64 x18_7 ∧ Aside0 (amalgamlaw10_PickCover.l4 kq x6_3 x8_2 t172 x15_6 x16_6 x17_7 x18_7 = some r) ∧ Aside0 (kq ≤ k6) ∧ Aside0 (Kd.S (Kd.slice 3 (Kd.int .i64)) 23 w' w.heap.size (fun _ => True) (.slice Ao41 x8_2.length co41) x8_2) ∧ Aside0 (Kd.R (Kd.int .u32) 37 w' w.heap.size (fun _ => True) v174 t172) ∧ Aside0 (Below w.heap.size w w'))
                                      case atStart => exact ⟨(true), (0), (by first | rfl | (simp; done) | (simp [*]; done)), (by first | rfl | (simp; done) | (simp [*]; done)), H', ⟨Nat.le_refl _⟩, ⟨by (with_reducible repeat (first | apply Kd.S_alloc | apply Kd.S_drewN | apply Kd.S_drew)); exact HO_8.out⟩, ⟨by (with_reducible repeat (first | apply Kd.R_alloc | apply Kd.R_drewN | apply Kd.R_drew)); exact HO_13.out⟩, ⟨by repeat (first | (with_reducible first | exact HB.out | apply below_alloc | apply pw_below_drewN | apply below_drew1) | exact HB.out)⟩⟩
                                      case round =>
                                        clear H'
                                        try clear c1
                                        try clear p1
                                        try clear q1
                                        try clear hx1
                                        try clear c2
                                        try clear p2
                                        try clear q2
                                        try clear hx2
                                        try clear hf2
                                        try clear c3
                                        try clear p3
                                        try clear q3
                                        try clear hx3
                                        try clear hf3
                                        try clear c4
                                        try clear c6
                                        try clear c6b0
                                        try clear p6
                                        try clear c7
                                        try clear c7b0
                                        try clear c7b1
                                        try clear c8
                                        try clear c8b0
                                        try clear c8b1
                                        try clear c10
                                        try clear c12
                                        try clear c12b0
                                        try clear c13
                                        try clear c14
                                        try clear c14b0
                                        try clear c14b1
                                        try clear c15
                                        try clear c15b0
                                        try clear c15b1
                                        try clear c16
                                        try clear p16
                                        try clear q16
                                        try clear hx16
                                        try clear c18
                                        try clear c18b0
                                        try clear c19
                                        try clear c19b0
                                        try clear c20
                                        try clear c20b0
                                        try clear c21
                                        try clear c21b0
                                        try clear c22
                                        try clear c22b0
                                        try clear c23
                                        try clear c23b0
                                        try clear p24
                                        try clear q24
                                        try clear hx24
                                        try clear hf24
                                        try clear c27
                                        try clear c30
                                        try clear c33
                                        try clear c33b0
                                        try clear c34
                                        try clear c34b0
                                        try clear c35
                                        try clear c35b0
                                        try clear p36
                                        try clear q36
                                        try clear hx36
                                        try clear hf36
                                        try clear c44
                                        try clear c45
                                        try clear c47
                                        try clear c47b0
                                        try clear hx161_0
                                        try clear hx162_0
                                        try clear hx163_0
                                        try clear hx24_0
                                        try clear hx36_0
                                        try clear p1
                                        try clear p16
                                        try clear p161
                                        try clear p162
                                        try clear p163
                                        try clear p2
                                        try clear p24
                                        try clear p3
                                        try clear p36
                                        try clear p6
                                        try clear q1
                                        try clear q16
                                        try clear q161
                                        try clear q162
                                        try clear q163
                                        try clear q2
                                        try clear q24
                                        try clear q3
                                        try clear q36
                                        obtain ⟨x17_7, x18_7, rfl, rfl, HA, HK7, HO_8, HO_13, HB⟩ := hrel
                                        cases gk with
                                        | zero => exact absurd HA.out (by simp [amalgamlaw10_PickCover.l4])
                                        | succ k7 =>
                                          have H := HA.out
                                          clear HA
                                          simp only [amalgamlaw10_PickCover.l4] at H
                                          by_cases c48 : x18_7 < x6_3
                                          · rw [if_pos c48] at H
                                            have c48b0 : decide (x18_7 < x6_3) = true := decide_eq_true c48
                                            clear c48
                                            have H' := Aside0.mk H
                                            clear H
                                            go_wp2
                                            go_loopg [19, 20] k7 (fun kq v19 v20 w' => ∃ (x19_8 : Int) (x20_8 : Int), v19 = .int .i64 x19_8 ∧ v20 = .int .i64 x20_8 ∧ Aside0 (amalgamlaw10_PickCover.l5 kq x6_3 x8_2 t172 x15_6 x16_6 x17_7 x18_7 x19_8 x20_8 = some r) ∧ Aside0 (kq ≤ k7) ∧ Aside0 (Kd.S (Kd.slice 3 (Kd.int .i64)) 23 w' w.heap.size (fun _ => True) (.slice Ao41 x8_2.length co41) x8_2) ∧ Aside0 (Kd.R (Kd.int .u32) 37 w' w.heap.size (fun _ => True) v174 t172) ∧ Aside0 (Below w.heap.size w w'))
                                            case atStart => exact ⟨(0), (0), (by first | rfl | (simp; done) | (simp [*]; done)), (by first | rfl | (simp; done) | (simp [*]; done)), H', ⟨Nat.le_refl _⟩, ⟨by (with_reducible repeat (first | apply Kd.S_alloc | apply Kd.S_drewN | apply Kd.S_drew)); exact HO_8.out⟩, ⟨by (with_reducible repeat (first | apply Kd.R_alloc | apply Kd.R_drewN | apply Kd.R_drew)); exact HO_13.out⟩, ⟨by repeat (first | (with_reducible first | exact HB.out | apply below_alloc | apply pw_below_drewN | apply below_drew1) | exact HB.out)⟩⟩
                                            case round =>
                                              clear H'
                                              try clear c1
                                              try clear p1
                                              try clear q1
                                              try clear hx1
                                              try clear c2
                                              try clear p2
                                              try clear q2
                                              try clear hx2
                                              try clear hf2
                                              try clear c3
                                              try clear p3
                                              try clear q3
                                              try clear hx3
                                              try clear hf3
                                              try clear c4
                                              try clear c6
                                              try clear c6b0
                                              try clear p6
                                              try clear c7
                                              try clear c7b0
                                              try clear c7b1
                                              try clear c8
                                              try clear c8b0
                                              try clear c8b1
                                              try clear c10
                                              try clear c12
                                              try clear c12b0
                                              try clear c13
                                              try clear c14
                                              try clear c14b0
                                              try clear c14b1
                                              try clear c15
                                              try clear c15b0
                                              try clear c15b1
                                              try clear c16
                                              try clear p16
                                              try clear q16
                                              try clear hx16
                                              try clear c18
                                              try clear c18b0
                                              try clear c19
                                              try clear c19b0
                                              try clear c20
                                              try clear c20b0
                                              try clear c21
                                              try clear c21b0
                                              try clear c22
                                              try clear c22b0
                                              try clear c23
                                              try clear c23b0
                                              try clear p24
                                              try clear q24
                                              try clear hx24
                                              try clear hf24
                                              try clear c27
                                              try clear c30
                                              try clear c33
                                              try clear c33b0
                                              try clear c34
                                              try clear c34b0
                                              try clear c35
                                              try clear c35b0
                                              try clear p36
                                              try clear q36
                                              try clear hx36
                                              try clear hf36
                                              try clear c44
                                              try clear c45
                                              try clear c47
                                              try clear c47b0
                                              try clear c48
                                              try clear c48b0
                                              try clear hx161_0
                                              try clear hx162_0
                                              try clear hx163_0
                                              try clear hx24_0
                                              try clear hx36_0
                                              try clear p1
                                              try clear p16
                                              try clear p161
                                              try clear p162
                                              try clear p163
                                              try clear p2
                                              try clear p24
                                              try clear p3
                                              try clear p36
                                              try clear p6
                                              try clear q1
                                              try clear q16
                                              try clear q161
                                              try clear q162
                                              try clear q163
                                              try clear q2
                                              try clear q24
                                              try clear q3
                                              try clear q36
                                              obtain ⟨x19_8, x20_8, rfl, rfl, HA, HK8, HO_8, HO_13, HB⟩ := hrel
                                              cases gk with
                                              | zero => exact absurd HA.out (by simp [amalgamlaw10_PickCover.l5])
                                              | succ k8 =>
                                                have H := HA.out
                                                clear HA
                                                simp only [amalgamlaw10_PickCover.l5] at H
                                                by_cases c49 : x20_8 < (x8_2.length : Int)
                                                · rw [if_pos c49] at H
                                                  have c49b0 : decide (x20_8 < (x8_2.length : Int)) = true := decide_eq_true c49
                                                  clear c49
                                                  by_cases c50 : 0 ≤ x20_8
                                                  · rw [if_pos c50] at H
                                                    have c50b0 := eq_true c50
                                                    have c50b1 : decide (0 ≤ x20_8) = true := decide_eq_true c50
                                                    clear c50
                                                    obtain ⟨ji51, hji51⟩ : ∃ j_ : Int, (shr .u32 x16_6 x20_8) = j_ := ⟨_, rfl⟩
                                                    replace H : (if (Go.bits .and .u32 (ji51) 1) = 1 then (if 0 ≤ x18_7 then (if x18_7 < ((rd_L1 x8_2 x20_8).length : Int) then (amalgamlaw10_PickCover.l5 k8 x6_3 x8_2 t172 x15_6 x16_6 x17_7 x18_7 (wrap64 (x19_8 + (rd (rd_L1 x8_2 x20_8) x18_7))) (wrap64 (x20_8 + 1))) else (none)) else (none)) else (amalgamlaw10_PickCover.l5 k8 x6_3 x8_2 t172 x15_6 x16_6 x17_7 x18_7 x19_8 (wrap64 (x20_8 + 1)))) = some r := by first | (rw [hji51] at H; exact H) | (simp only [hji51] at H ⊢; exact H)
                                                    have hji51_ : (x16_6 / 2 ^ min x20_8.toNat 32) = ji51 := hji51
                                                    have hji51z : x20_8 ≤ 32 → (x16_6 / 2 ^ x20_8.toNat) = ji51 := shr_small hji51
                                                    by_cases c52 : (Go.bits .and .u32 (ji51) 1) = 1
                                                    · rw [if_pos c52] at H
                                                      have c52b0 : ((Go.bits .and .u32 (ji51) 1) == 1) = true := beq_iff_eq.mpr c52
                                                      have c52b1 : ((Go.bits .and .u32 (ji51) 1) != 1) = false := bne_eq_false_iff_eq.mpr c52
                                                      clear c52
                                                      by_cases c53 : 0 ≤ x18_7
                                                      · rw [if_pos c53] at H
                                                        have c53b0 : decide (0 ≤ x18_7) = true := decide_eq_true c53
                                                        clear c53
                                                        by_cases c54 : x18_7 < ((rd_L1 x8_2 x20_8).length : Int)
                                                        · rw [if_pos c54] at H
                                                          have c54b0 : decide (x18_7 < ((rd_L1 x8_2 x20_8).length : Int)) = true := decide_eq_true c54
                                                          clear c54
                                                          have H' := Aside0.mk H
                                                          clear H
                                                          have p176 : 0 ≤ (x20_8 : Int) := of_decide_eq_true (by first | (with_reducible assumption) | assumption)
                                                          have q176 : x20_8 < (x8_2.length : Int) := of_decide_eq_true (by first | (with_reducible assumption) | assumption)
                                                          obtain ⟨ad176, A176_0, c176_0, e176, hx176_0, hl176_0, hi176_0⟩ := at_L1 (Kd.S_reads' HO_8.out).2.2 x20_8 p176 q176
                                                          cases e176
                                                          obtain ⟨ce176, hce176, hMe176, hcc176⟩ := Kd.S_get HO_8.out [] x20_8 p176 (by first | exact q176 | exact of_decide_eq_true (by first | (with_reducible assumption) | assumption) | (have e_ := (Kd.S_reads' HO_8.out).1; omega))
                                                          obtain ⟨ve176_0, rfl, ge176_0⟩ := hMe176
                                                          have hv176_0 := hcc176 0 _ rfl
                                                          rw [Nat.add_zero, show ((Kd.slice 3 (Kd.int .i64))).sz = 1 from rfl, Nat.mul_one] at hv176_0
                                                          replace hv176_0 := Option.some.inj (hv176_0.symm.trans hx176_0)
                                                          rw [hv176_0] at ge176_0
                                                          have HL176_0 := Aside0.mk (show Kd.R (Kd.int .i64) 3 _ _ _ _ (rd_L1 x8_2 x20_8) from ge176_0)
                                                          clear hv176_0 ge176_0
                                                          clear hcc176 hce176
                                                          have HR176_0 := Aside0.mk hi176_0
                                                          have HC176_0 := Aside0.mk hl176_0
                                                          clear hi176_0 hl176_0
                                                          replace p176 := eq_true p176
                                                          replace q176 := eq_true q176
                                                          have p177 : 0 ≤ (x18_7 : Int) := of_decide_eq_true (by first | (with_reducible assumption) | assumption)
                                                          have q177 : x18_7 < ((rd_L1 x8_2 x20_8).length : Int) := of_decide_eq_true (by first | (with_reducible assumption) | assumption)
                                                          obtain ⟨ad177, e177, hx177_0⟩ := Kd.at_int (by repeat (first | (with_reducible exact HR176_0.out) | (with_reducible refine Kd.C_alloc ?_ _) | (with_reducible refine Kd.C_drewN ?_ _) | (with_reducible refine Kd.C_drew ?_) | exact HR176_0.out)) x18_7 p177 q177
                                                          cases e177
                                                          replace p177 := eq_true p177
                                                          replace q177 := eq_true q177
                                                          go_wp2
                                                          go_roundg k8
                                                          case measure => have := HJ3.out; have := HK2.out; have := HJ10.out; have := HK4.out; have := HJ39.out; have := HK6.out; have := HK7.out; have := HK8.out; omega
                                                          case rel => exact ⟨(wrap64 (x19_8 + (rd (rd_L1 x8_2 x20_8) x18_7))), (wrap64 (x20_8 + 1)), (by first | rfl | (simp; done) | (simp [*]; done)), (by first | rfl | (simp; done) | (simp [*]; done)), H', ⟨by have := HJ3.out; have := HK2.out; have := HJ10.out; have := HK4.out; have := HJ39.out; have := HK6.out; have := HK7.out; have := HK8.out; omega⟩, ⟨by (with_reducible repeat (first | apply Kd.S_alloc | apply Kd.S_drewN | apply Kd.S_drew)); exact HO_8.out⟩, ⟨by (with_reducible repeat (first | apply Kd.R_alloc | apply Kd.R_drewN | apply Kd.R_drew)); exact HO_13.out⟩, ⟨by repeat (first | (with_reducible first | exact HB.out | apply below_alloc | apply pw_below_drewN | apply below_drew1) | exact HB.out)⟩⟩
                                                        · rw [if_neg c54] at H
                                                          exact absurd H (by simp)
                                                      · rw [if_neg c53] at H
                                                        exact absurd H (by simp)
                                                    · rw [if_neg c52] at H
                                                      have c52b0 : ((Go.bits .and .u32 (ji51) 1) == 1) = false := beq_eq_false_iff_ne.mpr c52
                                                      have c52b1 : ((Go.bits .and .u32 (ji51) 1) != 1) = true := bne_iff_ne.mpr c52
                                                      have H' := Aside0.mk H
                                                      clear H
                                                      go_wp2
                                                      go_roundg k8
                                                      case measure => have := HJ3.out; have := HK2.out; have := HJ10.out; have := HK4.out; have := HJ39.out; have := HK6.out; have := HK7.out; have := HK8.out; omega
                                                      case rel => exact ⟨(x19_8), (wrap64 (x20_8 + 1)), (by first | rfl | (simp; done) | (simp [*]; done)), (by first | rfl | (simp; done) | (simp [*]; done)), H', ⟨by have := HJ3.out; have := HK2.out; have := HJ10.out; have := HK4.out; have := HJ39.out; have := HK6.out; have := HK7.out; have := HK8.out; omega⟩, ⟨by (with_reducible repeat (first | apply Kd.S_alloc | apply Kd.S_drewN | apply Kd.S_drew)); exact HO_8.out⟩, ⟨by (with_reducible repeat (first | apply Kd.R_alloc | apply Kd.R_drewN | apply Kd.R_drew)); exact HO_13.out⟩, ⟨by repeat (first | (with_reducible first | exact HB.out | apply below_alloc | apply pw_below_drewN | apply below_drew1) | exact HB.out)⟩⟩
                                                  · rw [if_neg c50] at H
                                                    exact absurd H (by simp)
                                                · rw [if_neg c49] at H
                                                  have c49b0 : decide (x20_8 < (x8_2.length : Int)) = false := decide_eq_false c49
                                                  clear c49
                                                  by_cases c55 : x17_7 = true
                                                  · subst c55
                                                    have H1 : (amalgamlaw10_PickCover.l4 k8 x6_3 x8_2 t172 x15_6 x16_6 (x19_8 == 1) (wrap64 (x18_7 + 1))) = some r := by rw [if_pos rfl] at H; exact H
                                                    clear H
                                                    have H := H1
                                                    clear H1
                                                    have H' := Aside0.mk H
                                                    clear H
                                                    go_wp2
                                                    go_roundg k8
                                                    case measure => have := HJ3.out; have := HK2.out; have := HJ10.out; have := HK4.out; have := HJ39.out; have := HK6.out; have := HK7.out; have := HK8.out; omega
                                                    case rel => exact ⟨((x19_8 == 1)), (wrap64 (x18_7 + 1)), (by first | rfl | (simp; done) | (simp [*]; done)), (by first | rfl | (simp; done) | (simp [*]; done)), H', ⟨by have := HJ3.out; have := HK2.out; have := HJ10.out; have := HK4.out; have := HJ39.out; have := HK6.out; have := HK7.out; have := HK8.out; omega⟩, ⟨by (with_reducible repeat (first | apply Kd.S_alloc | apply Kd.S_drewN | apply Kd.S_drew)); exact HO_8.out⟩, ⟨by (with_reducible repeat (first | apply Kd.R_alloc | apply Kd.R_drewN | apply Kd.R_drew)); exact HO_13.out⟩, ⟨by repeat (first | (with_reducible first | exact HB.out | apply below_alloc | apply pw_below_drewN | apply below_drew1) | exact HB.out)⟩⟩
                                                  · replace c55 := Bool.eq_false_iff.mpr c55
                                                    subst c55
                                                    have H1 : (amalgamlaw10_PickCover.l4 k8 x6_3 x8_2 t172 x15_6 x16_6 false (wrap64 (x18_7 + 1))) = some r := by rw [if_neg (show ¬ (false = true) by decide)] at H; exact H
                                                    clear H
                                                    have H := H1
                                                    clear H1
                                                    have H' := Aside0.mk H
                                                    clear H
                                                    go_wp2
                                                    go_roundg k8
                                                    case measure => have := HJ3.out; have := HK2.out; have := HJ10.out; have := HK4.out; have := HJ39.out; have := HK6.out; have := HK7.out; have := HK8.out; omega
                                                    case rel => exact ⟨(false), (wrap64 (x18_7 + 1)), (by first | rfl | (simp; done) | (simp [*]; done)), (by first | rfl | (simp; done) | (simp [*]; done)), H', ⟨by have := HJ3.out; have := HK2.out; have := HJ10.out; have := HK4.out; have := HJ39.out; have := HK6.out; have := HK7.out; have := HK8.out; omega⟩, ⟨by (with_reducible repeat (first | apply Kd.S_alloc | apply Kd.S_drewN | apply Kd.S_drew)); exact HO_8.out⟩, ⟨by (with_reducible repeat (first | apply Kd.R_alloc | apply Kd.R_drewN | apply Kd.R_drew)); exact HO_13.out⟩, ⟨by repeat (first | (with_reducible first | exact HB.out | apply below_alloc | apply pw_below_drewN | apply below_drew1) | exact HB.out)⟩⟩
                                          · rw [if_neg c48] at H
                                            have c48b0 : decide (x18_7 < x6_3) = false := decide_eq_false c48
                                            clear c48
                                            have HC56 := Aside0.mk H
                                            clear H
                                            go_upto_region 38 with (fail)
                                            go_cut [21] (fun v21 wc => ∃ (kq : Nat) (x21_55 : Bool), v21 = .bool x21_55 ∧ Aside0 (amalgamlaw10_PickCover.j9 kq x6_3 x8_2 t172 x15_6 x16_6 x17_7 x21_55 = some r) ∧ Aside0 (kq ≤ k7) ∧ Aside0 (Kd.S (Kd.slice 3 (Kd.int .i64)) 23 wc w.heap.size (fun _ => True) (.slice Ao41 x8_2.length co41) x8_2) ∧ Aside0 (Kd.R (Kd.int .u32) 37 wc w.heap.size (fun _ => True) v174 t172) ∧ Aside0 (Below w.heap.size w wc))
                                            case first =>
                                              have H := HC56.out
                                              clear HC56
                                              by_cases c57 : x15_6 < (t172.length : Int)
                                              · rw [if_pos c57] at H
                                                have c57b0 : decide (x15_6 < (t172.length : Int)) = true := decide_eq_true c57
                                                clear c57
                                                (first | rw [c57b0] | (simp only [i64_w, i32_w]; rw [c57b0]) | skip)
                                                by_cases c58 : 0 ≤ x15_6
                                                · rw [if_pos c58] at H
                                                  have c58b0 : decide (0 ≤ x15_6) = true := decide_eq_true c58
                                                  clear c58
                                                  have H' := Aside0.mk H
                                                  clear H
                                                  obtain ⟨Ao59, co59, eo59⟩ := Kd.R_slice HO_13.out
                                                  subst eo59
                                                  have p178 : 0 ≤ (x15_6 : Int) := of_decide_eq_true (by first | (with_reducible assumption) | assumption)
                                                  have q178 : x15_6 < (t172.length : Int) := of_decide_eq_true (by first | (with_reducible assumption) | assumption)
                                                  obtain ⟨ad178, e178, hx178_0⟩ := Kd.at_int (Kd.R_reads' HO_13.out).2.2 x15_6 p178 q178
                                                  cases e178
                                                  replace p178 := eq_true p178
                                                  replace q178 := eq_true q178
                                                  go_wp2
                                                  go_meet
                                                  case rel => exact ⟨_, (((rd t172 x15_6) == x16_6)), (by first | rfl | (simp; done) | (simp [*]; done)), H', ⟨by have := HJ3.out; have := HK2.out; have := HJ10.out; have := HK4.out; have := HJ39.out; have := HK6.out; have := HK7.out; first | omega | exact Nat.le_refl _⟩, ⟨by (with_reducible repeat (first | apply Kd.S_alloc | apply Kd.S_drewN | apply Kd.S_drew)); exact HO_8.out⟩, ⟨by (with_reducible repeat (first | apply Kd.R_alloc | apply Kd.R_drewN | apply Kd.R_drew)); exact HO_13.out⟩, ⟨by repeat (first | (with_reducible first | exact HB.out | apply below_alloc | apply pw_below_drewN | apply below_drew1) | exact HB.out)⟩⟩
                                                · rw [if_neg c58] at H
                                                  exact absurd H (by simp)
                                              · rw [if_neg c57] at H
                                                have c57b0 : decide (x15_6 < (t172.length : Int)) = false := decide_eq_false c57
                                                clear c57
                                                (first | rw [c57b0] | (simp only [i64_w, i32_w]; rw [c57b0]) | skip)
                                                have H' := Aside0.mk H
                                                clear H
                                                obtain ⟨Ao60, co60, eo60⟩ := Kd.R_slice HO_13.out
                                                subst eo60
                                                go_wp2
                                                go_meet
                                                case rel => exact ⟨_, (false), (by first | rfl | (simp; done) | (simp [*]; done)), H', ⟨by have := HJ3.out; have := HK2.out; have := HJ10.out; have := HK4.out; have := HJ39.out; have := HK6.out; have := HK7.out; first | omega | exact Nat.le_refl _⟩, ⟨by (with_reducible repeat (first | apply Kd.S_alloc | apply Kd.S_drewN | apply Kd.S_drew)); exact HO_8.out⟩, ⟨by (with_reducible repeat (first | apply Kd.R_alloc | apply Kd.R_drewN | apply Kd.R_drew)); exact HO_13.out⟩, ⟨by repeat (first | (with_reducible first | exact HB.out | apply below_alloc | apply pw_below_drewN | apply below_drew1) | exact HB.out)⟩⟩
                                            case rest =>
                                              clear HC56
                                              try clear c1
                                              try clear p1
                                              try clear q1
                                              try clear hx1
                                              try clear c2
                                              try clear p2
                                              try clear q2
                                              try clear hx2
                                              try clear hf2
                                              try clear c3
                                              try clear p3
                                              try clear q3
                                              try clear hx3
                                              try clear hf3
                                              try clear c4
                                              try clear c5
                                              try clear c6
                                              try clear c6b0
                                              try clear p6
                                              try clear c7
                                              try clear c7b0
                                              try clear c7b1
                                              try clear c8
                                              try clear c8b0
                                              try clear c8b1
                                              try clear c10
                                              try clear c12
                                              try clear c12b0
                                              try clear c13
                                              try clear c14
                                              try clear c14b0
                                              try clear c14b1
                                              try clear c15
                                              try clear c15b0
                                              try clear c15b1
                                              try clear c16
                                              try clear p16
                                              try clear q16
                                              try clear hx16
                                              try clear c17
                                              try clear p17
                                              try clear q17
                                              try clear hx17
                                              try clear c18
                                              try clear c18b0
                                              try clear c19
                                              try clear c19b0
                                              try clear c20
                                              try clear c20b0
                                              try clear c21
                                              try clear c21b0
                                              try clear c22
                                              try clear c22b0
                                              try clear c23
                                              try clear c23b0
                                              try clear p24
                                              try clear q24
                                              try clear hx24
                                              try clear hf24
                                              try clear c27
                                              try clear c30
                                              try clear c33
                                              try clear c33b0
                                              try clear c34
                                              try clear c34b0
                                              try clear c35
                                              try clear c35b0
                                              try clear p36
                                              try clear q36
                                              try clear hx36
                                              try clear hf36
                                              try clear c44
                                              try clear c45
                                              try clear c47
                                              try clear c47b0
                                              try clear c48
                                              try clear c48b0
                                              try clear c49
                                              try clear c49b0
                                              try clear c50
                                              try clear c50b0
                                              try clear c50b1
                                              try clear c52
                                              try clear c52b0
                                              try clear c52b1
                                              try clear c53
                                              try clear c53b0
                                              try clear c54
                                              try clear c54b0
                                              try clear c55
                                              try clear c57
                                              try clear c57b0
                                              try clear c58
                                              try clear c58b0
                                              try clear hx161_0
                                              try clear hx162_0
                                              try clear hx163_0
                                              try clear hx176_0
                                              try clear hx177_0
                                              try clear hx178_0
                                              try clear hx24_0
                                              try clear hx36_0
                                              try clear p1
                                              try clear p16
                                              try clear p161
                                              try clear p162
                                              try clear p163
                                              try clear p176
                                              try clear p177
                                              try clear p178
                                              try clear p2
                                              try clear p24
                                              try clear p3
                                              try clear p36
                                              try clear p6
                                              try clear q1
                                              try clear q16
                                              try clear q161
                                              try clear q162
                                              try clear q163
                                              try clear q176
                                              try clear q177
                                              try clear q178
                                              try clear q2
                                              try clear q24
                                              try clear q3
                                              try clear q36
                                              obtain ⟨kq, x21_55, rfl, HA, HJ55, HO_8, HO_13, HB⟩ := hcut
                                              cases kq with
                                              | zero => exact absurd HA.out (by simp [amalgamlaw10_PickCover.j9])
                                              | succ kj55 =>
                                                have H := HA.out
                                                clear HA
                                                simp only [amalgamlaw10_PickCover.j9] at H
                                                by_cases c61 : x21_55 = true
                                                · subst c61
                                                  have H1 : (if (true != x17_7) = true then (some false) else (amalgamlaw10_PickCover.l3 kj55 x6_3 x8_2 t172 (wrap64 (x15_6 + 1)) ((x16_6 + 1) % 4294967296))) = some r := by rw [if_pos rfl] at H; exact H
                                                  clear H
                                                  have H := H1
                                                  clear H1
                                                  by_cases c62 : (true != x17_7) = true
                                                  · rw [if_pos c62] at H
                                                    have c62b0 : (true != x17_7) = true := c62
                                                    (try (have c62b1 : decide (true = x17_7) = false := by simpa using c62))
                                                    (try (have c62b2 : (true == x17_7) = false := by simpa using c62))
                                                    (try (have c62b3 : ¬ (true = x17_7) := by simpa using c62))
                                                    clear c62
                                                    obtain rfl := Option.some.inj H
                                                    go_wp2
                                                    go_ret
                                                    exact ⟨by first | rfl | (simp [errW_none, errW_some] <;> rfl) | (simp only [← hji46]; first | rfl | (simp [errW_none, errW_some] <;> rfl)) | (simp [*, errW_none, errW_some] <;> rfl), by repeat (first | (with_reducible first | exact HB.out | apply below_alloc | apply pw_below_drewN | apply below_drew1) | exact HB.out)⟩
                                                  · rw [if_neg c62] at H
                                                    have c62b0 : (true != x17_7) = false := by simpa using c62
                                                    (try (have c62b1 : decide (true = x17_7) = true := by simpa using c62))
                                                    (try (have c62b2 : (true == x17_7) = true := by simpa using c62))
                                                    clear c62
                                                    have H' := Aside0.mk H
                                                    clear H
                                                    go_wp2
                                                    go_roundg kj55
                                                    case measure => have := HJ3.out; have := HK2.out; have := HJ10.out; have := HK4.out; have := HJ39.out; have := HK6.out; have := HK7.out; have := HJ55.out; omega
                                                    case rel => exact ⟨(wrap64 (x15_6 + 1)), ((x16_6 + 1) % 4294967296), (by first | rfl | (simp; done) | (simp [*]; done)), (by first | rfl | (simp; done) | (simp [*]; done)), H', ⟨by have := HJ3.out; have := HK2.out; have := HJ10.out; have := HK4.out; have := HJ39.out; have := HK6.out; have := HK7.out; have := HJ55.out; omega⟩, ⟨by (with_reducible repeat (first | apply Kd.S_alloc | apply Kd.S_drewN | apply Kd.S_drew)); exact HO_8.out⟩, ⟨by (with_reducible repeat (first | apply Kd.R_alloc | apply Kd.R_drewN | apply Kd.R_drew)); exact HO_13.out⟩, ⟨by repeat (first | (with_reducible first | exact HB.out | apply below_alloc | apply pw_below_drewN | apply below_drew1) | exact HB.out)⟩⟩
                                                · replace c61 := Bool.eq_false_iff.mpr c61
                                                  subst c61
                                                  have H1 : (if (false != x17_7) = true then (some false) else (amalgamlaw10_PickCover.l3 kj55 x6_3 x8_2 t172 x15_6 ((x16_6 + 1) % 4294967296))) = some r := by rw [if_neg (show ¬ (false = true) by decide)] at H; exact H
                                                  clear H
                                                  have H := H1
                                                  clear H1
                                                  by_cases c63 : (false != x17_7) = true
                                                  · rw [if_pos c63] at H
                                                    have c63b0 : (false != x17_7) = true := c63
                                                    (try (have c63b1 : decide (false = x17_7) = false := by simpa using c63))
                                                    (try (have c63b2 : (false == x17_7) = false := by simpa using c63))
                                                    (try (have c63b3 : ¬ (false = x17_7) := by simpa using c63))
                                                    clear c63
                                                    obtain rfl := Option.some.inj H
                                                    go_wp2
                                                    go_ret
                                                    exact ⟨by first | rfl | (simp [errW_none, errW_some] <;> rfl) | (simp only [← hji46]; first | rfl | (simp [errW_none, errW_some] <;> rfl)) | (simp [*, errW_none, errW_some] <;> rfl), by repeat (first | (with_reducible first | exact HB.out | apply below_alloc | apply pw_below_drewN | apply below_drew1) | exact HB.out)⟩
                                                  · rw [if_neg c63] at H
                                                    have c63b0 : (false != x17_7) = false := by simpa using c63
                                                    (try (have c63b1 : decide (false = x17_7) = true := by simpa using c63))
                                                    (try (have c63b2 : (false == x17_7) = true := by simpa using c63))
                                                    clear c63
                                                    have H' := Aside0.mk H
                                                    clear H
                                                    go_wp2
                                                    go_roundg kj55
                                                    case measure => have := HJ3.out; have := HK2.out; have := HJ10.out; have := HK4.out; have := HJ39.out; have := HK6.out; have := HK7.out; have := HJ55.out; omega
                                                    case rel => exact ⟨(x15_6), ((x16_6 + 1) % 4294967296), (by first | rfl | (simp; done) | (simp [*]; done)), (by first | rfl | (simp; done) | (simp [*]; done)), H', ⟨by have := HJ3.out; have := HK2.out; have := HJ10.out; have := HK4.out; have := HJ39.out; have := HK6.out; have := HK7.out; have := HJ55.out; omega⟩, ⟨by (with_reducible repeat (first | apply Kd.S_alloc | apply Kd.S_drewN | apply Kd.S_drew)); exact HO_8.out⟩, ⟨by (with_reducible repeat (first | apply Kd.R_alloc | apply Kd.R_drewN | apply Kd.R_drew)); exact HO_13.out⟩, ⟨by repeat (first | (with_reducible first | exact HB.out | apply below_alloc | apply pw_below_drewN | apply below_drew1) | exact HB.out)⟩⟩
                                    · rw [if_neg c47] at H
                                      have c47b0 : decide (x16_6 < (ji46)) = false := decide_eq_false c47
                                      clear c47
                                      obtain rfl := Option.some.inj H
                                      obtain ⟨Ao64, co64, eo64⟩ := Kd.R_slice HO_13.out
                                      subst eo64
                                      go_wp2
                                      go_ret
                                      exact ⟨by first | rfl | (simp [errW_none, errW_some] <;> rfl) | (simp only [← hji46]; first | rfl | (simp [errW_none, errW_some] <;> rfl)) | (simp [*, errW_none, errW_some] <;> rfl), by repeat (first | (with_reducible first | exact HB.out | apply below_alloc | apply pw_below_drewN | apply below_drew1) | exact HB.out)⟩
        · rw [if_neg c8] at H
          exact absurd H (by simp)
      · rw [if_neg c7] at H
        exact absurd H (by simp)

end Go.Proofs.YtbdlihldmmbdmaaDoor.SK
