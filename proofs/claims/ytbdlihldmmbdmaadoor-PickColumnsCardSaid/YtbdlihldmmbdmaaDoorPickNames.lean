/- PickNames: a straight walk; what each call answers is told by the contracts, reckoned. -/
import Derived.Test.YtbdlihldmmbdmaaDoorPickAll
import Derived.Test.YtbdlihldmmbdmaaDoorSK3
import Derived.Test.YtbdlihldmmbdmaaDoorSK7
import Derived.Test.YtbdlihldmmbdmaaDoorSK9
import Derived.Test.YtbdlihldmmbdmaaDoorSK4
import Derived.Test.YtbdlihldmmbdmaaDoorSK6
import Derived.Test.YtbdlihldmmbdmaaDoorSK6
import Derived.Test.YtbdlihldmmbdmaaDoorSK10
namespace Go.Proofs.YtbdlihldmmbdmaaDoor.PickNames
open Go.RowKit Go.Proofs.YtbdlihldmmbdmaaDoor.SK Go.Proofs.YtbdlihldmmbdmaaDoorW.PrintWords Go.Proofs.YtbdlihldmmbdmaaDoorW.PrintMore Go.Proofs.YtbdlihldmmbdmaaDoor.Bits Go.Proofs.YtbdlihldmmbdmaaDoor.Plain Go.Proofs.YtbdlihldmmbdmaaDoor.PickAll
set_option linter.unusedVariables false

theorem eLives : amalgamlaw10_lives.f 200 = some true := by decide +kernel
theorem eThree : amalgamlaw10_three.f = some [[1, 1, 0], [0, 1, 1], [1, 0, 2]] := rfl
theorem e1 : pick_List.f 200 [[1, 1, 0], [0, 1, 1], [1, 0, 2]] [1, 1, 1] 4 = some ([3, 5, 6, 7], 0) := by decide +kernel
theorem e2 : pick_List.f 200 [[1, 1, 0], [0, 1, 1], [1, 0, 2]] [2, 1, 0] 3 = some ([1, 3, 6], 0) := by decide +kernel
theorem e3 : pick_List.f 200 [[1, 1, 0], [0, 1, 1], [1, 0, 2]] [0, 0, 0] 7 = some ([], 2) := by decide +kernel
theorem e4 : pick_Sum.f 200 [[1, 1, 0], [0, 1, 1], [1, 0, 2]] [0, 0, 0] 8 = some ([], 1) := by decide +kernel
theorem e5 : pick_Sum.f 200 [[1, 1, 0], [0, 1, 1], [1, 0, 2]] [0, 0, 0] 5 = some ([2, 1, 2], 0) := by decide +kernel
theorem e6 : pick_Check.f 200 (List.replicate 17 []) [] = some 101 := by decide +kernel
theorem e7 : pick_Check.f 200 [] [3] = some 102 := by decide +kernel
theorem e8 : pick_Check.f 200 [[1]] [] = some 103 := by decide +kernel
theorem e9 : amalgamref10_Same.f 200 [3, 5, 6, 7] [3, 5, 6, 7] = some true := by decide +kernel
theorem e10 : amalgamref10_Same.f 200 [1, 3, 6] [1, 3, 6] = some true := by decide +kernel
theorem e11 : amalgamref09_Same.f 200 [2, 1, 2] [2, 1, 2] = some true := by decide +kernel

theorem C_new (W : World) (t : TypeId) (k : IntKind) (xs : List Int) (hm : xs.length ≤ 9223372036854775807) :
    (Kd.int k).C (W.alloc (.cells (encs (Value.int k) xs).toArray t)) (some ⟨W.heap.size, 0, none⟩) xs.length xs :=
  (Kd.R_reads' (Kd.R_of_own (enc := Value.int k) (h1 := fun _ => rfl) (own_lit_of W W.heap.size t xs (Nat.le_refl _) hm) (fun _ _ => trivial) (ok := fun _ => True))).2.2
theorem C_none (k : IntKind) (W : World) : (Kd.int k).C W none 0 [] := ⟨rfl, Nat.zero_le _, fun h => absurd h (by decide)⟩
theorem C_noneL (W : World) : (Kd.slice 3 (Kd.int .i64)).C W none 0 [] := ⟨rfl, Nat.zero_le _, fun h => absurd h (by decide)⟩
theorem C_one {W : World} {A : Option Addr} {c g : Nat} {xs : List Int} (t : TypeId) (hg : g = W.heap.size) (hc : xs.length ≤ c) (h : (Kd.int .i64).C W A xs.length xs) :
    (Kd.slice 3 (Kd.int .i64)).C (W.alloc (.cells #[.slice A xs.length c] t)) (some ⟨g, 0, none⟩) 1 [xs] := by
  subst hg
  refine ⟨rfl, by decide, fun _ => ⟨_, rfl, fun j p hj => ?_⟩⟩
  cases j with
  | zero =>
    have hp : xs = p := by simpa using hj
    subst hp
    refine ⟨[.slice A xs.length c], rfl, ⟨A, c, rfl, hc, Kd.C_below h (below_alloc (Below.refl _ _) _)⟩, fun i u hu => ?_⟩
    cases i with
    | zero =>
      have : Value.slice A xs.length c = u := by simpa using hu
      subst this
      exact cell_of_one (heap_alloc_new W (.cells #[.slice A xs.length c] t))
    | succ i => simp at hu
  | succ j => simp at hj

set_option maxHeartbeats 4000000 in
theorem names_calls (w : World) (hT : TabW w) : Calls Tryd.prog 5 #[] w fun e w' => e = .returned (.bool true) ∧ Below w.heap.size w w' := by
  have HT := Aside0.mk hT
  clear hT
  have hmk : ∀ W : World, (Instr.makeSlice 22 (.int .i64 17) (.int .i64 17)).run Tryd.prog W = .ok (.slice (some ⟨W.heap.size, 0, none⟩) 17 17) (W.alloc (.cells (madeCells #[.slice none 0 0] 17) 23)) := make_rows 17 (by decide)
  go_enter Tryd.func5, Tryd.ntmps5
  go_wp2_with (fail)
  refine (amalgamlaw10_lives.calls 200 true w eLives HT.out).mono ?_
  rintro e w0 ⟨rfl, hb⟩
  have HB := Aside0.mk hb
  clear hb
  go_wp2_with (fail)
  refine (amalgamlaw10_three.calls _ _ eThree).mono ?_
  rintro e wa1 ⟨va1, rfl, ho, hb⟩
  obtain ⟨A1, c1, rfl⟩ := Kd.N_slice ho
  have HC := Aside0.mk (Kd.N_reads' ho)
  have hstep := hb
  have HB' := Aside0.mk (HB.out.trans (hstep.mono HB.out.size))
  clear HB
  have HB := HB'
  clear HB'
  clear hstep
  clear hb ho
  go_wp2_with (fail)
  refine (pick_List.calls 200 A1 c1 [[1, 1, 0], [0, 1, 1], [1, 0, 2]] _ 3 [1, 1, 1] 4 _ _ _ (Kd.C_below HC.out.2.2 (below_alloc (Below.refl _ _) _)) HC.out.2.1 (C_new wa1 3 .i64 [1, 1, 1] (by decide)) (Nat.le_refl _) e1 (HT.out.below (HB.out.trans ((below_alloc (Below.refl _ _) _).mono HB.out.size)))).mono ?_
  rintro e wb1 ⟨vb1, rfl, ho, hb⟩
  obtain ⟨B1, d1, rfl⟩ := Kd.R_slice ho
  have hstep := (below_alloc (Below.refl _ _) _).trans (hb.mono (by simp))
  have HB' := Aside0.mk (HB.out.trans (hstep.mono HB.out.size))
  clear HB
  have HB := HB'
  clear HB'
  clear hstep
  have HR1 := Aside0.mk (Kd.R_reads' ho).2.2
  have hd1 := (Kd.R_reads' ho).2.1
  clear hb ho HC
  go_wp2_with (fail)
  refine (amalgamlaw10_three.calls _ _ eThree).mono ?_
  rintro e wa2 ⟨va2, rfl, ho, hb⟩
  obtain ⟨A2, c2, rfl⟩ := Kd.N_slice ho
  have HC := Aside0.mk (Kd.N_reads' ho)
  have hstep := hb
  have HB' := Aside0.mk (HB.out.trans (hstep.mono HB.out.size))
  clear HB
  have HB := HB'
  clear HB'
  have HX := Aside0.mk (Kd.C_below HR1.out hstep)
  clear HR1
  have HR1 := HX
  clear HX
  clear hstep
  clear hb ho
  go_wp2_with (fail)
  refine (pick_List.calls 200 A2 c2 [[1, 1, 0], [0, 1, 1], [1, 0, 2]] _ 3 [2, 1, 0] 3 _ _ _ (Kd.C_below HC.out.2.2 (below_alloc (Below.refl _ _) _)) HC.out.2.1 (C_new wa2 3 .i64 [2, 1, 0] (by decide)) (Nat.le_refl _) e2 (HT.out.below (HB.out.trans ((below_alloc (Below.refl _ _) _).mono HB.out.size)))).mono ?_
  rintro e wb2 ⟨vb2, rfl, ho, hb⟩
  obtain ⟨B2, d2, rfl⟩ := Kd.R_slice ho
  have hstep := (below_alloc (Below.refl _ _) _).trans (hb.mono (by simp))
  have HB' := Aside0.mk (HB.out.trans (hstep.mono HB.out.size))
  clear HB
  have HB := HB'
  clear HB'
  have HX := Aside0.mk (Kd.C_below HR1.out hstep)
  clear HR1
  have HR1 := HX
  clear HX
  clear hstep
  have HR2 := Aside0.mk (Kd.R_reads' ho).2.2
  have hd2 := (Kd.R_reads' ho).2.1
  clear hb ho HC
  go_wp2_with (fail)
  refine (amalgamlaw10_three.calls _ _ eThree).mono ?_
  rintro e wa3 ⟨va3, rfl, ho, hb⟩
  obtain ⟨A3, c3, rfl⟩ := Kd.N_slice ho
  have HC := Aside0.mk (Kd.N_reads' ho)
  have hstep := hb
  have HB' := Aside0.mk (HB.out.trans (hstep.mono HB.out.size))
  clear HB
  have HB := HB'
  clear HB'
  have HX := Aside0.mk (Kd.C_below HR1.out hstep)
  clear HR1
  have HR1 := HX
  clear HX
  have HX := Aside0.mk (Kd.C_below HR2.out hstep)
  clear HR2
  have HR2 := HX
  clear HX
  clear hstep
  clear hb ho
  go_wp2_with (fail)
  refine (pick_List.calls 200 A3 c3 [[1, 1, 0], [0, 1, 1], [1, 0, 2]] _ 3 [0, 0, 0] 7 _ _ _ (Kd.C_below HC.out.2.2 (below_alloc (Below.refl _ _) _)) HC.out.2.1 (C_new wa3 3 .i64 [0, 0, 0] (by decide)) (Nat.le_refl _) e3 (HT.out.below (HB.out.trans ((below_alloc (Below.refl _ _) _).mono HB.out.size)))).mono ?_
  rintro e wb3 ⟨vb3, rfl, ho, hb⟩
  obtain ⟨B3, d3, rfl⟩ := Kd.R_slice ho
  have hstep := (below_alloc (Below.refl _ _) _).trans (hb.mono (by simp))
  have HB' := Aside0.mk (HB.out.trans (hstep.mono HB.out.size))
  clear HB
  have HB := HB'
  clear HB'
  have HX := Aside0.mk (Kd.C_below HR1.out hstep)
  clear HR1
  have HR1 := HX
  clear HX
  have HX := Aside0.mk (Kd.C_below HR2.out hstep)
  clear HR2
  have HR2 := HX
  clear HX
  clear hstep
  clear hb ho HC
  go_wp2_with (fail)
  refine (amalgamlaw10_three.calls _ _ eThree).mono ?_
  rintro e wa4 ⟨va4, rfl, ho, hb⟩
  obtain ⟨A4, c4, rfl⟩ := Kd.N_slice ho
  have HC := Aside0.mk (Kd.N_reads' ho)
  have hstep := hb
  have HB' := Aside0.mk (HB.out.trans (hstep.mono HB.out.size))
  clear HB
  have HB := HB'
  clear HB'
  have HX := Aside0.mk (Kd.C_below HR1.out hstep)
  clear HR1
  have HR1 := HX
  clear HX
  have HX := Aside0.mk (Kd.C_below HR2.out hstep)
  clear HR2
  have HR2 := HX
  clear HX
  clear hstep
  clear hb ho
  go_wp2_with (fail)
  refine (pick_Sum.calls 200 A4 c4 [[1, 1, 0], [0, 1, 1], [1, 0, 2]] _ 3 [0, 0, 0] 8 _ _ _ (Kd.C_below HC.out.2.2 (below_alloc (Below.refl _ _) _)) HC.out.2.1 (C_new wa4 3 .i64 [0, 0, 0] (by decide)) (Nat.le_refl _) e4 (HT.out.below (HB.out.trans ((below_alloc (Below.refl _ _) _).mono HB.out.size)))).mono ?_
  rintro e wb4 ⟨vb4, rfl, ho, hb⟩
  obtain ⟨B4, d4, rfl⟩ := Kd.R_slice ho
  have hstep := (below_alloc (Below.refl _ _) _).trans (hb.mono (by simp))
  have HB' := Aside0.mk (HB.out.trans (hstep.mono HB.out.size))
  clear HB
  have HB := HB'
  clear HB'
  have HX := Aside0.mk (Kd.C_below HR1.out hstep)
  clear HR1
  have HR1 := HX
  clear HX
  have HX := Aside0.mk (Kd.C_below HR2.out hstep)
  clear HR2
  have HR2 := HX
  clear HX
  clear hstep
  clear hb ho HC
  go_wp2_with (fail)
  refine (amalgamlaw10_three.calls _ _ eThree).mono ?_
  rintro e wa5 ⟨va5, rfl, ho, hb⟩
  obtain ⟨A5, c5, rfl⟩ := Kd.N_slice ho
  have HC := Aside0.mk (Kd.N_reads' ho)
  have hstep := hb
  have HB' := Aside0.mk (HB.out.trans (hstep.mono HB.out.size))
  clear HB
  have HB := HB'
  clear HB'
  have HX := Aside0.mk (Kd.C_below HR1.out hstep)
  clear HR1
  have HR1 := HX
  clear HX
  have HX := Aside0.mk (Kd.C_below HR2.out hstep)
  clear HR2
  have HR2 := HX
  clear HX
  clear hstep
  clear hb ho
  go_wp2_with (fail)
  refine (pick_Sum.calls 200 A5 c5 [[1, 1, 0], [0, 1, 1], [1, 0, 2]] _ 3 [0, 0, 0] 5 _ _ _ (Kd.C_below HC.out.2.2 (below_alloc (Below.refl _ _) _)) HC.out.2.1 (C_new wa5 3 .i64 [0, 0, 0] (by decide)) (Nat.le_refl _) e5 (HT.out.below (HB.out.trans ((below_alloc (Below.refl _ _) _).mono HB.out.size)))).mono ?_
  rintro e wb5 ⟨vb5, rfl, ho, hb⟩
  obtain ⟨B5, d5, rfl⟩ := Kd.R_slice ho
  have hstep := (below_alloc (Below.refl _ _) _).trans (hb.mono (by simp))
  have HB' := Aside0.mk (HB.out.trans (hstep.mono HB.out.size))
  clear HB
  have HB := HB'
  clear HB'
  have HX := Aside0.mk (Kd.C_below HR1.out hstep)
  clear HR1
  have HR1 := HX
  clear HX
  have HX := Aside0.mk (Kd.C_below HR2.out hstep)
  clear HR2
  have HR2 := HX
  clear HX
  clear hstep
  have HR5 := Aside0.mk (Kd.R_reads' ho).2.2
  have hd5 := (Kd.R_reads' ho).2.1
  clear hb ho HC
  go_wp2_with (fail)
  refine (pick_Check.calls 200 (some _) 17 (List.replicate 17 []) none 0 [] 101 _ (Kd.R_reads' (R_made_rows _ _ 17 (fun _ => True) trivial (Nat.le_refl _) (by decide))).2.2 (Nat.le_refl _) (C_none _ _) (Nat.le_refl _) e6).mono ?_
  rintro e wc6 ⟨rfl, hb⟩
  have hstep := (below_alloc (Below.refl _ _) _).trans (hb.mono (by simp))
  have HB' := Aside0.mk (HB.out.trans (hstep.mono HB.out.size))
  clear HB
  have HB := HB'
  clear HB'
  have HX := Aside0.mk (Kd.C_below HR1.out hstep)
  clear HR1
  have HR1 := HX
  clear HX
  have HX := Aside0.mk (Kd.C_below HR2.out hstep)
  clear HR2
  have HR2 := HX
  clear HX
  have HX := Aside0.mk (Kd.C_below HR5.out hstep)
  clear HR5
  have HR5 := HX
  clear HX
  clear hstep
  clear hb
  go_wp2_with (fail)
  refine (pick_Check.calls 200 none 0 [] (some _) 1 [3] 102 _ (C_noneL _) (Nat.le_refl _) (C_new wc6 3 .i64 [3] (by decide)) (Nat.le_refl _) e7).mono ?_
  rintro e wc7 ⟨rfl, hb⟩
  have hstep := (below_alloc (Below.refl _ _) _).trans (hb.mono (by simp))
  have HB' := Aside0.mk (HB.out.trans (hstep.mono HB.out.size))
  clear HB
  have HB := HB'
  clear HB'
  have HX := Aside0.mk (Kd.C_below HR1.out hstep)
  clear HR1
  have HR1 := HX
  clear HX
  have HX := Aside0.mk (Kd.C_below HR2.out hstep)
  clear HR2
  have HR2 := HX
  clear HX
  have HX := Aside0.mk (Kd.C_below HR5.out hstep)
  clear HR5
  have HR5 := HX
  clear HX
  clear hstep
  clear hb
  go_wp2_with (fail)
  refine (pick_Check.calls 200 (some _) 1 [[1]] none 0 [] 103 _ (C_one (xs := [1]) 23 (World.size_alloc _ _).symm (Nat.le_refl _) (C_new wc7 3 .i64 [1] (by decide))) (Nat.le_refl _) (C_none _ _) (Nat.le_refl _) e8).mono ?_
  rintro e wc8 ⟨rfl, hb⟩
  have hstep := (below_alloc (below_alloc (Below.refl _ _) _) _).trans (hb.mono (by simp; omega))
  have HB' := Aside0.mk (HB.out.trans (hstep.mono HB.out.size))
  clear HB
  have HB := HB'
  clear HB'
  have HX := Aside0.mk (Kd.C_below HR1.out hstep)
  clear HR1
  have HR1 := HX
  clear HX
  have HX := Aside0.mk (Kd.C_below HR2.out hstep)
  clear HR2
  have HR2 := HX
  clear HX
  have HX := Aside0.mk (Kd.C_below HR5.out hstep)
  clear HR5
  have HR5 := HX
  clear HX
  clear hstep
  clear hb
  go_wp2_with (fail)
  refine (amalgamref10_Same.calls 200 B1 _ [3, 5, 6, 7] (some _) 4 [3, 5, 6, 7] true _ (Kd.C_below HR1.out (below_alloc (Below.refl _ _) _)) hd1 (C_new wc8 37 .u32 [3, 5, 6, 7] (by decide)) (Nat.le_refl _) e9).mono ?_
  rintro e wd9 ⟨rfl, hb⟩
  replace hb := hb.below
  have hstep := (below_alloc (Below.refl _ _) _).trans (hb.mono (by simp))
  have HB' := Aside0.mk (HB.out.trans (hstep.mono HB.out.size))
  clear HB
  have HB := HB'
  clear HB'
  have HX := Aside0.mk (Kd.C_below HR1.out hstep)
  clear HR1
  have HR1 := HX
  clear HX
  have HX := Aside0.mk (Kd.C_below HR2.out hstep)
  clear HR2
  have HR2 := HX
  clear HX
  have HX := Aside0.mk (Kd.C_below HR5.out hstep)
  clear HR5
  have HR5 := HX
  clear HX
  clear hstep
  clear hb
  go_wp2_with (fail)
  refine (amalgamref10_Same.calls 200 B2 _ [1, 3, 6] (some _) 3 [1, 3, 6] true _ (Kd.C_below HR2.out (below_alloc (Below.refl _ _) _)) hd2 (C_new wd9 37 .u32 [1, 3, 6] (by decide)) (Nat.le_refl _) e10).mono ?_
  rintro e wd10 ⟨rfl, hb⟩
  replace hb := hb.below
  have hstep := (below_alloc (Below.refl _ _) _).trans (hb.mono (by simp))
  have HB' := Aside0.mk (HB.out.trans (hstep.mono HB.out.size))
  clear HB
  have HB := HB'
  clear HB'
  have HX := Aside0.mk (Kd.C_below HR1.out hstep)
  clear HR1
  have HR1 := HX
  clear HX
  have HX := Aside0.mk (Kd.C_below HR2.out hstep)
  clear HR2
  have HR2 := HX
  clear HX
  have HX := Aside0.mk (Kd.C_below HR5.out hstep)
  clear HR5
  have HR5 := HX
  clear HX
  clear hstep
  clear hb
  go_wp2_with (fail)
  refine (amalgamref09_Same.calls 200 B5 _ [2, 1, 2] (some _) 3 [2, 1, 2] true _ (Kd.C_below HR5.out (below_alloc (Below.refl _ _) _)) hd5 (C_new wd10 3 .i64 [2, 1, 2] (by decide)) (Nat.le_refl _) e11).mono ?_
  rintro e wd11 ⟨rfl, hb⟩
  replace hb := hb.below
  have hstep := (below_alloc (Below.refl _ _) _).trans (hb.mono (by simp))
  have HB' := Aside0.mk (HB.out.trans (hstep.mono HB.out.size))
  clear HB
  have HB := HB'
  clear HB'
  have HX := Aside0.mk (Kd.C_below HR1.out hstep)
  clear HR1
  have HR1 := HX
  clear HX
  have HX := Aside0.mk (Kd.C_below HR2.out hstep)
  clear HR2
  have HR2 := HX
  clear HX
  have HX := Aside0.mk (Kd.C_below HR5.out hstep)
  clear HR5
  have HR5 := HX
  clear HX
  clear hstep
  clear hb
  go_wp2
  go_ret
  exact ⟨rfl, HB.out⟩
end Go.Proofs.YtbdlihldmmbdmaaDoor.PickNames
