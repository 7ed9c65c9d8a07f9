/- The law PickSums holds, where what came in and the table hold together at most 1048576 values: the call answers true and all that came in reads as it did; the printed and hand-written texts that this takes. (part 3 of 3) -/
import Derived.Test.YtbdlihldmmbdmaaDoorMPickSums1
import Derived.Test.YtbdlihldmmbdmaaDoorMPickSums2
import Derived.Deep.QuietTactic
import Derived.BigQuiet
import Derived.Test.YtbdlihldmmbdmaaDoorCards
import Derived.Test.YtbdlihldmmbdmaaDoorTie
import Derived.Deep.DeepHandedRow
import Derived.Lib.LaidTab
namespace Go.Proofs.YtbdlihldmmbdmaaDoor.Lent
open Go.RowKit Go.Proofs.YtbdlihldmmbdmaaDoor.SK Go.Proofs.YtbdlihldmmbdmaaDoorW.PrintWords Go.Proofs.YtbdlihldmmbdmaaDoorW.PrintMore Go.Proofs.YtbdlihldmmbdmaaDoor.Plain Go.Proofs.YtbdlihldmmbdmaaDoor.PickSpec Go.Proofs.YtbdlihldmmbdmaaDoor.PickFn Go.Proofs.YtbdlihldmmbdmaaDoor.Full Go.Proofs.YtbdlihldmmbdmaaDoor.Range Go.Proofs.YtbdlihldmmbdmaaDoor.Spoil
set_option linter.unusedVariables false

theorem Lent.move {W W' : World} {base g : Nat} {rows : List (List Int)} {S : Nat → Prop} (h : Lent W base g rows) (hO : Only S W W') (hs : ∀ k, base ≤ k → k < W.heap.size → ¬ S k) : Lent W' base g rows := by
  obtain ⟨vals, m, h1, h2, h3, h4, h5, h6⟩ := h
  have hk : ∀ k o, base ≤ k → W.heap[k]? = some o → W'.heap[k]? = some o := fun k o hb hk => keeps_of hO (hs k hb (Array.getElem?_eq_some_iff.1 hk).1) hk
  exact ⟨vals, m, hk _ _ h3 h1, h2, h3, h4, hk _ _ h4 h5, fun j xs u hj hu => by
    obtain ⟨b, e, h7, h8⟩ := h6 j xs u hj hu
    exact ⟨b, e, h7, hk _ _ h7 h8⟩⟩
theorem Lent.below {W W' : World} {base g : Nat} {rows : List (List Int)} (h : Lent W base g rows) (hb : Below W.heap.size W W') : Lent W' base g rows := h.move (Only.of_below (S := fun _ => False) hb) (fun _ _ _ h => h)
theorem Lent.at {W : World} {base g : Nat} {rows : List (List Int)} (h : Lent W base g rows) (i : Nat) (hi : i < rows.length) (hm : rows[i].length ≤ maxLen) :
    ∃ b, W.cell? ⟨g, i, none⟩ = some (.slice (some ⟨b, 0, none⟩) rows[i].length (rows[i].length + 1)) ∧ W.cell? ⟨b, rows[i].length, none⟩ = some (.int .i64 77) ∧ (Kd.int .i64).C W (some ⟨b, 0, none⟩) rows[i].length rows[i] := by
  obtain ⟨vals, m, h1, h2, h3, h4, h5, h6⟩ := h
  have hiv : i < vals.length := by omega
  obtain ⟨b, e, h7, h8⟩ := h6 i rows[i] vals[i] (List.getElem?_eq_getElem hi) (List.getElem?_eq_getElem hiv)
  refine ⟨b, ?_, ?_, Kd.C_of_reads (d := (0 : Int)) ⟨rfl, by simpa only [maxLen] using hm, fun hn => ⟨_, rfl, fun j hj => ?_⟩⟩⟩
  · rw [cell_at h1, List.getElem?_toArray, List.getElem?_append_left hiv, List.getElem?_eq_getElem hiv, e]
  · rw [cell_at h8, List.getElem?_toArray]; simp
  · rw [Addr.add_lit, cell_at h8, List.getElem?_toArray, List.map_append, List.getElem?_append_left (by simp; omega), List.getElem?_map, List.getD_eq_getElem?_getD]
    rw [Nat.zero_add, List.getElem?_eq_getElem hj]; rfl
theorem Lent.last {W : World} {base g : Nat} {rows : List (List Int)} (h : Lent W base g rows) : ∃ m, W.cell? ⟨g, rows.length, none⟩ = some (.slice (some ⟨m, 0, none⟩) 1 1) := by
  obtain ⟨vals, m, h1, h2, h3, h4, h5, h6⟩ := h
  exact ⟨m, by rw [cell_at h1, List.getElem?_toArray, ← h2]; simp⟩
theorem Lent.reads {W : World} {base g : Nat} {rows : List (List Int)} (h : Lent W base g rows) (hn : rows.length ≤ 1048576) (hl : ∀ row ∈ rows, row.length ≤ 1048576) : (Kd.slice 3 (Kd.int .i64)).C W (some ⟨g, 0, none⟩) rows.length rows := by
  refine ⟨rfl, by omega, fun hp => ⟨_, rfl, fun j p hj => ?_⟩⟩
  obtain ⟨hj1, hj2⟩ := List.getElem?_eq_some_iff.1 hj
  have hml := hl _ (List.getElem_mem hj1)
  obtain ⟨b, k1, k2, k3⟩ := h.at j hj1 (by simp only [maxLen]; omega)
  rw [hj2] at k1 k2 k3
  refine ⟨[.slice (some ⟨b, 0, none⟩) p.length (p.length + 1)], rfl, ⟨_, _, rfl, by omega, k3⟩, fun i y hy => ?_⟩
  cases i with
  | zero =>
    have : Value.slice (some ⟨b, 0, none⟩) p.length (p.length + 1) = y := by simpa using hy
    subst this
    show W.cell? ((⟨g, 0, none⟩ : Addr).add (j * (Kd.slice 3 (Kd.int .i64)).sz + 0)) = _
    rw [Addr.add_lit]
    simpa [Kd.slice] using k1
  | succ i => simp at hy
/-- spoil may write over all of it. -/
theorem Lent.spoils {W : World} {base g : Nat} {rows : List (List Int)} (h : Lent W base g rows) (hn : rows.length ≤ 1048576) (hl : ∀ row ∈ rows, row.length ≤ 1048576) : ∃ vals, Spoils W base g vals ∧ vals.length = rows.length + 1 := by
  obtain ⟨vals, m, h1, h2, h3, h4, h5, h6⟩ := h
  refine ⟨vals ++ [.slice (some ⟨m, 0, none⟩) 1 1], ⟨h1, by simp [h2, maxLen]; omega, fun u hu => ?_⟩, by simp [h2]⟩
  rcases List.mem_append.1 hu with hu | hu
  · obtain ⟨j, hj, rfl⟩ := List.getElem_of_mem hu
    obtain ⟨b, e, h7, h8⟩ := h6 j rows[j] vals[j] (List.getElem?_eq_getElem (by omega)) (List.getElem?_eq_getElem hj)
    have := hl _ (List.getElem_mem (show j < rows.length by omega))
    exact .inr ⟨b, _, _, _, e, by omega, by simp only [maxLen]; omega, h7, h8, by simp⟩
  · rw [List.mem_singleton.1 hu]
    exact .inr ⟨m, 1, 1, _, rfl, Nat.le_refl _, by simp [maxLen], h4, h5, rfl⟩

set_option maxHeartbeats 4000000 in
theorem kept_any (base g : Nat) (A0 : Option Addr) (c0 : Nat) (rows : List (List Int)) (w : World) (hL : Lent w base g rows) (hr : Kd.C (Kd.slice 3 (Kd.int .i64)) w A0 rows.length rows) (hc : rows.length ≤ c0) (hn : rows.length ≤ 1048576) (hl : ∀ row ∈ rows, row.length ≤ 1048576) :
    Calls Tryd.prog 13 #[.slice (some ⟨g, 0, none⟩) rows.length (rows.length + 1), .slice A0 rows.length c0] w fun e w' => e = .returned (.bool true) ∧ Below w.heap.size w w' := by
  obtain ⟨k, hk⟩ := Ev.rounds (sameAll_ev rows (by omega) (fun xs hx => by have := hl xs hx; omega))
  have HS := Aside0.mk (amalgamref09_SameAll.calls k (some ⟨g, 0, none⟩) (rows.length + 1) rows A0 c0 rows true w (hL.reads hn hl) (by omega) hr hc hk)
  have HL := Aside0.mk hL
  have HM := Aside0.mk hl
  clear hk hL hr hl hc
  go_enter Tryd.func13, Tryd.ntmps13
  go_wp2_with (fail)
  refine HS.out.mono ?_
  rintro e w1 ⟨rfl, hd⟩
  have HB := Aside0.mk (show Below w.heap.size w w1 from hd.below)
  have HL1 := Aside0.mk (HL.out.below HB.out)
  clear hd HS HL
  go_wp2
  go_loopw [6] (fun v6 wr => ∃ i : Nat, v6 = .int .i64 (i : Int) ∧ i ≤ rows.length ∧ Aside0 (Lent wr base g rows) ∧ Aside0 (Below w.heap.size w wr)) (fun v6 _ => rows.length - (intOf v6).toNat)
  case atStart => exact ⟨0, rfl, Nat.zero_le _, HL1, HB⟩
  case round =>
    clear HL1 HB
    obtain ⟨i, rfl, hi, HL, HB⟩ := hrel
    by_cases hin : i < rows.length
    · have hlen := HM.out _ (List.getElem_mem hin)
      obtain ⟨b, k1, k2, _⟩ := HL.out.at i hin (by simp only [maxLen]; omega)
      obtain ⟨n, hnn⟩ : ∃ n, n = rows[i].length := ⟨_, rfl⟩
      rw [← hnn] at k1 k2 hlen
      have hw1 : IntKind.i64.wrap ((n : Int) + 1) = (n : Int) + 1 := IntWalk.i64_in _ (by omega)
      clear hnn
      go_wp2_with (fail)
      have hp1 : (0 : Int) ≤ (n : Int) + 1 := by omega
      have hp2 : ((n : Int) + 1).toNat = n + 1 := by omega
      go_quiet (fail)
      go_wp2
      have hb := ((Drawn0.refl wr).step nq).below
      exact ⟨⟨i + 1, by go_num, by omega, ⟨HL.out.below hb⟩, ⟨HB.out.trans (hb.mono HB.out.size)⟩⟩, by simp only [intOf]; omega⟩
    · have hie : i = rows.length := by omega
      subst hie
      obtain ⟨m, k1⟩ := HL.out.last
      go_wp2
      go_ret
      exact ⟨rfl, HB.out⟩
end Go.Proofs.YtbdlihldmmbdmaaDoor.Lent

namespace Go.Proofs.YtbdlihldmmbdmaaDoor.PickNames
open Go.RowKit Go.Proofs.YtbdlihldmmbdmaaDoor.SK Go.Proofs.YtbdlihldmmbdmaaDoorW.PrintWords Go.Proofs.YtbdlihldmmbdmaaDoorW.PrintMore Go.Proofs.YtbdlihldmmbdmaaDoor.Bits Go.Proofs.YtbdlihldmmbdmaaDoor.Plain Go.Proofs.YtbdlihldmmbdmaaDoor.PickAll
set_option linter.unusedVariables false

theorem eLives : amalgamlaw10_lives.f 200 = some true := by decide +kernel
theorem eThree : amalgamlaw10_three.f = some [[1, 1, 0], [0, 1, 1], [1, 0, 2]] := rfl
theorem e1 : pick_List.f 200 [[1, 1, 0], [0, 1, 1], [1, 0, 2]] [1, 1, 1] 4 = some ([3, 5, 6, 7], 0) := by decide +kernel
theorem e2 : pick_List.f 200 [[1, 1, 0], [0, 1, 1], [1, 0, 2]] [2, 1, 0] 3 = some ([1, 3, 6], 0) := by decide +kernel
theorem e3 : pick_List.f 200 [[1, 1, 0], [0, 1, 1], [1, 0, 2]] [0, 0, 0] 7 = some ([], 2) := by decide +kernel
theorem e4 : pick_Sum.f 200 [[1, 1, 0], [0, 1, 1], [1, 0, 2]] [0, 0, 0] 8 = some ([], 1) := by decide +kernel
theorem e5 : pick_Sum.f 200 [[1, 1, 0], [0, 1, 1], [1, 0, 2]] [0, 0, 0] 5 = some ([2, 1, 2], 0) := by decide +kernel
theorem e6 : pick_Check.f 200 (List.replicate 17 []) [] = some 101 := by decide +kernel
theorem e7 : pick_Check.f 200 [] [3] = some 102 := by decide +kernel
theorem e8 : pick_Check.f 200 [[1]] [] = some 103 := by decide +kernel
theorem e9 : amalgamref10_Same.f 200 [3, 5, 6, 7] [3, 5, 6, 7] = some true := by decide +kernel
theorem e10 : amalgamref10_Same.f 200 [1, 3, 6] [1, 3, 6] = some true := by decide +kernel
theorem e11 : amalgamref09_Same.f 200 [2, 1, 2] [2, 1, 2] = some true := by decide +kernel

theorem C_new (W : World) (t : TypeId) (k : IntKind) (xs : List Int) (hm : xs.length ≤ 9223372036854775807) :
    (Kd.int k).C (W.alloc (.cells (encs (Value.int k) xs).toArray t)) (some ⟨W.heap.size, 0, none⟩) xs.length xs :=
  (Kd.R_reads' (Kd.R_of_own (enc := Value.int k) (h1 := fun _ => rfl) (own_lit_of W W.heap.size t xs (Nat.le_refl _) hm) (fun _ _ => trivial) (ok := fun _ => True))).2.2
theorem C_none (k : IntKind) (W : World) : (Kd.int k).C W none 0 [] := ⟨rfl, Nat.zero_le _, fun h => absurd h (by decide)⟩
theorem C_noneL (W : World) : (Kd.slice 3 (Kd.int .i64)).C W none 0 [] := ⟨rfl, Nat.zero_le _, fun h => absurd h (by decide)⟩
theorem C_one {W : World} {A : Option Addr} {c g : Nat} {xs : List Int} (t : TypeId) (hg : g = W.heap.size) (hc : xs.length ≤ c) (h : (Kd.int .i64).C W A xs.length xs) :
    (Kd.slice 3 (Kd.int .i64)).C (W.alloc (.cells #[.slice A xs.length c] t)) (some ⟨g, 0, none⟩) 1 [xs] := by
  subst hg
  refine ⟨rfl, by decide, fun _ => ⟨_, rfl, fun j p hj => ?_⟩⟩
  cases j with
  | zero =>
    have hp : xs = p := by simpa using hj
    subst hp
    refine ⟨[.slice A xs.length c], rfl, ⟨A, c, rfl, hc, Kd.C_below h (below_alloc (Below.refl _ _) _)⟩, fun i u hu => ?_⟩
    cases i with
    | zero =>
      have : Value.slice A xs.length c = u := by simpa using hu
      subst this
      exact cell_of_one (heap_alloc_new W (.cells #[.slice A xs.length c] t))
    | succ i => simp at hu
  | succ j => simp at hj

set_option maxHeartbeats 4000000 in
theorem names_calls (w : World) (hT : TabW w) : Calls Tryd.prog 5 #[] w fun e w' => e = .returned (.bool true) ∧ Below w.heap.size w w' := by
  have HT := Aside0.mk hT
  clear hT
  have hmk : ∀ W : World, (Instr.makeSlice 22 (.int .i64 17) (.int .i64 17)).run Tryd.prog W = .ok (.slice (some ⟨W.heap.size, 0, none⟩) 17 17) (W.alloc (.cells (madeCells #[.slice none 0 0] 17) 23)) := make_rows 17 (by decide)
  go_enter Tryd.func5, Tryd.ntmps5
  go_wp2_with (fail)
  refine (amalgamlaw10_lives.calls 200 true w eLives HT.out).mono ?_
  rintro e w0 ⟨rfl, hb⟩
  have HB := Aside0.mk hb
  clear hb
  go_wp2_with (fail)
  refine (amalgamlaw10_three.calls _ _ eThree).mono ?_
  rintro e wa1 ⟨va1, rfl, ho, hb⟩
  obtain ⟨A1, c1, rfl⟩ := Kd.N_slice ho
  have HC := Aside0.mk (Kd.N_reads' ho)
  have hstep := hb
  have HB' := Aside0.mk (HB.out.trans (hstep.mono HB.out.size))
  clear HB
  have HB := HB'
  clear HB'
  clear hstep
  clear hb ho
  go_wp2_with (fail)
  refine (pick_List.calls 200 A1 c1 [[1, 1, 0], [0, 1, 1], [1, 0, 2]] _ 3 [1, 1, 1] 4 _ _ _ (Kd.C_below HC.out.2.2 (below_alloc (Below.refl _ _) _)) HC.out.2.1 (C_new wa1 3 .i64 [1, 1, 1] (by decide)) (Nat.le_refl _) e1 (HT.out.below (HB.out.trans ((below_alloc (Below.refl _ _) _).mono HB.out.size)))).mono ?_
  rintro e wb1 ⟨vb1, rfl, ho, hb⟩
  obtain ⟨B1, d1, rfl⟩ := Kd.R_slice ho
  have hstep := (below_alloc (Below.refl _ _) _).trans (hb.mono (by simp))
  have HB' := Aside0.mk (HB.out.trans (hstep.mono HB.out.size))
  clear HB
  have HB := HB'
  clear HB'
  clear hstep
  have HR1 := Aside0.mk (Kd.R_reads' ho).2.2
  have hd1 := (Kd.R_reads' ho).2.1
  clear hb ho HC
  go_wp2_with (fail)
  refine (amalgamlaw10_three.calls _ _ eThree).mono ?_
  rintro e wa2 ⟨va2, rfl, ho, hb⟩
  obtain ⟨A2, c2, rfl⟩ := Kd.N_slice ho
  have HC := Aside0.mk (Kd.N_reads' ho)
  have hstep := hb
  have HB' := Aside0.mk (HB.out.trans (hstep.mono HB.out.size))
  clear HB
  have HB := HB'
  clear HB'
  have HX := Aside0.mk (Kd.C_below HR1.out hstep)
  clear HR1
  have HR1 := HX
  clear HX
  clear hstep
  clear hb ho
  go_wp2_with (fail)
  refine (pick_List.calls 200 A2 c2 [[1, 1, 0], [0, 1, 1], [1, 0, 2]] _ 3 [2, 1, 0] 3 _ _ _ (Kd.C_below HC.out.2.2 (below_alloc (Below.refl _ _) _)) HC.out.2.1 (C_new wa2 3 .i64 [2, 1, 0] (by decide)) (Nat.le_refl _) e2 (HT.out.below (HB.out.trans ((below_alloc (Below.refl _ _) _).mono HB.out.size)))).mono ?_
  rintro e wb2 ⟨vb2, rfl, ho, hb⟩
  obtain ⟨B2, d2, rfl⟩ := Kd.R_slice ho
  have hstep := (below_alloc (Below.refl _ _) _).trans (hb.mono (by simp))
  have HB' := Aside0.mk (HB.out.trans (hstep.mono HB.out.size))
  clear HB
  have HB := HB'
  clear HB'
  have HX := Aside0.mk (Kd.C_below HR1.out hstep)
  clear HR1
  have HR1 := HX
  clear HX
  clear hstep
  have HR2 := Aside0.mk (Kd.R_reads' ho).2.2
  have hd2 := (Kd.R_reads' ho).2.1
  clear hb ho HC
  go_wp2_with (fail)
  refine (amalgamlaw10_three.calls _ _ eThree).mono ?_
  rintro e wa3 ⟨va3, rfl, ho, hb⟩
  obtain ⟨A3, c3, rfl⟩ := Kd.N_slice ho
  have HC := Aside0.mk (Kd.N_reads' ho)
  have hstep := hb
  have HB' := Aside0.mk (HB.out.trans (hstep.mono HB.out.size))
  clear HB
  have HB := HB'
  clear HB'
  have HX := Aside0.mk (Kd.C_below HR1.out hstep)
  clear HR1
  have HR1 := HX
  clear HX
  have HX := Aside0.mk (Kd.C_below HR2.out hstep)
  clear HR2
  have HR2 := HX
  clear HX
  clear hstep
  clear hb ho
  go_wp2_with (fail)
  refine (pick_List.calls 200 A3 c3 [[1, 1, 0], [0, 1, 1], [1, 0, 2]] _ 3 [0, 0, 0] 7 _ _ _ (Kd.C_below HC.out.2.2 (below_alloc (Below.refl _ _) _)) HC.out.2.1 (C_new wa3 3 .i64 [0, 0, 0] (by decide)) (Nat.le_refl _) e3 (HT.out.below (HB.out.trans ((below_alloc (Below.refl _ _) _).mono HB.out.size)))).mono ?_
  rintro e wb3 ⟨vb3, rfl, ho, hb⟩
  obtain ⟨B3, d3, rfl⟩ := Kd.R_slice ho
  have hstep := (below_alloc (Below.refl _ _) _).trans (hb.mono (by simp))
  have HB' := Aside0.mk (HB.out.trans (hstep.mono HB.out.size))
  clear HB
  have HB := HB'
  clear HB'
  have HX := Aside0.mk (Kd.C_below HR1.out hstep)
  clear HR1
  have HR1 := HX
  clear HX
  have HX := Aside0.mk (Kd.C_below HR2.out hstep)
  clear HR2
  have HR2 := HX
  clear HX
  clear hstep
  clear hb ho HC
  go_wp2_with (fail)
  refine (amalgamlaw10_three.calls _ _ eThree).mono ?_
  rintro e wa4 ⟨va4, rfl, ho, hb⟩
  obtain ⟨A4, c4, rfl⟩ := Kd.N_slice ho
  have HC := Aside0.mk (Kd.N_reads' ho)
  have hstep := hb
  have HB' := Aside0.mk (HB.out.trans (hstep.mono HB.out.size))
  clear HB
  have HB := HB'
  clear HB'
  have HX := Aside0.mk (Kd.C_below HR1.out hstep)
  clear HR1
  have HR1 := HX
  clear HX
  have HX := Aside0.mk (Kd.C_below HR2.out hstep)
  clear HR2
  have HR2 := HX
  clear HX
  clear hstep
  clear hb ho
  go_wp2_with (fail)
  refine (pick_Sum.calls 200 A4 c4 [[1, 1, 0], [0, 1, 1], [1, 0, 2]] _ 3 [0, 0, 0] 8 _ _ _ (Kd.C_below HC.out.2.2 (below_alloc (Below.refl _ _) _)) HC.out.2.1 (C_new wa4 3 .i64 [0, 0, 0] (by decide)) (Nat.le_refl _) e4 (HT.out.below (HB.out.trans ((below_alloc (Below.refl _ _) _).mono HB.out.size)))).mono ?_
  rintro e wb4 ⟨vb4, rfl, ho, hb⟩
  obtain ⟨B4, d4, rfl⟩ := Kd.R_slice ho
  have hstep := (below_alloc (Below.refl _ _) _).trans (hb.mono (by simp))
  have HB' := Aside0.mk (HB.out.trans (hstep.mono HB.out.size))
  clear HB
  have HB := HB'
  clear HB'
  have HX := Aside0.mk (Kd.C_below HR1.out hstep)
  clear HR1
  have HR1 := HX
  clear HX
  have HX := Aside0.mk (Kd.C_below HR2.out hstep)
  clear HR2
  have HR2 := HX
  clear HX
  clear hstep
  clear hb ho HC
  go_wp2_with (fail)
  refine (amalgamlaw10_three.calls _ _ eThree).mono ?_
  rintro e wa5 ⟨va5, rfl, ho, hb⟩
  obtain ⟨A5, c5, rfl⟩ := Kd.N_slice ho
  have HC := Aside0.mk (Kd.N_reads' ho)
  have hstep := hb
  have HB' := Aside0.mk (HB.out.trans (hstep.mono HB.out.size))
  clear HB
  have HB := HB'
  clear HB'
  have HX := Aside0.mk (Kd.C_below HR1.out hstep)
  clear HR1
  have HR1 := HX
  clear HX
  have HX := Aside0.mk (Kd.C_below HR2.out hstep)
  clear HR2
  have HR2 := HX
  clear HX
  clear hstep
  clear hb ho
  go_wp2_with (fail)
  refine (pick_Sum.calls 200 A5 c5 [[1, 1, 0], [0, 1, 1], [1, 0, 2]] _ 3 [0, 0, 0] 5 _ _ _ (Kd.C_below HC.out.2.2 (below_alloc (Below.refl _ _) _)) HC.out.2.1 (C_new wa5 3 .i64 [0, 0, 0] (by decide)) (Nat.le_refl _) e5 (HT.out.below (HB.out.trans ((below_alloc (Below.refl _ _) _).mono HB.out.size)))).mono ?_
  rintro e wb5 ⟨vb5, rfl, ho, hb⟩
  obtain ⟨B5, d5, rfl⟩ := Kd.R_slice ho
  have hstep := (below_alloc (Below.refl _ _) _).trans (hb.mono (by simp))
  have HB' := Aside0.mk (HB.out.trans (hstep.mono HB.out.size))
  clear HB
  have HB := HB'
  clear HB'
  have HX := Aside0.mk (Kd.C_below HR1.out hstep)
  clear HR1
  have HR1 := HX
  clear HX
  have HX := Aside0.mk (Kd.C_below HR2.out hstep)
  clear HR2
  have HR2 := HX
  clear HX
  clear hstep
  have HR5 := Aside0.mk (Kd.R_reads' ho).2.2
  have hd5 := (Kd.R_reads' ho).2.1
  clear hb ho HC
  go_wp2_with (fail)
  refine (pick_Check.calls 200 (some _) 17 (List.replicate 17 []) none 0 [] 101 _ (Kd.R_reads' (R_made_rows _ _ 17 (fun _ => True) trivial (Nat.le_refl _) (by decide))).2.2 (Nat.le_refl _) (C_none _ _) (Nat.le_refl _) e6).mono ?_
  rintro e wc6 ⟨rfl, hb⟩
  have hstep := (below_alloc (Below.refl _ _) _).trans (hb.mono (by simp))
  have HB' := Aside0.mk (HB.out.trans (hstep.mono HB.out.size))
  clear HB
  have HB := HB'
  clear HB'
  have HX := Aside0.mk (Kd.C_below HR1.out hstep)
  clear HR1
  have HR1 := HX
  clear HX
  have HX := Aside0.mk (Kd.C_below HR2.out hstep)
  clear HR2
  have HR2 := HX
  clear HX
  have HX := Aside0.mk (Kd.C_below HR5.out hstep)
  clear HR5
  have HR5 := HX
  clear HX
  clear hstep
  clear hb
  go_wp2_with (fail)
  refine (pick_Check.calls 200 none 0 [] (some _) 1 [3] 102 _ (C_noneL _) (Nat.le_refl _) (C_new wc6 3 .i64 [3] (by decide)) (Nat.le_refl _) e7).mono ?_
  rintro e wc7 ⟨rfl, hb⟩
  have hstep := (below_alloc (Below.refl _ _) _).trans (hb.mono (by simp))
  have HB' := Aside0.mk (HB.out.trans (hstep.mono HB.out.size))
  clear HB
  have HB := HB'
  clear HB'
  have HX := Aside0.mk (Kd.C_below HR1.out hstep)
  clear HR1
  have HR1 := HX
  clear HX
  have HX := Aside0.mk (Kd.C_below HR2.out hstep)
  clear HR2
  have HR2 := HX
  clear HX
  have HX := Aside0.mk (Kd.C_below HR5.out hstep)
  clear HR5
  have HR5 := HX
  clear HX
  clear hstep
  clear hb
  go_wp2_with (fail)
  refine (pick_Check.calls 200 (some _) 1 [[1]] none 0 [] 103 _ (C_one (xs := [1]) 23 (World.size_alloc _ _).symm (Nat.le_refl _) (C_new wc7 3 .i64 [1] (by decide))) (Nat.le_refl _) (C_none _ _) (Nat.le_refl _) e8).mono ?_
  rintro e wc8 ⟨rfl, hb⟩
  have hstep := (below_alloc (below_alloc (Below.refl _ _) _) _).trans (hb.mono (by simp; omega))
  have HB' := Aside0.mk (HB.out.trans (hstep.mono HB.out.size))
  clear HB
  have HB := HB'
  clear HB'
  have HX := Aside0.mk (Kd.C_below HR1.out hstep)
  clear HR1
  have HR1 := HX
  clear HX
  have HX := Aside0.mk (Kd.C_below HR2.out hstep)
  clear HR2
  have HR2 := HX
  clear HX
  have HX := Aside0.mk (Kd.C_below HR5.out hstep)
  clear HR5
  have HR5 := HX
  clear HX
  clear hstep
  clear hb
  go_wp2_with (fail)
  refine (amalgamref10_Same.calls 200 B1 _ [3, 5, 6, 7] (some _) 4 [3, 5, 6, 7] true _ (Kd.C_below HR1.out (below_alloc (Below.refl _ _) _)) hd1 (C_new wc8 37 .u32 [3, 5, 6, 7] (by decide)) (Nat.le_refl _) e9).mono ?_
  rintro e wd9 ⟨rfl, hb⟩
  replace hb := hb.below
  have hstep := (below_alloc (Below.refl _ _) _).trans (hb.mono (by simp))
  have HB' := Aside0.mk (HB.out.trans (hstep.mono HB.out.size))
  clear HB
  have HB := HB'
  clear HB'
  have HX := Aside0.mk (Kd.C_below HR1.out hstep)
  clear HR1
  have HR1 := HX
  clear HX
  have HX := Aside0.mk (Kd.C_below HR2.out hstep)
  clear HR2
  have HR2 := HX
  clear HX
  have HX := Aside0.mk (Kd.C_below HR5.out hstep)
  clear HR5
  have HR5 := HX
  clear HX
  clear hstep
  clear hb
  go_wp2_with (fail)
  refine (amalgamref10_Same.calls 200 B2 _ [1, 3, 6] (some _) 3 [1, 3, 6] true _ (Kd.C_below HR2.out (below_alloc (Below.refl _ _) _)) hd2 (C_new wd9 37 .u32 [1, 3, 6] (by decide)) (Nat.le_refl _) e10).mono ?_
  rintro e wd10 ⟨rfl, hb⟩
  replace hb := hb.below
  have hstep := (below_alloc (Below.refl _ _) _).trans (hb.mono (by simp))
  have HB' := Aside0.mk (HB.out.trans (hstep.mono HB.out.size))
  clear HB
  have HB := HB'
  clear HB'
  have HX := Aside0.mk (Kd.C_below HR1.out hstep)
  clear HR1
  have HR1 := HX
  clear HX
  have HX := Aside0.mk (Kd.C_below HR2.out hstep)
  clear HR2
  have HR2 := HX
  clear HX
  have HX := Aside0.mk (Kd.C_below HR5.out hstep)
  clear HR5
  have HR5 := HX
  clear HX
  clear hstep
  clear hb
  go_wp2_with (fail)
  refine (amalgamref09_Same.calls 200 B5 _ [2, 1, 2] (some _) 3 [2, 1, 2] true _ (Kd.C_below HR5.out (below_alloc (Below.refl _ _) _)) hd5 (C_new wd10 3 .i64 [2, 1, 2] (by decide)) (Nat.le_refl _) e11).mono ?_
  rintro e wd11 ⟨rfl, hb⟩
  replace hb := hb.below
  have hstep := (below_alloc (Below.refl _ _) _).trans (hb.mono (by simp))
  have HB' := Aside0.mk (HB.out.trans (hstep.mono HB.out.size))
  clear HB
  have HB := HB'
  clear HB'
  have HX := Aside0.mk (Kd.C_below HR1.out hstep)
  clear HR1
  have HR1 := HX
  clear HX
  have HX := Aside0.mk (Kd.C_below HR2.out hstep)
  clear HR2
  have HR2 := HX
  clear HX
  have HX := Aside0.mk (Kd.C_below HR5.out hstep)
  clear HR5
  have HR5 := HX
  clear HX
  clear hstep
  clear hb
  go_wp2
  go_ret
  exact ⟨rfl, HB.out⟩
end Go.Proofs.YtbdlihldmmbdmaaDoor.PickNames

namespace Go.Proofs.YtbdlihldmmbdmaaDoor.PickSums
open Go.RowKit Go.Proofs.YtbdlihldmmbdmaaDoor.SK Go.Proofs.YtbdlihldmmbdmaaDoorW.PrintWords Go.Proofs.YtbdlihldmmbdmaaDoorW.PrintMore Go.Proofs.YtbdlihldmmbdmaaDoor.Bits Go.Proofs.YtbdlihldmmbdmaaDoor.Plain Go.Proofs.YtbdlihldmmbdmaaDoor.PickSpec Go.Proofs.YtbdlihldmmbdmaaDoor.PickPicked Go.Proofs.YtbdlihldmmbdmaaDoor.Full Go.Proofs.YtbdlihldmmbdmaaDoor.Range Go.Proofs.YtbdlihldmmbdmaaDoor.Spoil Go.Proofs.YtbdlihldmmbdmaaDoor.Lent
set_option linter.unusedVariables false

theorem RowsAre.mem {W : World} {base : Nat} {q : TypeId} {vals : List Value} {xss : List (List Int)} (h : RowsAre W base q vals xss) : ∀ u ∈ vals, ∃ xs, (Kd.int .i64).R q W base (fun _ => True) u xs := by
  induction h with
  | nil => intro u hu; simp at hu
  | cons h1 _ ih =>
    intro u hu
    rcases List.mem_cons.1 hu with rfl | hu
    · exact ⟨_, h1⟩
    · exact ih u hu
theorem rowIn_of_R {W : World} {base : Nat} {u : Value} {xs : List Int} (h : (Kd.int .i64).R 3 W base (fun _ => True) u xs) : RowIn W base u := by
  rcases (Kd.own_of_R h).2 with ⟨rfl, _⟩ | ⟨g, cap, cur, rfl, h1, h2, h3, h4, h5, _⟩
  · exact .inl rfl
  · exact .inr ⟨g, _, cap, cur, rfl, h3, h4, h1, h2, by omega⟩
theorem spoil_full (base : Nat) (v : Value) (vals : List Value) (xss : List (List Int)) (w : World) (hF : FullRow w base 23 (.slice none 0 0) v vals) (hR : RowsAre w base 3 vals xss) :
    Calls Tryd.prog 15 #[v] w fun e w' => (∃ v, e = .returned v) ∧ Only (fun k => base ≤ k) w w' := by
  rcases hF with ⟨rfl, _⟩ | ⟨g, cap, rfl, h1, h2, h3, h4⟩
  · exact (spoil_nil w).mono fun e w' ⟨he, hw⟩ => ⟨he, hw ▸ Only.refl _ _⟩
  · have hl : (vals ++ List.replicate (cap - vals.length) (Value.slice none 0 0)).length = cap := by simp; omega
    have h := spoil_any base g vals.length (vals ++ List.replicate (cap - vals.length) (Value.slice none 0 0)) w ⟨h4, by rw [hl]; exact h3, fun u hu => by
      rcases List.mem_append.1 hu with hu | hu
      · obtain ⟨xs, hx⟩ := RowsAre.mem hR u hu
        exact rowIn_of_R hx
      · exact .inl (List.mem_replicate.1 hu).2⟩ (by rw [hl]; exact h2)
    rwa [hl] at h
theorem FullRow.below {W W' : World} {base : Nat} {e : TypeId} {z v : Value} {vals : List Value} (h : FullRow W base e z v vals) (hb : Below W.heap.size W W') : FullRow W' base e z v vals := h.move fun k hk => hb.block k (h.lt k hk).2

set_option maxHeartbeats 8000000 in
set_option maxRecDepth 100000 in
theorem sums_calls (A0 : Option Addr) (c0 : Nat) (rows : List (List Int)) (A1 : Option Addr) (c1 : Nat) (want : List Int) (A2 : Option Addr) (c2 : Nat) (masks : List Int) (w : World) (hr0 : Kd.C (Kd.slice 3 (Kd.int .i64)) w A0 rows.length rows) (hc0 : rows.length ≤ c0)
    (hr1 : Kd.C (Kd.int .i64) w A1 want.length want) (hc1 : want.length ≤ c1) (hr2 : Kd.C (Kd.int .u32) w A2 masks.length masks) (hc2 : masks.length ≤ c2) (hm : ∀ x ∈ masks, 0 ≤ x ∧ x ≤ 4294967295) (hn : rows.length ≤ 1048576) (hl : ∀ row ∈ rows, row.length ≤ 1048576) (hT : TabW w) :
    Calls Tryd.prog 7 #[.slice A0 rows.length c0, .slice A1 want.length c1, .slice A2 masks.length c2] w fun e w' => e = .returned (.bool true) ∧ Below w.heap.size w w' := by
  have hx2 := Kd.C_max hr2
  have HR0 := Aside0.mk hr0
  have HR1 := Aside0.mk hr1
  have HR2 := Aside0.mk hr2
  have HT := Aside0.mk hT
  have HM := Aside0.mk hm
  have HL := Aside0.mk hl
  clear hr0 hr1 hr2 hT hm hl
  obtain ⟨kc, hkc⟩ := Ev.rounds (check_ev rows want)
  have HKC := Aside0.mk hkc
  clear hkc
  obtain ⟨cv, hcv⟩ : ∃ cv, cv = chk rows want := ⟨_, rfl⟩
  have HCV := Aside0.mk hcv
  clear hcv
  go_enter Tryd.func7, Tryd.ntmps7
  go_wp2_with (fail)
  refine (amalgamlaw10_lives.calls 200 true w PickNames.eLives HT.out).mono ?_
  rintro e w1 ⟨rfl, hb⟩
  have HB1 := Aside0.mk hb
  clear hb
  go_wp2_with (fail)
  refine (lent_any A0 c0 rows w1 (Kd.C_below HR0.out HB1.out) hn HL.out).mono ?_
  rintro e w2 ⟨rfl, hLE, hb⟩
  obtain ⟨g, hg⟩ : ∃ g, g = w1.heap.size := ⟨_, rfl⟩
  rw [← hg] at hLE ⊢
  have HLE := Aside0.mk (show Lent w2 w.heap.size g rows from by obtain ⟨vals, m, k1, k2, k3, k4, k5, k6⟩ := hLE; exact ⟨vals, m, k1, k2, by have := HB1.out.size; omega, by have := HB1.out.size; omega, k5, fun j xs u h1 h2 => by obtain ⟨b, e, h3, h4⟩ := k6 j xs u h1 h2; exact ⟨b, e, by have := HB1.out.size; omega, h4⟩⟩)
  have HB2 := Aside0.mk (HB1.out.trans (hb.mono HB1.out.size))
  clear hb hLE hg HB1
  go_wp2_with (fail)
  refine (pick_Check.calls kc (some ⟨g, 0, none⟩) (rows.length + 1) rows A1 c1 want (chk rows want) w2 (HLE.out.reads hn HL.out) (by omega) (Kd.C_below HR1.out HB2.out) hc1 (by unfold pick_Check.f; rw [HKC.out]; rfl)).mono ?_
  rintro e w3 ⟨rfl, hb⟩
  rw [← HCV.out]
  have HLE3 := Aside0.mk (HLE.out.below hb)
  have HB3 := Aside0.mk (HB2.out.trans (hb.mono HB2.out.size))
  clear hb HB2 HLE
  go_wp2_with (fail)
  refine (amalgamref10_Check.calls kc A0 c0 rows A1 c1 want (chk rows want) w3 (Kd.C_below HR0.out HB3.out) hc0 (Kd.C_below HR1.out HB3.out) hc1 HKC.out).mono ?_
  rintro e w4 ⟨rfl, hd⟩
  rw [← HCV.out]
  have HLE4 := Aside0.mk (HLE3.out.below hd.below)
  have HB4 := Aside0.mk (HB3.out.trans (hd.below.mono HB3.out.size))
  clear hd HB3 HLE3
  go_wp2_with (fail)
  go_loopw [10] (fun v10 wr => ∃ i : Nat, v10 = .int .i64 (i : Int) ∧ i ≤ masks.length ∧ Aside0 (Lent wr w.heap.size g rows) ∧ Aside0 (Below w.heap.size w wr)) (fun v10 _ => masks.length - (intOf v10).toNat)
  case atStart => exact ⟨0, rfl, Nat.zero_le _, HLE4, HB4⟩
  case round =>
    clear HLE4 HB4
    obtain ⟨i, rfl, hi, HLE, HB⟩ := hrel
    by_cases hin : i < masks.length
    · obtain ⟨ad, e2, hx0⟩ := Kd.at_int (Kd.C_below HR2.out HB.out) (i : Int) (by omega) (by omega)
      obtain ⟨m, hmm⟩ : ∃ m : Nat, rd masks (i : Int) = (m : Int) := ⟨(rd masks (i : Int)).toNat, by
        have := HM.out _ (List.getElem_mem hin)
        rw [rd_lt hin]; omega⟩
      have hm32 : m < 4294967296 := by
        have := HM.out _ (List.getElem_mem hin)
        rw [rd_lt hin] at hmm; omega
      rw [hmm] at hx0
      have hx : wr.cell? (ad.add i) = some (.int .u32 (m : Int)) := hx0
      cases e2
      obtain ⟨s1, e1, hS⟩ : ∃ s1 e1, sumS rows want m = (s1, e1) := ⟨_, _, rfl⟩
      obtain ⟨b1, g1, hF⟩ : ∃ b1 g1, fitsS rows want m = (b1, g1) := ⟨_, _, rfl⟩
      obtain ⟨k1, hk1⟩ := Ev.rounds (Ev.cast (pick_sum_ev rows want m hm32) hS)
      obtain ⟨k2, hk2⟩ := Ev.rounds (Ev.cast (sum_ev rows want m hm32) hS)
      obtain ⟨k3, hk3⟩ := Ev.rounds (Ev.cast (pick_fits_all rows want m hm32) hF)
      obtain ⟨k4, hk4⟩ := Ev.rounds (Ev.cast (ref_fits_all rows want m hm32) hF)
      obtain ⟨k5, hk5⟩ := Ev.rounds (picked_ev rows m hm32 hn HL.out)
      have HK1 := Aside0.mk hk1
      have HK2 := Aside0.mk hk2
      have HK3 := Aside0.mk hk3
      have HK4 := Aside0.mk hk4
      have HK5 := Aside0.mk hk5
      have HX := Aside0.mk hx
      clear hx0 hmm hS hF hk1 hk2 hk3 hk4 hk5
      go_wp2_with (fail)
      refine (pick_Sum.calls k1 (some ⟨g, 0, none⟩) (rows.length + 1) rows A1 c1 want m s1 e1 wr (HLE.out.reads hn HL.out) (by omega) (Kd.C_below HR1.out HB.out) hc1 HK1.out (HT.out.below HB.out)).mono ?_
      rintro e w5 ⟨v5, rfl, hR5, hb⟩
      obtain ⟨A5, c5, rfl, hc5, hC5⟩ := Kd.R_reads hR5
      have hx := pw_cell_below hb HX.out
      have HC5 := Aside0.mk hC5
      have HB5 := Aside0.mk hb
      clear hb hR5 hC5
      go_wp2_with (fail)
      refine (amalgamref10_Sum.calls k2 A0 c0 rows A1 c1 want m s1 e1 w5 (Kd.C_below HR0.out (HB.out.trans (HB5.out.mono HB.out.size))) hc0 (Kd.C_below HR1.out (HB.out.trans (HB5.out.mono HB.out.size))) hc1 HK2.out).mono ?_
      rintro e w6 ⟨v6, rfl, hR6, hb⟩
      obtain ⟨A6, c6, rfl, hc6, hC6⟩ := Kd.R_reads hR6
      have HB6 := Aside0.mk (HB5.out.trans (hb.mono HB5.out.size))
      have HC5b := Aside0.mk (Kd.C_below HC5.out hb)
      have HC6 := Aside0.mk hC6
      clear hb hR6 hC6 hx HC5 HB5
      have hx := pw_cell_below HB6.out HX.out
      go_wp2_with (fail)
      refine (pick_Fits.calls k3 (some ⟨g, 0, none⟩) (rows.length + 1) rows A1 c1 want m b1 g1 w6 ((HLE.out.below HB6.out).reads hn HL.out) (by omega) (Kd.C_below HR1.out (HB.out.trans (HB6.out.mono HB.out.size))) hc1 HK3.out (HT.out.below (HB.out.trans (HB6.out.mono HB.out.size)))).mono ?_
      rintro e w7 ⟨rfl, hb⟩
      have HB7 := Aside0.mk (HB6.out.trans (hb.mono HB6.out.size))
      have HC5c := Aside0.mk (Kd.C_below HC5b.out hb)
      have HC6b := Aside0.mk (Kd.C_below HC6.out hb)
      clear hb HC5b HC6 HB6 hx
      have hx := pw_cell_below HB7.out HX.out
      go_wp2_with (fail)
      refine (amalgamref10_Fits.calls k4 A0 c0 rows A1 c1 want m b1 g1 w7 (Kd.C_below HR0.out (HB.out.trans (HB7.out.mono HB.out.size))) hc0 (Kd.C_below HR1.out (HB.out.trans (HB7.out.mono HB.out.size))) hc1 HK4.out).mono ?_
      rintro e w8 ⟨rfl, hb⟩
      have HB8 := Aside0.mk (HB7.out.trans (hb.mono HB7.out.size))
      have HC5 := Aside0.mk (Kd.C_below HC5c.out hb)
      have HC6 := Aside0.mk (Kd.C_below HC6b.out hb)
      clear hb HC5c HC6b HB7 hx
      have hx := pw_cell_below HB8.out HX.out
      have HLE8 := Aside0.mk (HLE.out.below HB8.out)
      go_wp2_with (fail)
      refine (picked_any (some ⟨g, 0, none⟩) (rows.length + 1) rows m w8 hm32 (HLE8.out.reads hn HL.out) HL.out).mono ?_
      rintro e w9 ⟨v9, vals, rfl, hF9, hR9, hb⟩
      obtain ⟨A9, c9, rfl, hc9, hC9⟩ := reads_of_full hF9 hR9
      have HB9 := Aside0.mk hb
      have HC5b := Aside0.mk (Kd.C_below HC5.out hb)
      have HC6b := Aside0.mk (Kd.C_below HC6.out hb)
      have HF9 := Aside0.mk hF9
      have HR9 := Aside0.mk hR9
      have HC9 := Aside0.mk hC9
      clear hb hF9 hR9 hC9 HC5 HC6 hx
      have hx := pw_cell_below (HB8.out.trans (HB9.out.mono HB8.out.size)) HX.out
      obtain ⟨k6, hk6⟩ := Ev.rounds (same_ev s1 (by have := Kd.C_max HC5b.out; omega))
      have hpm := Kd.C_max HC9.out
      obtain ⟨k7, hk7⟩ := Ev.rounds (sameAll_ev (pickedTo rows m rows.length) (by omega) (fun xs hxs => by have := HL.out xs (pickedTo_sub rows m _ (Nat.le_refl _) xs hxs); omega))
      have HK6 := Aside0.mk hk6
      have HK7 := Aside0.mk hk7
      clear hk6 hk7
      go_wp2_with (fail)
      refine (amalgamref09_Same.calls k6 A5 c5 s1 A6 c6 s1 true w9 HC5b.out hc5 HC6b.out hc6 HK6.out).mono ?_
      rintro e w10 ⟨rfl, hd⟩
      have HB10 := Aside0.mk (HB9.out.trans (hd.below.mono HB9.out.size))
      have HD10 := Aside0.mk hd.below
      clear hd HC5b HC6b hx
      have hx := pw_cell_below (HB8.out.trans (HB10.out.mono HB8.out.size)) HX.out
      go_wp2_with (fail)
      refine (amalgamref10_Picked.calls k5 A0 c0 rows m (pickedTo rows m rows.length) w10 (Kd.C_below HR0.out (HB.out.trans ((HB8.out.trans (HB10.out.mono HB8.out.size)).mono HB.out.size))) hc0 HK5.out).mono ?_
      rintro e w11 ⟨v11, rfl, hS11, hb⟩
      obtain ⟨A11, c11, rfl, hc11, hC11⟩ := Kd.S_reads hS11
      have HD11 := Aside0.mk (HD10.out.trans (hb.mono HD10.out.size))
      have HB11 := Aside0.mk (HB10.out.trans (hb.mono HB10.out.size))
      have HC11 := Aside0.mk hC11
      clear hb hS11 hC11 hx HB10 HD10
      go_wp2_with (fail)
      refine (amalgamref09_SameAll.calls k7 A9 c9 (pickedTo rows m rows.length) A11 c11 (pickedTo rows m rows.length) true w11 (Kd.C_below HC9.out HD11.out) hc9 HC11.out hc11 HK7.out).mono ?_
      rintro e w12 ⟨rfl, hd⟩
      have HD12 := Aside0.mk (HD11.out.trans (hd.below.mono HD11.out.size))
      have HB12 := Aside0.mk (HB11.out.trans (hd.below.mono HB11.out.size))
      clear hd HD11 HB11 HC11 HC9
      go_wp2_with (fail)
      refine (spoil_full w8.heap.size _ vals (pickedTo rows m rows.length) w12 (FullRow.below HF9.out HD12.out) (HR9.out.later HD12.out)).mono ?_
      rintro e w13 ⟨⟨v13, rfl⟩, hO⟩
      have hO8 : Only (fun k => w8.heap.size ≤ k) w8 w13 := (Only.of_below HB12.out).trans hO
      have HLE13 := Aside0.mk (HLE8.out.move hO8 (fun k _ hk => by omega))
      have HB13 := Aside0.mk (HB.out.trans ((HB8.out.trans ((hO8.below (Nat.le_refl _) (fun k hk => hk)).mono HB8.out.size)).mono HB.out.size))
      clear hO hO8 HB12 HD12 HLE8 HB8
      go_wp2
      exact ⟨⟨i + 1, by go_num, by omega, HLE13, HB13⟩, by simp only [intOf]; omega⟩
    · go_wp2_with (fail)
      refine (kept_any w.heap.size g A0 c0 rows wr HLE.out (Kd.C_below HR0.out HB.out) hc0 hn HL.out).mono ?_
      rintro e w5 ⟨rfl, hb⟩
      have HB5 := Aside0.mk (HB.out.trans (hb.mono HB.out.size))
      clear hb
      go_wp2
      go_ret
      exact ⟨rfl, HB5.out⟩
end Go.Proofs.YtbdlihldmmbdmaaDoor.PickSums

namespace Go.Proofs.YtbdlihldmmbdmaaDoor.pickSumsCard
open Go.ChangeShapes Go.WideShapes Go.ChangeAt Go.RowKit Go.Proofs.YtbdlihldmmbdmaaDoorW.PrintWords Go.Proofs.YtbdlihldmmbdmaaDoor.Args
set_option linter.unusedVariables false
set_option linter.unusedSimpArgs false
theorem own : ownKnob Tryd.prog.godebug = none := by kernel_rfl
theorem laidOut : laidOutB Tryd.prog = true := by kernel_rfl
theorem gTab : Tryd.prog.globalNamed "math/bits.deBruijn32tab" = some 0 := by kernel_rfl
theorem gTabType : (Tryd.prog.globals[0]?).map (·.type) = some 65 := by kernel_rfl
theorem cellsTab : Tryd.prog.cellsOf 65 = 32 := by kernel_rfl
theorem cellsByte : Tryd.prog.cellsOf 5 = 1 := by kernel_rfl
theorem table {W : World} (h : laidMetH Tryd.prog Rows.pickSumsUptoRow.laid W) : Lib.TabIs Tryd.prog W "math/bits.deBruijn32tab" .u8 (Lib.deBruijn32tab.map fun n : Nat => (n : Int)) :=
  Lib.tabIs_of_head (rest := []) gTab gTabType Tryd.underlying65 Tryd.underlying5 cellsByte cellsTab h
theorem tab_of {W : World} (h : laidMetH Tryd.prog Rows.pickSumsUptoRow.laid W) : Go.Proofs.YtbdlihldmmbdmaaDoor.Bits.TabW W := ⟨fun j hj => by
  have h1 := (table h).cell gTab j (by rw [List.length_map]; exact hj)
  rw [h1, List.getD_eq_getElem?_getD, List.getElem?_map, List.getElem?_eq_getElem hj, List.getD_eq_getElem?_getD, List.getElem?_eq_getElem hj]; rfl⟩
set_option maxRecDepth 100000 in
theorem contract (H : Type) (enc : TypeId × Value → H) (W : World) (base : Nat) (args : Array Value) (ds gs : List (DataW H)) (before : List MemPlace)
    (hval : ∀ (j : Nat) t v, Tryd.f7.params[j]? = some t → args[j]? = some v → Value.okWide Tryd.prog W .any base t v)
    (hW : DataW.Whole enc Tryd.prog Tryd.f7.params.toList Rows.pickSumsSpec.vars false W args.toList ds gs before) (hL : laidMetH Tryd.prog Rows.pickSumsUptoRow.laid W) (hk : Rows.uptoSmall H (ds ++ gs) = true) :
    Calls Tryd.prog 7 args W fun e W' => ∃ v, e = .returned v ∧ Rows.pickSumsSpec.post enc Tryd.prog Tryd.f7 false true false false W args v W' := by
  have hT := tab_of hL
  have hkb : Rows.uptoBulkAll (ds ++ gs) ≤ 1048576 := of_decide_eq_true hk
  have hW' := hW
  obtain ⟨p, q, hA0, hV, rfl, hfz, hnd⟩ := hW
  have hA : DataW.TrodAll enc Tryd.prog W 0 (fun _ => true) true Tryd.f7.params.toList args.toList ds p := hA0
  rw [Tryd.params7] at hA hval
  obtain ⟨v0, vs0, d0, ds0, p0, q0, hargs, rfl, rfl, h0, r0⟩ := trodAll_cons hA
  obtain ⟨v1, vs1, d1, ds1, p1, q1, rfl, rfl, rfl, h1, r1⟩ := trodAll_cons r0
  obtain ⟨v2, vs2, d2, ds2, p2, q2, rfl, rfl, rfl, h2, r2⟩ := trodAll_cons r1
  obtain ⟨rfl, rfl, rfl⟩ := trodAll_nil r2
  obtain rfl : args = #[v0, v1, v2] := by cases args; simp_all
  obtain ⟨rfl, rfl⟩ := trodVars_none hV
  simp only [List.cons_append, List.nil_append, List.append_nil, Rows.uptoBulkAll] at hkb
  obtain ⟨A0, c0, l0, rfl, hc0, hr0, hn0, hl0⟩ := rows_of_trod_small (B := 1048576) Tryd.underlying22 Tryd.underlying23 Tryd.underlying3 (by kernel_rfl) (by kernel_rfl) (by obtain ⟨a_, n_, c_, rfl⟩ := okWide_slice Tryd.underlying22 (hval 0 22 v0 rfl rfl); exact ⟨_, _, _, rfl⟩) h0 (by omega)
  have lt0 : ∀ x ∈ p0, x.block < W.heap.size := by obtain ⟨m, hm⟩ := h0; exact DataW.trod_lt m _ _ _ hm
  obtain ⟨A1, c1, l1, rfl, hc1, hr1, hw1⟩ := ints_of_trod Tryd.underlying23 Tryd.underlying3 (by kernel_rfl) (by obtain ⟨a_, n_, c_, rfl⟩ := okWide_slice Tryd.underlying23 (hval 1 23 v1 rfl rfl); exact ⟨_, _, _, rfl⟩) h1
  have lt1 : ∀ x ∈ p1, x.block < W.heap.size := by obtain ⟨m, hm⟩ := h1; exact DataW.trod_lt m _ _ _ hm
  obtain ⟨A2, c2, l2, rfl, hc2, hr2, hw2⟩ := ints_of_trod Tryd.underlying26 Tryd.underlying37 (by kernel_rfl) (by obtain ⟨a_, n_, c_, rfl⟩ := okWide_slice Tryd.underlying26 (hval 2 26 v2 rfl rfl); exact ⟨_, _, _, rfl⟩) h2
  have lt2 : ∀ x ∈ p2, x.block < W.heap.size := by obtain ⟨m, hm⟩ := h2; exact DataW.trod_lt m _ _ _ hm
  clear hA0
  have walk : Calls Tryd.prog 7 #[.slice A0 l0.length c0, .slice A1 l1.length c1, .slice A2 l2.length c2] W fun e w' => e = .returned (.bool true) ∧ Below W.heap.size W w' := Go.Proofs.YtbdlihldmmbdmaaDoor.PickSums.sums_calls A0 c0 l0 A1 c1 l1 A2 c2 l2 W hr0 hc0 hr1 hc1 hr2 hc2 (fun x hx => u32_of_wf (hw2 x hx)) hn0 hl0 hT
  refine walk.mono fun e W' ⟨he, bel⟩ => ?_
  subst he
  exact ⟨_, rfl, _, _, _, [], _, [], hW', trodAll_mk1 (shut_bool Tryd.underlying4 _), (trodAll_cons_mk (Below.trod laidOut (by kernel_rfl) (of_decide_eq_true (by kernel_rfl)) h0 bel lt0) (trodAll_cons_mk (Below.trod laidOut (by kernel_rfl) (of_decide_eq_true (by kernel_rfl)) h1 bel lt1) (trodAll_cons_mk (Below.trod laidOut (by kernel_rfl) (of_decide_eq_true (by kernel_rfl)) h2 bel lt2) trodAll_mk0))), rfl, bel.frame _, fun h => by cases h⟩
/-- A world for the witness: the settled one, the table's block holding what its initialiser lays. -/
noncomputable def laidWorld (os : Os) : World :=
  { World.holding Tryd.prog os ⟨#[], #[], []⟩ with heap := (World.holding Tryd.prog os ⟨#[], #[], []⟩).heap.modify 0 fun
      | .cells _ t frozen => .cells (Lib.deBruijn32tab.map fun n : Nat => Value.int .u8 (n : Int)).toArray t frozen
      | o => o }
theorem laid_met (os : Os) : laidMet Tryd.prog Rows.pickSumsUptoRow.laid ((laidWorld os).forCall (fun _ _ => 0) ⟨#[], #[.slice none 0 0, .slice none 0 0, .slice none 0 0], []⟩).memory :=
  laidMet_of_run' 8 (by kernel_rfl) (by kernel_rfl)
theorem reads (os : Os) {H : Type} (enc : TypeId × Value → H) : ∃ places, DataW.whole enc Tryd.prog ((laidWorld os).forCall (fun _ _ => 0) ⟨#[], #[.slice none 0 0, .slice none 0 0, .slice none 0 0], []⟩).memory Tryd.f7.params.toList Rows.pickSumsSpec.vars false (#[.slice none 0 0, .slice none 0 0, .slice none 0 0] : Array Value).toList 8 = some ([.nil, .nil, .nil], [], places) :=
  ⟨[], by kernel_rfl⟩
set_option maxRecDepth 100000 in
theorem lifted (os : Os) (started : os.Started) (H : Type) (enc : TypeId × Value → H) (F : Stop.Interp) :
    ReturnsInHanded {} Tryd.checked os 7 .any ((Rows.OpenSpec.upto Rows.pickSumsSpec).preRow enc Tryd.prog Tryd.f7 Rows.pickSumsUptoRow.domain false Rows.pickSumsUptoRow.laid) (((Rows.OpenSpec.upto Rows.pickSumsSpec).at F).post enc Tryd.prog Tryd.f7 false true false false) := by
  obtain ⟨places, hx⟩ := reads os enc
  refine returnsInHanded_of_row (C := Tryd.checked) (s := (Rows.OpenSpec.upto Rows.pickSumsSpec)) own started (by kernel_rfl) Tryd.func7
    (witness_row_at (enc := enc) (C := Tryd.checked) false (laidWorld os) #[.slice none 0 0, .slice none 0 0, .slice none 0 0] rfl (by kernel_rfl) (by kernel_rfl) (by kernel_rfl)
      (OpenSpec.preRow_of_cond 8 hx (by kernel_rfl) (fun k hk => by cases hk; kernel_rfl) (by kernel_rfl) (laid_met os))) ?_
  intro W base args ds gs before hval hW _ hcnd _ hL _ _
  exact contract H enc W base args ds gs before hval hW hL (hcnd _ rfl)
theorem said : Rows.PickSumsUptoSaid :=
  OpenClaim.holds_of_cond 7 Tryd.f7 rfl rfl rfl rfl rfl rfl rfl ⟨rfl, rfl, rfl, rfl, rfl⟩ rfl rfl rfl rfl rfl (by kernel_rfl) Tryd.func7 (by kernel_rfl)
    (of_decide_eq_true (by kernel_rfl)) (by unfold Func.isWrapper; first | (rw [if_pos (by decide +kernel)]; kernel_rfl) | (rw [if_neg (by decide +kernel)]; exact ⟨rfl, rfl⟩))
    (fun os started H enc _ F => by rw [OpenClaim.pre_eq_preRow]; exact lifted os started H enc F)
theorem plain (f : FuncId) (fn : Func) (hf : Tryd.pinned.checked.prog.funcNamed "amalgam/amalgamlaw10.PickSums" = some f) (hfn : Tryd.pinned.checked.prog.funcs[f]? = some fn) :
    false = Tryd.pinned.checked.prog.looks [] ∧ ∀ (j : Nat) t, fn.params[j]? = some t → Tryd.pinned.checked.prog.wantsStandIn t = false := by
  obtain rfl : f = 7 := Option.some.inj ((show Tryd.prog.funcNamed "amalgam/amalgamlaw10.PickSums" = some 7 by kernel_rfl).symm.trans hf) |>.symm
  obtain rfl : fn = Tryd.f7 := (Option.some.inj (Tryd.func7.symm.trans hfn)).symm
  refine ⟨by kernel_rfl, fun j t ht => ?_⟩
  rw [Tryd.params7] at ht
  have hm := Array.mem_of_getElem? ht
  have hm2 : t = 22 ∨ t = 23 ∨ t = 26 := by simpa using hm
  rcases hm2 with rfl | rfl | rfl
  · exact (show Tryd.prog.wantsStandIn 22 = false by kernel_rfl)
  · exact (show Tryd.prog.wantsStandIn 23 = false by kernel_rfl)
  · exact (show Tryd.prog.wantsStandIn 26 = false by kernel_rfl)
/-- The card. -/
theorem card : Rows.PickSumsUptoCardSaid :=
  Claim7.holds_tied_plain_at .later [] _ _ _ _ said (fun _ h => by cases h) (by kernel_rfl) (fun _ h => by cases h) pickSumsUpto_row_tie rfl ⟨rfl, rfl⟩ (by kernel_rfl) rfl plain (by kernel_rfl)
end Go.Proofs.YtbdlihldmmbdmaaDoor.pickSumsCard
namespace Go.Proofs.YtbdlihldmmbdmaaDoor
/-- The card, under a short name, for the claim. -/
theorem pickSumsUpto_holds : Rows.PickSumsUptoCardSaid := pickSumsCard.card
end Go.Proofs.YtbdlihldmmbdmaaDoor
