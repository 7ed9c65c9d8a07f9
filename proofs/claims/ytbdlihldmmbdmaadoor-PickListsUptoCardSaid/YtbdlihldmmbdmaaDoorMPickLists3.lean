/- The law PickLists holds, where what came in and the table hold together at most 1048576 values: the call answers true and all that came in reads as it did; the printed and hand-written texts that this takes. (part 3 of 3) -/
import Derived.Test.YtbdlihldmmbdmaaDoorMPickLists1
import Derived.Test.YtbdlihldmmbdmaaDoorMPickLists2
import Derived.Deep.QuietTactic
import Derived.BigQuiet
import Derived.TacticsIn
import Derived.Maps.OwnIn
import Derived.Sort.LoopGhostIn
import Derived.LoopIn
import Derived.Laws.EntriesVeiled
import Derived.Test.YtbdlihldmmbdmaaDoorCards
import Derived.Test.YtbdlihldmmbdmaaDoorTie
import Derived.Deep.DeepHandedRow
import Derived.Lib.LaidTab
namespace Go.Proofs.YtbdlihldmmbdmaaDoor.Lent
open Go.RowKit Go.Proofs.YtbdlihldmmbdmaaDoor.SK Go.Proofs.YtbdlihldmmbdmaaDoorW.PrintWords Go.Proofs.YtbdlihldmmbdmaaDoorW.PrintMore Go.Proofs.YtbdlihldmmbdmaaDoor.Plain Go.Proofs.YtbdlihldmmbdmaaDoor.PickSpec Go.Proofs.YtbdlihldmmbdmaaDoor.PickFn Go.Proofs.YtbdlihldmmbdmaaDoor.Full Go.Proofs.YtbdlihldmmbdmaaDoor.Range Go.Proofs.YtbdlihldmmbdmaaDoor.Spoil
set_option linter.unusedVariables false

theorem Lent.move {W W' : World} {base g : Nat} {rows : List (List Int)} {S : Nat → Prop} (h : Lent W base g rows) (hO : Only S W W') (hs : ∀ k, base ≤ k → k < W.heap.size → ¬ S k) : Lent W' base g rows := by
  obtain ⟨vals, m, h1, h2, h3, h4, h5, h6⟩ := h
  have hk : ∀ k o, base ≤ k → W.heap[k]? = some o → W'.heap[k]? = some o := fun k o hb hk => keeps_of hO (hs k hb (Array.getElem?_eq_some_iff.1 hk).1) hk
  exact ⟨vals, m, hk _ _ h3 h1, h2, h3, h4, hk _ _ h4 h5, fun j xs u hj hu => by
    obtain ⟨b, e, h7, h8⟩ := h6 j xs u hj hu
    exact ⟨b, e, h7, hk _ _ h7 h8⟩⟩
theorem Lent.below {W W' : World} {base g : Nat} {rows : List (List Int)} (h : Lent W base g rows) (hb : Below W.heap.size W W') : Lent W' base g rows := h.move (Only.of_below (S := fun _ => False) hb) (fun _ _ _ h => h)
theorem Lent.at {W : World} {base g : Nat} {rows : List (List Int)} (h : Lent W base g rows) (i : Nat) (hi : i < rows.length) (hm : rows[i].length ≤ maxLen) :
    ∃ b, W.cell? ⟨g, i, none⟩ = some (.slice (some ⟨b, 0, none⟩) rows[i].length (rows[i].length + 1)) ∧ W.cell? ⟨b, rows[i].length, none⟩ = some (.int .i64 77) ∧ (Kd.int .i64).C W (some ⟨b, 0, none⟩) rows[i].length rows[i] := by
  obtain ⟨vals, m, h1, h2, h3, h4, h5, h6⟩ := h
  have hiv : i < vals.length := by omega
  obtain ⟨b, e, h7, h8⟩ := h6 i rows[i] vals[i] (List.getElem?_eq_getElem hi) (List.getElem?_eq_getElem hiv)
  refine ⟨b, ?_, ?_, Kd.C_of_reads (d := (0 : Int)) ⟨rfl, by simpa only [maxLen] using hm, fun hn => ⟨_, rfl, fun j hj => ?_⟩⟩⟩
  · rw [cell_at h1, List.getElem?_toArray, List.getElem?_append_left hiv, List.getElem?_eq_getElem hiv, e]
  · rw [cell_at h8, List.getElem?_toArray]; simp
  · rw [Addr.add_lit, cell_at h8, List.getElem?_toArray, List.map_append, List.getElem?_append_left (by simp; omega), List.getElem?_map, List.getD_eq_getElem?_getD]
    rw [Nat.zero_add, List.getElem?_eq_getElem hj]; rfl
theorem Lent.last {W : World} {base g : Nat} {rows : List (List Int)} (h : Lent W base g rows) : ∃ m, W.cell? ⟨g, rows.length, none⟩ = some (.slice (some ⟨m, 0, none⟩) 1 1) := by
  obtain ⟨vals, m, h1, h2, h3, h4, h5, h6⟩ := h
  exact ⟨m, by rw [cell_at h1, List.getElem?_toArray, ← h2]; simp⟩
theorem Spoils.move {W W' : World} {S T : Nat → Prop} {g : Nat} {vals : List Value} (h : Spoils W S g vals) (hO : Only T W W') (hg : ¬ T g) (hs : ∀ k, S k → k < W.heap.size → ¬ T k) : Spoils W' S g vals :=
  ⟨keeps_of hO hg h.blk, h.max, fun u hu => (h.rows u hu).imp id fun ⟨b, n, c, cs, e, h1, h2, h3, h4, h5⟩ => ⟨b, n, c, cs, e, h1, h2, h3, keeps_of hO (hs b h3 (Array.getElem?_eq_some_iff.1 h4).1) h4, h5⟩⟩
theorem Lent.reads {W : World} {base g : Nat} {rows : List (List Int)} (h : Lent W base g rows) (hn : rows.length ≤ 1048576) (hl : ∀ row ∈ rows, row.length ≤ 1048576) : (Kd.slice 3 (Kd.int .i64)).C W (some ⟨g, 0, none⟩) rows.length rows := by
  refine ⟨rfl, by omega, fun hp => ⟨_, rfl, fun j p hj => ?_⟩⟩
  obtain ⟨hj1, hj2⟩ := List.getElem?_eq_some_iff.1 hj
  have hml := hl _ (List.getElem_mem hj1)
  obtain ⟨b, k1, k2, k3⟩ := h.at j hj1 (by simp only [maxLen]; omega)
  rw [hj2] at k1 k2 k3
  refine ⟨[.slice (some ⟨b, 0, none⟩) p.length (p.length + 1)], rfl, ⟨_, _, rfl, by omega, k3⟩, fun i y hy => ?_⟩
  cases i with
  | zero =>
    have : Value.slice (some ⟨b, 0, none⟩) p.length (p.length + 1) = y := by simpa using hy
    subst this
    show W.cell? ((⟨g, 0, none⟩ : Addr).add (j * (Kd.slice 3 (Kd.int .i64)).sz + 0)) = _
    rw [Addr.add_lit]
    simpa [Kd.slice] using k1
  | succ i => simp at hy
/-- spoil may write over all of it. -/
theorem Lent.spoils {W : World} {base g : Nat} {rows : List (List Int)} (h : Lent W base g rows) (hn : rows.length ≤ 1048576) (hl : ∀ row ∈ rows, row.length ≤ 1048576) : ∃ vals, Spoils W (fun k => base ≤ k ∧ k < W.heap.size) g vals ∧ vals.length = rows.length + 1 := by
  obtain ⟨vals, m, h1, h2, h3, h4, h5, h6⟩ := h
  refine ⟨vals ++ [.slice (some ⟨m, 0, none⟩) 1 1], ⟨h1, by simp [h2, maxLen]; omega, fun u hu => ?_⟩, by simp [h2]⟩
  rcases List.mem_append.1 hu with hu | hu
  · obtain ⟨j, hj, rfl⟩ := List.getElem_of_mem hu
    obtain ⟨b, e, h7, h8⟩ := h6 j rows[j] vals[j] (List.getElem?_eq_getElem (by omega)) (List.getElem?_eq_getElem hj)
    have := hl _ (List.getElem_mem (show j < rows.length by omega))
    exact .inr ⟨b, _, _, _, e, by omega, by simp only [maxLen]; omega, ⟨h7, (Array.getElem?_eq_some_iff.1 h8).1⟩, h8, by simp⟩
  · rw [List.mem_singleton.1 hu]
    exact .inr ⟨m, 1, 1, _, rfl, Nat.le_refl _, by simp [maxLen], ⟨h4, (Array.getElem?_eq_some_iff.1 h5).1⟩, h5, rfl⟩

set_option maxHeartbeats 4000000 in
theorem kept_any (base g : Nat) (A0 : Option Addr) (c0 : Nat) (rows : List (List Int)) (w : World) (hL : Lent w base g rows) (hr : Kd.C (Kd.slice 3 (Kd.int .i64)) w A0 rows.length rows) (hc : rows.length ≤ c0) (hn : rows.length ≤ 1048576) (hl : ∀ row ∈ rows, row.length ≤ 1048576) :
    Calls Tryd.prog 13 #[.slice (some ⟨g, 0, none⟩) rows.length (rows.length + 1), .slice A0 rows.length c0] w fun e w' => e = .returned (.bool true) ∧ Below w.heap.size w w' := by
  obtain ⟨k, hk⟩ := Ev.rounds (sameAll_ev rows (by omega) (fun xs hx => by have := hl xs hx; omega))
  have HS := Aside0.mk (amalgamref09_SameAll.calls k (some ⟨g, 0, none⟩) (rows.length + 1) rows A0 c0 rows true w (hL.reads hn hl) (by omega) hr hc hk)
  have HL := Aside0.mk hL
  have HM := Aside0.mk hl
  clear hk hL hr hl hc
  go_enter Tryd.func13, Tryd.ntmps13
  go_wp2_with (fail)
  refine HS.out.mono ?_
  rintro e w1 ⟨rfl, hd⟩
  have HB := Aside0.mk (show Below w.heap.size w w1 from hd.below)
  have HL1 := Aside0.mk (HL.out.below HB.out)
  clear hd HS HL
  go_wp2
  go_loopw [6] (fun v6 wr => ∃ i : Nat, v6 = .int .i64 (i : Int) ∧ i ≤ rows.length ∧ Aside0 (Lent wr base g rows) ∧ Aside0 (Below w.heap.size w wr)) (fun v6 _ => rows.length - (intOf v6).toNat)
  case atStart => exact ⟨0, rfl, Nat.zero_le _, HL1, HB⟩
  case round =>
    clear HL1 HB
    obtain ⟨i, rfl, hi, HL, HB⟩ := hrel
    by_cases hin : i < rows.length
    · have hlen := HM.out _ (List.getElem_mem hin)
      obtain ⟨b, k1, k2, _⟩ := HL.out.at i hin (by simp only [maxLen]; omega)
      obtain ⟨n, hnn⟩ : ∃ n, n = rows[i].length := ⟨_, rfl⟩
      rw [← hnn] at k1 k2 hlen
      have hw1 : IntKind.i64.wrap ((n : Int) + 1) = (n : Int) + 1 := IntWalk.i64_in _ (by omega)
      clear hnn
      go_wp2_with (fail)
      have hp1 : (0 : Int) ≤ (n : Int) + 1 := by omega
      have hp2 : ((n : Int) + 1).toNat = n + 1 := by omega
      go_quiet (fail)
      go_wp2
      have hb := ((Drawn0.refl wr).step nq).below
      exact ⟨⟨i + 1, by go_num, by omega, ⟨HL.out.below hb⟩, ⟨HB.out.trans (hb.mono HB.out.size)⟩⟩, by simp only [intOf]; omega⟩
    · have hie : i = rows.length := by omega
      subst hie
      obtain ⟨m, k1⟩ := HL.out.last
      go_wp2
      go_ret
      exact ⟨rfl, HB.out⟩
end Go.Proofs.YtbdlihldmmbdmaaDoor.Lent

namespace Go.Proofs.YtbdlihldmmbdmaaDoor.PickNames
open Go.RowKit Go.Proofs.YtbdlihldmmbdmaaDoor.SK Go.Proofs.YtbdlihldmmbdmaaDoorW.PrintWords Go.Proofs.YtbdlihldmmbdmaaDoorW.PrintMore Go.Proofs.YtbdlihldmmbdmaaDoor.Bits Go.Proofs.YtbdlihldmmbdmaaDoor.Plain Go.Proofs.YtbdlihldmmbdmaaDoor.PickAll
set_option linter.unusedVariables false

theorem eLives : amalgamlaw10_lives.f 200 = some true := by decide +kernel
theorem eThree : amalgamlaw10_three.f = some [[1, 1, 0], [0, 1, 1], [1, 0, 2]] := rfl
theorem e1 : pick_List.f 200 [[1, 1, 0], [0, 1, 1], [1, 0, 2]] [1, 1, 1] 4 = some ([3, 5, 6, 7], 0) := by decide +kernel
theorem e2 : pick_List.f 200 [[1, 1, 0], [0, 1, 1], [1, 0, 2]] [2, 1, 0] 3 = some ([1, 3, 6], 0) := by decide +kernel
theorem e3 : pick_List.f 200 [[1, 1, 0], [0, 1, 1], [1, 0, 2]] [0, 0, 0] 7 = some ([], 2) := by decide +kernel
theorem e4 : pick_Sum.f 200 [[1, 1, 0], [0, 1, 1], [1, 0, 2]] [0, 0, 0] 8 = some ([], 1) := by decide +kernel
theorem e5 : pick_Sum.f 200 [[1, 1, 0], [0, 1, 1], [1, 0, 2]] [0, 0, 0] 5 = some ([2, 1, 2], 0) := by decide +kernel
theorem e6 : pick_Check.f 200 (List.replicate 17 []) [] = some 101 := by decide +kernel
theorem e7 : pick_Check.f 200 [] [3] = some 102 := by decide +kernel
theorem e8 : pick_Check.f 200 [[1]] [] = some 103 := by decide +kernel
theorem e9 : amalgamref10_Same.f 200 [3, 5, 6, 7] [3, 5, 6, 7] = some true := by decide +kernel
theorem e10 : amalgamref10_Same.f 200 [1, 3, 6] [1, 3, 6] = some true := by decide +kernel
theorem e11 : amalgamref09_Same.f 200 [2, 1, 2] [2, 1, 2] = some true := by decide +kernel

theorem C_new (W : World) (t : TypeId) (k : IntKind) (xs : List Int) (hm : xs.length ≤ 9223372036854775807) :
    (Kd.int k).C (W.alloc (.cells (encs (Value.int k) xs).toArray t)) (some ⟨W.heap.size, 0, none⟩) xs.length xs :=
  (Kd.R_reads' (Kd.R_of_own (enc := Value.int k) (h1 := fun _ => rfl) (own_lit_of W W.heap.size t xs (Nat.le_refl _) hm) (fun _ _ => trivial) (ok := fun _ => True))).2.2
theorem C_none (k : IntKind) (W : World) : (Kd.int k).C W none 0 [] := ⟨rfl, Nat.zero_le _, fun h => absurd h (by decide)⟩
theorem C_noneL (W : World) : (Kd.slice 3 (Kd.int .i64)).C W none 0 [] := ⟨rfl, Nat.zero_le _, fun h => absurd h (by decide)⟩
theorem C_one {W : World} {A : Option Addr} {c g : Nat} {xs : List Int} (t : TypeId) (hg : g = W.heap.size) (hc : xs.length ≤ c) (h : (Kd.int .i64).C W A xs.length xs) :
    (Kd.slice 3 (Kd.int .i64)).C (W.alloc (.cells #[.slice A xs.length c] t)) (some ⟨g, 0, none⟩) 1 [xs] := by
  subst hg
  refine ⟨rfl, by decide, fun _ => ⟨_, rfl, fun j p hj => ?_⟩⟩
  cases j with
  | zero =>
    have hp : xs = p := by simpa using hj
    subst hp
    refine ⟨[.slice A xs.length c], rfl, ⟨A, c, rfl, hc, Kd.C_below h (below_alloc (Below.refl _ _) _)⟩, fun i u hu => ?_⟩
    cases i with
    | zero =>
      have : Value.slice A xs.length c = u := by simpa using hu
      subst this
      exact cell_of_one (heap_alloc_new W (.cells #[.slice A xs.length c] t))
    | succ i => simp at hu
  | succ j => simp at hj

set_option maxHeartbeats 4000000 in
theorem names_calls (w : World) (hT : TabW w) : Calls Tryd.prog 5 #[] w fun e w' => e = .returned (.bool true) ∧ Below w.heap.size w w' := by
  have HT := Aside0.mk hT
  clear hT
  have hmk : ∀ W : World, (Instr.makeSlice 22 (.int .i64 17) (.int .i64 17)).run Tryd.prog W = .ok (.slice (some ⟨W.heap.size, 0, none⟩) 17 17) (W.alloc (.cells (madeCells #[.slice none 0 0] 17) 23)) := make_rows 17 (by decide)
  go_enter Tryd.func5, Tryd.ntmps5
  go_wp2_with (fail)
  refine (amalgamlaw10_lives.calls 200 true w eLives HT.out).mono ?_
  rintro e w0 ⟨rfl, hb⟩
  have HB := Aside0.mk hb
  clear hb
  go_wp2_with (fail)
  refine (amalgamlaw10_three.calls _ _ eThree).mono ?_
  rintro e wa1 ⟨va1, rfl, ho, hb⟩
  obtain ⟨A1, c1, rfl⟩ := Kd.N_slice ho
  have HC := Aside0.mk (Kd.N_reads' ho)
  have hstep := hb
  have HB' := Aside0.mk (HB.out.trans (hstep.mono HB.out.size))
  clear HB
  have HB := HB'
  clear HB'
  clear hstep
  clear hb ho
  go_wp2_with (fail)
  refine (pick_List.calls 200 A1 c1 [[1, 1, 0], [0, 1, 1], [1, 0, 2]] _ 3 [1, 1, 1] 4 _ _ _ (Kd.C_below HC.out.2.2 (below_alloc (Below.refl _ _) _)) HC.out.2.1 (C_new wa1 3 .i64 [1, 1, 1] (by decide)) (Nat.le_refl _) e1 (HT.out.below (HB.out.trans ((below_alloc (Below.refl _ _) _).mono HB.out.size)))).mono ?_
  rintro e wb1 ⟨vb1, rfl, ho, hb⟩
  obtain ⟨B1, d1, rfl⟩ := Kd.R_slice ho
  have hstep := (below_alloc (Below.refl _ _) _).trans (hb.mono (by simp))
  have HB' := Aside0.mk (HB.out.trans (hstep.mono HB.out.size))
  clear HB
  have HB := HB'
  clear HB'
  clear hstep
  have HR1 := Aside0.mk (Kd.R_reads' ho).2.2
  have hd1 := (Kd.R_reads' ho).2.1
  clear hb ho HC
  go_wp2_with (fail)
  refine (amalgamlaw10_three.calls _ _ eThree).mono ?_
  rintro e wa2 ⟨va2, rfl, ho, hb⟩
  obtain ⟨A2, c2, rfl⟩ := Kd.N_slice ho
  have HC := Aside0.mk (Kd.N_reads' ho)
  have hstep := hb
  have HB' := Aside0.mk (HB.out.trans (hstep.mono HB.out.size))
  clear HB
  have HB := HB'
  clear HB'
  have HX := Aside0.mk (Kd.C_below HR1.out hstep)
  clear HR1
  have HR1 := HX
  clear HX
  clear hstep
  clear hb ho
  go_wp2_with (fail)
  refine (pick_List.calls 200 A2 c2 [[1, 1, 0], [0, 1, 1], [1, 0, 2]] _ 3 [2, 1, 0] 3 _ _ _ (Kd.C_below HC.out.2.2 (below_alloc (Below.refl _ _) _)) HC.out.2.1 (C_new wa2 3 .i64 [2, 1, 0] (by decide)) (Nat.le_refl _) e2 (HT.out.below (HB.out.trans ((below_alloc (Below.refl _ _) _).mono HB.out.size)))).mono ?_
  rintro e wb2 ⟨vb2, rfl, ho, hb⟩
  obtain ⟨B2, d2, rfl⟩ := Kd.R_slice ho
  have hstep := (below_alloc (Below.refl _ _) _).trans (hb.mono (by simp))
  have HB' := Aside0.mk (HB.out.trans (hstep.mono HB.out.size))
  clear HB
  have HB := HB'
  clear HB'
  have HX := Aside0.mk (Kd.C_below HR1.out hstep)
  clear HR1
  have HR1 := HX
  clear HX
  clear hstep
  have HR2 := Aside0.mk (Kd.R_reads' ho).2.2
  have hd2 := (Kd.R_reads' ho).2.1
  clear hb ho HC
  go_wp2_with (fail)
  refine (amalgamlaw10_three.calls _ _ eThree).mono ?_
  rintro e wa3 ⟨va3, rfl, ho, hb⟩
  obtain ⟨A3, c3, rfl⟩ := Kd.N_slice ho
  have HC := Aside0.mk (Kd.N_reads' ho)
  have hstep := hb
  have HB' := Aside0.mk (HB.out.trans (hstep.mono HB.out.size))
  clear HB
  have HB := HB'
  clear HB'
  have HX := Aside0.mk (Kd.C_below HR1.out hstep)
  clear HR1
  have HR1 := HX
  clear HX
  have HX := Aside0.mk (Kd.C_below HR2.out hstep)
  clear HR2
  have HR2 := HX
  clear HX
  clear hstep
  clear hb ho
  go_wp2_with (fail)
  refine (pick_List.calls 200 A3 c3 [[1, 1, 0], [0, 1, 1], [1, 0, 2]] _ 3 [0, 0, 0] 7 _ _ _ (Kd.C_below HC.out.2.2 (below_alloc (Below.refl _ _) _)) HC.out.2.1 (C_new wa3 3 .i64 [0, 0, 0] (by decide)) (Nat.le_refl _) e3 (HT.out.below (HB.out.trans ((below_alloc (Below.refl _ _) _).mono HB.out.size)))).mono ?_
  rintro e wb3 ⟨vb3, rfl, ho, hb⟩
  obtain ⟨B3, d3, rfl⟩ := Kd.R_slice ho
  have hstep := (below_alloc (Below.refl _ _) _).trans (hb.mono (by simp))
  have HB' := Aside0.mk (HB.out.trans (hstep.mono HB.out.size))
  clear HB
  have HB := HB'
  clear HB'
  have HX := Aside0.mk (Kd.C_below HR1.out hstep)
  clear HR1
  have HR1 := HX
  clear HX
  have HX := Aside0.mk (Kd.C_below HR2.out hstep)
  clear HR2
  have HR2 := HX
  clear HX
  clear hstep
  clear hb ho HC
  go_wp2_with (fail)
  refine (amalgamlaw10_three.calls _ _ eThree).mono ?_
  rintro e wa4 ⟨va4, rfl, ho, hb⟩
  obtain ⟨A4, c4, rfl⟩ := Kd.N_slice ho
  have HC := Aside0.mk (Kd.N_reads' ho)
  have hstep := hb
  have HB' := Aside0.mk (HB.out.trans (hstep.mono HB.out.size))
  clear HB
  have HB := HB'
  clear HB'
  have HX := Aside0.mk (Kd.C_below HR1.out hstep)
  clear HR1
  have HR1 := HX
  clear HX
  have HX := Aside0.mk (Kd.C_below HR2.out hstep)
  clear HR2
  have HR2 := HX
  clear HX
  clear hstep
  clear hb ho
  go_wp2_with (fail)
  refine (pick_Sum.calls 200 A4 c4 [[1, 1, 0], [0, 1, 1], [1, 0, 2]] _ 3 [0, 0, 0] 8 _ _ _ (Kd.C_below HC.out.2.2 (below_alloc (Below.refl _ _) _)) HC.out.2.1 (C_new wa4 3 .i64 [0, 0, 0] (by decide)) (Nat.le_refl _) e4 (HT.out.below (HB.out.trans ((below_alloc (Below.refl _ _) _).mono HB.out.size)))).mono ?_
  rintro e wb4 ⟨vb4, rfl, ho, hb⟩
  obtain ⟨B4, d4, rfl⟩ := Kd.R_slice ho
  have hstep := (below_alloc (Below.refl _ _) _).trans (hb.mono (by simp))
  have HB' := Aside0.mk (HB.out.trans (hstep.mono HB.out.size))
  clear HB
  have HB := HB'
  clear HB'
  have HX := Aside0.mk (Kd.C_below HR1.out hstep)
  clear HR1
  have HR1 := HX
  clear HX
  have HX := Aside0.mk (Kd.C_below HR2.out hstep)
  clear HR2
  have HR2 := HX
  clear HX
  clear hstep
  clear hb ho HC
  go_wp2_with (fail)
  refine (amalgamlaw10_three.calls _ _ eThree).mono ?_
  rintro e wa5 ⟨va5, rfl, ho, hb⟩
  obtain ⟨A5, c5, rfl⟩ := Kd.N_slice ho
  have HC := Aside0.mk (Kd.N_reads' ho)
  have hstep := hb
  have HB' := Aside0.mk (HB.out.trans (hstep.mono HB.out.size))
  clear HB
  have HB := HB'
  clear HB'
  have HX := Aside0.mk (Kd.C_below HR1.out hstep)
  clear HR1
  have HR1 := HX
  clear HX
  have HX := Aside0.mk (Kd.C_below HR2.out hstep)
  clear HR2
  have HR2 := HX
  clear HX
  clear hstep
  clear hb ho
  go_wp2_with (fail)
  refine (pick_Sum.calls 200 A5 c5 [[1, 1, 0], [0, 1, 1], [1, 0, 2]] _ 3 [0, 0, 0] 5 _ _ _ (Kd.C_below HC.out.2.2 (below_alloc (Below.refl _ _) _)) HC.out.2.1 (C_new wa5 3 .i64 [0, 0, 0] (by decide)) (Nat.le_refl _) e5 (HT.out.below (HB.out.trans ((below_alloc (Below.refl _ _) _).mono HB.out.size)))).mono ?_
  rintro e wb5 ⟨vb5, rfl, ho, hb⟩
  obtain ⟨B5, d5, rfl⟩ := Kd.R_slice ho
  have hstep := (below_alloc (Below.refl _ _) _).trans (hb.mono (by simp))
  have HB' := Aside0.mk (HB.out.trans (hstep.mono HB.out.size))
  clear HB
  have HB := HB'
  clear HB'
  have HX := Aside0.mk (Kd.C_below HR1.out hstep)
  clear HR1
  have HR1 := HX
  clear HX
  have HX := Aside0.mk (Kd.C_below HR2.out hstep)
  clear HR2
  have HR2 := HX
  clear HX
  clear hstep
  have HR5 := Aside0.mk (Kd.R_reads' ho).2.2
  have hd5 := (Kd.R_reads' ho).2.1
  clear hb ho HC
  go_wp2_with (fail)
  refine (pick_Check.calls 200 (some _) 17 (List.replicate 17 []) none 0 [] 101 _ (Kd.R_reads' (R_made_rows _ _ 17 (fun _ => True) trivial (Nat.le_refl _) (by decide))).2.2 (Nat.le_refl _) (C_none _ _) (Nat.le_refl _) e6).mono ?_
  rintro e wc6 ⟨rfl, hb⟩
  have hstep := (below_alloc (Below.refl _ _) _).trans (hb.mono (by simp))
  have HB' := Aside0.mk (HB.out.trans (hstep.mono HB.out.size))
  clear HB
  have HB := HB'
  clear HB'
  have HX := Aside0.mk (Kd.C_below HR1.out hstep)
  clear HR1
  have HR1 := HX
  clear HX
  have HX := Aside0.mk (Kd.C_below HR2.out hstep)
  clear HR2
  have HR2 := HX
  clear HX
  have HX := Aside0.mk (Kd.C_below HR5.out hstep)
  clear HR5
  have HR5 := HX
  clear HX
  clear hstep
  clear hb
  go_wp2_with (fail)
  refine (pick_Check.calls 200 none 0 [] (some _) 1 [3] 102 _ (C_noneL _) (Nat.le_refl _) (C_new wc6 3 .i64 [3] (by decide)) (Nat.le_refl _) e7).mono ?_
  rintro e wc7 ⟨rfl, hb⟩
  have hstep := (below_alloc (Below.refl _ _) _).trans (hb.mono (by simp))
  have HB' := Aside0.mk (HB.out.trans (hstep.mono HB.out.size))
  clear HB
  have HB := HB'
  clear HB'
  have HX := Aside0.mk (Kd.C_below HR1.out hstep)
  clear HR1
  have HR1 := HX
  clear HX
  have HX := Aside0.mk (Kd.C_below HR2.out hstep)
  clear HR2
  have HR2 := HX
  clear HX
  have HX := Aside0.mk (Kd.C_below HR5.out hstep)
  clear HR5
  have HR5 := HX
  clear HX
  clear hstep
  clear hb
  go_wp2_with (fail)
  refine (pick_Check.calls 200 (some _) 1 [[1]] none 0 [] 103 _ (C_one (xs := [1]) 23 (World.size_alloc _ _).symm (Nat.le_refl _) (C_new wc7 3 .i64 [1] (by decide))) (Nat.le_refl _) (C_none _ _) (Nat.le_refl _) e8).mono ?_
  rintro e wc8 ⟨rfl, hb⟩
  have hstep := (below_alloc (below_alloc (Below.refl _ _) _) _).trans (hb.mono (by simp; omega))
  have HB' := Aside0.mk (HB.out.trans (hstep.mono HB.out.size))
  clear HB
  have HB := HB'
  clear HB'
  have HX := Aside0.mk (Kd.C_below HR1.out hstep)
  clear HR1
  have HR1 := HX
  clear HX
  have HX := Aside0.mk (Kd.C_below HR2.out hstep)
  clear HR2
  have HR2 := HX
  clear HX
  have HX := Aside0.mk (Kd.C_below HR5.out hstep)
  clear HR5
  have HR5 := HX
  clear HX
  clear hstep
  clear hb
  go_wp2_with (fail)
  refine (amalgamref10_Same.calls 200 B1 _ [3, 5, 6, 7] (some _) 4 [3, 5, 6, 7] true _ (Kd.C_below HR1.out (below_alloc (Below.refl _ _) _)) hd1 (C_new wc8 37 .u32 [3, 5, 6, 7] (by decide)) (Nat.le_refl _) e9).mono ?_
  rintro e wd9 ⟨rfl, hb⟩
  replace hb := hb.below
  have hstep := (below_alloc (Below.refl _ _) _).trans (hb.mono (by simp))
  have HB' := Aside0.mk (HB.out.trans (hstep.mono HB.out.size))
  clear HB
  have HB := HB'
  clear HB'
  have HX := Aside0.mk (Kd.C_below HR1.out hstep)
  clear HR1
  have HR1 := HX
  clear HX
  have HX := Aside0.mk (Kd.C_below HR2.out hstep)
  clear HR2
  have HR2 := HX
  clear HX
  have HX := Aside0.mk (Kd.C_below HR5.out hstep)
  clear HR5
  have HR5 := HX
  clear HX
  clear hstep
  clear hb
  go_wp2_with (fail)
  refine (amalgamref10_Same.calls 200 B2 _ [1, 3, 6] (some _) 3 [1, 3, 6] true _ (Kd.C_below HR2.out (below_alloc (Below.refl _ _) _)) hd2 (C_new wd9 37 .u32 [1, 3, 6] (by decide)) (Nat.le_refl _) e10).mono ?_
  rintro e wd10 ⟨rfl, hb⟩
  replace hb := hb.below
  have hstep := (below_alloc (Below.refl _ _) _).trans (hb.mono (by simp))
  have HB' := Aside0.mk (HB.out.trans (hstep.mono HB.out.size))
  clear HB
  have HB := HB'
  clear HB'
  have HX := Aside0.mk (Kd.C_below HR1.out hstep)
  clear HR1
  have HR1 := HX
  clear HX
  have HX := Aside0.mk (Kd.C_below HR2.out hstep)
  clear HR2
  have HR2 := HX
  clear HX
  have HX := Aside0.mk (Kd.C_below HR5.out hstep)
  clear HR5
  have HR5 := HX
  clear HX
  clear hstep
  clear hb
  go_wp2_with (fail)
  refine (amalgamref09_Same.calls 200 B5 _ [2, 1, 2] (some _) 3 [2, 1, 2] true _ (Kd.C_below HR5.out (below_alloc (Below.refl _ _) _)) hd5 (C_new wd10 3 .i64 [2, 1, 2] (by decide)) (Nat.le_refl _) e11).mono ?_
  rintro e wd11 ⟨rfl, hb⟩
  replace hb := hb.below
  have hstep := (below_alloc (Below.refl _ _) _).trans (hb.mono (by simp))
  have HB' := Aside0.mk (HB.out.trans (hstep.mono HB.out.size))
  clear HB
  have HB := HB'
  clear HB'
  have HX := Aside0.mk (Kd.C_below HR1.out hstep)
  clear HR1
  have HR1 := HX
  clear HX
  have HX := Aside0.mk (Kd.C_below HR2.out hstep)
  clear HR2
  have HR2 := HX
  clear HX
  have HX := Aside0.mk (Kd.C_below HR5.out hstep)
  clear HR5
  have HR5 := HX
  clear HX
  clear hstep
  clear hb
  go_wp2
  go_ret
  exact ⟨rfl, HB.out⟩
end Go.Proofs.YtbdlihldmmbdmaaDoor.PickNames

-- PRINTED by print.py (a twelfth state) out of the translation. Not trusted: Lean checks it.
namespace Go.Proofs.YtbdlihldmmbdmaaDoor.SK
open Go.RowKit Go.Proofs.YtbdlihldmmbdmaaDoorW.PrintWords Go.Proofs.YtbdlihldmmbdmaaDoorW.PrintLast Go.Proofs.YtbdlihldmmbdmaaDoorW.PrintMore
attribute [local go_sem] max2_int min2_int max_two min_two max_three min_three max_four min_four   -- for this text's walks alone
set_option linter.unusedVariables false
set_option linter.unusedSimpArgs false

/-! ### amalgamlaw10_PickCover: function 4 -/
mutual
def amalgamlaw10_PickCover.j0 : Nat → List (List Int) → Bool → Int → Option (Bool)
  | 0, _, _, _ => none
  | k + 1, x0, x5, x6 => if 0 ≤ x6 then (if (x6 : Int).toNat ≤ 35184372088832 then (amalgamlaw10_PickCover.l0 k x0 x5 x6 (List.replicate (x6 : Int).toNat 0) ([] : List (List Int)) 0) else (none)) else (none)
def amalgamlaw10_PickCover.l0 : Nat → List (List Int) → Bool → Int → List Int → List (List Int) → Int → Option (Bool)
  | 0, _, _, _, _, _, _ => none
  | k + 1, x0, x5, x6, x7, x8, x9 => if x9 < (x0.length : Int) then (amalgamlaw10_PickCover.j2 k x0 x5 x6 x7 x8 x9 (decide (x9 < 8))) else (amalgamlaw10_PickCover.j2 k x0 x5 x6 x7 x8 x9 false)
def amalgamlaw10_PickCover.j2 : Nat → List (List Int) → Bool → Int → List Int → List (List Int) → Int → Bool → Option (Bool)
  | 0, _, _, _, _, _, _, _ => none
  | k + 1, x0, x5, x6, x7, x8, x9, x38 => if x38 = true then (if 0 ≤ x6 then (if (x6 : Int).toNat ≤ 35184372088832 then (amalgamlaw10_PickCover.l1 k x0 x5 x6 x7 x8 x9 (List.replicate (x6 : Int).toNat 0) 0) else (none)) else (none)) else (amalgamlaw10_PickCover.l2 k x5 x6 x7 x8 0)
def amalgamlaw10_PickCover.l1 : Nat → List (List Int) → Bool → Int → List Int → List (List Int) → Int → List Int → Int → Option (Bool)
  | 0, _, _, _, _, _, _, _, _ => none
  | k + 1, x0, x5, x6, x7, x8, x9, x10, x11 => if x11 < x6 then (if 0 ≤ x9 then (if x9 < (x0.length : Int) then (if x11 < ((rd_L1 x0 x9).length : Int) then (if 0 ≤ x11 then (if x11 < (x10.length : Int) then (amalgamlaw10_PickCover.l1 k x0 x5 x6 x7 x8 x9 (x10.set (x11 : Int).toNat (Go.bits .and .i64 (rd (rd_L1 x0 x9) x11) 1)) (wrap64 (x11 + 1))) else (none)) else (none)) else (if x8.length < 5864062014805 then (amalgamlaw10_PickCover.l0 k x0 x5 x6 x7 (x8 ++ [x10]) (wrap64 (x9 + 1))) else (none))) else (none)) else (none)) else (if x8.length < 5864062014805 then (amalgamlaw10_PickCover.l0 k x0 x5 x6 x7 (x8 ++ [x10]) (wrap64 (x9 + 1))) else (none))
def amalgamlaw10_PickCover.l2 : Nat → Bool → Int → List Int → List (List Int) → Int → Option (Bool)
  | 0, _, _, _, _, _ => none
  | k + 1, x5, x6, x7, x8, x12 => if x12 < x6 then (if 0 ≤ x12 then (if x12 < (x7.length : Int) then (amalgamlaw10_PickCover.l2 k x5 x6 (x7.set (x12 : Int).toNat 2) x8 (wrap64 (x12 + 1))) else (none)) else (none)) else ((pick_List.f k x8 x7 65536).bind fun bt172 => (if x5 = true then (amalgamlaw10_PickCover.j5 k x6 x8 bt172.1 (bt172.2 != 0)) else (amalgamlaw10_PickCover.j5 k x6 x8 bt172.1 true)))
def amalgamlaw10_PickCover.j5 : Nat → Int → List (List Int) → List Int → Bool → Option (Bool)
  | 0, _, _, _, _ => none
  | k + 1, x6, x8, x13, x91 => if x91 = true then (some false) else (amalgamlaw10_PickCover.l3 k x6 x8 x13 0 0)
def amalgamlaw10_PickCover.l3 : Nat → Int → List (List Int) → List Int → Int → Int → Option (Bool)
  | 0, _, _, _, _, _ => none
  | k + 1, x6, x8, x13, x15, x16 => if x16 < (shl .u32 1 (x8.length : Int)) then (amalgamlaw10_PickCover.l4 k x6 x8 x13 x15 x16 true 0) else (some (x15 == (x13.length : Int)))
def amalgamlaw10_PickCover.l4 : Nat → Int → List (List Int) → List Int → Int → Int → Bool → Int → Option (Bool)
  | 0, _, _, _, _, _, _, _ => none
  | k + 1, x6, x8, x13, x15, x16, x17, x18 => if x18 < x6 then (amalgamlaw10_PickCover.l5 k x6 x8 x13 x15 x16 x17 x18 0 0) else (if x15 < (x13.length : Int) then (if 0 ≤ x15 then (amalgamlaw10_PickCover.j9 k x6 x8 x13 x15 x16 x17 ((rd x13 x15) == x16)) else (none)) else (amalgamlaw10_PickCover.j9 k x6 x8 x13 x15 x16 x17 false))
def amalgamlaw10_PickCover.l5 : Nat → Int → List (List Int) → List Int → Int → Int → Bool → Int → Int → Int → Option (Bool)
  | 0, _, _, _, _, _, _, _, _, _ => none
  | k + 1, x6, x8, x13, x15, x16, x17, x18, x19, x20 => if x20 < (x8.length : Int) then (if 0 ≤ x20 then (if (Go.bits .and .u32 (shr .u32 x16 x20) 1) = 1 then (if 0 ≤ x18 then (if x18 < ((rd_L1 x8 x20).length : Int) then (amalgamlaw10_PickCover.l5 k x6 x8 x13 x15 x16 x17 x18 (wrap64 (x19 + (rd (rd_L1 x8 x20) x18))) (wrap64 (x20 + 1))) else (none)) else (none)) else (amalgamlaw10_PickCover.l5 k x6 x8 x13 x15 x16 x17 x18 x19 (wrap64 (x20 + 1)))) else (none)) else (if x17 = true then (amalgamlaw10_PickCover.l4 k x6 x8 x13 x15 x16 (x19 == 1) (wrap64 (x18 + 1))) else (amalgamlaw10_PickCover.l4 k x6 x8 x13 x15 x16 false (wrap64 (x18 + 1))))
def amalgamlaw10_PickCover.j9 : Nat → Int → List (List Int) → List Int → Int → Int → Bool → Bool → Option (Bool)
  | 0, _, _, _, _, _, _, _ => none
  | k + 1, x6, x8, x13, x15, x16, x17, x21 => if x21 = true then (if (x21 != x17) = true then (some false) else (amalgamlaw10_PickCover.l3 k x6 x8 x13 (wrap64 (x15 + 1)) ((x16 + 1) % 4294967296))) else (if (x21 != x17) = true then (some false) else (amalgamlaw10_PickCover.l3 k x6 x8 x13 x15 ((x16 + 1) % 4294967296)))
end
def amalgamlaw10_PickCover.f (k : Nat) (l0 : List (List Int)) (a1 : Int) : Option (Bool) := (amalgamlaw10_lives.f k).bind fun t154 => (if (Int.tmod a1 11) < 0 then (amalgamlaw10_PickCover.j0 k l0 t154 (wrap64 (-(Int.tmod a1 11)))) else (amalgamlaw10_PickCover.j0 k l0 t154 (Int.tmod a1 11)))
theorem amalgamlaw10_PickCover.mono_l : ∀ k, (∀ y0 y1 y2, LeO (amalgamlaw10_PickCover.j0 k y0 y1 y2) (amalgamlaw10_PickCover.j0 (k + 1) y0 y1 y2)) ∧ (∀ y0 y1 y2 y3 y4 y5, LeO (amalgamlaw10_PickCover.l0 k y0 y1 y2 y3 y4 y5) (amalgamlaw10_PickCover.l0 (k + 1) y0 y1 y2 y3 y4 y5)) ∧ (∀ y0 y1 y2 y3 y4 y5 y6, LeO (amalgamlaw10_PickCover.j2 k y0 y1 y2 y3 y4 y5 y6) (amalgamlaw10_PickCover.j2 (k + 1) y0 y1 y2 y3 y4 y5 y6)) ∧ (∀ y0 y1 y2 y3 y4 y5 y6 y7, LeO (amalgamlaw10_PickCover.l1 k y0 y1 y2 y3 y4 y5 y6 y7) (amalgamlaw10_PickCover.l1 (k + 1) y0 y1 y2 y3 y4 y5 y6 y7)) ∧ (∀ y0 y1 y2 y3 y4, LeO (amalgamlaw10_PickCover.l2 k y0 y1 y2 y3 y4) (amalgamlaw10_PickCover.l2 (k + 1) y0 y1 y2 y3 y4)) ∧ (∀ y0 y1 y2 y3, LeO (amalgamlaw10_PickCover.j5 k y0 y1 y2 y3) (amalgamlaw10_PickCover.j5 (k + 1) y0 y1 y2 y3)) ∧ (∀ y0 y1 y2 y3 y4, LeO (amalgamlaw10_PickCover.l3 k y0 y1 y2 y3 y4) (amalgamlaw10_PickCover.l3 (k + 1) y0 y1 y2 y3 y4)) ∧ (∀ y0 y1 y2 y3 y4 y5 y6, LeO (amalgamlaw10_PickCover.l4 k y0 y1 y2 y3 y4 y5 y6) (amalgamlaw10_PickCover.l4 (k + 1) y0 y1 y2 y3 y4 y5 y6)) ∧ (∀ y0 y1 y2 y3 y4 y5 y6 y7 y8, LeO (amalgamlaw10_PickCover.l5 k y0 y1 y2 y3 y4 y5 y6 y7 y8) (amalgamlaw10_PickCover.l5 (k + 1) y0 y1 y2 y3 y4 y5 y6 y7 y8)) ∧ (∀ y0 y1 y2 y3 y4 y5 y6, LeO (amalgamlaw10_PickCover.j9 k y0 y1 y2 y3 y4 y5 y6) (amalgamlaw10_PickCover.j9 (k + 1) y0 y1 y2 y3 y4 y5 y6))
  | 0 => ⟨fun _ _ _ r h => by simp [amalgamlaw10_PickCover.j0] at h, fun _ _ _ _ _ _ r h => by simp [amalgamlaw10_PickCover.l0] at h, fun _ _ _ _ _ _ _ r h => by simp [amalgamlaw10_PickCover.j2] at h, fun _ _ _ _ _ _ _ _ r h => by simp [amalgamlaw10_PickCover.l1] at h, fun _ _ _ _ _ r h => by simp [amalgamlaw10_PickCover.l2] at h, fun _ _ _ _ r h => by simp [amalgamlaw10_PickCover.j5] at h, fun _ _ _ _ _ r h => by simp [amalgamlaw10_PickCover.l3] at h, fun _ _ _ _ _ _ _ r h => by simp [amalgamlaw10_PickCover.l4] at h, fun _ _ _ _ _ _ _ _ _ r h => by simp [amalgamlaw10_PickCover.l5] at h, fun _ _ _ _ _ _ _ r h => by simp [amalgamlaw10_PickCover.j9] at h⟩
  | k + 1 => by
    obtain ⟨ih0, ih1, ih2, ih3, ih4, ih5, ih6, ih7, ih8, ih9⟩ := amalgamlaw10_PickCover.mono_l k
    refine ⟨?_, ?_, ?_, ?_, ?_, ?_, ?_, ?_, ?_, ?_⟩
    · intro y0 y1 y2
      unfold amalgamlaw10_PickCover.j0
      repeat' first
      | (with_reducible exact ih0 _ _ _)
      | (with_reducible exact ih1 _ _ _ _ _ _)
      | (with_reducible exact ih2 _ _ _ _ _ _ _)
      | (with_reducible exact ih3 _ _ _ _ _ _ _ _)
      | (with_reducible exact ih4 _ _ _ _ _)
      | (with_reducible exact ih5 _ _ _ _)
      | (with_reducible exact ih6 _ _ _ _ _)
      | (with_reducible exact ih7 _ _ _ _ _ _ _)
      | (with_reducible exact ih8 _ _ _ _ _ _ _ _ _)
      | (with_reducible exact ih9 _ _ _ _ _ _ _)
      | (with_reducible exact amalgamlaw10_lives.mono _)
      | (with_reducible exact pick_List.mono _ _ _ _)
      | (with_reducible exact LeO.refl _)
      | (with_reducible exact LeO.none _)
      | (with_reducible refine LeO.ite ?_ ?_)
      | (with_reducible refine LeO.bind ?_ (fun _ => ?_))
      | exact ih0 _ _ _
      | exact ih1 _ _ _ _ _ _
      | exact ih2 _ _ _ _ _ _ _
      | exact ih3 _ _ _ _ _ _ _ _
      | exact ih4 _ _ _ _ _
      | exact ih5 _ _ _ _
      | exact ih6 _ _ _ _ _
      | exact ih7 _ _ _ _ _ _ _
      | exact ih8 _ _ _ _ _ _ _ _ _
      | exact ih9 _ _ _ _ _ _ _
      | exact amalgamlaw10_lives.mono _
      | exact pick_List.mono _ _ _ _
      | exact LeO.none _
      | refine LeO.ite ?_ ?_
      | refine LeO.bind ?_ (fun _ => ?_)
    · intro y0 y1 y2 y3 y4 y5
      unfold amalgamlaw10_PickCover.l0
      repeat' first
      | (with_reducible exact ih0 _ _ _)
      | (with_reducible exact ih1 _ _ _ _ _ _)
      | (with_reducible exact ih2 _ _ _ _ _ _ _)
      | (with_reducible exact ih3 _ _ _ _ _ _ _ _)
      | (with_reducible exact ih4 _ _ _ _ _)
      | (with_reducible exact ih5 _ _ _ _)
      | (with_reducible exact ih6 _ _ _ _ _)
      | (with_reducible exact ih7 _ _ _ _ _ _ _)
      | (with_reducible exact ih8 _ _ _ _ _ _ _ _ _)
      | (with_reducible exact ih9 _ _ _ _ _ _ _)
      | (with_reducible exact amalgamlaw10_lives.mono _)
      | (with_reducible exact pick_List.mono _ _ _ _)
      | (with_reducible exact LeO.refl _)
      | (with_reducible exact LeO.none _)
      | (with_reducible refine LeO.ite ?_ ?_)
      | (with_reducible refine LeO.bind ?_ (fun _ => ?_))
      | exact ih0 _ _ _
      | exact ih1 _ _ _ _ _ _
      | exact ih2 _ _ _ _ _ _ _
      | exact ih3 _ _ _ _ _ _ _ _
      | exact ih4 _ _ _ _ _
      | exact ih5 _ _ _ _
      | exact ih6 _ _ _ _ _
      | exact ih7 _ _ _ _ _ _ _
      | exact ih8 _ _ _ _ _ _ _ _ _
      | exact ih9 _ _ _ _ _ _ _
      | exact amalgamlaw10_lives.mono _
      | exact pick_List.mono _ _ _ _
      | exact LeO.none _
      | refine LeO.ite ?_ ?_
      | refine LeO.bind ?_ (fun _ => ?_)
    · intro y0 y1 y2 y3 y4 y5 y6
      unfold amalgamlaw10_PickCover.j2
      repeat' first
      | (with_reducible exact ih0 _ _ _)
      | (with_reducible exact ih1 _ _ _ _ _ _)
      | (with_reducible exact ih2 _ _ _ _ _ _ _)
      | (with_reducible exact ih3 _ _ _ _ _ _ _ _)
      | (with_reducible exact ih4 _ _ _ _ _)
      | (with_reducible exact ih5 _ _ _ _)
      | (with_reducible exact ih6 _ _ _ _ _)
      | (with_reducible exact ih7 _ _ _ _ _ _ _)
      | (with_reducible exact ih8 _ _ _ _ _ _ _ _ _)
      | (with_reducible exact ih9 _ _ _ _ _ _ _)
      | (with_reducible exact amalgamlaw10_lives.mono _)
      | (with_reducible exact pick_List.mono _ _ _ _)
      | (with_reducible exact LeO.refl _)
      | (with_reducible exact LeO.none _)
      | (with_reducible refine LeO.ite ?_ ?_)
      | (with_reducible refine LeO.bind ?_ (fun _ => ?_))
      | exact ih0 _ _ _
      | exact ih1 _ _ _ _ _ _
      | exact ih2 _ _ _ _ _ _ _
      | exact ih3 _ _ _ _ _ _ _ _
      | exact ih4 _ _ _ _ _
      | exact ih5 _ _ _ _
      | exact ih6 _ _ _ _ _
      | exact ih7 _ _ _ _ _ _ _
      | exact ih8 _ _ _ _ _ _ _ _ _
      | exact ih9 _ _ _ _ _ _ _
      | exact amalgamlaw10_lives.mono _
      | exact pick_List.mono _ _ _ _
      | exact LeO.none _
      | refine LeO.ite ?_ ?_
      | refine LeO.bind ?_ (fun _ => ?_)
    · intro y0 y1 y2 y3 y4 y5 y6 y7
      unfold amalgamlaw10_PickCover.l1
      repeat' first
      | (with_reducible exact ih0 _ _ _)
      | (with_reducible exact ih1 _ _ _ _ _ _)
      | (with_reducible exact ih2 _ _ _ _ _ _ _)
      | (with_reducible exact ih3 _ _ _ _ _ _ _ _)
      | (with_reducible exact ih4 _ _ _ _ _)
      | (with_reducible exact ih5 _ _ _ _)
      | (with_reducible exact ih6 _ _ _ _ _)
      | (with_reducible exact ih7 _ _ _ _ _ _ _)
      | (with_reducible exact ih8 _ _ _ _ _ _ _ _ _)
      | (with_reducible exact ih9 _ _ _ _ _ _ _)
      | (with_reducible exact amalgamlaw10_lives.mono _)
      | (with_reducible exact pick_List.mono _ _ _ _)
      | (with_reducible exact LeO.refl _)
      | (with_reducible exact LeO.none _)
      | (with_reducible refine LeO.ite ?_ ?_)
      | (with_reducible refine LeO.bind ?_ (fun _ => ?_))
      | exact ih0 _ _ _
      | exact ih1 _ _ _ _ _ _
      | exact ih2 _ _ _ _ _ _ _
      | exact ih3 _ _ _ _ _ _ _ _
      | exact ih4 _ _ _ _ _
      | exact ih5 _ _ _ _
      | exact ih6 _ _ _ _ _
      | exact ih7 _ _ _ _ _ _ _
      | exact ih8 _ _ _ _ _ _ _ _ _
      | exact ih9 _ _ _ _ _ _ _
      | exact amalgamlaw10_lives.mono _
      | exact pick_List.mono _ _ _ _
      | exact LeO.none _
      | refine LeO.ite ?_ ?_
      | refine LeO.bind ?_ (fun _ => ?_)
    · intro y0 y1 y2 y3 y4
      unfold amalgamlaw10_PickCover.l2
      repeat' first
      | (with_reducible exact ih0 _ _ _)
      | (with_reducible exact ih1 _ _ _ _ _ _)
      | (with_reducible exact ih2 _ _ _ _ _ _ _)
      | (with_reducible exact ih3 _ _ _ _ _ _ _ _)
      | (with_reducible exact ih4 _ _ _ _ _)
      | (with_reducible exact ih5 _ _ _ _)
      | (with_reducible exact ih6 _ _ _ _ _)
      | (with_reducible exact ih7 _ _ _ _ _ _ _)
      | (with_reducible exact ih8 _ _ _ _ _ _ _ _ _)
      | (with_reducible exact ih9 _ _ _ _ _ _ _)
      | (with_reducible exact amalgamlaw10_lives.mono _)
      | (with_reducible exact pick_List.mono _ _ _ _)
      | (with_reducible exact LeO.refl _)
      | (with_reducible exact LeO.none _)
      | (with_reducible refine LeO.ite ?_ ?_)
      | (with_reducible refine LeO.bind ?_ (fun _ => ?_))
      | exact ih0 _ _ _
      | exact ih1 _ _ _ _ _ _
      | exact ih2 _ _ _ _ _ _ _
      | exact ih3 _ _ _ _ _ _ _ _
      | exact ih4 _ _ _ _ _
      | exact ih5 _ _ _ _
      | exact ih6 _ _ _ _ _
      | exact ih7 _ _ _ _ _ _ _
      | exact ih8 _ _ _ _ _ _ _ _ _
      | exact ih9 _ _ _ _ _ _ _
      | exact amalgamlaw10_lives.mono _
      | exact pick_List.mono _ _ _ _
      | exact LeO.none _
      | refine LeO.ite ?_ ?_
      | refine LeO.bind ?_ (fun _ => ?_)
    · intro y0 y1 y2 y3
      unfold amalgamlaw10_PickCover.j5
      repeat' first
      | (with_reducible exact ih0 _ _ _)
      | (with_reducible exact ih1 _ _ _ _ _ _)
      | (with_reducible exact ih2 _ _ _ _ _ _ _)
      | (with_reducible exact ih3 _ _ _ _ _ _ _ _)
      | (with_reducible exact ih4 _ _ _ _ _)
      | (with_reducible exact ih5 _ _ _ _)
      | (with_reducible exact ih6 _ _ _ _ _)
      | (with_reducible exact ih7 _ _ _ _ _ _ _)
      | (with_reducible exact ih8 _ _ _ _ _ _ _ _ _)
      | (with_reducible exact ih9 _ _ _ _ _ _ _)
      | (with_reducible exact amalgamlaw10_lives.mono _)
      | (with_reducible exact pick_List.mono _ _ _ _)
      | (with_reducible exact LeO.refl _)
      | (with_reducible exact LeO.none _)
      | (with_reducible refine LeO.ite ?_ ?_)
      | (with_reducible refine LeO.bind ?_ (fun _ => ?_))
      | exact ih0 _ _ _
      | exact ih1 _ _ _ _ _ _
      | exact ih2 _ _ _ _ _ _ _
      | exact ih3 _ _ _ _ _ _ _ _
      | exact ih4 _ _ _ _ _
      | exact ih5 _ _ _ _
      | exact ih6 _ _ _ _ _
      | exact ih7 _ _ _ _ _ _ _
      | exact ih8 _ _ _ _ _ _ _ _ _
      | exact ih9 _ _ _ _ _ _ _
      | exact amalgamlaw10_lives.mono _
      | exact pick_List.mono _ _ _ _
      | exact LeO.none _
      | refine LeO.ite ?_ ?_
      | refine LeO.bind ?_ (fun _ => ?_)
    · intro y0 y1 y2 y3 y4
      unfold amalgamlaw10_PickCover.l3
      repeat' first
      | (with_reducible exact ih0 _ _ _)
      | (with_reducible exact ih1 _ _ _ _ _ _)
      | (with_reducible exact ih2 _ _ _ _ _ _ _)
      | (with_reducible exact ih3 _ _ _ _ _ _ _ _)
      | (with_reducible exact ih4 _ _ _ _ _)
      | (with_reducible exact ih5 _ _ _ _)
      | (with_reducible exact ih6 _ _ _ _ _)
      | (with_reducible exact ih7 _ _ _ _ _ _ _)
      | (with_reducible exact ih8 _ _ _ _ _ _ _ _ _)
      | (with_reducible exact ih9 _ _ _ _ _ _ _)
      | (with_reducible exact amalgamlaw10_lives.mono _)
      | (with_reducible exact pick_List.mono _ _ _ _)
      | (with_reducible exact LeO.refl _)
      | (with_reducible exact LeO.none _)
      | (with_reducible refine LeO.ite ?_ ?_)
      | (with_reducible refine LeO.bind ?_ (fun _ => ?_))
      | exact ih0 _ _ _
      | exact ih1 _ _ _ _ _ _
      | exact ih2 _ _ _ _ _ _ _
      | exact ih3 _ _ _ _ _ _ _ _
      | exact ih4 _ _ _ _ _
      | exact ih5 _ _ _ _
      | exact ih6 _ _ _ _ _
      | exact ih7 _ _ _ _ _ _ _
      | exact ih8 _ _ _ _ _ _ _ _ _
      | exact ih9 _ _ _ _ _ _ _
      | exact amalgamlaw10_lives.mono _
      | exact pick_List.mono _ _ _ _
      | exact LeO.none _
      | refine LeO.ite ?_ ?_
      | refine LeO.bind ?_ (fun _ => ?_)
    · intro y0 y1 y2 y3 y4 y5 y6
      unfold amalgamlaw10_PickCover.l4
      repeat' first
      | (with_reducible exact ih0 _ _ _)
      | (with_reducible exact ih1 _ _ _ _ _ _)
      | (with_reducible exact ih2 _ _ _ _ _ _ _)
      | (with_reducible exact ih3 _ _ _ _ _ _ _ _)
      | (with_reducible exact ih4 _ _ _ _ _)
      | (with_reducible exact ih5 _ _ _ _)
      | (with_reducible exact ih6 _ _ _ _ _)
      | (with_reducible exact ih7 _ _ _ _ _ _ _)
      | (with_reducible exact ih8 _ _ _ _ _ _ _ _ _)
      | (with_reducible exact ih9 _ _ _ _ _ _ _)
      | (with_reducible exact amalgamlaw10_lives.mono _)
      | (with_reducible exact pick_List.mono _ _ _ _)
      | (with_reducible exact LeO.refl _)
      | (with_reducible exact LeO.none _)
      | (with_reducible refine LeO.ite ?_ ?_)
      | (with_reducible refine LeO.bind ?_ (fun _ => ?_))
      | exact ih0 _ _ _
      | exact ih1 _ _ _ _ _ _
      | exact ih2 _ _ _ _ _ _ _
      | exact ih3 _ _ _ _ _ _ _ _
      | exact ih4 _ _ _ _ _
      | exact ih5 _ _ _ _
      | exact ih6 _ _ _ _ _
      | exact ih7 _ _ _ _ _ _ _
      | exact ih8 _ _ _ _ _ _ _ _ _
      | exact ih9 _ _ _ _ _ _ _
      | exact amalgamlaw10_lives.mono _
      | exact pick_List.mono _ _ _ _
      | exact LeO.none _
      | refine LeO.ite ?_ ?_
      | refine LeO.bind ?_ (fun _ => ?_)
    · intro y0 y1 y2 y3 y4 y5 y6 y7 y8
      unfold amalgamlaw10_PickCover.l5
      repeat' first
      | (with_reducible exact ih0 _ _ _)
      | (with_reducible exact ih1 _ _ _ _ _ _)
      | (with_reducible exact ih2 _ _ _ _ _ _ _)
      | (with_reducible exact ih3 _ _ _ _ _ _ _ _)
      | (with_reducible exact ih4 _ _ _ _ _)
      | (with_reducible exact ih5 _ _ _ _)
      | (with_reducible exact ih6 _ _ _ _ _)
      | (with_reducible exact ih7 _ _ _ _ _ _ _)
      | (with_reducible exact ih8 _ _ _ _ _ _ _ _ _)
      | (with_reducible exact ih9 _ _ _ _ _ _ _)
      | (with_reducible exact amalgamlaw10_lives.mono _)
      | (with_reducible exact pick_List.mono _ _ _ _)
      | (with_reducible exact LeO.refl _)
      | (with_reducible exact LeO.none _)
      | (with_reducible refine LeO.ite ?_ ?_)
      | (with_reducible refine LeO.bind ?_ (fun _ => ?_))
      | exact ih0 _ _ _
      | exact ih1 _ _ _ _ _ _
      | exact ih2 _ _ _ _ _ _ _
      | exact ih3 _ _ _ _ _ _ _ _
      | exact ih4 _ _ _ _ _
      | exact ih5 _ _ _ _
      | exact ih6 _ _ _ _ _
      | exact ih7 _ _ _ _ _ _ _
      | exact ih8 _ _ _ _ _ _ _ _ _
      | exact ih9 _ _ _ _ _ _ _
      | exact amalgamlaw10_lives.mono _
      | exact pick_List.mono _ _ _ _
      | exact LeO.none _
      | refine LeO.ite ?_ ?_
      | refine LeO.bind ?_ (fun _ => ?_)
    · intro y0 y1 y2 y3 y4 y5 y6
      unfold amalgamlaw10_PickCover.j9
      repeat' first
      | (with_reducible exact ih0 _ _ _)
      | (with_reducible exact ih1 _ _ _ _ _ _)
      | (with_reducible exact ih2 _ _ _ _ _ _ _)
      | (with_reducible exact ih3 _ _ _ _ _ _ _ _)
      | (with_reducible exact ih4 _ _ _ _ _)
      | (with_reducible exact ih5 _ _ _ _)
      | (with_reducible exact ih6 _ _ _ _ _)
      | (with_reducible exact ih7 _ _ _ _ _ _ _)
      | (with_reducible exact ih8 _ _ _ _ _ _ _ _ _)
      | (with_reducible exact ih9 _ _ _ _ _ _ _)
      | (with_reducible exact amalgamlaw10_lives.mono _)
      | (with_reducible exact pick_List.mono _ _ _ _)
      | (with_reducible exact LeO.refl _)
      | (with_reducible exact LeO.none _)
      | (with_reducible refine LeO.ite ?_ ?_)
      | (with_reducible refine LeO.bind ?_ (fun _ => ?_))
      | exact ih0 _ _ _
      | exact ih1 _ _ _ _ _ _
      | exact ih2 _ _ _ _ _ _ _
      | exact ih3 _ _ _ _ _ _ _ _
      | exact ih4 _ _ _ _ _
      | exact ih5 _ _ _ _
      | exact ih6 _ _ _ _ _
      | exact ih7 _ _ _ _ _ _ _
      | exact ih8 _ _ _ _ _ _ _ _ _
      | exact ih9 _ _ _ _ _ _ _
      | exact amalgamlaw10_lives.mono _
      | exact pick_List.mono _ _ _ _
      | exact LeO.none _
      | refine LeO.ite ?_ ?_
      | refine LeO.bind ?_ (fun _ => ?_)
theorem amalgamlaw10_PickCover.mono : ∀ a0 a1 k, LeO (amalgamlaw10_PickCover.f k a0 a1) (amalgamlaw10_PickCover.f (k + 1) a0 a1) := by
  intro a0 a1 k
  obtain ⟨ih0, ih1, ih2, ih3, ih4, ih5, ih6, ih7, ih8, ih9⟩ := amalgamlaw10_PickCover.mono_l k
  unfold amalgamlaw10_PickCover.f
  repeat' first
      | (with_reducible exact ih0 _ _ _)
      | (with_reducible exact ih1 _ _ _ _ _ _)
      | (with_reducible exact ih2 _ _ _ _ _ _ _)
      | (with_reducible exact ih3 _ _ _ _ _ _ _ _)
      | (with_reducible exact ih4 _ _ _ _ _)
      | (with_reducible exact ih5 _ _ _ _)
      | (with_reducible exact ih6 _ _ _ _ _)
      | (with_reducible exact ih7 _ _ _ _ _ _ _)
      | (with_reducible exact ih8 _ _ _ _ _ _ _ _ _)
      | (with_reducible exact ih9 _ _ _ _ _ _ _)
      | (with_reducible exact amalgamlaw10_lives.mono _)
      | (with_reducible exact pick_List.mono _ _ _ _)
      | (with_reducible exact LeO.refl _)
      | (with_reducible exact LeO.none _)
      | (with_reducible refine LeO.ite ?_ ?_)
      | (with_reducible refine LeO.bind ?_ (fun _ => ?_))
      | exact ih0 _ _ _
      | exact ih1 _ _ _ _ _ _
      | exact ih2 _ _ _ _ _ _ _
      | exact ih3 _ _ _ _ _ _ _ _
      | exact ih4 _ _ _ _ _
      | exact ih5 _ _ _ _
      | exact ih6 _ _ _ _ _
      | exact ih7 _ _ _ _ _ _ _
      | exact ih8 _ _ _ _ _ _ _ _ _
      | exact ih9 _ _ _ _ _ _ _
      | exact amalgamlaw10_lives.mono _
      | exact pick_List.mono _ _ _ _
      | exact LeO.none _
      | refine LeO.ite ?_ ?_
      | refine LeO.bind ?_ (fun _ => ?_)
set_option maxHeartbeats 8000000 in
set_option maxRecDepth 100000 in
theorem amalgamlaw10_PickCover.calls (k : Nat) (A0 : Option Addr) (c0 : Nat) (l0 : List (List Int)) (a1 : Int) (r : Bool) (w : World) (hr0 : Kd.C (Kd.slice 3 (Kd.int .i64)) w A0 l0.length l0) (hc0 : l0.length ≤ c0) (h : amalgamlaw10_PickCover.f k l0 a1 = some r) (hT : Go.Proofs.YtbdlihldmmbdmaaDoor.Bits.TabW w) :
    Calls Tryd.prog 4 #[.slice A0 l0.length c0, .int .i64 a1] w fun e w' => e = .returned (.bool r) ∧ Below w.heap.size w w' := by
  have HLT := Aside0.mk hT
  clear hT
  have HR0 := Aside0.mk hr0
  have HC0 := Aside0.mk hc0
  clear hr0 hc0
  have HB := Aside0.mk (Below.refl w.heap.size w)
  have H : ((amalgamlaw10_lives.f k).bind fun t154 => (if (Int.tmod a1 11) < 0 then (amalgamlaw10_PickCover.j0 k l0 t154 (wrap64 (-(Int.tmod a1 11)))) else (amalgamlaw10_PickCover.j0 k l0 t154 (Int.tmod a1 11)))) = some r := h
  clear h
  replace H := Option.bind_eq_some_iff.mp H
  obtain ⟨t154, A30, H⟩ := H
  replace H : (if (Int.tmod a1 11) < 0 then (amalgamlaw10_PickCover.j0 k l0 t154 (wrap64 (-(Int.tmod a1 11)))) else (amalgamlaw10_PickCover.j0 k l0 t154 (Int.tmod a1 11))) = some r := H
  have A3 := Aside0.mk A30
  clear A30
  have HC4 := Aside0.mk H
  clear H
  go_enter Tryd.func4, Tryd.ntmps4
  go_upto_if 26 with (first | ((with_reducible refine gate_callee (f := 8) rfl ?_); refine goesL_ (some 22) rfl rfl Tryd.func8 (by kernel_rfl) rfl #[] rfl (by (try simp only [List.map_toArray, List.map_cons, List.map_nil]); first | done | rfl | (simp only [List.length_drop, List.length_take]; rfl)) ?_; (with_reducible refine (amalgamlaw10_lives.calls k  t154 _ A3.out ?laid).mono ?_); (case laid => first | exact HLT.out | (repeat (first | exact HLT.out | apply Go.Proofs.YtbdlihldmmbdmaaDoor.Bits.TabW.alloc | apply Go.Proofs.YtbdlihldmmbdmaaDoor.Bits.TabW.drewN | exact Go.Proofs.YtbdlihldmmbdmaaDoor.Bits.TabW.below HLT.out HB.out))); rintro e w5 ⟨rfl, hb⟩; refine ⟨_, rfl, ?_⟩; have n0_ := Aside0.mk (below_step (by repeat (first | (with_reducible first | exact HB.out | apply below_alloc | apply pw_below_drewN | apply below_drew1) | exact HB.out)) hb); clear HB; have HB := n0_; clear n0_; (try clear hb); (try clear hb2); (try clear hk); (try clear hi)))
  (try simp only [Act.put, List.setIfInBounds_toArray, List.set_cons_zero, List.set_cons_succ])
  go_cut [6] (fun v6 wc => ∃ (kq : Nat) (x6_3 : Int), v6 = .int .i64 x6_3 ∧ Aside0 (amalgamlaw10_PickCover.j0 kq l0 t154 x6_3 = some r) ∧ Aside0 (kq ≤ k) ∧ Aside0 (Below w.heap.size w wc))
  case first =>
    have H := HC4.out
    clear HC4
    by_cases c6 : (Int.tmod a1 11) < 0
    · rw [if_pos c6] at H
      have c6b0 : decide ((Int.tmod a1 11) < 0) = true := decide_eq_true c6
      clear c6
      (first | rw [c6b0] | (simp only [i64_w, i32_w]; rw [c6b0]) | skip)
      have H' := Aside0.mk H
      clear H
      go_wp2
      go_meet
      case rel => exact ⟨_, (wrap64 (-(Int.tmod a1 11))), (by first | rfl | (simp; done) | (simp [*]; done)), H', ⟨by first | omega | exact Nat.le_refl _⟩, ⟨by repeat (first | (with_reducible first | exact HB.out | apply below_alloc | apply pw_below_drewN | apply below_drew1) | exact HB.out)⟩⟩
    · rw [if_neg c6] at H
      have c6b0 : decide ((Int.tmod a1 11) < 0) = false := decide_eq_false c6
      clear c6
      (first | rw [c6b0] | (simp only [i64_w, i32_w]; rw [c6b0]) | skip)
      have H' := Aside0.mk H
      clear H
      go_wp2
      go_meet
      case rel => exact ⟨_, (Int.tmod a1 11), (by first | rfl | (simp; done) | (simp [*]; done)), H', ⟨by first | omega | exact Nat.le_refl _⟩, ⟨by repeat (first | (with_reducible first | exact HB.out | apply below_alloc | apply pw_below_drewN | apply below_drew1) | exact HB.out)⟩⟩
  case rest =>
    clear HC4
    try clear p2
    try clear c4
    try clear c6
    try clear c6b0
    try clear p6
    obtain ⟨kq, x6_3, rfl, HA, HJ3, HB⟩ := hcut
    cases kq with
    | zero => exact absurd HA.out (by simp [amalgamlaw10_PickCover.j0])
    | succ kj3 =>
      have H := HA.out
      clear HA
      simp only [amalgamlaw10_PickCover.j0] at H
      by_cases c7 : 0 ≤ x6_3
      · rw [if_pos c7] at H
        have c7b0 := eq_true c7
        have c7b1 : decide (0 ≤ x6_3) = true := decide_eq_true c7
        clear c7
        by_cases c8 : (x6_3 : Int).toNat ≤ 35184372088832
        · rw [if_pos c8] at H
          have c8b0 := eq_true c8
          have c8b1 : decide ((x6_3 : Int).toNat ≤ 35184372088832) = true := decide_eq_true c8
          clear c8
          obtain ⟨y155, hy155⟩ : ∃ y_ : List Int, y_ = (List.replicate (x6_3 : Int).toNat 0) := ⟨_, rfl⟩
          replace H : (amalgamlaw10_PickCover.l0 kj3 l0 t154 x6_3 y155 ([] : List (List Int)) 0) = some r := by first | (rw [hy155]; with_reducible exact H) | (have H2_ := (Option.bind_some _ _).symm.trans H; rw [hy155]; with_reducible exact H2_) | (have H2_ := (Option.bind_some _ _).symm.trans H; with_reducible exact H2_) | with_reducible exact H | (rw [hy155]; exact H) | exact H
          have Ny155 := Aside0.mk hy155
          clear hy155
          have H' := Aside0.mk H
          clear H
          go_wp2_with (first | ((with_reducible refine gate_dst (N := 30) rfl ?_); (try (refine gate_guard (by rfl) ?_; dsimp only)); refine Kd.R_make (Kd.int .i64) _ 3 rfl (N := 30) rfl 23 _ _ rfl x6_3 rfl rfl Tryd.underlying23 (.int .i64 0) 8 info3 rfl (by decide) (by omega) 0 (ok := fun _ => True) (okp := fun _ => True) rfl (fun _ hk => hk) trivial (of_decide_eq_true (by first | (with_reducible assumption) | assumption)) (Nat.le_trans (Nat.mul_le_mul_right _ (of_decide_eq_true (by first | (with_reducible assumption) | assumption) : x6_3.toNat ≤ 35184372088832)) (by omega)) (Below.refl _ _) (Nat.le_refl _) ?_; intro v156 w9 ho10 hb hg_ hnew_; clear hg_ hnew_; (first | rw [← Ny155.out] at ho10 | (simp only [Int.reduceToNat] at ho10; rw [← Ny155.out] at ho10)); have n0_ := Aside0.mk (Kd.R_lower ho10 (below_size (by repeat (first | (with_reducible first | exact HB.out | apply below_alloc | apply pw_below_drewN | apply below_drew1) | exact HB.out)))); have n1_ := Aside0.mk (below_step (by repeat (first | (with_reducible first | exact HB.out | apply below_alloc | apply pw_below_drewN | apply below_drew1) | exact HB.out)) hb); clear HB; have HO157 := n0_; have HB := n1_; clear n0_ n1_; clear hb ho10))
          go_loopg [8, 9] kj3 (fun kq v8 v9 w' => ∃ (x7_2 : List Int) (x8_2 : List (List Int)) (x9_2 : Int), v9 = .int .i64 x9_2 ∧ Aside0 (amalgamlaw10_PickCover.l0 kq l0 t154 x6_3 x7_2 x8_2 x9_2 = some r) ∧ Aside0 (kq ≤ kj3) ∧ Aside0 (Kd.R (Kd.int .i64) 3 w' w.heap.size (fun _ => True) v156 x7_2) ∧ Aside0 (Kd.S (Kd.slice 3 (Kd.int .i64)) 23 w' w.heap.size (fun k_ => some k_ ≠ (v156 : Value).ownBlock) v8 x8_2) ∧ Aside0 (Below w.heap.size w w'))
          case atStart => exact ⟨(y155), (([] : List (List Int))), (0), (by first | rfl | (simp; done) | (simp [*]; done)), H', ⟨Nat.le_refl _⟩, ⟨by (with_reducible repeat (first | apply Kd.R_alloc | apply Kd.R_drewN | apply Kd.R_drew)); exact HO157.out⟩, ⟨by first | exact Kd.S_nil _ _ _ _ _ | exact Kd.N_nil _ _ _ _ _ | exact Kd.V_nil _ _ _ _ _ | exact Kd.Q_nil _ _ _ _ _ | exact Kd.R_nil _ _ _ _ _⟩, ⟨by repeat (first | (with_reducible first | exact HB.out | apply below_alloc | apply pw_below_drewN | apply below_drew1) | exact HB.out)⟩⟩
          case round =>
            clear H'
            try clear p2
            try clear c4
            try clear c6
            try clear c6b0
            try clear p6
            try clear c7
            try clear c7b0
            try clear c7b1
            try clear c8
            try clear c8b0
            try clear c8b1
            try clear p2
            try clear p6
            obtain ⟨x7_2, x8_2, x9_2, rfl, HA, HK2, HO_7, HO_8, HB⟩ := hrel
            cases gk with
            | zero => exact absurd HA.out (by simp [amalgamlaw10_PickCover.l0])
            | succ k2 =>
              have H := HA.out
              clear HA
              simp only [amalgamlaw10_PickCover.l0] at H
              have HC11 := Aside0.mk H
              clear H
              go_upto_region 8 with (fail)
              go_cut [38] (fun v38 wc => ∃ (kq : Nat) (x38_10 : Bool), v38 = .bool x38_10 ∧ Aside0 (amalgamlaw10_PickCover.j2 kq l0 t154 x6_3 x7_2 x8_2 x9_2 x38_10 = some r) ∧ Aside0 (kq ≤ k2) ∧ Aside0 (Kd.R (Kd.int .i64) 3 wc w.heap.size (fun _ => True) v156 x7_2) ∧ Aside0 (Kd.S (Kd.slice 3 (Kd.int .i64)) 23 wc w.heap.size (fun k_ => some k_ ≠ (v156 : Value).ownBlock) u8 x8_2) ∧ Aside0 (Below w.heap.size w wc))
              case first =>
                have H := HC11.out
                clear HC11
                by_cases c12 : x9_2 < (l0.length : Int)
                · rw [if_pos c12] at H
                  have c12b0 : decide (x9_2 < (l0.length : Int)) = true := decide_eq_true c12
                  clear c12
                  (first | rw [c12b0] | (simp only [i64_w, i32_w]; rw [c12b0]) | skip)
                  have H' := Aside0.mk H
                  clear H
                  go_wp2
                  go_meet
                  case rel => exact ⟨_, (decide (x9_2 < 8)), (by first | rfl | (simp; done) | (simp [*]; done)), H', ⟨by have := HJ3.out; have := HK2.out; first | omega | exact Nat.le_refl _⟩, ⟨by (with_reducible repeat (first | apply Kd.R_alloc | apply Kd.R_drewN | apply Kd.R_drew)); exact HO_7.out⟩, ⟨by (with_reducible repeat (first | apply Kd.S_alloc | apply Kd.S_drewN | apply Kd.S_drew)); exact HO_8.out⟩, ⟨by repeat (first | (with_reducible first | exact HB.out | apply below_alloc | apply pw_below_drewN | apply below_drew1) | exact HB.out)⟩⟩
                · rw [if_neg c12] at H
                  have c12b0 : decide (x9_2 < (l0.length : Int)) = false := decide_eq_false c12
                  clear c12
                  (first | rw [c12b0] | (simp only [i64_w, i32_w]; rw [c12b0]) | skip)
                  have H' := Aside0.mk H
                  clear H
                  go_wp2
                  go_meet
                  case rel => exact ⟨_, (false), (by first | rfl | (simp; done) | (simp [*]; done)), H', ⟨by have := HJ3.out; have := HK2.out; first | omega | exact Nat.le_refl _⟩, ⟨by (with_reducible repeat (first | apply Kd.R_alloc | apply Kd.R_drewN | apply Kd.R_drew)); exact HO_7.out⟩, ⟨by (with_reducible repeat (first | apply Kd.S_alloc | apply Kd.S_drewN | apply Kd.S_drew)); exact HO_8.out⟩, ⟨by repeat (first | (with_reducible first | exact HB.out | apply below_alloc | apply pw_below_drewN | apply below_drew1) | exact HB.out)⟩⟩
              case rest =>
                clear HC11
                try clear c1
                try clear p2
                try clear c4
                try clear c6
                try clear c6b0
                try clear p6
                try clear c7
                try clear c7b0
                try clear c7b1
                try clear c8
                try clear c8b0
                try clear c8b1
                try clear c12
                try clear c12b0
                try clear p2
                try clear p6
                obtain ⟨kq, x38_10, rfl, HA, HJ10, HO_7, HO_8, HB⟩ := hcut
                cases kq with
                | zero => exact absurd HA.out (by simp [amalgamlaw10_PickCover.j2])
                | succ kj10 =>
                  have H := HA.out
                  clear HA
                  simp only [amalgamlaw10_PickCover.j2] at H
                  by_cases c13 : x38_10 = true
                  · subst c13
                    have H1 : (if 0 ≤ x6_3 then (if (x6_3 : Int).toNat ≤ 35184372088832 then (amalgamlaw10_PickCover.l1 kj10 l0 t154 x6_3 x7_2 x8_2 x9_2 (List.replicate (x6_3 : Int).toNat 0) 0) else (none)) else (none)) = some r := by rw [if_pos rfl] at H; exact H
                    clear H
                    have H := H1
                    clear H1
                    by_cases c14 : 0 ≤ x6_3
                    · rw [if_pos c14] at H
                      have c14b0 := eq_true c14
                      have c14b1 : decide (0 ≤ x6_3) = true := decide_eq_true c14
                      clear c14
                      by_cases c15 : (x6_3 : Int).toNat ≤ 35184372088832
                      · rw [if_pos c15] at H
                        have c15b0 := eq_true c15
                        have c15b1 : decide ((x6_3 : Int).toNat ≤ 35184372088832) = true := decide_eq_true c15
                        clear c15
                        obtain ⟨y158, hy158⟩ : ∃ y_ : List Int, y_ = (List.replicate (x6_3 : Int).toNat 0) := ⟨_, rfl⟩
                        replace H : (amalgamlaw10_PickCover.l1 kj10 l0 t154 x6_3 x7_2 x8_2 x9_2 y158 0) = some r := by first | (rw [hy158]; with_reducible exact H) | (have H2_ := (Option.bind_some _ _).symm.trans H; rw [hy158]; with_reducible exact H2_) | (have H2_ := (Option.bind_some _ _).symm.trans H; with_reducible exact H2_) | with_reducible exact H | (rw [hy158]; exact H) | exact H
                        have Ny158 := Aside0.mk hy158
                        clear hy158
                        have H' := Aside0.mk H
                        clear H
                        go_wp2_with (first | ((with_reducible refine gate_dst (N := 42) rfl ?_); (try (refine gate_guard (by rfl) ?_; dsimp only)); refine Kd.R_make (Kd.int .i64) _ 3 rfl (N := 42) rfl 23 _ _ rfl x6_3 rfl rfl Tryd.underlying23 (.int .i64 0) 8 info3 rfl (by decide) (by omega) 0 (ok := fun _ => True) (okp := fun _ => True) rfl (fun _ hk => hk) trivial (of_decide_eq_true (by first | (with_reducible assumption) | assumption)) (Nat.le_trans (Nat.mul_le_mul_right _ (of_decide_eq_true (by first | (with_reducible assumption) | assumption) : x6_3.toNat ≤ 35184372088832)) (by omega)) (Below.refl _ _) (Nat.le_refl _) ?_; intro v159 w16 ho17 hb hg_ hnew_; clear hg_ hnew_; (first | rw [← Ny158.out] at ho17 | (simp only [Int.reduceToNat] at ho17; rw [← Ny158.out] at ho17)); have n0_ := Aside0.mk (Kd.R_elder' (by (with_reducible repeat (first | apply Kd.R_alloc | apply Kd.R_drewN | apply Kd.R_drew)); exact HO_7.out) (Kd.R_base ho17) hb); have n1_ := Aside0.mk (Kd.S_elder' (by (with_reducible repeat (first | apply Kd.S_alloc | apply Kd.S_drewN | apply Kd.S_drew)); exact HO_8.out) (Kd.R_base ho17) hb); have n2_ := Aside0.mk (Kd.R_lower (Kd.R_new' ho17 (Kd.R_lt (by (with_reducible repeat (first | apply Kd.R_alloc | apply Kd.R_drewN | apply Kd.R_drew)); exact HO_7.out))) (below_size (by repeat (first | (with_reducible first | exact HB.out | apply below_alloc | apply pw_below_drewN | apply below_drew1) | exact HB.out)))); have n3_ := Aside0.mk (below_step (by repeat (first | (with_reducible first | exact HB.out | apply below_alloc | apply pw_below_drewN | apply below_drew1) | exact HB.out)) hb); clear HO_7; clear HO_8; clear HB; have HO_7 := n0_; have HO_8 := n1_; have HO160 := n2_; have HB := n3_; clear n0_ n1_ n2_ n3_; clear hb ho17))
                        go_loopg [11] kj10 (fun kq v11 w' => ∃ (x10_4 : List Int) (x11_4 : Int), v11 = .int .i64 x11_4 ∧ Aside0 (amalgamlaw10_PickCover.l1 kq l0 t154 x6_3 x7_2 x8_2 x9_2 x10_4 x11_4 = some r) ∧ Aside0 (kq ≤ kj10) ∧ Aside0 (Kd.R (Kd.int .i64) 3 w' w.heap.size (fun k_ => some k_ ≠ (v159 : Value).ownBlock) v156 x7_2) ∧ Aside0 (Kd.S (Kd.slice 3 (Kd.int .i64)) 23 w' w.heap.size (fun k_ => some k_ ≠ (v156 : Value).ownBlock ∧ some k_ ≠ (v159 : Value).ownBlock) u8 x8_2) ∧ Aside0 (Kd.R (Kd.int .i64) 3 w' w.heap.size (fun k_ => some k_ ≠ (v156 : Value).ownBlock) v159 x10_4) ∧ Aside0 (Below w.heap.size w w'))
                        case atStart => exact ⟨(y158), (0), (by first | rfl | (simp; done) | (simp [*]; done)), H', ⟨Nat.le_refl _⟩, ⟨by (with_reducible repeat (first | apply Kd.R_alloc | apply Kd.R_drewN | apply Kd.R_drew)); exact Kd.R_mono HO_7.out (fun _ hk => hk.2)⟩, ⟨by (with_reducible repeat (first | apply Kd.S_alloc | apply Kd.S_drewN | apply Kd.S_drew)); exact HO_8.out⟩, ⟨by (with_reducible repeat (first | apply Kd.R_alloc | apply Kd.R_drewN | apply Kd.R_drew)); exact Kd.R_mono HO160.out (fun _ hk => hk.2)⟩, ⟨by repeat (first | (with_reducible first | exact HB.out | apply below_alloc | apply pw_below_drewN | apply below_drew1) | exact HB.out)⟩⟩
                        case round =>
                          clear H'
                          try clear c1
                          try clear p2
                          try clear c4
                          try clear c6
                          try clear c6b0
                          try clear p6
                          try clear c7
                          try clear c7b0
                          try clear c7b1
                          try clear c8
                          try clear c8b0
                          try clear c8b1
                          try clear c12
                          try clear c12b0
                          try clear c13
                          try clear c14
                          try clear c14b0
                          try clear c14b1
                          try clear c15
                          try clear c15b0
                          try clear c15b1
                          try clear p2
                          try clear p6
                          obtain ⟨x10_4, x11_4, rfl, HA, HK4, HO_7, HO_8, HO_10, HB⟩ := hrel
                          cases gk with
                          | zero => exact absurd HA.out (by simp [amalgamlaw10_PickCover.l1])
                          | succ k4 =>
                            have H := HA.out
                            clear HA
                            simp only [amalgamlaw10_PickCover.l1] at H
                            by_cases c18 : x11_4 < x6_3
                            · rw [if_pos c18] at H
                              have c18b0 : decide (x11_4 < x6_3) = true := decide_eq_true c18
                              clear c18
                              by_cases c19 : 0 ≤ x9_2
                              · rw [if_pos c19] at H
                                have c19b0 : decide (0 ≤ x9_2) = true := decide_eq_true c19
                                clear c19
                                by_cases c20 : x9_2 < (l0.length : Int)
                                · rw [if_pos c20] at H
                                  have c20b0 : decide (x9_2 < (l0.length : Int)) = true := decide_eq_true c20
                                  clear c20
                                  by_cases c21 : x11_4 < ((rd_L1 l0 x9_2).length : Int)
                                  · rw [if_pos c21] at H
                                    have c21b0 : decide (x11_4 < ((rd_L1 l0 x9_2).length : Int)) = true := decide_eq_true c21
                                    clear c21
                                    by_cases c22 : 0 ≤ x11_4
                                    · rw [if_pos c22] at H
                                      have c22b0 : decide (0 ≤ x11_4) = true := decide_eq_true c22
                                      clear c22
                                      by_cases c23 : x11_4 < (x10_4.length : Int)
                                      · rw [if_pos c23] at H
                                        have c23b0 : decide (x11_4 < (x10_4.length : Int)) = true := decide_eq_true c23
                                        clear c23
                                        obtain ⟨y164, hy164⟩ : ∃ y_ : List Int, y_ = (x10_4.set (x11_4 : Int).toNat (Go.bits .and .i64 (rd (rd_L1 l0 x9_2) x11_4) 1)) := ⟨_, rfl⟩
                                        replace H : (amalgamlaw10_PickCover.l1 k4 l0 t154 x6_3 x7_2 x8_2 x9_2 y164 (wrap64 (x11_4 + 1))) = some r := by first | (rw [hy164]; with_reducible exact H) | (have H2_ := (Option.bind_some _ _).symm.trans H; rw [hy164]; with_reducible exact H2_) | (have H2_ := (Option.bind_some _ _).symm.trans H; with_reducible exact H2_) | with_reducible exact H | (rw [hy164]; exact H) | exact H
                                        have Ny164 := Aside0.mk hy164
                                        clear hy164
                                        have H' := Aside0.mk H
                                        clear H
                                        have p161 : 0 ≤ (x9_2 : Int) := of_decide_eq_true (by first | (with_reducible assumption) | assumption)
                                        have q161 : x9_2 < (l0.length : Int) := of_decide_eq_true (by first | (with_reducible assumption) | assumption)
                                        obtain ⟨ad161, A161_0, c161_0, e161, hx161_0, hl161_0, hi161_0⟩ := at_L1 HR0.out x9_2 p161 q161
                                        cases e161
                                        replace hx161_0 := (HB.out.cell (World.block_lt_of_cell? w _ hx161_0)).trans hx161_0
                                        have HR161_0 := Aside0.mk hi161_0
                                        have HC161_0 := Aside0.mk hl161_0
                                        clear hi161_0 hl161_0
                                        replace p161 := eq_true p161
                                        replace q161 := eq_true q161
                                        have p162 : 0 ≤ (x9_2 : Int) := of_decide_eq_true (by first | (with_reducible assumption) | assumption)
                                        have q162 : x9_2 < (l0.length : Int) := of_decide_eq_true (by first | (with_reducible assumption) | assumption)
                                        obtain ⟨ad162, A162_0, c162_0, e162, hx162_0, hl162_0, hi162_0⟩ := at_L1 HR0.out x9_2 p162 q162
                                        obtain rfl : ad161 = ad162 := (by injection e162)
                                        replace hx162_0 := (HB.out.cell (World.block_lt_of_cell? w _ hx162_0)).trans hx162_0
                                        have HR162_0 := Aside0.mk hi162_0
                                        have HC162_0 := Aside0.mk hl162_0
                                        clear hi162_0 hl162_0
                                        replace p162 := eq_true p162
                                        replace q162 := eq_true q162
                                        have ea_ := Option.some.inj (hx161_0.symm.trans hx162_0)
                                        injection ea_ with ea_ en_ ec_
                                        subst ea_
                                        subst ec_
                                        clear en_
                                        have p163 : 0 ≤ (x11_4 : Int) := of_decide_eq_true (by first | (with_reducible assumption) | assumption)
                                        have q163 : x11_4 < ((rd_L1 l0 x9_2).length : Int) := of_decide_eq_true (by first | (with_reducible assumption) | assumption)
                                        obtain ⟨ad163, e163, hx163_0⟩ := Kd.at_int HR162_0.out x11_4 p163 q163
                                        cases e163
                                        replace hx163_0 := (HB.out.cell (World.block_lt_of_cell? w _ hx163_0)).trans hx163_0
                                        replace p163 := eq_true p163
                                        replace q163 := eq_true q163
                                        have p24 : 0 ≤ (x11_4 : Int) := of_decide_eq_true (by first | (with_reducible assumption) | assumption)
                                        have q24 : (x11_4 : Int) < ((x10_4.length : Int) : Int) := of_decide_eq_true (by first | (with_reducible assumption) | assumption)
                                        obtain ⟨go24, co24, eo24, gb24, gl24, cl24, HG24⟩ := Kd.R_form HO_10.out (by omega)
                                        (first | cases eo24 | (injection eo24 with ea_ en_ ec_; (first | subst ea_ | (injection ea_ with ea_; subst ea_)); subst ec_; clear en_))
                                        have GB24 := Aside0.mk gb24
                                        have GG24 := Aside0.mk HG24
                                        clear gb24 gl24 HG24
                                        obtain ⟨hx24_0, hf24_0⟩ := Kd.R_celln 0 HO_10.out (x11_4 : Int) p24 q24
                                        replace p24 := eq_true p24
                                        replace q24 := eq_true q24
                                        have HP25 := Kd.R_putg HO_10.out (x11_4 : Int) (Go.bits .and .i64 (rd (rd_L1 l0 x9_2) x11_4) 1)
                                        go_wp2_with (first | ((with_reducible refine gate_store (t := 3) (p := 67) rfl ?_); refine store_event (t := 3) (p := 67) (v := ?vo_w26) (w1 := (wr.setCell ⟨go24, (x11_4 : Int).toNat, none⟩ (.int .i64 (Go.bits .and .i64 (rd (rd_L1 l0 x9_2) x11_4) 1)))) ?hg ?ho ?hn ?hr ?_; (case ho => rfl); (case hg => rfl); (case hn => rfl); (case hr => first | (go_simp; done) | (go_simp; rfl)); intro w26 hw; have hg : wr.grownBy w26 (some go24) := (by rw [hw]; exact HP25.2); have hp_ : Kd.R (Kd.int .i64) 3 w26 w.heap.size (fun k_ => some k_ ≠ (v156 : Value).ownBlock) (.slice (some ⟨go24, 0, none⟩) x10_4.length co24) y164 := (by rw [hw, Ny164.out]; exact HP25.1); clear HP25; have n0_ := Aside0.mk (Kd.R_after (v := (.slice (some ⟨go24, 0, none⟩) x10_4.length co24)) (v1 := (.slice (some ⟨go24, 0, none⟩) x10_4.length co24)) (ok := (fun _ => True)) (by (with_reducible repeat (first | apply Kd.R_alloc | apply Kd.R_drewN | apply Kd.R_drew)); exact Kd.R_mono HO_7.out (fun _ hk => ⟨trivial, hk⟩)) hg (.inl rfl)); have n1_ := Aside0.mk (Kd.S_after (v := (.slice (some ⟨go24, 0, none⟩) x10_4.length co24)) (v1 := (.slice (some ⟨go24, 0, none⟩) x10_4.length co24)) (ok := (fun k_ => some k_ ≠ (v156 : Value).ownBlock)) (by (with_reducible repeat (first | apply Kd.S_alloc | apply Kd.S_drewN | apply Kd.S_drew)); exact HO_8.out) hg (.inl rfl)); have n2_ := Aside0.mk (hp_); have n3_ := Aside0.mk ((by rw [hw]; exact below_set (HB.out) GB24.out : Below w.heap.size w w26)); clear HO_7; clear HO_8; clear HO_10; clear HB; have HO_7 := n0_; have HO_8 := n1_; have HO_10 := n2_; have HB := n3_; clear n0_ n1_ n2_ n3_; clear hg hw hp_))
                                        go_roundg k4
                                        case measure => have := HJ3.out; have := HK2.out; have := HJ10.out; have := HK4.out; omega
                                        case rel => exact ⟨(y164), (wrap64 (x11_4 + 1)), (by first | rfl | (simp; done) | (simp [*]; done)), H', ⟨by have := HJ3.out; have := HK2.out; have := HJ10.out; have := HK4.out; omega⟩, ⟨by (with_reducible repeat (first | apply Kd.R_alloc | apply Kd.R_drewN | apply Kd.R_drew)); exact Kd.R_mono HO_7.out (fun _ hk => hk.2)⟩, ⟨by (with_reducible repeat (first | apply Kd.S_alloc | apply Kd.S_drewN | apply Kd.S_drew)); exact HO_8.out⟩, ⟨by (with_reducible repeat (first | apply Kd.R_alloc | apply Kd.R_drewN | apply Kd.R_drew)); exact HO_10.out⟩, ⟨by repeat (first | (with_reducible first | exact HB.out | apply below_alloc | apply pw_below_drewN | apply below_drew1) | exact HB.out)⟩⟩
                                      · rw [if_neg c23] at H
                                        exact absurd H (by simp)
                                    · rw [if_neg c22] at H
                                      exact absurd H (by simp)
                                  · rw [if_neg c21] at H
                                    have c21b0 : decide (x11_4 < ((rd_L1 l0 x9_2).length : Int)) = false := decide_eq_false c21
                                    clear c21
                                    by_cases c27 : x8_2.length < 5864062014805
                                    · rw [if_pos c27] at H
                                      have LMc27 := Aside0.mk c27
                                      clear c27
                                      obtain ⟨y165, hy165⟩ : ∃ y_ : List (List Int), y_ = (x8_2 ++ [x10_4]) := ⟨_, rfl⟩
                                      replace H : (amalgamlaw10_PickCover.l0 k4 l0 t154 x6_3 x7_2 y165 (wrap64 (x9_2 + 1))) = some r := by first | (rw [hy165]; with_reducible exact H) | (have H2_ := (Option.bind_some _ _).symm.trans H; rw [hy165]; with_reducible exact H2_) | (have H2_ := (Option.bind_some _ _).symm.trans H; with_reducible exact H2_) | with_reducible exact H | (rw [hy165]; exact H) | exact H
                                      have Ny165 := Aside0.mk hy165
                                      clear hy165
                                      have H' := Aside0.mk H
                                      clear H
                                      have p161 : 0 ≤ (x9_2 : Int) := of_decide_eq_true (by first | (with_reducible assumption) | assumption)
                                      have q161 : x9_2 < (l0.length : Int) := of_decide_eq_true (by first | (with_reducible assumption) | assumption)
                                      obtain ⟨ad161, A161_0, c161_0, e161, hx161_0, hl161_0, hi161_0⟩ := at_L1 HR0.out x9_2 p161 q161
                                      cases e161
                                      replace hx161_0 := (HB.out.cell (World.block_lt_of_cell? w _ hx161_0)).trans hx161_0
                                      have HR161_0 := Aside0.mk hi161_0
                                      have HC161_0 := Aside0.mk hl161_0
                                      clear hi161_0 hl161_0
                                      replace p161 := eq_true p161
                                      replace q161 := eq_true q161
                                      obtain ⟨Ao29, co29, eo29⟩ := Kd.R_slice HO_10.out
                                      subst eo29
                                      go_wp2_with (first | ((with_reducible refine gate_builtin (b := .append) (xs := #[.tmp 68, .tmp 70]) rfl ?_); (try (refine gate_guard (by rfl) ?_; dsimp only)); at_builtin; refine Kd.S_append (Kd.slice 3 (Kd.int .i64)) (w0 := w) w.heap.size rfl (.tmp 68) (.tmp 70) 22 23 (.slice none 0 0) 24 rfl Tryd.underlying22 info23 rfl (by decide) (by omega) u8 x8_2 x10_4 [.slice Ao29 x10_4.length co29] (fun k_ => some k_ ≠ (v156 : Value).ownBlock) (fun k_ => some k_ = (.slice Ao29 x10_4.length co29 : Value).ownBlock) rfl rfl ?aP (fun k_ hk_ => ((Kd.R_mono (ok' := fun k_ => ((fun k_ => some k_ ≠ (v156 : Value).ownBlock)) k_ ∧ some k_ ≠ (u8 : Value).ownBlock) (Kd.R_apart' (HO_10.out) (Kd.S_typed HO_8.out) (by decide)) (fun k_ hk => ⟨hk.1, hk.2⟩))).1 k_ hk_.symm) ?aF ?aO ?aB ?aS ?aL ?_; (case aP => exact Kd.M_row (Kd.R_mono (Kd.R_tight rfl (Kd.R_mono (ok' := fun k_ => ((fun k_ => some k_ ≠ (v156 : Value).ownBlock)) k_ ∧ some k_ ≠ (u8 : Value).ownBlock) (Kd.R_apart' (HO_10.out) (Kd.S_typed HO_8.out) (by decide)) (fun k_ hk => ⟨hk.1, hk.2⟩))) (fun _ h_ => h_))); (case aB => exact (by repeat (first | (with_reducible first | exact HB.out | apply below_alloc | apply pw_below_drewN | apply below_drew1) | exact HB.out))); (case aF => exact (fun k_ hk => Kd.fresh' (Kd.R_lt (by (with_reducible repeat (first | apply Kd.R_alloc | apply Kd.R_drewN | apply Kd.R_drew)); exact HO_7.out)) k_ hk)); (case aO => exact (by (with_reducible repeat (first | apply Kd.S_alloc | apply Kd.S_drewN | apply Kd.S_drew)); exact Kd.S_mono HO_8.out (fun k_ hk => ⟨hk.1, fun e_ => hk.2 e_⟩))); (case aS => exact (below_size (by repeat (first | (with_reducible first | exact HB.out | apply below_alloc | apply pw_below_drewN | apply below_drew1) | exact HB.out)))); (case aL => have := LMc27.out; omega); intro v166 w28 ho hb hg hat; rw [← Ny165.out] at ho; have n0_ := Aside0.mk (Kd.R_over' (by (with_reducible repeat (first | apply Kd.R_alloc | apply Kd.R_drewN | apply Kd.R_drew)); exact HO_7.out) (Kd.S_typed (by (with_reducible repeat (first | apply Kd.S_alloc | apply Kd.S_drewN | apply Kd.S_drew)); exact HO_8.out)) (by decide) hg); have n1_ := Aside0.mk (hb); have n2_ := Aside0.mk (ho); clear HO_7; clear HB; clear HO_8; clear HO_10; have HO_7 := n0_; have HB := n1_; have HO167 := n2_; clear n0_ n1_ n2_; clear ho hb hg hat))
                                      go_roundg k4
                                      case measure => have := HJ3.out; have := HK2.out; have := HJ10.out; have := HK4.out; omega
                                      case rel => exact ⟨(x7_2), (y165), (wrap64 (x9_2 + 1)), (by first | rfl | (simp; done) | (simp [*]; done)), H', ⟨by have := HJ3.out; have := HK2.out; have := HJ10.out; have := HK4.out; omega⟩, ⟨by (with_reducible repeat (first | apply Kd.R_alloc | apply Kd.R_drewN | apply Kd.R_drew)); exact Kd.R_mono HO_7.out (fun _ hk => trivial)⟩, ⟨by (with_reducible repeat (first | apply Kd.S_alloc | apply Kd.S_drewN | apply Kd.S_drew)); exact HO167.out⟩, ⟨by repeat (first | (with_reducible first | exact HB.out | apply below_alloc | apply pw_below_drewN | apply below_drew1) | exact HB.out)⟩⟩
                                    · rw [if_neg c27] at H
                                      exact absurd H (by simp)
                                · rw [if_neg c20] at H
                                  exact absurd H (by simp)
                              · rw [if_neg c19] at H
                                exact absurd H (by simp)
                            · rw [if_neg c18] at H
                              have c18b0 : decide (x11_4 < x6_3) = false := decide_eq_false c18
                              clear c18
                              by_cases c30 : x8_2.length < 5864062014805
                              · rw [if_pos c30] at H
                                have LMc30 := Aside0.mk c30
                                clear c30
                                obtain ⟨y168, hy168⟩ : ∃ y_ : List (List Int), y_ = (x8_2 ++ [x10_4]) := ⟨_, rfl⟩
                                replace H : (amalgamlaw10_PickCover.l0 k4 l0 t154 x6_3 x7_2 y168 (wrap64 (x9_2 + 1))) = some r := by first | (rw [hy168]; with_reducible exact H) | (have H2_ := (Option.bind_some _ _).symm.trans H; rw [hy168]; with_reducible exact H2_) | (have H2_ := (Option.bind_some _ _).symm.trans H; with_reducible exact H2_) | with_reducible exact H | (rw [hy168]; exact H) | exact H
                                have Ny168 := Aside0.mk hy168
                                clear hy168
                                have H' := Aside0.mk H
                                clear H
                                obtain ⟨Ao32, co32, eo32⟩ := Kd.R_slice HO_10.out
                                subst eo32
                                go_wp2_with (first | ((with_reducible refine gate_builtin (b := .append) (xs := #[.tmp 68, .tmp 70]) rfl ?_); (try (refine gate_guard (by rfl) ?_; dsimp only)); at_builtin; refine Kd.S_append (Kd.slice 3 (Kd.int .i64)) (w0 := w) w.heap.size rfl (.tmp 68) (.tmp 70) 22 23 (.slice none 0 0) 24 rfl Tryd.underlying22 info23 rfl (by decide) (by omega) u8 x8_2 x10_4 [.slice Ao32 x10_4.length co32] (fun k_ => some k_ ≠ (v156 : Value).ownBlock) (fun k_ => some k_ = (.slice Ao32 x10_4.length co32 : Value).ownBlock) rfl rfl ?aP (fun k_ hk_ => ((Kd.R_mono (ok' := fun k_ => ((fun k_ => some k_ ≠ (v156 : Value).ownBlock)) k_ ∧ some k_ ≠ (u8 : Value).ownBlock) (Kd.R_apart' (HO_10.out) (Kd.S_typed HO_8.out) (by decide)) (fun k_ hk => ⟨hk.1, hk.2⟩))).1 k_ hk_.symm) ?aF ?aO ?aB ?aS ?aL ?_; (case aP => exact Kd.M_row (Kd.R_mono (Kd.R_tight rfl (Kd.R_mono (ok' := fun k_ => ((fun k_ => some k_ ≠ (v156 : Value).ownBlock)) k_ ∧ some k_ ≠ (u8 : Value).ownBlock) (Kd.R_apart' (HO_10.out) (Kd.S_typed HO_8.out) (by decide)) (fun k_ hk => ⟨hk.1, hk.2⟩))) (fun _ h_ => h_))); (case aB => exact (by repeat (first | (with_reducible first | exact HB.out | apply below_alloc | apply pw_below_drewN | apply below_drew1) | exact HB.out))); (case aF => exact (fun k_ hk => Kd.fresh' (Kd.R_lt (by (with_reducible repeat (first | apply Kd.R_alloc | apply Kd.R_drewN | apply Kd.R_drew)); exact HO_7.out)) k_ hk)); (case aO => exact (by (with_reducible repeat (first | apply Kd.S_alloc | apply Kd.S_drewN | apply Kd.S_drew)); exact Kd.S_mono HO_8.out (fun k_ hk => ⟨hk.1, fun e_ => hk.2 e_⟩))); (case aS => exact (below_size (by repeat (first | (with_reducible first | exact HB.out | apply below_alloc | apply pw_below_drewN | apply below_drew1) | exact HB.out)))); (case aL => have := LMc30.out; omega); intro v169 w31 ho hb hg hat; rw [← Ny168.out] at ho; have n0_ := Aside0.mk (Kd.R_over' (by (with_reducible repeat (first | apply Kd.R_alloc | apply Kd.R_drewN | apply Kd.R_drew)); exact HO_7.out) (Kd.S_typed (by (with_reducible repeat (first | apply Kd.S_alloc | apply Kd.S_drewN | apply Kd.S_drew)); exact HO_8.out)) (by decide) hg); have n1_ := Aside0.mk (hb); have n2_ := Aside0.mk (ho); clear HO_7; clear HB; clear HO_8; clear HO_10; have HO_7 := n0_; have HB := n1_; have HO170 := n2_; clear n0_ n1_ n2_; clear ho hb hg hat))
                                go_roundg k4
                                case measure => have := HJ3.out; have := HK2.out; have := HJ10.out; have := HK4.out; omega
                                case rel => exact ⟨(x7_2), (y168), (wrap64 (x9_2 + 1)), (by first | rfl | (simp; done) | (simp [*]; done)), H', ⟨by have := HJ3.out; have := HK2.out; have := HJ10.out; have := HK4.out; omega⟩, ⟨by (with_reducible repeat (first | apply Kd.R_alloc | apply Kd.R_drewN | apply Kd.R_drew)); exact Kd.R_mono HO_7.out (fun _ hk => trivial)⟩, ⟨by (with_reducible repeat (first | apply Kd.S_alloc | apply Kd.S_drewN | apply Kd.S_drew)); exact HO170.out⟩, ⟨by repeat (first | (with_reducible first | exact HB.out | apply below_alloc | apply pw_below_drewN | apply below_drew1) | exact HB.out)⟩⟩
                              · rw [if_neg c30] at H
                                exact absurd H (by simp)
                      · rw [if_neg c15] at H
                        exact absurd H (by simp)
                    · rw [if_neg c14] at H
                      exact absurd H (by simp)
                  · replace c13 := Bool.eq_false_iff.mpr c13
                    subst c13
                    have H1 : (amalgamlaw10_PickCover.l2 kj10 t154 x6_3 x7_2 x8_2 0) = some r := by rw [if_neg (show ¬ (false = true) by decide)] at H; exact H
                    clear H
                    have H := H1
                    clear H1
                    have H' := Aside0.mk H
                    clear H
                    go_wp2
                    go_loopg [12] kj10 (fun kq v12 w' => ∃ (x7_4 : List Int) (x12_4 : Int), v12 = .int .i64 x12_4 ∧ Aside0 (amalgamlaw10_PickCover.l2 kq t154 x6_3 x7_4 x8_2 x12_4 = some r) ∧ Aside0 (kq ≤ kj10) ∧ Aside0 (Kd.R (Kd.int .i64) 3 w' w.heap.size (fun _ => True) v156 x7_4) ∧ Aside0 (Kd.S (Kd.slice 3 (Kd.int .i64)) 23 w' w.heap.size (fun k_ => some k_ ≠ (v156 : Value).ownBlock) u8 x8_2) ∧ Aside0 (Below w.heap.size w w'))
                    case atStart => exact ⟨(x7_2), (0), (by first | rfl | (simp; done) | (simp [*]; done)), H', ⟨Nat.le_refl _⟩, ⟨by (with_reducible repeat (first | apply Kd.R_alloc | apply Kd.R_drewN | apply Kd.R_drew)); exact HO_7.out⟩, ⟨by (with_reducible repeat (first | apply Kd.S_alloc | apply Kd.S_drewN | apply Kd.S_drew)); exact HO_8.out⟩, ⟨by repeat (first | (with_reducible first | exact HB.out | apply below_alloc | apply pw_below_drewN | apply below_drew1) | exact HB.out)⟩⟩
                    case round =>
                      clear H'
                      try clear c1
                      try clear p1
                      try clear q1
                      try clear hx1
                      try clear c2
                      try clear p2
                      try clear q2
                      try clear hx2
                      try clear hf2
                      try clear c3
                      try clear c4
                      try clear c6
                      try clear c6b0
                      try clear p6
                      try clear c7
                      try clear c7b0
                      try clear c7b1
                      try clear c8
                      try clear c8b0
                      try clear c8b1
                      try clear c12
                      try clear c12b0
                      try clear c13
                      try clear c14
                      try clear c14b0
                      try clear c14b1
                      try clear c15
                      try clear c15b0
                      try clear c15b1
                      try clear c16
                      try clear p16
                      try clear q16
                      try clear hx16
                      try clear c18
                      try clear c18b0
                      try clear c19
                      try clear c19b0
                      try clear c20
                      try clear c20b0
                      try clear c21
                      try clear c21b0
                      try clear c22
                      try clear c22b0
                      try clear c23
                      try clear c23b0
                      try clear p24
                      try clear q24
                      try clear hx24
                      try clear hf24
                      try clear c27
                      try clear c30
                      try clear hx161_0
                      try clear hx162_0
                      try clear hx163_0
                      try clear hx24_0
                      try clear p161
                      try clear p162
                      try clear p163
                      try clear p2
                      try clear p24
                      try clear p6
                      try clear q161
                      try clear q162
                      try clear q163
                      try clear q24
                      obtain ⟨x7_4, x12_4, rfl, HA, HK4, HO_7, HO_8, HB⟩ := hrel
                      cases gk with
                      | zero => exact absurd HA.out (by simp [amalgamlaw10_PickCover.l2])
                      | succ k4 =>
                        have H := HA.out
                        clear HA
                        simp only [amalgamlaw10_PickCover.l2] at H
                        by_cases c33 : x12_4 < x6_3
                        · rw [if_pos c33] at H
                          have c33b0 : decide (x12_4 < x6_3) = true := decide_eq_true c33
                          clear c33
                          by_cases c34 : 0 ≤ x12_4
                          · rw [if_pos c34] at H
                            have c34b0 : decide (0 ≤ x12_4) = true := decide_eq_true c34
                            clear c34
                            by_cases c35 : x12_4 < (x7_4.length : Int)
                            · rw [if_pos c35] at H
                              have c35b0 : decide (x12_4 < (x7_4.length : Int)) = true := decide_eq_true c35
                              clear c35
                              obtain ⟨y171, hy171⟩ : ∃ y_ : List Int, y_ = (x7_4.set (x12_4 : Int).toNat 2) := ⟨_, rfl⟩
                              replace H : (amalgamlaw10_PickCover.l2 k4 t154 x6_3 y171 x8_2 (wrap64 (x12_4 + 1))) = some r := by first | (rw [hy171]; with_reducible exact H) | (have H2_ := (Option.bind_some _ _).symm.trans H; rw [hy171]; with_reducible exact H2_) | (have H2_ := (Option.bind_some _ _).symm.trans H; with_reducible exact H2_) | with_reducible exact H | (rw [hy171]; exact H) | exact H
                              have Ny171 := Aside0.mk hy171
                              clear hy171
                              have H' := Aside0.mk H
                              clear H
                              have p36 : 0 ≤ (x12_4 : Int) := of_decide_eq_true (by first | (with_reducible assumption) | assumption)
                              have q36 : (x12_4 : Int) < ((x7_4.length : Int) : Int) := of_decide_eq_true (by first | (with_reducible assumption) | assumption)
                              obtain ⟨go36, co36, eo36, gb36, gl36, cl36, HG36⟩ := Kd.R_form HO_7.out (by omega)
                              (first | cases eo36 | (injection eo36 with ea_ en_ ec_; (first | subst ea_ | (injection ea_ with ea_; subst ea_)); subst ec_; clear en_))
                              have GB36 := Aside0.mk gb36
                              have GG36 := Aside0.mk HG36
                              clear gb36 gl36 HG36
                              obtain ⟨hx36_0, hf36_0⟩ := Kd.R_celln 0 HO_7.out (x12_4 : Int) p36 q36
                              replace p36 := eq_true p36
                              replace q36 := eq_true q36
                              have HP37 := Kd.R_putg HO_7.out (x12_4 : Int) 2
                              go_wp2_with (first | ((with_reducible refine gate_store (t := 3) (p := 79) rfl ?_); refine store_event (t := 3) (p := 79) (v := ?vo_w38) (w1 := (wr.setCell ⟨go36, (x12_4 : Int).toNat, none⟩ (.int .i64 2))) ?hg ?ho ?hn ?hr ?_; (case ho => rfl); (case hg => rfl); (case hn => rfl); (case hr => first | (go_simp; done) | (go_simp; rfl)); intro w38 hw; have hg : wr.grownBy w38 (some go36) := (by rw [hw]; exact HP37.2); have hp_ : Kd.R (Kd.int .i64) 3 w38 w.heap.size (fun _ => True) (.slice (some ⟨go36, 0, none⟩) x7_4.length co36) y171 := (by rw [hw, Ny171.out]; exact HP37.1); clear HP37; have n0_ := Aside0.mk (hp_); have n1_ := Aside0.mk (Kd.S_after (v := (.slice (some ⟨go36, 0, none⟩) x7_4.length co36)) (v1 := (.slice (some ⟨go36, 0, none⟩) x7_4.length co36)) (ok := (fun _ => True)) (by (with_reducible repeat (first | apply Kd.S_alloc | apply Kd.S_drewN | apply Kd.S_drew)); exact Kd.S_mono HO_8.out (fun _ hk => ⟨trivial, hk⟩)) hg (.inl rfl)); have n2_ := Aside0.mk ((by rw [hw]; exact below_set (HB.out) GB36.out : Below w.heap.size w w38)); clear HO_7; clear HO_8; clear HB; have HO_7 := n0_; have HO_8 := n1_; have HB := n2_; clear n0_ n1_ n2_; clear hg hw hp_))
                              go_roundg k4
                              case measure => have := HJ3.out; have := HK2.out; have := HJ10.out; have := HK4.out; omega
                              case rel => exact ⟨(y171), (wrap64 (x12_4 + 1)), (by first | rfl | (simp; done) | (simp [*]; done)), H', ⟨by have := HJ3.out; have := HK2.out; have := HJ10.out; have := HK4.out; omega⟩, ⟨by (with_reducible repeat (first | apply Kd.R_alloc | apply Kd.R_drewN | apply Kd.R_drew)); exact HO_7.out⟩, ⟨by (with_reducible repeat (first | apply Kd.S_alloc | apply Kd.S_drewN | apply Kd.S_drew)); exact Kd.S_mono HO_8.out (fun _ hk => hk.2)⟩, ⟨by repeat (first | (with_reducible first | exact HB.out | apply below_alloc | apply pw_below_drewN | apply below_drew1) | exact HB.out)⟩⟩
                            · rw [if_neg c35] at H
                              exact absurd H (by simp)
                          · rw [if_neg c34] at H
                            exact absurd H (by simp)
                        · rw [if_neg c33] at H
                          have c33b0 : decide (x12_4 < x6_3) = false := decide_eq_false c33
                          clear c33
                          replace H := Option.bind_eq_some_iff.mp H
                          obtain ⟨⟨t172, t173⟩, A390, H⟩ := H
                          replace H : (if t154 = true then (amalgamlaw10_PickCover.j5 k4 x6_3 x8_2 t172 (t173 != 0)) else (amalgamlaw10_PickCover.j5 k4 x6_3 x8_2 t172 true)) = some r := H
                          have A39 := Aside0.mk A390
                          clear A390
                          have HC40 := Aside0.mk H
                          clear H
                          obtain ⟨Ao41, co41, eo41⟩ := Kd.S_slice HO_8.out
                          subst eo41
                          obtain ⟨Ao42, co42, eo42⟩ := Kd.R_slice HO_7.out
                          subst eo42
                          go_upto_region 21 with (first | ((with_reducible refine gate_callee (f := 10) rfl ?_); refine goesL_ (some 83) rfl rfl Tryd.func10 (by kernel_rfl) rfl #[.slice Ao41 x8_2.length co41, .slice Ao42 x7_4.length co42, .int .i64 65536] rfl (by (try simp only [List.map_toArray, List.map_cons, List.map_nil]); first | done | rfl | (simp only [List.length_drop, List.length_take]; rfl)) ?_; (with_reducible refine (pick_List.calls k4 _ _ x8_2 _ _ x7_4 65536 t172 t173 _ ?side1 ?side2 ?side3 ?side4 A39.out ?laid).mono ?_); (case laid => first | exact HLT.out | (repeat (first | exact HLT.out | apply Go.Proofs.YtbdlihldmmbdmaaDoor.Bits.TabW.alloc | apply Go.Proofs.YtbdlihldmmbdmaaDoor.Bits.TabW.drewN | exact Go.Proofs.YtbdlihldmmbdmaaDoor.Bits.TabW.below HLT.out HB.out))); (case side1 => repeat (first | exact (Kd.S_reads' HO_8.out).2.2 | (with_reducible refine Kd.C_alloc ?_ _) | (with_reducible refine Kd.C_drewN ?_ _) | (with_reducible refine Kd.C_drew ?_))); (case side2 => exact (Kd.S_reads' HO_8.out).2.1); (case side3 => repeat (first | exact (Kd.R_reads' HO_7.out).2.2 | (with_reducible refine Kd.C_alloc ?_ _) | (with_reducible refine Kd.C_drewN ?_ _) | (with_reducible refine Kd.C_drew ?_))); (case side4 => exact (Kd.R_reads' HO_7.out).2.1); rintro e w43 ⟨v174, rfl, ho0, hb⟩; refine ⟨_, rfl, ?_⟩; have n0_ := Aside0.mk (Kd.R_below (by (with_reducible repeat (first | apply Kd.R_alloc | apply Kd.R_drewN | apply Kd.R_drew)); exact HO_7.out) hb); have n1_ := Aside0.mk (Kd.S_below (by (with_reducible repeat (first | apply Kd.S_alloc | apply Kd.S_drewN | apply Kd.S_drew)); exact HO_8.out) hb); have n2_ := Aside0.mk (Kd.R_lower ho0 (below_size (by repeat (first | (with_reducible first | exact HB.out | apply below_alloc | apply pw_below_drewN | apply below_drew1) | exact HB.out)))); have n3_ := Aside0.mk (below_step (by repeat (first | (with_reducible first | exact HB.out | apply below_alloc | apply pw_below_drewN | apply below_drew1) | exact HB.out)) hb); clear HO_7; clear HO_8; clear HB; have HO_7 := n0_; have HO_8 := n1_; have HO175 := n2_; have HB := n3_; clear n0_ n1_ n2_ n3_; (try clear hb); (try clear hb2); (try clear hk); (try clear hi); (try clear ho0)))
                          (try simp only [Act.put, List.setIfInBounds_toArray, List.set_cons_zero, List.set_cons_succ])
                          go_cut [91] (fun v91 wc => ∃ (kq : Nat) (x91_39 : Bool), v91 = .bool x91_39 ∧ Aside0 (amalgamlaw10_PickCover.j5 kq x6_3 x8_2 t172 x91_39 = some r) ∧ Aside0 (kq ≤ k4) ∧ Aside0 (Kd.S (Kd.slice 3 (Kd.int .i64)) 23 wc w.heap.size (fun _ => True) (.slice Ao41 x8_2.length co41) x8_2) ∧ Aside0 (Kd.R (Kd.int .u32) 37 wc w.heap.size (fun _ => True) v174 t172) ∧ Aside0 (Below w.heap.size w wc))
                          case first =>
                            have H := HC40.out
                            clear HC40
                            by_cases c44 : t154 = true
                            · subst c44
                              have H1 : (amalgamlaw10_PickCover.j5 k4 x6_3 x8_2 t172 (t173 != 0)) = some r := by rw [if_pos rfl] at H; exact H
                              clear H
                              have H := H1
                              clear H1
                              have H' := Aside0.mk H
                              clear H
                              go_wp2
                              go_meet
                              case rel => exact ⟨_, ((t173 != 0)), (by first | rfl | (simp; done) | (simp [*]; done)), H', ⟨by have := HJ3.out; have := HK2.out; have := HJ10.out; have := HK4.out; first | omega | exact Nat.le_refl _⟩, ⟨by (with_reducible repeat (first | apply Kd.S_alloc | apply Kd.S_drewN | apply Kd.S_drew)); exact Kd.S_mono HO_8.out (fun _ hk => trivial)⟩, ⟨by (with_reducible repeat (first | apply Kd.R_alloc | apply Kd.R_drewN | apply Kd.R_drew)); exact HO175.out⟩, ⟨by repeat (first | (with_reducible first | exact HB.out | apply below_alloc | apply pw_below_drewN | apply below_drew1) | exact HB.out)⟩⟩
                            · replace c44 := Bool.eq_false_iff.mpr c44
                              subst c44
                              have H1 : (amalgamlaw10_PickCover.j5 k4 x6_3 x8_2 t172 true) = some r := by rw [if_neg (show ¬ (false = true) by decide)] at H; exact H
                              clear H
                              have H := H1
                              clear H1
                              have H' := Aside0.mk H
                              clear H
                              go_wp2
                              go_meet
                              case rel => exact ⟨_, (true), (by first | rfl | (simp; done) | (simp [*]; done)), H', ⟨by have := HJ3.out; have := HK2.out; have := HJ10.out; have := HK4.out; first | omega | exact Nat.le_refl _⟩, ⟨by (with_reducible repeat (first | apply Kd.S_alloc | apply Kd.S_drewN | apply Kd.S_drew)); exact Kd.S_mono HO_8.out (fun _ hk => trivial)⟩, ⟨by (with_reducible repeat (first | apply Kd.R_alloc | apply Kd.R_drewN | apply Kd.R_drew)); exact HO175.out⟩, ⟨by repeat (first | (with_reducible first | exact HB.out | apply below_alloc | apply pw_below_drewN | apply below_drew1) | exact HB.out)⟩⟩
                          case rest =>
                            clear HC40
                            try clear c1
                            try clear p1
                            try clear q1
                            try clear hx1
                            try clear c2
                            try clear p2
                            try clear q2
                            try clear hx2
                            try clear hf2
                            try clear c3
                            try clear p3
                            try clear q3
                            try clear hx3
                            try clear hf3
                            try clear c4
                            try clear c6
                            try clear c6b0
                            try clear p6
                            try clear c7
                            try clear c7b0
                            try clear c7b1
                            try clear c8
                            try clear c8b0
                            try clear c8b1
                            try clear c10
                            try clear c12
                            try clear c12b0
                            try clear c13
                            try clear c14
                            try clear c14b0
                            try clear c14b1
                            try clear c15
                            try clear c15b0
                            try clear c15b1
                            try clear c16
                            try clear p16
                            try clear q16
                            try clear hx16
                            try clear c18
                            try clear c18b0
                            try clear c19
                            try clear c19b0
                            try clear c20
                            try clear c20b0
                            try clear c21
                            try clear c21b0
                            try clear c22
                            try clear c22b0
                            try clear c23
                            try clear c23b0
                            try clear p24
                            try clear q24
                            try clear hx24
                            try clear hf24
                            try clear c27
                            try clear c30
                            try clear c33
                            try clear c33b0
                            try clear c34
                            try clear c34b0
                            try clear c35
                            try clear c35b0
                            try clear p36
                            try clear q36
                            try clear hx36
                            try clear hf36
                            try clear c44
                            try clear hx161_0
                            try clear hx162_0
                            try clear hx163_0
                            try clear hx24_0
                            try clear hx36_0
                            try clear p1
                            try clear p16
                            try clear p161
                            try clear p162
                            try clear p163
                            try clear p2
                            try clear p24
                            try clear p36
                            try clear p6
                            try clear q1
                            try clear q16
                            try clear q161
                            try clear q162
                            try clear q163
                            try clear q2
                            try clear q24
                            try clear q36
                            obtain ⟨kq, x91_39, rfl, HA, HJ39, HO_8, HO_13, HB⟩ := hcut
                            cases kq with
                            | zero => exact absurd HA.out (by simp [amalgamlaw10_PickCover.j5])
                            | succ kj39 =>
                              have H := HA.out
                              clear HA
                              simp only [amalgamlaw10_PickCover.j5] at H
                              by_cases c45 : x91_39 = true
                              · subst c45
                                have H1 : (some false) = some r := by rw [if_pos rfl] at H; exact H
                                clear H
                                have H := H1
                                clear H1
                                obtain rfl := Option.some.inj H
                                go_wp2
                                go_ret
                                exact ⟨by first | rfl | (simp [errW_none, errW_some] <;> rfl) | (simp [*, errW_none, errW_some] <;> rfl), by repeat (first | (with_reducible first | exact HB.out | apply below_alloc | apply pw_below_drewN | apply below_drew1) | exact HB.out)⟩
                              · replace c45 := Bool.eq_false_iff.mpr c45
                                subst c45
                                have H1 : (amalgamlaw10_PickCover.l3 kj39 x6_3 x8_2 t172 0 0) = some r := by rw [if_neg (show ¬ (false = true) by decide)] at H; exact H
                                clear H
                                have H := H1
                                clear H1
                                have H' := Aside0.mk H
                                clear H
                                go_wp2
                                go_loopg [15, 16] kj39 (fun kq v15 v16 w' => ∃ (x15_6 : Int) (x16_6 : Int), v15 = .int .i64 x15_6 ∧ v16 = .int .u32 x16_6 ∧ Aside0 (amalgamlaw10_PickCover.l3 kq x6_3 x8_2 t172 x15_6 x16_6 = some r) ∧ Aside0 (kq ≤ kj39) ∧ Aside0 (Kd.S (Kd.slice 3 (Kd.int .i64)) 23 w' w.heap.size (fun _ => True) (.slice Ao41 x8_2.length co41) x8_2) ∧ Aside0 (Kd.R (Kd.int .u32) 37 w' w.heap.size (fun _ => True) v174 t172) ∧ Aside0 (Below w.heap.size w w'))
                                case atStart => exact ⟨(0), (0), (by first | rfl | (simp; done) | (simp [*]; done)), (by first | rfl | (simp; done) | (simp [*]; done)), H', ⟨Nat.le_refl _⟩, ⟨by (with_reducible repeat (first | apply Kd.S_alloc | apply Kd.S_drewN | apply Kd.S_drew)); exact HO_8.out⟩, ⟨by (with_reducible repeat (first | apply Kd.R_alloc | apply Kd.R_drewN | apply Kd.R_drew)); exact HO_13.out⟩, ⟨by repeat (first | (with_reducible first | exact HB.out | apply below_alloc | apply pw_below_drewN | apply below_drew1) | exact HB.out)⟩⟩
                                case round =>
                                  clear H'
                                  try clear c1
                                  try clear p1
                                  try clear q1
                                  try clear hx1
                                  try clear c2
                                  try clear p2
                                  try clear q2
                                  try clear hx2
                                  try clear hf2
                                  try clear c3
                                  try clear p3
                                  try clear q3
                                  try clear hx3
                                  try clear hf3
                                  try clear c4
                                  try clear c6
                                  try clear c6b0
                                  try clear p6
                                  try clear c7
                                  try clear c7b0
                                  try clear c7b1
                                  try clear c8
                                  try clear c8b0
                                  try clear c8b1
                                  try clear c10
                                  try clear c12
                                  try clear c12b0
                                  try clear c13
                                  try clear c14
                                  try clear c14b0
                                  try clear c14b1
                                  try clear c15
                                  try clear c15b0
                                  try clear c15b1
                                  try clear c16
                                  try clear p16
                                  try clear q16
                                  try clear hx16
                                  try clear c18
                                  try clear c18b0
                                  try clear c19
                                  try clear c19b0
                                  try clear c20
                                  try clear c20b0
                                  try clear c21
                                  try clear c21b0
                                  try clear c22
                                  try clear c22b0
                                  try clear c23
                                  try clear c23b0
                                  try clear p24
                                  try clear q24
                                  try clear hx24
                                  try clear hf24
                                  try clear c27
                                  try clear c30
                                  try clear c33
                                  try clear c33b0
                                  try clear c34
                                  try clear c34b0
                                  try clear c35
                                  try clear c35b0
                                  try clear p36
                                  try clear q36
                                  try clear hx36
                                  try clear hf36
                                  try clear c44
                                  try clear c45
                                  try clear hx161_0
                                  try clear hx162_0
                                  try clear hx163_0
                                  try clear hx24_0
                                  try clear hx36_0
                                  try clear p1
                                  try clear p16
                                  try clear p161
                                  try clear p162
                                  try clear p163
                                  try clear p2
                                  try clear p24
                                  try clear p3
                                  try clear p36
                                  try clear p6
                                  try clear q1
                                  try clear q16
                                  try clear q161
                                  try clear q162
                                  try clear q163
                                  try clear q2
                                  try clear q24
                                  try clear q3
                                  try clear q36
                                  obtain ⟨x15_6, x16_6, rfl, rfl, HA, HK6, HO_8, HO_13, HB⟩ := hrel
                                  cases gk with
                                  | zero => exact absurd HA.out (by simp [amalgamlaw10_PickCover.l3])
                                  | succ k6 =>
                                    have H := HA.out
                                    clear HA
                                    simp only [amalgamlaw10_PickCover.l3] at H
                                    obtain ⟨ji46, hji46⟩ : ∃ j_ : Int, (shl .u32 1 (x8_2.length : Int)) = j_ := ⟨_, rfl⟩
                                    replace H : (if x16_6 < (ji46) then (amalgamlaw10_PickCover.l4 k6 x6_3 x8_2 t172 x15_6 x16_6 true 0) else (some (x15_6 == (t172.length : Int)))) = some r := by first | (rw [hji46] at H; exact H) | (simp only [hji46] at H ⊢; exact H)
                                    have hji46_ : (IntKind.u32.wrap (1 * 2 ^ min (x8_2.length : Int).toNat 32)) = ji46 := hji46
                                    have hji46z : (x8_2.length : Int) ≤ 32 → (IntKind.u32.wrap (1 * 2 ^ (x8_2.length : Int).toNat)) = ji46 := shl_small hji46
                                    have hji46p : (IntKind.u32.wrap (1 * 2 ^ min x8_2.length 32)) = ji46 := hji46_
                                    have hji46q : (x8_2.length : Int) ≤ 32 → (IntKind.u32.wrap (1 * 2 ^ x8_2.length)) = ji46 := hji46z
                                    have hji46r : (IntKind.u32.wrap (2 ^ min x8_2.length 32)) = ji46 := by have h_ := hji46p; rw [Int.one_mul] at h_; exact h_
                                    have hji46s : (x8_2.length : Int) ≤ 32 → (IntKind.u32.wrap (2 ^ x8_2.length)) = ji46 := fun hle_ => by have h_ := hji46q hle_; rw [Int.one_mul] at h_; exact h_
                                    have hji46u : (IntKind.u32.wrap (2 ^ min (x8_2.length : Int).toNat 32)) = ji46 := by have h_ := hji46_; rw [Int.one_mul] at h_; exact h_
                                    have hji46v : (x8_2.length : Int) ≤ 32 → (IntKind.u32.wrap (2 ^ (x8_2.length : Int).toNat)) = ji46 := fun hle_ => by have h_ := hji46z hle_; rw [Int.one_mul] at h_; exact h_
                                    by_cases c47 : x16_6 < (ji46)
                                    · rw [if_pos c47] at H
                                      have c47b0 : decide (x16_6 < (ji46)) = true := decide_eq_true c47
                                      clear c47
                                      have H' := Aside0.mk H
                                      clear H
                                      go_wp2
                                      go_loopg [17, 18] k6 (fun kq v17 v18 w' => ∃ (x17_7 : Bool) (x18_7 : Int), v17 = .bool x17_7 ∧ v18 = .int .i64 x18_7 ∧ Aside0 (amalgamlaw10_PickCover.l4 kq x6_3 x8_2 t172 x15_6 x16_6 x17_7 x18_7 = some r) ∧ Aside0 (kq ≤ k6) ∧ Aside0 (Kd.S (Kd.slice 3 (Kd.int .i64)) 23 w' w.heap.size (fun _ => True) (.slice Ao41 x8_2.length co41) x8_2) ∧ Aside0 (Kd.R (Kd.int .u32) 37 w' w.heap.size (fun _ => True) v174 t172) ∧ Aside0 (Below w.heap.size w w'))
                                      case atStart => exact ⟨(true), (0), (by first | rfl | (simp; done) | (simp [*]; done)), (by first | rfl | (simp; done) | (simp [*]; done)), H', ⟨Nat.le_refl _⟩, ⟨by (with_reducible repeat (first | apply Kd.S_alloc | apply Kd.S_drewN | apply Kd.S_drew)); exact HO_8.out⟩, ⟨by (with_reducible repeat (first | apply Kd.R_alloc | apply Kd.R_drewN | apply Kd.R_drew)); exact HO_13.out⟩, ⟨by repeat (first | (with_reducible first | exact HB.out | apply below_alloc | apply pw_below_drewN | apply below_drew1) | exact HB.out)⟩⟩
                                      case round =>
                                        clear H'
                                        try clear c1
                                        try clear p1
                                        try clear q1
                                        try clear hx1
                                        try clear c2
                                        try clear p2
                                        try clear q2
                                        try clear hx2
                                        try clear hf2
                                        try clear c3
                                        try clear p3
                                        try clear q3
                                        try clear hx3
                                        try clear hf3
                                        try clear c4
                                        try clear c6
                                        try clear c6b0
                                        try clear p6
                                        try clear c7
                                        try clear c7b0
                                        try clear c7b1
                                        try clear c8
                                        try clear c8b0
                                        try clear c8b1
                                        try clear c10
                                        try clear c12
                                        try clear c12b0
                                        try clear c13
                                        try clear c14
                                        try clear c14b0
                                        try clear c14b1
                                        try clear c15
                                        try clear c15b0
                                        try clear c15b1
                                        try clear c16
                                        try clear p16
                                        try clear q16
                                        try clear hx16
                                        try clear c18
                                        try clear c18b0
                                        try clear c19
                                        try clear c19b0
                                        try clear c20
                                        try clear c20b0
                                        try clear c21
                                        try clear c21b0
                                        try clear c22
                                        try clear c22b0
                                        try clear c23
                                        try clear c23b0
                                        try clear p24
                                        try clear q24
                                        try clear hx24
                                        try clear hf24
                                        try clear c27
                                        try clear c30
                                        try clear c33
                                        try clear c33b0
                                        try clear c34
                                        try clear c34b0
                                        try clear c35
                                        try clear c35b0
                                        try clear p36
                                        try clear q36
                                        try clear hx36
                                        try clear hf36
                                        try clear c44
                                        try clear c45
                                        try clear c47
                                        try clear c47b0
                                        try clear hx161_0
                                        try clear hx162_0
                                        try clear hx163_0
                                        try clear hx24_0
                                        try clear hx36_0
                                        try clear p1
                                        try clear p16
                                        try clear p161
                                        try clear p162
                                        try clear p163
                                        try clear p2
                                        try clear p24
                                        try clear p3
                                        try clear p36
                                        try clear p6
                                        try clear q1
                                        try clear q16
                                        try clear q161
                                        try clear q162
                                        try clear q163
                                        try clear q2
                                        try clear q24
                                        try clear q3
                                        try clear q36
                                        obtain ⟨x17_7, x18_7, rfl, rfl, HA, HK7, HO_8, HO_13, HB⟩ := hrel
                                        cases gk with
                                        | zero => exact absurd HA.out (by simp [amalgamlaw10_PickCover.l4])
                                        | succ k7 =>
                                          have H := HA.out
                                          clear HA
                                          simp only [amalgamlaw10_PickCover.l4] at H
                                          by_cases c48 : x18_7 < x6_3
                                          · rw [if_pos c48] at H
                                            have c48b0 : decide (x18_7 < x6_3) = true := decide_eq_true c48
                                            clear c48
                                            have H' := Aside0.mk H
                                            clear H
                                            go_wp2
                                            go_loopg [19, 20] k7 (fun kq v19 v20 w' => ∃ (x19_8 : Int) (x20_8 : Int), v19 = .int .i64 x19_8 ∧ v20 = .int .i64 x20_8 ∧ Aside0 (amalgamlaw10_PickCover.l5 kq x6_3 x8_2 t172 x15_6 x16_6 x17_7 x18_7 x19_8 x20_8 = some r) ∧ Aside0 (kq ≤ k7) ∧ Aside0 (Kd.S (Kd.slice 3 (Kd.int .i64)) 23 w' w.heap.size (fun _ => True) (.slice Ao41 x8_2.length co41) x8_2) ∧ Aside0 (Kd.R (Kd.int .u32) 37 w' w.heap.size (fun _ => True) v174 t172) ∧ Aside0 (Below w.heap.size w w'))
                                            case atStart => exact ⟨(0), (0), (by first | rfl | (simp; done) | (simp [*]; done)), (by first | rfl | (simp; done) | (simp [*]; done)), H', ⟨Nat.le_refl _⟩, ⟨by (with_reducible repeat (first | apply Kd.S_alloc | apply Kd.S_drewN | apply Kd.S_drew)); exact HO_8.out⟩, ⟨by (with_reducible repeat (first | apply Kd.R_alloc | apply Kd.R_drewN | apply Kd.R_drew)); exact HO_13.out⟩, ⟨by repeat (first | (with_reducible first | exact HB.out | apply below_alloc | apply pw_below_drewN | apply below_drew1) | exact HB.out)⟩⟩
                                            case round =>
                                              clear H'
                                              try clear c1
                                              try clear p1
                                              try clear q1
                                              try clear hx1
                                              try clear c2
                                              try clear p2
                                              try clear q2
                                              try clear hx2
                                              try clear hf2
                                              try clear c3
                                              try clear p3
                                              try clear q3
                                              try clear hx3
                                              try clear hf3
                                              try clear c4
                                              try clear c6
                                              try clear c6b0
                                              try clear p6
                                              try clear c7
                                              try clear c7b0
                                              try clear c7b1
                                              try clear c8
                                              try clear c8b0
                                              try clear c8b1
                                              try clear c10
                                              try clear c12
                                              try clear c12b0
                                              try clear c13
                                              try clear c14
                                              try clear c14b0
                                              try clear c14b1
                                              try clear c15
                                              try clear c15b0
                                              try clear c15b1
                                              try clear c16
                                              try clear p16
                                              try clear q16
                                              try clear hx16
                                              try clear c18
                                              try clear c18b0
                                              try clear c19
                                              try clear c19b0
                                              try clear c20
                                              try clear c20b0
                                              try clear c21
                                              try clear c21b0
                                              try clear c22
                                              try clear c22b0
                                              try clear c23
                                              try clear c23b0
                                              try clear p24
                                              try clear q24
                                              try clear hx24
                                              try clear hf24
                                              try clear c27
                                              try clear c30
                                              try clear c33
                                              try clear c33b0
                                              try clear c34
                                              try clear c34b0
                                              try clear c35
                                              try clear c35b0
                                              try clear p36
                                              try clear q36
                                              try clear hx36
                                              try clear hf36
                                              try clear c44
                                              try clear c45
                                              try clear c47
                                              try clear c47b0
                                              try clear c48
                                              try clear c48b0
                                              try clear hx161_0
                                              try clear hx162_0
                                              try clear hx163_0
                                              try clear hx24_0
                                              try clear hx36_0
                                              try clear p1
                                              try clear p16
                                              try clear p161
                                              try clear p162
                                              try clear p163
                                              try clear p2
                                              try clear p24
                                              try clear p3
                                              try clear p36
                                              try clear p6
                                              try clear q1
                                              try clear q16
                                              try clear q161
                                              try clear q162
                                              try clear q163
                                              try clear q2
                                              try clear q24
                                              try clear q3
                                              try clear q36
                                              obtain ⟨x19_8, x20_8, rfl, rfl, HA, HK8, HO_8, HO_13, HB⟩ := hrel
                                              cases gk with
                                              | zero => exact absurd HA.out (by simp [amalgamlaw10_PickCover.l5])
                                              | succ k8 =>
                                                have H := HA.out
                                                clear HA
                                                simp only [amalgamlaw10_PickCover.l5] at H
                                                by_cases c49 : x20_8 < (x8_2.length : Int)
                                                · rw [if_pos c49] at H
                                                  have c49b0 : decide (x20_8 < (x8_2.length : Int)) = true := decide_eq_true c49
                                                  clear c49
                                                  by_cases c50 : 0 ≤ x20_8
                                                  · rw [if_pos c50] at H
                                                    have c50b0 := eq_true c50
                                                    have c50b1 : decide (0 ≤ x20_8) = true := decide_eq_true c50
                                                    clear c50
                                                    obtain ⟨ji51, hji51⟩ : ∃ j_ : Int, (shr .u32 x16_6 x20_8) = j_ := ⟨_, rfl⟩
                                                    replace H : (if (Go.bits .and .u32 (ji51) 1) = 1 then (if 0 ≤ x18_7 then (if x18_7 < ((rd_L1 x8_2 x20_8).length : Int) then (amalgamlaw10_PickCover.l5 k8 x6_3 x8_2 t172 x15_6 x16_6 x17_7 x18_7 (wrap64 (x19_8 + (rd (rd_L1 x8_2 x20_8) x18_7))) (wrap64 (x20_8 + 1))) else (none)) else (none)) else (amalgamlaw10_PickCover.l5 k8 x6_3 x8_2 t172 x15_6 x16_6 x17_7 x18_7 x19_8 (wrap64 (x20_8 + 1)))) = some r := by first | (rw [hji51] at H; exact H) | (simp only [hji51] at H ⊢; exact H)
                                                    have hji51_ : (x16_6 / 2 ^ min x20_8.toNat 32) = ji51 := hji51
                                                    have hji51z : x20_8 ≤ 32 → (x16_6 / 2 ^ x20_8.toNat) = ji51 := shr_small hji51
                                                    by_cases c52 : (Go.bits .and .u32 (ji51) 1) = 1
                                                    · rw [if_pos c52] at H
                                                      have c52b0 : ((Go.bits .and .u32 (ji51) 1) == 1) = true := beq_iff_eq.mpr c52
                                                      have c52b1 : ((Go.bits .and .u32 (ji51) 1) != 1) = false := bne_eq_false_iff_eq.mpr c52
                                                      clear c52
                                                      by_cases c53 : 0 ≤ x18_7
                                                      · rw [if_pos c53] at H
                                                        have c53b0 : decide (0 ≤ x18_7) = true := decide_eq_true c53
                                                        clear c53
                                                        by_cases c54 : x18_7 < ((rd_L1 x8_2 x20_8).length : Int)
                                                        · rw [if_pos c54] at H
                                                          have c54b0 : decide (x18_7 < ((rd_L1 x8_2 x20_8).length : Int)) = true := decide_eq_true c54
                                                          clear c54
                                                          have H' := Aside0.mk H
                                                          clear H
                                                          have p176 : 0 ≤ (x20_8 : Int) := of_decide_eq_true (by first | (with_reducible assumption) | assumption)
                                                          have q176 : x20_8 < (x8_2.length : Int) := of_decide_eq_true (by first | (with_reducible assumption) | assumption)
                                                          obtain ⟨ad176, A176_0, c176_0, e176, hx176_0, hl176_0, hi176_0⟩ := at_L1 (Kd.S_reads' HO_8.out).2.2 x20_8 p176 q176
                                                          cases e176
                                                          obtain ⟨ce176, hce176, hMe176, hcc176⟩ := Kd.S_get HO_8.out [] x20_8 p176 (by first | exact q176 | exact of_decide_eq_true (by first | (with_reducible assumption) | assumption) | (have e_ := (Kd.S_reads' HO_8.out).1; omega))
                                                          obtain ⟨ve176_0, rfl, ge176_0⟩ := hMe176
                                                          have hv176_0 := hcc176 0 _ rfl
                                                          rw [Nat.add_zero, show ((Kd.slice 3 (Kd.int .i64))).sz = 1 from rfl, Nat.mul_one] at hv176_0
                                                          replace hv176_0 := Option.some.inj (hv176_0.symm.trans hx176_0)
                                                          rw [hv176_0] at ge176_0
                                                          have HL176_0 := Aside0.mk (show Kd.R (Kd.int .i64) 3 _ _ _ _ (rd_L1 x8_2 x20_8) from ge176_0)
                                                          clear hv176_0 ge176_0
                                                          clear hcc176 hce176
                                                          have HR176_0 := Aside0.mk hi176_0
                                                          have HC176_0 := Aside0.mk hl176_0
                                                          clear hi176_0 hl176_0
                                                          replace p176 := eq_true p176
                                                          replace q176 := eq_true q176
                                                          have p177 : 0 ≤ (x18_7 : Int) := of_decide_eq_true (by first | (with_reducible assumption) | assumption)
                                                          have q177 : x18_7 < ((rd_L1 x8_2 x20_8).length : Int) := of_decide_eq_true (by first | (with_reducible assumption) | assumption)
                                                          obtain ⟨ad177, e177, hx177_0⟩ := Kd.at_int (by repeat (first | (with_reducible exact HR176_0.out) | (with_reducible refine Kd.C_alloc ?_ _) | (with_reducible refine Kd.C_drewN ?_ _) | (with_reducible refine Kd.C_drew ?_) | exact HR176_0.out)) x18_7 p177 q177
                                                          cases e177
                                                          replace p177 := eq_true p177
                                                          replace q177 := eq_true q177
                                                          go_wp2
                                                          go_roundg k8
                                                          case measure => have := HJ3.out; have := HK2.out; have := HJ10.out; have := HK4.out; have := HJ39.out; have := HK6.out; have := HK7.out; have := HK8.out; omega
                                                          case rel => exact ⟨(wrap64 (x19_8 + (rd (rd_L1 x8_2 x20_8) x18_7))), (wrap64 (x20_8 + 1)), (by first | rfl | (simp; done) | (simp [*]; done)), (by first | rfl | (simp; done) | (simp [*]; done)), H', ⟨by have := HJ3.out; have := HK2.out; have := HJ10.out; have := HK4.out; have := HJ39.out; have := HK6.out; have := HK7.out; have := HK8.out; omega⟩, ⟨by (with_reducible repeat (first | apply Kd.S_alloc | apply Kd.S_drewN | apply Kd.S_drew)); exact HO_8.out⟩, ⟨by (with_reducible repeat (first | apply Kd.R_alloc | apply Kd.R_drewN | apply Kd.R_drew)); exact HO_13.out⟩, ⟨by repeat (first | (with_reducible first | exact HB.out | apply below_alloc | apply pw_below_drewN | apply below_drew1) | exact HB.out)⟩⟩
                                                        · rw [if_neg c54] at H
                                                          exact absurd H (by simp)
                                                      · rw [if_neg c53] at H
                                                        exact absurd H (by simp)
                                                    · rw [if_neg c52] at H
                                                      have c52b0 : ((Go.bits .and .u32 (ji51) 1) == 1) = false := beq_eq_false_iff_ne.mpr c52
                                                      have c52b1 : ((Go.bits .and .u32 (ji51) 1) != 1) = true := bne_iff_ne.mpr c52
                                                      have H' := Aside0.mk H
                                                      clear H
                                                      go_wp2
                                                      go_roundg k8
                                                      case measure => have := HJ3.out; have := HK2.out; have := HJ10.out; have := HK4.out; have := HJ39.out; have := HK6.out; have := HK7.out; have := HK8.out; omega
                                                      case rel => exact ⟨(x19_8), (wrap64 (x20_8 + 1)), (by first | rfl | (simp; done) | (simp [*]; done)), (by first | rfl | (simp; done) | (simp [*]; done)), H', ⟨by have := HJ3.out; have := HK2.out; have := HJ10.out; have := HK4.out; have := HJ39.out; have := HK6.out; have := HK7.out; have := HK8.out; omega⟩, ⟨by (with_reducible repeat (first | apply Kd.S_alloc | apply Kd.S_drewN | apply Kd.S_drew)); exact HO_8.out⟩, ⟨by (with_reducible repeat (first | apply Kd.R_alloc | apply Kd.R_drewN | apply Kd.R_drew)); exact HO_13.out⟩, ⟨by repeat (first | (with_reducible first | exact HB.out | apply below_alloc | apply pw_below_drewN | apply below_drew1) | exact HB.out)⟩⟩
                                                  · rw [if_neg c50] at H
                                                    exact absurd H (by simp)
                                                · rw [if_neg c49] at H
                                                  have c49b0 : decide (x20_8 < (x8_2.length : Int)) = false := decide_eq_false c49
                                                  clear c49
                                                  by_cases c55 : x17_7 = true
                                                  · subst c55
                                                    have H1 : (amalgamlaw10_PickCover.l4 k8 x6_3 x8_2 t172 x15_6 x16_6 (x19_8 == 1) (wrap64 (x18_7 + 1))) = some r := by rw [if_pos rfl] at H; exact H
                                                    clear H
                                                    have H := H1
                                                    clear H1
                                                    have H' := Aside0.mk H
                                                    clear H
                                                    go_wp2
                                                    go_roundg k8
                                                    case measure => have := HJ3.out; have := HK2.out; have := HJ10.out; have := HK4.out; have := HJ39.out; have := HK6.out; have := HK7.out; have := HK8.out; omega
                                                    case rel => exact ⟨((x19_8 == 1)), (wrap64 (x18_7 + 1)), (by first | rfl | (simp; done) | (simp [*]; done)), (by first | rfl | (simp; done) | (simp [*]; done)), H', ⟨by have := HJ3.out; have := HK2.out; have := HJ10.out; have := HK4.out; have := HJ39.out; have := HK6.out; have := HK7.out; have := HK8.out; omega⟩, ⟨by (with_reducible repeat (first | apply Kd.S_alloc | apply Kd.S_drewN | apply Kd.S_drew)); exact HO_8.out⟩, ⟨by (with_reducible repeat (first | apply Kd.R_alloc | apply Kd.R_drewN | apply Kd.R_drew)); exact HO_13.out⟩, ⟨by repeat (first | (with_reducible first | exact HB.out | apply below_alloc | apply pw_below_drewN | apply below_drew1) | exact HB.out)⟩⟩
                                                  · replace c55 := Bool.eq_false_iff.mpr c55
                                                    subst c55
                                                    have H1 : (amalgamlaw10_PickCover.l4 k8 x6_3 x8_2 t172 x15_6 x16_6 false (wrap64 (x18_7 + 1))) = some r := by rw [if_neg (show ¬ (false = true) by decide)] at H; exact H
                                                    clear H
                                                    have H := H1
                                                    clear H1
                                                    have H' := Aside0.mk H
                                                    clear H
                                                    go_wp2
                                                    go_roundg k8
                                                    case measure => have := HJ3.out; have := HK2.out; have := HJ10.out; have := HK4.out; have := HJ39.out; have := HK6.out; have := HK7.out; have := HK8.out; omega
                                                    case rel => exact ⟨(false), (wrap64 (x18_7 + 1)), (by first | rfl | (simp; done) | (simp [*]; done)), (by first | rfl | (simp; done) | (simp [*]; done)), H', ⟨by have := HJ3.out; have := HK2.out; have := HJ10.out; have := HK4.out; have := HJ39.out; have := HK6.out; have := HK7.out; have := HK8.out; omega⟩, ⟨by (with_reducible repeat (first | apply Kd.S_alloc | apply Kd.S_drewN | apply Kd.S_drew)); exact HO_8.out⟩, ⟨by (with_reducible repeat (first | apply Kd.R_alloc | apply Kd.R_drewN | apply Kd.R_drew)); exact HO_13.out⟩, ⟨by repeat (first | (with_reducible first | exact HB.out | apply below_alloc | apply pw_below_drewN | apply below_drew1) | exact HB.out)⟩⟩
                                          · rw [if_neg c48] at H
                                            have c48b0 : decide (x18_7 < x6_3) = false := decide_eq_false c48
                                            clear c48
                                            have HC56 := Aside0.mk H
                                            clear H
                                            go_upto_region 38 with (fail)
                                            go_cut [21] (fun v21 wc => ∃ (kq : Nat) (x21_55 : Bool), v21 = .bool x21_55 ∧ Aside0 (amalgamlaw10_PickCover.j9 kq x6_3 x8_2 t172 x15_6 x16_6 x17_7 x21_55 = some r) ∧ Aside0 (kq ≤ k7) ∧ Aside0 (Kd.S (Kd.slice 3 (Kd.int .i64)) 23 wc w.heap.size (fun _ => True) (.slice Ao41 x8_2.length co41) x8_2) ∧ Aside0 (Kd.R (Kd.int .u32) 37 wc w.heap.size (fun _ => True) v174 t172) ∧ Aside0 (Below w.heap.size w wc))
                                            case first =>
                                              have H := HC56.out
                                              clear HC56
                                              by_cases c57 : x15_6 < (t172.length : Int)
                                              · rw [if_pos c57] at H
                                                have c57b0 : decide (x15_6 < (t172.length : Int)) = true := decide_eq_true c57
                                                clear c57
                                                (first | rw [c57b0] | (simp only [i64_w, i32_w]; rw [c57b0]) | skip)
                                                by_cases c58 : 0 ≤ x15_6
                                                · rw [if_pos c58] at H
                                                  have c58b0 : decide (0 ≤ x15_6) = true := decide_eq_true c58
                                                  clear c58
                                                  have H' := Aside0.mk H
                                                  clear H
                                                  obtain ⟨Ao59, co59, eo59⟩ := Kd.R_slice HO_13.out
                                                  subst eo59
                                                  have p178 : 0 ≤ (x15_6 : Int) := of_decide_eq_true (by first | (with_reducible assumption) | assumption)
                                                  have q178 : x15_6 < (t172.length : Int) := of_decide_eq_true (by first | (with_reducible assumption) | assumption)
                                                  obtain ⟨ad178, e178, hx178_0⟩ := Kd.at_int (Kd.R_reads' HO_13.out).2.2 x15_6 p178 q178
                                                  cases e178
                                                  replace p178 := eq_true p178
                                                  replace q178 := eq_true q178
                                                  go_wp2
                                                  go_meet
                                                  case rel => exact ⟨_, (((rd t172 x15_6) == x16_6)), (by first | rfl | (simp; done) | (simp [*]; done)), H', ⟨by have := HJ3.out; have := HK2.out; have := HJ10.out; have := HK4.out; have := HJ39.out; have := HK6.out; have := HK7.out; first | omega | exact Nat.le_refl _⟩, ⟨by (with_reducible repeat (first | apply Kd.S_alloc | apply Kd.S_drewN | apply Kd.S_drew)); exact HO_8.out⟩, ⟨by (with_reducible repeat (first | apply Kd.R_alloc | apply Kd.R_drewN | apply Kd.R_drew)); exact HO_13.out⟩, ⟨by repeat (first | (with_reducible first | exact HB.out | apply below_alloc | apply pw_below_drewN | apply below_drew1) | exact HB.out)⟩⟩
                                                · rw [if_neg c58] at H
                                                  exact absurd H (by simp)
                                              · rw [if_neg c57] at H
                                                have c57b0 : decide (x15_6 < (t172.length : Int)) = false := decide_eq_false c57
                                                clear c57
                                                (first | rw [c57b0] | (simp only [i64_w, i32_w]; rw [c57b0]) | skip)
                                                have H' := Aside0.mk H
                                                clear H
                                                obtain ⟨Ao60, co60, eo60⟩ := Kd.R_slice HO_13.out
                                                subst eo60
                                                go_wp2
                                                go_meet
                                                case rel => exact ⟨_, (false), (by first | rfl | (simp; done) | (simp [*]; done)), H', ⟨by have := HJ3.out; have := HK2.out; have := HJ10.out; have := HK4.out; have := HJ39.out; have := HK6.out; have := HK7.out; first | omega | exact Nat.le_refl _⟩, ⟨by (with_reducible repeat (first | apply Kd.S_alloc | apply Kd.S_drewN | apply Kd.S_drew)); exact HO_8.out⟩, ⟨by (with_reducible repeat (first | apply Kd.R_alloc | apply Kd.R_drewN | apply Kd.R_drew)); exact HO_13.out⟩, ⟨by repeat (first | (with_reducible first | exact HB.out | apply below_alloc | apply pw_below_drewN | apply below_drew1) | exact HB.out)⟩⟩
                                            case rest =>
                                              clear HC56
                                              try clear c1
                                              try clear p1
                                              try clear q1
                                              try clear hx1
                                              try clear c2
                                              try clear p2
                                              try clear q2
                                              try clear hx2
                                              try clear hf2
                                              try clear c3
                                              try clear p3
                                              try clear q3
                                              try clear hx3
                                              try clear hf3
                                              try clear c4
                                              try clear c5
                                              try clear c6
                                              try clear c6b0
                                              try clear p6
                                              try clear c7
                                              try clear c7b0
                                              try clear c7b1
                                              try clear c8
                                              try clear c8b0
                                              try clear c8b1
                                              try clear c10
                                              try clear c12
                                              try clear c12b0
                                              try clear c13
                                              try clear c14
                                              try clear c14b0
                                              try clear c14b1
                                              try clear c15
                                              try clear c15b0
                                              try clear c15b1
                                              try clear c16
                                              try clear p16
                                              try clear q16
                                              try clear hx16
                                              try clear c17
                                              try clear p17
                                              try clear q17
                                              try clear hx17
                                              try clear c18
                                              try clear c18b0
                                              try clear c19
                                              try clear c19b0
                                              try clear c20
                                              try clear c20b0
                                              try clear c21
                                              try clear c21b0
                                              try clear c22
                                              try clear c22b0
                                              try clear c23
                                              try clear c23b0
                                              try clear p24
                                              try clear q24
                                              try clear hx24
                                              try clear hf24
                                              try clear c27
                                              try clear c30
                                              try clear c33
                                              try clear c33b0
                                              try clear c34
                                              try clear c34b0
                                              try clear c35
                                              try clear c35b0
                                              try clear p36
                                              try clear q36
                                              try clear hx36
                                              try clear hf36
                                              try clear c44
                                              try clear c45
                                              try clear c47
                                              try clear c47b0
                                              try clear c48
                                              try clear c48b0
                                              try clear c49
                                              try clear c49b0
                                              try clear c50
                                              try clear c50b0
                                              try clear c50b1
                                              try clear c52
                                              try clear c52b0
                                              try clear c52b1
                                              try clear c53
                                              try clear c53b0
                                              try clear c54
                                              try clear c54b0
                                              try clear c55
                                              try clear c57
                                              try clear c57b0
                                              try clear c58
                                              try clear c58b0
                                              try clear hx161_0
                                              try clear hx162_0
                                              try clear hx163_0
                                              try clear hx176_0
                                              try clear hx177_0
                                              try clear hx178_0
                                              try clear hx24_0
                                              try clear hx36_0
                                              try clear p1
                                              try clear p16
                                              try clear p161
                                              try clear p162
                                              try clear p163
                                              try clear p176
                                              try clear p177
                                              try clear p178
                                              try clear p2
                                              try clear p24
                                              try clear p3
                                              try clear p36
                                              try clear p6
                                              try clear q1
                                              try clear q16
                                              try clear q161
                                              try clear q162
                                              try clear q163
                                              try clear q176
                                              try clear q177
                                              try clear q178
                                              try clear q2
                                              try clear q24
                                              try clear q3
                                              try clear q36
                                              obtain ⟨kq, x21_55, rfl, HA, HJ55, HO_8, HO_13, HB⟩ := hcut
                                              cases kq with
                                              | zero => exact absurd HA.out (by simp [amalgamlaw10_PickCover.j9])
                                              | succ kj55 =>
                                                have H := HA.out
                                                clear HA
                                                simp only [amalgamlaw10_PickCover.j9] at H
                                                by_cases c61 : x21_55 = true
                                                · subst c61
                                                  have H1 : (if (true != x17_7) = true then (some false) else (amalgamlaw10_PickCover.l3 kj55 x6_3 x8_2 t172 (wrap64 (x15_6 + 1)) ((x16_6 + 1) % 4294967296))) = some r := by rw [if_pos rfl] at H; exact H
                                                  clear H
                                                  have H := H1
                                                  clear H1
                                                  by_cases c62 : (true != x17_7) = true
                                                  · rw [if_pos c62] at H
                                                    have c62b0 : (true != x17_7) = true := c62
                                                    (try (have c62b1 : decide (true = x17_7) = false := by simpa using c62))
                                                    (try (have c62b2 : (true == x17_7) = false := by simpa using c62))
                                                    (try (have c62b3 : ¬ (true = x17_7) := by simpa using c62))
                                                    clear c62
                                                    obtain rfl := Option.some.inj H
                                                    go_wp2
                                                    go_ret
                                                    exact ⟨by first | rfl | (simp [errW_none, errW_some] <;> rfl) | (simp only [← hji46]; first | rfl | (simp [errW_none, errW_some] <;> rfl)) | (simp [*, errW_none, errW_some] <;> rfl), by repeat (first | (with_reducible first | exact HB.out | apply below_alloc | apply pw_below_drewN | apply below_drew1) | exact HB.out)⟩
                                                  · rw [if_neg c62] at H
                                                    have c62b0 : (true != x17_7) = false := by simpa using c62
                                                    (try (have c62b1 : decide (true = x17_7) = true := by simpa using c62))
                                                    (try (have c62b2 : (true == x17_7) = true := by simpa using c62))
                                                    clear c62
                                                    have H' := Aside0.mk H
                                                    clear H
                                                    go_wp2
                                                    go_roundg kj55
                                                    case measure => have := HJ3.out; have := HK2.out; have := HJ10.out; have := HK4.out; have := HJ39.out; have := HK6.out; have := HK7.out; have := HJ55.out; omega
                                                    case rel => exact ⟨(wrap64 (x15_6 + 1)), ((x16_6 + 1) % 4294967296), (by first | rfl | (simp; done) | (simp [*]; done)), (by first | rfl | (simp; done) | (simp [*]; done)), H', ⟨by have := HJ3.out; have := HK2.out; have := HJ10.out; have := HK4.out; have := HJ39.out; have := HK6.out; have := HK7.out; have := HJ55.out; omega⟩, ⟨by (with_reducible repeat (first | apply Kd.S_alloc | apply Kd.S_drewN | apply Kd.S_drew)); exact HO_8.out⟩, ⟨by (with_reducible repeat (first | apply Kd.R_alloc | apply Kd.R_drewN | apply Kd.R_drew)); exact HO_13.out⟩, ⟨by repeat (first | (with_reducible first | exact HB.out | apply below_alloc | apply pw_below_drewN | apply below_drew1) | exact HB.out)⟩⟩
                                                · replace c61 := Bool.eq_false_iff.mpr c61
                                                  subst c61
                                                  have H1 : (if (false != x17_7) = true then (some false) else (amalgamlaw10_PickCover.l3 kj55 x6_3 x8_2 t172 x15_6 ((x16_6 + 1) % 4294967296))) = some r := by rw [if_neg (show ¬ (false = true) by decide)] at H; exact H
                                                  clear H
                                                  have H := H1
                                                  clear H1
                                                  by_cases c63 : (false != x17_7) = true
                                                  · rw [if_pos c63] at H
                                                    have c63b0 : (false != x17_7) = true := c63
                                                    (try (have c63b1 : decide (false = x17_7) = false := by simpa using c63))
                                                    (try (have c63b2 : (false == x17_7) = false := by simpa using c63))
                                                    (try (have c63b3 : ¬ (false = x17_7) := by simpa using c63))
                                                    clear c63
                                                    obtain rfl := Option.some.inj H
                                                    go_wp2
                                                    go_ret
                                                    exact ⟨by first | rfl | (simp [errW_none, errW_some] <;> rfl) | (simp only [← hji46]; first | rfl | (simp [errW_none, errW_some] <;> rfl)) | (simp [*, errW_none, errW_some] <;> rfl), by repeat (first | (with_reducible first | exact HB.out | apply below_alloc | apply pw_below_drewN | apply below_drew1) | exact HB.out)⟩
                                                  · rw [if_neg c63] at H
                                                    have c63b0 : (false != x17_7) = false := by simpa using c63
                                                    (try (have c63b1 : decide (false = x17_7) = true := by simpa using c63))
                                                    (try (have c63b2 : (false == x17_7) = true := by simpa using c63))
                                                    clear c63
                                                    have H' := Aside0.mk H
                                                    clear H
                                                    go_wp2
                                                    go_roundg kj55
                                                    case measure => have := HJ3.out; have := HK2.out; have := HJ10.out; have := HK4.out; have := HJ39.out; have := HK6.out; have := HK7.out; have := HJ55.out; omega
                                                    case rel => exact ⟨(x15_6), ((x16_6 + 1) % 4294967296), (by first | rfl | (simp; done) | (simp [*]; done)), (by first | rfl | (simp; done) | (simp [*]; done)), H', ⟨by have := HJ3.out; have := HK2.out; have := HJ10.out; have := HK4.out; have := HJ39.out; have := HK6.out; have := HK7.out; have := HJ55.out; omega⟩, ⟨by (with_reducible repeat (first | apply Kd.S_alloc | apply Kd.S_drewN | apply Kd.S_drew)); exact HO_8.out⟩, ⟨by (with_reducible repeat (first | apply Kd.R_alloc | apply Kd.R_drewN | apply Kd.R_drew)); exact HO_13.out⟩, ⟨by repeat (first | (with_reducible first | exact HB.out | apply below_alloc | apply pw_below_drewN | apply below_drew1) | exact HB.out)⟩⟩
                                    · rw [if_neg c47] at H
                                      have c47b0 : decide (x16_6 < (ji46)) = false := decide_eq_false c47
                                      clear c47
                                      obtain rfl := Option.some.inj H
                                      obtain ⟨Ao64, co64, eo64⟩ := Kd.R_slice HO_13.out
                                      subst eo64
                                      go_wp2
                                      go_ret
                                      exact ⟨by first | rfl | (simp [errW_none, errW_some] <;> rfl) | (simp only [← hji46]; first | rfl | (simp [errW_none, errW_some] <;> rfl)) | (simp [*, errW_none, errW_some] <;> rfl), by repeat (first | (with_reducible first | exact HB.out | apply below_alloc | apply pw_below_drewN | apply below_drew1) | exact HB.out)⟩
        · rw [if_neg c8] at H
          exact absurd H (by simp)
      · rw [if_neg c7] at H
        exact absurd H (by simp)

end Go.Proofs.YtbdlihldmmbdmaaDoor.SK

namespace Go.Proofs.YtbdlihldmmbdmaaDoor.PickCover
set_option linter.unusedSectionVars false
open Go.RowKit Go.Proofs.YtbdlihldmmbdmaaDoor.SK Go.Proofs.YtbdlihldmmbdmaaDoorW.PrintWords Go.Proofs.YtbdlihldmmbdmaaDoorW.PrintMore Go.Proofs.YtbdlihldmmbdmaaDoor.Plain Go.Proofs.YtbdlihldmmbdmaaDoor.PickSpec
set_option linter.unusedVariables false

theorem pick_list_ev (rows : List (List Int)) (want : List Int) (most : Int) : Ev (fun k => pick_List.f k rows want most) (listS rows want most) := by
  unfold pick_List.f
  exact Ev.cast (Ev.then (list_ev rows want most) (Ev.now _)) rfl
theorem lives_ev : Ev (fun k => amalgamlaw10_lives.f k) true := by
  unfold amalgamlaw10_lives.f
  have h : listS [[1], [2]] [1] 9 = ([1, 2, 3], 0) := by decide +kernel
  exact Ev.cast (Ev.then (Ev.cast (pick_list_ev [[1], [2]] [1] 9) h) (Ev.now _)) (by decide)

/-- One column of a mask's sum. -/
def metS : List (List Int) → Nat → Nat → Int → Int
  | [], _, _, s => s
  | row :: rows, m, c, s => metS rows (m / 2) c (if m % 2 = 1 then wrap64 (s + rd row (c : Int)) else s)
theorem addM_get : ∀ (rows : List (List Int)) (m n c : Nat) (acc : List Int) (hr : ∀ row ∈ rows, row.length = n) (ha : acc.length = n) (hc : c < n),
    (addM rows m acc)[c]? = some (metS rows m c (rd acc (c : Int)))
  | [], _, n, c, acc, _, ha, hc => by
    simp only [addM, metS]
    rw [rd_lt (by omega)]
    exact List.getElem?_eq_getElem (by omega)
  | row :: rows, m, n, c, acc, hr, ha, hc => by
    simp only [addM, metS]
    have hrow := hr row List.mem_cons_self
    rw [addM_get rows (m / 2) n c _ (fun r h => hr r (List.mem_cons_of_mem _ h)) (by split; exact addRow_length ha hrow; exact ha) hc]
    congr 2
    split
    · rw [rd_lt (by rw [addRow_length ha hrow]; exact hc), rd_lt (by omega : c < acc.length), rd_lt (by omega : c < row.length)]
      simp [addRow]
    · rfl
/-- The wants of just one each. -/
def covers (rows : List (List Int)) (n m : Nat) : Bool := (List.range n).all fun c => metS rows m c 0 == 1
theorem fitsM_covers (rows : List (List Int)) (n m : Nat) (hr : ∀ row ∈ rows, row.length = n) : fitsM rows (List.replicate n 2) m = covers rows n m := by
  unfold fitsM fitsB covers
  rw [List.length_replicate]
  rw [Bool.eq_iff_iff, List.all_eq_true, List.all_eq_true]
  have hl := addM_length rows m n (List.replicate n 0) hr (by simp)
  constructor
  · intro h c hc
    have hc := List.mem_range.1 hc
    have h1 := h _ (List.getElem_mem (l := List.zipWith fitB (addM rows m (List.replicate n 0)) (List.replicate n 2)) (n := c) (by simp; omega))
    rw [zip_get (by omega) (by simp; exact hc)] at h1
    have h2 := addM_get rows m n c (List.replicate n 0) hr (by simp) hc
    rw [List.getElem?_eq_getElem (by omega)] at h2
    rw [Option.some.inj h2, rd_lt (by simp; exact hc)] at h1
    simpa [fitB] using h1
  · intro h b hb
    obtain ⟨c, hc, rfl⟩ := List.getElem_of_mem hb
    have hc' : c < n := by simp at hc; omega
    rw [zip_get (by omega) (by simp; exact hc')]
    have h2 := addM_get rows m n c (List.replicate n 0) hr (by simp) hc'
    rw [List.getElem?_eq_getElem (by omega)] at h2
    rw [Option.some.inj h2, rd_lt (by simp; exact hc')]
    have := h c (List.mem_range.2 hc')
    simpa [fitB] using this

theorem mem_masksFrom {rows : List (List Int)} {want : List Int} {m d x : Nat} (h : x ∈ masksFrom rows want m d) : m ≤ x := by
  unfold masksFrom at h
  have := (List.mem_filter.1 h).1
  simp [List.mem_range'_1] at this
  omega
theorem i64_and1 (x : Int) : 0 ≤ Go.bits .and .i64 x 1 ∧ Go.bits .and .i64 x 1 ≤ 1 := by
  have h2 : (BitVec.ofInt 64 (1 : Int)).toNat = 1 := rfl
  have h : Go.bits .and .i64 x 1 = IntKind.i64.wrap (((BitVec.ofInt 64 x).toNat % 2 : Nat) : Int) := by
    show IntKind.i64.wrap ((BitVec.ofInt 64 x &&& BitVec.ofInt 64 1).toNat : Int) = _
    rw [BitVec.toNat_and, h2, Nat.and_one_is_mod]
  rw [h]
  rcases Nat.mod_two_eq_zero_or_one (BitVec.ofInt 64 x).toNat with e | e <;> rw [e] <;> decide
/-- The rows of its own: as many columns, noughts and ones. -/
def Own (n : Nat) (own : List (List Int)) : Prop := ∀ row ∈ own, row.length = n ∧ ∀ x ∈ row, 0 ≤ x ∧ x ≤ 1

section
variable (n : Nat) (hn : n ≤ 10) (own : List (List Int)) (h8 : own.length ≤ 8) (ho : Own n own) (L : List Int) (hL : L.length ≤ 65536)
include hn h8 ho hL

theorem cover_l5 (at_ m c : Nat) (b : Bool) (hc : c < n) (hm : m < 4294967296) (r : Bool) (nx : ∀ s : Int, s = metS own m c 0 → Ev (fun k => amalgamlaw10_PickCover.l4 k n own L at_ m (b && s == 1) ((c + 1 : Nat) : Int)) r) :
    ∀ d i : Nat, ∀ s : Int, i + d = own.length → metS (own.drop i) (m / 2 ^ i) c s = metS own m c 0 → Ev (fun k => amalgamlaw10_PickCover.l5 k n own L at_ m b c s i) r := by
  intro d
  induction d with
  | zero =>
    intro i s hi hs
    rw [List.drop_eq_nil_of_le (by omega)] at hs
    simp only [metS] at hs
    refine Ev.round (nx s hs) fun k => ?_
    simp only [amalgamlaw10_PickCover.l5]
    rw [if_neg (by omega), wrap_nat (by omega)]
    cases b <;> simp
  | succ d ih =>
    intro i s hi hs
    have h1 : i < own.length := by omega
    have hrow := (ho _ (List.getElem_mem h1)).1
    rw [List.drop_eq_getElem_cons h1] at hs
    simp only [metS] at hs
    rw [Nat.div_div_eq_div_mul, ← Nat.pow_succ] at hs
    have hlt : m / 2 ^ i < 4294967296 := Nat.lt_of_le_of_lt (Nat.div_le_self _ _) hm
    by_cases hb : m / 2 ^ i % 2 = 1
    · rw [if_pos hb] at hs
      refine Ev.round (ih (i + 1) _ (by omega) hs) fun k => ?_
      simp only [amalgamlaw10_PickCover.l5]
      rw [if_pos (by omega), if_pos (by omega), shr_nat _ _ (by omega), u32_and1 _ hlt, if_pos (by omega), if_pos (by omega), rdL_lt h1, if_pos (by omega), wrap_nat (by omega)]
    · rw [if_neg hb] at hs
      refine Ev.round (ih (i + 1) _ (by omega) hs) fun k => ?_
      simp only [amalgamlaw10_PickCover.l5]
      rw [if_pos (by omega), if_pos (by omega), shr_nat _ _ (by omega), u32_and1 _ hlt, if_neg (by omega), wrap_nat (by omega)]

theorem cover_l4 (at_ m : Nat) (hm : m < 4294967296) (r : Bool) (nx : Ev (fun k => if (at_ : Int) < (L.length : Int) then amalgamlaw10_PickCover.j9 k n own L at_ m (covers own n m) (rd L at_ == (m : Int)) else amalgamlaw10_PickCover.j9 k n own L at_ m (covers own n m) false) r) :
    ∀ d c : Nat, ∀ b : Bool, c + d = n → (b && ((List.range n).drop c).all fun c => metS own m c 0 == 1) = covers own n m → Ev (fun k => amalgamlaw10_PickCover.l4 k n own L at_ m b c) r := by
  intro d
  induction d with
  | zero =>
    intro c b hc hb
    rw [List.drop_eq_nil_of_le (by simp; omega), List.all_nil, Bool.and_true] at hb
    subst hb
    refine Ev.round nx fun k => ?_
    simp only [amalgamlaw10_PickCover.l4]
    rw [if_neg (by omega)]
    simp only [show (0 : Int) ≤ (at_ : Int) by omega, if_true]
  | succ d ih =>
    intro c b hc hb
    rw [List.drop_eq_getElem_cons (by simp; omega), List.all_cons, List.getElem_range, ← Bool.and_assoc] at hb
    refine Ev.round (cover_l5 n hn own h8 ho L hL at_ m c b (by omega) hm r (fun s hs => ih (c + 1) _ (by omega) (by rw [hs]; exact hb)) own.length 0 0 (by omega) (by simp)) fun k => ?_
    simp only [amalgamlaw10_PickCover.l4]
    rw [if_pos (by omega)]; rfl

theorem cover_l3 (hLm : L = masks own (List.replicate n 2)) :
    ∀ d m : Nat, ∀ pre : List Int, m + d = 2 ^ own.length → L = pre ++ (masksFrom own (List.replicate n 2) m d).map (fun m : Nat => (m : Int)) → Ev (fun k => amalgamlaw10_PickCover.l3 k n own L pre.length m) true := by
  have hp : 2 ^ own.length ≤ 256 := Nat.le_trans (Nat.pow_le_pow_right (by decide) h8) (by decide)
  intro d
  induction d with
  | zero =>
    intro m pre hm hpre
    simp only [masksFrom, List.range'_zero, List.filter_nil, List.map_nil, List.append_nil] at hpre
    refine Ev.round (Ev.now _) fun k => ?_
    simp only [amalgamlaw10_PickCover.l3]
    rw [shl_one (by omega), if_neg (by omega), ← hpre]
    simp
  | succ d ih =>
    intro m pre hm hpre
    have hfit := fitsM_covers own n m (fun row h => (ho row h).1)
    rw [masksFrom_succ, hfit] at hpre
    refine Ev.round (cover_l4 n hn own h8 ho L hL pre.length m (by omega) true ?_ n 0 true (by omega) (by simp [covers])) fun k => ?_
    · have hm1 : ((m : Int) + 1) % 4294967296 = ((m + 1 : Nat) : Int) := by omega
      cases hcv : covers own n m with
      | true =>
        rw [hcv, if_pos rfl, List.map_cons] at hpre
        have hlt : pre.length < L.length := by rw [hpre]; simp
        have hat : rd L (pre.length : Int) = (m : Int) := rd_get? (by rw [hpre]; simp)
        refine Ev.congr (fun k => by rw [if_pos (by omega), hat]) (Ev.round (ih (m + 1) (pre ++ [(m : Int)]) (by omega) (by rw [hpre]; simp)) fun k => ?_)
        simp only [amalgamlaw10_PickCover.j9, beq_self_eq_true]
        rw [if_pos trivial, if_neg (by simp), hm1, wrap_nat (by omega)]
        simp
      | false =>
        rw [hcv, if_neg (by simp)] at hpre
        have hno : Ev (fun k => amalgamlaw10_PickCover.j9 k n own L pre.length m false false) true := by
          refine Ev.round (ih (m + 1) pre (by omega) hpre) fun k => ?_
          simp only [amalgamlaw10_PickCover.j9]
          rw [if_neg (by simp), if_neg (by simp), hm1]
        by_cases hlt : pre.length < L.length
        · refine Ev.congr (fun k => by rw [if_pos (by omega)]) ?_
          have hne : (rd L (pre.length : Int) == (m : Int)) = false := by
            rw [rd_lt hlt]
            simp only [beq_eq_false_iff_ne, ne_eq]
            intro e
            have h1 : L[pre.length]? = some (m : Int) := by rw [List.getElem?_eq_getElem hlt, e]
            rw [hpre, List.getElem?_append_right (Nat.le_refl _), Nat.sub_self] at h1
            have h2 := List.mem_of_getElem? h1
            obtain ⟨x, hx, hxe⟩ := List.mem_map.1 h2
            have := mem_masksFrom hx
            omega
          rw [hne]
          exact hno
        · exact Ev.congr (fun k => by rw [if_neg (by omega)]) hno
    · simp only [amalgamlaw10_PickCover.l3]
      rw [shl_one (by omega), if_pos (by omega)]; rfl
end

theorem chk_own (n : Nat) (hn : n ≤ 10) (own : List (List Int)) (h8 : own.length ≤ 8) (ho : Own n own) : chk own (List.replicate n 2) = 0 := by
  unfold chk
  rw [if_neg (by omega), if_neg (by simp; omega), if_neg, if_neg]
  · simp only [List.any_eq_true, not_exists, not_and, Bool.not_eq_true]
    intro row hrow
    obtain ⟨h1, h2⟩ := ho row hrow
    simp only [badR, h1, List.length_replicate, ne_eq, not_true, decide_false, Bool.false_or, List.any_eq_false, badN, Bool.or_eq_true, decide_eq_true_eq]
    intro x hx
    have := h2 x hx
    omega
  · simp only [List.any_eq_true, not_exists, not_and, Bool.not_eq_true]
    intro x hx
    rw [List.eq_of_mem_replicate hx]; rfl
theorem cover_l2 (n : Nat) (hn : n ≤ 10) (own : List (List Int)) (h8 : own.length ≤ 8) (ho : Own n own) :
    ∀ d j : Nat, j + d = n → Ev (fun k => amalgamlaw10_PickCover.l2 k true n (upTo j (List.replicate n 2) (List.replicate n 0)) own j) true := by
  intro d
  induction d with
  | zero =>
    intro j hj
    rw [upTo_all j _ _ (by simp; omega) (by simp; omega)]
    have hc := chk_own n hn own h8 ho
    have hml := masksN_length own (List.replicate n 2) (by omega)
    have hs : listS own (List.replicate n 2) 65536 = (masks own (List.replicate n 2), 0) := by
      unfold listS
      rw [if_pos hc, if_neg (by omega), if_neg (by unfold masks; rw [List.length_map]; omega)]
    refine Ev.round (f := fun k => (pick_List.f k own (List.replicate n 2) 65536).bind fun bt => amalgamlaw10_PickCover.j5 k n own bt.1 (bt.2 != 0)) (Ev.then (f := fun k bt => amalgamlaw10_PickCover.j5 k n own bt.1 (bt.2 != 0)) (Ev.cast (pick_list_ev own (List.replicate n 2) 65536) hs) (Ev.round (cover_l3 n hn own h8 ho (masks own (List.replicate n 2)) (by unfold masks; rw [List.length_map]; omega) rfl (2 ^ own.length) 0 [] (by omega) (by simp [masks, masksN])) fun k => ?_)) fun k => ?_
    · simp only [amalgamlaw10_PickCover.j5]
      rw [if_neg (by decide)]; rfl
    · simp only [amalgamlaw10_PickCover.l2]
      rw [if_neg (by omega)]
      simp
  | succ d ih =>
    intro j hj
    refine Ev.round (ih (j + 1) (by omega)) fun k => ?_
    simp only [amalgamlaw10_PickCover.l2]
    have hu := upTo_length j (List.replicate n (2 : Int)) (List.replicate n 0) (by simp)
    rw [List.length_replicate] at hu
    rw [if_pos (by omega), if_pos (by omega), if_pos (by omega), wrap_nat (by omega), Int.toNat_natCast, ← upTo_set j (List.replicate n (2 : Int)) (List.replicate n 0) (by simp; omega) (by simp)]
    simp
theorem cover_l1 (rows : List (List Int)) (n : Nat) (hn : n ≤ 10) (own : List (List Int)) (h8 : own.length < 8) (w0 : List Int) (i : Nat) (hi : i < rows.length) (hi8 : i < 8) (ho : Own n own)
    (nx : ∀ row : List Int, row.length = n → (∀ x ∈ row, 0 ≤ x ∧ x ≤ 1) → Ev (fun k => amalgamlaw10_PickCover.l0 k rows true n w0 (own ++ [row]) ((i + 1 : Nat) : Int)) true) :
    ∀ d j : Nat, ∀ x : List Int, j + d = n → x.length = n → (∀ y ∈ x, 0 ≤ y ∧ y ≤ 1) → Ev (fun k => amalgamlaw10_PickCover.l1 k rows true n w0 own i x j) true := by
  intro d
  induction d with
  | zero =>
    intro j x hj hl hx
    refine Ev.round (nx x hl hx) fun k => ?_
    simp only [amalgamlaw10_PickCover.l1]
    rw [if_neg (by omega), if_pos (by omega), wrap_nat (by omega)]
  | succ d ih =>
    intro j x hj hl hx
    by_cases hr : j < rows[i].length
    · refine Ev.round (ih (j + 1) (x.set j (Go.bits .and .i64 rows[i][j] 1)) (by omega) (by simp [hl]) (fun y hy => ?_)) fun k => ?_
      · rcases List.mem_or_eq_of_mem_set hy with hy | hy
        · exact hx y hy
        · rw [hy]; exact i64_and1 _
      · simp only [amalgamlaw10_PickCover.l1]
        rw [if_pos (by omega), if_pos (by omega), if_pos (by omega), rdL_lt hi, if_pos (by omega), if_pos (by omega), if_pos (by omega), rd_lt hr, wrap_nat (by omega), Int.toNat_natCast]
    · refine Ev.round (nx x hl hx) fun k => ?_
      simp only [amalgamlaw10_PickCover.l1]
      rw [if_pos (by omega), if_pos (by omega), if_pos (by omega), rdL_lt hi, if_neg (by omega), if_pos (by omega), wrap_nat (by omega)]
theorem cover_l0 (rows : List (List Int)) (n : Nat) (hn : n ≤ 10) :
    ∀ d i : Nat, ∀ own : List (List Int), i + d = 8 → own.length = i → Own n own → Ev (fun k => amalgamlaw10_PickCover.l0 k rows true n (List.replicate n 0) own i) true := by
  intro d
  induction d with
  | zero =>
    intro i own hi hl ho
    have h2 := cover_l2 n hn own (by omega) ho n 0 (by omega)
    rw [upTo_zero] at h2
    refine Ev.round (f := fun k => amalgamlaw10_PickCover.j2 k rows true n (List.replicate n 0) own i false) (Ev.round h2 fun k => ?_) fun k => ?_
    · simp only [amalgamlaw10_PickCover.j2]
      rw [if_neg (by simp)]; rfl
    · simp only [amalgamlaw10_PickCover.l0]
      split
      · rw [decide_eq_false (by omega)]
      · rfl
  | succ d ih =>
    intro i own hi hl ho
    by_cases hr : i < rows.length
    · refine Ev.round (f := fun k => amalgamlaw10_PickCover.j2 k rows true n (List.replicate n 0) own i true) (Ev.round (cover_l1 rows n hn own (by omega) (List.replicate n 0) i hr (by omega) ho (fun row h1 h2 => ih (i + 1) (own ++ [row]) (by omega) (by simp; omega) (fun r hr' => ?_)) n 0 (List.replicate n 0) (by omega) (by simp) (fun y hy => ?_)) fun k => ?_) fun k => ?_
      · rcases List.mem_append.1 hr' with h | h
        · exact ho r h
        · rw [List.mem_singleton.1 h]; exact ⟨h1, h2⟩
      · rw [List.eq_of_mem_replicate hy]; decide
      · simp only [amalgamlaw10_PickCover.j2]
        rw [if_pos trivial, if_pos (by omega), if_pos (by omega), Int.toNat_natCast]; rfl
      · simp only [amalgamlaw10_PickCover.l0]
        rw [if_pos (by omega), decide_eq_true (by omega)]
    · have h2 := cover_l2 n hn own (by omega) ho n 0 (by omega)
      rw [upTo_zero] at h2
      refine Ev.round (f := fun k => amalgamlaw10_PickCover.j2 k rows true n (List.replicate n 0) own i false) (Ev.round h2 fun k => ?_) fun k => ?_
      · simp only [amalgamlaw10_PickCover.j2]
        rw [if_neg (by simp)]; rfl
      · simp only [amalgamlaw10_PickCover.l0]
        rw [if_neg (by omega)]
theorem cover_j0 (rows : List (List Int)) (n : Nat) (hn : n ≤ 10) : Ev (fun k => amalgamlaw10_PickCover.j0 k rows true n) true := by
  refine Ev.round (cover_l0 rows n hn 8 0 [] (by omega) rfl (fun row h => by cases h)) fun k => ?_
  simp only [amalgamlaw10_PickCover.j0]
  rw [if_pos (by omega), if_pos (by omega), Int.toNat_natCast]; rfl
theorem cover_ev (rows : List (List Int)) (columns : Int) : Ev (fun k => amalgamlaw10_PickCover.f k rows columns) true := by
  unfold amalgamlaw10_PickCover.f
  refine Ev.then (f := fun k t => if (Int.tmod columns 11) < 0 then (amalgamlaw10_PickCover.j0 k rows t (wrap64 (-(Int.tmod columns 11)))) else (amalgamlaw10_PickCover.j0 k rows t (Int.tmod columns 11))) lives_ev ?_
  have h1 : -11 < Int.tmod columns 11 ∧ Int.tmod columns 11 < 11 := by
    have h := Int.natAbs_tmod columns 11
    have h2 : (Int.tmod columns 11).natAbs < 11 := by rw [h]; exact Nat.mod_lt _ (by decide)
    omega
  by_cases h : Int.tmod columns 11 < 0
  · simp only [if_pos h]
    rw [wrap_id (by omega) (by omega)]
    obtain ⟨n, hn⟩ : ∃ n : Nat, -(Int.tmod columns 11) = (n : Int) := ⟨(-(Int.tmod columns 11)).toNat, by omega⟩
    rw [hn]
    exact cover_j0 rows n (by omega)
  · simp only [if_neg h]
    obtain ⟨n, hn⟩ : ∃ n : Nat, Int.tmod columns 11 = (n : Int) := ⟨(Int.tmod columns 11).toNat, by omega⟩
    rw [hn]
    exact cover_j0 rows n (by omega)
end Go.Proofs.YtbdlihldmmbdmaaDoor.PickCover

namespace Go.Proofs.YtbdlihldmmbdmaaDoor.Range
open Go Go.RowKit
set_option linter.unusedVariables false
variable {F : Fence} {n : Nat} {P : Program} {α : Type}

/-- THE STATEMENT's LAW, at a loop within a round of loop l₀. -/
theorem wp_range_inner {g : Operand} {ps : Array Tmp} {assign body : Code} {Q : Exit → Act → World → Prop} {a : Act} {w : World}
    {l₀ : Nat} {r₀ : Loop} (hro : F.round = some l₀) (hl₀ : w.heap[l₀]? = some (.loop r₀)) (h1 : 1 ≤ n) {gf : Nat} {lb : Array Value} (hg : a.eval g = .func (.func gf) #[] lb) (hFg : F.fn gf) (eg : ∀ args w, (callFunc gf args).run P w = .ok (.enter gf args) w)
    {Kc : Nat → Prop} (hKc : ∀ k, Kc k → k < w.heap.size) {Rep : World → (Nat → Prop) → α → Array Value → Prop}
    (hRep : ∀ {A B : World} {ok : Nat → Prop} {x vs}, Rep A ok x vs → (∀ k, ok k → k < A.heap.size → B.heap[k]? = A.heap[k]?) → Rep B ok x vs)
    (hRs : ∀ {A : World} {ok : Nat → Prop} {x vs}, Rep A ok x vs → vs.size = ps.size)
    {S Sp : List α → Prop} {N : Nat} (hseq : IterC F (n - 1) P gf lb Kc Rep S Sp N w)
    (I : (Nat → Prop) → List α → World → Prop) (Ix : Code → (Nat → Prop) → List α → World → Prop) (hI : Stable I) (hIx : ∀ c, Stable (Ix c)) (h0 : I (fun _ => False) [] w) (a₁ : Array Value → Act)
    (hassign : ∀ (l : Nat) (vs : Array Value) (W : World) (K : Act → World → Prop), vs.size = ps.size → K (a₁ vs) W →
      assign.wpIn (F.inRound l) (n - 1 - 1) P (Exit.then K (fun _ _ _ => False)) { tmps := (ps.zip vs).foldl (fun t (p, v) => t.setIfInBounds p v) a.tmps, defers := [] } W)
    (hbody : ∀ (l : Nat) (O : Nat → Prop) (pre : List α) (x : α) (vs : Array Value) (W0 W1 : World), w.heap.size ≤ l → (∃ r, W1.heap[l]? = some (.loop r)) → (∀ k, O k → w.heap.size ≤ k ∧ k < W0.heap.size) → I O pre W0 → Only O W0 W1 →
      Rep W1 (fun k => W0.heap.size ≤ k) x vs → pre.length < N → body.wpIn (F.inRound l) (n - 1 - 1) P (bodyOut Kc O I Ix (pre ++ [x]) W1) (a₁ vs) W1)
    (hdone : ∀ (O : Nat → Prop) (xs : List α) (W : World), (∀ k, O k → w.heap.size ≤ k) → S xs → I O xs W → Q .normal a W)
    (hstop : ∀ (O : Nat → Prop) (c : Code) (pre : List α) (W : World), (∀ k, O k → w.heap.size ≤ k) → Sp pre → Ix c O pre W → c.wpIn F n P Q a W) :
    (Code.rangeFunc g ps assign body).wpIn F n P Q a w := by
  refine wpIn_rangeFunc ?_
  intro fn hfn
  rw [hro]
  obtain ⟨rec, hrec⟩ : ∃ rec : LoopState → Option Code → Loop, rec = fun st pe => { state := st, pending := pe, fn, tmps := a.tmps, params := ps, assign, body, defers := r₀.defers } := ⟨_, rfl⟩
  obtain ⟨W1, hW1⟩ : ∃ W1, w.alloc (.loop (rec .ready none)) = W1 := ⟨_, rfl⟩
  obtain ⟨B0, hB0⟩ : ∃ B0 : Nat → Prop, B0 = fun k => k = w.heap.size := ⟨_, rfl⟩
  have hs1 : W1.heap.size = w.heap.size + 1 := by rw [← hW1]; simp
  have hL1 : W1.heap[w.heap.size]? = some (.loop (rec .ready none)) := by
    rw [← hW1]; exact World.alloc_heap_new w (.loop (rec .ready none))
  have hb1 : Below w.heap.size w W1 := by
    rw [← hW1]; exact (Below.refl _ w).alloc (Nat.le_refl _) _
  have hI1 : I B0 [] W1 := hI _ B0 [] w W1 h0 (Only.of_below hb1) (fun k e => e.elim) (fun k e => .inr (by rw [hB0] at e; rw [hs1]; omega))
  refine ⟨w.heap.size, [], W1, { target := .fn (.func gf) lb, args := #[.func (.yield (w.heap.size)) #[] #[]] }, W1, gf,
    #[.func (.yield (w.heap.size)) #[] #[]] ++ lb, W1, ?_, ?_, ?_, ?_, fun _ => h1, ?_⟩
  · rw [← hW1, hrec]; exact run_enterLoop_inner hl₀ _ _ _ _ _
  · simp only [resolve, hg]
    simp [go_sem]
  · intro f' hf'; simp [Target.leads] at hf'; subst hf'; exact hFg
  · simp [invoke, go_sem, eg]
  · -- the iterator's contract, at the caller's word with the two blocks of book-keeping beside it
    have hst : ∀ {J : (Nat → Prop) → List α → World → Prop}, Stable J → Stable (fun O pre W => J (fun k => O k ∨ B0 k) pre W) := by
      intro J hJ O O' s A B hj ho hle hnew
      exact hJ _ _ s A B hj (ho.mono (fun k _ e => .inl e)) (fun k e => e.elim (fun e => .inl (hle k e)) .inr) (fun k e => by
        rcases e with e | e
        · rcases hnew k e with h | h
          · exact .inl (.inl h)
          · exact .inr h
        · exact .inl (.inr e))
    refine (hseq (w.heap.size)
      (fun O pre W => (I (fun k => O k ∨ B0 k) pre W ∧ (∀ k, O k → W1.heap.size ≤ k) ∧ W1.heap.size ≤ W.heap.size) ∧ W.heap[w.heap.size]? = some (.loop (rec .ready none)))
      (fun O pre W => (∃ c, Ix c (fun k => O k ∨ B0 k) pre W ∧ W.heap[w.heap.size]? = some (.loop (rec .done (some c)))) ∧ (∀ k, O k → W1.heap.size ≤ k) ∧ W1.heap.size ≤ W.heap.size)
      W1 (Only.of_below hb1) ?_ ?_ ?_ ⟨⟨?_, fun k e => e.elim, Nat.le_refl _⟩, hL1⟩).mono ?_
    · rintro O O' s A B ⟨⟨hj, hO, hsz⟩, hl⟩ ho hle hnew
      have hn : ∀ k, k < W1.heap.size → ¬ O k := fun k hk e => by have := hO k e; omega
      refine ⟨⟨hst hI _ _ s A B hj ho hle hnew, fun k e => ?_, Nat.le_trans hsz ho.size⟩, keeps_of ho (hn _ (by omega)) hl⟩
      rcases hnew k e with h | h
      · exact hO k h
      · omega
    · rintro O O' s A B ⟨⟨c, hj, hl⟩, hO, hsz⟩ ho hle hnew
      have hn : ∀ k, k < W1.heap.size → ¬ O k := fun k hk e => by have := hO k e; omega
      refine ⟨⟨c, hst (hIx c) _ _ s A B hj ho hle hnew, keeps_of ho (hn _ (by omega)) hl⟩, fun k e => ?_, Nat.le_trans hsz ho.size⟩
      rcases hnew k e with h | h
      · exact hO k h
      · omega
    · -- ONE ROUND
      rintro O pre x vs Wa W hOW ⟨⟨hi, hO, hsz⟩, hl⟩ ho hrep hlen
      have hn : ∀ k, k < W1.heap.size → ¬ O k := fun k hk e => by have := hO k e; omega
      replace hl := keeps_of ho (hn _ (by omega)) hl
      have hlt : w.heap.size < W.heap.size := (Array.getElem?_eq_some_iff.1 hl).1
      have hvs := hRs hrep
      have hy := run_yield (P := P) (args := vs) hl (by rw [hrec]; exact hvs)
      rw [hrec] at hy
      refine ⟨fn, _, assign, body, hy, roundIn_of_wpIn hfn (hassign _ vs W _ hvs ⟨_, run_beginRound hl (by rw [hrec]), ?_⟩)⟩
      have hl2 : (W.putObj (w.heap.size) (.loop { rec .ready none with state := .busy })).heap[w.heap.size]? = some (.loop { rec .ready none with state := .busy }) := World.putObj_heap_same hlt
      have hB1 : (fun k => O k ∨ B0 k) (w.heap.size) := .inr (by rw [hB0])
      have ho2 : Only (fun k => O k ∨ B0 k) Wa (W.putObj (w.heap.size) (.loop { rec .ready none with state := .busy })) :=
        (ho.mono (fun k _ e => .inl e)).trans (Only.putObj _ _ _ hB1)
      have hrep2 : Rep (W.putObj (w.heap.size) (.loop { rec .ready none with state := .busy })) (fun k => Wa.heap.size ≤ k) x vs :=
        hRep hrep (fun k hok hlt2 => World.putObj_heap_other (by omega))
      refine wpIn_mono (hbody _ (fun k => O k ∨ B0 k) pre x vs Wa _ (by omega) ⟨_, hl2⟩ (fun k e => ?_) hi ho2 hrep2 hlen) ?_
      · rcases e with e | e
        · have := hOW k e; omega
        · rw [hB0] at e; omega
      have fin : ∀ (jump : Option Code) (W3 : World) (T : Nat → Prop), ¬ T (w.heap.size) → Only T (W.putObj (w.heap.size) (.loop { rec .ready none with state := .busy })) W3 →
          (Instr.endRound (w.heap.size) jump).run P W3 = .ok (.bool jump.isNone) (W3.putObj (w.heap.size) (.loop (rec (if jump.isNone then .ready else .done) jump))) ∧
          W3.heap.size ≤ (W3.putObj (w.heap.size) (.loop (rec (if jump.isNone then .ready else .done) jump))).heap.size ∧ W1.heap.size ≤ W3.heap.size ∧
          (W3.putObj (w.heap.size) (.loop (rec (if jump.isNone then .ready else .done) jump))).heap[w.heap.size]? = some (.loop (rec (if jump.isNone then .ready else .done) jump)) := fun jump W3 T h1 hk3 => by
        have hl3 := keeps_of hk3 h1 hl2
        have := run_endRound (P := P) jump hl3
        rw [hrec] at this ⊢
        refine ⟨this, by simp, ?_, World.putObj_heap_same (Array.getElem?_eq_some_iff.1 hl3).1⟩
        have h4 := hk3.size
        have h5 := ho.size
        simp at h4
        omega
      have hput : ∀ {K : (Nat → Prop) → List α → World → Prop} {s : List α} {W3 : World} (o : Obj), Stable K → K (fun k => O k ∨ B0 k) s W3 → K (fun k => O k ∨ B0 k) s (W3.putObj (w.heap.size) o) :=
        fun o hK hk => hK _ _ _ _ _ hk (Only.putObj _ _ _ hB1) (fun _ e => e) (fun _ e => .inl e)
      have no : ∀ {X : Prop}, ¬ ¬ (X ∨ (O (w.heap.size) ∨ B0 (w.heap.size))) := fun h => h (.inr hB1)
      rintro e a3 W3 hp
      cases e with
      | normal =>
        obtain ⟨hk3, hi3⟩ := hp
        obtain ⟨hr, _, hz, hl4⟩ := fin none W3 _ (fun h => h (.inr hB1)) hk3
        refine ⟨_, _, hr, .inl ⟨rfl, ⟨⟨hput _ hI hi3, hO, by simpa using hz⟩, hl4⟩, ?_⟩⟩
        have q1 : Only (fun k => ¬ (Kc k ∨ O k)) W (W.putObj (w.heap.size) (.loop { rec .ready none with state := .busy })) :=
          Only.putObj _ _ _ (fun h => by
            rcases h with h | h
            · have := hKc _ h; omega
            · exact hn _ (by omega) h)
        have q3 : Only (fun k => ¬ (Kc k ∨ O k)) W3 (W3.putObj (w.heap.size) (.loop (rec .ready none))) :=
          Only.putObj _ _ _ (fun h => by
            rcases h with h | h
            · have := hKc _ h; omega
            · exact hn _ (by omega) h)
        exact (q1.trans (hk3.mono (fun k _ e h => e (h.imp id .inl)))).trans q3
      | ret =>
        obtain ⟨hk3, hi3⟩ := hp
        obtain ⟨hr, _, hz, hl4⟩ := fin (some .ret) W3 _ (fun h => h hB1) hk3
        exact ⟨_, _, hr, .inr ⟨rfl, ⟨.ret, hput _ (hIx _) hi3, hl4⟩, hO, by simpa using hz⟩⟩
      | exit id =>
        obtain ⟨hk3, hi3⟩ := hp
        obtain ⟨hr, _, hz, hl4⟩ := fin (some (.exit id)) W3 _ (fun h => h hB1) hk3
        exact ⟨_, _, hr, .inr ⟨rfl, ⟨.exit id, hput _ (hIx _) hi3, hl4⟩, hO, by simpa using hz⟩⟩
      | goto t =>
        obtain ⟨hk3, hi3⟩ := hp
        obtain ⟨hr, _, hz, hl4⟩ := fin (some (.goto t)) W3 _ (fun h => h hB1) hk3
        exact ⟨_, _, hr, .inr ⟨rfl, ⟨.goto t, hput _ (hIx _) hi3, hl4⟩, hO, by simpa using hz⟩⟩
      | panic ch => exact hp.elim
      | outgrown => exact hp.elim
    · exact hI _ _ _ _ _ hI1 (Only.refl _ _) (fun k e => .inr e) (fun k e => e.elim (fun e => e.elim) .inl)
    · -- BEHIND THE ITERATOR
      rintro e W2 ⟨⟨v, rfl⟩, O, hOW, (⟨xs, hS, ⟨hi, hO, hsz⟩, hl⟩ | ⟨pre, hSp, ⟨c, hi, hl⟩, hO, hsz⟩)⟩
      · have hB1 : (fun k => O k ∨ B0 k) (w.heap.size) := .inr (by rw [hB0])
        refine ⟨none, _, by have := run_endLoop (P := P) hl (by rw [hrec]; simp); rw [hrec] at this; exact this, hdone _ xs _ ?_ hS (hI _ _ _ _ _ hi (Only.putObj _ _ _ hB1) (fun _ e => e) (fun _ e => .inl e))⟩
        rintro k (e | e)
        · have := hO k e; omega
        · rw [hB0] at e; omega
      · have hB1 : (fun k => O k ∨ B0 k) (w.heap.size) := .inr (by rw [hB0])
        refine ⟨some c, _, by have := run_endLoop (P := P) hl (by rw [hrec]; simp); rw [hrec] at this; exact this, hstop _ c pre _ ?_ hSp ((hIx c) _ _ _ _ _ hi (Only.putObj _ _ _ hB1) (fun _ e => e) (fun _ e => .inl e))⟩
        rintro k (e | e)
        · have := hO k e; omega
        · rw [hB0] at e; omega
/-- The law where one value is yielded: what the loop's variables then hold is a function of it. -/
theorem wp_range1 {g : Operand} {p : Tmp} {assign body : Code} {Q : Exit → Act → World → Prop} {a : Act} {w : World}
    (hro : F.round = none) (h1 : 1 ≤ n) {gf : Nat} {lb : Array Value} (hg : a.eval g = .func (.func gf) #[] lb) (hFg : F.fn gf) (eg : ∀ args w, (callFunc gf args).run P w = .ok (.enter gf args) w)
    {Kc : Nat → Prop} (hKc : ∀ k, Kc k → k < w.heap.size) {Rep : World → (Nat → Prop) → α → Array Value → Prop}
    (hRep : ∀ {A B : World} {ok : Nat → Prop} {x vs}, Rep A ok x vs → (∀ k, ok k → k < A.heap.size → B.heap[k]? = A.heap[k]?) → Rep B ok x vs)
    (hRs : ∀ {A : World} {ok : Nat → Prop} {x vs}, Rep A ok x vs → vs.size = 1)
    {S Sp : List α → Prop} {N : Nat} (hseq : IterC F (n - 1) P gf lb Kc Rep S Sp N w)
    (I : (Nat → Prop) → List α → World → Prop) (Ix : Code → (Nat → Prop) → List α → World → Prop) (hI : Stable I) (hIx : ∀ c, Stable (Ix c)) (h0 : I (fun _ => False) [] w) (a₁ : Value → Act)
    (hassign : ∀ (l : Nat) (v : Value) (W : World) (K : Act → World → Prop), K (a₁ v) W →
      assign.wpIn (F.inRound l) (n - 1 - 1) P (Exit.then K (fun _ _ _ => False)) { tmps := a.tmps.setIfInBounds p v, defers := [] } W)
    (hbody : ∀ (l : Nat) (O : Nat → Prop) (pre : List α) (x : α) (v : Value) (W0 W1 : World), w.heap.size ≤ l → (∃ r, W1.heap[l]? = some (.loop r)) → (∀ k, O k → w.heap.size ≤ k ∧ k < W0.heap.size) → I O pre W0 → Only O W0 W1 →
      Rep W1 (fun k => W0.heap.size ≤ k) x #[v] → pre.length < N → body.wpIn (F.inRound l) (n - 1 - 1) P (bodyOut Kc O I Ix (pre ++ [x]) W1) (a₁ v) W1)
    (hdone : ∀ (D : Nat) (O : Nat → Prop) (xs : List α) (W : World), w.heap.size ≤ D → S xs → I O xs W → W.heap[D]? = some (.deferred (some [])) → O D → Q .normal { a with defers := { target := .collected D, args := #[] } :: a.defers } W)
    (hstop : ∀ (D : Nat) (O : Nat → Prop) (c : Code) (pre : List α) (W : World), w.heap.size ≤ D → Sp pre → Ix c O pre W → W.heap[D]? = some (.deferred (some [])) → O D → c.wpIn F n P Q { a with defers := { target := .collected D, args := #[] } :: a.defers } W) :
    (Code.rangeFunc g #[p] assign body).wpIn F n P Q a w := by
  refine wp_range (Rep := Rep) hro h1 hg hFg eg hKc (fun h k => hRep h k) (fun h => hRs h) hseq I Ix hI hIx h0 (fun vs => a₁ (vs.getD 0 undef)) ?_ ?_ hdone hstop
  · intro l vs W K hvs hK
    obtain ⟨v, rfl⟩ := Array.size_eq_one_iff.1 hvs
    have h := hassign l v W K hK
    simpa [Array.zip] using h
  · intro l O pre x vs W0 W1 b1 b2 b3 b4 b5 b6 b7
    obtain ⟨v, rfl⟩ := Array.size_eq_one_iff.1 (hRs b6)
    exact hbody l O pre x v W0 W1 b1 b2 b3 b4 b5 b6 b7
theorem wp_range_inner1 {g : Operand} {p : Tmp} {assign body : Code} {Q : Exit → Act → World → Prop} {a : Act} {w : World}
    {l₀ : Nat} {r₀ : Loop} (hro : F.round = some l₀) (hl₀ : w.heap[l₀]? = some (.loop r₀)) (h1 : 1 ≤ n) {gf : Nat} {lb : Array Value} (hg : a.eval g = .func (.func gf) #[] lb) (hFg : F.fn gf) (eg : ∀ args w, (callFunc gf args).run P w = .ok (.enter gf args) w)
    {Kc : Nat → Prop} (hKc : ∀ k, Kc k → k < w.heap.size) {Rep : World → (Nat → Prop) → α → Array Value → Prop}
    (hRep : ∀ {A B : World} {ok : Nat → Prop} {x vs}, Rep A ok x vs → (∀ k, ok k → k < A.heap.size → B.heap[k]? = A.heap[k]?) → Rep B ok x vs)
    (hRs : ∀ {A : World} {ok : Nat → Prop} {x vs}, Rep A ok x vs → vs.size = 1)
    {S Sp : List α → Prop} {N : Nat} (hseq : IterC F (n - 1) P gf lb Kc Rep S Sp N w)
    (I : (Nat → Prop) → List α → World → Prop) (Ix : Code → (Nat → Prop) → List α → World → Prop) (hI : Stable I) (hIx : ∀ c, Stable (Ix c)) (h0 : I (fun _ => False) [] w) (a₁ : Value → Act)
    (hassign : ∀ (l : Nat) (v : Value) (W : World) (K : Act → World → Prop), K (a₁ v) W →
      assign.wpIn (F.inRound l) (n - 1 - 1) P (Exit.then K (fun _ _ _ => False)) { tmps := a.tmps.setIfInBounds p v, defers := [] } W)
    (hbody : ∀ (l : Nat) (O : Nat → Prop) (pre : List α) (x : α) (v : Value) (W0 W1 : World), w.heap.size ≤ l → (∃ r, W1.heap[l]? = some (.loop r)) → (∀ k, O k → w.heap.size ≤ k ∧ k < W0.heap.size) → I O pre W0 → Only O W0 W1 →
      Rep W1 (fun k => W0.heap.size ≤ k) x #[v] → pre.length < N → body.wpIn (F.inRound l) (n - 1 - 1) P (bodyOut Kc O I Ix (pre ++ [x]) W1) (a₁ v) W1)
    (hdone : ∀ (O : Nat → Prop) (xs : List α) (W : World), (∀ k, O k → w.heap.size ≤ k) → S xs → I O xs W → Q .normal a W)
    (hstop : ∀ (O : Nat → Prop) (c : Code) (pre : List α) (W : World), (∀ k, O k → w.heap.size ≤ k) → Sp pre → Ix c O pre W → c.wpIn F n P Q a W) :
    (Code.rangeFunc g #[p] assign body).wpIn F n P Q a w := by
  refine wp_range_inner (Rep := Rep) hro hl₀ h1 hg hFg eg hKc (fun h k => hRep h k) (fun h => hRs h) hseq I Ix hI hIx h0 (fun vs => a₁ (vs.getD 0 undef)) ?_ ?_ hdone hstop
  · intro l vs W K hvs hK
    obtain ⟨v, rfl⟩ := Array.size_eq_one_iff.1 hvs
    have h := hassign l v W K hK
    simpa [Array.zip] using h
  · intro l O pre x vs W0 W1 b1 b2 b3 b4 b5 b6 b7
    obtain ⟨v, rfl⟩ := Array.size_eq_one_iff.1 (hRs b6)
    exact hbody l O pre x v W0 W1 b1 b2 b3 b4 b5 b6 b7
theorem assign_wpIn {id : Nat} {d p : Tmp} {ty : TypeId} {pos : String} {Q : Exit → Act → World → Prop} {tm : Array Value} {v : Value} {W : World} {K : Act → World → Prop} (hp : p < tm.size) (hK : K ⟨(tm.setIfInBounds p v).setIfInBounds d v, []⟩ W) (hQ : ∀ a w, K a w → Q .normal a w) :
    (Code.region id #[{ dst := some d, op := Op.assign (Operand.tmp p), type := ty, pos := pos, after := #[], guard := none }] false).wpIn F n P Q ⟨tm.setIfInBounds p v, []⟩ W := by
  have he : Act.eval ⟨tm.setIfInBounds p v, []⟩ (Operand.tmp p) = v := by simp [Act.eval, hp]
  refine wpIn_region_lit (l := [_]) ?_
  refine wpListIn_plain rfl fun K' hK' => ?_
  unfold Oper.wpIn
  refine ⟨by simp [Oper.about], ?_⟩
  rw [Oper.semAt_plain F _ _ (by intro c hc'; cases hc')]
  simp [execOp, he]
  exact hK' _ _ (wpListIn_nil (hQ _ _ hK))
/-- .. and laid into the loop's variable. -/
theorem wp_range_set {g : Operand} {p d : Tmp} {id : Nat} {ty : TypeId} {pos : String} {body : Code} {Q : Exit → Act → World → Prop} {a : Act} {w : World}
    (hro : F.round = none) (h1 : 1 ≤ n) {gf : Nat} {lb : Array Value} (hg : a.eval g = .func (.func gf) #[] lb) (hFg : F.fn gf) (eg : ∀ args w, (callFunc gf args).run P w = .ok (.enter gf args) w)
    {Kc : Nat → Prop} (hKc : ∀ k, Kc k → k < w.heap.size) {Rep : World → (Nat → Prop) → α → Array Value → Prop}
    (hRep : ∀ {A B : World} {ok : Nat → Prop} {x vs}, Rep A ok x vs → (∀ k, ok k → k < A.heap.size → B.heap[k]? = A.heap[k]?) → Rep B ok x vs)
    (hRs : ∀ {A : World} {ok : Nat → Prop} {x vs}, Rep A ok x vs → vs.size = 1)
    {S Sp : List α → Prop} {N : Nat} (hseq : IterC F (n - 1) P gf lb Kc Rep S Sp N w)
    (I : (Nat → Prop) → List α → World → Prop) (Ix : Code → (Nat → Prop) → List α → World → Prop) (hI : Stable I) (hIx : ∀ c, Stable (Ix c)) (h0 : I (fun _ => False) [] w) (hp : p < a.tmps.size)
    (hbody : ∀ (l : Nat) (O : Nat → Prop) (pre : List α) (x : α) (v : Value) (W0 W1 : World), w.heap.size ≤ l → (∃ r, W1.heap[l]? = some (.loop r)) → (∀ k, O k → w.heap.size ≤ k ∧ k < W0.heap.size) → I O pre W0 → Only O W0 W1 →
      Rep W1 (fun k => W0.heap.size ≤ k) x #[v] → pre.length < N → body.wpIn (F.inRound l) (n - 1 - 1) P (bodyOut Kc O I Ix (pre ++ [x]) W1) ⟨(a.tmps.setIfInBounds p v).setIfInBounds d v, []⟩ W1)
    (hdone : ∀ (D : Nat) (O : Nat → Prop) (xs : List α) (W : World), w.heap.size ≤ D → S xs → I O xs W → W.heap[D]? = some (.deferred (some [])) → O D → Q .normal { a with defers := { target := .collected D, args := #[] } :: a.defers } W)
    (hstop : ∀ (D : Nat) (O : Nat → Prop) (c : Code) (pre : List α) (W : World), w.heap.size ≤ D → Sp pre → Ix c O pre W → W.heap[D]? = some (.deferred (some [])) → O D → c.wpIn F n P Q { a with defers := { target := .collected D, args := #[] } :: a.defers } W) :
    (Code.rangeFunc g #[p] (Code.region id #[{ dst := some d, op := Op.assign (Operand.tmp p), type := ty, pos := pos, after := #[], guard := none }] false) body).wpIn F n P Q a w :=
  wp_range1 (Rep := Rep) hro h1 hg hFg eg hKc (fun h k => hRep h k) (fun h => hRs h) hseq I Ix hI hIx h0 (fun v => ⟨(a.tmps.setIfInBounds p v).setIfInBounds d v, []⟩) (fun l v W K hK => assign_wpIn hp hK (fun _ _ h => h)) hbody hdone hstop
theorem wp_range_inner_skip {g : Operand} {p : Tmp} {body : Code} {Q : Exit → Act → World → Prop} {a : Act} {w : World}
    {l₀ : Nat} {r₀ : Loop} (hro : F.round = some l₀) (hl₀ : w.heap[l₀]? = some (.loop r₀)) (h1 : 1 ≤ n) {gf : Nat} {lb : Array Value} (hg : a.eval g = .func (.func gf) #[] lb) (hFg : F.fn gf) (eg : ∀ args w, (callFunc gf args).run P w = .ok (.enter gf args) w)
    {Kc : Nat → Prop} (hKc : ∀ k, Kc k → k < w.heap.size) {Rep : World → (Nat → Prop) → α → Array Value → Prop}
    (hRep : ∀ {A B : World} {ok : Nat → Prop} {x vs}, Rep A ok x vs → (∀ k, ok k → k < A.heap.size → B.heap[k]? = A.heap[k]?) → Rep B ok x vs)
    (hRs : ∀ {A : World} {ok : Nat → Prop} {x vs}, Rep A ok x vs → vs.size = 1)
    {S Sp : List α → Prop} {N : Nat} (hseq : IterC F (n - 1) P gf lb Kc Rep S Sp N w)
    (I : (Nat → Prop) → List α → World → Prop) (Ix : Code → (Nat → Prop) → List α → World → Prop) (hI : Stable I) (hIx : ∀ c, Stable (Ix c)) (h0 : I (fun _ => False) [] w) 
    (hbody : ∀ (l : Nat) (O : Nat → Prop) (pre : List α) (x : α) (v : Value) (W0 W1 : World), w.heap.size ≤ l → (∃ r, W1.heap[l]? = some (.loop r)) → (∀ k, O k → w.heap.size ≤ k ∧ k < W0.heap.size) → I O pre W0 → Only O W0 W1 →
      Rep W1 (fun k => W0.heap.size ≤ k) x #[v] → pre.length < N → body.wpIn (F.inRound l) (n - 1 - 1) P (bodyOut Kc O I Ix (pre ++ [x]) W1) ⟨a.tmps.setIfInBounds p v, []⟩ W1)
    (hdone : ∀ (O : Nat → Prop) (xs : List α) (W : World), (∀ k, O k → w.heap.size ≤ k) → S xs → I O xs W → Q .normal a W)
    (hstop : ∀ (O : Nat → Prop) (c : Code) (pre : List α) (W : World), (∀ k, O k → w.heap.size ≤ k) → Sp pre → Ix c O pre W → c.wpIn F n P Q a W) :
    (Code.rangeFunc g #[p] Code.skip body).wpIn F n P Q a w :=
  wp_range_inner1 (Rep := Rep) hro hl₀ h1 hg hFg eg hKc (fun h k => hRep h k) (fun h => hRs h) hseq I Ix hI hIx h0 (fun v => ⟨a.tmps.setIfInBounds p v, []⟩) (fun l v W K hK => wpIn_skip hK) hbody hdone hstop
/-- A function that ranged several times leaves: each block of deferred calls is taken. -/
theorem leaves_marks {fn : Func} {tmps : Array Value} {R : Ending → World → Prop} : ∀ (Ds : List Nat) (W : World), Ds.Nodup → (∀ D ∈ Ds, W.heap[D]? = some (.deferred (some []))) →
    (∀ W', Only (fun k => k ∈ Ds) W W' → LeavesInM F n P fn tmps R [] .returning W') → LeavesInM F n P fn tmps R (Ds.map fun D => { target := .collected D, args := #[] }) .returning W := by
  intro Ds
  induction Ds with
  | nil => intro W _ _ h; exact h W (Only.refl _ _)
  | cons D Ds ih =>
    intro W hnd hk h
    refine ⟨by simp, .inl ⟨D, _, rfl, run_takeDeferred (hk D (List.mem_cons_self ..)), ?_⟩⟩
    have hO : Only (fun k => k = D) W (W.putObj D (.deferred none)) := Only.putObj _ _ _ rfl
    have hnd2 := List.nodup_cons.1 hnd
    refine ih _ hnd2.2 (fun D' hD' => keeps_of hO (fun e => hnd2.1 (e ▸ hD')) (hk D' (List.mem_cons_of_mem _ hD'))) (fun W' hO' => h W' ((hO.mono (fun k _ e => ?_)).trans (hO'.mono (fun k _ e => List.mem_cons_of_mem _ e))))
    rw [e]; exact List.mem_cons_self ..
end Go.Proofs.YtbdlihldmmbdmaaDoor.Range

namespace Go.Proofs.YtbdlihldmmbdmaaDoor.WordsIn
open Go.RowKit Go.Proofs.YtbdlihldmmbdmaaDoorW.PrintWords Go.Proofs.YtbdlihldmmbdmaaDoor.Range
set_option linter.unusedVariables false

theorem run_append_ints {P : Program} (W : World) (base : Nat) (t ty e : TypeId) (k : IntKind) (bytes : Nat) (ht : P.underlying t = some (.slice e)) (hinfo : (P.info? e).map (fun i => (i.zero, i.size, i.bytes)) = some (some (.int k 0), 1, bytes)) (hb0 : 0 < bytes)
    (v : Value) (xs ys : List Int) (A : Option Addr) (m c : Nat) (HO : W.ownsRow base e 1 v xs.length (nums k xs)) (HR : ReadsInt W k A m ys) (hbase : base ≤ W.heap.size) (hl : (xs.length + m) * bytes ≤ 140737488355328) :
    ∃ v1 w1, (Builtin.append_ #[t, t] ty #[v, .slice A m c]).run P W = .ok v1 w1 ∧ w1.ownsRow base e 1 v1 (xs ++ ys).length (nums k (xs ++ ys)) ∧ W.grownBy w1 v.ownBlock ∧ (v1.ownBlock = v.ownBlock ∨ v1.ownBlock = some W.heap.size) := by
  obtain ⟨i0, hi, hzz⟩ := Option.map_eq_some_iff.1 hinfo
  simp only [Prod.mk.injEq] at hzz
  obtain ⟨hz0, hz1, hz2⟩ := hzz
  have hm : ys.length = m := HR.1
  have hlen : xs.length + m ≤ 140737488355328 := Nat.le_trans (Nat.le_mul_of_pos_right _ hb0) hl
  cases A with
  | none =>
    have h0 : m = 0 := Nat.eq_zero_of_not_pos (fun h0 => by obtain ⟨ad, h, _⟩ := HR.2.2 h0; cases h)
    subst h0
    obtain rfl : ys = [] := List.eq_nil_of_length_eq_zero hm
    refine ⟨v, W, ?_, by simpa using HO, World.grownBy.refl W _, .inl rfl⟩
    rcases HO.2 with ⟨rfl, hn⟩ | ⟨g, cap, cur, rfl, _, _, hnc, _⟩
    · simp [Builtin.append_, run_underlying ht, sizeOf, typeInfo, hi, Builtin.lenOf, Builtin.firstCells]
    · simp [Builtin.append_, run_underlying ht, sizeOf, typeInfo, hi, Builtin.lenOf, Builtin.firstCells, hnc, storeCells]
  | some ad =>
    have hcells : ∀ j u, (nums k ys)[j]? = some u → W.cell? (ad.add j) = some u := by
      intro j u hu
      have hj : j < ys.length := by
        rcases Nat.lt_or_ge j ys.length with h | h
        · exact h
        · simp [nums, List.getElem?_eq_none h] at hu
      obtain ⟨ad', h', hc⟩ := HR.2.2 (by omega)
      cases h'
      have := hc j (by omega)
      simp [nums, List.getElem?_eq_getElem hj] at hu
      subst hu
      rw [this]
      simp [List.getD_eq_getElem?_getD, List.getElem?_eq_getElem hj]
    obtain ⟨v1, w1, hr, h2, h3, _, h5⟩ := run_append_own_at (P := P) W base t ty e i0 (.int k 0) 1 bytes ht hi hz0 hz1 hz2 rfl (by omega) v xs.length (nums k xs) HO ad m c (nums k ys) (by simp [nums, hm]) hcells
      (by intro u hu; simp only [nums, List.mem_map] at hu; obtain ⟨q, _, rfl⟩ := hu; rfl) (by simp only [maxLen]; omega) hl hbase
    exact ⟨v1, w1, hr, by rw [nums_append, List.length_append, hm]; exact h2, h3, h5⟩
variable {F : Fence} {nF : Nat} {P : Program} {ops : Array Oper} {rest : List Oper} {o : Oper} {a : Act} {Q : Exit → Act → World → Prop}
theorem append_row_in {W : World} (base : Nat) (hgd : o.guard = none) (s x : Operand) (t e : TypeId) (k : IntKind) (bytes : Nat)
    (ho : o.op = .call { callee := .builtin .append, args := #[s, x], argTypes := #[t, t] })
    (ht : P.underlying t = some (.slice e)) (hinfo : (P.info? e).map (fun i => (i.zero, i.size, i.bytes)) = some (some (.int k 0), 1, bytes)) (hb0 : 0 < bytes)
    (v : Value) (xs ys : List Int) (A : Option Addr) (m c : Nat) (hs : a.eval s = v) (hx : a.eval x = .slice A m c)
    (HO : W.ownsRow base e 1 v xs.length (nums k xs)) (HR : ReadsInt W k A m ys) (hbase : base ≤ W.heap.size) (hl : (xs.length + m) * bytes ≤ 140737488355328)
    (h : ∀ v1 w1, w1.ownsRow base e 1 v1 (xs ++ ys).length (nums k (xs ++ ys)) → W.grownBy w1 v.ownBlock → (v1.ownBlock = v.ownBlock ∨ v1.ownBlock = some W.heap.size) → wpListIn F nF P ops Q rest (a.put o.dst v1) w1) :
    wpListIn F nF P ops Q (o :: rest) a W := by
  refine wpListIn_plain hgd fun K hK => ?_
  obtain ⟨v', w', hr, h2, h3, h5⟩ := run_append_ints (P := P) W base t o.type e k bytes ht hinfo hb0 v xs ys A m c HO HR hbase hl
  unfold Oper.wpIn
  refine ⟨by simp [Oper.about, ho, resolve, Target.leads, Sem.run_pure], ?_⟩
  rw [Oper.semAt_plain F _ _ (by rw [ho]; intro c hc'; cases hc')]
  simp [execOp, ho, resolve, invoke, builtin, hs, hx, hr, Result.andThen]
  exact hK _ _ (h v' w' h2 h3 h5)
end Go.Proofs.YtbdlihldmmbdmaaDoor.WordsIn

namespace Go.Proofs.YtbdlihldmmbdmaaDoor.PickLists
open Go.RowKit Go.Proofs.YtbdlihldmmbdmaaDoor.SK Go.Proofs.YtbdlihldmmbdmaaDoorW.PrintWords Go.Proofs.YtbdlihldmmbdmaaDoorW.PrintMore Go.Proofs.YtbdlihldmmbdmaaDoor.Bits Go.Proofs.YtbdlihldmmbdmaaDoor.Plain Go.Proofs.YtbdlihldmmbdmaaDoor.PickSpec Go.Proofs.YtbdlihldmmbdmaaDoor.Full Go.Proofs.YtbdlihldmmbdmaaDoor.Range Go.Proofs.YtbdlihldmmbdmaaDoor.Spoil Go.Proofs.YtbdlihldmmbdmaaDoor.Lent
attribute [local go_sem] Oper.semAt_some
set_option linter.unusedVariables false

theorem same32_l0 (xs : List Int) (hn : xs.length ≤ 9223372036854775807) : ∀ d i : Nat, i + d = xs.length → Ev (fun k => amalgamref10_Same.l0 k xs xs (i : Int)) true := by
  intro d
  induction d with
  | zero =>
    intro i hi
    refine Ev.round (Ev.now _) fun k => ?_
    simp only [amalgamref10_Same.l0]
    rw [if_neg (by omega)]
  | succ d ih =>
    intro i hi
    refine Ev.round (ih (i + 1) (by omega)) fun k => ?_
    simp only [amalgamref10_Same.l0]
    rw [if_pos (by omega), if_pos (by omega), if_pos (by omega), if_pos trivial, wrap_nat (by omega)]
theorem same32_ev (xs : List Int) (hn : xs.length ≤ 9223372036854775807) : Ev (fun k => amalgamref10_Same.f k xs xs) true := by
  refine Ev.congr (f := fun k => amalgamref10_Same.l0 k xs xs 0) (fun k => ?_) (same32_l0 xs hn xs.length 0 (by omega))
  unfold amalgamref10_Same.f
  rw [if_pos rfl]
def allS (rows : List (List Int)) (want : List Int) : List Nat := if chk rows want = 0 then masksN rows want else []
theorem allS_length (rows : List (List Int)) (want : List Int) : (allS rows want).length ≤ 65536 := by
  unfold allS
  by_cases hc : chk rows want = 0
  · rw [if_pos hc]; exact masksN_length rows want (chk_zero hc).1
  · rw [if_neg hc]; simp
theorem all_any_ev (rows : List (List Int)) (want : List Int) : Ev (fun k => amalgamref10_All.f k rows want 65536) ((allS rows want).map fun m : Nat => (m : Int)) := by
  unfold allS
  by_cases hc : chk rows want = 0
  · rw [if_pos hc]; exact all_ev rows want hc
  · rw [if_neg hc]
    unfold amalgamref10_All.f
    refine Ev.then (check_ev rows want) ?_
    simp only [hc, if_false]
    exact Ev.now _
theorem IterC.imp {F : Fence} {n : Nat} {P : Program} {α : Type} {g : Nat} {lb : Array Value} {Kc : Nat → Prop} {Rep : World → (Nat → Prop) → α → Array Value → Prop} {S Sp S' Sp' : List α → Prop} {N : Nat} {w : World}
    (h : IterC F n P g lb Kc Rep S Sp N w) (h1 : ∀ xs, S xs → S' xs) (h2 : ∀ xs, Sp xs → Sp' xs) : IterC F n P g lb Kc Rep S' Sp' N w := by
  intro l J Jx W hW hJ hJx hY h0
  refine (h l J Jx W hW hJ hJx hY h0).mono ?_
  rintro e W' ⟨hv, O, hO, (⟨xs, hs, hj⟩ | ⟨pre, hs, hj⟩)⟩
  · exact ⟨hv, O, hO, .inl ⟨xs, h1 _ hs, hj⟩⟩
  · exact ⟨hv, O, hO, .inr ⟨pre, h2 _ hs, hj⟩⟩
/-- All's iterator, whether the rows may be or not. -/
theorem iter_any (n : Nat) (rows : List (List Int)) (want : List Int) (bo br bw base top : Nat) (w : World) (hbo : w.cell? ⟨bo, 0, none⟩ = some (.bool (chk rows want == 0))) (hb : base ≤ bo ∧ bo < top) (ht : top ≤ w.heap.size) (htab : 0 < w.heap.size)
    (hH : chk rows want = 0 → ∃ A0 c0 A1 c1, PickWalker.Held rows want br bw base (fun k => k = 0 ∨ (base ≤ k ∧ k < top)) A0 c0 A1 c1 w) :
    IterC Fence.wide n Tryd.prog 29 #[.pointer (some ⟨bo, 0, none⟩), .pointer (some ⟨br, 0, none⟩), .pointer (some ⟨bw, 0, none⟩)] (fun k => k = 0 ∨ (base ≤ k ∧ k < top)) PickIter.RepM (fun xs => xs = allS rows want) (fun pre => ∃ rest, allS rows want = pre ++ rest) ((allS rows want).length) w := by
  by_cases hc : chk rows want = 0
  · obtain ⟨A0, c0, A1, c1, H⟩ := hH hc
    have h := PickIter.iter_ok n rows want bo br bw base _ A0 c0 A1 c1 w H (by rw [hbo, hc]; rfl) (.inr hb) (fun k hk => by omega)
    rw [show allS rows want = masksN rows want by unfold allS; rw [if_pos hc]]
    exact h
  · have h := PickIter.iter_no n bo br bw (fun k => k = 0 ∨ (base ≤ k ∧ k < top)) w (by rw [hbo]; congr 2; simpa using hc) (.inr hb)
    rw [show allS rows want = [] by unfold allS; rw [if_neg hc]]
    exact IterC.imp h (fun xs e => e) (fun pre e => ⟨[], by rw [e]; rfl⟩)

def IntsAt (W : World) (b n : Nat) : Prop := ∃ cur : Array Value, W.heap[b]? = some (.cells cur 3 (0, 0)) ∧ ∀ j, j < n → ∃ z, cur[j]? = some (.int .i64 z)
theorem IntsAt.set {W : World} {b n : Nat} (h : IntsAt W b n) (i : Nat) (z : Int) : IntsAt (W.setCell ⟨b, i, none⟩ (.int .i64 z)) b n := by
  obtain ⟨cur, h1, h2⟩ := h
  refine ⟨_, heap_setCell_same W b i cur _ _ h1, fun j hj => ?_⟩
  obtain ⟨y, hy⟩ := h2 j hj
  by_cases hji : j = i
  · subst hji
    exact ⟨z, by have := (Array.getElem?_eq_some_iff.1 hy).1; simp [this]⟩
  · exact ⟨y, by rw [Array.getElem?_setIfInBounds_ne (fun e => hji e.symm)]; exact hy⟩
theorem IntsAt.of_R {W : World} {base b n cap : Nat} {xs : List Int} {ok : Nat → Prop} (h : (Kd.int .i64).R 3 W base ok (.slice (some ⟨b, 0, none⟩) n cap) xs) : IntsAt W b xs.length := by
  rcases (Kd.own_of_R h).2 with ⟨h1, _⟩ | ⟨g, cap', cur, h1, _, h3, h4, h5, h6, h7⟩
  · cases h1
  · cases h1
    refine ⟨cur, h3, fun j hj => ?_⟩
    have hl := congrArg (fun l : List Value => l[j]?) h7
    simp only [encs, Nat.mul_one, List.getElem?_map] at hl
    rw [List.getElem?_take_of_lt hj, List.getElem?_eq_getElem hj] at hl
    exact ⟨xs[j], by simpa using hl⟩

/-- Between two rounds of a turn's range: nothing that was there when the turn began has changed; n's box, the last of those, counts the rounds. -/
structure RB (W0 : World) (pre : List Nat) (O : Nat → Prop) (W : World) : Prop where
  B : Below W0.heap.size W0 W
  cN : W.cell? ⟨W0.heap.size, 0, none⟩ = some (.int .i64 (pre.length : Int))
  fN : W.frozen? ⟨W0.heap.size, 0, none⟩ = false
  OH : ∀ k, O k → W0.heap.size < k
  sz : W0.heap.size < W.heap.size
theorem RB.move {W0 : World} {pre : List Nat} {O O' : Nat → Prop} {A B : World} (h : RB W0 pre O A) (ho : Only (fun k => W0.heap.size < k) A B) (hO' : ∀ k, O' k → W0.heap.size < k) : RB W0 pre O' B :=
  ⟨h.B.trans (ho.below h.B.size (fun k e => by omega)), cell_keep ho (fun e => absurd e (Nat.lt_irrefl _)) h.cN, PickList.froz_only ho (fun e => absurd e (Nat.lt_irrefl _)) h.cN h.fN, hO', Nat.lt_of_lt_of_le h.sz ho.size⟩
theorem RB.inc {W0 : World} {pre : List Nat} {O : Nat → Prop} {W : World} (h : RB W0 pre O W) (x : Nat) : RB W0 (pre ++ [x]) O (W.setCell ⟨W0.heap.size, 0, none⟩ (.int .i64 ((pre.length : Int) + 1))) ∧ Only (fun k => k = W0.heap.size) W (W.setCell ⟨W0.heap.size, 0, none⟩ (.int .i64 ((pre.length : Int) + 1))) := by
  have ho : Only (fun k => k = W0.heap.size) W (W.setCell ⟨W0.heap.size, 0, none⟩ (.int .i64 ((pre.length : Int) + 1))) := (Only.refl _ _).setCell _ _ (.inl rfl)
  refine ⟨⟨h.B.setCell (p := ⟨W0.heap.size, 0, none⟩) (Nat.le_refl _) _, ?_, ?_, h.OH, Nat.lt_of_lt_of_le h.sz ho.size⟩, ho⟩
  · rw [World.cell?_setCell_same' _ _ _ (by rw [h.cN]; rfl)]; simp
  · rw [← h.fN]; exact World.frozen?_setCell _ _ _ _
theorem RB.stable (W0 : World) : Stable (fun O pre W => RB W0 pre O W) := by
  intro O O' s A B h ho hle hnew
  refine h.move (ho.mono (fun k _ e => h.OH k e)) (fun k e => ?_)
  rcases hnew k e with h1 | h1
  · exact h.OH k h1
  · have := h.sz; omega
theorem IterC.later {F : Fence} {n : Nat} {P : Program} {α : Type} {g : Nat} {lb : Array Value} {Kc : Nat → Prop} {Rep : World → (Nat → Prop) → α → Array Value → Prop} {S Sp : List α → Prop} {N : Nat} {w w1 : World}
    (h : IterC F n P g lb Kc Rep S Sp N w) (h0 : Only (fun k => ¬ Kc k) w w1) : IterC F n P g lb Kc Rep S Sp N w1 := fun l J Jx W hW => h l J Jx W (h0.trans hW)
structure RI (L : List Nat) (W0 : World) (t : Nat) (most : Int) (O : Nat → Prop) (pre : List Nat) (W : World) : Prop where
  rb : RB W0 pre O W
  pf : ∃ rest, L = pre ++ rest
  nb : t = 0 → pre ≠ [] → (pre.length : Int) ≠ most
def RX (L : List Nat) (W0 : World) (t : Nat) (most : Int) (c : Code) (O : Nat → Prop) (pre : List Nat) (W : World) : Prop :=
  (c = .exit 4 ∧ t = 0 ∧ (pre.length : Int) = most ∧ RB W0 pre O W) ∨ (c = .ret ∧ ¬ ∃ rest, L = pre ++ rest)
def RJ (W0 : World) (O : Nat → Prop) (pre : List Nat) (W : World) : Prop := RB W0 pre O W
structure OL (wL : World) (t T : Nat) (Ds : List Nat) (W : World) : Prop where
  B : Below wL.heap.size wL W
  T1 : wL.heap.size ≤ T + 1
  cT : W.cell? ⟨T, 0, none⟩ = some (.int .i64 (t : Int))
  fT : W.frozen? ⟨T, 0, none⟩ = false
  nd : Ds.Nodup
  dk : ∀ D ∈ Ds, wL.heap.size ≤ D ∧ W.heap[D]? = some (.deferred (some []))
theorem OL.next {wL wr W : World} {D t T : Nat} {Ds : List Nat} (h : OL wL t T Ds wr) (hB : Below wr.heap.size wr W) (hD : wr.heap.size ≤ D) (hk : W.heap[D]? = some (.deferred (some []))) (v : Int) (hv : v = ((t + 1 : Nat) : Int)) : OL wL (t + 1) W.heap.size (D :: Ds) (W.alloc (.cells #[.int .i64 v] 3)) := by
  have hn := heap_alloc_new W (.cells #[.int .i64 v] 3)
  have hb := below_alloc (Below.refl _ W) (.cells #[.int .i64 v] 3)
  have h1 := h.B.size
  have h2 := hB.size
  have hlt : ∀ d ∈ Ds, d < wr.heap.size := fun d hd => (Array.getElem?_eq_some_iff.1 (h.dk d hd).2).1
  refine ⟨(h.B.trans (hB.mono h1)).trans (hb.mono (by omega)), by omega, by rw [cell_of_one hn, hv], free_of_one hn, List.nodup_cons.2 ⟨fun hm => by have := hlt D hm; omega, h.nd⟩, fun d hd => ?_⟩
  rcases List.mem_cons.1 hd with rfl | hd
  · exact ⟨by omega, (hb.block _ (Array.getElem?_eq_some_iff.1 hk).1).trans hk⟩
  · obtain ⟨h3, h4⟩ := h.dk d hd
    have := hlt d hd
    exact ⟨h3, (hb.block _ (by omega)).trans ((hB.block _ this).trans h4)⟩
theorem run_eql_func_nil (w : World) (f : Fn) (a b : Array Value) : (binOp .eql 33 (.func f a b) .nilFunc).run Tryd.prog w = .ok (.bool false) w := by kernel_rfl
theorem Lent.widen {W : World} {base g lo : Nat} {rows : List (List Int)} (h : Lent W base g rows) (hlo : lo ≤ base) : Lent W lo g rows := by
  obtain ⟨vals, m, k1, k2, k3, k4, k5, k6⟩ := h
  exact ⟨vals, m, k1, k2, by omega, by omega, k5, fun j xs u h1 h2 => by obtain ⟨b, e, h3, h4⟩ := k6 j xs u h1 h2; exact ⟨b, e, by omega, h4⟩⟩
set_option maxHeartbeats 16000000 in
set_option maxRecDepth 100000 in
theorem lists_calls (A0 : Option Addr) (c0 : Nat) (rows : List (List Int)) (A1 : Option Addr) (c1 : Nat) (want : List Int) (most : Int) (w : World) (hr0 : Kd.C (Kd.slice 3 (Kd.int .i64)) w A0 rows.length rows) (hc0 : rows.length ≤ c0)
    (hr1 : Kd.C (Kd.int .i64) w A1 want.length want) (hc1 : want.length ≤ c1) (hn : rows.length ≤ 1048576) (hl : ∀ row ∈ rows, row.length ≤ 1048576) (hw : want.length ≤ 1048576) (hT : TabW w) :
    Calls Tryd.prog 3 #[.slice A0 rows.length c0, .slice A1 want.length c1, .int .i64 most] w fun e w' => e = .returned (.bool true) ∧ Below w.heap.size w w' := by
  obtain ⟨r1, r2, hS⟩ : ∃ r1 r2, listS rows want most = (r1, r2) := ⟨_, _, rfl⟩
  obtain ⟨k1, hk1⟩ := Ev.rounds (Ev.cast (PickCover.pick_list_ev rows want most) hS)
  obtain ⟨k2, hk2⟩ := Ev.rounds (Ev.cast (list_ev rows want most) hS)
  obtain ⟨k3, hk3⟩ := Ev.rounds (all_any_ev rows want)
  obtain ⟨L, hL⟩ : ∃ L, L = allS rows want := ⟨_, rfl⟩
  rw [← hL] at hk3
  have hLl : L.length ≤ 65536 := by rw [hL]; exact allS_length rows want
  obtain ⟨W1, hW1⟩ : ∃ W, W = (w.alloc (.cells #[.int .i64 most] 3)).alloc (.cells #[.bool false] 4) := ⟨_, rfl⟩
  have hb1 : Below w.heap.size w W1 := by rw [hW1]; exact below_alloc (below_alloc (Below.refl _ _) _) _
  have hs1 : W1.heap.size = w.heap.size + 2 := by rw [hW1]; simp
  have hmc : W1.cell? ⟨w.heap.size, 0, none⟩ = some (.int .i64 most) := by rw [hW1]; exact cell_al (by simp) _
  have hc6 : W1.cell? ⟨w.heap.size + 1, 0, none⟩ = some (.bool false) := by
    rw [hW1]
    have h := heap_alloc_new (w.alloc (.cells #[.int .i64 most] 3)) (.cells #[.bool false] 4)
    rw [World.size_alloc] at h
    exact cell_of_one h
  have hf6 : W1.frozen? ⟨w.heap.size + 1, 0, none⟩ = false := by
    rw [hW1]
    have h := heap_alloc_new (w.alloc (.cells #[.int .i64 most] 3)) (.cells #[.bool false] 4)
    rw [World.size_alloc] at h
    exact free_of_one h
  have HR0 := Aside0.mk hr0
  have HR1 := Aside0.mk hr1
  have HT := Aside0.mk hT
  have HL := Aside0.mk hl
  have HLE := Aside0.mk hL
  have HK1 := Aside0.mk hk1
  have HK2 := Aside0.mk hk2
  have HK3 := Aside0.mk hk3
  have HB1 := Aside0.mk hb1
  have HS1 := Aside0.mk hs1
  have HM := Aside0.mk hmc
  have H6 := Aside0.mk hc6
  have G6 := Aside0.mk hf6
  have HW1 := Aside0.mk hW1
  clear hr0 hr1 hT hl hL hk1 hk2 hk3 hS hb1 hs1 hmc hc6 hf6 hW1
  refine (callsIn_wide (n := 3)).1 ?_
  refine callsIn_of_wp_marks Tryd.func3 rfl trivial ?_
  simp only [Tryd.ntmps3, List.size_toArray, List.length_cons, List.length_nil, Nat.reduceAdd, Nat.reduceSub, Array.replicate_succ, Array.replicate_zero, List.push_toArray, List.append_toArray, List.nil_append, List.cons_append]
  gi_wp2_with (fail)
  refine ⟨trivial, ?_⟩
  rw [← HW1.out]
  refine (callsIn_wide.2 (amalgamlaw10_lives.calls 200 true W1 PickNames.eLives (HT.out.below HB1.out))).mono ?_
  rintro e w2 ⟨rfl, hb⟩
  have HB2 := Aside0.mk (HB1.out.trans (hb.mono HB1.out.size))
  have HC2 := Aside0.mk hb
  clear hb
  gi_wp2_with (fail)
  refine ⟨trivial, ?_⟩
  refine (callsIn_wide.2 (lent_any A0 c0 rows w2 (Kd.C_below HR0.out HB2.out) hn HL.out)).mono ?_
  rintro e w3 ⟨rfl, hLE, hb⟩
  obtain ⟨g, hg⟩ : ∃ g, g = w2.heap.size := ⟨_, rfl⟩
  rw [← hg] at hLE ⊢
  have hg2 : w.heap.size + 2 ≤ g := by have := HC2.out.size; have := HS1.out; omega
  have HLE3 := Aside0.mk hLE
  have HC3 := Aside0.mk (HC2.out.trans (hb.mono HC2.out.size))
  clear hb hLE hg HC2
  have hm := pw_cell_below HC3.out HM.out
  gi_wp2_with (fail)
  refine ⟨trivial, ?_⟩
  have hB := HB1.out.trans (HC3.out.mono HB1.out.size)
  refine (callsIn_wide.2 (pick_List.calls k1 (some ⟨g, 0, none⟩) (rows.length + 1) rows A1 c1 want most r1 r2 w3 (HLE3.out.reads hn HL.out) (by omega) (Kd.C_below HR1.out hB) hc1 HK1.out (HT.out.below hB))).mono ?_
  rintro e w4 ⟨v4, rfl, hR4, hb⟩
  obtain ⟨A4, c4, rfl, hc4, hC4⟩ := Kd.R_reads hR4
  have HR4 := Aside0.mk hC4
  have HLE4 := Aside0.mk (HLE3.out.below hb)
  have HC4 := Aside0.mk (HC3.out.trans (hb.mono HC3.out.size))
  clear hb hR4 hC4 hm hB HC3 HLE3
  have hm := pw_cell_below HC4.out HM.out
  gi_wp2_with (fail)
  refine ⟨trivial, ?_⟩
  have hB := HB1.out.trans (HC4.out.mono HB1.out.size)
  refine (callsIn_wide.2 (amalgamref10_List.calls k2 A0 c0 rows A1 c1 want most r1 r2 w4 (Kd.C_below HR0.out hB) hc0 (Kd.C_below HR1.out hB) hc1 HK2.out)).mono ?_
  rintro e w5 ⟨v5, rfl, hR5, hb⟩
  obtain ⟨A5, c5, rfl, hc5, hC5⟩ := Kd.R_reads hR5
  obtain ⟨k6, hk6⟩ := Ev.rounds (same32_ev r1 (by have := Kd.C_max hC5; omega))
  have HR5 := Aside0.mk hC5
  have HR4b := Aside0.mk (Kd.C_below HR4.out hb)
  have HLE5 := Aside0.mk (HLE4.out.below hb)
  have HC5 := Aside0.mk (HC4.out.trans (hb.mono HC4.out.size))
  have HK6 := Aside0.mk hk6
  clear hb hR5 hC5 hm hB HC4 HLE4 HR4 hk6
  gi_wp2_with (fail)
  refine ⟨trivial, ?_⟩
  refine (callsIn_wide.2 (amalgamref10_Same.calls k6 A4 c4 r1 A5 c5 r1 true w5 HR4b.out hc4 HR5.out hc5 HK6.out)).mono ?_
  rintro e w6 ⟨rfl, hd⟩
  have HLE6 := Aside0.mk (HLE5.out.below hd.below)
  have HC6 := Aside0.mk (HC5.out.trans (hd.below.mono HC5.out.size))
  clear hd HC5 HLE5 HR5 HR4b
  gi_wp2_with (fail)
  refine ⟨trivial, ?_⟩
  refine (callsIn_wide.2 (kept_any _ g A0 c0 rows w6 HLE6.out (Kd.C_below HR0.out (HB1.out.trans (HC6.out.mono HB1.out.size))) hc0 hn HL.out)).mono ?_
  rintro e w7 ⟨rfl, hb⟩
  have HLE7 := Aside0.mk (HLE6.out.below hb)
  have HC7 := Aside0.mk (HC6.out.trans (hb.mono HC6.out.size))
  clear hb HLE6 HC6
  gi_wp2_with (gi_at_builtin; refine (show (Nat → _) → _ from fun h => h 0) ?_)
  intro _
  have hBw : Below W1.heap.size W1 (w7.alloc (.cells #[] 3)) := HC7.out.trans ((below_alloc (Below.refl _ w7) _).mono HC7.out.size)
  refine WordsIn.append_row_in w7.heap.size rfl (.tmp 58) (.tmp 59) 23 3 .i64 8 rfl rfl Clone.info_int (by decide) (.slice (some ⟨w7.heap.size, 0, none⟩) 0 0) [] want A1 want.length c1 rfl rfl
    ⟨rfl, .inr ⟨w7.heap.size, 0, #[], rfl, Nat.le_refl _, heap_alloc_new w7 _, Nat.le_refl _, Nat.zero_le _, rfl, rfl⟩⟩ (Clone.C_ints (Kd.C_below HR1.out (HB1.out.trans (hBw.mono HB1.out.size)))) (by simp) (by simp; omega) ?_
  intro v8 w8 hown hg hat
  rw [List.nil_append] at hown
  have hO8 : Only (fun k => k = w7.heap.size) (w7.alloc (.cells #[] 3)) w8 := WordsIn.Only.of_grownBy hg (fun k hk => by simp [Value.ownBlock] at hk; exact hk.symm)
  rcases hown.2 with ⟨rfl, hn0⟩ | ⟨gw, cw, cur, rfl, hgw, hbw, hncw, hcw, hcur, htk⟩
  · exfalso
    rcases hat with h | h <;> simp [Value.ownBlock] at h
  have hB8 : Below w7.heap.size w7 w8 := (below_alloc (Below.refl _ w7) (.cells #[] 3)).trans (hO8.below (by simp) (fun k hk => by omega))
  have hC8 := (Kd.R_reads (Kd.R_of_own (enc := Value.int .i64) (h1 := fun _ => rfl) (ok := fun _ => True) (xs := want) (by simpa [nums, encs] using hown) (fun _ _ => trivial)))
  obtain ⟨_, _, e8, hcw2, hC8⟩ := hC8
  cases e8
  have HC8 := Aside0.mk (HC7.out.trans (hB8.mono HC7.out.size))
  have HLE8 := Aside0.mk (HLE7.out.below hB8)
  have HW8 := Aside0.mk hC8
  have HGW := Aside0.mk (show w7.heap.size ≤ gw ∧ gw < w8.heap.size from ⟨hgw, (Array.getElem?_eq_some_iff.1 hbw).1⟩)
  have HIA := Aside0.mk (IntsAt.of_R (Kd.R_of_own (enc := Value.int .i64) (h1 := fun _ => rfl) (ok := fun _ => True) (xs := want) (by simpa [nums, encs] using hown) (fun _ _ => trivial)))
  have HD8 := Aside0.mk hB8
  clear hown hg hat hO8 hB8 hC8 hBw hbw hgw hcur htk
  have hBa := HB1.out.trans (HC8.out.mono HB1.out.size)
  have HALL := Aside0.mk (PickAll.all_any (some ⟨g, 0, none⟩) (rows.length + 1) rows (some ⟨gw, 0, none⟩) cw want w8 (HLE8.out.reads hn HL.out) (by omega) HW8.out hncw (HT.out.below hBa) (by omega) (by omega) (fun row hr => by have := HL.out row hr; omega))
  clear hBa
  gi_wp2_with (fail)
  refine ⟨trivial, ?_⟩
  refine (callsIn_wide.2 HALL.out).mono ?_
  rintro e w9 ⟨bo, br, bw, rfl, hb9, hbo, hcb, hheld⟩
  have HC9 := Aside0.mk (HC8.out.trans (hb9.mono HC8.out.size))
  have HLE9 := Aside0.mk (HLE8.out.below hb9)
  have HB9 := Aside0.mk hb9
  have HBO := Aside0.mk hbo
  have HCB := Aside0.mk hcb
  have HHD := Aside0.mk hheld
  clear hb9 hbo hcb hheld HALL HLE8
  obtain ⟨vals, hsp, hvl⟩ := HLE7.out.spoils hn HL.out
  obtain ⟨w10, hw10⟩ : ∃ W, W = w9.alloc (.cells #[.func (.func 29) #[] #[.pointer (some ⟨bo, 0, none⟩), .pointer (some ⟨br, 0, none⟩), .pointer (some ⟨bw, 0, none⟩)]] 33) := ⟨_, rfl⟩
  have hO10 : Below w9.heap.size w9 w10 := by rw [hw10]; exact below_alloc (Below.refl _ _) _
  have hsz8 := HD8.out.size
  have hsz9 := HB9.out.size
  have hsz10 : w10.heap.size = w9.heap.size + 1 := by rw [hw10]; simp
  have hseq : w10.cell? ⟨w9.heap.size, 0, none⟩ = some (.func (.func 29) #[] #[.pointer (some ⟨bo, 0, none⟩), .pointer (some ⟨br, 0, none⟩), .pointer (some ⟨bw, 0, none⟩)]) := by rw [hw10]; exact cell_of_one (heap_alloc_new w9 _)
  have h79 : Below w7.heap.size w7 w10 := (HD8.out.trans (HB9.out.mono HD8.out.size)).trans (hO10.mono (by omega))
  have hSP := spoil_any (fun k => g ≤ k ∧ k < w7.heap.size) g rows.length vals w10 (Go.Proofs.YtbdlihldmmbdmaaDoor.Lent.Spoils.move hsp (Only.of_below (S := fun _ => False) h79) (fun h => h) (fun _ _ _ h => h)) (by omega)
  rw [hvl] at hSP
  have HSP := Aside0.mk hSP
  have HW10 := Aside0.mk hw10
  have HSEQ := Aside0.mk hseq
  have HO10 := Aside0.mk hO10
  have hg7 : g < w7.heap.size := by have := (Array.getElem?_eq_some_iff.1 hsp.blk).1; exact this
  clear hsp hvl hw10 hO10 hseq h79 hSP HLE9 HLE7
  gi_wp2_with (fail)
  refine ⟨trivial, ?_⟩
  rw [← HW10.out]
  refine (callsIn_wide.2 HSP.out).mono ?_
  rintro e w11 ⟨⟨v11, rfl⟩, hO⟩
  have hgw := HGW.out
  obtain ⟨T, hT⟩ : ∃ T : Nat → Prop, T = fun k => (g ≤ k ∧ k < w7.heap.size) ∨ k = gw := ⟨_, rfl⟩
  have hTle : ∀ k, T k → g ≤ k ∧ k < w8.heap.size := fun k hk => by rw [hT] at hk; omega
  have hTg : T gw := by rw [hT]; exact .inr rfl
  have HO11 := Aside0.mk (show Only T w9 w11 from (Only.of_below HO10.out).trans (hO.mono (fun k _ e => by rw [hT]; exact .inl e)))
  have HIA11 := Aside0.mk (show IntsAt w11 gw want.length from by
    obtain ⟨cur, h1, h2⟩ := HIA.out
    exact ⟨cur, keeps_of hO (fun e => by omega) ((HO10.out.block gw (by omega)).trans ((HB9.out.block gw (by omega)).trans h1)), h2⟩)
  have HSEQ11 := Aside0.mk (cell_keep hO (fun e => by simp only at e; omega) HSEQ.out)
  clear hO hT HIA HSEQ HSP HW10
  have hw63 : want.length ≤ 9223372036854775807 := by omega
  gi_wp2_with (fail)
  gi_loopw [16] (fun v16 wr => ∃ i : Nat, v16 = .int .i64 (i : Int) ∧ i ≤ want.length ∧ Aside0 (Only T w9 wr) ∧ Aside0 (IntsAt wr gw want.length) ∧ Aside0 (wr.cell? ⟨w9.heap.size, 0, none⟩ = some (.func (.func 29) #[] #[.pointer (some ⟨bo, 0, none⟩), .pointer (some ⟨br, 0, none⟩), .pointer (some ⟨bw, 0, none⟩)]))) (fun v16 _ => want.length - (intOf v16).toNat)
  case atStart => exact ⟨0, rfl, Nat.zero_le _, HO11, HIA11, HSEQ11⟩
  case round =>
    clear HO11 HIA11 HSEQ11
    obtain ⟨i, rfl, hi, HO, HIA, HSEQ⟩ := hrel
    by_cases hin : i < want.length
    · obtain ⟨cur, h1, h2⟩ := HIA.out
      obtain ⟨z, hz⟩ := h2 i hin
      have hcz : wr.cell? ⟨gw, i, none⟩ = some (.int .i64 z) := by rw [cell_at h1]; exact hz
      have hfz : wr.frozen? ⟨gw, i, none⟩ = false := free_at h1 i
      have HIA2 := Aside0.mk (HIA.out.set i (wrap64 (2 - z)))
      have HO2 := Aside0.mk (HO.out.setCell ⟨gw, i, none⟩ (.int .i64 (wrap64 (2 - z))) (.inl hTg))
      have HSEQ2 := Aside0.mk (cell_keep (S := fun k => k = gw) ((Only.refl _ wr).setCell ⟨gw, i, none⟩ (.int .i64 (wrap64 (2 - z))) (.inl rfl)) (fun e => by simp only at e; omega) HSEQ.out)
      clear h1 h2 hz HIA HSEQ HO
      gi_wp2
      exact ⟨⟨i + 1, by go_num, by omega, HO2, HIA2, HSEQ2⟩, by simp only [intOf]; omega⟩
    · have hbW : Below W1.heap.size W1 wr := HC9.out.trans (HO.out.below (by have := HC9.out.size; omega) (fun k hk => by have := hTle k hk; have := HS1.out; omega))
      have HBW := Aside0.mk hbW
      have HALL := Aside0.mk (amalgamref10_All.calls k3 A0 c0 rows A1 c1 want 65536 (L.map fun m : Nat => (m : Int)) wr (Kd.C_below HR0.out (HB1.out.trans (hbW.mono HB1.out.size))) hc0 (Kd.C_below HR1.out (HB1.out.trans (hbW.mono HB1.out.size))) hc1 HK3.out)
      clear hbW HIA
      gi_wp2_with (fail)
      refine ⟨trivial, ?_⟩
      refine (callsIn_wide.2 HALL.out).mono ?_
      rintro e w12 ⟨v12, rfl, hR12, hb⟩
      obtain ⟨A12, c12, rfl, hc12, hC12⟩ := Kd.R_reads hR12
      rw [List.length_map] at hC12 hc12 ⊢
      have HO12 := Aside0.mk (HO.out.trans (Only.of_below hb))
      have HSEQ12 := Aside0.mk (pw_cell_below hb HSEQ.out)
      have HBW12 := Aside0.mk (HBW.out.trans (hb.mono HBW.out.size))
      have HC12 := Aside0.mk hC12
      clear hb hR12 hC12 HALL HO HBW HSEQ
      have hseq := cell_al HSEQ12.out (.cells #[.slice A12 L.length c12] 26)
      have hnil := run_eql_func_nil
      gi_wp2_with (fail)
      obtain ⟨wL, hwL⟩ : ∃ W, W = (w12.alloc (.cells #[.slice A12 L.length c12] 26)).alloc (.cells #[.int .i64 0] 3) := ⟨_, rfl⟩
      have hbL : Below w12.heap.size w12 wL := by rw [hwL]; exact below_alloc (below_alloc (Below.refl _ _) _) _
      have hsL : wL.heap.size = w12.heap.size + 2 := by rw [hwL]; simp
      have hMk := Aside0.mk (show wL.cell? ⟨w12.heap.size, 0, none⟩ = some (.slice A12 L.length c12) by rw [hwL]; exact cell_al (cell_of_one (heap_alloc_new w12 _)) _)
      have hT0 : wL.cell? ⟨w12.heap.size + 1, 0, none⟩ = some (.int .i64 0) := by
        rw [hwL]
        have h := heap_alloc_new (w12.alloc (.cells #[.slice A12 L.length c12] 26)) (.cells #[.int .i64 0] 3)
        rw [World.size_alloc] at h
        exact cell_of_one h
      have hF0 : wL.frozen? ⟨w12.heap.size + 1, 0, none⟩ = false := by
        rw [hwL]
        have h := heap_alloc_new (w12.alloc (.cells #[.slice A12 L.length c12] 26)) (.cells #[.int .i64 0] 3)
        rw [World.size_alloc] at h
        exact free_of_one h
      have HMk := hMk
      have HBL := Aside0.mk (HBW12.out.trans (hbL.mono HBW12.out.size))
      have HSq := Aside0.mk (pw_cell_below hbL HSEQ12.out)
      have HCm := Aside0.mk (Kd.C_below HC12.out hbL)
      have HOL := Aside0.mk (HO12.out.trans (Only.of_below hbL))
      have HO0 := Aside0.mk (show OL wL 0 (w12.heap.size + 1) [] wL from ⟨Below.refl _ _, by omega, hT0, hF0, List.nodup_nil, fun D hD => by cases hD⟩)
      have hz12 : w9.heap.size ≤ w12.heap.size := HO12.out.size
      rw [← hwL]
      clear hwL hbL hMk hT0 hF0 hseq hnil HSEQ12 HBW12 HC12 HO12
      refine wpIn_loop_ghost (fun k a W => ∃ (t T : Nat) (Ds : List Nat), k = 2 - t ∧ t ≤ 2 ∧ Aside0 (OL wL t T Ds W) ∧ ∃ u19 u20 u21 u22 u23 u24 u25 u26 u27 u28 u29 u30 u31 u32 u33 u34 u35 u36 u37 u38 u39 u40 u41 u42 u43 u44 u45 u46 u47 u48 u49 u50 u51 u52 u53 u54 u55 u56 u57 u58 u59 u60 u61 u62 u63 u64 u65 u66 u67 u68 u69 u70 u71 u72 u73 u74 u75 u76 u77 u78 u79 u80 u81 u82 u83 u84 u85 u86 u87 u88 u89 u90 u91 u92 u93 u94 u95 u96 u97 u98 u99 u100 u101 u102 u103 u104 u105 u106 u107 u108 u109 u110 u111 u112 u113 u114 u115 u116 u117 u118 u119 u120 u121 u122 u123 u124 u125 u126 u127 u128 u129 u130 u131 u132 u133 u134 u135 u136 u137 u138 u139 : Value, a = { tmps := #[.slice A0 rows.length c0, .slice A1 want.length c1, .int .i64 most, undef, undef, .pointer (some ⟨w.heap.size, 0, none⟩), .pointer (some ⟨w.heap.size + 1, 0, none⟩), .bool true, .slice (some ⟨g, 0, none⟩) rows.length (rows.length + 1), .slice A4 r1.length c4, .int .i64 r2, .slice A5 r1.length c5, .int .i64 r2, .bool true, .slice (some ⟨gw, 0, none⟩) want.length cw, .pointer (some ⟨w9.heap.size, 0, none⟩), .int .i64 (i : Int), .pointer (some ⟨w12.heap.size, 0, none⟩), .pointer (some ⟨T, 0, none⟩), u19, u20, u21, u22, u23, u24, u25, u26, u27, u28, u29, u30, u31, u32, u33, u34, u35, u36, u37, u38, u39, u40, u41, u42, u43, u44, u45, u46, u47, u48, u49, u50, u51, u52, u53, u54, u55, u56, u57, u58, u59, u60, u61, u62, u63, u64, u65, u66, u67, u68, u69, u70, u71, u72, u73, u74, u75, u76, u77, u78, u79, u80, u81, u82, u83, u84, u85, u86, u87, u88, u89, u90, u91, u92, u93, u94, u95, u96, u97, u98, u99, u100, u101, u102, u103, u104, u105, u106, u107, u108, u109, u110, u111, u112, u113, u114, u115, u116, u117, u118, u119, u120, u121, u122, u123, u124, u125, u126, u127, u128, u129, u130, u131, u132, u133, u134, u135, u136, u137, u138, u139], defers := Ds.map fun D => { target := .collected D, args := #[] } }) 2 ?_ ?_
      · refine ⟨0, w12.heap.size + 1, [], rfl, by omega, HO0, ?_⟩
        (repeat apply Exists.intro)
        exact rfl
      · rintro k a wr ⟨t, T, Ds, rfl, ht, HO, hrest⟩
        obtain ⟨u19, hrest⟩ := hrest
        obtain ⟨u20, hrest⟩ := hrest
        obtain ⟨u21, hrest⟩ := hrest
        obtain ⟨u22, hrest⟩ := hrest
        obtain ⟨u23, hrest⟩ := hrest
        obtain ⟨u24, hrest⟩ := hrest
        obtain ⟨u25, hrest⟩ := hrest
        obtain ⟨u26, hrest⟩ := hrest
        obtain ⟨u27, hrest⟩ := hrest
        obtain ⟨u28, hrest⟩ := hrest
        obtain ⟨u29, hrest⟩ := hrest
        obtain ⟨u30, hrest⟩ := hrest
        obtain ⟨u31, hrest⟩ := hrest
        obtain ⟨u32, hrest⟩ := hrest
        obtain ⟨u33, hrest⟩ := hrest
        obtain ⟨u34, hrest⟩ := hrest
        obtain ⟨u35, hrest⟩ := hrest
        obtain ⟨u36, hrest⟩ := hrest
        obtain ⟨u37, hrest⟩ := hrest
        obtain ⟨u38, hrest⟩ := hrest
        obtain ⟨u39, hrest⟩ := hrest
        obtain ⟨u40, hrest⟩ := hrest
        obtain ⟨u41, hrest⟩ := hrest
        obtain ⟨u42, hrest⟩ := hrest
        obtain ⟨u43, hrest⟩ := hrest
        obtain ⟨u44, hrest⟩ := hrest
        obtain ⟨u45, hrest⟩ := hrest
        obtain ⟨u46, hrest⟩ := hrest
        obtain ⟨u47, hrest⟩ := hrest
        obtain ⟨u48, hrest⟩ := hrest
        obtain ⟨u49, hrest⟩ := hrest
        obtain ⟨u50, hrest⟩ := hrest
        obtain ⟨u51, hrest⟩ := hrest
        obtain ⟨u52, hrest⟩ := hrest
        obtain ⟨u53, hrest⟩ := hrest
        obtain ⟨u54, hrest⟩ := hrest
        obtain ⟨u55, hrest⟩ := hrest
        obtain ⟨u56, hrest⟩ := hrest
        obtain ⟨u57, hrest⟩ := hrest
        obtain ⟨u58, hrest⟩ := hrest
        obtain ⟨u59, hrest⟩ := hrest
        obtain ⟨u60, hrest⟩ := hrest
        obtain ⟨u61, hrest⟩ := hrest
        obtain ⟨u62, hrest⟩ := hrest
        obtain ⟨u63, hrest⟩ := hrest
        obtain ⟨u64, hrest⟩ := hrest
        obtain ⟨u65, hrest⟩ := hrest
        obtain ⟨u66, hrest⟩ := hrest
        obtain ⟨u67, hrest⟩ := hrest
        obtain ⟨u68, hrest⟩ := hrest
        obtain ⟨u69, hrest⟩ := hrest
        obtain ⟨u70, hrest⟩ := hrest
        obtain ⟨u71, hrest⟩ := hrest
        obtain ⟨u72, hrest⟩ := hrest
        obtain ⟨u73, hrest⟩ := hrest
        obtain ⟨u74, hrest⟩ := hrest
        obtain ⟨u75, hrest⟩ := hrest
        obtain ⟨u76, hrest⟩ := hrest
        obtain ⟨u77, hrest⟩ := hrest
        obtain ⟨u78, hrest⟩ := hrest
        obtain ⟨u79, hrest⟩ := hrest
        obtain ⟨u80, hrest⟩ := hrest
        obtain ⟨u81, hrest⟩ := hrest
        obtain ⟨u82, hrest⟩ := hrest
        obtain ⟨u83, hrest⟩ := hrest
        obtain ⟨u84, hrest⟩ := hrest
        obtain ⟨u85, hrest⟩ := hrest
        obtain ⟨u86, hrest⟩ := hrest
        obtain ⟨u87, hrest⟩ := hrest
        obtain ⟨u88, hrest⟩ := hrest
        obtain ⟨u89, hrest⟩ := hrest
        obtain ⟨u90, hrest⟩ := hrest
        obtain ⟨u91, hrest⟩ := hrest
        obtain ⟨u92, hrest⟩ := hrest
        obtain ⟨u93, hrest⟩ := hrest
        obtain ⟨u94, hrest⟩ := hrest
        obtain ⟨u95, hrest⟩ := hrest
        obtain ⟨u96, hrest⟩ := hrest
        obtain ⟨u97, hrest⟩ := hrest
        obtain ⟨u98, hrest⟩ := hrest
        obtain ⟨u99, hrest⟩ := hrest
        obtain ⟨u100, hrest⟩ := hrest
        obtain ⟨u101, hrest⟩ := hrest
        obtain ⟨u102, hrest⟩ := hrest
        obtain ⟨u103, hrest⟩ := hrest
        obtain ⟨u104, hrest⟩ := hrest
        obtain ⟨u105, hrest⟩ := hrest
        obtain ⟨u106, hrest⟩ := hrest
        obtain ⟨u107, hrest⟩ := hrest
        obtain ⟨u108, hrest⟩ := hrest
        obtain ⟨u109, hrest⟩ := hrest
        obtain ⟨u110, hrest⟩ := hrest
        obtain ⟨u111, hrest⟩ := hrest
        obtain ⟨u112, hrest⟩ := hrest
        obtain ⟨u113, hrest⟩ := hrest
        obtain ⟨u114, hrest⟩ := hrest
        obtain ⟨u115, hrest⟩ := hrest
        obtain ⟨u116, hrest⟩ := hrest
        obtain ⟨u117, hrest⟩ := hrest
        obtain ⟨u118, hrest⟩ := hrest
        obtain ⟨u119, hrest⟩ := hrest
        obtain ⟨u120, hrest⟩ := hrest
        obtain ⟨u121, hrest⟩ := hrest
        obtain ⟨u122, hrest⟩ := hrest
        obtain ⟨u123, hrest⟩ := hrest
        obtain ⟨u124, hrest⟩ := hrest
        obtain ⟨u125, hrest⟩ := hrest
        obtain ⟨u126, hrest⟩ := hrest
        obtain ⟨u127, hrest⟩ := hrest
        obtain ⟨u128, hrest⟩ := hrest
        obtain ⟨u129, hrest⟩ := hrest
        obtain ⟨u130, hrest⟩ := hrest
        obtain ⟨u131, hrest⟩ := hrest
        obtain ⟨u132, hrest⟩ := hrest
        obtain ⟨u133, hrest⟩ := hrest
        obtain ⟨u134, hrest⟩ := hrest
        obtain ⟨u135, hrest⟩ := hrest
        obtain ⟨u136, hrest⟩ := hrest
        obtain ⟨u137, hrest⟩ := hrest
        obtain ⟨u138, hrest⟩ := hrest
        obtain ⟨u139, hrest⟩ := hrest
        subst hrest
        have hcT := HO.out.cT
        by_cases ht2 : t < 2
        · have hseq := cell_al (pw_cell_below HO.out.B HSq.out) (.cells #[.int .i64 0] 3)
          gi_wp2
          obtain ⟨wn, hwn⟩ : ∃ W, W = wr.alloc (.cells #[.int .i64 0] 3) := ⟨_, rfl⟩
          have hbn : Below wr.heap.size wr wn := by rw [hwn]; exact below_alloc (Below.refl _ _) _
          have hsn : wn.heap.size = wr.heap.size + 1 := by rw [hwn]; simp
          have hRB0 : RB wr [] (fun _ => False) wn := ⟨hbn, by rw [hwn]; exact cell_of_one (heap_alloc_new wr _), by rw [hwn]; exact free_of_one (heap_alloc_new wr _), fun k e => e.elim, by omega⟩
          have htab : 0 < w.heap.size := World.block_lt_of_cell? w ⟨0, 0, none⟩ (HT.out.out 0 (by decide))
          have hwr := HO.out.B.size
          have h29 : w.heap.size ≤ w9.heap.size := Nat.le_trans HB1.out.size HC9.out.size
          have hK9 : Only (fun k => ¬ (k = 0 ∨ (w8.heap.size ≤ k ∧ k < w9.heap.size))) w9 wn := (HOL.out.mono (fun k _ e h => by have := hTle k e; omega)).trans ((Only.of_below HO.out.B).trans (Only.of_below hbn))
          have HIT := Aside0.mk (IterC.later (iter_any 2 rows want bo br bw w8.heap.size w9.heap.size w9 HCB.out HBO.out (Nat.le_refl _) (by omega) HHD.out) hK9)
          rw [← HLE.out] at HIT
          have HRB0 := Aside0.mk hRB0
          have HBN := Aside0.mk hbn
          rw [← hwn]
          clear hwn hbn hRB0 hK9 hseq hcT
          apply wp_range_set (n := 3) (hro := rfl) (hp := by simp) (h1 := by decide) (hg := rfl) (hFg := trivial) (eg := Fn.entersP_of rfl rfl ⟨_, rfl⟩) (hKc := fun k hk => by omega) (Rep := PickIter.RepM) (hRep := fun h _ => h) (hRs := fun h => by rw [show _ = _ from h]; rfl) (hseq := HIT.out)
            (I := RI L wr t most) (Ix := RX L wr t most)
          case hI => exact fun O O' s A B h ho hle hnew => ⟨RB.stable wr O O' s A B h.rb ho hle hnew, h.pf, h.nb⟩
          case hIx => exact fun c O O' s A B h ho hle hnew => Or.imp (fun h => ⟨h.1, h.2.1, h.2.2.1, RB.stable wr O O' s A B h.2.2.2 ho hle hnew⟩) id h
          case h0 => exact ⟨HRB0.out, ⟨L, rfl⟩, fun _ h => absurd rfl h⟩
          case hbody =>
            rintro l O pre x v W0 W1 hl hrec hO hI ho hrep hlen
            obtain rfl : v = .int .u32 (x : Int) := by have : (#[v] : Array Value) = #[.int .u32 (x : Int)] := hrep; simpa using this
            have hR := RB.stable wr O O pre W0 W1 hI.rb ho (fun _ e => e) (fun _ e => .inl e)
            obtain ⟨rest, hrest⟩ := hI.pf
            simp only [List.setIfInBounds_toArray, List.set_cons_succ, List.set_cons_zero]
            have hBL1 : Below wL.heap.size wL W1 := HO.out.B.trans (hR.B.mono HO.out.B.size)
            have hcN := hR.cN
            have hcT := pw_cell_below hR.B HO.out.cT
            have hcK := pw_cell_below hBL1 HMk.out
            have hcM := pw_cell_below (HBL.out.trans (hBL1.mono HBL.out.size)) HM.out
            obtain ⟨ad, ead, hy0⟩ := Kd.at_int (Kd.C_below HCm.out hBL1) (pre.length : Int) (by omega) (by omega)
            obtain ⟨y, hyL⟩ : ∃ y, y = L[pre.length] := ⟨_, rfl⟩
            have hrd : rd (L.map fun m : Nat => (m : Int)) (pre.length : Int) = (y : Int) := by
              rw [rd_lt (by simpa using hlen), hyL]; simp
            rw [hrd] at hy0
            have hy : W1.cell? (ad.add pre.length) = some (.int .u32 (y : Int)) := hy0
            cases ead
            have hge : decide (L.length ≤ pre.length) = false := decide_eq_false (by omega)
            have HR := Aside0.mk hR
            have HBL1 := Aside0.mk hBL1
            have HREST := Aside0.mk hrest
            have HYL := Aside0.mk hyL
            have HREC := Aside0.mk hrec
            have HOB := Aside0.mk hO
            have HON := Aside0.mk ho
            clear hI ho hrep hR hBL1 hy0 hrd hrest hyL hrec hO
            have hm64 : L.length ≤ 9223372036854775807 := by omega
            have hc6 := pw_cell_below (HBL.out.trans (HBL1.out.mono HBL.out.size)) H6.out
            have hf6 := froz_below H6.out G6.out (HBL.out.trans (HBL1.out.mono HBL.out.size))
            have hsN : wr.heap.size < W1.heap.size := HR.out.sz
            by_cases hxy : x = y
            · subst hxy
              clear hc6 hf6
              have HPF := Aside0.mk (show ∃ rest, L = (pre ++ [x]) ++ rest from by
                obtain ⟨rest, hr⟩ := (⟨rest, HREST.out⟩ : ∃ rest, L = pre ++ rest)
                cases rest with
                | nil => rw [hr] at hlen; simp at hlen
                | cons z rest =>
                  have : x = z := by rw [HYL.out]; simp [hr]
                  exact ⟨rest, by rw [hr, this]; simp⟩)
              obtain ⟨hRi, hOi⟩ := HR.out.inc x
              have HRI := Aside0.mk hRi
              have HOI := Aside0.mk (hOi.mono (T := fun k => ¬ ((k = 0 ∨ (w8.heap.size ≤ k ∧ k < w9.heap.size)) ∨ O k)) (fun k _ e h => by
                rcases h with h | h
                · omega
                · have := HR.out.OH k h; omega))
              have HOJ := Aside0.mk (hOi.mono (T := fun k => ¬ O k) (fun k _ e h => by have := HR.out.OH k h; omega))
              have hTlt : T < wr.heap.size := World.block_lt_of_cell? wr ⟨T, 0, none⟩ HO.out.cT
              have hcT2 := cell_keep hOi (fun e => by have e2 : T = _ := e; omega) hcT
              have hcM2 := cell_keep hOi (fun e => by have e2 : w.heap.size = _ := e; omega) hcM
              clear hRi hOi
              have hfN := HR.out.fN
              obtain rfl | rfl : t = 0 ∨ t = 1 := by omega
              · by_cases hp0 : pre.length = 0
                · have hp1 : ((pre.length : Int) == 0) = true := by simpa using (show ((pre.length : Int) = 0) by omega)
                  have HP0 := Aside0.mk hp0
                  have hseq := cell_al (pw_cell_below HBL1.out HSq.out) (.cells #[.int .i64 0] 3)
                  obtain ⟨wi, hwi⟩ : ∃ W, W = W1.alloc (.cells #[.int .i64 0] 3) := ⟨_, rfl⟩
                  have hbi : Below W1.heap.size W1 wi := by rw [hwi]; exact below_alloc (Below.refl _ _) _
                  have hsi : wi.heap.size = W1.heap.size + 1 := by rw [hwi]; simp
                  have HRBi := Aside0.mk (show RB W1 [] (fun _ => False) wi from ⟨hbi, by rw [hwi]; exact cell_of_one (heap_alloc_new W1 _), by rw [hwi]; exact free_of_one (heap_alloc_new W1 _), fun k e => e.elim, by omega⟩)
                  have hbW1 : Below wn.heap.size wn W1 → True := fun _ => trivial
                  have HITi := Aside0.mk (IterC.inRound l (IterC.later (iter_any 0 rows want bo br bw w8.heap.size w9.heap.size w9 HCB.out HBO.out (Nat.le_refl _) (by omega) HHD.out)
                    ((HOL.out.mono (fun k _ e h => by have := hTle k e; omega)).trans ((Only.of_below HBL1.out).trans (Only.of_below hbi)))))
                  rw [← HLE.out] at HITi
                  obtain ⟨rec, hrec⟩ := HREC.out
                  have HRECi := Aside0.mk (((hbi.block l (Array.getElem?_eq_some_iff.1 hrec).1)).trans hrec)
                  have HWI := Aside0.mk hwi
                  have HBI := Aside0.mk hbi
                  have HSI := Aside0.mk hsi
                  clear hp0 hwi hbi hrec hsi hfN hcT2 hcM2 HRI HOI HOJ hbW1
                  gi_wp2
                  rw [← HWI.out]
                  apply wp_range_inner_skip (n := 1) (hro := rfl) (hl₀ := HRECi.out) (h1 := by decide) (hg := rfl) (hFg := trivial) (eg := Fn.entersP_of rfl rfl ⟨_, rfl⟩) (hKc := fun k hk => by have := HSI.out; omega) (Rep := PickIter.RepM) (hRep := fun h _ => h) (hRs := fun h => by rw [show _ = _ from h]; rfl) (hseq := HITi.out)
                    (I := RJ W1) (Ix := fun _ _ _ _ => False)
                  case hI => exact RB.stable W1
                  case hIx => exact fun c O O' s A B h _ _ _ => h
                  case h0 => exact HRBi.out
                  case hstop => exact fun O c pre W _ _ h => h.elim
                  case hbody =>
                    rintro l2 O2 pre2 x2 v2 V0 V1 hl2 hrec2 hO2 hI2 ho2 hrep2 hlen2
                    have hR2 : RB W1 pre2 O2 V1 := RB.stable W1 O2 O2 pre2 V0 V1 hI2 ho2 (fun _ e => e) (fun _ e => .inl e)
                    obtain ⟨hRi2, hOi2⟩ := hR2.inc x2
                    have HRI2 := Aside0.mk hRi2
                    have HOI2 := Aside0.mk (hOi2.mono (T := fun k => ¬ ((k = 0 ∨ (w8.heap.size ≤ k ∧ k < w9.heap.size)) ∨ O2 k)) (fun k _ e h => by
                      rcases h with h | h
                      · omega
                      · have := hR2.OH k h; omega))
                    simp only [List.setIfInBounds_toArray, List.set_cons_succ, List.set_cons_zero]
                    have hcI := hR2.cN
                    have hfI := hR2.fN
                    clear hI2 ho2 hrep2 hR2 hRi2 hOi2 hrec2 hO2
                    gi_wp2
                    exact ⟨HOI2.out, HRI2.out⟩
                  case hdone =>
                    rintro O2 xs W hO2 hxs hI2
                    obtain rfl : xs = L := hxs
                    have hbW : Below W1.heap.size W1 W := hI2.B
                    have hcI := hI2.cN
                    have hcN2 := pw_cell_below hbW hcN
                    have hcT2 := pw_cell_below hbW hcT
                    have hcK2 := pw_cell_below hbW hcK
                    have hcM2 := pw_cell_below hbW hcM
                    have hR2 : RB wr pre O W := HR.out.move (Only.of_below hbW) HR.out.OH
                    have hfN2 := hR2.fN
                    obtain ⟨hRi, hOi⟩ := hR2.inc x
                    have HRI := Aside0.mk hRi
                    have HOI := Aside0.mk ((Only.of_below hbW).trans (hOi.mono (T := fun k => ¬ ((k = 0 ∨ (w8.heap.size ≤ k ∧ k < w9.heap.size)) ∨ O k)) (fun k _ e h => by
                      rcases h with h | h
                      · omega
                      · have := HR.out.OH k h; omega)))
                    have HOJ := Aside0.mk ((Only.of_below hbW).trans (hOi.mono (T := fun k => ¬ O k) (fun k _ e h => by have := HR.out.OH k h; omega)))
                    have hcT3 := cell_keep hOi (fun e => by have e2 : T = _ := e; omega) hcT2
                    have hcM3 := cell_keep hOi (fun e => by have e2 : w.heap.size = _ := e; omega) hcM2
                    clear hI2 hbW hR2 hRi hOi hcN hcT hcK hcM hy hseq
                    by_cases hm : (pre.length : Int) + 1 = most
                    · have hm1 : ((pre.length : Int) + 1 == most) = true := by simpa using hm
                      have HMM := Aside0.mk hm
                      clear hm
                      gi_wp2
                      exact ⟨HOJ.out, .inl ⟨rfl, rfl, by have := HMM.out; simpa using this, HRI.out⟩⟩
                    · have hm1 : ((pre.length : Int) + 1 == most) = false := by simpa using hm
                      gi_wp2
                      exact ⟨HOI.out, HRI.out, HPF.out, fun _ _ => by simpa using hm⟩
                · have hp1 : ((pre.length : Int) == 0) = false := by simpa using (show ¬ ((pre.length : Int) = 0) by omega)
                  by_cases hm : (pre.length : Int) + 1 = most
                  · have hm1 : ((pre.length : Int) + 1 == most) = true := by simpa using hm
                    have HMM := Aside0.mk hm
                    clear hm
                    gi_wp2
                    exact ⟨HOJ.out, .inl ⟨rfl, rfl, by have := HMM.out; simpa using this, HRI.out⟩⟩
                  · have hm1 : ((pre.length : Int) + 1 == most) = false := by simpa using hm
                    gi_wp2
                    exact ⟨HOI.out, HRI.out, HPF.out, fun _ _ => by simpa using hm⟩
              · by_cases hp0 : pre.length = 0
                · have hp1 : ((pre.length : Int) == 0) = true := by simpa using (show ((pre.length : Int) = 0) by omega)
                  clear hp0
                  gi_wp2
                  exact ⟨HOI.out, HRI.out, HPF.out, fun h => absurd h (by decide)⟩
                · have hp1 : ((pre.length : Int) == 0) = false := by simpa using (show ¬ ((pre.length : Int) = 0) by omega)
                  gi_wp2
                  exact ⟨HOI.out, HRI.out, HPF.out, fun h => absurd h (by decide)⟩
            · have hne : ((x : Int) != (y : Int)) = true := by simpa using (show ¬ ((x : Int) = (y : Int)) by omega)
              gi_wp2
              refine ⟨((Only.refl _ W1).setCell ⟨w.heap.size + 1, 0, none⟩ _ (.inl (show ¬ O (w.heap.size + 1) from fun e => by have := HR.out.OH _ e; omega))), .inr ⟨rfl, ?_⟩⟩
              rintro ⟨rest', hr⟩
              exact hxy (by rw [HYL.out]; simp [hr])
          case hdone =>
            rintro D O xs W hD hxs hI hK hOD
            obtain rfl : xs = L := hxs
            have hR := hI.rb
            have hcN := hR.cN
            have hBL1 : Below wL.heap.size wL W := HO.out.B.trans (hR.B.mono HO.out.B.size)
            have hcT := pw_cell_below hR.B HO.out.cT
            have hcK := pw_cell_below hBL1 HMk.out
            have HNX := Aside0.mk (HO.out.next hR.B (by omega) hK ((t : Int) + 1) (by omega))
            clear hI hK hOD hR hBL1
            dsimp only
            gi_wp2
            refine ⟨2 - (t + 1), by omega, t + 1, W.heap.size, D :: Ds, rfl, by omega, HNX, ?_⟩
            (repeat apply Exists.intro)
            exact rfl
          case hstop =>
            rintro D O c pre W hD ⟨rest, hrest⟩ hI hK hOD
            rcases hI with ⟨rfl, rfl, hm, hR⟩ | ⟨rfl, hno⟩
            · have hcN := hR.cN
              have hBL1 : Below wL.heap.size wL W := HO.out.B.trans (hR.B.mono HO.out.B.size)
              have hcT := pw_cell_below hR.B HO.out.cT
              have hcK := pw_cell_below hBL1 HMk.out
              have hcM := pw_cell_below (HBL.out.trans (hBL1.mono HBL.out.size)) HM.out
              have hm1 : ((pre.length : Int) != most) = false := by simpa using hm
              have HNX := Aside0.mk (HO.out.next hR.B (by omega) hK 1 rfl)
              clear hK hOD hR hBL1 hm hrest
              by_cases hpl : pre.length = L.length
              · have hq : ((pre.length : Int) != (L.length : Int)) = false := by simpa using (show (pre.length : Int) = (L.length : Int) by omega)
                clear hpl
                dsimp only
                gi_wp2
                refine ⟨1, by omega, 1, W.heap.size, D :: Ds, rfl, by omega, HNX, ?_⟩
                (repeat apply Exists.intro)
                exact rfl
              · have hq : ((pre.length : Int) != (L.length : Int)) = true := by simpa using (show ¬ (pre.length : Int) = (L.length : Int) by omega)
                dsimp only
                gi_wp2
                refine ⟨1, by omega, 1, W.heap.size, D :: Ds, rfl, by omega, HNX, ?_⟩
                (repeat apply Exists.intro)
                exact rfl
            · exact absurd ⟨rest, hrest⟩ hno
        · obtain rfl : t = 2 := by omega
          have hb1 := HBL.out.trans (HO.out.B.mono HBL.out.size)
          have hc6 := pw_cell_below hb1 H6.out
          have hf6 := froz_below H6.out G6.out hb1
          have HB1r := Aside0.mk hb1
          clear hb1
          gi_wp2
          obtain ⟨wf, hwf⟩ : ∃ W, W = wr.setCell ⟨w.heap.size + 1, 0, none⟩ (.bool true) := ⟨_, rfl⟩
          have hOf : Only (fun k => k = w.heap.size + 1) wr wf := by rw [hwf]; exact (Only.refl _ _).setCell _ _ (.inl rfl)
          have k6 : wf.cell? ⟨w.heap.size + 1, 0, none⟩ = some (.bool true) := by rw [hwf]; exact World.cell?_setCell_same' _ _ _ (by rw [hc6]; rfl)
          have hz1 := HBL.out.size
          have hz2 := HS1.out
          rw [← hwf]
          refine leaves_marks Ds wf HO.out.nd (fun D hD => keeps_of hOf (fun e => by have := (HO.out.dk D hD).1; have e2 : D = _ := e; omega) (HO.out.dk D hD).2) (fun W' hO' => ?_)
          have k6' : W'.cell? ⟨w.heap.size + 1, 0, none⟩ = some (.bool true) := cell_keep hO' (fun e => by have := (HO.out.dk _ e).1; have e3 : wL.heap.size ≤ w.heap.size + 1 := this; omega) k6
          refine ⟨.bool true, by simp [results, Tryd.results3, go_sem, k6'], rfl, ?_⟩
          have h1 : Below w.heap.size w wr := HB1.out.trans (HB1r.out.mono HB1.out.size)
          exact (h1.trans (hOf.below h1.size (fun k e => by have e2 : k = _ := e; omega))).trans (hO'.below (Nat.le_trans h1.size hOf.size) (fun k e => by have := (HO.out.dk _ e).1; omega))
end Go.Proofs.YtbdlihldmmbdmaaDoor.PickLists

namespace Go.Proofs.YtbdlihldmmbdmaaDoor.pickListsCard
open Go.ChangeShapes Go.WideShapes Go.ChangeAt Go.RowKit Go.Proofs.YtbdlihldmmbdmaaDoorW.PrintWords Go.Proofs.YtbdlihldmmbdmaaDoor.Args
set_option linter.unusedVariables false
set_option linter.unusedSimpArgs false
theorem own : ownKnob Tryd.prog.godebug = none := by kernel_rfl
theorem laidOut : laidOutB Tryd.prog = true := by kernel_rfl
theorem gTab : Tryd.prog.globalNamed "math/bits.deBruijn32tab" = some 0 := by kernel_rfl
theorem gTabType : (Tryd.prog.globals[0]?).map (·.type) = some 65 := by kernel_rfl
theorem cellsTab : Tryd.prog.cellsOf 65 = 32 := by kernel_rfl
theorem cellsByte : Tryd.prog.cellsOf 5 = 1 := by kernel_rfl
theorem table {W : World} (h : laidMetH Tryd.prog Rows.pickListsUptoRow.laid W) : Lib.TabIs Tryd.prog W "math/bits.deBruijn32tab" .u8 (Lib.deBruijn32tab.map fun n : Nat => (n : Int)) :=
  Lib.tabIs_of_head (rest := []) gTab gTabType Tryd.underlying65 Tryd.underlying5 cellsByte cellsTab h
theorem tab_of {W : World} (h : laidMetH Tryd.prog Rows.pickListsUptoRow.laid W) : Go.Proofs.YtbdlihldmmbdmaaDoor.Bits.TabW W := ⟨fun j hj => by
  have h1 := (table h).cell gTab j (by rw [List.length_map]; exact hj)
  rw [h1, List.getD_eq_getElem?_getD, List.getElem?_map, List.getElem?_eq_getElem hj, List.getD_eq_getElem?_getD, List.getElem?_eq_getElem hj]; rfl⟩
set_option maxRecDepth 100000 in
theorem contract (H : Type) (enc : TypeId × Value → H) (W : World) (base : Nat) (args : Array Value) (ds gs : List (DataW H)) (before : List MemPlace)
    (hval : ∀ (j : Nat) t v, Tryd.f3.params[j]? = some t → args[j]? = some v → Value.okWide Tryd.prog W .any base t v)
    (hW : DataW.Whole enc Tryd.prog Tryd.f3.params.toList Rows.pickListsSpec.vars false W args.toList ds gs before) (hL : laidMetH Tryd.prog Rows.pickListsUptoRow.laid W) (hk : Rows.uptoSmall H (ds ++ gs) = true) :
    Calls Tryd.prog 3 args W fun e W' => ∃ v, e = .returned v ∧ Rows.pickListsSpec.post enc Tryd.prog Tryd.f3 false true false false W args v W' := by
  have hT := tab_of hL
  have hkb : Rows.uptoBulkAll (ds ++ gs) ≤ 1048576 := of_decide_eq_true hk
  have hW' := hW
  obtain ⟨p, q, hA0, hV, rfl, hfz, hnd⟩ := hW
  have hA : DataW.TrodAll enc Tryd.prog W 0 (fun _ => true) true Tryd.f3.params.toList args.toList ds p := hA0
  rw [Tryd.params3] at hA hval
  obtain ⟨v0, vs0, d0, ds0, p0, q0, hargs, rfl, rfl, h0, r0⟩ := trodAll_cons hA
  obtain ⟨v1, vs1, d1, ds1, p1, q1, rfl, rfl, rfl, h1, r1⟩ := trodAll_cons r0
  obtain ⟨v2, vs2, d2, ds2, p2, q2, rfl, rfl, rfl, h2, r2⟩ := trodAll_cons r1
  obtain ⟨rfl, rfl, rfl⟩ := trodAll_nil r2
  obtain rfl : args = #[v0, v1, v2] := by cases args; simp_all
  obtain ⟨rfl, rfl⟩ := trodVars_none hV
  simp only [List.cons_append, List.nil_append, List.append_nil, Rows.uptoBulkAll] at hkb
  obtain ⟨A0, c0, l0, rfl, hc0, hr0, hn0, hl0⟩ := rows_of_trod_small (B := 1048576) Tryd.underlying22 Tryd.underlying23 Tryd.underlying3 (by kernel_rfl) (by kernel_rfl) (by obtain ⟨a_, n_, c_, rfl⟩ := okWide_slice Tryd.underlying22 (hval 0 22 v0 rfl rfl); exact ⟨_, _, _, rfl⟩) h0 (by omega)
  have lt0 : ∀ x ∈ p0, x.block < W.heap.size := by obtain ⟨m, hm⟩ := h0; exact DataW.trod_lt m _ _ _ hm
  obtain ⟨A1, c1, l1, rfl, hc1, hr1, hw1, hn1⟩ := ints_of_trod_small (B := 1048576) Tryd.underlying23 Tryd.underlying3 (by kernel_rfl) (by obtain ⟨a_, n_, c_, rfl⟩ := okWide_slice Tryd.underlying23 (hval 1 23 v1 rfl rfl); exact ⟨_, _, _, rfl⟩) h1 (by omega)
  have lt1 : ∀ x ∈ p1, x.block < W.heap.size := by obtain ⟨m, hm⟩ := h1; exact DataW.trod_lt m _ _ _ hm
  obtain ⟨n2, rfl, rfl, rfl, w2⟩ := open_int Tryd.underlying3 (hval 2 3 v2 rfl rfl) h2
  clear hA0
  have walk : Calls Tryd.prog 3 #[.slice A0 l0.length c0, .slice A1 l1.length c1, .int .i64 n2] W fun e w' => e = .returned (.bool true) ∧ Below W.heap.size W w' := Go.Proofs.YtbdlihldmmbdmaaDoor.PickLists.lists_calls A0 c0 l0 A1 c1 l1 n2 W hr0 hc0 hr1 hc1 hn0 hl0 hn1 hT
  refine walk.mono fun e W' ⟨he, bel⟩ => ?_
  subst he
  exact ⟨_, rfl, _, _, _, [], _, [], hW', trodAll_mk1 (shut_bool Tryd.underlying4 _), (trodAll_cons_mk (Below.trod laidOut (by kernel_rfl) (of_decide_eq_true (by kernel_rfl)) h0 bel lt0) (trodAll_cons_mk (Below.trod laidOut (by kernel_rfl) (of_decide_eq_true (by kernel_rfl)) h1 bel lt1) (trodAll_cons_mk (shut_int Tryd.underlying3 w2) trodAll_mk0))), rfl, bel.frame _, fun h => by cases h⟩
/-- A world for the witness: the settled one, the table's block holding what its initialiser lays. -/
noncomputable def laidWorld (os : Os) : World :=
  { World.holding Tryd.prog os ⟨#[], #[], []⟩ with heap := (World.holding Tryd.prog os ⟨#[], #[], []⟩).heap.modify 0 fun
      | .cells _ t frozen => .cells (Lib.deBruijn32tab.map fun n : Nat => Value.int .u8 (n : Int)).toArray t frozen
      | o => o }
theorem laid_met (os : Os) : laidMet Tryd.prog Rows.pickListsUptoRow.laid ((laidWorld os).forCall (fun _ _ => 0) ⟨#[], #[.slice none 0 0, .slice none 0 0, .int .i64 0], []⟩).memory :=
  laidMet_of_run' 8 (by kernel_rfl) (by kernel_rfl)
theorem reads (os : Os) {H : Type} (enc : TypeId × Value → H) : ∃ places, DataW.whole enc Tryd.prog ((laidWorld os).forCall (fun _ _ => 0) ⟨#[], #[.slice none 0 0, .slice none 0 0, .int .i64 0], []⟩).memory Tryd.f3.params.toList Rows.pickListsSpec.vars false (#[.slice none 0 0, .slice none 0 0, .int .i64 0] : Array Value).toList 8 = some ([.nil, .nil, .lit (.int .i64 0)], [], places) :=
  ⟨[], by kernel_rfl⟩
set_option maxRecDepth 100000 in
theorem lifted (os : Os) (started : os.Started) (H : Type) (enc : TypeId × Value → H) (F : Stop.Interp) :
    ReturnsInHanded {} Tryd.checked os 3 .any ((Rows.OpenSpec.upto Rows.pickListsSpec).preRow enc Tryd.prog Tryd.f3 Rows.pickListsUptoRow.domain false Rows.pickListsUptoRow.laid) (((Rows.OpenSpec.upto Rows.pickListsSpec).at F).post enc Tryd.prog Tryd.f3 false true false false) := by
  obtain ⟨places, hx⟩ := reads os enc
  refine returnsInHanded_of_row (C := Tryd.checked) (s := (Rows.OpenSpec.upto Rows.pickListsSpec)) own started (by kernel_rfl) Tryd.func3
    (witness_row_at (enc := enc) (C := Tryd.checked) false (laidWorld os) #[.slice none 0 0, .slice none 0 0, .int .i64 0] rfl (by kernel_rfl) (by kernel_rfl) (by kernel_rfl)
      (OpenSpec.preRow_of_cond 8 hx (by kernel_rfl) (fun k hk => by cases hk; kernel_rfl) (by kernel_rfl) (laid_met os))) ?_
  intro W base args ds gs before hval hW _ hcnd _ hL _ _
  exact contract H enc W base args ds gs before hval hW hL (hcnd _ rfl)
theorem said : Rows.PickListsUptoSaid :=
  OpenClaim.holds_of_cond 3 Tryd.f3 rfl rfl rfl rfl rfl rfl rfl ⟨rfl, rfl, rfl, rfl, rfl⟩ rfl rfl rfl rfl rfl (by kernel_rfl) Tryd.func3 (by kernel_rfl)
    (of_decide_eq_true (by kernel_rfl)) (by unfold Func.isWrapper; first | (rw [if_pos (by decide +kernel)]; kernel_rfl) | (rw [if_neg (by decide +kernel)]; exact ⟨rfl, rfl⟩))
    (fun os started H enc _ F => by rw [OpenClaim.pre_eq_preRow]; exact lifted os started H enc F)
theorem plain (f : FuncId) (fn : Func) (hf : Tryd.pinned.checked.prog.funcNamed "amalgam/amalgamlaw10.PickLists" = some f) (hfn : Tryd.pinned.checked.prog.funcs[f]? = some fn) :
    false = Tryd.pinned.checked.prog.looks [] ∧ ∀ (j : Nat) t, fn.params[j]? = some t → Tryd.pinned.checked.prog.wantsStandIn t = false := by
  obtain rfl : f = 3 := Option.some.inj ((show Tryd.prog.funcNamed "amalgam/amalgamlaw10.PickLists" = some 3 by kernel_rfl).symm.trans hf) |>.symm
  obtain rfl : fn = Tryd.f3 := (Option.some.inj (Tryd.func3.symm.trans hfn)).symm
  refine ⟨by kernel_rfl, fun j t ht => ?_⟩
  rw [Tryd.params3] at ht
  have hm := Array.mem_of_getElem? ht
  have hm2 : t = 22 ∨ t = 23 ∨ t = 3 := by simpa using hm
  rcases hm2 with rfl | rfl | rfl
  · exact (show Tryd.prog.wantsStandIn 22 = false by kernel_rfl)
  · exact (show Tryd.prog.wantsStandIn 23 = false by kernel_rfl)
  · exact (show Tryd.prog.wantsStandIn 3 = false by kernel_rfl)
/-- The card. -/
theorem card : Rows.PickListsUptoCardSaid :=
  Claim7.holds_tied_plain_at .later [] _ _ _ _ said (fun _ h => by cases h) (by kernel_rfl) (fun _ h => by cases h) pickListsUpto_row_tie rfl ⟨rfl, rfl⟩ (by kernel_rfl) rfl plain (by kernel_rfl)
end Go.Proofs.YtbdlihldmmbdmaaDoor.pickListsCard
namespace Go.Proofs.YtbdlihldmmbdmaaDoor
/-- The card, under a short name, for the claim. -/
theorem pickListsUpto_holds : Rows.PickListsUptoCardSaid := pickListsCard.card
end Go.Proofs.YtbdlihldmmbdmaaDoor
