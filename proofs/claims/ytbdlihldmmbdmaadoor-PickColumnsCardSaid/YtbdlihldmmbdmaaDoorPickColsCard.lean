/- The law PickColumns holds: whatever came in, the call answers true and all that came in reads as it did. Condition: math/bits' table holds what its initialiser lays (the card ties that). -/
import Derived.Test.YtbdlihldmmbdmaaDoorCards
import Derived.Test.YtbdlihldmmbdmaaDoorTie
import Derived.Test.YtbdlihldmmbdmaaDoorArgs
import Derived.Test.YtbdlihldmmbdmaaDoorPickCols
import Derived.Deep.DeepHandedRow
import Derived.Lib.LaidTab
namespace Go.Proofs.YtbdlihldmmbdmaaDoor.pickColumnsCard
open Go.ChangeShapes Go.WideShapes Go.ChangeAt Go.RowKit Go.Proofs.YtbdlihldmmbdmaaDoorW.PrintWords Go.Proofs.YtbdlihldmmbdmaaDoor.Args
set_option linter.unusedVariables false
theorem own : ownKnob Tryd.prog.godebug = none := by kernel_rfl
theorem laidOut : laidOutB Tryd.prog = true := by kernel_rfl
theorem gTab : Tryd.prog.globalNamed "math/bits.deBruijn32tab" = some 0 := by kernel_rfl
theorem gTabType : (Tryd.prog.globals[0]?).map (·.type) = some 65 := by kernel_rfl
theorem cellsTab : Tryd.prog.cellsOf 65 = 32 := by kernel_rfl
theorem cellsByte : Tryd.prog.cellsOf 5 = 1 := by kernel_rfl
theorem table {W : World} (h : laidMetH Tryd.prog Rows.pickColumnsRow.laid W) : Lib.TabIs Tryd.prog W "math/bits.deBruijn32tab" .u8 (Lib.deBruijn32tab.map fun n : Nat => (n : Int)) :=
  Lib.tabIs_of_head (rest := []) gTab gTabType Tryd.underlying65 Tryd.underlying5 cellsByte cellsTab h
theorem tab_of {W : World} (h : laidMetH Tryd.prog Rows.pickColumnsRow.laid W) : Go.Proofs.YtbdlihldmmbdmaaDoor.Bits.TabW W := ⟨fun j hj => by
  have h1 := (table h).cell gTab j (by rw [List.length_map]; exact hj)
  rw [h1, List.getD_eq_getElem?_getD, List.getElem?_map, List.getElem?_eq_getElem hj, List.getD_eq_getElem?_getD, List.getElem?_eq_getElem hj]; rfl⟩
set_option maxRecDepth 100000 in
theorem contract (H : Type) (enc : TypeId × Value → H) (W : World) (base : Nat) (args : Array Value) (ds gs : List (DataW H)) (before : List MemPlace)
    (hval : ∀ (j : Nat) t v, Tryd.f6.params[j]? = some t → args[j]? = some v → Value.okWide Tryd.prog W .any base t v)
    (hW : DataW.Whole enc Tryd.prog Tryd.f6.params.toList Rows.pickColumnsSpec.vars false W args.toList ds gs before) (hL : laidMetH Tryd.prog Rows.pickColumnsRow.laid W) :
    Calls Tryd.prog 6 args W fun e W' => ∃ v, e = .returned v ∧ Rows.pickColumnsSpec.post enc Tryd.prog Tryd.f6 false true false false W args v W' := by
  have hT := tab_of hL
  have hW' := hW
  obtain ⟨p, q, hA0, hV, rfl, hfz, hnd⟩ := hW
  have hA : DataW.TrodAll enc Tryd.prog W 0 (fun _ => true) true Tryd.f6.params.toList args.toList ds p := hA0
  rw [Tryd.params6] at hA hval
  obtain ⟨v0, vs0, d0, ds0, p0, q0, hargs, rfl, rfl, h0, r0⟩ := trodAll_cons hA
  obtain ⟨v1, vs1, d1, ds1, p1, q1, rfl, rfl, rfl, h1, r1⟩ := trodAll_cons r0
  obtain ⟨v2, vs2, d2, ds2, p2, q2, rfl, rfl, rfl, h2, r2⟩ := trodAll_cons r1
  obtain ⟨rfl, rfl, rfl⟩ := trodAll_nil r2
  obtain rfl : args = #[v0, v1, v2] := by cases args; simp_all
  obtain ⟨rfl, rfl⟩ := trodVars_none hV
  obtain ⟨A0, c0, l0, rfl, hc0, hr0⟩ := rows_of_trod Tryd.underlying22 Tryd.underlying23 Tryd.underlying3 (by kernel_rfl) (by kernel_rfl) (by obtain ⟨a_, n_, c_, rfl⟩ := okWide_slice Tryd.underlying22 (hval 0 22 v0 rfl rfl); exact ⟨_, _, _, rfl⟩) h0
  have lt0 : ∀ x ∈ p0, x.block < W.heap.size := by obtain ⟨m, hm⟩ := h0; exact DataW.trod_lt m _ _ _ hm
  obtain ⟨A1, c1, l1, rfl, hc1, hr1, hw1⟩ := ints_of_trod Tryd.underlying23 Tryd.underlying3 (by kernel_rfl) (by obtain ⟨a_, n_, c_, rfl⟩ := okWide_slice Tryd.underlying23 (hval 1 23 v1 rfl rfl); exact ⟨_, _, _, rfl⟩) h1
  have lt1 : ∀ x ∈ p1, x.block < W.heap.size := by obtain ⟨m, hm⟩ := h1; exact DataW.trod_lt m _ _ _ hm
  obtain ⟨n2, m2, rfl, wn2, wm2⟩ := arr2_of_trod Tryd.underlying45 Tryd.underlying37 (by kernel_rfl) (by kernel_rfl) (hval 2 45 v2 rfl rfl) h2
  have lt2 : ∀ x ∈ p2, x.block < W.heap.size := by obtain ⟨m, hm⟩ := h2; exact DataW.trod_lt m _ _ _ hm
  clear hA0
  have walk : Calls Tryd.prog 6 #[.slice A0 l0.length c0, .slice A1 l1.length c1, .agg #[.int .u32 n2, .int .u32 m2]] W fun e w' => e = .returned (.bool true) ∧ Below W.heap.size W w' := by
    have bn : 0 ≤ n2 ∧ n2 ≤ 4294967295 := u32_of_wf wn2
    have bm : 0 ≤ m2 ∧ m2 ≤ 4294967295 := u32_of_wf wm2
    obtain ⟨x0, rfl⟩ : ∃ x0 : Nat, n2 = (x0 : Int) := ⟨n2.toNat, by omega⟩
    obtain ⟨x1, rfl⟩ : ∃ x1 : Nat, m2 = (x1 : Int) := ⟨m2.toNat, by omega⟩
    exact Go.Proofs.YtbdlihldmmbdmaaDoor.PickCols.cols_calls A0 c0 l0 A1 c1 l1 x0 x1 (by omega) (by omega) W hr0 hc0 hr1 hc1 hT
  refine walk.mono fun e W' ⟨he, bel⟩ => ?_
  subst he
  exact ⟨_, rfl, _, _, _, [], _, [], hW', trodAll_mk1 (shut_bool Tryd.underlying4 _), (trodAll_cons_mk (Below.trod laidOut (by kernel_rfl) (of_decide_eq_true (by kernel_rfl)) h0 bel lt0) (trodAll_cons_mk (Below.trod laidOut (by kernel_rfl) (of_decide_eq_true (by kernel_rfl)) h1 bel lt1) (trodAll_cons_mk (Below.trod laidOut (by kernel_rfl) (of_decide_eq_true (by kernel_rfl)) h2 bel lt2) trodAll_mk0))), rfl, bel.frame _, fun h => by cases h⟩
/-- A world for the witness: the settled one, the table's block holding what its initialiser lays. -/
noncomputable def laidWorld (os : Os) : World :=
  { World.holding Tryd.prog os ⟨#[], #[], []⟩ with heap := (World.holding Tryd.prog os ⟨#[], #[], []⟩).heap.modify 0 fun
      | .cells _ t frozen => .cells (Lib.deBruijn32tab.map fun n : Nat => Value.int .u8 (n : Int)).toArray t frozen
      | o => o }
theorem laid_met (os : Os) : laidMet Tryd.prog Rows.pickColumnsRow.laid ((laidWorld os).forCall (fun _ _ => 0) ⟨#[], #[.slice none 0 0, .slice none 0 0, .agg #[.int .u32 0, .int .u32 0]], []⟩).memory :=
  laidMet_of_run' 8 (by kernel_rfl) (by kernel_rfl)
theorem reads (os : Os) {H : Type} (enc : TypeId × Value → H) : ∃ places, DataW.whole enc Tryd.prog ((laidWorld os).forCall (fun _ _ => 0) ⟨#[], #[.slice none 0 0, .slice none 0 0, .agg #[.int .u32 0, .int .u32 0]], []⟩).memory Tryd.f6.params.toList Rows.pickColumnsSpec.vars false (#[.slice none 0 0, .slice none 0 0, .agg #[.int .u32 0, .int .u32 0]] : Array Value).toList 8 = some ([.nil, .nil, .agg [.lit (.int .u32 0), .lit (.int .u32 0)]], [], places) :=
  ⟨[], by kernel_rfl⟩
set_option maxRecDepth 100000 in
theorem lifted (os : Os) (started : os.Started) (H : Type) (enc : TypeId × Value → H) (F : Stop.Interp) :
    ReturnsInHanded {} Tryd.checked os 6 .any ((OpenSpec.ofChange Rows.pickColumnsSpec).preRow enc Tryd.prog Tryd.f6 Rows.pickColumnsRow.domain false Rows.pickColumnsRow.laid) (((OpenSpec.ofChange Rows.pickColumnsSpec).at F).post enc Tryd.prog Tryd.f6 false true false false) := by
  obtain ⟨places, hx⟩ := reads os enc
  refine returnsInHanded_of_row (C := Tryd.checked) (s := (OpenSpec.ofChange Rows.pickColumnsSpec)) own started (by kernel_rfl) Tryd.func6
    (witness_row_at (enc := enc) (C := Tryd.checked) false (laidWorld os) #[.slice none 0 0, .slice none 0 0, .agg #[.int .u32 0, .int .u32 0]] rfl (by kernel_rfl) (by kernel_rfl) (by kernel_rfl)
      (OpenSpec.preRow_of_cond 8 hx (by kernel_rfl) (fun k hk => by cases hk) (by kernel_rfl) (laid_met os))) ?_
  intro W base args ds gs before hval hW hcnd _ _ hL _ _
  exact contract H enc W base args ds gs before hval hW hL
theorem said : Rows.PickColumnsSaid :=
  OpenClaim.holds_of_cond 6 Tryd.f6 rfl rfl rfl rfl rfl rfl rfl ⟨rfl, rfl, rfl, rfl, rfl⟩ rfl rfl rfl rfl rfl (by kernel_rfl) Tryd.func6 (by kernel_rfl)
    (of_decide_eq_true (by kernel_rfl)) (by unfold Func.isWrapper; first | (rw [if_pos (by decide +kernel)]; kernel_rfl) | (rw [if_neg (by decide +kernel)]; exact ⟨rfl, rfl⟩))
    (fun os started H enc _ F => by rw [OpenClaim.pre_eq_preRow]; exact lifted os started H enc F)
theorem plain (f : FuncId) (fn : Func) (hf : Tryd.pinned.checked.prog.funcNamed "amalgam/amalgamlaw10.PickColumns" = some f) (hfn : Tryd.pinned.checked.prog.funcs[f]? = some fn) :
    false = Tryd.pinned.checked.prog.looks [] ∧ ∀ (j : Nat) t, fn.params[j]? = some t → Tryd.pinned.checked.prog.wantsStandIn t = false := by
  obtain rfl : f = 6 := Option.some.inj ((show Tryd.prog.funcNamed "amalgam/amalgamlaw10.PickColumns" = some 6 by kernel_rfl).symm.trans hf) |>.symm
  obtain rfl : fn = Tryd.f6 := (Option.some.inj (Tryd.func6.symm.trans hfn)).symm
  refine ⟨by kernel_rfl, fun j t ht => ?_⟩
  rw [Tryd.params6] at ht
  have hm := Array.mem_of_getElem? ht
  have hm2 : t = 22 ∨ t = 23 ∨ t = 45 := by simpa using hm
  rcases hm2 with rfl | rfl | rfl
  · exact (show Tryd.prog.wantsStandIn 22 = false by kernel_rfl)
  · exact (show Tryd.prog.wantsStandIn 23 = false by kernel_rfl)
  · exact (show Tryd.prog.wantsStandIn 45 = false by kernel_rfl)
/-- The card. -/
theorem card : Rows.PickColumnsCardSaid :=
  Claim7.holds_tied_plain_at .later [] _ _ _ _ said (fun _ h => by cases h) (by kernel_rfl) (fun _ h => by cases h) pickColumns_row_tie rfl ⟨rfl, rfl⟩ (by kernel_rfl) rfl plain (by kernel_rfl)
end Go.Proofs.YtbdlihldmmbdmaaDoor.pickColumnsCard
namespace Go.Proofs.YtbdlihldmmbdmaaDoor
/-- The card, under a short name, for the claim. -/
theorem pickColumns_holds : Rows.PickColumnsCardSaid := pickColumnsCard.card
end Go.Proofs.YtbdlihldmmbdmaaDoor
