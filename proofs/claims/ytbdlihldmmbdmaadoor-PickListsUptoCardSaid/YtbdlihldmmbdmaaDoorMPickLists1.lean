/- The law PickLists holds, where what came in and the table hold together at most 1048576 values: the call answers true and all that came in reads as it did; the printed and hand-written texts that this takes. (part 1 of 3) -/
import Derived.Test.YtbdlihldmmbdmaaDoorWWords
import Derived.WalkKit
import Derived.ProofKit
import Derived.OpenShut
import Derived.ShutString
import Derived.ChangeOld
import Derived.Below
import Derived.SizedLaws
import Derived.Deep.Matrix
import Derived.WideKeyArgs
import Derived.Lib.LaidTab
import Derived.Test.YtbdlihldmmbdmaaDoorRows
import Derived.ArgAppend
import Derived.Test.YtbdlihldmmbdmaaDoorProg
import Derived.Lib.Hide
import Derived.Outline
import Derived.WalkSpells
import Derived.Deep.Draws
import Derived.Deep.AppendLies
import Derived.Maps.AppendAt
import Derived.OwnWalk
import Derived.Laws.BytesArg
import Derived.Laws.MakeOwn
import Derived.Laws.OwnMore
import Derived.Deep.OwnRows
import Derived.Tactics
import Derived.Lib.ConvBytes
import Derived.Laws.Slices
import Derived.KernelRfl
import Derived.RowKit3
import Derived.Deep.LoopGhost
import Derived.Deep.QuietTactic
import Derived.BigQuiet
import Derived.WideLaws
import Derived.Deep.DeepCutAuto
import Derived.Deep.CutBlock
import Derived.Deep.RegionHeld3
import Derived.Laws.Rows
import Derived.Lib.AppendStr
import Derived.Laws.IdiomCopy
import Derived.OrdersHeld
import Derived.Laws.BitsLemmas
import Derived.RowKit
import Derived.Test.YtbdlihldmmbdmaaDoorWLast
import Derived.Test.YtbdlihldmmbdmaaDoorWTab
import Derived.Test.YtbdlihldmmbdmaaDoorWFour
import Derived.Test.YtbdlihldmmbdmaaDoorWQPut
import Derived.Test.YtbdlihldmmbdmaaDoorWApart
import Derived.Test.YtbdlihldmmbdmaaDoorWArr
import Derived.Test.YtbdlihldmmbdmaaDoorWZeros
import Derived.Test.YtbdlihldmmbdmaaDoorWFoot
import Derived.Test.YtbdlihldmmbdmaaDoorWKept
import Derived.Test.YtbdlihldmmbdmaaDoorWShare
import Derived.Test.YtbdlihldmmbdmaaDoorWN
import Derived.Test.YtbdlihldmmbdmaaDoorWFootNe
import Derived.Test.YtbdlihldmmbdmaaDoorWAt
import Derived.Test.YtbdlihldmmbdmaaDoorWEqStruct
import Derived.Test.YtbdlihldmmbdmaaDoorWRepsOne
import Derived.Test.YtbdlihldmmbdmaaDoorWInv
import Derived.Test.YtbdlihldmmbdmaaDoorWInvWords
import Derived.Test.YtbdlihldmmbdmaaDoorWGuard
import Derived.Test.YtbdlihldmmbdmaaDoorWNEv
import Derived.Test.YtbdlihldmmbdmaaDoorWMore
import Derived.Shelf.Spec.TrailingZeros
import Derived.Lib.TrailingZeros
import Derived.RangeFuncNested
import Derived.RangeFuncBound
import Derived.RangeFuncCalls
import Derived.RangeFuncLeaves
import Derived.StillTailTactics
import Derived.Deep.RegionLaw
namespace Go.Proofs.YtbdlihldmmbdmaaDoor.Args
open Go.ChangeShapes Go.WideShapes Go.ChangeAt Go.RowKit Go.Deep Go.Proofs.YtbdlihldmmbdmaaDoorW.PrintWords
set_option linter.unusedVariables false

section
variable {H : Type} {enc : TypeId × Value → H} {P : Program} {w : World} {base : Nat} {held : Bool}

theorem C_take {k : IntKind} {W : World} {A : Option Addr} {L C : Nat} {Z : List Int} (h1 : L ≤ C) (h2 : C ≤ maxLen) (h3 : Z.length = C) (h4 : A = none → C = 0) (h5 : ∀ a', A = some a' → ∀ c, c < C → W.cell? (a'.add c) = some (.int k (Z.getD c 0))) :
    (Kd.int k).C W A L (Z.take L) := by
  refine Kd.C_of_reads (d := (0 : Int)) ⟨by simp; omega, by simp only [maxLen] at h2; omega, fun hn => ?_⟩
  cases A with
  | none => have := h4 rfl; omega
  | some a' =>
    refine ⟨a', rfl, fun j hj => ?_⟩
    rw [h5 a' rfl j (by omega), List.getD_eq_getElem?_getD, List.getD_eq_getElem?_getD, List.getElem?_take_of_lt hj]

/-- A slice of slices of whole numbers that came in reads as a list of lists. -/
theorem rows_of_trod {t e q : TypeId} {k : IntKind} {v : Value} {d : DataW H} {ps : List MemPlace} (ht : P.underlying t = some (.slice e)) (he : P.underlying e = some (.slice q)) (hq : P.underlying q = some (.int k))
    (ce : P.cellsOf e = 1) (cq : P.cellsOf q = 1) (hv : ∃ a n c, v = .slice a n c) (h : DataW.Trod enc P w base (fun _ => true) held t v d ps) :
    ∃ (A : Option Addr) (c : Nat) (rows : List (List Int)), v = .slice A rows.length c ∧ rows.length ≤ c ∧ (Kd.slice q (Kd.int k)).C w A rows.length rows := by
  obtain ⟨fuel, hf⟩ := h
  obtain ⟨va, vn, vc, rfl⟩ := hv
  rcases open_int_rows ht he hq ce cq hf with ⟨hcs, _⟩ | ⟨a, len, cap, A, L, C, Z, hcs, _, hl, hm, _, hx⟩
  · simp [Value.cells] at hcs
    obtain ⟨rfl, rfl, rfl⟩ := hcs
    exact ⟨none, 0, [], rfl, Nat.le_refl _, rfl, Nat.zero_le _, fun hn => absurd hn (by simp)⟩
  · simp [Value.cells] at hcs
    obtain ⟨rfl, rfl, rfl⟩ := hcs
    refine ⟨some a, vc, (List.range vn).map fun r => (Z r).take (L r), by simp, by simpa using hl, by simp, ?_, fun hn => ⟨a, rfl, fun j p hj => ?_⟩⟩
    · simp only [maxLen] at hm
      simp
      omega
    · obtain ⟨hj1, hj2⟩ := List.getElem?_eq_some_iff.1 hj
      simp at hj1 hj2
      subst hj2
      obtain ⟨c1, c2, c3, c4, _, c6, c7⟩ := hx j (by omega)
      refine ⟨[.slice (A j) (L j) (C j)], rfl, ⟨A j, C j, ?_, ?_, ?_⟩, fun i u hu => ?_⟩
      · simp; omega
      · simp; omega
      · have := C_take (W := w) (A := A j) c2 c3 c4 c6 (fun a' ha => (c7 a' ha).2)
        have hlen : ((Z j).take (L j)).length = L j := by simp; omega
        rw [hlen]
        exact this
      · cases i with
        | zero =>
          have : Value.slice (A j) (L j) (C j) = u := by simpa using hu
          subst this
          simpa [Kd.slice] using c1
        | succ i => simp at hu

theorem u32_of_wf {n : Int} (h : (Lit.int .u32 n).wf = true) : 0 ≤ n ∧ n ≤ 4294967295 := by
  have e1 : IntKind.min .u32 = 0 := by decide
  have e2 : IntKind.max .u32 = 4294967295 := by decide
  simp only [Lit.wf, Bool.and_eq_true, decide_eq_true_eq, e1, e2] at h
  exact h

/-- A slice of whole numbers that came in reads as a list. -/
theorem ints_of_trod {t e : TypeId} {k : IntKind} {v : Value} {d : DataW H} {ps : List MemPlace} (ht : P.underlying t = some (.slice e)) (he : P.underlying e = some (.int k)) (ce : P.cellsOf e = 1)
    (hv : ∃ a n c, v = .slice a n c) (h : DataW.Trod enc P w base (fun _ => true) held t v d ps) :
    ∃ (A : Option Addr) (c : Nat) (l : List Int), v = .slice A l.length c ∧ l.length ≤ c ∧ (Kd.int k).C w A l.length l ∧ ∀ x ∈ l, (Lit.int k x).wf = true := by
  obtain ⟨fuel, hf⟩ := h
  obtain ⟨va, vn, vc, rfl⟩ := hv
  rcases open_ints ht he ce hf with ⟨hcs, _⟩ | ⟨x, l, c, zs, hcs, _, hl, hm, hz, _, hcell, hwz⟩
  · simp [Value.cells] at hcs
    obtain ⟨rfl, rfl, rfl⟩ := hcs
    exact ⟨none, 0, [], rfl, Nat.le_refl _, ⟨rfl, Nat.zero_le _, fun hn => absurd hn (by simp)⟩, fun x hx => by cases hx⟩
  · simp [Value.cells] at hcs
    obtain ⟨rfl, rfl, rfl⟩ := hcs
    have hz' : zs.length = vc := by simpa using hz
    have hlen : (zs.take vn).length = vn := by simp; omega
    refine ⟨some x, vc, zs.take vn, by rw [hlen], by omega, ?_, fun y hy => hwz y (List.mem_of_mem_take hy)⟩
    rw [hlen]
    exact C_take (C := vc) hl hm hz' (fun h => by cases h) (fun a' ha c' hc' => by cases ha; exact hcell c' (by omega))

/-- An array of two whole numbers that came in. -/
theorem arr2_of_trod {t e : TypeId} {k : IntKind} {r : Reach} {b0 : Nat} {v : Value} {d : DataW H} {ps : List MemPlace} (ht : P.underlying t = some (.array 2 e)) (he : P.underlying e = some (.int k)) (ce : P.cellsOf e = 1) (ct : P.cellsOf t = 2)
    (hv : Value.okWide P w r b0 t v) (h : DataW.Trod enc P w base (fun _ => true) held t v d ps) : ∃ a b : Int, v = .agg #[.int k a, .int k b] ∧ (Lit.int k a).wf = true ∧ (Lit.int k b).wf = true := by
  simp only [Value.okWide, ht] at hv
  obtain ⟨cs, rfl, hs, _⟩ := hv
  rw [ct] at hs
  obtain ⟨fuel, h⟩ := h
  cases fuel with
  | zero => simp [DataW.trod] at h
  | succ fuel =>
    simp only [DataW.trod, ht, ce, ct, Nat.mul_one] at h
    split at h
    · obtain ⟨xs, hm, hx⟩ := Option.map_eq_some_iff.1 h
      obtain ⟨y0, _, hf0⟩ := Lib.mapM_at hm 0 0 (by simp)
      obtain ⟨y1, _, hf1⟩ := Lib.mapM_at hm 1 1 (by simp)
      obtain ⟨a, ha, _, wa⟩ := DataW.trod_int he hf0
      obtain ⟨b, hb, _, wb⟩ := DataW.trod_int he hf1
      refine ⟨a, b, ?_, wa, wb⟩
      have h0 : cs[0]? = some (.int k a) := by
        have := congrArg (·[0]?) ha
        simpa [Value.cells] using this
      have h1 : cs[1]? = some (.int k b) := by
        have := congrArg (·[0]?) hb
        simpa [Value.cells] using this
      congr 1
      apply Array.ext
      · simpa using hs
      · intro i hi1 hi2
        have : i = 0 ∨ i = 1 := by omega
        rcases this with rfl | rfl
        · rw [Array.getElem?_eq_getElem hi1] at h0; simpa using h0
        · rw [Array.getElem?_eq_getElem hi1] at h1; simpa using h1
    · cases h
end
end Go.Proofs.YtbdlihldmmbdmaaDoor.Args

namespace Go.Proofs.YtbdlihldmmbdmaaDoor.Args
open Go.ChangeShapes Go.WideShapes Go.ChangeAt Go.RowKit Go.Deep Go.Proofs.YtbdlihldmmbdmaaDoorW.PrintWords
set_option linter.unusedVariables false

theorem bulk_one {H : Type} (d : DataW H) : 1 ≤ Rows.uptoBulk d := by
  cases d with
  | lit l => cases l <;> simp [Rows.uptoBulk]
  | nil => simp [Rows.uptoBulk]
  | ptr d => simp [Rows.uptoBulk]
  | slice elems spare => simp [Rows.uptoBulk]
  | agg parts => simp [Rows.uptoBulk]
  | iface t d => simp [Rows.uptoBulk]
  | map entries => simp [Rows.uptoBulk]
  | held h => simp [Rows.uptoBulk]
theorem bulk_part {H : Type} {d : DataW H} {l : List (DataW H)} (h : d ∈ l) : Rows.uptoBulk d ≤ Rows.uptoBulkAll l := by
  induction l with
  | nil => cases h
  | cons x r ih =>
    simp only [Rows.uptoBulkAll]
    rcases List.mem_cons.1 h with e | e
    · subst e; omega
    · have := ih e; omega
theorem bulk_length {H : Type} (l : List (DataW H)) : l.length ≤ Rows.uptoBulkAll l := by
  induction l with
  | nil => simp [Rows.uptoBulkAll]
  | cons x r ih => have := bulk_one x; simp only [Rows.uptoBulkAll, List.length_cons]; omega

section
variable {H : Type} {enc : TypeId × Value → H} {P : Program} {w : World} {base : Nat} {held : Bool}
theorem rows_of_trod_small {t e q : TypeId} {k : IntKind} {v : Value} {d : DataW H} {ps : List MemPlace} {B : Nat} (ht : P.underlying t = some (.slice e)) (he : P.underlying e = some (.slice q)) (hq : P.underlying q = some (.int k))
    (ce : P.cellsOf e = 1) (cq : P.cellsOf q = 1) (hv : ∃ a n c, v = .slice a n c) (h : DataW.Trod enc P w base (fun _ => true) held t v d ps) (hB : Rows.uptoBulk d ≤ B) :
    ∃ (A : Option Addr) (c : Nat) (rows : List (List Int)), v = .slice A rows.length c ∧ rows.length ≤ c ∧ (Kd.slice q (Kd.int k)).C w A rows.length rows ∧ rows.length ≤ B ∧ ∀ row ∈ rows, row.length ≤ B := by
  obtain ⟨fuel, hf⟩ := h
  obtain ⟨va, vn, vc, rfl⟩ := hv
  rcases open_int_rows ht he hq ce cq hf with ⟨hcs, _⟩ | ⟨a, len, cap, A, L, C, Z, hcs, _, hl, hm, hd, hx⟩
  · simp [Value.cells] at hcs
    obtain ⟨rfl, rfl, rfl⟩ := hcs
    exact ⟨none, 0, [], rfl, Nat.le_refl _, ⟨rfl, Nat.zero_le _, fun hn => absurd hn (by simp)⟩, Nat.zero_le _, fun row hr => by cases hr⟩
  · simp [Value.cells] at hcs
    obtain ⟨rfl, rfl, rfl⟩ := hcs
    have hdd := congrArg Prod.fst hd
    simp only at hdd
    subst hdd
    simp only [Rows.uptoBulk] at hB
    have hb1 := bulk_length ((List.range vn).map fun r => intRow (H := H) k (A r) (L r) (Z r))
    simp only [List.length_map, List.length_range] at hb1
    have hrow : ∀ r, r < vn → L r ≤ B := fun r hr => by
      obtain ⟨c1, c2, c3, c4, _, c6, c7⟩ := hx r (by omega)
      have h1 := bulk_part (List.mem_map_of_mem (f := fun r => intRow (H := H) k (A r) (L r) (Z r)) (List.mem_range.2 hr))
      replace h1 : Rows.uptoBulk (intRow (H := H) k (A r) (L r) (Z r)) ≤ B := by omega
      cases hA : A r with
      | none => have := c6 hA; omega
      | some a' =>
        rw [hA] at h1
        simp only [intRow, Rows.uptoBulk] at h1
        have h2 := bulk_length (ChangeShapes.lits (H := H) k ((Z r).take (L r)))
        have h3 : (ChangeShapes.lits (H := H) k ((Z r).take (L r))).length = L r := by simp [ChangeShapes.lits]; omega
        omega
    refine ⟨some a, vc, (List.range vn).map fun r => (Z r).take (L r), by simp, by simpa using hl, ⟨by simp, ?_, fun hn => ⟨a, rfl, fun j p hj => ?_⟩⟩, by simp; omega, fun row hr => ?_⟩
    · simp only [maxLen] at hm
      simp
      omega
    · obtain ⟨hj1, hj2⟩ := List.getElem?_eq_some_iff.1 hj
      simp at hj1 hj2
      subst hj2
      obtain ⟨c1, c2, c3, c4, _, c6, c7⟩ := hx j (by omega)
      refine ⟨[.slice (A j) (L j) (C j)], rfl, ⟨A j, C j, ?_, ?_, ?_⟩, fun i u hu => ?_⟩
      · simp; omega
      · simp; omega
      · have := C_take (W := w) (A := A j) c2 c3 c4 c6 (fun a' ha => (c7 a' ha).2)
        have hlen : ((Z j).take (L j)).length = L j := by simp; omega
        rw [hlen]
        exact this
      · cases i with
        | zero =>
          have : Value.slice (A j) (L j) (C j) = u := by simpa using hu
          subst this
          simpa [Kd.slice] using c1
        | succ i => simp at hu
    · obtain ⟨r, hr2, rfl⟩ := List.mem_map.1 hr
      have h1 := hrow r (List.mem_range.1 hr2)
      obtain ⟨c1, c2, c3, c4, _, c6, c7⟩ := hx r (by have := List.mem_range.1 hr2; omega)
      simp; omega
/-- A slice of whole numbers that came in, of small bulk. -/
theorem ints_of_trod_small {t e : TypeId} {k : IntKind} {v : Value} {d : DataW H} {ps : List MemPlace} {B : Nat} (ht : P.underlying t = some (.slice e)) (he : P.underlying e = some (.int k)) (ce : P.cellsOf e = 1)
    (hv : ∃ a n c, v = .slice a n c) (h : DataW.Trod enc P w base (fun _ => true) held t v d ps) (hB : Rows.uptoBulk d ≤ B) :
    ∃ (A : Option Addr) (c : Nat) (l : List Int), v = .slice A l.length c ∧ l.length ≤ c ∧ (Kd.int k).C w A l.length l ∧ (∀ x ∈ l, (Lit.int k x).wf = true) ∧ l.length ≤ B := by
  obtain ⟨fuel, hf⟩ := h
  obtain ⟨va, vn, vc, rfl⟩ := hv
  rcases open_ints ht he ce hf with ⟨hcs, _⟩ | ⟨x, l, c, zs, hcs, _, hl, hm, hz, hd, hcell, hwz⟩
  · simp [Value.cells] at hcs
    obtain ⟨rfl, rfl, rfl⟩ := hcs
    exact ⟨none, 0, [], rfl, Nat.le_refl _, ⟨rfl, Nat.zero_le _, fun hn => absurd hn (by simp)⟩, fun x hx => (by cases hx), Nat.zero_le _⟩
  · simp [Value.cells] at hcs
    obtain ⟨rfl, rfl, rfl⟩ := hcs
    have hz' : zs.length = vc := by simpa using hz
    have hlen : (zs.take vn).length = vn := by simp; omega
    have hdd := congrArg Prod.fst hd
    simp only at hdd
    subst hdd
    simp only [Rows.uptoBulk] at hB
    have h2 := bulk_length (ChangeShapes.lits (H := H) k (zs.take vn))
    have h3 : (ChangeShapes.lits (H := H) k (zs.take vn)).length = vn := by simp [ChangeShapes.lits]; omega
    refine ⟨some x, vc, zs.take vn, by rw [hlen], by omega, ?_, fun y hy => hwz y (List.mem_of_mem_take hy), by omega⟩
    rw [hlen]
    exact C_take (C := vc) hl hm hz' (fun h => by cases h) (fun a' ha c' hc' => by cases ha; exact hcell c' (by omega))
end
end Go.Proofs.YtbdlihldmmbdmaaDoor.Args

namespace Go.Proofs.YtbdlihldmmbdmaaDoor.Full
open Go.RowKit Go.Proofs.YtbdlihldmmbdmaaDoorW.PrintWords
set_option linter.unusedVariables false

/-- v's block holds xs, then z up to the capacity (elements of one cell). -/
def FullRow (w : World) (base : Nat) (e : TypeId) (z : Value) (v : Value) (xs : List Value) : Prop :=
  (v = .slice none 0 0 ∧ xs = []) ∨
  ∃ g cap, v = .slice (some ⟨g, 0, none⟩) xs.length cap ∧ base ≤ g ∧ xs.length ≤ cap ∧ cap ≤ maxLen ∧ w.heap[g]? = some (.cells (xs ++ List.replicate (cap - xs.length) z).toArray e (0, 0))
theorem FullRow.move {w w1 : World} {base : Nat} {e : TypeId} {z v : Value} {xs : List Value} (h : FullRow w base e z v xs) (hm : ∀ k, v.ownBlock = some k → w1.heap[k]? = w.heap[k]?) : FullRow w1 base e z v xs := by
  rcases h with h | ⟨g, cap, rfl, h1, h2, h3, h4⟩
  · exact .inl h
  · exact .inr ⟨g, cap, rfl, h1, h2, h3, (hm g (by simp [Value.ownBlock])).trans h4⟩
theorem FullRow.lt {w : World} {base : Nat} {e : TypeId} {z v : Value} {xs : List Value} (h : FullRow w base e z v xs) (k : Nat) (hk : v.ownBlock = some k) : base ≤ k ∧ k < w.heap.size := by
  rcases h with ⟨rfl, _⟩ | ⟨g, cap, rfl, h1, h2, h3, h4⟩
  · simp [Value.ownBlock] at hk
  · have : g = k := by simpa [Value.ownBlock] using hk
    subst this
    exact ⟨h1, (Array.getElem?_eq_some_iff.1 h4).1⟩
theorem zeros_one (z : Value) (n : Nat) (hz : z.cells = #[z]) : (Builtin.zeroCells z.cells n).toList = List.replicate n z := by
  apply List.ext_getElem
  · simp [Builtin.zeroCells, hz]
  · intro i h1 h2
    simp [Builtin.zeroCells, hz, Nat.mod_one]

theorem cell_at {w : World} {g : Nat} {cs : Array Value} {e : TypeId} (h : w.heap[g]? = some (.cells cs e (0, 0))) (j : Nat) : w.cell? ⟨g, j, none⟩ = cs[j]? := by simp [World.cell?, h]
theorem free_at {w : World} {g : Nat} {cs : Array Value} {e : TypeId} (h : w.heap[g]? = some (.cells cs e (0, 0))) (j : Nat) : w.frozen? ⟨g, j, none⟩ = false := by simp [World.frozen?, h]

theorem run_append_full {P : Program} (w : World) (base : Nat) (t ty e : TypeId) (i : TypeInfo) (z : Value) (bytes : Nat) (ht : P.underlying t = some (.slice e)) (hi : P.info? e = some i) (hz : i.zero = some z) (hsize : i.size = 1) (hby : i.bytes = bytes) (hzc : z.cells = #[z])
    (v : Value) (xs : List Value) (hF : FullRow w base e z v xs) (a : Addr) (c : Nat) (u : Value) (hu : w.cell? a = some u) (h1 : u.oneCell' = true) (hb : (xs.length + 1) * bytes ≤ 140737488355328) (h63 : xs.length + 1 ≤ maxLen) (hb0 : 0 < bytes) (hbase : base ≤ w.heap.size) :
    ∃ v' w', (Builtin.append_ #[t, t] ty #[v, .slice (some a) 1 c]).run P w = .ok v' w' ∧ FullRow w' base e z v' (xs ++ [u]) ∧ w.grownBy w' v.ownBlock ∧ (v'.ownBlock = v.ownBlock ∨ v'.ownBlock = some w.heap.size) := by
  subst hby
  have hm : xs.length + 1 ≤ 9223372036854775807 := by simp only [maxLen] at h63; omega
  have hnews : ∀ j v, [u][j]? = some v → w.cell? (a.add j) = some v := fun j v hj => by
    cases j with
    | zero =>
      have : u = v := by simpa using hj
      subst this
      simpa [Addr.add] using hu
    | succ j => simp at hj
  rcases hF with ⟨rfl, rfl⟩ | ⟨g, cap, rfl, hg1, hg2, hg3, hg4⟩
  · have hge := grownCap_ge w 1 0 e
    have hcm : grownCap w 1 0 e ≤ maxLen := grownCap_le_maxLen w 1 0 e (by simpa using h63)
    have hrun := run_append_nil (P := P) w t ty e i z ht hi hz a 1 c [u] (by simp [hsize]) hnews (by omega) (by omega) (by simp at hb; omega)
    refine ⟨_, _, hrun, .inr ⟨w.heap.size, _, by simp, hbase, by simpa using hge, hcm, ?_⟩, ⟨rfl, rfl, rfl, by simp, fun k hk _ => heap_alloc_old w.drew _ hk⟩, .inr rfl⟩
    rw [show w.heap.size = w.drew.heap.size from rfl, heap_alloc_new]
    congr 2
    apply Array.ext'
    simp [zeros_one _ _ hzc]
  · by_cases hr : xs.length + 1 ≤ cap
    · have hcell : w.cell? ⟨g, xs.length, none⟩ = some z := by
        rw [cell_at hg4, List.getElem?_toArray, List.getElem?_append_right (Nat.le_refl _), Nat.sub_self, List.getElem?_replicate]
        simp; omega
      have hrun := run_append_room_cells (P := P) w t ty e i ht hi g 0 xs.length cap a 1 c [u] (by simp [hsize]) hnews (by simpa using h1) hr (fun j hj => by simp at hj; subst hj; simp [hsize, hcell]) (fun j hj => free_at hg4 _)
      refine ⟨_, _, hrun, .inr ⟨g, cap, by simp, hg1, by simpa using hr, hg3, ?_⟩, ?_, .inl rfl⟩
      · simp only [World.setCells, hsize, Nat.mul_one, Nat.zero_add]
        rw [heap_setCell_same w g xs.length _ e u hg4]
        congr 2
        apply Array.ext'
        simp only [List.setIfInBounds_toArray]
        rw [List.set_append_right _ _ (Nat.le_refl _), Nat.sub_self]
        obtain ⟨d, hd⟩ : ∃ d, cap - xs.length = d + 1 := ⟨cap - xs.length - 1, by omega⟩
        rw [hd, List.replicate_succ, List.set_cons_zero, List.length_append, List.length_singleton, show cap - (xs.length + 1) = d by omega]
        simp
      · refine ⟨rfl, rfl, rfl, by simp [World.setCells], fun k hk hn => ?_⟩
        simp only [World.setCells]
        exact Below.heap_setCell w ⟨g, _, none⟩ u k (fun e => hn (by simp [Value.ownBlock, e]))
    · have hge := grownCap_ge w (xs.length + 1) cap e
      have hcm : grownCap w (xs.length + 1) cap e ≤ maxLen := grownCap_le_maxLen w (xs.length + 1) cap e h63
      have hrun := run_append_grow (P := P) w t ty e i z ht hi hz ⟨g, 0, none⟩ xs.length cap xs (by simp [hsize]) (fun j v hj => by rw [Addr.add_lit, Nat.zero_add, cell_at hg4, List.getElem?_toArray, List.getElem?_append_left (List.getElem?_eq_some_iff.1 hj).1]; exact hj) a 1 c [u] (by simp [hsize]) hnews (by omega) (by omega) (growslice_fits (by omega) hb)
      refine ⟨_, _, hrun, .inr ⟨w.heap.size, _, by simp, hbase, by simpa using hge, hcm, ?_⟩, ⟨rfl, rfl, rfl, by simp, fun k hk _ => heap_alloc_old w.drew _ hk⟩, .inr rfl⟩
      rw [show w.heap.size = w.drew.heap.size from rfl, heap_alloc_new]
      congr 2
      apply Array.ext'
      simp [zeros_one _ _ hzc]

theorem wpList_append_full {P : Program} (w : World) {ops : Array Oper} {rest : List Oper} {o : Oper} {a : Act} {Q : Exit → Act → World → Prop} (base : Nat) (hgd : o.guard = none) (s x : Operand) (t e : TypeId) (z : Value) (bytes : Nat)
    (hop : o.op = .call { callee := .builtin .append, args := #[s, x], argTypes := #[t, t] }) (ht : P.underlying t = some (.slice e)) (hinfo : (P.info? e).map (fun i => (i.zero, i.size, i.bytes)) = some (some z, 1, bytes)) (hzc : z.cells = #[z]) (hb0 : 0 < bytes)
    (v : Value) (xs : List Value) (u : Value) (hs : a.eval s = v) (HF : FullRow w base e z v xs) (ad : Addr) (c : Nat) (hx : a.eval x = .slice (some ad) 1 c) (hu : w.cell? ad = some u) (h1 : u.oneCell' = true) (hl : (xs.length + 1) * bytes ≤ 140737488355328) (hbase : base ≤ w.heap.size)
    (h : ∀ v1 w1, FullRow w1 base e z v1 (xs ++ [u]) → w.grownBy w1 v.ownBlock → (v1.ownBlock = v.ownBlock ∨ v1.ownBlock = some w.heap.size) → wpList P ops Q rest (a.put o.dst v1) w1) :
    wpList P ops Q (o :: rest) a w := by
  obtain ⟨i0, hi, hzz⟩ := Option.map_eq_some_iff.1 hinfo
  simp only [Prod.mk.injEq] at hzz
  obtain ⟨hz0, hz1, hz2⟩ := hzz
  have hlen : xs.length + 1 ≤ 140737488355328 := Nat.le_trans (Nat.le_mul_of_pos_right _ hb0) hl
  refine wpList_plain hgd fun K hK' => ?_
  obtain ⟨v', w', hrun, r1, r2, r3⟩ := run_append_full (P := P) w base t o.type e i0 z bytes ht hi hz0 hz1 hz2 hzc v xs HF ad c u hu h1 hl (by simp only [maxLen]; omega) hb0 hbase
  unfold Oper.wp
  simp [execOp, hop, resolve, invoke, builtin, hs, hx, hrun, Result.andThen]
  exact hK' _ _ (h v' w' r1 r2 r3)

/-- The values are slices of the call's own that hold these numbers. -/
inductive RowsAre (W : World) (base : Nat) (q : TypeId) : List Value → List (List Int) → Prop where
  | nil : RowsAre W base q [] []
  | cons {u : Value} {xs : List Int} {vals : List Value} {xss : List (List Int)} : (Kd.int .i64).R q W base (fun _ => True) u xs → RowsAre W base q vals xss → RowsAre W base q (u :: vals) (xs :: xss)
theorem RowsAre.imp {W W1 : World} {base : Nat} {q : TypeId} {vals : List Value} {xss : List (List Int)} (h : RowsAre W base q vals xss) (hm : ∀ u xs, (Kd.int .i64).R q W base (fun _ => True) u xs → (Kd.int .i64).R q W1 base (fun _ => True) u xs) : RowsAre W1 base q vals xss := by
  induction h with
  | nil => exact .nil
  | cons h1 _ ih => exact .cons (hm _ _ h1) ih
theorem RowsAre.later {W W1 : World} {base : Nat} {q : TypeId} {vals : List Value} {xss : List (List Int)} (h : RowsAre W base q vals xss) (hb : Below W.heap.size W W1) : RowsAre W1 base q vals xss := h.imp (fun _ _ hr => Kd.R_below hr hb)
theorem RowsAre.grown {W W1 : World} {base : Nat} {q e : TypeId} {z v : Value} {vs vals : List Value} {xss : List (List Int)} (h : RowsAre W base q vals xss) (hF : FullRow W base e z v vs) (hne : q ≠ e) (hg : W.grownBy W1 v.ownBlock) : RowsAre W1 base q vals xss :=
  h.imp (fun _ _ hr => Kd.R_over' hr (v := v) (e' := e) (fun k hk => by
    rcases hF with ⟨rfl, _⟩ | ⟨g, cap, rfl, _, _, _, h4⟩
    · simp [Value.ownBlock] at hk
    · have : g = k := by simpa [Value.ownBlock] using hk
      subst this
      exact ⟨_, h4⟩) (fun q' hq' => by have : q' = q := by simpa [Kd.int, Kd.scalar] using hq'
                                       subst this; exact hne) hg)
theorem RowsAre.snoc {W : World} {base : Nat} {q : TypeId} {vals : List Value} {xss : List (List Int)} {u : Value} {xs : List Int} (h : RowsAre W base q vals xss) (hu : (Kd.int .i64).R q W base (fun _ => True) u xs) : RowsAre W base q (vals ++ [u]) (xss ++ [xs]) := by
  induction h with
  | nil => exact .cons hu .nil
  | cons h1 _ ih => exact .cons h1 ih
theorem RowsAre.length {W : World} {base : Nat} {q : TypeId} {vals : List Value} {xss : List (List Int)} (h : RowsAre W base q vals xss) : vals.length = xss.length := by
  induction h with
  | nil => rfl
  | cons _ _ ih => simp [ih]
theorem RowsAre.get {W : World} {base : Nat} {q : TypeId} {vals : List Value} {xss : List (List Int)} (h : RowsAre W base q vals xss) : ∀ (j : Nat) (xs : List Int), xss[j]? = some xs → ∃ u, vals[j]? = some u ∧ (Kd.int .i64).R q W base (fun _ => True) u xs := by
  induction h with
  | nil => intro j xs hj; simp at hj
  | cons h1 _ ih =>
    intro j xs hj
    cases j with
    | zero =>
      simp at hj
      subst hj
      exact ⟨_, rfl, h1⟩
    | succ j => exact ih j xs (by simpa using hj)
/-- What is read of it. -/
theorem reads_of_full {W : World} {base : Nat} {e q : TypeId} {z v : Value} {vals : List Value} {xss : List (List Int)} (hF : FullRow W base e z v vals) (hR : RowsAre W base q vals xss) :
    ∃ A c, v = .slice A xss.length c ∧ xss.length ≤ c ∧ (Kd.slice q (Kd.int .i64)).C W A xss.length xss := by
  have hl := hR.length
  rcases hF with ⟨rfl, rfl⟩ | ⟨g, cap, rfl, h1, h2, h3, h4⟩
  · have : xss = [] := List.eq_nil_of_length_eq_zero (by simpa using hl.symm)
    subst this
    exact ⟨none, 0, rfl, Nat.le_refl _, rfl, Nat.zero_le _, fun hn => absurd hn (by simp)⟩
  · refine ⟨some ⟨g, 0, none⟩, cap, by rw [hl], by omega, rfl, by simp only [maxLen] at h3; omega, fun hn => ⟨_, rfl, fun j p hj => ?_⟩⟩
    obtain ⟨u, hu, hr⟩ := hR.get j p hj
    obtain ⟨A, c, rfl, hc, hC⟩ := Kd.R_reads hr
    refine ⟨[.slice A p.length c], rfl, ⟨A, c, rfl, hc, hC⟩, fun i y hy => ?_⟩
    cases i with
    | zero =>
      have : Value.slice A p.length c = y := by simpa using hy
      subst this
      have h5 : W.cell? ⟨g, j, none⟩ = some (.slice A p.length c) := by
        rw [cell_at h4, List.getElem?_toArray, List.getElem?_append_left (List.getElem?_eq_some_iff.1 hu).1]; exact hu
      show W.cell? ((⟨g, 0, none⟩ : Addr).add (j * (Kd.slice q (Kd.int .i64)).sz + 0)) = _
      rw [Addr.add_lit]
      simpa [Kd.slice] using h5
    | succ i => simp at hy
end Go.Proofs.YtbdlihldmmbdmaaDoor.Full

namespace Go.Proofs.YtbdlihldmmbdmaaDoor.Fn
open Go.RowKit Go.Proofs.YtbdlihldmmbdmaaDoorW.PrintWords
set_option linter.unusedVariables false

/-- A function that has a body is entered. -/
def EntersP (f : FuncId) : Prop := ∀ (args : Array Value) (w : World), (callFunc f args).run Tryd.prog w = .ok (.enter f args) w
theorem entersP_of {f : FuncId} {fn : Func} (hf : Tryd.prog.funcs[f]? = some fn) (hname : (fn.name == "runtime.NumGoroutine") = false) (hb : ∃ c, fn.body = some c) : EntersP f := by
  obtain ⟨c, hb⟩ := hb
  intro args w
  have h1 : fn.name ≠ "runtime.NumGoroutine" := by simpa using hname
  simp [callFunc, hf, h1, hb]
/-- A call of a function value answers b, and only orders are drawn, at w and wherever orders have been drawn since. -/
def Asks (f : FuncId) (args : Array Value) (w : World) (b : Bool) : Prop :=
  ∀ m, Calls Tryd.prog f args (w.drewN m) fun e w' => e = .returned (.bool b) ∧ Drawn0 (w.drewN m) w'
theorem Asks.drewN {f : FuncId} {args : Array Value} {w : World} {b : Bool} (h : Asks f args w b) (n : Nat) : Asks f args (w.drewN n) b := fun m => by
  have := h (n + m)
  rwa [← World.drewN_drewN] at this
theorem Drawn0.then {w w1 w2 : World} (h : Drawn0 w w1) (k : Drawn0 w1 w2) : Drawn0 w w2 := by
  obtain ⟨n, rfl⟩ := h
  obtain ⟨m, rfl⟩ := k
  exact ⟨⟨n + m, World.drewN_drewN ..⟩⟩

/-- Where the first element stands of which p holds; -1: none. -/
def idxOf {α : Type} (p : α → Bool) (xs : List α) : Int := match xs.findIdx? p with | some i => (i : Int) | none => -1
theorem idxOf_none {α : Type} {p : α → Bool} {xs : List α} (h : ∀ j (h : j < xs.length), p xs[j] = false) : idxOf p xs = -1 := by
  unfold idxOf
  have : xs.findIdx? p = none := by
    rw [List.findIdx?_eq_none_iff]
    intro x hx
    obtain ⟨j, hj, rfl⟩ := List.getElem_of_mem hx
    exact h j hj
  rw [this]
theorem idxOf_some {α : Type} {p : α → Bool} {xs : List α} (k : Nat) (hk : k < xs.length) (h : ∀ j (h : j < xs.length), j < k → p xs[j] = false) (hp : p xs[k] = true) : idxOf p xs = k := by
  unfold idxOf
  have : xs.findIdx? p = some k := by
    rw [List.findIdx?_eq_some_iff_getElem]
    exact ⟨hk, hp, fun j hj => by rw [h j (by omega) hj]; simp⟩
  rw [this]
theorem idxOf_any {α : Type} (p : α → Bool) (xs : List α) : decide (0 ≤ idxOf p xs) = xs.any p := by
  unfold idxOf
  cases h : xs.findIdx? p with
  | none =>
    have h1 : xs.any p = false := by
      rw [List.any_eq_false]
      intro x hx
      have := List.findIdx?_eq_none_iff.1 h x hx
      simpa using this
    rw [h1]; simp
  | some i =>
    have h1 : xs.any p = true := by
      obtain ⟨hi, hp, _⟩ := List.findIdx?_eq_some_iff_getElem.1 h
      exact List.any_eq_true.2 ⟨xs[i], List.getElem_mem _, hp⟩
    rw [h1]; simp

theorem rd_lt {xs : List Int} {k : Nat} (h : k < xs.length) : rd xs (k : Int) = xs[k] := by
  unfold rd
  rw [Int.toNat_natCast, List.getD_eq_getElem?_getD, List.getElem?_eq_getElem h]; rfl

set_option maxHeartbeats 1000000 in
theorem indexFunc_int (f : FuncId) (cap : Array Value) (A : Option Addr) (c : Nat) (xs : List Int) (w : World) (p : Int → Bool)
    (hr : Kd.C (Kd.int .i64) w A xs.length xs) (he : EntersP f) (hp : ∀ x ∈ xs, Asks f (#[.int .i64 x] ++ cap) w (p x)) :
    Calls Tryd.prog 43 #[.slice A xs.length c, .func (.func f) #[] cap] w fun e w' =>
      e = .returned (.int .i64 (idxOf p xs)) ∧ Drawn0 w w' := by
  have HR := Aside0.mk hr
  have HP := Aside0.mk hp
  have HE := Aside0.mk he
  have hmax : xs.length ≤ 9223372036854775807 := Kd.C_max hr
  clear hr hp he
  go_enter Tryd.func43, Tryd.ntmps43
  go_wp2
  go_loopw [8] (fun v8 wr => ∃ k : Nat, k ≤ xs.length ∧ v8 = .int .i64 (k : Int) ∧ Aside0 (∀ j (h : j < xs.length), j < k → p xs[j] = false) ∧ Drawn0 w wr) (fun v8 _ => xs.length - (intOf v8).toNat)
  case atStart => exact ⟨0, Nat.zero_le _, rfl, ⟨fun j _ h => absurd h (Nat.not_lt_zero _)⟩, Drawn0.refl _⟩
  case round =>
    obtain ⟨k, hk, rfl, HF, ⟨m, rfl⟩⟩ := hrel
    by_cases hlt : k < xs.length
    · obtain ⟨ad, e, hx⟩ := Kd.at_int (Kd.C_drewN HR.out m) (k : Int) (by omega) (by omega)
      cases e
      have hx' : (w.drewN m).cell? (ad.add k) = some (.int .i64 (rd xs (k : Int))) := hx
      clear hx
      have HRD := Aside0.mk (rd_lt hlt)
      have HC := Aside0.mk (HP.out (rd xs (k : Int)) (by rw [rd_lt hlt]; exact List.getElem_mem _) m)
      go_wp2_with (fail)
      rw [HE.out, Oper.upon_enter]
      refine HC.out.mono ?_
      rintro e w1 ⟨rfl, ⟨m1, rfl⟩⟩
      cases hb : p (rd xs (k : Int)) with
      | true =>
        have HB := Aside0.mk hb
        clear hb
        go_wp2
        go_ret
        refine ⟨?_, ⟨m + m1, ?_⟩⟩
        · rw [idxOf_some k hlt HF.out (by rw [← HRD.out]; exact HB.out)]; rfl
        · simp
      | false =>
        have HB := Aside0.mk hb
        clear hb
        go_wp2
        go_roundw
        case rel => exact ⟨k + 1, by omega, by go_num, ⟨fun j hj h => (by
            rcases Nat.lt_or_ge j k with h' | h'
            · exact HF.out j hj h'
            · obtain rfl : j = k := by omega
              rw [← HRD.out]; exact HB.out)⟩, ⟨m + m1, by simp⟩⟩
        case measure => simp [intOf]; omega
    · go_wp2
      go_ret
      exact ⟨by rw [idxOf_none (fun j hj => HF.out j hj (by omega))]; rfl, ⟨m, rfl⟩⟩

set_option maxHeartbeats 1000000 in
theorem containsFunc_int (f : FuncId) (cap : Array Value) (A : Option Addr) (c : Nat) (xs : List Int) (w : World) (p : Int → Bool)
    (hr : Kd.C (Kd.int .i64) w A xs.length xs) (he : EntersP f) (hp : ∀ x ∈ xs, Asks f (#[.int .i64 x] ++ cap) w (p x)) :
    Calls Tryd.prog 37 #[.slice A xs.length c, .func (.func f) #[] cap] w fun e w' =>
      e = .returned (.bool (xs.any p)) ∧ Drawn0 w w' := by
  have HI := Aside0.mk (indexFunc_int f cap A c xs w p hr he hp)
  have HA := Aside0.mk (idxOf_any p xs)
  clear hr hp he
  go_enter Tryd.func37, Tryd.ntmps37
  go_wp2_with (go_at_call 43; refine HI.out.mono ?_; rintro e w' ⟨rfl, ⟨m, rfl⟩⟩)
  go_ret
  exact ⟨by rw [← HA.out]; rfl, ⟨m, rfl⟩⟩
end Go.Proofs.YtbdlihldmmbdmaaDoor.Fn

namespace Go.Proofs.YtbdlihldmmbdmaaDoor.Clone
open Go.RowKit Go.Proofs.YtbdlihldmmbdmaaDoorW.PrintWords Go.Proofs.YtbdlihldmmbdmaaDoor.Fn
set_option linter.unusedVariables false

theorem info_int : (Tryd.prog.info? 3).map (fun i => (i.zero, i.size, i.bytes)) = some (some (.int .i64 0), 1, 8) := by kernel_rfl
theorem C_none {w : World} {n : Nat} {xs : List Int} (h : (Kd.int .i64).C w none n xs) : xs = [] := by
  rcases Nat.eq_zero_or_pos n with h0 | h0
  · have := Kd.C_len h
    exact List.eq_nil_of_length_eq_zero (by omega)
  · obtain ⟨ad, e, _⟩ := h.2.2 h0
    cases e
theorem C_ints {w : World} {A : Option Addr} {n : Nat} {xs : List Int} (h : (Kd.int .i64).C w A n xs) : ReadsInt w .i64 A n xs := by
  have := Kd.reads_of_C (enc := Value.int .i64) (d := (0 : Int)) (h1 := fun _ => rfl) h
  exact this

set_option maxHeartbeats 1000000 in
theorem clone_int (A : Option Addr) (c : Nat) (xs : List Int) (w : World) (hr : (Kd.int .i64).C w A xs.length xs) (hlen : xs.length ≤ 17592186044416) :
    Calls Tryd.prog 28 #[.slice A xs.length c] w fun e w' => ∃ v, e = .returned v ∧ Kd.R (Kd.int .i64) 3 w' w.heap.size (fun _ => True) v xs ∧ Below w.heap.size w w' := by
  rcases A with _ | ad
  · obtain rfl := C_none hr
    clear hr
    have hn : ∀ W : World, (binOp .eql 23 (.slice none 0 c) (.slice none 0 0)).run Tryd.prog W = .ok (.bool true) W := fun W => by
      rw [Lib.run_eql_slice_nil W 23 3 none 0 c 0 0 Tryd.underlying23]; rfl
    go_enter Tryd.func28, Tryd.ntmps28
    go_wp2
    go_ret
    exact ⟨_, rfl, Kd.R_nil _ _ _ _ _, Below.refl _ _⟩
  · have HR := Aside0.mk hr
    clear hr
    have hn : ∀ W : World, (binOp .eql 23 (.slice (some ad) xs.length c) (.slice none 0 0)).run Tryd.prog W = .ok (.bool false) W := fun W => by
      rw [Lib.run_eql_slice_nil W 23 3 (some ad) xs.length c 0 0 Tryd.underlying23]; rfl
    go_enter Tryd.func28, Tryd.ntmps28
    go_wp2_with (at_builtin; refine print_append_row (w0 := w) w.heap.size rfl _ _ 23 3 .i64 8 rfl Tryd.underlying23 info_int (by decide) (.slice (some ⟨w.heap.size, 0, none⟩) 0 0) [] xs (some ad) xs.length c rfl rfl ?c1 ?c2 ?c3 ?c4 ?c5 ?_)
    case c1 => exact own_lit w w.heap.size 3 .i64 [] (Nat.le_refl _) (by simp)
    case c2 => exact (C_ints HR.out).below ((Below.refl _ _).alloc (Nat.le_refl _) _)
    case c3 => exact (Below.refl _ _).alloc (Nat.le_refl _) _
    case c4 => simp
    case c5 => simp; omega
    intro v1 w1 hown hB _ _
    have HO := Aside0.mk hown
    clear hown
    go_wp2
    go_ret
    exact ⟨v1, rfl, Kd.R_of_own (enc := Value.int .i64) HO.out (fun _ _ => trivial), hB⟩
end Go.Proofs.YtbdlihldmmbdmaaDoor.Clone

namespace Go.Proofs.YtbdlihldmmbdmaaDoor.Plain
open Go.RowKit Go.Proofs.YtbdlihldmmbdmaaDoorW.PrintWords
set_option linter.unusedVariables false

theorem wrap_nat {i : Nat} (h : i < 9223372036854775807) : wrap64 ((i : Int) + 1) = ((i + 1 : Nat) : Int) := by
  unfold wrap64; omega
theorem wrap_id {x : Int} (h0 : -9223372036854775808 ≤ x) (h1 : x ≤ 9223372036854775807) : wrap64 x = x := by
  unfold wrap64; omega
theorem rd_lt {xs : List Int} {k : Nat} (h : k < xs.length) : rd xs (k : Int) = xs[k] := by
  unfold rd
  rw [Int.toNat_natCast, List.getD_eq_getElem?_getD, List.getElem?_eq_getElem h]; rfl
theorem drop_any {α : Type} {p : α → Bool} {xs : List α} {i : Nat} (h : i < xs.length) : (xs.drop i).any p = (p xs[i] || (xs.drop (i + 1)).any p) := by
  rw [List.drop_eq_getElem_cons h, List.any_cons]
theorem drop_any_end {α : Type} {p : α → Bool} {xs : List α} {i : Nat} (h : xs.length ≤ i) : (xs.drop i).any p = false := by
  rw [List.drop_eq_nil_of_le h]; rfl
theorem drop_all {α : Type} {p : α → Bool} {xs : List α} {i : Nat} (h : i < xs.length) : (xs.drop i).all p = (p xs[i] && (xs.drop (i + 1)).all p) := by
  rw [List.drop_eq_getElem_cons h, List.all_cons]
theorem drop_all_end {α : Type} {p : α → Bool} {xs : List α} {i : Nat} (h : xs.length ≤ i) : (xs.drop i).all p = true := by
  rw [List.drop_eq_nil_of_le h]; rfl
/-- Two answers of one function, at whatever numbers of rounds, are one. -/
theorem one_answer {α : Type} {g : Nat → Option α} (hg : ∀ k, LeO (g k) (g (k + 1))) {k k' : Nat} {r s : α} (h : g k = some r) (h' : g k' = some s) : r = s := by
  have h1 := at_rounds hg (Nat.le_max_left k k') h
  have h2 := at_rounds hg (Nat.le_max_right k k') h'
  exact Option.some.inj (h1.symm.trans h2)
theorem Ev.answer {α : Type} {g : Nat → Option α} {r s : α} (hg : ∀ k, LeO (g k) (g (k + 1))) {k : Nat} (h : g k = some r) (e : Ev g s) : r = s := by
  obtain ⟨K, e⟩ := e
  exact one_answer hg h (e K (Nat.le_refl _))
/-- One round: the loop's own row unfolds to f. -/
theorem Ev.round {α : Type} {g f : Nat → Option α} {r : α} (k : Ev f r) (h : ∀ k, g (k + 1) = f k) : Ev g r := Ev.step h k
theorem Ev.then {α β : Type} {g : Nat → Option α} {f : Nat → α → Option β} {a : α} {r : β} (h : Ev g a) (k : Ev (fun n => f n a) r) : Ev (fun n => (g n).bind (f n)) r := Ev.bind h k
theorem Ev.cast {α : Type} {g : Nat → Option α} {r s : α} (h : Ev g r) (e : r = s) : Ev g s := e ▸ h
theorem cell_al {w : World} {a : Addr} {v : Value} (h : w.cell? a = some v) (o : Obj) : (w.alloc o).cell? a = some v := pw_cell_below (below_alloc (Below.refl _ _) o) h
theorem froz_below {w w1 : World} {a : Addr} {v : Value} (h : w.cell? a = some v) (hf : w.frozen? a = false) (hb : Below w.heap.size w w1) : w1.frozen? a = false := (hb.frozen (World.block_lt_of_cell? w a h)).trans hf
theorem froz_al {w : World} {a : Addr} {v : Value} (h : w.cell? a = some v) (hf : w.frozen? a = false) (o : Obj) : (w.alloc o).frozen? a = false := froz_below h hf (below_alloc (Below.refl _ _) o)
/-- Part done: the first j of the new ones, the others the old ones. -/
def upTo {α : Type} (j : Nat) (new old : List α) : List α := new.take j ++ old.drop j
theorem upTo_zero {α : Type} (new old : List α) : upTo 0 new old = old := by simp [upTo]
theorem upTo_all {α : Type} (j : Nat) (new old : List α) (h : new.length ≤ j) (h' : old.length ≤ j) : upTo j new old = new := by
  simp [upTo, List.take_of_length_le h, List.drop_eq_nil_of_le h']
theorem upTo_length {α : Type} (j : Nat) (new old : List α) (h : new.length = old.length) : (upTo j new old).length = old.length := by
  simp [upTo]; omega
theorem upTo_get {α : Type} (j : Nat) (new old : List α) (hj : j < old.length) (h : new.length = old.length) : (upTo j new old)[j]? = old[j]? := by
  unfold upTo
  rw [List.getElem?_append_right (by simp; omega)]
  simp [Nat.min_eq_left (show j ≤ new.length by omega)]
theorem upTo_set {α : Type} (j : Nat) (new old : List α) (hj : j < old.length) (h : new.length = old.length) : (upTo j new old).set j (new[j]'(by omega)) = upTo (j + 1) new old := by
  unfold upTo
  have h1 : (new.take j).length = j := by simp; omega
  rw [List.set_append_right _ _ (by omega), h1, Nat.sub_self, List.drop_eq_getElem_cons hj, List.set_cons_zero, List.take_succ_eq_append_getElem (show j < new.length by omega), List.append_assoc]; rfl
theorem rd_get? {xs : List Int} {k : Nat} {v : Int} (h : xs[k]? = some v) : rd xs (k : Int) = v := by
  unfold rd
  rw [Int.toNat_natCast, List.getD_eq_getElem?_getD, h]; rfl
end Go.Proofs.YtbdlihldmmbdmaaDoor.Plain

-- PRINTED by print.py (a twelfth state) out of the translation. Not trusted: Lean checks it.
namespace Go.Proofs.YtbdlihldmmbdmaaDoor.SK
open Go.RowKit Go.Proofs.YtbdlihldmmbdmaaDoorW.PrintWords Go.Proofs.YtbdlihldmmbdmaaDoorW.PrintLast Go.Proofs.YtbdlihldmmbdmaaDoorW.PrintMore
attribute [local go_sem] max2_int min2_int max_two min_two max_three min_three max_four min_four   -- for this text's walks alone
set_option linter.unusedVariables false
set_option linter.unusedSimpArgs false



def errW : Option Int → Value
  | none => .nilIface
  | some c => .iface 0 (.int .i64 c)
theorem errW_none : errW none = .nilIface := rfl
theorem errW_some (c : Int) : errW (some c) = .iface 0 (.int .i64 c) := rfl

theorem info3 : (Tryd.prog.info? 3).map (fun i => (i.zero, i.size, i.bytes)) = some (some (.int .i64 0), 1, 8) := by kernel_rfl
theorem info23 : (Tryd.prog.info? 23).map (fun i => (i.zero, i.size, i.bytes)) = some (some (.slice none 0 0), 1, 24) := by kernel_rfl
theorem info37 : (Tryd.prog.info? 37).map (fun i => (i.zero, i.size, i.bytes)) = some (some (.int .u32 0), 1, 4) := by kernel_rfl
-- the values' own types
def rd_L1 (xs : List (List Int)) (i : Int) : (List Int) := xs.getD i.toNat ([] : List Int)
theorem at_L1 {w : World} {A : Option Addr} {n : Nat} {xs : List (List Int)} (h : Kd.C (Kd.slice 3 (Kd.int .i64)) w A n xs) (i : Int) (h0 : 0 ≤ i) (h1 : i < n) : ∃ ad A0 c0, A = some ad ∧ w.cell? (ad.add i.toNat) = some (.slice A0 (rd_L1 xs i).length c0) ∧ (rd_L1 xs i).length ≤ c0 ∧ (Kd.int .i64).C w A0 (rd_L1 xs i).length (rd_L1 xs i) := by
  obtain ⟨ad, c, e, _, hK, hc0⟩ := Kd.C_get h ([] : List Int) i h0 h1
  have hc : ∀ j u, c[j]? = some u → w.cell? (ad.add (i.toNat * 1 + j)) = some u := hc0
  obtain ⟨A0, c0, rfl, l0, g0⟩ := hK
  exact ⟨ad, A0, c0, e, by have hq := hc 0 _ rfl; rwa [Nat.mul_one, Nat.add_zero] at hq, l0, g0⟩

end Go.Proofs.YtbdlihldmmbdmaaDoor.SK

-- PRINTED by print.py (a twelfth state) out of the translation. Not trusted: Lean checks it.
namespace Go.Proofs.YtbdlihldmmbdmaaDoor.SK
open Go.RowKit Go.Proofs.YtbdlihldmmbdmaaDoorW.PrintWords Go.Proofs.YtbdlihldmmbdmaaDoorW.PrintLast Go.Proofs.YtbdlihldmmbdmaaDoorW.PrintMore
attribute [local go_sem] max2_int min2_int max_two min_two max_three min_three max_four min_four   -- for this text's walks alone
set_option linter.unusedVariables false
set_option linter.unusedSimpArgs false

/-! ### amalgamref10_Check: function 22 -/
mutual
def amalgamref10_Check.l0 : Nat → List (List Int) → List Int → Int → Option (Int)
  | 0, _, _, _ => none
  | k + 1, x0, x1, x5 => if x5 < (x1.length : Int) then (if 0 ≤ x5 then (if (rd x1 x5) < 0 then (some 102) else (if (rd x1 x5) > 2 then (some 102) else (amalgamref10_Check.l0 k x0 x1 (wrap64 (x5 + 1))))) else (none)) else (amalgamref10_Check.l1 k x0 x1 0)
def amalgamref10_Check.l1 : Nat → List (List Int) → List Int → Int → Option (Int)
  | 0, _, _, _ => none
  | k + 1, x0, x1, x6 => if x6 < (x0.length : Int) then (if 0 ≤ x6 then (if ((rd_L1 x0 x6).length : Int) = (x1.length : Int) then (amalgamref10_Check.l2 k x0 x1 x6 0) else (some 103)) else (none)) else (some 0)
def amalgamref10_Check.l2 : Nat → List (List Int) → List Int → Int → Int → Option (Int)
  | 0, _, _, _, _ => none
  | k + 1, x0, x1, x6, x7 => if x7 < (x1.length : Int) then (if 0 ≤ x6 then (if x6 < (x0.length : Int) then (if 0 ≤ x7 then (if x7 < ((rd_L1 x0 x6).length : Int) then (if (rd (rd_L1 x0 x6) x7) < 0 then (some 103) else (if (rd (rd_L1 x0 x6) x7) > 1048576 then (some 103) else (amalgamref10_Check.l2 k x0 x1 x6 (wrap64 (x7 + 1))))) else (none)) else (none)) else (none)) else (none)) else (amalgamref10_Check.l1 k x0 x1 (wrap64 (x6 + 1)))
end
def amalgamref10_Check.f (k : Nat) (l0 : List (List Int)) (l1 : List Int) : Option (Int) := if (l0.length : Int) > 16 then (some 101) else (if (l1.length : Int) > 10 then (some 102) else (amalgamref10_Check.l0 k l0 l1 0))
theorem amalgamref10_Check.mono_l : ∀ k, (∀ y0 y1 y2, LeO (amalgamref10_Check.l0 k y0 y1 y2) (amalgamref10_Check.l0 (k + 1) y0 y1 y2)) ∧ (∀ y0 y1 y2, LeO (amalgamref10_Check.l1 k y0 y1 y2) (amalgamref10_Check.l1 (k + 1) y0 y1 y2)) ∧ (∀ y0 y1 y2 y3, LeO (amalgamref10_Check.l2 k y0 y1 y2 y3) (amalgamref10_Check.l2 (k + 1) y0 y1 y2 y3))
  | 0 => ⟨fun _ _ _ r h => by simp [amalgamref10_Check.l0] at h, fun _ _ _ r h => by simp [amalgamref10_Check.l1] at h, fun _ _ _ _ r h => by simp [amalgamref10_Check.l2] at h⟩
  | k + 1 => by
    obtain ⟨ih0, ih1, ih2⟩ := amalgamref10_Check.mono_l k
    refine ⟨?_, ?_, ?_⟩
    · intro y0 y1 y2
      unfold amalgamref10_Check.l0
      repeat' first
      | (with_reducible exact ih0 _ _ _)
      | (with_reducible exact ih1 _ _ _)
      | (with_reducible exact ih2 _ _ _ _)
      | (with_reducible exact LeO.refl _)
      | (with_reducible exact LeO.none _)
      | (with_reducible refine LeO.ite ?_ ?_)
      | (with_reducible refine LeO.bind ?_ (fun _ => ?_))
      | exact ih0 _ _ _
      | exact ih1 _ _ _
      | exact ih2 _ _ _ _
      | exact LeO.none _
      | refine LeO.ite ?_ ?_
      | refine LeO.bind ?_ (fun _ => ?_)
    · intro y0 y1 y2
      unfold amalgamref10_Check.l1
      repeat' first
      | (with_reducible exact ih0 _ _ _)
      | (with_reducible exact ih1 _ _ _)
      | (with_reducible exact ih2 _ _ _ _)
      | (with_reducible exact LeO.refl _)
      | (with_reducible exact LeO.none _)
      | (with_reducible refine LeO.ite ?_ ?_)
      | (with_reducible refine LeO.bind ?_ (fun _ => ?_))
      | exact ih0 _ _ _
      | exact ih1 _ _ _
      | exact ih2 _ _ _ _
      | exact LeO.none _
      | refine LeO.ite ?_ ?_
      | refine LeO.bind ?_ (fun _ => ?_)
    · intro y0 y1 y2 y3
      unfold amalgamref10_Check.l2
      repeat' first
      | (with_reducible exact ih0 _ _ _)
      | (with_reducible exact ih1 _ _ _)
      | (with_reducible exact ih2 _ _ _ _)
      | (with_reducible exact LeO.refl _)
      | (with_reducible exact LeO.none _)
      | (with_reducible refine LeO.ite ?_ ?_)
      | (with_reducible refine LeO.bind ?_ (fun _ => ?_))
      | exact ih0 _ _ _
      | exact ih1 _ _ _
      | exact ih2 _ _ _ _
      | exact LeO.none _
      | refine LeO.ite ?_ ?_
      | refine LeO.bind ?_ (fun _ => ?_)
theorem amalgamref10_Check.mono : ∀ a0 a1 k, LeO (amalgamref10_Check.f k a0 a1) (amalgamref10_Check.f (k + 1) a0 a1) := by
  intro a0 a1 k
  obtain ⟨ih0, ih1, ih2⟩ := amalgamref10_Check.mono_l k
  unfold amalgamref10_Check.f
  repeat' first
      | (with_reducible exact ih0 _ _ _)
      | (with_reducible exact ih1 _ _ _)
      | (with_reducible exact ih2 _ _ _ _)
      | (with_reducible exact LeO.refl _)
      | (with_reducible exact LeO.none _)
      | (with_reducible refine LeO.ite ?_ ?_)
      | (with_reducible refine LeO.bind ?_ (fun _ => ?_))
      | exact ih0 _ _ _
      | exact ih1 _ _ _
      | exact ih2 _ _ _ _
      | exact LeO.none _
      | refine LeO.ite ?_ ?_
      | refine LeO.bind ?_ (fun _ => ?_)
set_option maxHeartbeats 8000000 in
set_option maxRecDepth 100000 in
theorem amalgamref10_Check.calls (k : Nat) (A0 : Option Addr) (c0 : Nat) (l0 : List (List Int)) (A1 : Option Addr) (c1 : Nat) (l1 : List Int) (r : Int) (w : World) (hr0 : Kd.C (Kd.slice 3 (Kd.int .i64)) w A0 l0.length l0) (hc0 : l0.length ≤ c0) (hr1 : Kd.C (Kd.int .i64) w A1 l1.length l1) (hc1 : l1.length ≤ c1) (h : amalgamref10_Check.f k l0 l1 = some r) :
    Calls Tryd.prog 22 #[.slice A0 l0.length c0, .slice A1 l1.length c1] w fun e w' => e = .returned (.int .i64 r) ∧ Drawn0 w w' := by
  have HR0 := Aside0.mk hr0
  have HC0 := Aside0.mk hc0
  clear hr0 hc0
  have HR1 := Aside0.mk hr1
  have HC1 := Aside0.mk hc1
  clear hr1 hc1
  have H : (if (l0.length : Int) > 16 then (some 101) else (if (l1.length : Int) > 10 then (some 102) else (amalgamref10_Check.l0 k l0 l1 0))) = some r := h
  clear h
  by_cases c3 : (l0.length : Int) > 16
  · rw [if_pos c3] at H
    have c3b0 : decide (16 < (l0.length : Int)) = true := decide_eq_true c3
    have c3b1 : decide (16 < l0.length) = true := decide_eq_true (by omega)
    clear c3
    obtain rfl := Option.some.inj H
    go_enter Tryd.func22, Tryd.ntmps22
    go_wp2
    go_ret
    exact ⟨by first | rfl | (simp; done) | (simp [*]; done), by repeat (first | exact Drawn0.refl _ | apply Drawn0.step)⟩
  · rw [if_neg c3] at H
    have c3b0 : decide (16 < (l0.length : Int)) = false := decide_eq_false c3
    have c3b1 : decide (16 < l0.length) = false := decide_eq_false (by omega)
    clear c3
    by_cases c4 : (l1.length : Int) > 10
    · rw [if_pos c4] at H
      have c4b0 : decide (10 < (l1.length : Int)) = true := decide_eq_true c4
      have c4b1 : decide (10 < l1.length) = true := decide_eq_true (by omega)
      clear c4
      obtain rfl := Option.some.inj H
      go_enter Tryd.func22, Tryd.ntmps22
      go_wp2
      go_ret
      exact ⟨by first | rfl | (simp; done) | (simp [*]; done), by repeat (first | exact Drawn0.refl _ | apply Drawn0.step)⟩
    · rw [if_neg c4] at H
      have c4b0 : decide (10 < (l1.length : Int)) = false := decide_eq_false c4
      have c4b1 : decide (10 < l1.length) = false := decide_eq_false (by omega)
      clear c4
      have H' := Aside0.mk H
      clear H
      go_enter Tryd.func22, Tryd.ntmps22
      go_wp2
      go_loopg [5] k (fun kq v5 w' => ∃ (x5_1 : Int), v5 = .int .i64 x5_1 ∧ Aside0 (amalgamref10_Check.l0 kq l0 l1 x5_1 = some r) ∧ Aside0 (kq ≤ k) ∧ Drawn0 w w')
      case atStart => exact ⟨(0), (by first | rfl | (simp; done) | (simp [*]; done)), H', ⟨Nat.le_refl _⟩, by repeat (first | exact Drawn0.refl _ | apply Drawn0.step)⟩
      case round =>
        clear H'
        try clear c1
        try clear c2
        try clear p2
        try clear c3
        try clear c3b0
        try clear c3b1
        try clear c4
        try clear c4b0
        try clear c4b1
        obtain ⟨x5_1, rfl, HA, HK1, ⟨m1, rfl⟩⟩ := hrel
        cases gk with
        | zero => exact absurd HA.out (by simp [amalgamref10_Check.l0])
        | succ k1 =>
          have H := HA.out
          clear HA
          simp only [amalgamref10_Check.l0] at H
          by_cases c5 : x5_1 < (l1.length : Int)
          · rw [if_pos c5] at H
            have c5b0 : decide (x5_1 < (l1.length : Int)) = true := decide_eq_true c5
            clear c5
            by_cases c6 : 0 ≤ x5_1
            · rw [if_pos c6] at H
              have c6b0 : decide (0 ≤ x5_1) = true := decide_eq_true c6
              clear c6
              by_cases c7 : (rd l1 x5_1) < 0
              · rw [if_pos c7] at H
                have c7b0 : decide ((rd l1 x5_1) < 0) = true := decide_eq_true c7
                clear c7
                obtain rfl := Option.some.inj H
                have p101 : 0 ≤ (x5_1 : Int) := of_decide_eq_true (by first | (with_reducible assumption) | assumption)
                have q101 : x5_1 < (l1.length : Int) := of_decide_eq_true (by first | (with_reducible assumption) | assumption)
                obtain ⟨ad101, e101, hx101_0⟩ := Kd.at_int HR1.out x5_1 p101 q101
                cases e101
                replace p101 := eq_true p101
                replace q101 := eq_true q101
                go_wp2
                go_ret
                exact ⟨by first | rfl | (simp; done) | (simp [*]; done), by repeat (first | exact Drawn0.refl _ | apply Drawn0.step)⟩
              · rw [if_neg c7] at H
                have c7b0 : decide ((rd l1 x5_1) < 0) = false := decide_eq_false c7
                clear c7
                by_cases c8 : (rd l1 x5_1) > 2
                · rw [if_pos c8] at H
                  have c8b0 : decide (2 < (rd l1 x5_1)) = true := decide_eq_true c8
                  clear c8
                  obtain rfl := Option.some.inj H
                  have p101 : 0 ≤ (x5_1 : Int) := of_decide_eq_true (by first | (with_reducible assumption) | assumption)
                  have q101 : x5_1 < (l1.length : Int) := of_decide_eq_true (by first | (with_reducible assumption) | assumption)
                  obtain ⟨ad101, e101, hx101_0⟩ := Kd.at_int HR1.out x5_1 p101 q101
                  cases e101
                  replace p101 := eq_true p101
                  replace q101 := eq_true q101
                  have p102 : 0 ≤ (x5_1 : Int) := of_decide_eq_true (by first | (with_reducible assumption) | assumption)
                  have q102 : x5_1 < (l1.length : Int) := of_decide_eq_true (by first | (with_reducible assumption) | assumption)
                  obtain ⟨ad102, e102, hx102_0⟩ := Kd.at_int HR1.out x5_1 p102 q102
                  obtain rfl : ad101 = ad102 := (by injection e102)
                  replace p102 := eq_true p102
                  replace q102 := eq_true q102
                  go_wp2
                  go_ret
                  exact ⟨by first | rfl | (simp; done) | (simp [*]; done), by repeat (first | exact Drawn0.refl _ | apply Drawn0.step)⟩
                · rw [if_neg c8] at H
                  have c8b0 : decide (2 < (rd l1 x5_1)) = false := decide_eq_false c8
                  clear c8
                  have H' := Aside0.mk H
                  clear H
                  have p101 : 0 ≤ (x5_1 : Int) := of_decide_eq_true (by first | (with_reducible assumption) | assumption)
                  have q101 : x5_1 < (l1.length : Int) := of_decide_eq_true (by first | (with_reducible assumption) | assumption)
                  obtain ⟨ad101, e101, hx101_0⟩ := Kd.at_int HR1.out x5_1 p101 q101
                  cases e101
                  replace p101 := eq_true p101
                  replace q101 := eq_true q101
                  have p102 : 0 ≤ (x5_1 : Int) := of_decide_eq_true (by first | (with_reducible assumption) | assumption)
                  have q102 : x5_1 < (l1.length : Int) := of_decide_eq_true (by first | (with_reducible assumption) | assumption)
                  obtain ⟨ad102, e102, hx102_0⟩ := Kd.at_int HR1.out x5_1 p102 q102
                  obtain rfl : ad101 = ad102 := (by injection e102)
                  replace p102 := eq_true p102
                  replace q102 := eq_true q102
                  go_wp2
                  go_roundg k1
                  case measure => have := HK1.out; omega
                  case rel => exact ⟨(wrap64 (x5_1 + 1)), (by first | rfl | (simp; done) | (simp [*]; done)), H', ⟨by have := HK1.out; omega⟩, by repeat (first | exact Drawn0.refl _ | apply Drawn0.step)⟩
            · rw [if_neg c6] at H
              exact absurd H (by simp)
          · rw [if_neg c5] at H
            have c5b0 : decide (x5_1 < (l1.length : Int)) = false := decide_eq_false c5
            clear c5
            have H' := Aside0.mk H
            clear H
            go_wp2
            go_loopg [6] k1 (fun kq v6 w' => ∃ (x6_2 : Int), v6 = .int .i64 x6_2 ∧ Aside0 (amalgamref10_Check.l1 kq l0 l1 x6_2 = some r) ∧ Aside0 (kq ≤ k1) ∧ Drawn0 w w')
            case atStart => exact ⟨(0), (by first | rfl | (simp; done) | (simp [*]; done)), H', ⟨Nat.le_refl _⟩, by repeat (first | exact Drawn0.refl _ | apply Drawn0.step)⟩
            case round =>
              clear H'
              try clear c1
              try clear p1
              try clear q1
              try clear hx1
              try clear c2
              try clear p2
              try clear c3
              try clear c3b0
              try clear c3b1
              try clear c4
              try clear c4b0
              try clear c4b1
              try clear c5
              try clear c5b0
              try clear c6
              try clear c6b0
              try clear p6
              try clear c7
              try clear c7b0
              try clear c8
              try clear c8b0
              try clear hx101_0
              try clear hx102_0
              try clear p101
              try clear p102
              try clear p2
              try clear q101
              try clear q102
              obtain ⟨x6_2, rfl, HA, HK2, ⟨m2, rfl⟩⟩ := hrel
              cases gk with
              | zero => exact absurd HA.out (by simp [amalgamref10_Check.l1])
              | succ k2 =>
                have H := HA.out
                clear HA
                simp only [amalgamref10_Check.l1] at H
                by_cases c9 : x6_2 < (l0.length : Int)
                · rw [if_pos c9] at H
                  have c9b0 : decide (x6_2 < (l0.length : Int)) = true := decide_eq_true c9
                  clear c9
                  by_cases c10 : 0 ≤ x6_2
                  · rw [if_pos c10] at H
                    have c10b0 : decide (0 ≤ x6_2) = true := decide_eq_true c10
                    clear c10
                    by_cases c11 : ((rd_L1 l0 x6_2).length : Int) = (l1.length : Int)
                    · rw [if_pos c11] at H
                      have c11b0 : (((rd_L1 l0 x6_2).length : Int) == (l1.length : Int)) = true := beq_iff_eq.mpr c11
                      have c11b1 : (((rd_L1 l0 x6_2).length : Int) != (l1.length : Int)) = false := bne_eq_false_iff_eq.mpr c11
                      have c11b2 : ((rd_L1 l0 x6_2).length == l1.length) = true := by first | simpa using c11 | (simp at c11 ⊢; omega)
                      clear c11
                      have H' := Aside0.mk H
                      clear H
                      have p103 : 0 ≤ (x6_2 : Int) := of_decide_eq_true (by first | (with_reducible assumption) | assumption)
                      have q103 : x6_2 < (l0.length : Int) := of_decide_eq_true (by first | (with_reducible assumption) | assumption)
                      obtain ⟨ad103, A103_0, c103_0, e103, hx103_0, hl103_0, hi103_0⟩ := at_L1 HR0.out x6_2 p103 q103
                      cases e103
                      have HR103_0 := Aside0.mk hi103_0
                      have HC103_0 := Aside0.mk hl103_0
                      clear hi103_0 hl103_0
                      replace p103 := eq_true p103
                      replace q103 := eq_true q103
                      go_wp2
                      go_loopg [7] k2 (fun kq v7 w' => ∃ (x7_3 : Int), v7 = .int .i64 x7_3 ∧ Aside0 (amalgamref10_Check.l2 kq l0 l1 x6_2 x7_3 = some r) ∧ Aside0 (kq ≤ k2) ∧ Drawn0 w w')
                      case atStart => exact ⟨(0), (by first | rfl | (simp; done) | (simp [*]; done)), H', ⟨Nat.le_refl _⟩, by repeat (first | exact Drawn0.refl _ | apply Drawn0.step)⟩
                      case round =>
                        clear H'
                        try clear c1
                        try clear p1
                        try clear q1
                        try clear hx1
                        try clear c2
                        try clear p2
                        try clear c3
                        try clear c3b0
                        try clear c3b1
                        try clear c4
                        try clear c4b0
                        try clear c4b1
                        try clear c5
                        try clear c5b0
                        try clear c6
                        try clear c6b0
                        try clear p6
                        try clear c7
                        try clear c7b0
                        try clear c8
                        try clear c8b0
                        try clear c9
                        try clear c9b0
                        try clear c10
                        try clear c10b0
                        try clear p10
                        try clear q10
                        try clear hx10
                        try clear c11
                        try clear c11b0
                        try clear c11b1
                        try clear c11b2
                        try clear hx101_0
                        try clear hx102_0
                        try clear hx103_0
                        try clear p1
                        try clear p101
                        try clear p102
                        try clear p103
                        try clear p2
                        try clear p6
                        try clear q1
                        try clear q101
                        try clear q102
                        try clear q103
                        obtain ⟨x7_3, rfl, HA, HK3, ⟨m3, rfl⟩⟩ := hrel
                        cases gk with
                        | zero => exact absurd HA.out (by simp [amalgamref10_Check.l2])
                        | succ k3 =>
                          have H := HA.out
                          clear HA
                          simp only [amalgamref10_Check.l2] at H
                          by_cases c12 : x7_3 < (l1.length : Int)
                          · rw [if_pos c12] at H
                            have c12b0 : decide (x7_3 < (l1.length : Int)) = true := decide_eq_true c12
                            clear c12
                            by_cases c13 : 0 ≤ x6_2
                            · rw [if_pos c13] at H
                              have c13b0 : decide (0 ≤ x6_2) = true := decide_eq_true c13
                              clear c13
                              by_cases c14 : x6_2 < (l0.length : Int)
                              · rw [if_pos c14] at H
                                have c14b0 : decide (x6_2 < (l0.length : Int)) = true := decide_eq_true c14
                                clear c14
                                by_cases c15 : 0 ≤ x7_3
                                · rw [if_pos c15] at H
                                  have c15b0 : decide (0 ≤ x7_3) = true := decide_eq_true c15
                                  clear c15
                                  by_cases c16 : x7_3 < ((rd_L1 l0 x6_2).length : Int)
                                  · rw [if_pos c16] at H
                                    have c16b0 : decide (x7_3 < ((rd_L1 l0 x6_2).length : Int)) = true := decide_eq_true c16
                                    clear c16
                                    by_cases c17 : (rd (rd_L1 l0 x6_2) x7_3) < 0
                                    · rw [if_pos c17] at H
                                      have c17b0 : decide ((rd (rd_L1 l0 x6_2) x7_3) < 0) = true := decide_eq_true c17
                                      clear c17
                                      obtain rfl := Option.some.inj H
                                      have p104 : 0 ≤ (x6_2 : Int) := of_decide_eq_true (by first | (with_reducible assumption) | assumption)
                                      have q104 : x6_2 < (l0.length : Int) := of_decide_eq_true (by first | (with_reducible assumption) | assumption)
                                      obtain ⟨ad104, A104_0, c104_0, e104, hx104_0, hl104_0, hi104_0⟩ := at_L1 HR0.out x6_2 p104 q104
                                      obtain rfl : ad103 = ad104 := (by injection e104)
                                      have HR104_0 := Aside0.mk hi104_0
                                      have HC104_0 := Aside0.mk hl104_0
                                      clear hi104_0 hl104_0
                                      replace p104 := eq_true p104
                                      replace q104 := eq_true q104
                                      have p105 : 0 ≤ (x7_3 : Int) := of_decide_eq_true (by first | (with_reducible assumption) | assumption)
                                      have q105 : x7_3 < ((rd_L1 l0 x6_2).length : Int) := of_decide_eq_true (by first | (with_reducible assumption) | assumption)
                                      obtain ⟨ad105, e105, hx105_0⟩ := Kd.at_int HR104_0.out x7_3 p105 q105
                                      cases e105
                                      replace p105 := eq_true p105
                                      replace q105 := eq_true q105
                                      go_wp2
                                      go_ret
                                      exact ⟨by first | rfl | (simp; done) | (simp [*]; done), by repeat (first | exact Drawn0.refl _ | apply Drawn0.step)⟩
                                    · rw [if_neg c17] at H
                                      have c17b0 : decide ((rd (rd_L1 l0 x6_2) x7_3) < 0) = false := decide_eq_false c17
                                      clear c17
                                      by_cases c18 : (rd (rd_L1 l0 x6_2) x7_3) > 1048576
                                      · rw [if_pos c18] at H
                                        have c18b0 : decide (1048576 < (rd (rd_L1 l0 x6_2) x7_3)) = true := decide_eq_true c18
                                        clear c18
                                        obtain rfl := Option.some.inj H
                                        have p104 : 0 ≤ (x6_2 : Int) := of_decide_eq_true (by first | (with_reducible assumption) | assumption)
                                        have q104 : x6_2 < (l0.length : Int) := of_decide_eq_true (by first | (with_reducible assumption) | assumption)
                                        obtain ⟨ad104, A104_0, c104_0, e104, hx104_0, hl104_0, hi104_0⟩ := at_L1 HR0.out x6_2 p104 q104
                                        obtain rfl : ad103 = ad104 := (by injection e104)
                                        have HR104_0 := Aside0.mk hi104_0
                                        have HC104_0 := Aside0.mk hl104_0
                                        clear hi104_0 hl104_0
                                        replace p104 := eq_true p104
                                        replace q104 := eq_true q104
                                        have p105 : 0 ≤ (x7_3 : Int) := of_decide_eq_true (by first | (with_reducible assumption) | assumption)
                                        have q105 : x7_3 < ((rd_L1 l0 x6_2).length : Int) := of_decide_eq_true (by first | (with_reducible assumption) | assumption)
                                        obtain ⟨ad105, e105, hx105_0⟩ := Kd.at_int HR104_0.out x7_3 p105 q105
                                        cases e105
                                        replace p105 := eq_true p105
                                        replace q105 := eq_true q105
                                        have p106 : 0 ≤ (x6_2 : Int) := of_decide_eq_true (by first | (with_reducible assumption) | assumption)
                                        have q106 : x6_2 < (l0.length : Int) := of_decide_eq_true (by first | (with_reducible assumption) | assumption)
                                        obtain ⟨ad106, A106_0, c106_0, e106, hx106_0, hl106_0, hi106_0⟩ := at_L1 HR0.out x6_2 p106 q106
                                        obtain rfl : ad103 = ad106 := (by injection e106)
                                        have HR106_0 := Aside0.mk hi106_0
                                        have HC106_0 := Aside0.mk hl106_0
                                        clear hi106_0 hl106_0
                                        replace p106 := eq_true p106
                                        replace q106 := eq_true q106
                                        have ea_ := Option.some.inj (hx104_0.symm.trans hx106_0)
                                        injection ea_ with ea_ en_ ec_
                                        subst ea_
                                        subst ec_
                                        clear en_
                                        have p107 : 0 ≤ (x7_3 : Int) := of_decide_eq_true (by first | (with_reducible assumption) | assumption)
                                        have q107 : x7_3 < ((rd_L1 l0 x6_2).length : Int) := of_decide_eq_true (by first | (with_reducible assumption) | assumption)
                                        obtain ⟨ad107, e107, hx107_0⟩ := Kd.at_int HR106_0.out x7_3 p107 q107
                                        cases e107
                                        replace p107 := eq_true p107
                                        replace q107 := eq_true q107
                                        go_wp2
                                        go_ret
                                        exact ⟨by first | rfl | (simp; done) | (simp [*]; done), by repeat (first | exact Drawn0.refl _ | apply Drawn0.step)⟩
                                      · rw [if_neg c18] at H
                                        have c18b0 : decide (1048576 < (rd (rd_L1 l0 x6_2) x7_3)) = false := decide_eq_false c18
                                        clear c18
                                        have H' := Aside0.mk H
                                        clear H
                                        have p104 : 0 ≤ (x6_2 : Int) := of_decide_eq_true (by first | (with_reducible assumption) | assumption)
                                        have q104 : x6_2 < (l0.length : Int) := of_decide_eq_true (by first | (with_reducible assumption) | assumption)
                                        obtain ⟨ad104, A104_0, c104_0, e104, hx104_0, hl104_0, hi104_0⟩ := at_L1 HR0.out x6_2 p104 q104
                                        obtain rfl : ad103 = ad104 := (by injection e104)
                                        have HR104_0 := Aside0.mk hi104_0
                                        have HC104_0 := Aside0.mk hl104_0
                                        clear hi104_0 hl104_0
                                        replace p104 := eq_true p104
                                        replace q104 := eq_true q104
                                        have p105 : 0 ≤ (x7_3 : Int) := of_decide_eq_true (by first | (with_reducible assumption) | assumption)
                                        have q105 : x7_3 < ((rd_L1 l0 x6_2).length : Int) := of_decide_eq_true (by first | (with_reducible assumption) | assumption)
                                        obtain ⟨ad105, e105, hx105_0⟩ := Kd.at_int HR104_0.out x7_3 p105 q105
                                        cases e105
                                        replace p105 := eq_true p105
                                        replace q105 := eq_true q105
                                        have p106 : 0 ≤ (x6_2 : Int) := of_decide_eq_true (by first | (with_reducible assumption) | assumption)
                                        have q106 : x6_2 < (l0.length : Int) := of_decide_eq_true (by first | (with_reducible assumption) | assumption)
                                        obtain ⟨ad106, A106_0, c106_0, e106, hx106_0, hl106_0, hi106_0⟩ := at_L1 HR0.out x6_2 p106 q106
                                        obtain rfl : ad103 = ad106 := (by injection e106)
                                        have HR106_0 := Aside0.mk hi106_0
                                        have HC106_0 := Aside0.mk hl106_0
                                        clear hi106_0 hl106_0
                                        replace p106 := eq_true p106
                                        replace q106 := eq_true q106
                                        have ea_ := Option.some.inj (hx104_0.symm.trans hx106_0)
                                        injection ea_ with ea_ en_ ec_
                                        subst ea_
                                        subst ec_
                                        clear en_
                                        have p107 : 0 ≤ (x7_3 : Int) := of_decide_eq_true (by first | (with_reducible assumption) | assumption)
                                        have q107 : x7_3 < ((rd_L1 l0 x6_2).length : Int) := of_decide_eq_true (by first | (with_reducible assumption) | assumption)
                                        obtain ⟨ad107, e107, hx107_0⟩ := Kd.at_int HR106_0.out x7_3 p107 q107
                                        cases e107
                                        replace p107 := eq_true p107
                                        replace q107 := eq_true q107
                                        go_wp2
                                        go_roundg k3
                                        case measure => have := HK1.out; have := HK2.out; have := HK3.out; omega
                                        case rel => exact ⟨(wrap64 (x7_3 + 1)), (by first | rfl | (simp; done) | (simp [*]; done)), H', ⟨by have := HK1.out; have := HK2.out; have := HK3.out; omega⟩, by repeat (first | exact Drawn0.refl _ | apply Drawn0.step)⟩
                                  · rw [if_neg c16] at H
                                    exact absurd H (by simp)
                                · rw [if_neg c15] at H
                                  exact absurd H (by simp)
                              · rw [if_neg c14] at H
                                exact absurd H (by simp)
                            · rw [if_neg c13] at H
                              exact absurd H (by simp)
                          · rw [if_neg c12] at H
                            have c12b0 : decide (x7_3 < (l1.length : Int)) = false := decide_eq_false c12
                            clear c12
                            have H' := Aside0.mk H
                            clear H
                            go_wp2
                            go_roundg k3
                            case measure => have := HK1.out; have := HK2.out; have := HK3.out; omega
                            case rel => exact ⟨(wrap64 (x6_2 + 1)), (by first | rfl | (simp; done) | (simp [*]; done)), H', ⟨by have := HK1.out; have := HK2.out; have := HK3.out; omega⟩, by repeat (first | exact Drawn0.refl _ | apply Drawn0.step)⟩
                    · rw [if_neg c11] at H
                      have c11b0 : (((rd_L1 l0 x6_2).length : Int) == (l1.length : Int)) = false := beq_eq_false_iff_ne.mpr c11
                      have c11b1 : (((rd_L1 l0 x6_2).length : Int) != (l1.length : Int)) = true := bne_iff_ne.mpr c11
                      have c11b2 : ((rd_L1 l0 x6_2).length == l1.length) = false := by first | simpa using c11 | (simp at c11 ⊢; omega)
                      obtain rfl := Option.some.inj H
                      have p103 : 0 ≤ (x6_2 : Int) := of_decide_eq_true (by first | (with_reducible assumption) | assumption)
                      have q103 : x6_2 < (l0.length : Int) := of_decide_eq_true (by first | (with_reducible assumption) | assumption)
                      obtain ⟨ad103, A103_0, c103_0, e103, hx103_0, hl103_0, hi103_0⟩ := at_L1 HR0.out x6_2 p103 q103
                      cases e103
                      have HR103_0 := Aside0.mk hi103_0
                      have HC103_0 := Aside0.mk hl103_0
                      clear hi103_0 hl103_0
                      replace p103 := eq_true p103
                      replace q103 := eq_true q103
                      go_wp2
                      go_ret
                      exact ⟨by first | rfl | (simp; done) | (simp [*]; done), by repeat (first | exact Drawn0.refl _ | apply Drawn0.step)⟩
                  · rw [if_neg c10] at H
                    exact absurd H (by simp)
                · rw [if_neg c9] at H
                  have c9b0 : decide (x6_2 < (l0.length : Int)) = false := decide_eq_false c9
                  clear c9
                  obtain rfl := Option.some.inj H
                  go_wp2
                  go_ret
                  exact ⟨by first | rfl | (simp; done) | (simp [*]; done), by repeat (first | exact Drawn0.refl _ | apply Drawn0.step)⟩

/-! ### amalgamref10_fits: function 31 -/
def amalgamref10_fits.l0 : Nat → List Int → List Int → Int → Option (Bool)
  | 0, _, _, _ => none
  | k + 1, x0, x1, x5 => if x5 < (x1.length : Int) then (if 0 ≤ x5 then (if (rd x1 x5) = 1 then (if x5 < (x0.length : Int) then (if (rd x0 x5) < 1 then (some false) else (if (rd x1 x5) = 2 then (if (rd x0 x5) = 1 then (amalgamref10_fits.l0 k x0 x1 (wrap64 (x5 + 1))) else (some false)) else (amalgamref10_fits.l0 k x0 x1 (wrap64 (x5 + 1))))) else (none)) else (if (rd x1 x5) = 2 then (if x5 < (x0.length : Int) then (if (rd x0 x5) = 1 then (amalgamref10_fits.l0 k x0 x1 (wrap64 (x5 + 1))) else (some false)) else (none)) else (amalgamref10_fits.l0 k x0 x1 (wrap64 (x5 + 1))))) else (none)) else (some true)
def amalgamref10_fits.f (k : Nat) (l0 : List Int) (l1 : List Int) : Option (Bool) := amalgamref10_fits.l0 k l0 l1 0
theorem amalgamref10_fits.mono_l : ∀ k, (∀ y0 y1 y2, LeO (amalgamref10_fits.l0 k y0 y1 y2) (amalgamref10_fits.l0 (k + 1) y0 y1 y2))
  | 0 => fun _ _ _ r h => by simp [amalgamref10_fits.l0] at h
  | k + 1 => by
    have ih0 := amalgamref10_fits.mono_l k
    · intro y0 y1 y2
      unfold amalgamref10_fits.l0
      repeat' first
      | (with_reducible exact ih0 _ _ _)
      | (with_reducible exact LeO.refl _)
      | (with_reducible exact LeO.none _)
      | (with_reducible refine LeO.ite ?_ ?_)
      | (with_reducible refine LeO.bind ?_ (fun _ => ?_))
      | exact ih0 _ _ _
      | exact LeO.none _
      | refine LeO.ite ?_ ?_
      | refine LeO.bind ?_ (fun _ => ?_)
theorem amalgamref10_fits.mono : ∀ a0 a1 k, LeO (amalgamref10_fits.f k a0 a1) (amalgamref10_fits.f (k + 1) a0 a1) := by
  intro a0 a1 k
  have ih0 := amalgamref10_fits.mono_l k
  unfold amalgamref10_fits.f
  repeat' first
      | (with_reducible exact ih0 _ _ _)
      | (with_reducible exact LeO.refl _)
      | (with_reducible exact LeO.none _)
      | (with_reducible refine LeO.ite ?_ ?_)
      | (with_reducible refine LeO.bind ?_ (fun _ => ?_))
      | exact ih0 _ _ _
      | exact LeO.none _
      | refine LeO.ite ?_ ?_
      | refine LeO.bind ?_ (fun _ => ?_)
set_option maxHeartbeats 8000000 in
set_option maxRecDepth 100000 in
theorem amalgamref10_fits.calls (k : Nat) (A0 : Option Addr) (c0 : Nat) (l0 : List Int) (A1 : Option Addr) (c1 : Nat) (l1 : List Int) (r : Bool) (w : World) (hr0 : Kd.C (Kd.int .i64) w A0 l0.length l0) (hc0 : l0.length ≤ c0) (hr1 : Kd.C (Kd.int .i64) w A1 l1.length l1) (hc1 : l1.length ≤ c1) (h : amalgamref10_fits.f k l0 l1 = some r) :
    Calls Tryd.prog 31 #[.slice A0 l0.length c0, .slice A1 l1.length c1] w fun e w' => e = .returned (.bool r) ∧ Drawn0 w w' := by
  have HR0 := Aside0.mk hr0
  have HC0 := Aside0.mk hc0
  clear hr0 hc0
  have HR1 := Aside0.mk hr1
  have HC1 := Aside0.mk hc1
  clear hr1 hc1
  have H : (amalgamref10_fits.l0 k l0 l1 0) = some r := h
  clear h
  have H' := Aside0.mk H
  clear H
  go_enter Tryd.func31, Tryd.ntmps31
  go_wp2
  go_loopg [5] k (fun kq v5 w' => ∃ (x5_1 : Int), v5 = .int .i64 x5_1 ∧ Aside0 (amalgamref10_fits.l0 kq l0 l1 x5_1 = some r) ∧ Aside0 (kq ≤ k) ∧ Drawn0 w w')
  case atStart => exact ⟨(0), (by first | rfl | (simp; done) | (simp [*]; done)), H', ⟨Nat.le_refl _⟩, by repeat (first | exact Drawn0.refl _ | apply Drawn0.step)⟩
  case round =>
    clear H'
    try clear c1
    try clear p2
    obtain ⟨x5_1, rfl, HA, HK1, ⟨m1, rfl⟩⟩ := hrel
    cases gk with
    | zero => exact absurd HA.out (by simp [amalgamref10_fits.l0])
    | succ k1 =>
      have H := HA.out
      clear HA
      simp only [amalgamref10_fits.l0] at H
      by_cases c3 : x5_1 < (l1.length : Int)
      · rw [if_pos c3] at H
        have c3b0 : decide (x5_1 < (l1.length : Int)) = true := decide_eq_true c3
        clear c3
        by_cases c4 : 0 ≤ x5_1
        · rw [if_pos c4] at H
          have c4b0 : decide (0 ≤ x5_1) = true := decide_eq_true c4
          clear c4
          by_cases c5 : (rd l1 x5_1) = 1
          · rw [if_pos c5] at H
            have c5b0 : ((rd l1 x5_1) == 1) = true := beq_iff_eq.mpr c5
            have c5b1 : ((rd l1 x5_1) != 1) = false := bne_eq_false_iff_eq.mpr c5
            clear c5
            by_cases c6 : x5_1 < (l0.length : Int)
            · rw [if_pos c6] at H
              have c6b0 : decide (x5_1 < (l0.length : Int)) = true := decide_eq_true c6
              clear c6
              by_cases c7 : (rd l0 x5_1) < 1
              · rw [if_pos c7] at H
                have c7b0 : decide ((rd l0 x5_1) < 1) = true := decide_eq_true c7
                clear c7
                obtain rfl := Option.some.inj H
                have p108 : 0 ≤ (x5_1 : Int) := of_decide_eq_true (by first | (with_reducible assumption) | assumption)
                have q108 : x5_1 < (l1.length : Int) := of_decide_eq_true (by first | (with_reducible assumption) | assumption)
                obtain ⟨ad108, e108, hx108_0⟩ := Kd.at_int HR1.out x5_1 p108 q108
                cases e108
                replace p108 := eq_true p108
                replace q108 := eq_true q108
                have p109 : 0 ≤ (x5_1 : Int) := of_decide_eq_true (by first | (with_reducible assumption) | assumption)
                have q109 : x5_1 < (l0.length : Int) := of_decide_eq_true (by first | (with_reducible assumption) | assumption)
                obtain ⟨ad109, e109, hx109_0⟩ := Kd.at_int HR0.out x5_1 p109 q109
                cases e109
                replace p109 := eq_true p109
                replace q109 := eq_true q109
                go_wp2
                go_ret
                exact ⟨by first | rfl | (simp; done) | (simp [*]; done), by repeat (first | exact Drawn0.refl _ | apply Drawn0.step)⟩
              · rw [if_neg c7] at H
                have c7b0 : decide ((rd l0 x5_1) < 1) = false := decide_eq_false c7
                clear c7
                by_cases c8 : (rd l1 x5_1) = 2
                · rw [if_pos c8] at H
                  have c8b0 : ((rd l1 x5_1) == 2) = true := beq_iff_eq.mpr c8
                  have c8b1 : ((rd l1 x5_1) != 2) = false := bne_eq_false_iff_eq.mpr c8
                  clear c8
                  by_cases c9 : (rd l0 x5_1) = 1
                  · rw [if_pos c9] at H
                    have c9b0 : ((rd l0 x5_1) == 1) = true := beq_iff_eq.mpr c9
                    have c9b1 : ((rd l0 x5_1) != 1) = false := bne_eq_false_iff_eq.mpr c9
                    clear c9
                    have H' := Aside0.mk H
                    clear H
                    have p108 : 0 ≤ (x5_1 : Int) := of_decide_eq_true (by first | (with_reducible assumption) | assumption)
                    have q108 : x5_1 < (l1.length : Int) := of_decide_eq_true (by first | (with_reducible assumption) | assumption)
                    obtain ⟨ad108, e108, hx108_0⟩ := Kd.at_int HR1.out x5_1 p108 q108
                    cases e108
                    replace p108 := eq_true p108
                    replace q108 := eq_true q108
                    have p109 : 0 ≤ (x5_1 : Int) := of_decide_eq_true (by first | (with_reducible assumption) | assumption)
                    have q109 : x5_1 < (l0.length : Int) := of_decide_eq_true (by first | (with_reducible assumption) | assumption)
                    obtain ⟨ad109, e109, hx109_0⟩ := Kd.at_int HR0.out x5_1 p109 q109
                    cases e109
                    replace p109 := eq_true p109
                    replace q109 := eq_true q109
                    have p110 : 0 ≤ (x5_1 : Int) := of_decide_eq_true (by first | (with_reducible assumption) | assumption)
                    have q110 : x5_1 < (l1.length : Int) := of_decide_eq_true (by first | (with_reducible assumption) | assumption)
                    obtain ⟨ad110, e110, hx110_0⟩ := Kd.at_int HR1.out x5_1 p110 q110
                    obtain rfl : ad108 = ad110 := (by injection e110)
                    replace p110 := eq_true p110
                    replace q110 := eq_true q110
                    have p111 : 0 ≤ (x5_1 : Int) := of_decide_eq_true (by first | (with_reducible assumption) | assumption)
                    have q111 : x5_1 < (l0.length : Int) := of_decide_eq_true (by first | (with_reducible assumption) | assumption)
                    obtain ⟨ad111, e111, hx111_0⟩ := Kd.at_int HR0.out x5_1 p111 q111
                    obtain rfl : ad109 = ad111 := (by injection e111)
                    replace p111 := eq_true p111
                    replace q111 := eq_true q111
                    go_wp2
                    go_roundg k1
                    case measure => have := HK1.out; omega
                    case rel => exact ⟨(wrap64 (x5_1 + 1)), (by first | rfl | (simp; done) | (simp [*]; done)), H', ⟨by have := HK1.out; omega⟩, by repeat (first | exact Drawn0.refl _ | apply Drawn0.step)⟩
                  · rw [if_neg c9] at H
                    have c9b0 : ((rd l0 x5_1) == 1) = false := beq_eq_false_iff_ne.mpr c9
                    have c9b1 : ((rd l0 x5_1) != 1) = true := bne_iff_ne.mpr c9
                    obtain rfl := Option.some.inj H
                    have p108 : 0 ≤ (x5_1 : Int) := of_decide_eq_true (by first | (with_reducible assumption) | assumption)
                    have q108 : x5_1 < (l1.length : Int) := of_decide_eq_true (by first | (with_reducible assumption) | assumption)
                    obtain ⟨ad108, e108, hx108_0⟩ := Kd.at_int HR1.out x5_1 p108 q108
                    cases e108
                    replace p108 := eq_true p108
                    replace q108 := eq_true q108
                    have p109 : 0 ≤ (x5_1 : Int) := of_decide_eq_true (by first | (with_reducible assumption) | assumption)
                    have q109 : x5_1 < (l0.length : Int) := of_decide_eq_true (by first | (with_reducible assumption) | assumption)
                    obtain ⟨ad109, e109, hx109_0⟩ := Kd.at_int HR0.out x5_1 p109 q109
                    cases e109
                    replace p109 := eq_true p109
                    replace q109 := eq_true q109
                    have p110 : 0 ≤ (x5_1 : Int) := of_decide_eq_true (by first | (with_reducible assumption) | assumption)
                    have q110 : x5_1 < (l1.length : Int) := of_decide_eq_true (by first | (with_reducible assumption) | assumption)
                    obtain ⟨ad110, e110, hx110_0⟩ := Kd.at_int HR1.out x5_1 p110 q110
                    obtain rfl : ad108 = ad110 := (by injection e110)
                    replace p110 := eq_true p110
                    replace q110 := eq_true q110
                    have p111 : 0 ≤ (x5_1 : Int) := of_decide_eq_true (by first | (with_reducible assumption) | assumption)
                    have q111 : x5_1 < (l0.length : Int) := of_decide_eq_true (by first | (with_reducible assumption) | assumption)
                    obtain ⟨ad111, e111, hx111_0⟩ := Kd.at_int HR0.out x5_1 p111 q111
                    obtain rfl : ad109 = ad111 := (by injection e111)
                    replace p111 := eq_true p111
                    replace q111 := eq_true q111
                    go_wp2
                    go_ret
                    exact ⟨by first | rfl | (simp; done) | (simp [*]; done), by repeat (first | exact Drawn0.refl _ | apply Drawn0.step)⟩
                · rw [if_neg c8] at H
                  have c8b0 : ((rd l1 x5_1) == 2) = false := beq_eq_false_iff_ne.mpr c8
                  have c8b1 : ((rd l1 x5_1) != 2) = true := bne_iff_ne.mpr c8
                  have H' := Aside0.mk H
                  clear H
                  have p108 : 0 ≤ (x5_1 : Int) := of_decide_eq_true (by first | (with_reducible assumption) | assumption)
                  have q108 : x5_1 < (l1.length : Int) := of_decide_eq_true (by first | (with_reducible assumption) | assumption)
                  obtain ⟨ad108, e108, hx108_0⟩ := Kd.at_int HR1.out x5_1 p108 q108
                  cases e108
                  replace p108 := eq_true p108
                  replace q108 := eq_true q108
                  have p109 : 0 ≤ (x5_1 : Int) := of_decide_eq_true (by first | (with_reducible assumption) | assumption)
                  have q109 : x5_1 < (l0.length : Int) := of_decide_eq_true (by first | (with_reducible assumption) | assumption)
                  obtain ⟨ad109, e109, hx109_0⟩ := Kd.at_int HR0.out x5_1 p109 q109
                  cases e109
                  replace p109 := eq_true p109
                  replace q109 := eq_true q109
                  have p110 : 0 ≤ (x5_1 : Int) := of_decide_eq_true (by first | (with_reducible assumption) | assumption)
                  have q110 : x5_1 < (l1.length : Int) := of_decide_eq_true (by first | (with_reducible assumption) | assumption)
                  obtain ⟨ad110, e110, hx110_0⟩ := Kd.at_int HR1.out x5_1 p110 q110
                  obtain rfl : ad108 = ad110 := (by injection e110)
                  replace p110 := eq_true p110
                  replace q110 := eq_true q110
                  go_wp2
                  go_roundg k1
                  case measure => have := HK1.out; omega
                  case rel => exact ⟨(wrap64 (x5_1 + 1)), (by first | rfl | (simp; done) | (simp [*]; done)), H', ⟨by have := HK1.out; omega⟩, by repeat (first | exact Drawn0.refl _ | apply Drawn0.step)⟩
            · rw [if_neg c6] at H
              exact absurd H (by simp)
          · rw [if_neg c5] at H
            have c5b0 : ((rd l1 x5_1) == 1) = false := beq_eq_false_iff_ne.mpr c5
            have c5b1 : ((rd l1 x5_1) != 1) = true := bne_iff_ne.mpr c5
            by_cases c10 : (rd l1 x5_1) = 2
            · rw [if_pos c10] at H
              have c10b0 : ((rd l1 x5_1) == 2) = true := beq_iff_eq.mpr c10
              have c10b1 : ((rd l1 x5_1) != 2) = false := bne_eq_false_iff_eq.mpr c10
              clear c10
              by_cases c11 : x5_1 < (l0.length : Int)
              · rw [if_pos c11] at H
                have c11b0 : decide (x5_1 < (l0.length : Int)) = true := decide_eq_true c11
                clear c11
                by_cases c12 : (rd l0 x5_1) = 1
                · rw [if_pos c12] at H
                  have c12b0 : ((rd l0 x5_1) == 1) = true := beq_iff_eq.mpr c12
                  have c12b1 : ((rd l0 x5_1) != 1) = false := bne_eq_false_iff_eq.mpr c12
                  clear c12
                  have H' := Aside0.mk H
                  clear H
                  have p108 : 0 ≤ (x5_1 : Int) := of_decide_eq_true (by first | (with_reducible assumption) | assumption)
                  have q108 : x5_1 < (l1.length : Int) := of_decide_eq_true (by first | (with_reducible assumption) | assumption)
                  obtain ⟨ad108, e108, hx108_0⟩ := Kd.at_int HR1.out x5_1 p108 q108
                  cases e108
                  replace p108 := eq_true p108
                  replace q108 := eq_true q108
                  have p112 : 0 ≤ (x5_1 : Int) := of_decide_eq_true (by first | (with_reducible assumption) | assumption)
                  have q112 : x5_1 < (l1.length : Int) := of_decide_eq_true (by first | (with_reducible assumption) | assumption)
                  obtain ⟨ad112, e112, hx112_0⟩ := Kd.at_int HR1.out x5_1 p112 q112
                  obtain rfl : ad108 = ad112 := (by injection e112)
                  replace p112 := eq_true p112
                  replace q112 := eq_true q112
                  have p113 : 0 ≤ (x5_1 : Int) := of_decide_eq_true (by first | (with_reducible assumption) | assumption)
                  have q113 : x5_1 < (l0.length : Int) := of_decide_eq_true (by first | (with_reducible assumption) | assumption)
                  obtain ⟨ad113, e113, hx113_0⟩ := Kd.at_int HR0.out x5_1 p113 q113
                  cases e113
                  replace p113 := eq_true p113
                  replace q113 := eq_true q113
                  go_wp2
                  go_roundg k1
                  case measure => have := HK1.out; omega
                  case rel => exact ⟨(wrap64 (x5_1 + 1)), (by first | rfl | (simp; done) | (simp [*]; done)), H', ⟨by have := HK1.out; omega⟩, by repeat (first | exact Drawn0.refl _ | apply Drawn0.step)⟩
                · rw [if_neg c12] at H
                  have c12b0 : ((rd l0 x5_1) == 1) = false := beq_eq_false_iff_ne.mpr c12
                  have c12b1 : ((rd l0 x5_1) != 1) = true := bne_iff_ne.mpr c12
                  obtain rfl := Option.some.inj H
                  have p108 : 0 ≤ (x5_1 : Int) := of_decide_eq_true (by first | (with_reducible assumption) | assumption)
                  have q108 : x5_1 < (l1.length : Int) := of_decide_eq_true (by first | (with_reducible assumption) | assumption)
                  obtain ⟨ad108, e108, hx108_0⟩ := Kd.at_int HR1.out x5_1 p108 q108
                  cases e108
                  replace p108 := eq_true p108
                  replace q108 := eq_true q108
                  have p112 : 0 ≤ (x5_1 : Int) := of_decide_eq_true (by first | (with_reducible assumption) | assumption)
                  have q112 : x5_1 < (l1.length : Int) := of_decide_eq_true (by first | (with_reducible assumption) | assumption)
                  obtain ⟨ad112, e112, hx112_0⟩ := Kd.at_int HR1.out x5_1 p112 q112
                  obtain rfl : ad108 = ad112 := (by injection e112)
                  replace p112 := eq_true p112
                  replace q112 := eq_true q112
                  have p113 : 0 ≤ (x5_1 : Int) := of_decide_eq_true (by first | (with_reducible assumption) | assumption)
                  have q113 : x5_1 < (l0.length : Int) := of_decide_eq_true (by first | (with_reducible assumption) | assumption)
                  obtain ⟨ad113, e113, hx113_0⟩ := Kd.at_int HR0.out x5_1 p113 q113
                  cases e113
                  replace p113 := eq_true p113
                  replace q113 := eq_true q113
                  go_wp2
                  go_ret
                  exact ⟨by first | rfl | (simp; done) | (simp [*]; done), by repeat (first | exact Drawn0.refl _ | apply Drawn0.step)⟩
              · rw [if_neg c11] at H
                exact absurd H (by simp)
            · rw [if_neg c10] at H
              have c10b0 : ((rd l1 x5_1) == 2) = false := beq_eq_false_iff_ne.mpr c10
              have c10b1 : ((rd l1 x5_1) != 2) = true := bne_iff_ne.mpr c10
              have H' := Aside0.mk H
              clear H
              have p108 : 0 ≤ (x5_1 : Int) := of_decide_eq_true (by first | (with_reducible assumption) | assumption)
              have q108 : x5_1 < (l1.length : Int) := of_decide_eq_true (by first | (with_reducible assumption) | assumption)
              obtain ⟨ad108, e108, hx108_0⟩ := Kd.at_int HR1.out x5_1 p108 q108
              cases e108
              replace p108 := eq_true p108
              replace q108 := eq_true q108
              have p112 : 0 ≤ (x5_1 : Int) := of_decide_eq_true (by first | (with_reducible assumption) | assumption)
              have q112 : x5_1 < (l1.length : Int) := of_decide_eq_true (by first | (with_reducible assumption) | assumption)
              obtain ⟨ad112, e112, hx112_0⟩ := Kd.at_int HR1.out x5_1 p112 q112
              obtain rfl : ad108 = ad112 := (by injection e112)
              replace p112 := eq_true p112
              replace q112 := eq_true q112
              go_wp2
              go_roundg k1
              case measure => have := HK1.out; omega
              case rel => exact ⟨(wrap64 (x5_1 + 1)), (by first | rfl | (simp; done) | (simp [*]; done)), H', ⟨by have := HK1.out; omega⟩, by repeat (first | exact Drawn0.refl _ | apply Drawn0.step)⟩
        · rw [if_neg c4] at H
          exact absurd H (by simp)
      · rw [if_neg c3] at H
        have c3b0 : decide (x5_1 < (l1.length : Int)) = false := decide_eq_false c3
        clear c3
        obtain rfl := Option.some.inj H
        go_wp2
        go_ret
        exact ⟨by first | rfl | (simp; done) | (simp [*]; done), by repeat (first | exact Drawn0.refl _ | apply Drawn0.step)⟩

end Go.Proofs.YtbdlihldmmbdmaaDoor.SK

namespace Go.Proofs.YtbdlihldmmbdmaaDoor.Bits
open Go.RowKit Go.Proofs.YtbdlihldmmbdmaaDoorW.PrintWords
set_option linter.unusedVariables false

/-- The table's variable holds its numbers. -/
structure TabW (w : World) : Prop where mk :: (out : TabAt 0 Lib.deBruijn32tab w)
theorem TabW.below {w w1 : World} (h : TabW w) (hb : Below w.heap.size w w1) : TabW w1 := ⟨fun j hj => pw_cell_below hb (h.out j hj)⟩
theorem TabW.later {w0 w1 : World} (h : TabW w0) (h0 : Below w0.heap.size w0 w1) : TabW w1 := h.below h0
theorem TabW.drewN {w : World} (h : TabW w) (n : Nat) : TabW (w.drewN n) := h.below (pw_below_drewN (Below.refl _ _) n)
theorem TabW.alloc {w : World} (h : TabW w) (o : Obj) : TabW (w.alloc o) := h.below (below_alloc (Below.refl _ _) o)

set_option maxHeartbeats 1000000 in
theorem tz32_core (x k idx : Nat) (w : World) (hx0 : ((x : Int) == 0) = false)
    (key : bits BinOp.and IntKind.u32 (x : Int) (-(x : Int) % 4294967296) * 125613361 % 4294967296 / 134217728 = (idx : Int))
    (hi : idx < 32) (hk : k < 32) (hcell : w.cell? ⟨0, idx, none⟩ = some (.int .u8 k)) :
    Calls Tryd.prog 42 #[.int .u32 x] w fun e w' => e = .returned (.int .i64 k) ∧ w' = w := by
  go_enter Tryd.func42, Tryd.ntmps42
  go_wp2_with (simp only [key])
  go_ret
  exact ⟨rfl, rfl⟩
theorem tz32 (x : Nat) (hx : x < 4294967296) (hx0 : x ≠ 0) (w : World) (hT : TabW w) :
    Calls Tryd.prog 42 #[.int .u32 x] w fun e w' => e = .returned (.int .i64 (Lib.ctz 32 x)) ∧ w' = w := by
  obtain ⟨hlow, hk⟩ := Lib.lowest_bit 32 x hx0 hx
  obtain ⟨hi, htab⟩ := Lib.deBruijn32_at _ hk
  have hcell := hT.out _ hi
  rw [htab] at hcell
  exact tz32_core x _ _ w (by simp; omega) (tz32_key x _ hx hx0 hlow) hi hk hcell
end Go.Proofs.YtbdlihldmmbdmaaDoor.Bits

-- PRINTED by print.py (a twelfth state) out of the translation. Not trusted: Lean checks it.
namespace Go.Proofs.YtbdlihldmmbdmaaDoor.SK
open Go.RowKit Go.Proofs.YtbdlihldmmbdmaaDoorW.PrintWords Go.Proofs.YtbdlihldmmbdmaaDoorW.PrintLast Go.Proofs.YtbdlihldmmbdmaaDoorW.PrintMore
attribute [local go_sem] max2_int min2_int max_two min_two max_three min_three max_four min_four   -- for this text's walks alone
set_option linter.unusedVariables false
set_option linter.unusedSimpArgs false

/-! ### amalgamref10_add: function 32 -/
mutual
def amalgamref10_add.l0 : Nat → List (List Int) → Int → Int → List Int → Int → Option (List Int)
  | 0, _, _, _, _, _ => none
  | k + 1, x0, x1, x2, x7, x8 => if x8 < (x0.length : Int) then (if 0 ≤ x8 then (if (Go.bits .and .u32 (shr .u32 x2 x8) 1) = 1 then (amalgamref10_add.l1 k x0 x1 x2 x7 x8 0) else (amalgamref10_add.l0 k x0 x1 x2 x7 (wrap64 (x8 + 1)))) else (none)) else (some x7)
def amalgamref10_add.l1 : Nat → List (List Int) → Int → Int → List Int → Int → Int → Option (List Int)
  | 0, _, _, _, _, _, _ => none
  | k + 1, x0, x1, x2, x7, x8, x9 => if x9 < x1 then (if 0 ≤ x9 then (if x9 < (x7.length : Int) then (if 0 ≤ x8 then (if x8 < (x0.length : Int) then (if x9 < ((rd_L1 x0 x8).length : Int) then (amalgamref10_add.l1 k x0 x1 x2 (x7.set (x9 : Int).toNat (wrap64 ((rd x7 x9) + (rd (rd_L1 x0 x8) x9)))) x8 (wrap64 (x9 + 1))) else (none)) else (none)) else (none)) else (none)) else (none)) else (amalgamref10_add.l0 k x0 x1 x2 x7 (wrap64 (x8 + 1)))
end
def amalgamref10_add.f (k : Nat) (l0 : List (List Int)) (a1 : Int) (a2 : Int) : Option (List Int) := if 0 ≤ a1 then (if (a1 : Int).toNat ≤ 35184372088832 then (amalgamref10_add.l0 k l0 a1 a2 (List.replicate (a1 : Int).toNat 0) 0) else (none)) else (none)
theorem amalgamref10_add.mono_l : ∀ k, (∀ y0 y1 y2 y3 y4, LeO (amalgamref10_add.l0 k y0 y1 y2 y3 y4) (amalgamref10_add.l0 (k + 1) y0 y1 y2 y3 y4)) ∧ (∀ y0 y1 y2 y3 y4 y5, LeO (amalgamref10_add.l1 k y0 y1 y2 y3 y4 y5) (amalgamref10_add.l1 (k + 1) y0 y1 y2 y3 y4 y5))
  | 0 => ⟨fun _ _ _ _ _ r h => by simp [amalgamref10_add.l0] at h, fun _ _ _ _ _ _ r h => by simp [amalgamref10_add.l1] at h⟩
  | k + 1 => by
    obtain ⟨ih0, ih1⟩ := amalgamref10_add.mono_l k
    refine ⟨?_, ?_⟩
    · intro y0 y1 y2 y3 y4
      unfold amalgamref10_add.l0
      repeat' first
      | (with_reducible exact ih0 _ _ _ _ _)
      | (with_reducible exact ih1 _ _ _ _ _ _)
      | (with_reducible exact LeO.refl _)
      | (with_reducible exact LeO.none _)
      | (with_reducible refine LeO.ite ?_ ?_)
      | (with_reducible refine LeO.bind ?_ (fun _ => ?_))
      | exact ih0 _ _ _ _ _
      | exact ih1 _ _ _ _ _ _
      | exact LeO.none _
      | refine LeO.ite ?_ ?_
      | refine LeO.bind ?_ (fun _ => ?_)
    · intro y0 y1 y2 y3 y4 y5
      unfold amalgamref10_add.l1
      repeat' first
      | (with_reducible exact ih0 _ _ _ _ _)
      | (with_reducible exact ih1 _ _ _ _ _ _)
      | (with_reducible exact LeO.refl _)
      | (with_reducible exact LeO.none _)
      | (with_reducible refine LeO.ite ?_ ?_)
      | (with_reducible refine LeO.bind ?_ (fun _ => ?_))
      | exact ih0 _ _ _ _ _
      | exact ih1 _ _ _ _ _ _
      | exact LeO.none _
      | refine LeO.ite ?_ ?_
      | refine LeO.bind ?_ (fun _ => ?_)
theorem amalgamref10_add.mono : ∀ a0 a1 a2 k, LeO (amalgamref10_add.f k a0 a1 a2) (amalgamref10_add.f (k + 1) a0 a1 a2) := by
  intro a0 a1 a2 k
  obtain ⟨ih0, ih1⟩ := amalgamref10_add.mono_l k
  unfold amalgamref10_add.f
  repeat' first
      | (with_reducible exact ih0 _ _ _ _ _)
      | (with_reducible exact ih1 _ _ _ _ _ _)
      | (with_reducible exact LeO.refl _)
      | (with_reducible exact LeO.none _)
      | (with_reducible refine LeO.ite ?_ ?_)
      | (with_reducible refine LeO.bind ?_ (fun _ => ?_))
      | exact ih0 _ _ _ _ _
      | exact ih1 _ _ _ _ _ _
      | exact LeO.none _
      | refine LeO.ite ?_ ?_
      | refine LeO.bind ?_ (fun _ => ?_)
def amalgamref10_add.T9 : Bool × List (List Nat × List Nat) := (true, [([], []), ([], []), ([], []), ([], []), ([2, 3], [2, 3]), ([4], [4]), ([], []), ([], []), ([6, 7], [6, 7]), ([8], [8]), ([], []), ([9, 10], [9, 10]), ([11], [11]), ([5, 12], [5, 12]), ([0, 1, 0, 1, 2, 3, 4, 5, 6, 7, 8, 9, 10, 11, 12, 13], [0, 1]), ([14, 13, 0, 1, 2, 3, 4, 5, 6, 7, 8, 9, 10, 11, 12, 13], [13, 14])])
def amalgamref10_add.B9 : List Nat := [0, 0, 0, 0, 12, 28, 0, 0, 192, 448, 0, 1984, 4032, 8188, 16383, 32767]
theorem amalgamref10_add.tab9 : rtab .any (opsOf Tryd.f32 9) = amalgamref10_add.T9 := by kernel_rfl
theorem amalgamref10_add.bits9 : waitsOk amalgamref10_add.T9.2 amalgamref10_add.B9 = true := by kernel_rfl
set_option maxHeartbeats 8000000 in
set_option maxRecDepth 100000 in
theorem amalgamref10_add.calls (k : Nat) (A0 : Option Addr) (c0 : Nat) (l0 : List (List Int)) (a1 : Int) (a2 : Int) (r : List Int) (w : World) (hr0 : Kd.C (Kd.slice 3 (Kd.int .i64)) w A0 l0.length l0) (hc0 : l0.length ≤ c0) (h : amalgamref10_add.f k l0 a1 a2 = some r) :
    Calls Tryd.prog 32 #[.slice A0 l0.length c0, .int .i64 a1, .int .u32 a2] w fun e w' => ∃ v0_ : Value, e = .returned (v0_) ∧ Kd.R (Kd.int .i64) 3 w' w.heap.size (fun _ => True) v0_ r ∧ Below w.heap.size w w' := by
  have HR0 := Aside0.mk hr0
  have HC0 := Aside0.mk hc0
  clear hr0 hc0
  have HB := Aside0.mk (Below.refl w.heap.size w)
  have H : (if 0 ≤ a1 then (if (a1 : Int).toNat ≤ 35184372088832 then (amalgamref10_add.l0 k l0 a1 a2 (List.replicate (a1 : Int).toNat 0) 0) else (none)) else (none)) = some r := h
  clear h
  by_cases c4 : 0 ≤ a1
  · rw [if_pos c4] at H
    have c4b0 := eq_true c4
    have c4b1 : decide (0 ≤ a1) = true := decide_eq_true c4
    clear c4
    by_cases c5 : (a1 : Int).toNat ≤ 35184372088832
    · rw [if_pos c5] at H
      have c5b0 := eq_true c5
      have c5b1 : decide ((a1 : Int).toNat ≤ 35184372088832) = true := decide_eq_true c5
      clear c5
      obtain ⟨y114, hy114⟩ : ∃ y_ : List Int, y_ = (List.replicate (a1 : Int).toNat 0) := ⟨_, rfl⟩
      replace H : (amalgamref10_add.l0 k l0 a1 a2 y114 0) = some r := by first | (rw [hy114]; with_reducible exact H) | (have H2_ := (Option.bind_some _ _).symm.trans H; rw [hy114]; with_reducible exact H2_) | (have H2_ := (Option.bind_some _ _).symm.trans H; with_reducible exact H2_) | with_reducible exact H | (rw [hy114]; exact H) | exact H
      have Ny114 := Aside0.mk hy114
      clear hy114
      have H' := Aside0.mk H
      clear H
      go_enter Tryd.func32, Tryd.ntmps32
      go_wp2_with (first | ((with_reducible refine gate_dst (N := 11) rfl ?_); refine Kd.R_make (Kd.int .i64) _ 3 rfl (N := 11) rfl 23 _ _ rfl a1 rfl rfl Tryd.underlying23 (.int .i64 0) 8 info3 rfl (by decide) (by omega) 0 (ok := fun _ => True) (okp := fun _ => True) rfl (fun _ hk => hk) trivial (of_decide_eq_true (by first | (with_reducible assumption) | assumption)) (Nat.le_trans (Nat.mul_le_mul_right _ (of_decide_eq_true (by first | (with_reducible assumption) | assumption) : a1.toNat ≤ 35184372088832)) (by omega)) (Below.refl _ _) (Nat.le_refl _) ?_; intro v115 w6 ho7 hb hg_ hnew_; clear hg_ hnew_; (first | rw [← Ny114.out] at ho7 | (simp only [Int.reduceToNat] at ho7; rw [← Ny114.out] at ho7)); have n0_ := Aside0.mk (Kd.R_lower ho7 (below_size (by repeat (first | (with_reducible first | exact HB.out | apply below_alloc | apply pw_below_drewN | apply below_drew1) | exact HB.out)))); have n1_ := Aside0.mk (below_step (by repeat (first | (with_reducible first | exact HB.out | apply below_alloc | apply pw_below_drewN | apply below_drew1) | exact HB.out)) hb); clear HB; have HO116 := n0_; have HB := n1_; clear n0_ n1_; clear hb ho7))
      go_loopg [8] k (fun kq v8 w' => ∃ (x7_1 : List Int) (x8_1 : Int), v8 = .int .i64 x8_1 ∧ Aside0 (amalgamref10_add.l0 kq l0 a1 a2 x7_1 x8_1 = some r) ∧ Aside0 (kq ≤ k) ∧ Aside0 (Kd.R (Kd.int .i64) 3 w' w.heap.size (fun _ => True) v115 x7_1) ∧ Aside0 (Below w.heap.size w w'))
      case atStart => exact ⟨(y114), (0), (by first | rfl | (simp; done) | (simp [*]; done)), H', ⟨Nat.le_refl _⟩, ⟨by (with_reducible repeat (first | apply Kd.R_alloc | apply Kd.R_drewN | apply Kd.R_drew)); exact HO116.out⟩, ⟨by repeat (first | (with_reducible first | exact HB.out | apply below_alloc | apply pw_below_drewN | apply below_drew1) | exact HB.out)⟩⟩
      case round =>
        clear H'
        try clear p2
        try clear c3
        try clear c4
        try clear c4b0
        try clear c4b1
        try clear c5
        try clear c5b0
        try clear c5b1
        obtain ⟨x7_1, x8_1, rfl, HA, HK1, HO_7, HB⟩ := hrel
        cases gk with
        | zero => exact absurd HA.out (by simp [amalgamref10_add.l0])
        | succ k1 =>
          have H := HA.out
          clear HA
          simp only [amalgamref10_add.l0] at H
          by_cases c8 : x8_1 < (l0.length : Int)
          · rw [if_pos c8] at H
            have c8b0 : decide (x8_1 < (l0.length : Int)) = true := decide_eq_true c8
            clear c8
            by_cases c9 : 0 ≤ x8_1
            · rw [if_pos c9] at H
              have c9b0 := eq_true c9
              have c9b1 : decide (0 ≤ x8_1) = true := decide_eq_true c9
              clear c9
              obtain ⟨ji10, hji10⟩ : ∃ j_ : Int, (shr .u32 a2 x8_1) = j_ := ⟨_, rfl⟩
              replace H : (if (Go.bits .and .u32 (ji10) 1) = 1 then (amalgamref10_add.l1 k1 l0 a1 a2 x7_1 x8_1 0) else (amalgamref10_add.l0 k1 l0 a1 a2 x7_1 (wrap64 (x8_1 + 1)))) = some r := by first | (rw [hji10] at H; exact H) | (simp only [hji10] at H ⊢; exact H)
              have hji10_ : (a2 / 2 ^ min x8_1.toNat 32) = ji10 := hji10
              have hji10z : x8_1 ≤ 32 → (a2 / 2 ^ x8_1.toNat) = ji10 := shr_small hji10
              by_cases c11 : (Go.bits .and .u32 (ji10) 1) = 1
              · rw [if_pos c11] at H
                have c11b0 : ((Go.bits .and .u32 (ji10) 1) == 1) = true := beq_iff_eq.mpr c11
                have c11b1 : ((Go.bits .and .u32 (ji10) 1) != 1) = false := bne_eq_false_iff_eq.mpr c11
                clear c11
                have H' := Aside0.mk H
                clear H
                go_wp2
                go_loopg [9] k1 (fun kq v9 w' => ∃ (x7_2 : List Int) (x9_2 : Int), v9 = .int .i64 x9_2 ∧ Aside0 (amalgamref10_add.l1 kq l0 a1 a2 x7_2 x8_1 x9_2 = some r) ∧ Aside0 (kq ≤ k1) ∧ Aside0 (Kd.R (Kd.int .i64) 3 w' w.heap.size (fun _ => True) v115 x7_2) ∧ Aside0 (Below w.heap.size w w'))
                case atStart => exact ⟨(x7_1), (0), (by first | rfl | (simp; done) | (simp [*]; done)), H', ⟨Nat.le_refl _⟩, ⟨by (with_reducible repeat (first | apply Kd.R_alloc | apply Kd.R_drewN | apply Kd.R_drew)); exact HO_7.out⟩, ⟨by repeat (first | (with_reducible first | exact HB.out | apply below_alloc | apply pw_below_drewN | apply below_drew1) | exact HB.out)⟩⟩
                case round =>
                  clear H'
                  try clear c1
                  try clear p2
                  try clear c3
                  try clear c4
                  try clear c4b0
                  try clear c4b1
                  try clear c5
                  try clear c5b0
                  try clear c5b1
                  try clear p6
                  try clear c8
                  try clear c8b0
                  try clear c9
                  try clear c9b0
                  try clear c9b1
                  try clear c11
                  try clear c11b0
                  try clear c11b1
                  try clear p2
                  obtain ⟨x7_2, x9_2, rfl, HA, HK2, HO_7, HB⟩ := hrel
                  cases gk with
                  | zero => exact absurd HA.out (by simp [amalgamref10_add.l1])
                  | succ k2 =>
                    have H := HA.out
                    clear HA
                    simp only [amalgamref10_add.l1] at H
                    by_cases c12 : x9_2 < a1
                    · rw [if_pos c12] at H
                      have c12b0 : decide (x9_2 < a1) = true := decide_eq_true c12
                      clear c12
                      by_cases c13 : 0 ≤ x9_2
                      · rw [if_pos c13] at H
                        have c13b0 : decide (0 ≤ x9_2) = true := decide_eq_true c13
                        clear c13
                        by_cases c14 : x9_2 < (x7_2.length : Int)
                        · rw [if_pos c14] at H
                          have c14b0 : decide (x9_2 < (x7_2.length : Int)) = true := decide_eq_true c14
                          clear c14
                          by_cases c15 : 0 ≤ x8_1
                          · rw [if_pos c15] at H
                            have c15b0 : decide (0 ≤ x8_1) = true := decide_eq_true c15
                            clear c15
                            by_cases c16 : x8_1 < (l0.length : Int)
                            · rw [if_pos c16] at H
                              have c16b0 : decide (x8_1 < (l0.length : Int)) = true := decide_eq_true c16
                              clear c16
                              by_cases c17 : x9_2 < ((rd_L1 l0 x8_1).length : Int)
                              · rw [if_pos c17] at H
                                have c17b0 : decide (x9_2 < ((rd_L1 l0 x8_1).length : Int)) = true := decide_eq_true c17
                                clear c17
                                obtain ⟨y120, hy120⟩ : ∃ y_ : List Int, y_ = (x7_2.set (x9_2 : Int).toNat (wrap64 ((rd x7_2 x9_2) + (rd (rd_L1 l0 x8_1) x9_2)))) := ⟨_, rfl⟩
                                replace H : (amalgamref10_add.l1 k2 l0 a1 a2 y120 x8_1 (wrap64 (x9_2 + 1))) = some r := by first | (rw [hy120]; with_reducible exact H) | (have H2_ := (Option.bind_some _ _).symm.trans H; rw [hy120]; with_reducible exact H2_) | (have H2_ := (Option.bind_some _ _).symm.trans H; with_reducible exact H2_) | with_reducible exact H | (rw [hy120]; exact H) | exact H
                                have Ny120 := Aside0.mk hy120
                                clear hy120
                                have H' := Aside0.mk H
                                clear H
                                try go_wp2
                                have n0_ := Aside0.mk (Kd.R_drew HO_7.out)
                                have n1_ := Aside0.mk (below_drew1 HB.out)
                                clear HO_7
                                clear HB
                                have HO_7 := n0_
                                have HB := n1_
                                clear n0_ n1_
                                obtain ⟨Ao20, co20, eo20⟩ := Kd.R_slice HO_7.out
                                (first | subst eo20 | (injection eo20 with f1_ f2_ f3_; have f4_ := f1_.symm; have f5_ := f3_.symm; clear f1_ f2_ f3_; subst f4_; subst f5_))
                                have p117 : 0 ≤ (x9_2 : Int) := of_decide_eq_true (by first | (with_reducible assumption) | assumption)
                                have q117 : x9_2 < (x7_2.length : Int) := of_decide_eq_true (by first | (with_reducible assumption) | assumption)
                                obtain ⟨ad117, e117, hx117_0⟩ := Kd.at_int (Kd.R_reads' HO_7.out).2.2 x9_2 p117 q117
                                cases e117
                                replace p117 := eq_true p117
                                replace q117 := eq_true q117
                                have p118 : 0 ≤ (x8_1 : Int) := of_decide_eq_true (by first | (with_reducible assumption) | assumption)
                                have q118 : x8_1 < (l0.length : Int) := of_decide_eq_true (by first | (with_reducible assumption) | assumption)
                                obtain ⟨ad118, A118_0, c118_0, e118, hx118_0, hl118_0, hi118_0⟩ := at_L1 HR0.out x8_1 p118 q118
                                have hw118_0 := hx118_0
                                cases e118
                                replace hx118_0 := (HB.out.cell (World.block_lt_of_cell? w _ hx118_0)).trans hx118_0
                                have HR118_0 := Aside0.mk hi118_0
                                have HC118_0 := Aside0.mk hl118_0
                                clear hi118_0 hl118_0
                                replace p118 := eq_true p118
                                replace q118 := eq_true q118
                                have p119 : 0 ≤ (x9_2 : Int) := of_decide_eq_true (by first | (with_reducible assumption) | assumption)
                                have q119 : x9_2 < ((rd_L1 l0 x8_1).length : Int) := of_decide_eq_true (by first | (with_reducible assumption) | assumption)
                                obtain ⟨ad119, e119, hx119_0⟩ := Kd.at_int HR118_0.out x9_2 p119 q119
                                have hw119_0 := hx119_0
                                cases e119
                                replace hx119_0 := (HB.out.cell (World.block_lt_of_cell? w _ hx119_0)).trans hx119_0
                                replace p119 := eq_true p119
                                replace q119 := eq_true q119
                                have p18 : 0 ≤ (x9_2 : Int) := of_decide_eq_true (by first | (with_reducible assumption) | assumption)
                                have q18 : (x9_2 : Int) < ((x7_2.length : Int) : Int) := of_decide_eq_true (by first | (with_reducible assumption) | assumption)
                                obtain ⟨go18, co18, eo18, gb18, gl18, cl18, HG18⟩ := Kd.R_form HO_7.out (by omega)
                                (first | cases eo18 | (injection eo18 with ea_ en_ ec_; (first | subst ea_ | (injection ea_ with ea_; subst ea_)); subst ec_; clear en_))
                                have GB18 := Aside0.mk gb18
                                have GG18 := Aside0.mk HG18
                                clear gb18 gl18 HG18
                                (first | simp only [add_plain] at hx117_0 | skip)
                                obtain ⟨hx18_0, hf18_0⟩ := Kd.R_celln 0 HO_7.out (x9_2 : Int) p18 q18
                                replace p18 := eq_true p18
                                replace q18 := eq_true q18
                                have HP21 := Kd.R_putn HO_7.out (x9_2 : Int) (wrap64 ((rd x7_2 x9_2) + (rd (rd_L1 l0 x8_1) x9_2)))
                                rw [← Ny120.out] at HP21
                                have HQ21 := Aside0.mk HP21
                                clear HP21
                                refine start_ (n := 16) (S := fun w' => w'.cell? ⟨go18, (x9_2).toNat, none⟩ = some (.int .i64 (rd x7_2 x9_2)) ∧ w'.cell? (ad118.add (x8_1).toNat) = some (.slice (some ad119) (rd_L1 l0 x8_1).length c118_0) ∧ w'.cell? (ad119.add (x9_2).toNat) = some (.int .i64 (rd (rd_L1 l0 x8_1) x9_2))) (ds := [15]) #[false, false, false, false, false, false, false, false, false, false, false, false, false, false, false, false] (by kernel_rfl) rfl rfl ⟨hx117_0, ((HB.out.cell (World.block_lt_of_cell? w _ hw118_0)).trans hw118_0), ((HB.out.cell (World.block_lt_of_cell? w _ hw119_0)).trans hw119_0)⟩ (fun hHeld => ?_); refine with_tabW amalgamref10_add.tab9 amalgamref10_add.bits9 (fun HT_ HW_ => ?_)
                                generalize wr.drew = w19 at HO_7 HB GG18 HQ21 HR118_0 hf18_0 hx117_0 hx118_0 hx119_0 hx18_0 hHeld ⊢
                                refine pure_ (i := 0) (N := some 28) (v := ?_) (a' := ?_) #[true, false, false, false, false, false, false, false, false, false, false, false, false, false, false, false] rfl rfl (any_of HT_.out (by kernel_rfl)) (fun _ _ _ h => h) (Or.inl ⟨by rfl, ?_⟩) ?_ ?_
                                rotate_left
                                · intro w'
                                  go_simp
                                  with_reducible rfl
                                rotate_left
                                · simp only [Act.put, List.setIfInBounds_toArray, List.set_cons_zero, List.set_cons_succ, i64_w, i32_w]
                                  rfl
                                refine pure_ (i := 1) (N := some 29) (v := ?_) (a' := ?_) #[true, true, false, false, false, false, false, false, false, false, false, false, false, false, false, false] rfl rfl (any_of HT_.out (by kernel_rfl)) (fun _ _ _ h => h) (Or.inl ⟨by rfl, ?_⟩) ?_ ?_
                                rotate_left
                                · intro w'
                                  go_simp
                                  with_reducible rfl
                                rotate_left
                                · simp only [Act.put, List.setIfInBounds_toArray, List.set_cons_zero, List.set_cons_succ, i64_w, i32_w]
                                  rfl
                                refine pure_ (i := 2) (N := some 30) (v := ?_) (a' := ?_) #[true, true, true, false, false, false, false, false, false, false, false, false, false, false, false, false] rfl rfl (any_of HT_.out (by kernel_rfl)) (fun _ _ _ h => h) (Or.inl ⟨by rfl, ?_⟩) ?_ ?_
                                rotate_left
                                · intro w'
                                  go_simp
                                  with_reducible rfl
                                rotate_left
                                · simp only [Act.put, List.setIfInBounds_toArray, List.set_cons_zero, List.set_cons_succ, i64_w, i32_w]
                                  rfl
                                refine pure_ (i := 3) (N := some 31) (v := ?_) (a' := ?_) #[true, true, true, true, false, false, false, false, false, false, false, false, false, false, false, false] rfl rfl (any_of HT_.out (by kernel_rfl)) (fun _ _ _ h => h) (Or.inl ⟨by rfl, ?_⟩) ?_ ?_
                                rotate_left
                                · intro w'
                                  go_simp
                                  with_reducible rfl
                                rotate_left
                                · simp only [Act.put, List.setIfInBounds_toArray, List.set_cons_zero, List.set_cons_succ, i64_w, i32_w]
                                  rfl
                                refine pure_ (i := 4) (N := some 32) (v := ?_) (a' := ?_) #[true, true, true, true, true, false, false, false, false, false, false, false, false, false, false, false] rfl rfl (any_of HT_.out (by kernel_rfl)) (fun _ _ _ h => h) (Or.inl ⟨by rfl, ?_⟩) ?_ ?_
                                rotate_left
                                · intro w'
                                  go_simp
                                  with_reducible rfl
                                rotate_left
                                · simp only [Act.put, List.setIfInBounds_toArray, List.set_cons_zero, List.set_cons_succ, i64_w, i32_w]
                                  rfl
                                refine pure_ (i := 6) (N := some 34) (v := ?_) (a' := ?_) #[true, true, true, true, true, false, true, false, false, false, false, false, false, false, false, false] rfl rfl (any_of HT_.out (by kernel_rfl)) (fun _ _ _ h => h) (Or.inl ⟨by rfl, ?_⟩) ?_ ?_
                                rotate_left
                                · intro w'
                                  go_simp
                                  with_reducible rfl
                                rotate_left
                                · simp only [Act.put, List.setIfInBounds_toArray, List.set_cons_zero, List.set_cons_succ, i64_w, i32_w]
                                  rfl
                                refine pure_ (i := 7) (N := some 35) (v := ?_) (a' := ?_) #[true, true, true, true, true, false, true, true, false, false, false, false, false, false, false, false] rfl rfl (any_of HT_.out (by kernel_rfl)) (fun _ _ _ h => h) (Or.inl ⟨by rfl, ?_⟩) ?_ ?_
                                rotate_left
                                · intro w'
                                  go_simp
                                  with_reducible rfl
                                rotate_left
                                · simp only [Act.put, List.setIfInBounds_toArray, List.set_cons_zero, List.set_cons_succ, i64_w, i32_w]
                                  rfl
                                refine pure_ (i := 8) (N := some 36) (v := ?_) (a' := ?_) #[true, true, true, true, true, false, true, true, true, false, false, false, false, false, false, false] rfl rfl (any_of HT_.out (by kernel_rfl)) (fun _ _ _ h => h) (Or.inl ⟨by rfl, ?_⟩) ?_ ?_
                                rotate_left
                                · intro w'
                                  go_simp
                                  with_reducible rfl
                                rotate_left
                                · simp only [Act.put, List.setIfInBounds_toArray, List.set_cons_zero, List.set_cons_succ, i64_w, i32_w]
                                  rfl
                                refine pure_ (i := 10) (N := some 38) (v := ?_) (a' := ?_) #[true, true, true, true, true, false, true, true, true, false, true, false, false, false, false, false] rfl rfl (any_of HT_.out (by kernel_rfl)) (fun _ _ _ h => h) (Or.inl ⟨by rfl, ?_⟩) ?_ ?_
                                rotate_left
                                · intro w'
                                  go_simp
                                  with_reducible rfl
                                rotate_left
                                · simp only [Act.put, List.setIfInBounds_toArray, List.set_cons_zero, List.set_cons_succ, i64_w, i32_w]
                                  rfl
                                refine take_ (i := 5) (N := some 33) (v := ?_) (a' := ?_) #[true, true, true, true, true, true, true, true, true, false, true, false, false, false, false, false] rfl rfl (take_ofW HT_.out HW_.out (by kernel_rfl)) (fun _ _ _ h => h) (Or.inl ⟨by rfl, ?_⟩) hHeld ?_ ?_
                                rotate_left
                                · rintro w' ⟨s0, s1, s2⟩
                                  go_simp
                                  with_reducible rfl
                                rotate_left
                                · simp only [Act.put, List.setIfInBounds_toArray, List.set_cons_zero, List.set_cons_succ, i64_w, i32_w]
                                  rfl
                                refine take_ (i := 9) (N := some 37) (v := ?_) (a' := ?_) #[true, true, true, true, true, true, true, true, true, true, true, false, false, false, false, false] rfl rfl (take_ofW HT_.out HW_.out (by kernel_rfl)) (fun _ _ _ h => h) (Or.inl ⟨by rfl, ?_⟩) hHeld ?_ ?_
                                rotate_left
                                · rintro w' ⟨s0, s1, s2⟩
                                  go_simp
                                  with_reducible rfl
                                rotate_left
                                · simp only [Act.put, List.setIfInBounds_toArray, List.set_cons_zero, List.set_cons_succ, i64_w, i32_w]
                                  rfl
                                refine pure_ (i := 11) (N := some 39) (v := ?_) (a' := ?_) #[true, true, true, true, true, true, true, true, true, true, true, true, false, false, false, false] rfl rfl (any_of HT_.out (by kernel_rfl)) (fun _ _ _ h => h) (Or.inl ⟨by rfl, ?_⟩) ?_ ?_
                                rotate_left
                                · intro w'
                                  go_simp
                                  with_reducible rfl
                                rotate_left
                                · simp only [Act.put, List.setIfInBounds_toArray, List.set_cons_zero, List.set_cons_succ, i64_w, i32_w]
                                  rfl
                                refine take_ (i := 12) (N := some 40) (v := ?_) (a' := ?_) #[true, true, true, true, true, true, true, true, true, true, true, true, true, false, false, false] rfl rfl (take_ofW HT_.out HW_.out (by kernel_rfl)) (fun _ _ _ h => h) (Or.inl ⟨by rfl, ?_⟩) hHeld ?_ ?_
                                rotate_left
                                · rintro w' ⟨s0, s1, s2⟩
                                  go_simp
                                  with_reducible rfl
                                rotate_left
                                · simp only [Act.put, List.setIfInBounds_toArray, List.set_cons_zero, List.set_cons_succ, i64_w, i32_w]
                                  rfl
                                refine pure_ (i := 13) (N := some 41) (v := ?_) (a' := ?_) #[true, true, true, true, true, true, true, true, true, true, true, true, true, true, false, false] rfl rfl (any_of HT_.out (by kernel_rfl)) (fun _ _ _ h => h) (Or.inl ⟨by rfl, ?_⟩) ?_ ?_
                                rotate_left
                                · intro w'
                                  go_simp
                                  with_reducible rfl
                                rotate_left
                                · simp only [Act.put, List.setIfInBounds_toArray, List.set_cons_zero, List.set_cons_succ, i64_w, i32_w]
                                  rfl
                                refine pure_ (i := 14) (N := some 42) (v := ?_) (a' := ?_) #[true, true, true, true, true, true, true, true, true, true, true, true, true, true, true, false] rfl rfl (any_of HT_.out (by kernel_rfl)) (fun _ _ _ h => h) (Or.inl ⟨by rfl, ?_⟩) ?_ ?_
                                rotate_left
                                · intro w'
                                  go_simp
                                  with_reducible rfl
                                rotate_left
                                · simp only [Act.put, List.setIfInBounds_toArray, List.set_cons_zero, List.set_cons_succ, i64_w, i32_w]
                                  rfl
                                refine last_ (i := 15) (N := none) #[true, true, true, true, true, true, true, true, true, true, true, true, true, true, true, true] rfl rfl (one_of HT_.out (by kernel_rfl)) (by decide) (fun K hK => ?_)
                                refine skip_ (w1 := ?_) (by rfl) rfl ?_ ?_
                                rotate_left
                                · go_simp
                                  rfl
                                refine hK.out _ _ ?_
                                clear hK K
                                refine done_ (done_of HT_.out (by kernel_rfl)) ?_
                                try go_wp2
                                go_roundg k2
                                case measure => have := HK1.out; have := HK2.out; omega
                                case rel => exact ⟨(y120), (wrap64 (x9_2 + 1)), (by first | rfl | (simp; done) | (simp [*]; done)), H', ⟨by have := HK1.out; have := HK2.out; omega⟩, ⟨by (with_reducible repeat (first | apply Kd.R_alloc | apply Kd.R_drewN | apply Kd.R_drew)); exact HQ21.out⟩, ⟨by repeat (first | (with_reducible first | exact HB.out | apply below_alloc | apply pw_below_drewN | apply below_drew1 | refine below_set ?_ GB18.out) | exact HB.out)⟩⟩
                              · rw [if_neg c17] at H
                                exact absurd H (by simp)
                            · rw [if_neg c16] at H
                              exact absurd H (by simp)
                          · rw [if_neg c15] at H
                            exact absurd H (by simp)
                        · rw [if_neg c14] at H
                          exact absurd H (by simp)
                      · rw [if_neg c13] at H
                        exact absurd H (by simp)
                    · rw [if_neg c12] at H
                      have c12b0 : decide (x9_2 < a1) = false := decide_eq_false c12
                      clear c12
                      have H' := Aside0.mk H
                      clear H
                      go_wp2
                      go_roundg k2
                      case measure => have := HK1.out; have := HK2.out; omega
                      case rel => exact ⟨(x7_2), (wrap64 (x8_1 + 1)), (by first | rfl | (simp; done) | (simp [*]; done)), H', ⟨by have := HK1.out; have := HK2.out; omega⟩, ⟨by (with_reducible repeat (first | apply Kd.R_alloc | apply Kd.R_drewN | apply Kd.R_drew)); exact HO_7.out⟩, ⟨by repeat (first | (with_reducible first | exact HB.out | apply below_alloc | apply pw_below_drewN | apply below_drew1) | exact HB.out)⟩⟩
              · rw [if_neg c11] at H
                have c11b0 : ((Go.bits .and .u32 (ji10) 1) == 1) = false := beq_eq_false_iff_ne.mpr c11
                have c11b1 : ((Go.bits .and .u32 (ji10) 1) != 1) = true := bne_iff_ne.mpr c11
                have H' := Aside0.mk H
                clear H
                go_wp2
                go_roundg k1
                case measure => have := HK1.out; omega
                case rel => exact ⟨(x7_1), (wrap64 (x8_1 + 1)), (by first | rfl | (simp; done) | (simp [*]; done)), H', ⟨by have := HK1.out; omega⟩, ⟨by (with_reducible repeat (first | apply Kd.R_alloc | apply Kd.R_drewN | apply Kd.R_drew)); exact HO_7.out⟩, ⟨by repeat (first | (with_reducible first | exact HB.out | apply below_alloc | apply pw_below_drewN | apply below_drew1) | exact HB.out)⟩⟩
            · rw [if_neg c9] at H
              exact absurd H (by simp)
          · rw [if_neg c8] at H
            have c8b0 : decide (x8_1 < (l0.length : Int)) = false := decide_eq_false c8
            clear c8
            obtain rfl := Option.some.inj H
            go_wp2
            go_ret
            exact ⟨_, by first | rfl | (simp [errW_none, errW_some] <;> rfl) | (simp [*, errW_none, errW_some] <;> rfl), by (with_reducible repeat (first | apply Kd.R_alloc | apply Kd.R_drewN | apply Kd.R_drew)); exact HO_7.out, by repeat (first | (with_reducible first | exact HB.out | apply below_alloc | apply pw_below_drewN | apply below_drew1) | exact HB.out)⟩
    · rw [if_neg c5] at H
      exact absurd H (by simp)
  · rw [if_neg c4] at H
    exact absurd H (by simp)

/-! ### amalgamref10_All: function 16 -/
mutual
def amalgamref10_All.l0 : Nat → List (List Int) → List Int → Int → List Int → Int → Option (List Int)
  | 0, _, _, _, _, _ => none
  | k + 1, x0, x1, x2, x8, x9 => if x9 < (shl .u32 1 (x0.length : Int)) then (amalgamref10_All.j1 k x0 x1 x2 x8 x9 (decide ((x8.length : Int) < x2))) else (amalgamref10_All.j1 k x0 x1 x2 x8 x9 false)
def amalgamref10_All.j1 : Nat → List (List Int) → List Int → Int → List Int → Int → Bool → Option (List Int)
  | 0, _, _, _, _, _, _ => none
  | k + 1, x0, x1, x2, x8, x9, x26 => if x26 = true then ((amalgamref10_add.f k x0 (x1.length : Int) x9).bind fun t122 => ((amalgamref10_fits.f k t122 x1).bind fun t125 => (if t125 = true then (if x8.length < 35184372088832 then (amalgamref10_All.l0 k x0 x1 x2 (x8 ++ [x9]) ((x9 + 1) % 4294967296)) else (none)) else (amalgamref10_All.l0 k x0 x1 x2 x8 ((x9 + 1) % 4294967296))))) else (some x8)
end
def amalgamref10_All.f (k : Nat) (l0 : List (List Int)) (l1 : List Int) (a2 : Int) : Option (List Int) := (amalgamref10_Check.f k l0 l1).bind fun t121 => (if t121 = 0 then (amalgamref10_All.l0 k l0 l1 a2 ([] : List Int) 0) else (some ([] : List Int)))
theorem amalgamref10_All.mono_l : ∀ k, (∀ y0 y1 y2 y3 y4, LeO (amalgamref10_All.l0 k y0 y1 y2 y3 y4) (amalgamref10_All.l0 (k + 1) y0 y1 y2 y3 y4)) ∧ (∀ y0 y1 y2 y3 y4 y5, LeO (amalgamref10_All.j1 k y0 y1 y2 y3 y4 y5) (amalgamref10_All.j1 (k + 1) y0 y1 y2 y3 y4 y5))
  | 0 => ⟨fun _ _ _ _ _ r h => by simp [amalgamref10_All.l0] at h, fun _ _ _ _ _ _ r h => by simp [amalgamref10_All.j1] at h⟩
  | k + 1 => by
    obtain ⟨ih0, ih1⟩ := amalgamref10_All.mono_l k
    refine ⟨?_, ?_⟩
    · intro y0 y1 y2 y3 y4
      unfold amalgamref10_All.l0
      repeat' first
      | (with_reducible exact ih0 _ _ _ _ _)
      | (with_reducible exact ih1 _ _ _ _ _ _)
      | (with_reducible exact amalgamref10_Check.mono _ _ _)
      | (with_reducible exact amalgamref10_add.mono _ _ _ _)
      | (with_reducible exact amalgamref10_fits.mono _ _ _)
      | (with_reducible exact LeO.refl _)
      | (with_reducible exact LeO.none _)
      | (with_reducible refine LeO.ite ?_ ?_)
      | (with_reducible refine LeO.bind ?_ (fun _ => ?_))
      | exact ih0 _ _ _ _ _
      | exact ih1 _ _ _ _ _ _
      | exact amalgamref10_Check.mono _ _ _
      | exact amalgamref10_add.mono _ _ _ _
      | exact amalgamref10_fits.mono _ _ _
      | exact LeO.none _
      | refine LeO.ite ?_ ?_
      | refine LeO.bind ?_ (fun _ => ?_)
    · intro y0 y1 y2 y3 y4 y5
      unfold amalgamref10_All.j1
      repeat' first
      | (with_reducible exact ih0 _ _ _ _ _)
      | (with_reducible exact ih1 _ _ _ _ _ _)
      | (with_reducible exact amalgamref10_Check.mono _ _ _)
      | (with_reducible exact amalgamref10_add.mono _ _ _ _)
      | (with_reducible exact amalgamref10_fits.mono _ _ _)
      | (with_reducible exact LeO.refl _)
      | (with_reducible exact LeO.none _)
      | (with_reducible refine LeO.ite ?_ ?_)
      | (with_reducible refine LeO.bind ?_ (fun _ => ?_))
      | exact ih0 _ _ _ _ _
      | exact ih1 _ _ _ _ _ _
      | exact amalgamref10_Check.mono _ _ _
      | exact amalgamref10_add.mono _ _ _ _
      | exact amalgamref10_fits.mono _ _ _
      | exact LeO.none _
      | refine LeO.ite ?_ ?_
      | refine LeO.bind ?_ (fun _ => ?_)
theorem amalgamref10_All.mono : ∀ a0 a1 a2 k, LeO (amalgamref10_All.f k a0 a1 a2) (amalgamref10_All.f (k + 1) a0 a1 a2) := by
  intro a0 a1 a2 k
  obtain ⟨ih0, ih1⟩ := amalgamref10_All.mono_l k
  unfold amalgamref10_All.f
  repeat' first
      | (with_reducible exact ih0 _ _ _ _ _)
      | (with_reducible exact ih1 _ _ _ _ _ _)
      | (with_reducible exact amalgamref10_Check.mono _ _ _)
      | (with_reducible exact amalgamref10_add.mono _ _ _ _)
      | (with_reducible exact amalgamref10_fits.mono _ _ _)
      | (with_reducible exact LeO.refl _)
      | (with_reducible exact LeO.none _)
      | (with_reducible refine LeO.ite ?_ ?_)
      | (with_reducible refine LeO.bind ?_ (fun _ => ?_))
      | exact ih0 _ _ _ _ _
      | exact ih1 _ _ _ _ _ _
      | exact amalgamref10_Check.mono _ _ _
      | exact amalgamref10_add.mono _ _ _ _
      | exact amalgamref10_fits.mono _ _ _
      | exact LeO.none _
      | refine LeO.ite ?_ ?_
      | refine LeO.bind ?_ (fun _ => ?_)
set_option maxHeartbeats 8000000 in
set_option maxRecDepth 100000 in
theorem amalgamref10_All.calls (k : Nat) (A0 : Option Addr) (c0 : Nat) (l0 : List (List Int)) (A1 : Option Addr) (c1 : Nat) (l1 : List Int) (a2 : Int) (r : List Int) (w : World) (hr0 : Kd.C (Kd.slice 3 (Kd.int .i64)) w A0 l0.length l0) (hc0 : l0.length ≤ c0) (hr1 : Kd.C (Kd.int .i64) w A1 l1.length l1) (hc1 : l1.length ≤ c1) (h : amalgamref10_All.f k l0 l1 a2 = some r) :
    Calls Tryd.prog 16 #[.slice A0 l0.length c0, .slice A1 l1.length c1, .int .i64 a2] w fun e w' => ∃ v0_ : Value, e = .returned (v0_) ∧ Kd.R (Kd.int .u32) 37 w' w.heap.size (fun _ => True) v0_ r ∧ Below w.heap.size w w' := by
  have HR0 := Aside0.mk hr0
  have HC0 := Aside0.mk hc0
  clear hr0 hc0
  have HR1 := Aside0.mk hr1
  have HC1 := Aside0.mk hc1
  clear hr1 hc1
  have HB := Aside0.mk (Below.refl w.heap.size w)
  have H : ((amalgamref10_Check.f k l0 l1).bind fun t121 => (if t121 = 0 then (amalgamref10_All.l0 k l0 l1 a2 ([] : List Int) 0) else (some ([] : List Int)))) = some r := h
  clear h
  replace H := Option.bind_eq_some_iff.mp H
  obtain ⟨t121, A40, H⟩ := H
  replace H : (if t121 = 0 then (amalgamref10_All.l0 k l0 l1 a2 ([] : List Int) 0) else (some ([] : List Int))) = some r := H
  have A4 := Aside0.mk A40
  clear A40
  by_cases c5 : t121 = 0
  · rw [if_pos c5] at H
    have c5b0 : (t121 == 0) = true := beq_iff_eq.mpr c5
    have c5b1 : (t121 != 0) = false := bne_eq_false_iff_eq.mpr c5
    clear c5
    have H' := Aside0.mk H
    clear H
    go_enter Tryd.func16, Tryd.ntmps16
    go_wp2_with (first | ((with_reducible refine gate_callee (f := 22) rfl ?_); refine goesL_ (some 13) rfl rfl Tryd.func22 (by kernel_rfl) rfl #[.slice A0 l0.length c0, .slice A1 l1.length c1] rfl (by (try simp only [List.map_toArray, List.map_cons, List.map_nil]); first | done | rfl | (simp only [List.length_drop, List.length_take]; rfl)) ?_; (with_reducible refine (amalgamref10_Check.calls k _ _ l0 _ _ l1 t121 _ ?side1 ?side2 ?side3 ?side4 A4.out).mono ?_); (case side1 => repeat (first | exact HR0.out | (with_reducible refine Kd.C_alloc ?_ _) | (with_reducible refine Kd.C_drewN ?_ _) | (with_reducible refine Kd.C_drew ?_))); (case side2 => exact HC0.out); (case side3 => repeat (first | exact HR1.out | (with_reducible refine Kd.C_alloc ?_ _) | (with_reducible refine Kd.C_drewN ?_ _) | (with_reducible refine Kd.C_drew ?_))); (case side4 => exact HC1.out); rintro e w' ⟨rfl, ⟨nd, rfl⟩⟩; refine ⟨_, rfl, ?_⟩))
    go_loopg [8, 9] k (fun kq v8 v9 w' => ∃ (x8_1 : List Int) (x9_1 : Int), v9 = .int .u32 x9_1 ∧ Aside0 (amalgamref10_All.l0 kq l0 l1 a2 x8_1 x9_1 = some r) ∧ Aside0 (kq ≤ k) ∧ Aside0 (Kd.R (Kd.int .u32) 37 w' w.heap.size (fun _ => True) v8 x8_1) ∧ Aside0 (Below w.heap.size w w'))
    case atStart => exact ⟨(([] : List Int)), (0), (by first | rfl | (simp; done) | (simp [*]; done)), H', ⟨Nat.le_refl _⟩, ⟨by first | exact Kd.R_nil _ _ _ _ _ | exact Kd.N_nil _ _ _ _ _ | exact Kd.V_nil _ _ _ _ _ | exact Kd.Q_nil _ _ _ _ _ | exact Kd.S_nil _ _ _ _ _⟩, ⟨by repeat (first | (with_reducible first | exact HB.out | apply below_alloc | apply pw_below_drewN | apply below_drew1) | exact HB.out)⟩⟩
    case round =>
      clear H'
      try clear c1
      try clear c2
      try clear p2
      try clear c5
      try clear c5b0
      try clear c5b1
      obtain ⟨x8_1, x9_1, rfl, HA, HK1, HO_8, HB⟩ := hrel
      cases gk with
      | zero => exact absurd HA.out (by simp [amalgamref10_All.l0])
      | succ k1 =>
        have H := HA.out
        clear HA
        simp only [amalgamref10_All.l0] at H
        have HC6 := Aside0.mk H
        clear H
        go_upto_region 6 with (fail)
        go_cut [26] (fun v26 wc => ∃ (kq : Nat) (x26_5 : Bool), v26 = .bool x26_5 ∧ Aside0 (amalgamref10_All.j1 kq l0 l1 a2 x8_1 x9_1 x26_5 = some r) ∧ Aside0 (kq ≤ k1) ∧ Aside0 (Kd.R (Kd.int .u32) 37 wc w.heap.size (fun _ => True) u8 x8_1) ∧ Aside0 (Below w.heap.size w wc))
        case first =>
          have H := HC6.out
          clear HC6
          obtain ⟨ji7, hji7⟩ : ∃ j_ : Int, (shl .u32 1 (l0.length : Int)) = j_ := ⟨_, rfl⟩
          replace H : (if x9_1 < (ji7) then (amalgamref10_All.j1 k1 l0 l1 a2 x8_1 x9_1 (decide ((x8_1.length : Int) < a2))) else (amalgamref10_All.j1 k1 l0 l1 a2 x8_1 x9_1 false)) = some r := by first | (rw [hji7] at H; exact H) | (simp only [hji7] at H ⊢; exact H)
          have hji7_ : (IntKind.u32.wrap (1 * 2 ^ min (l0.length : Int).toNat 32)) = ji7 := hji7
          have hji7z : (l0.length : Int) ≤ 32 → (IntKind.u32.wrap (1 * 2 ^ (l0.length : Int).toNat)) = ji7 := shl_small hji7
          have hji7p : (IntKind.u32.wrap (1 * 2 ^ min l0.length 32)) = ji7 := hji7_
          have hji7q : (l0.length : Int) ≤ 32 → (IntKind.u32.wrap (1 * 2 ^ l0.length)) = ji7 := hji7z
          have hji7r : (IntKind.u32.wrap (2 ^ min l0.length 32)) = ji7 := by have h_ := hji7p; rw [Int.one_mul] at h_; exact h_
          have hji7s : (l0.length : Int) ≤ 32 → (IntKind.u32.wrap (2 ^ l0.length)) = ji7 := fun hle_ => by have h_ := hji7q hle_; rw [Int.one_mul] at h_; exact h_
          have hji7u : (IntKind.u32.wrap (2 ^ min (l0.length : Int).toNat 32)) = ji7 := by have h_ := hji7_; rw [Int.one_mul] at h_; exact h_
          have hji7v : (l0.length : Int) ≤ 32 → (IntKind.u32.wrap (2 ^ (l0.length : Int).toNat)) = ji7 := fun hle_ => by have h_ := hji7z hle_; rw [Int.one_mul] at h_; exact h_
          by_cases c8 : x9_1 < (ji7)
          · rw [if_pos c8] at H
            have c8b0 : decide (x9_1 < (ji7)) = true := decide_eq_true c8
            clear c8
            (first | rw [c8b0] | (simp only [i64_w, i32_w]; rw [c8b0]) | skip)
            have H' := Aside0.mk H
            clear H
            obtain ⟨Ao9, co9, eo9⟩ := Kd.R_slice HO_8.out
            subst eo9
            go_wp2
            go_meet
            case rel => exact ⟨_, (decide ((x8_1.length : Int) < a2)), (by first | rfl | (simp; done) | (simp [*]; done)), H', ⟨by have := HK1.out; first | omega | exact Nat.le_refl _⟩, ⟨by (with_reducible repeat (first | apply Kd.R_alloc | apply Kd.R_drewN | apply Kd.R_drew)); exact HO_8.out⟩, ⟨by repeat (first | (with_reducible first | exact HB.out | apply below_alloc | apply pw_below_drewN | apply below_drew1) | exact HB.out)⟩⟩
          · rw [if_neg c8] at H
            have c8b0 : decide (x9_1 < (ji7)) = false := decide_eq_false c8
            clear c8
            (first | rw [c8b0] | (simp only [i64_w, i32_w]; rw [c8b0]) | skip)
            have H' := Aside0.mk H
            clear H
            go_wp2
            go_meet
            case rel => exact ⟨_, (false), (by first | rfl | (simp; done) | (simp [*]; done)), H', ⟨by have := HK1.out; first | omega | exact Nat.le_refl _⟩, ⟨by (with_reducible repeat (first | apply Kd.R_alloc | apply Kd.R_drewN | apply Kd.R_drew)); exact HO_8.out⟩, ⟨by repeat (first | (with_reducible first | exact HB.out | apply below_alloc | apply pw_below_drewN | apply below_drew1) | exact HB.out)⟩⟩
        case rest =>
          clear HC6
          try clear c1
          try clear c2
          try clear p2
          try clear c5
          try clear c5b0
          try clear c5b1
          try clear c8
          try clear c8b0
          try clear p2
          obtain ⟨kq, x26_5, rfl, HA, HJ5, HO_8, HB⟩ := hcut
          cases kq with
          | zero => exact absurd HA.out (by simp [amalgamref10_All.j1])
          | succ kj5 =>
            have H := HA.out
            clear HA
            simp only [amalgamref10_All.j1] at H
            by_cases c10 : x26_5 = true
            · subst c10
              have H1 : ((amalgamref10_add.f kj5 l0 (l1.length : Int) x9_1).bind fun t122 => ((amalgamref10_fits.f kj5 t122 l1).bind fun t125 => (if t125 = true then (if x8_1.length < 35184372088832 then (amalgamref10_All.l0 kj5 l0 l1 a2 (x8_1 ++ [x9_1]) ((x9_1 + 1) % 4294967296)) else (none)) else (amalgamref10_All.l0 kj5 l0 l1 a2 x8_1 ((x9_1 + 1) % 4294967296))))) = some r := by rw [if_pos rfl] at H; exact H
              clear H
              have H := H1
              clear H1
              replace H := Option.bind_eq_some_iff.mp H
              obtain ⟨t122, A110, H⟩ := H
              replace H : ((amalgamref10_fits.f kj5 t122 l1).bind fun t125 => (if t125 = true then (if x8_1.length < 35184372088832 then (amalgamref10_All.l0 kj5 l0 l1 a2 (x8_1 ++ [x9_1]) ((x9_1 + 1) % 4294967296)) else (none)) else (amalgamref10_All.l0 kj5 l0 l1 a2 x8_1 ((x9_1 + 1) % 4294967296)))) = some r := H
              have A11 := Aside0.mk A110
              clear A110
              replace H := Option.bind_eq_some_iff.mp H
              obtain ⟨t125, A120, H⟩ := H
              replace H : (if t125 = true then (if x8_1.length < 35184372088832 then (amalgamref10_All.l0 kj5 l0 l1 a2 (x8_1 ++ [x9_1]) ((x9_1 + 1) % 4294967296)) else (none)) else (amalgamref10_All.l0 kj5 l0 l1 a2 x8_1 ((x9_1 + 1) % 4294967296))) = some r := H
              have A12 := Aside0.mk A120
              clear A120
              by_cases c13 : t125 = true
              · subst c13
                have H1 : (if x8_1.length < 35184372088832 then (amalgamref10_All.l0 kj5 l0 l1 a2 (x8_1 ++ [x9_1]) ((x9_1 + 1) % 4294967296)) else (none)) = some r := by rw [if_pos rfl] at H; exact H
                clear H
                have H := H1
                clear H1
                by_cases c14 : x8_1.length < 35184372088832
                · rw [if_pos c14] at H
                  have LMc14 := Aside0.mk c14
                  clear c14
                  obtain ⟨y126, hy126⟩ : ∃ y_ : List Int, y_ = (x8_1 ++ [x9_1]) := ⟨_, rfl⟩
                  replace H : (amalgamref10_All.l0 kj5 l0 l1 a2 y126 ((x9_1 + 1) % 4294967296)) = some r := by first | (rw [hy126]; with_reducible exact H) | (have H2_ := (Option.bind_some _ _).symm.trans H; rw [hy126]; with_reducible exact H2_) | (have H2_ := (Option.bind_some _ _).symm.trans H; with_reducible exact H2_) | with_reducible exact H | (rw [hy126]; exact H) | exact H
                  have Ny126 := Aside0.mk hy126
                  clear hy126
                  have H' := Aside0.mk H
                  clear H
                  go_wp2_with (first | ((with_reducible refine gate_callee (f := 32) rfl ?_); refine goesL_ (some 33) rfl rfl Tryd.func32 (by kernel_rfl) rfl #[.slice A0 l0.length c0, .int .i64 (l1.length : Int), .int .u32 x9_1] rfl (by (try simp only [List.map_toArray, List.map_cons, List.map_nil]); first | done | rfl | (simp only [List.length_drop, List.length_take]; rfl)) ?_; (with_reducible refine (amalgamref10_add.calls kj5 _ _ l0 (l1.length : Int) x9_1 t122 _ ?side1 ?side2 A11.out).mono ?_); (case side1 => repeat (first | exact (Kd.C_below HR0.out HB.out) | (with_reducible refine Kd.C_alloc ?_ _) | (with_reducible refine Kd.C_drewN ?_ _) | (with_reducible refine Kd.C_drew ?_))); (case side2 => exact HC0.out); rintro e w15 ⟨v123, rfl, ho0, hb⟩; refine ⟨_, rfl, ?_⟩; have n0_ := Aside0.mk (Kd.R_below (by (with_reducible repeat (first | apply Kd.R_alloc | apply Kd.R_drewN | apply Kd.R_drew)); exact HO_8.out) hb); have n1_ := Aside0.mk (Kd.R_lower ho0 (below_size (by repeat (first | (with_reducible first | exact HB.out | apply below_alloc | apply pw_below_drewN | apply below_drew1) | exact HB.out)))); have n2_ := Aside0.mk (below_step (by repeat (first | (with_reducible first | exact HB.out | apply below_alloc | apply pw_below_drewN | apply below_drew1) | exact HB.out)) hb); clear HO_8; clear HB; have HO_8 := n0_; have HO124 := n1_; have HB := n2_; clear n0_ n1_ n2_; (try clear hb); (try clear hb2); (try clear hk); (try clear hi); (try clear ho0); obtain ⟨Ao16, co16, eo16⟩ := Kd.R_slice HO124.out; subst eo16) | ((with_reducible refine gate_callee (f := 31) rfl ?_); refine goesL_ (some 35) rfl rfl Tryd.func31 (by kernel_rfl) rfl #[.slice Ao16 t122.length co16, .slice A1 l1.length c1] rfl (by (try simp only [List.map_toArray, List.map_cons, List.map_nil]); first | done | rfl | (simp only [List.length_drop, List.length_take]; rfl)) ?_; (with_reducible refine (amalgamref10_fits.calls kj5 _ _ t122 _ _ l1 true _ ?side1 ?side2 ?side3 ?side4 A12.out).mono ?_); (case side1 => repeat (first | exact (Kd.R_reads' HO124.out).2.2 | (with_reducible refine Kd.C_alloc ?_ _) | (with_reducible refine Kd.C_drewN ?_ _) | (with_reducible refine Kd.C_drew ?_))); (case side2 => exact (Kd.R_reads' HO124.out).2.1); (case side3 => repeat (first | exact (Kd.C_below HR1.out HB.out) | (with_reducible refine Kd.C_alloc ?_ _) | (with_reducible refine Kd.C_drewN ?_ _) | (with_reducible refine Kd.C_drew ?_))); (case side4 => exact HC1.out); rintro e w' ⟨rfl, ⟨nd, rfl⟩⟩; refine ⟨_, rfl, ?_⟩) | ((with_reducible refine gate_builtin (b := .append) (xs := #[.tmp 37, .tmp 39]) rfl ?_); (try (refine gate_guard (by rfl) ?_; dsimp only)); at_builtin; refine Kd.R_append (Kd.int .u32) (w0 := w) w.heap.size rfl (.tmp 37) (.tmp 39) 26 37 (.int .u32 0) 4 rfl Tryd.underlying26 info37 rfl (by decide) (by omega) u8 x8_1 x9_1 [.int .u32 x9_1] (fun _ => True) (fun _ => False) rfl rfl ?aP (fun _ hk => hk.elim) ?aF ?aO ?aB ?aS ?aL ?_; (case aP => exact rfl); (case aB => exact (by repeat (first | (with_reducible first | exact HB.out | apply below_alloc | apply pw_below_drewN | apply below_drew1) | exact HB.out))); (case aF => exact (fun _ _ => trivial)); (case aO => exact (by (with_reducible repeat (first | apply Kd.R_alloc | apply Kd.R_drewN | apply Kd.R_drew)); exact HO_8.out)); (case aS => exact (below_size (by repeat (first | (with_reducible first | exact HB.out | apply below_alloc | apply pw_below_drewN | apply below_drew1) | exact HB.out)))); (case aL => have := LMc14.out; omega); intro v127 w17 ho hb hg hat; rw [← Ny126.out] at ho; have n0_ := Aside0.mk (Kd.R_over' (by (with_reducible repeat (first | apply Kd.R_alloc | apply Kd.R_drewN | apply Kd.R_drew)); exact HO124.out) (Kd.R_typed (by (with_reducible repeat (first | apply Kd.R_alloc | apply Kd.R_drewN | apply Kd.R_drew)); exact HO_8.out)) (by decide) hg); have n1_ := Aside0.mk (hb); have n2_ := Aside0.mk (ho); clear HO124; clear HB; clear HO_8; have HO124 := n0_; have HB := n1_; have HO128 := n2_; clear n0_ n1_ n2_; clear ho hb hg hat))
                  go_roundg kj5
                  case measure => have := HK1.out; have := HJ5.out; omega
                  case rel => exact ⟨(y126), ((x9_1 + 1) % 4294967296), (by first | rfl | (simp; done) | (simp [*]; done)), H', ⟨by have := HK1.out; have := HJ5.out; omega⟩, ⟨by (with_reducible repeat (first | apply Kd.R_alloc | apply Kd.R_drewN | apply Kd.R_drew)); exact HO128.out⟩, ⟨by repeat (first | (with_reducible first | exact HB.out | apply below_alloc | apply pw_below_drewN | apply below_drew1) | exact HB.out)⟩⟩
                · rw [if_neg c14] at H
                  exact absurd H (by simp)
              · replace c13 := Bool.eq_false_iff.mpr c13
                subst c13
                have H1 : (amalgamref10_All.l0 kj5 l0 l1 a2 x8_1 ((x9_1 + 1) % 4294967296)) = some r := by rw [if_neg (show ¬ (false = true) by decide)] at H; exact H
                clear H
                have H := H1
                clear H1
                have H' := Aside0.mk H
                clear H
                go_wp2_with (first | ((with_reducible refine gate_callee (f := 32) rfl ?_); refine goesL_ (some 33) rfl rfl Tryd.func32 (by kernel_rfl) rfl #[.slice A0 l0.length c0, .int .i64 (l1.length : Int), .int .u32 x9_1] rfl (by (try simp only [List.map_toArray, List.map_cons, List.map_nil]); first | done | rfl | (simp only [List.length_drop, List.length_take]; rfl)) ?_; (with_reducible refine (amalgamref10_add.calls kj5 _ _ l0 (l1.length : Int) x9_1 t122 _ ?side1 ?side2 A11.out).mono ?_); (case side1 => repeat (first | exact (Kd.C_below HR0.out HB.out) | (with_reducible refine Kd.C_alloc ?_ _) | (with_reducible refine Kd.C_drewN ?_ _) | (with_reducible refine Kd.C_drew ?_))); (case side2 => exact HC0.out); rintro e w18 ⟨v123, rfl, ho0, hb⟩; refine ⟨_, rfl, ?_⟩; have n0_ := Aside0.mk (Kd.R_below (by (with_reducible repeat (first | apply Kd.R_alloc | apply Kd.R_drewN | apply Kd.R_drew)); exact HO_8.out) hb); have n1_ := Aside0.mk (Kd.R_lower ho0 (below_size (by repeat (first | (with_reducible first | exact HB.out | apply below_alloc | apply pw_below_drewN | apply below_drew1) | exact HB.out)))); have n2_ := Aside0.mk (below_step (by repeat (first | (with_reducible first | exact HB.out | apply below_alloc | apply pw_below_drewN | apply below_drew1) | exact HB.out)) hb); clear HO_8; clear HB; have HO_8 := n0_; have HO124 := n1_; have HB := n2_; clear n0_ n1_ n2_; (try clear hb); (try clear hb2); (try clear hk); (try clear hi); (try clear ho0); obtain ⟨Ao19, co19, eo19⟩ := Kd.R_slice HO124.out; subst eo19) | ((with_reducible refine gate_callee (f := 31) rfl ?_); refine goesL_ (some 35) rfl rfl Tryd.func31 (by kernel_rfl) rfl #[.slice Ao19 t122.length co19, .slice A1 l1.length c1] rfl (by (try simp only [List.map_toArray, List.map_cons, List.map_nil]); first | done | rfl | (simp only [List.length_drop, List.length_take]; rfl)) ?_; (with_reducible refine (amalgamref10_fits.calls kj5 _ _ t122 _ _ l1 false _ ?side1 ?side2 ?side3 ?side4 A12.out).mono ?_); (case side1 => repeat (first | exact (Kd.R_reads' HO124.out).2.2 | (with_reducible refine Kd.C_alloc ?_ _) | (with_reducible refine Kd.C_drewN ?_ _) | (with_reducible refine Kd.C_drew ?_))); (case side2 => exact (Kd.R_reads' HO124.out).2.1); (case side3 => repeat (first | exact (Kd.C_below HR1.out HB.out) | (with_reducible refine Kd.C_alloc ?_ _) | (with_reducible refine Kd.C_drewN ?_ _) | (with_reducible refine Kd.C_drew ?_))); (case side4 => exact HC1.out); rintro e w' ⟨rfl, ⟨nd, rfl⟩⟩; refine ⟨_, rfl, ?_⟩))
                go_roundg kj5
                case measure => have := HK1.out; have := HJ5.out; omega
                case rel => exact ⟨(x8_1), ((x9_1 + 1) % 4294967296), (by first | rfl | (simp; done) | (simp [*]; done)), H', ⟨by have := HK1.out; have := HJ5.out; omega⟩, ⟨by (with_reducible repeat (first | apply Kd.R_alloc | apply Kd.R_drewN | apply Kd.R_drew)); exact HO_8.out⟩, ⟨by repeat (first | (with_reducible first | exact HB.out | apply below_alloc | apply pw_below_drewN | apply below_drew1) | exact HB.out)⟩⟩
            · replace c10 := Bool.eq_false_iff.mpr c10
              subst c10
              have H1 : (some x8_1) = some r := by rw [if_neg (show ¬ (false = true) by decide)] at H; exact H
              clear H
              have H := H1
              clear H1
              obtain rfl := Option.some.inj H
              go_wp2
              go_ret
              exact ⟨_, by first | rfl | (simp [errW_none, errW_some] <;> rfl) | (simp [*, errW_none, errW_some] <;> rfl), by (with_reducible repeat (first | apply Kd.R_alloc | apply Kd.R_drewN | apply Kd.R_drew)); exact HO_8.out, by repeat (first | (with_reducible first | exact HB.out | apply below_alloc | apply pw_below_drewN | apply below_drew1) | exact HB.out)⟩
  · rw [if_neg c5] at H
    have c5b0 : (t121 == 0) = false := beq_eq_false_iff_ne.mpr c5
    have c5b1 : (t121 != 0) = true := bne_iff_ne.mpr c5
    obtain rfl := Option.some.inj H
    go_enter Tryd.func16, Tryd.ntmps16
    go_wp2_with (first | ((with_reducible refine gate_callee (f := 22) rfl ?_); refine goesL_ (some 13) rfl rfl Tryd.func22 (by kernel_rfl) rfl #[.slice A0 l0.length c0, .slice A1 l1.length c1] rfl (by (try simp only [List.map_toArray, List.map_cons, List.map_nil]); first | done | rfl | (simp only [List.length_drop, List.length_take]; rfl)) ?_; (with_reducible refine (amalgamref10_Check.calls k _ _ l0 _ _ l1 t121 _ ?side1 ?side2 ?side3 ?side4 A4.out).mono ?_); (case side1 => repeat (first | exact HR0.out | (with_reducible refine Kd.C_alloc ?_ _) | (with_reducible refine Kd.C_drewN ?_ _) | (with_reducible refine Kd.C_drew ?_))); (case side2 => exact HC0.out); (case side3 => repeat (first | exact HR1.out | (with_reducible refine Kd.C_alloc ?_ _) | (with_reducible refine Kd.C_drewN ?_ _) | (with_reducible refine Kd.C_drew ?_))); (case side4 => exact HC1.out); rintro e w' ⟨rfl, ⟨nd, rfl⟩⟩; refine ⟨_, rfl, ?_⟩))
    go_ret
    exact ⟨_, by first | rfl | (simp [errW_none, errW_some] <;> rfl) | (simp [*, errW_none, errW_some] <;> rfl), by first | exact Kd.R_nil _ _ _ _ _ | exact Kd.N_nil _ _ _ _ _ | exact Kd.V_nil _ _ _ _ _ | exact Kd.Q_nil _ _ _ _ _ | exact Kd.S_nil _ _ _ _ _, by repeat (first | (with_reducible first | exact HB.out | apply below_alloc | apply pw_below_drewN | apply below_drew1) | exact HB.out)⟩

/-! ### amalgamref10_List: function 11 -/
def amalgamref10_List.f (k : Nat) (l0 : List (List Int)) (l1 : List Int) (a2 : Int) : Option (List Int × Int) := (amalgamref10_Check.f k l0 l1).bind fun t129 => (if t129 = 0 then (if a2 < 0 then (some (([] : List Int), 1)) else ((amalgamref10_All.f k l0 l1 65536).bind fun t130 => (if (t130.length : Int) > a2 then (some (([] : List Int), 2)) else (some (t130, 0))))) else (some (([] : List Int), t129)))
theorem amalgamref10_List.mono : ∀ a0 a1 a2 k, LeO (amalgamref10_List.f k a0 a1 a2) (amalgamref10_List.f (k + 1) a0 a1 a2) := by
  intro a0 a1 a2 k
  unfold amalgamref10_List.f
  repeat' first
      | (with_reducible exact amalgamref10_All.mono _ _ _ _)
      | (with_reducible exact amalgamref10_Check.mono _ _ _)
      | (with_reducible exact LeO.refl _)
      | (with_reducible exact LeO.none _)
      | (with_reducible refine LeO.ite ?_ ?_)
      | (with_reducible refine LeO.bind ?_ (fun _ => ?_))
      | exact amalgamref10_All.mono _ _ _ _
      | exact amalgamref10_Check.mono _ _ _
      | exact LeO.none _
      | refine LeO.ite ?_ ?_
      | refine LeO.bind ?_ (fun _ => ?_)
set_option maxHeartbeats 8000000 in
set_option maxRecDepth 100000 in
theorem amalgamref10_List.calls (k : Nat) (A0 : Option Addr) (c0 : Nat) (l0 : List (List Int)) (A1 : Option Addr) (c1 : Nat) (l1 : List Int) (a2 : Int) (r1 : List Int) (r2 : Int) (w : World) (hr0 : Kd.C (Kd.slice 3 (Kd.int .i64)) w A0 l0.length l0) (hc0 : l0.length ≤ c0) (hr1 : Kd.C (Kd.int .i64) w A1 l1.length l1) (hc1 : l1.length ≤ c1) (h : amalgamref10_List.f k l0 l1 a2 = some (r1, r2)) :
    Calls Tryd.prog 11 #[.slice A0 l0.length c0, .slice A1 l1.length c1, .int .i64 a2] w fun e w' => ∃ v0_ : Value, e = .returned (.tuple #[v0_, .int .i64 r2]) ∧ Kd.R (Kd.int .u32) 37 w' w.heap.size (fun _ => True) v0_ r1 ∧ Below w.heap.size w w' := by
  have HR0 := Aside0.mk hr0
  have HC0 := Aside0.mk hc0
  clear hr0 hc0
  have HR1 := Aside0.mk hr1
  have HC1 := Aside0.mk hc1
  clear hr1 hc1
  have HB := Aside0.mk (Below.refl w.heap.size w)
  have H : ((amalgamref10_Check.f k l0 l1).bind fun t129 => (if t129 = 0 then (if a2 < 0 then (some (([] : List Int), 1)) else ((amalgamref10_All.f k l0 l1 65536).bind fun t130 => (if (t130.length : Int) > a2 then (some (([] : List Int), 2)) else (some (t130, 0))))) else (some (([] : List Int), t129)))) = some (r1, r2) := h
  clear h
  replace H := Option.bind_eq_some_iff.mp H
  obtain ⟨t129, A40, H⟩ := H
  replace H : (if t129 = 0 then (if a2 < 0 then (some (([] : List Int), 1)) else ((amalgamref10_All.f k l0 l1 65536).bind fun t130 => (if (t130.length : Int) > a2 then (some (([] : List Int), 2)) else (some (t130, 0))))) else (some (([] : List Int), t129))) = some (r1, r2) := H
  have A4 := Aside0.mk A40
  clear A40
  by_cases c5 : t129 = 0
  · rw [if_pos c5] at H
    have c5b0 : (t129 == 0) = true := beq_iff_eq.mpr c5
    have c5b1 : (t129 != 0) = false := bne_eq_false_iff_eq.mpr c5
    clear c5
    by_cases c6 : a2 < 0
    · rw [if_pos c6] at H
      have c6b0 : decide (a2 < 0) = true := decide_eq_true c6
      clear c6
      simp only [Option.some.injEq, Prod.mk.injEq] at H
      obtain ⟨rfl, rfl⟩ := H
      go_enter Tryd.func11, Tryd.ntmps11
      go_wp2_with (first | ((with_reducible refine gate_callee (f := 22) rfl ?_); refine goesL_ (some 12) rfl rfl Tryd.func22 (by kernel_rfl) rfl #[.slice A0 l0.length c0, .slice A1 l1.length c1] rfl (by (try simp only [List.map_toArray, List.map_cons, List.map_nil]); first | done | rfl | (simp only [List.length_drop, List.length_take]; rfl)) ?_; (with_reducible refine (amalgamref10_Check.calls k _ _ l0 _ _ l1 t129 _ ?side1 ?side2 ?side3 ?side4 A4.out).mono ?_); (case side1 => repeat (first | exact HR0.out | (with_reducible refine Kd.C_alloc ?_ _) | (with_reducible refine Kd.C_drewN ?_ _) | (with_reducible refine Kd.C_drew ?_))); (case side2 => exact HC0.out); (case side3 => repeat (first | exact HR1.out | (with_reducible refine Kd.C_alloc ?_ _) | (with_reducible refine Kd.C_drewN ?_ _) | (with_reducible refine Kd.C_drew ?_))); (case side4 => exact HC1.out); rintro e w' ⟨rfl, ⟨nd, rfl⟩⟩; refine ⟨_, rfl, ?_⟩))
      go_ret2
      exact ⟨_, by first | rfl | (simp [errW_none, errW_some] <;> rfl) | (simp [*, errW_none, errW_some] <;> rfl), by first | exact Kd.R_nil _ _ _ _ _ | exact Kd.N_nil _ _ _ _ _ | exact Kd.V_nil _ _ _ _ _ | exact Kd.Q_nil _ _ _ _ _ | exact Kd.S_nil _ _ _ _ _, by repeat (first | (with_reducible first | exact HB.out | apply below_alloc | apply pw_below_drewN | apply below_drew1) | exact HB.out)⟩
    · rw [if_neg c6] at H
      have c6b0 : decide (a2 < 0) = false := decide_eq_false c6
      clear c6
      replace H := Option.bind_eq_some_iff.mp H
      obtain ⟨t130, A70, H⟩ := H
      replace H : (if (t130.length : Int) > a2 then (some (([] : List Int), 2)) else (some (t130, 0))) = some (r1, r2) := H
      have A7 := Aside0.mk A70
      clear A70
      by_cases c8 : (t130.length : Int) > a2
      · rw [if_pos c8] at H
        have c8b0 : decide (a2 < (t130.length : Int)) = true := decide_eq_true c8
        clear c8
        simp only [Option.some.injEq, Prod.mk.injEq] at H
        obtain ⟨rfl, rfl⟩ := H
        go_enter Tryd.func11, Tryd.ntmps11
        go_wp2_with (first | ((with_reducible refine gate_callee (f := 22) rfl ?_); refine goesL_ (some 12) rfl rfl Tryd.func22 (by kernel_rfl) rfl #[.slice A0 l0.length c0, .slice A1 l1.length c1] rfl (by (try simp only [List.map_toArray, List.map_cons, List.map_nil]); first | done | rfl | (simp only [List.length_drop, List.length_take]; rfl)) ?_; (with_reducible refine (amalgamref10_Check.calls k _ _ l0 _ _ l1 t129 _ ?side1 ?side2 ?side3 ?side4 A4.out).mono ?_); (case side1 => repeat (first | exact HR0.out | (with_reducible refine Kd.C_alloc ?_ _) | (with_reducible refine Kd.C_drewN ?_ _) | (with_reducible refine Kd.C_drew ?_))); (case side2 => exact HC0.out); (case side3 => repeat (first | exact HR1.out | (with_reducible refine Kd.C_alloc ?_ _) | (with_reducible refine Kd.C_drewN ?_ _) | (with_reducible refine Kd.C_drew ?_))); (case side4 => exact HC1.out); rintro e w' ⟨rfl, ⟨nd, rfl⟩⟩; refine ⟨_, rfl, ?_⟩) | ((with_reducible refine gate_callee (f := 16) rfl ?_); refine goesL_ (some 20) rfl rfl Tryd.func16 (by kernel_rfl) rfl #[.slice A0 l0.length c0, .slice A1 l1.length c1, .int .i64 65536] rfl (by (try simp only [List.map_toArray, List.map_cons, List.map_nil]); first | done | rfl | (simp only [List.length_drop, List.length_take]; rfl)) ?_; (with_reducible refine (amalgamref10_All.calls k _ _ l0 _ _ l1 65536 t130 _ ?side1 ?side2 ?side3 ?side4 A7.out).mono ?_); (case side1 => repeat (first | exact HR0.out | (with_reducible refine Kd.C_alloc ?_ _) | (with_reducible refine Kd.C_drewN ?_ _) | (with_reducible refine Kd.C_drew ?_))); (case side2 => exact HC0.out); (case side3 => repeat (first | exact HR1.out | (with_reducible refine Kd.C_alloc ?_ _) | (with_reducible refine Kd.C_drewN ?_ _) | (with_reducible refine Kd.C_drew ?_))); (case side4 => exact HC1.out); rintro e w9 ⟨v131, rfl, ho0, hb⟩; refine ⟨_, rfl, ?_⟩; have n0_ := Aside0.mk (Kd.R_lower ho0 (below_size (by repeat (first | (with_reducible first | exact HB.out | apply below_alloc | apply pw_below_drewN | apply below_drew1) | exact HB.out)))); have n1_ := Aside0.mk (below_step (by repeat (first | (with_reducible first | exact HB.out | apply below_alloc | apply pw_below_drewN | apply below_drew1) | exact HB.out)) hb); clear HB; have HO132 := n0_; have HB := n1_; clear n0_ n1_; (try clear hb); (try clear hb2); (try clear hk); (try clear hi); (try clear ho0); obtain ⟨Ao10, co10, eo10⟩ := Kd.R_slice HO132.out; subst eo10))
        go_ret2
        exact ⟨_, by first | rfl | (simp [errW_none, errW_some] <;> rfl) | (simp [*, errW_none, errW_some] <;> rfl), by first | exact Kd.R_nil _ _ _ _ _ | exact Kd.N_nil _ _ _ _ _ | exact Kd.V_nil _ _ _ _ _ | exact Kd.Q_nil _ _ _ _ _ | exact Kd.S_nil _ _ _ _ _, by repeat (first | (with_reducible first | exact HB.out | apply below_alloc | apply pw_below_drewN | apply below_drew1) | exact HB.out)⟩
      · rw [if_neg c8] at H
        have c8b0 : decide (a2 < (t130.length : Int)) = false := decide_eq_false c8
        clear c8
        simp only [Option.some.injEq, Prod.mk.injEq] at H
        obtain ⟨rfl, rfl⟩ := H
        go_enter Tryd.func11, Tryd.ntmps11
        go_wp2_with (first | ((with_reducible refine gate_callee (f := 22) rfl ?_); refine goesL_ (some 12) rfl rfl Tryd.func22 (by kernel_rfl) rfl #[.slice A0 l0.length c0, .slice A1 l1.length c1] rfl (by (try simp only [List.map_toArray, List.map_cons, List.map_nil]); first | done | rfl | (simp only [List.length_drop, List.length_take]; rfl)) ?_; (with_reducible refine (amalgamref10_Check.calls k _ _ l0 _ _ l1 t129 _ ?side1 ?side2 ?side3 ?side4 A4.out).mono ?_); (case side1 => repeat (first | exact HR0.out | (with_reducible refine Kd.C_alloc ?_ _) | (with_reducible refine Kd.C_drewN ?_ _) | (with_reducible refine Kd.C_drew ?_))); (case side2 => exact HC0.out); (case side3 => repeat (first | exact HR1.out | (with_reducible refine Kd.C_alloc ?_ _) | (with_reducible refine Kd.C_drewN ?_ _) | (with_reducible refine Kd.C_drew ?_))); (case side4 => exact HC1.out); rintro e w' ⟨rfl, ⟨nd, rfl⟩⟩; refine ⟨_, rfl, ?_⟩) | ((with_reducible refine gate_callee (f := 16) rfl ?_); refine goesL_ (some 20) rfl rfl Tryd.func16 (by kernel_rfl) rfl #[.slice A0 l0.length c0, .slice A1 l1.length c1, .int .i64 65536] rfl (by (try simp only [List.map_toArray, List.map_cons, List.map_nil]); first | done | rfl | (simp only [List.length_drop, List.length_take]; rfl)) ?_; (with_reducible refine (amalgamref10_All.calls k _ _ l0 _ _ l1 65536 t130 _ ?side1 ?side2 ?side3 ?side4 A7.out).mono ?_); (case side1 => repeat (first | exact HR0.out | (with_reducible refine Kd.C_alloc ?_ _) | (with_reducible refine Kd.C_drewN ?_ _) | (with_reducible refine Kd.C_drew ?_))); (case side2 => exact HC0.out); (case side3 => repeat (first | exact HR1.out | (with_reducible refine Kd.C_alloc ?_ _) | (with_reducible refine Kd.C_drewN ?_ _) | (with_reducible refine Kd.C_drew ?_))); (case side4 => exact HC1.out); rintro e w11 ⟨v131, rfl, ho0, hb⟩; refine ⟨_, rfl, ?_⟩; have n0_ := Aside0.mk (Kd.R_lower ho0 (below_size (by repeat (first | (with_reducible first | exact HB.out | apply below_alloc | apply pw_below_drewN | apply below_drew1) | exact HB.out)))); have n1_ := Aside0.mk (below_step (by repeat (first | (with_reducible first | exact HB.out | apply below_alloc | apply pw_below_drewN | apply below_drew1) | exact HB.out)) hb); clear HB; have HO132 := n0_; have HB := n1_; clear n0_ n1_; (try clear hb); (try clear hb2); (try clear hk); (try clear hi); (try clear ho0); obtain ⟨Ao12, co12, eo12⟩ := Kd.R_slice HO132.out; subst eo12))
        go_ret2
        exact ⟨_, by first | rfl | (simp [errW_none, errW_some] <;> rfl) | (simp [*, errW_none, errW_some] <;> rfl), by (with_reducible repeat (first | apply Kd.R_alloc | apply Kd.R_drewN | apply Kd.R_drew)); exact HO132.out, by repeat (first | (with_reducible first | exact HB.out | apply below_alloc | apply pw_below_drewN | apply below_drew1) | exact HB.out)⟩
  · rw [if_neg c5] at H
    have c5b0 : (t129 == 0) = false := beq_eq_false_iff_ne.mpr c5
    have c5b1 : (t129 != 0) = true := bne_iff_ne.mpr c5
    simp only [Option.some.injEq, Prod.mk.injEq] at H
    obtain ⟨rfl, rfl⟩ := H
    go_enter Tryd.func11, Tryd.ntmps11
    go_wp2_with (first | ((with_reducible refine gate_callee (f := 22) rfl ?_); refine goesL_ (some 12) rfl rfl Tryd.func22 (by kernel_rfl) rfl #[.slice A0 l0.length c0, .slice A1 l1.length c1] rfl (by (try simp only [List.map_toArray, List.map_cons, List.map_nil]); first | done | rfl | (simp only [List.length_drop, List.length_take]; rfl)) ?_; (with_reducible refine (amalgamref10_Check.calls k _ _ l0 _ _ l1 t129 _ ?side1 ?side2 ?side3 ?side4 A4.out).mono ?_); (case side1 => repeat (first | exact HR0.out | (with_reducible refine Kd.C_alloc ?_ _) | (with_reducible refine Kd.C_drewN ?_ _) | (with_reducible refine Kd.C_drew ?_))); (case side2 => exact HC0.out); (case side3 => repeat (first | exact HR1.out | (with_reducible refine Kd.C_alloc ?_ _) | (with_reducible refine Kd.C_drewN ?_ _) | (with_reducible refine Kd.C_drew ?_))); (case side4 => exact HC1.out); rintro e w' ⟨rfl, ⟨nd, rfl⟩⟩; refine ⟨_, rfl, ?_⟩))
    go_ret2
    exact ⟨_, by first | rfl | (simp [errW_none, errW_some] <;> rfl) | (simp [*, errW_none, errW_some] <;> rfl), by first | exact Kd.R_nil _ _ _ _ _ | exact Kd.N_nil _ _ _ _ _ | exact Kd.V_nil _ _ _ _ _ | exact Kd.Q_nil _ _ _ _ _ | exact Kd.S_nil _ _ _ _ _, by repeat (first | (with_reducible first | exact HB.out | apply below_alloc | apply pw_below_drewN | apply below_drew1) | exact HB.out)⟩

/-! ### pick_List: function 10 -/
def pick_List.f (k : Nat) (l0 : List (List Int)) (l1 : List Int) (a2 : Int) : Option (List Int × Int) := (amalgamref10_List.f k l0 l1 a2).bind fun bt133 => (some (bt133.1, bt133.2))
theorem pick_List.mono : ∀ a0 a1 a2 k, LeO (pick_List.f k a0 a1 a2) (pick_List.f (k + 1) a0 a1 a2) := by
  intro a0 a1 a2 k
  unfold pick_List.f
  repeat' first
      | (with_reducible exact amalgamref10_List.mono _ _ _ _)
      | (with_reducible exact LeO.refl _)
      | (with_reducible exact LeO.none _)
      | (with_reducible refine LeO.ite ?_ ?_)
      | (with_reducible refine LeO.bind ?_ (fun _ => ?_))
      | exact amalgamref10_List.mono _ _ _ _
      | exact LeO.none _
      | refine LeO.ite ?_ ?_
      | refine LeO.bind ?_ (fun _ => ?_)

end Go.Proofs.YtbdlihldmmbdmaaDoor.SK

namespace Go.Proofs.YtbdlihldmmbdmaaDoor.PickSpec
open Go.RowKit Go.Proofs.YtbdlihldmmbdmaaDoor.SK Go.Proofs.YtbdlihldmmbdmaaDoorW.PrintWords Go.Proofs.YtbdlihldmmbdmaaDoor.Plain
set_option linter.unusedVariables false

def badW (w : Int) : Bool := decide (w < 0) || decide (w > 2)
def badN (n : Int) : Bool := decide (n < 0) || decide (n > 1048576)
def badR (want row : List Int) : Bool := decide (row.length ≠ want.length) || row.any badN
def chk (rows : List (List Int)) (want : List Int) : Int :=
  if rows.length > 16 then 101 else if want.length > 10 then 102 else if want.any badW then 102 else if rows.any (badR want) then 103 else 0

theorem rdL_lt {xs : List (List Int)} {k : Nat} (h : k < xs.length) : rd_L1 xs (k : Int) = xs[k] := by
  unfold rd_L1
  rw [Int.toNat_natCast, List.getD_eq_getElem?_getD, List.getElem?_eq_getElem h]; rfl

theorem check_l2 (rows : List (List Int)) (want : List Int) (hw : want.length ≤ 10) (i : Nat) (hi : i < rows.length) (hi' : rows.length ≤ 16) (he : rows[i].length = want.length) (r : Int)
    (hn : Ev (fun k => amalgamref10_Check.l1 k rows want ((i + 1 : Nat) : Int)) r) :
    ∀ d j : Nat, j + d = want.length → Ev (fun k => amalgamref10_Check.l2 k rows want (i : Int) (j : Int)) (if (rows[i].drop j).any badN then 103 else r) := by
  intro d
  induction d with
  | zero =>
    intro j hj
    rw [drop_any_end (by omega)]
    refine Ev.round hn fun k => ?_
    simp only [amalgamref10_Check.l2]
    rw [if_neg (by omega), wrap_nat (by omega)]
  | succ d ih =>
    intro j hj
    have h1 : j < rows[i].length := by omega
    rw [drop_any h1]
    cases hb : badN rows[i][j] with
    | true =>
      refine Ev.round (Ev.now _) fun k => ?_
      simp only [amalgamref10_Check.l2]
      rw [if_pos (by omega), if_pos (by omega), if_pos (by omega), if_pos (by omega), rdL_lt hi, if_pos (by omega), rd_lt h1]
      by_cases h2 : rows[i][j] < 0
      · rw [if_pos h2]; simp
      · rw [if_neg h2, if_pos (by simp only [badN, Bool.or_eq_true, decide_eq_true_eq] at hb; omega)]; simp
    | false =>
      simp only [badN, Bool.or_eq_false_iff, decide_eq_false_iff_not] at hb
      refine Ev.round (Ev.cast (ih (j + 1) (by omega)) (by simp)) fun k => ?_
      simp only [amalgamref10_Check.l2]
      rw [if_pos (by omega), if_pos (by omega), if_pos (by omega), if_pos (by omega), rdL_lt hi, if_pos (by omega), rd_lt h1, if_neg hb.1, if_neg hb.2, wrap_nat (by omega)]
theorem check_l1 (rows : List (List Int)) (want : List Int) (hw : want.length ≤ 10) (hi' : rows.length ≤ 16) :
    ∀ d i : Nat, i + d = rows.length → Ev (fun k => amalgamref10_Check.l1 k rows want (i : Int)) (if (rows.drop i).any (badR want) then 103 else 0) := by
  intro d
  induction d with
  | zero =>
    intro i hi
    rw [drop_any_end (by omega)]
    refine Ev.round (Ev.now _) fun k => ?_
    simp only [amalgamref10_Check.l1]
    rw [if_neg (by omega)]; simp
  | succ d ih =>
    intro i hi
    have h1 : i < rows.length := by omega
    rw [drop_any h1]
    by_cases he : rows[i].length = want.length
    · have h2 := check_l2 rows want hw i h1 hi' he _ (ih (i + 1) (by omega)) want.length 0 (by omega)
      refine Ev.round (Ev.cast h2 ?_) fun k => ?_
      · simp only [badR, List.drop_zero, he, ne_eq, not_true, decide_false, Bool.false_or]
        cases rows[i].any badN <;> simp
      · simp only [amalgamref10_Check.l1]
        rw [if_pos (by omega), if_pos (by omega), rdL_lt h1, if_pos (by omega)]; rfl
    · refine Ev.round (Ev.now _) fun k => ?_
      simp only [amalgamref10_Check.l1]
      rw [if_pos (by omega), if_pos (by omega), rdL_lt h1, if_neg (by omega)]
      simp [badR, he]
theorem check_l0 (rows : List (List Int)) (want : List Int) (hw : want.length ≤ 10) (hi' : rows.length ≤ 16) :
    ∀ d i : Nat, i + d = want.length → Ev (fun k => amalgamref10_Check.l0 k rows want (i : Int)) (if (want.drop i).any badW then 102 else if rows.any (badR want) then 103 else 0) := by
  intro d
  induction d with
  | zero =>
    intro i hi
    rw [drop_any_end (by omega)]
    refine Ev.round (Ev.cast (check_l1 rows want hw hi' rows.length 0 (by omega)) (by simp)) fun k => ?_
    simp only [amalgamref10_Check.l0]
    rw [if_neg (by omega)]; rfl
  | succ d ih =>
    intro i hi
    have h1 : i < want.length := by omega
    rw [drop_any h1]
    cases hb : badW want[i] with
    | true =>
      refine Ev.round (Ev.now _) fun k => ?_
      simp only [amalgamref10_Check.l0]
      rw [if_pos (by omega), if_pos (by omega), rd_lt h1]
      by_cases h2 : want[i] < 0
      · rw [if_pos h2]; simp
      · rw [if_neg h2, if_pos (by simp only [badW, Bool.or_eq_true, decide_eq_true_eq] at hb; omega)]; simp
    | false =>
      simp only [badW, Bool.or_eq_false_iff, decide_eq_false_iff_not] at hb
      refine Ev.round (Ev.cast (ih (i + 1) (by omega)) (by simp)) fun k => ?_
      simp only [amalgamref10_Check.l0]
      rw [if_pos (by omega), if_pos (by omega), rd_lt h1, if_neg hb.1, if_neg hb.2, wrap_nat (by omega)]
theorem check_ev (rows : List (List Int)) (want : List Int) : Ev (fun k => amalgamref10_Check.f k rows want) (chk rows want) := by
  unfold chk
  by_cases h1 : rows.length > 16
  · rw [if_pos h1]
    exact Ev.congr (fun k => by unfold amalgamref10_Check.f; rw [if_pos (by omega)]) (Ev.now _)
  · rw [if_neg h1]
    by_cases h2 : want.length > 10
    · rw [if_pos h2]
      exact Ev.congr (fun k => by unfold amalgamref10_Check.f; rw [if_neg (by omega), if_pos (by omega)]) (Ev.now _)
    · rw [if_neg h2]
      exact Ev.congr (fun k => by unfold amalgamref10_Check.f; rw [if_neg (by omega), if_neg (by omega)]; rfl) (check_l0 rows want (by omega) (by omega) want.length 0 (by omega))
end Go.Proofs.YtbdlihldmmbdmaaDoor.PickSpec

namespace Go.Proofs.YtbdlihldmmbdmaaDoor.PickFn
open Go.RowKit Go.Proofs.YtbdlihldmmbdmaaDoor.SK Go.Proofs.YtbdlihldmmbdmaaDoorW.PrintWords Go.Proofs.YtbdlihldmmbdmaaDoor.Fn Go.Proofs.YtbdlihldmmbdmaaDoor.PickSpec
set_option linter.unusedVariables false

theorem at_row {w : World} {A : Option Addr} {xs : List (List Int)} (h : Kd.C (Kd.slice 3 (Kd.int .i64)) w A xs.length xs) (i : Nat) (hi : i < xs.length) :
    ∃ ad A0 c0, A = some ad ∧ w.cell? (ad.add i) = some (.slice A0 (xs[i]).length c0) ∧ (xs[i]).length ≤ c0 ∧ (Kd.int .i64).C w A0 (xs[i]).length (xs[i]) := by
  obtain ⟨ad, A0, c0, e, h1, h2, h3⟩ := at_L1 h (i : Int) (by omega) (by omega)
  rw [PickSpec.rdL_lt hi] at h1 h2 h3
  exact ⟨ad, A0, c0, e, h1, h2, h3⟩

set_option maxHeartbeats 1000000 in
theorem indexFunc_row (f : FuncId) (cap : Array Value) (A : Option Addr) (c : Nat) (xs : List (List Int)) (w : World) (p : List Int → Bool)
    (hr : Kd.C (Kd.slice 3 (Kd.int .i64)) w A xs.length xs) (he : EntersP f)
    (hp : ∀ x ∈ xs, ∀ A0 c0, (Kd.int .i64).C w A0 x.length x → x.length ≤ c0 → Asks f (#[.slice A0 x.length c0] ++ cap) w (p x)) :
    Calls Tryd.prog 44 #[.slice A xs.length c, .func (.func f) #[] cap] w fun e w' =>
      e = .returned (.int .i64 (idxOf p xs)) ∧ Drawn0 w w' := by
  have HR := Aside0.mk hr
  have HP := Aside0.mk hp
  have HE := Aside0.mk he
  have hmax : xs.length ≤ 9223372036854775807 := Kd.C_max hr
  clear hr hp he
  go_enter Tryd.func44, Tryd.ntmps44
  go_wp2
  go_loopw [8] (fun v8 wr => ∃ k : Nat, k ≤ xs.length ∧ v8 = .int .i64 (k : Int) ∧ Aside0 (∀ j (h : j < xs.length), j < k → p xs[j] = false) ∧ Drawn0 w wr) (fun v8 _ => xs.length - (intOf v8).toNat)
  case atStart => exact ⟨0, Nat.zero_le _, rfl, ⟨fun j _ h => absurd h (Nat.not_lt_zero _)⟩, Drawn0.refl _⟩
  case round =>
    obtain ⟨k, hk, rfl, HF, ⟨m, rfl⟩⟩ := hrel
    by_cases hlt : k < xs.length
    · obtain ⟨ad, A0, c0, e, hx, hc0, hC0⟩ := at_row HR.out k hlt
      cases e
      have HC := Aside0.mk (HP.out xs[k] (List.getElem_mem _) A0 c0 hC0 hc0 m)
      clear hc0 hC0
      obtain ⟨x, hxk⟩ : ∃ x, x = xs[k] := ⟨_, rfl⟩
      rw [← hxk] at HC hx
      have hx' : (w.drewN m).cell? (ad.add k) = some (.slice A0 x.length c0) := by simpa using hx
      have HX := Aside0.mk hxk
      clear hx hxk
      go_wp2_with (fail)
      rw [HE.out, Oper.upon_enter]
      refine HC.out.mono ?_
      rintro e w1 ⟨rfl, ⟨m1, rfl⟩⟩
      cases hb : p x with
      | true =>
        have HB := Aside0.mk hb
        clear hb
        go_wp2
        go_ret
        refine ⟨?_, ⟨m + m1, ?_⟩⟩
        · rw [idxOf_some k hlt HF.out (by rw [← HX.out]; exact HB.out)]; rfl
        · simp
      | false =>
        have HB := Aside0.mk hb
        clear hb
        go_wp2
        go_roundw
        case rel => exact ⟨k + 1, by omega, by go_num, ⟨fun j hj h => (by
            rcases Nat.lt_or_ge j k with h' | h'
            · exact HF.out j hj h'
            · obtain rfl : j = k := by omega
              rw [← HX.out]; exact HB.out)⟩, ⟨m + m1, by simp⟩⟩
        case measure => simp [intOf]; omega
    · go_wp2
      go_ret
      exact ⟨by rw [idxOf_none (fun j hj => HF.out j hj (by omega))]; rfl, ⟨m, rfl⟩⟩

set_option maxHeartbeats 1000000 in
theorem containsFunc_row (f : FuncId) (cap : Array Value) (A : Option Addr) (c : Nat) (xs : List (List Int)) (w : World) (p : List Int → Bool)
    (hr : Kd.C (Kd.slice 3 (Kd.int .i64)) w A xs.length xs) (he : EntersP f)
    (hp : ∀ x ∈ xs, ∀ A0 c0, (Kd.int .i64).C w A0 x.length x → x.length ≤ c0 → Asks f (#[.slice A0 x.length c0] ++ cap) w (p x)) :
    Calls Tryd.prog 39 #[.slice A xs.length c, .func (.func f) #[] cap] w fun e w' =>
      e = .returned (.bool (xs.any p)) ∧ Drawn0 w w' := by
  have HI := Aside0.mk (indexFunc_row f cap A c xs w p hr he hp)
  have HA := Aside0.mk (idxOf_any p xs)
  clear hr hp he
  go_enter Tryd.func39, Tryd.ntmps39
  go_wp2_with (go_at_call 44; refine HI.out.mono ?_; rintro e w' ⟨rfl, ⟨m, rfl⟩⟩)
  go_ret
  exact ⟨by rw [← HA.out]; rfl, ⟨m, rfl⟩⟩

theorem enters35 : EntersP 35 := entersP_of Tryd.func35 rfl ⟨_, rfl⟩
theorem enters36 : EntersP 36 := entersP_of Tryd.func36 rfl ⟨_, rfl⟩
theorem enters38 : EntersP 38 := entersP_of Tryd.func38 rfl ⟨_, rfl⟩

theorem asks35 (x : Int) (w : World) : Asks 35 (#[.int .i64 x] ++ #[]) w (badW x) := by
  intro m
  show Calls Tryd.prog 35 #[.int .i64 x] (w.drewN m) _
  go_enter Tryd.func35, Tryd.ntmps35
  by_cases h : x < 0
  · go_wp2
    go_ret
    exact ⟨by simp [badW, h], Drawn0.refl _⟩
  · go_wp2
    go_ret
    exact ⟨by simp [badW]; omega, Drawn0.refl _⟩
theorem asks38 (x : Int) (w : World) : Asks 38 (#[.int .i64 x] ++ #[]) w (badN x) := by
  intro m
  show Calls Tryd.prog 38 #[.int .i64 x] (w.drewN m) _
  go_enter Tryd.func38, Tryd.ntmps38
  by_cases h : x < 0
  · go_wp2
    go_ret
    exact ⟨by simp [badN, h], Drawn0.refl _⟩
  · go_wp2
    go_ret
    exact ⟨by simp [badN]; omega, Drawn0.refl _⟩

set_option maxHeartbeats 1000000 in
theorem asks36 (want : List Int) (pw : Nat) (A1 : Option Addr) (c1 : Nat) (w : World) (hw : w.cell? ⟨pw, 0, none⟩ = some (.slice A1 want.length c1)) (x : List Int) (A0 : Option Addr) (c0 : Nat)
    (hx : (Kd.int .i64).C w A0 x.length x) (hm : want.length ≤ 9223372036854775807) :
    Asks 36 (#[.slice A0 x.length c0] ++ #[.pointer (some ⟨pw, 0, none⟩)]) w (badR want x) := by
  intro m
  have hm0 := Kd.C_max hx
  have HC := Aside0.mk (containsFunc_int 38 #[] A0 c0 x (w.drewN m) badN (Kd.C_drewN hx m) enters38 (fun y _ => (asks38 y _)))
  have hw' : (w.drewN m).cell? ⟨pw, 0, none⟩ = some (.slice A1 want.length c1) := by simpa using hw
  clear hw hx
  show Calls Tryd.prog 36 #[.slice A0 x.length c0, .pointer (some ⟨pw, 0, none⟩)] (w.drewN m) _
  by_cases h : x.length = want.length
  · have HB : badR want x = x.any badN := by simp [badR, h]
    rw [HB]
    clear HB
    have h1 : ((x.length : Int) != (want.length : Int)) = false := by simp [h]
    have h2 : (x.length != want.length) = false := by simp [h]
    clear h
    go_enter Tryd.func36, Tryd.ntmps36
    go_wp2_with (go_at_call 37; refine HC.out.mono ?_; rintro e w' ⟨rfl, ⟨n, rfl⟩⟩)
    go_ret
    exact ⟨rfl, ⟨n, by simp⟩⟩
  · have HB : badR want x = true := by simp [badR, h]
    rw [HB]
    clear HB
    have h1 : ((x.length : Int) != (want.length : Int)) = true := by simp; omega
    have h2 : (x.length != want.length) = true := by simp [h]
    clear h
    go_enter Tryd.func36, Tryd.ntmps36
    go_wp2
    go_ret
    exact ⟨rfl, Drawn0.refl _⟩
end Go.Proofs.YtbdlihldmmbdmaaDoor.PickFn

namespace Go.Proofs.YtbdlihldmmbdmaaDoor.PickSpec
open Go.RowKit Go.Proofs.YtbdlihldmmbdmaaDoor.SK Go.Proofs.YtbdlihldmmbdmaaDoorW.PrintWords Go.Proofs.YtbdlihldmmbdmaaDoorW.PrintMore Go.Proofs.YtbdlihldmmbdmaaDoor.Plain
set_option linter.unusedVariables false

def addRow (acc row : List Int) : List Int := List.zipWith (fun a b => wrap64 (a + b)) acc row
def addM : List (List Int) → Nat → List Int → List Int
  | [], _, acc => acc
  | row :: rows, m, acc => addM rows (m / 2) (if m % 2 = 1 then addRow acc row else acc)
theorem addRow_length {acc row : List Int} {n : Nat} (h : acc.length = n) (h' : row.length = n) : (addRow acc row).length = n := by simp [addRow, h, h']
theorem addM_zero : ∀ (rows : List (List Int)) (acc : List Int), addM rows 0 acc = acc
  | [], _ => rfl
  | _ :: rows, acc => by simp [addM, addM_zero rows]
theorem addM_shift : ∀ (t : Nat) (rows : List (List Int)) (x : Nat) (acc : List Int), t ≤ rows.length → addM rows (2 ^ t * x) acc = addM (rows.drop t) x acc
  | 0, rows, x, acc, _ => by simp
  | t + 1, [], x, acc, h => by simp at h
  | t + 1, row :: rows, x, acc, h => by
    have h1 : 2 ^ (t + 1) * x % 2 = 0 := by rw [Nat.pow_succ, Nat.mul_comm (2 ^ t), Nat.mul_assoc]; omega
    have h2 : 2 ^ (t + 1) * x / 2 = 2 ^ t * x := by rw [Nat.pow_succ, Nat.mul_comm (2 ^ t), Nat.mul_assoc]; omega
    simp only [addM, h1, h2, List.drop_succ_cons]
    rw [if_neg (by omega)]
    exact addM_shift t rows x acc (by simp at h; omega)
/-- x & (x - 1): the lowest bit is gone. -/
theorem and_pred (k m : Nat) : (2 ^ k * (2 * m + 1)) &&& (2 ^ k * (2 * m + 1) - 1) = 2 ^ k * (2 * m) := by
  have hp : 0 < 2 ^ k := Nat.two_pow_pos k
  have e : 2 ^ k * (2 * m + 1) - 1 = 2 ^ k * (2 * m) + (2 ^ k - 1) := by rw [Nat.mul_add]; omega
  rw [e]
  apply Nat.eq_of_testBit_eq
  intro i
  rw [Nat.testBit_and, Nat.testBit_two_pow_mul_add (2 * m) (by omega : 2 ^ k - 1 < 2 ^ k) i]
  rw [Nat.mul_comm (2 ^ k) (2 * m + 1), Nat.testBit_mul_two_pow, Nat.mul_comm (2 ^ k) (2 * m), Nat.testBit_mul_two_pow]
  by_cases hik : k ≤ i
  · rw [if_neg (by omega)]
    simp only [hik, decide_true, Bool.true_and]
    rcases Nat.eq_zero_or_pos (i - k) with h0 | h0
    · rw [h0]; simp
    · obtain ⟨j, hj⟩ : ∃ j, i - k = j + 1 := ⟨i - k - 1, by omega⟩
      rw [hj, Nat.testBit_succ, Nat.testBit_succ]
      have d1 : (2 * m + 1) / 2 = m := by omega
      have d2 : 2 * m / 2 = m := by omega
      rw [d1, d2, Bool.and_self]
  · simp [hik]
/-- The lowest bit's row, and the others. -/
theorem addM_low (rows : List (List Int)) (m : Nat) (acc : List Int) (h0 : m ≠ 0) (h32 : m < 4294967296) (hm : m < 2 ^ rows.length) :
    ∃ h : Lib.ctz 32 m < rows.length, addM rows m acc = addM rows (m &&& (m - 1)) (addRow acc (rows[Lib.ctz 32 m]'h)) ∧ (m &&& (m - 1)) < m := by
  have hc : Lib.ctz 32 m = Lib.ctzFrom 32 m := by unfold Lib.ctz; rw [if_neg h0]
  obtain ⟨q, hq, _⟩ := Lib.ctzFrom_spec 32 m (by omega) (by omega)
  rw [hc]
  obtain ⟨t, ht⟩ : ∃ t, t = Lib.ctzFrom 32 m := ⟨_, rfl⟩
  rw [← ht] at hq ⊢
  have hp : 0 < 2 ^ t := Nat.two_pow_pos t
  have hlt : t < rows.length := by
    apply Nat.lt_of_not_le
    intro hle
    have : 2 ^ rows.length ≤ 2 ^ t := Nat.pow_le_pow_right (by decide) hle
    have h1 : 2 ^ t ≤ 2 ^ t * (2 * q + 1) := Nat.le_mul_of_pos_right _ (by omega)
    omega
  refine ⟨hlt, ?_, ?_⟩
  · have e : m &&& (m - 1) = 2 ^ t * (2 * q) := by rw [hq]; exact and_pred t q
    rw [e, hq, addM_shift t rows (2 * q + 1) acc (by omega), addM_shift t rows (2 * q) _ (by omega), List.drop_eq_getElem_cons hlt]
    simp only [addM]
    have d1 : (2 * q + 1) / 2 = q := by omega
    have d2 : 2 * q / 2 = q := by omega
    rw [d1, d2, if_pos (by omega), if_neg (by omega)]
  · have e : m &&& (m - 1) = 2 ^ t * (2 * q) := by rw [hq]; exact and_pred t q
    rw [e, hq, Nat.mul_add, Nat.mul_one]; omega
theorem u32_and1 (x : Nat) (h1 : x < 4294967296) : Go.bits .and .u32 (x : Int) 1 = ((x % 2 : Nat) : Int) := by
  have h := bits_and_u32_nat x 1 h1 (by decide)
  rw [show ((1 : Nat) : Int) = 1 from rfl] at h
  rw [h, Nat.and_one_is_mod]
theorem shr_nat (m i : Nat) (hi : i ≤ 32) : shr .u32 (m : Int) (i : Int) = ((m / 2 ^ i : Nat) : Int) := by
  unfold shr
  rw [Int.toNat_natCast, Nat.min_eq_left (show i ≤ IntKind.u32.bits by simpa [IntKind.bits] using hi)]
  simp

theorem add_l1 (rows : List (List Int)) (n : Nat) (mask : Int) (hn : n ≤ 10) (hr16 : rows.length ≤ 16) (i : Nat) (hi : i < rows.length) (hrow : rows[i].length = n) (acc : List Int) (hacc : acc.length = n) (r : List Int)
    (hnx : Ev (fun k => amalgamref10_add.l0 k rows (n : Int) mask (addRow acc rows[i]) ((i + 1 : Nat) : Int)) r) :
    ∀ d j : Nat, j + d = n → Ev (fun k => amalgamref10_add.l1 k rows (n : Int) mask (upTo j (addRow acc rows[i]) acc) (i : Int) (j : Int)) r := by
  have hl := addRow_length hacc hrow
  intro d
  induction d with
  | zero =>
    intro j hj
    rw [upTo_all j _ _ (by omega) (by omega)]
    refine Ev.round hnx fun k => ?_
    simp only [amalgamref10_add.l1]
    rw [if_neg (by omega), wrap_nat (by omega)]
  | succ d ih =>
    intro j hj
    have h1 : j < rows[i].length := by omega
    have h2 : j < acc.length := by omega
    refine Ev.round (ih (j + 1) (by omega)) fun k => ?_
    simp only [amalgamref10_add.l1]
    have hu := upTo_length j (addRow acc rows[i]) acc (by omega)
    rw [if_pos (by omega), if_pos (by omega), if_pos (by omega), if_pos (by omega), if_pos (by omega), rdL_lt hi, if_pos (by omega), wrap_nat (by omega), rd_lt h1, Int.toNat_natCast]
    have hg : rd (upTo j (addRow acc rows[i]) acc) (j : Int) = acc[j] := rd_get? (by rw [upTo_get j _ _ h2 (by omega)]; exact List.getElem?_eq_getElem h2)
    rw [hg, ← upTo_set j (addRow acc rows[i]) acc h2 (by omega)]
    simp [addRow]
theorem add_l0 (rows : List (List Int)) (n m : Nat) (hn : n ≤ 10) (hr16 : rows.length ≤ 16) (hm : m < 4294967296) (hrow : ∀ (i : Nat) (h : i < rows.length), rows[i].length = n) :
    ∀ d i : Nat, ∀ acc : List Int, acc.length = n → i + d = rows.length → Ev (fun k => amalgamref10_add.l0 k rows (n : Int) (m : Int) acc (i : Int)) (addM (rows.drop i) (m / 2 ^ i) acc) := by
  intro d
  induction d with
  | zero =>
    intro i acc hacc hi
    rw [List.drop_eq_nil_of_le (by omega)]
    refine Ev.round (Ev.now _) fun k => ?_
    simp only [amalgamref10_add.l0, addM]
    rw [if_neg (by omega)]
  | succ d ih =>
    intro i acc hacc hi
    have h1 : i < rows.length := by omega
    have hb : Go.bits .and .u32 (shr .u32 (m : Int) (i : Int)) 1 = ((m / 2 ^ i % 2 : Nat) : Int) := by
      rw [shr_nat m i (by omega), u32_and1 _ (Nat.lt_of_le_of_lt (Nat.div_le_self _ _) hm)]
    have hd : m / 2 ^ i / 2 = m / 2 ^ (i + 1) := by rw [Nat.div_div_eq_div_mul, Nat.pow_succ]
    rw [List.drop_eq_getElem_cons h1]
    simp only [addM, hd]
    by_cases hbit : m / 2 ^ i % 2 = 1
    · rw [if_pos hbit]
      have h2 := add_l1 rows n (m : Int) hn hr16 i h1 (hrow i h1) acc hacc _ (ih (i + 1) (addRow acc rows[i]) (addRow_length hacc (hrow i h1)) (by omega)) n 0 (by omega)
      rw [upTo_zero] at h2
      refine Ev.round h2 fun k => ?_
      simp only [amalgamref10_add.l0]
      rw [if_pos (by omega), if_pos (by omega), hb, if_pos (by omega)]; rfl
    · rw [if_neg hbit]
      refine Ev.round (ih (i + 1) acc hacc (by omega)) fun k => ?_
      simp only [amalgamref10_add.l0]
      rw [if_pos (by omega), if_pos (by omega), hb, if_neg (by omega), wrap_nat (by omega)]
theorem add_ev (rows : List (List Int)) (n m : Nat) (hn : n ≤ 10) (hr16 : rows.length ≤ 16) (hm : m < 4294967296) (hrow : ∀ (i : Nat) (h : i < rows.length), rows[i].length = n) :
    Ev (fun k => amalgamref10_add.f k rows (n : Int) (m : Int)) (addM rows m (List.replicate n 0)) := by
  have h := add_l0 rows n m hn hr16 hm hrow rows.length 0 (List.replicate n 0) (by simp) (by omega)
  refine Ev.cast (Ev.congr (fun k => ?_) h) (by simp)
  unfold amalgamref10_add.f
  rw [if_pos (by omega), if_pos (by rw [Int.toNat_natCast]; omega), Int.toNat_natCast]; rfl
/-- What a right Check says. -/
theorem chk_zero {rows : List (List Int)} {want : List Int} (h : chk rows want = 0) : rows.length ≤ 16 ∧ want.length ≤ 10 ∧ (∀ w ∈ want, 0 ≤ w ∧ w ≤ 2) ∧ ∀ row ∈ rows, row.length = want.length ∧ ∀ n ∈ row, 0 ≤ n ∧ n ≤ 1048576 := by
  unfold chk at h
  split at h
  · simp at h
  rename_i h1
  split at h
  · simp at h
  rename_i h2
  split at h
  · simp at h
  rename_i h3
  split at h
  · simp at h
  rename_i h4
  refine ⟨by omega, by omega, fun w hw => ?_, fun row hrow => ?_⟩
  · have := List.any_eq_false.1 (by simpa using h3) w hw
    simp [badW] at this
    omega
  · have := List.any_eq_false.1 (by simpa using h4) row hrow
    simp only [badR, Bool.or_eq_true, decide_eq_true_eq, not_or] at this
    refine ⟨by omega, fun n hn => ?_⟩
    have h5 := List.any_eq_false.1 (by simpa using this.2) n hn
    simp [badN] at h5
    omega
end Go.Proofs.YtbdlihldmmbdmaaDoor.PickSpec

namespace Go.Proofs.YtbdlihldmmbdmaaDoor.PickTotal
open Go.RowKit Go.Proofs.YtbdlihldmmbdmaaDoor.SK Go.Proofs.YtbdlihldmmbdmaaDoorW.PrintWords Go.Proofs.YtbdlihldmmbdmaaDoorW.PrintMore Go.Proofs.YtbdlihldmmbdmaaDoor.PickSpec Go.Proofs.YtbdlihldmmbdmaaDoor.PickFn Go.Proofs.YtbdlihldmmbdmaaDoor.Bits Go.Proofs.YtbdlihldmmbdmaaDoor.Plain
set_option linter.unusedVariables false

set_option maxHeartbeats 2000000 in
theorem total_any (A0 : Option Addr) (c0 : Nat) (rows : List (List Int)) (n m : Nat) (w : World) (hr : Kd.C (Kd.slice 3 (Kd.int .i64)) w A0 rows.length rows) (hn : n ≤ 10) (hr16 : rows.length ≤ 16)
    (hrow : ∀ (i : Nat) (h : i < rows.length), rows[i].length = n) (hm : m < 2 ^ rows.length) (hT : TabW w) :
    Calls Tryd.prog 34 #[.slice A0 rows.length c0, .int .i64 n, .int .u32 m] w fun e w' => ∃ v, e = .returned v ∧ Kd.R (Kd.int .i64) 3 w' w.heap.size (fun _ => True) v (addM rows m (List.replicate n 0)) ∧ Below w.heap.size w w' := by
  have h32 : m < 4294967296 := Nat.lt_of_lt_of_le hm (Nat.pow_le_pow_right (by decide) (show rows.length ≤ 32 by omega))
  have hmk := print_make (P := Tryd.prog) 23 3 .i64 8 Tryd.underlying23 Clone.info_int (by decide) n (by omega)
  have HR := Aside0.mk hr
  have HT := Aside0.mk hT
  have HROW := Aside0.mk hrow
  have HM := Aside0.mk hm
  clear hr hT hrow hm
  go_enter Tryd.func34, Tryd.ntmps34
  go_wp2
  have HO := Aside0.mk (Kd.R_of_own (enc := Value.int .i64) (h1 := fun _ => rfl) (ok := fun _ => True) (xs := List.replicate n (0 : Int)) (by have h := own_made w w.heap.size 3 .i64 n (Nat.le_refl _) (by omega); simpa [nums, encs] using h) (fun _ _ => trivial))
  have HB := Aside0.mk ((Below.refl w.heap.size w).alloc (Nat.le_refl _) (.cells (madeCells #[.int .i64 0] n) 3))
  clear hmk
  go_loopw [2] (fun v2 wr => ∃ (mm : Nat) (acc : List Int), v2 = .int .u32 (mm : Int) ∧ mm < 4294967296 ∧ Aside0 (mm < 2 ^ rows.length) ∧ Aside0 (acc.length = n) ∧ Aside0 (addM rows mm acc = addM rows m (List.replicate n 0)) ∧ Aside0 (Kd.R (Kd.int .i64) 3 wr w.heap.size (fun _ => True) (.slice (some ⟨w.heap.size, 0, none⟩) n n) acc) ∧ Aside0 (Below w.heap.size w wr)) (fun v2 _ => (intOf v2).toNat)
  case atStart => exact ⟨m, List.replicate n 0, rfl, h32, HM, ⟨by simp⟩, ⟨rfl⟩, HO, HB⟩
  case round =>
    clear HO HB
    obtain ⟨mm, acc, rfl, hm32, HMM, HL, HE, HO, HB⟩ := hrel
    by_cases h0 : mm = 0
    · have hz : ((mm : Int) != 0) = false := by simp [h0]
      have HE2 := Aside0.mk (show acc = addM rows m (List.replicate n 0) by rw [← HE.out, h0, addM_zero])
      clear HE h0
      go_wp2
      go_ret
      exact ⟨_, rfl, by rw [← HE2.out]; exact HO.out, HB.out⟩
    · obtain ⟨hlt, hadd, hless⟩ := addM_low rows mm acc h0 hm32 HMM.out
      have hz : ((mm : Int) != 0) = true := by simp [h0]
      have HZ := Aside0.mk (tz32 mm hm32 h0 wr (HT.out.below HB.out))
      obtain ⟨t, ht⟩ : ∃ t, t = Lib.ctz 32 mm := ⟨_, rfl⟩
      have hlt' : t < rows.length := by rw [ht]; exact hlt
      have hadd' : addM rows (mm &&& (mm - 1)) (addRow acc (rows[t]'hlt')) = addM rows m (List.replicate n 0) := by rw [← HE.out, hadd]; simp only [ht]
      rw [← ht] at HZ
      clear hadd hlt ht HE
      obtain ⟨ad, A1, c1, e1, hx0, hc1, hC1⟩ := at_row HR.out t hlt'
      have hx := pw_cell_below HB.out hx0
      clear hx0
      cases e1
      obtain ⟨row, hrowe⟩ : ∃ x, x = rows[t]'hlt' := ⟨_, rfl⟩
      have hrl : row.length = n := by rw [hrowe]; exact HROW.out t hlt'
      rw [← hrowe] at hx hc1 hC1 hadd'
      have HC1 := Aside0.mk hC1
      have HA := Aside0.mk hadd'
      have HLE := Aside0.mk hless
      have hx' : wr.cell? (ad.add t) = some (.slice A1 n c1) := by rw [← hrl]; exact hx
      have HRL := Aside0.mk hrl
      clear hrowe hadd' hless hC1 hc1 h0 hx hrl
      go_wp2_with (go_at_call 42; refine HZ.out.mono ?_; rintro e w2 ⟨rfl, rfl⟩)
      clear HZ hx'
      go_loopw [24] (fun v24 wr => ∃ j : Nat, v24 = .int .i64 (j : Int) ∧ j ≤ n ∧ Aside0 (Kd.R (Kd.int .i64) 3 wr w.heap.size (fun _ => True) (.slice (some ⟨w.heap.size, 0, none⟩) n n) (upTo j (addRow acc row) acc)) ∧ Aside0 (Below w.heap.size w wr)) (fun v24 _ => n - (intOf v24).toNat)
      case atStart => exact ⟨0, rfl, Nat.zero_le _, ⟨by rw [upTo_zero]; exact HO.out⟩, HB⟩
      case round =>
        clear HO HB
        obtain ⟨j, rfl, hj, HO, HB⟩ := hrel
        by_cases hjn : j < n
        · have hl := HL.out
          have hjr : j < row.length := by rw [HRL.out]; exact hjn
          have hja : j < acc.length := by rw [hl]; exact hjn
          have hla : (addRow acc row).length = acc.length := by rw [addRow_length hl HRL.out, hl]
          obtain ⟨ad2, e2, hy0⟩ := Kd.at_int (Kd.C_below HC1.out HB.out) (j : Int) (by omega) (by omega)
          rw [rd_lt hjr] at hy0
          cases e2
          have hlu : (upTo j (addRow acc row) acc).length = n := by rw [upTo_length j _ _ hla, hl]
          have hg : rd (upTo j (addRow acc row) acc) (j : Int) = acc[j] := rd_get? (by rw [upTo_get j _ _ hja hla]; exact List.getElem?_eq_getElem hja)
          have HO2 := HO.out
          rw [← hlu] at HO2
          obtain ⟨hz1, hz2⟩ := Kd.R_cell (enc := Value.int .i64) (0 : Int) HO2 (j : Int) (by omega) (by omega)
          obtain ⟨hp1, hp2⟩ := Kd.R_put (enc := Value.int .i64) HO2 (j : Int) (wrap64 (acc[j] + row[j]))
          have hset : (upTo j (addRow acc row) acc).set j (wrap64 (acc[j] + row[j])) = upTo (j + 1) (addRow acc row) acc := by
            rw [← upTo_set j (addRow acc row) acc hja hla]; simp [addRow]
          rw [hlu, Int.toNat_natCast, hset] at hp1
          rw [Int.toNat_natCast] at hp2 hz1 hz2
          obtain ⟨a, ha⟩ : ∃ x, x = acc[j] := ⟨_, rfl⟩
          obtain ⟨b, hb⟩ : ∃ x, x = row[j] := ⟨_, rfl⟩
          have hz1' : wr.cell? ⟨w.heap.size, j, none⟩ = some (.int .i64 a) := by rw [ha]; exact hz1.trans (by rw [← hg]; rfl)
          have hy1 : wr.cell? (ad2.add j) = some (.int .i64 b) := by rw [hb]; exact hy0
          rw [← ha, ← hb] at hp1 hp2
          have HP1 := Aside0.mk hp1
          have HP2 := Aside0.mk hp2
          clear hp1 hp2 hz1 hy0 hset hg hlu HO2 hla hja hjr hl ha hb HO
          go_wp2
          exact ⟨⟨j + 1, by go_num, by omega, HP1, ⟨HB.out.setCell (p := ⟨w.heap.size, j, none⟩) (Nat.le_refl _) _⟩⟩, by simp only [intOf]; omega⟩
        · have HE2 := Aside0.mk (show upTo j (addRow acc row) acc = addRow acc row from upTo_all j _ _ (by have := addRow_length HL.out HRL.out; omega) (by have := HL.out; omega))
          have hand : Go.bits BinOp.and IntKind.u32 (mm : Int) (((mm : Int) - 1) % 4294967296) = ((mm &&& (mm - 1) : Nat) : Int) := by
            have h1 : ((mm : Int) - 1) % 4294967296 = ((mm - 1 : Nat) : Int) := by
              have : mm ≠ 0 := by rintro rfl; simp at hz
              omega
            rw [h1, bits_and_u32_nat mm (mm - 1) hm32 (by omega)]
          have HAND := Aside0.mk hand
          clear hand
          go_wp2
          refine ⟨⟨mm &&& (mm - 1), addRow acc row, by rw [HAND.out], Nat.lt_trans HLE.out hm32, ⟨Nat.lt_trans HLE.out HMM.out⟩, ⟨addRow_length HL.out HRL.out⟩, HA, ⟨by rw [← HE2.out]; exact HO.out⟩, HB⟩, ?_⟩
          have := HLE.out
          rw [HAND.out]
          simp only [intOf]
          omega
end Go.Proofs.YtbdlihldmmbdmaaDoor.PickTotal

namespace Go.Proofs.YtbdlihldmmbdmaaDoor.Range
open Go Go.RowKit
set_option linter.unusedVariables false

/-- B is what A turned into: blocks of S, and new ones, alone have been touched. -/
structure Only (S : Nat → Prop) (A B : World) : Prop where
  os : B.os = A.os
  tape : B.tape = A.tape
  output : B.output = A.output
  size : A.heap.size ≤ B.heap.size
  block : ∀ k, k < A.heap.size → ¬ S k → B.heap[k]? = A.heap[k]?
theorem Only.refl (S : Nat → Prop) (A : World) : Only S A A := ⟨rfl, rfl, rfl, Nat.le_refl _, fun _ _ _ => rfl⟩
theorem Only.trans {S : Nat → Prop} {A B C : World} (h : Only S A B) (k : Only S B C) : Only S A C :=
  ⟨k.os.trans h.os, k.tape.trans h.tape, k.output.trans h.output, Nat.le_trans h.size k.size, fun i hi hs => (k.block i (Nat.lt_of_lt_of_le hi h.size) hs).trans (h.block i hi hs)⟩
theorem Only.mono {S T : Nat → Prop} {A B : World} (h : Only S A B) (hs : ∀ k, k < A.heap.size → S k → T k) : Only T A B :=
  ⟨h.os, h.tape, h.output, h.size, fun i hi ht => h.block i hi (fun e => ht (hs i hi e))⟩
theorem Only.of_below {S : Nat → Prop} {A B : World} (h : Below A.heap.size A B) : Only S A B := ⟨h.os, h.tape, h.output, h.size, fun i hi _ => h.block i hi⟩
theorem Only.below {S : Nat → Prop} {A B : World} {n : Nat} (h : Only S A B) (hn : n ≤ A.heap.size) (hs : ∀ k, S k → n ≤ k) : Below n A B :=
  ⟨h.os, h.tape, h.output, h.size, fun i hi => h.block i (by omega) (fun e => by have := hs i e; omega)⟩
theorem Only.putObj {S : Nat → Prop} (A : World) (l : Nat) (o : Obj) (h : S l) : Only S A (A.putObj l o) :=
  ⟨rfl, rfl, rfl, by simp, fun i hi hs => World.putObj_heap_other (fun e => hs (e ▸ h))⟩
theorem Only.alloc {S : Nat → Prop} {A B : World} (h : Only S A B) (o : Obj) : Only S A (B.alloc o) :=
  h.trans (Only.of_below ((Below.refl _ B).alloc (Nat.le_refl _) o))
theorem Only.setCell {S : Nat → Prop} {A B : World} (h : Only S A B) (a : Addr) (v : Value) (hs : S a.block ∨ A.heap.size ≤ a.block) : Only S A (B.setCell a v) :=
  ⟨h.os, h.tape, h.output, Nat.le_trans h.size (by show _ ≤ (B.heap.modify _ _).size; rw [Array.size_modify]; exact Nat.le_refl _), fun i hi hn => by
    refine (Below.heap_setCell B a v i (fun e => ?_)).trans (h.block i hi hn)
    subst e
    rcases hs with hs | hs
    · exact hn hs
    · omega⟩

/-- What a caller says between two rounds, while the iterator's own blocks are O: it doesn't mind what the iterator does with its own blocks, nor with new ones. -/
def Stable {β : Type} (J : (Nat → Prop) → β → World → Prop) : Prop :=
  ∀ (O O' : Nat → Prop) (s : β) (A B : World), J O s A → Only O A B → (∀ k, O k → O' k) → (∀ k, O' k → O k ∨ (A.heap.size ≤ k ∧ k < B.heap.size)) → J O' s B

variable {F : Fence} {n : Nat} {P : Program} {α : Type}

/-- AN ITERATOR's CONTRACT. Kc: the blocks that it reads between two rounds. Rep W ok x vs: the values vs tell x at W, in blocks of ok. -/
def IterC (F : Fence) (n : Nat) (P : Program) (g : Nat) (lb : Array Value) (Kc : Nat → Prop) (Rep : World → (Nat → Prop) → α → Array Value → Prop) (S Sp : List α → Prop) (N : Nat) (w : World) : Prop :=
  ∀ (l : Nat) (J Jx : (Nat → Prop) → List α → World → Prop) (W : World), Only (fun k => ¬ Kc k) w W → Stable J → Stable Jx →
    (∀ (O : Nat → Prop) pre x vs W0 W1, (∀ k, O k → W.heap.size ≤ k ∧ k < W0.heap.size) → J O pre W0 → Only O W0 W1 → Rep W1 (fun k => W0.heap.size ≤ k) x vs → pre.length < N →
      YieldAt F (n - 1) P l vs W1 fun e W' =>
        (e = .returned (.bool true) ∧ J O (pre ++ [x]) W' ∧ Only (fun k => ¬ (Kc k ∨ O k)) W1 W') ∨ (e = .returned (.bool false) ∧ Jx O (pre ++ [x]) W')) →
    J (fun _ => False) [] W →
    CallsIn F n P g (#[.func (.yield l) #[] #[]] ++ lb) W fun e W' => (∃ v, e = .returned v) ∧ ∃ O : Nat → Prop, (∀ k, O k → W.heap.size ≤ k) ∧ ((∃ xs, S xs ∧ J O xs W') ∨ (∃ pre, Sp pre ∧ Jx O pre W'))
theorem IterC.inRound {g : Nat} {lb : Array Value} {Kc : Nat → Prop} {Rep : World → (Nat → Prop) → α → Array Value → Prop} {S Sp : List α → Prop} {N : Nat} {w : World} (l : Nat)
    (h : IterC F n P g lb Kc Rep S Sp N w) : IterC (F.inRound l) n P g lb Kc Rep S Sp N w := h

/-- How a round's body may be left. -/
def bodyOut (Kc O : Nat → Prop) (I : (Nat → Prop) → List α → World → Prop) (Ix : Code → (Nat → Prop) → List α → World → Prop) (xs : List α) (W : World) : Exit → Act → World → Prop
  | .normal, _, W' => Only (fun k => ¬ (Kc k ∨ O k)) W W' ∧ I O xs W'
  | .ret, _, W' => Only (fun k => ¬ O k) W W' ∧ Ix .ret O xs W'
  | .exit id, _, W' => Only (fun k => ¬ O k) W W' ∧ Ix (.exit id) O xs W'
  | .goto t, _, W' => Only (fun k => ¬ O k) W W' ∧ Ix (.goto t) O xs W'
  | .panic _, _, _ => False
  | .outgrown, _, _ => False

theorem keeps_of {S : Nat → Prop} {A B : World} {k : Nat} {o : Obj} (h : Only S A B) (hs : ¬ S k) (hk : A.heap[k]? = some o) : B.heap[k]? = some o :=
  (h.block k (Array.getElem?_eq_some_iff.1 hk).1 hs).trans hk

/-- THE STATEMENT's LAW, at an outermost loop. -/
theorem wp_range {g : Operand} {ps : Array Tmp} {assign body : Code} {Q : Exit → Act → World → Prop} {a : Act} {w : World}
    (hro : F.round = none) (h1 : 1 ≤ n) {gf : Nat} {lb : Array Value} (hg : a.eval g = .func (.func gf) #[] lb) (hFg : F.fn gf) (eg : ∀ args w, (callFunc gf args).run P w = .ok (.enter gf args) w)
    {Kc : Nat → Prop} (hKc : ∀ k, Kc k → k < w.heap.size) {Rep : World → (Nat → Prop) → α → Array Value → Prop}
    (hRep : ∀ {A B : World} {ok : Nat → Prop} {x vs}, Rep A ok x vs → (∀ k, ok k → k < A.heap.size → B.heap[k]? = A.heap[k]?) → Rep B ok x vs)
    (hRs : ∀ {A : World} {ok : Nat → Prop} {x vs}, Rep A ok x vs → vs.size = ps.size)
    {S Sp : List α → Prop} {N : Nat} (hseq : IterC F (n - 1) P gf lb Kc Rep S Sp N w)
    (I : (Nat → Prop) → List α → World → Prop) (Ix : Code → (Nat → Prop) → List α → World → Prop) (hI : Stable I) (hIx : ∀ c, Stable (Ix c)) (h0 : I (fun _ => False) [] w) (a₁ : Array Value → Act)
    (hassign : ∀ (l : Nat) (vs : Array Value) (W : World) (K : Act → World → Prop), vs.size = ps.size → K (a₁ vs) W →
      assign.wpIn (F.inRound l) (n - 1 - 1) P (Exit.then K (fun _ _ _ => False)) { tmps := (ps.zip vs).foldl (fun t (p, v) => t.setIfInBounds p v) a.tmps, defers := [] } W)
    (hbody : ∀ (l : Nat) (O : Nat → Prop) (pre : List α) (x : α) (vs : Array Value) (W0 W1 : World), w.heap.size ≤ l → (∃ r, W1.heap[l]? = some (.loop r)) → (∀ k, O k → w.heap.size ≤ k ∧ k < W0.heap.size) → I O pre W0 → Only O W0 W1 →
      Rep W1 (fun k => W0.heap.size ≤ k) x vs → pre.length < N → body.wpIn (F.inRound l) (n - 1 - 1) P (bodyOut Kc O I Ix (pre ++ [x]) W1) (a₁ vs) W1)
    (hdone : ∀ (D : Nat) (O : Nat → Prop) (xs : List α) (W : World), w.heap.size ≤ D → S xs → I O xs W → W.heap[D]? = some (.deferred (some [])) → O D → Q .normal { a with defers := { target := .collected D, args := #[] } :: a.defers } W)
    (hstop : ∀ (D : Nat) (O : Nat → Prop) (c : Code) (pre : List α) (W : World), w.heap.size ≤ D → Sp pre → Ix c O pre W → W.heap[D]? = some (.deferred (some [])) → O D → c.wpIn F n P Q { a with defers := { target := .collected D, args := #[] } :: a.defers } W) :
    (Code.rangeFunc g ps assign body).wpIn F n P Q a w := by
  refine wpIn_rangeFunc ?_
  intro fn hfn
  rw [hro]
  obtain ⟨rec, hrec⟩ : ∃ rec : LoopState → Option Code → Loop, rec = fun st pe => { state := st, pending := pe, fn, tmps := a.tmps, params := ps, assign, body, defers := w.heap.size } := ⟨_, rfl⟩
  obtain ⟨W1, hW1⟩ : ∃ W1, (w.alloc (.deferred (some []))).alloc (.loop (rec .ready none)) = W1 := ⟨_, rfl⟩
  obtain ⟨B0, hB0⟩ : ∃ B0 : Nat → Prop, B0 = fun k => k = w.heap.size ∨ k = w.heap.size + 1 := ⟨_, rfl⟩
  have hs1 : W1.heap.size = w.heap.size + 2 := by rw [← hW1]; simp
  have hL1 : W1.heap[w.heap.size + 1]? = some (.loop (rec .ready none)) := by
    rw [← hW1]; have := World.alloc_heap_new (w.alloc (.deferred (some []))) (.loop (rec .ready none)); rwa [World.size_alloc] at this
  have hK1 : W1.heap[w.heap.size]? = some (.deferred (some [])) := by
    rw [← hW1]; exact (Below.heap_alloc _ _ _ (by simp)).trans (World.alloc_heap_new w _)
  have hb1 : Below w.heap.size w W1 := by
    rw [← hW1]; exact ((Below.refl _ w).alloc (Nat.le_refl _) _).alloc (by simp) _
  have hI1 : I B0 [] W1 := hI _ B0 [] w W1 h0 (Only.of_below hb1) (fun k e => e.elim) (fun k e => .inr (by rw [hB0] at e; rw [hs1]; rcases e with e | e <;> omega))
  refine ⟨w.heap.size + 1, [{ target := .collected w.heap.size, args := #[] }], W1, { target := .fn (.func gf) lb, args := #[.func (.yield (w.heap.size + 1)) #[] #[]] }, W1, gf,
    #[.func (.yield (w.heap.size + 1)) #[] #[]] ++ lb, W1, ?_, ?_, ?_, ?_, fun _ => h1, ?_⟩
  · rw [← hW1, hrec]; exact run_enterLoop_outer _ _ _ _ _
  · simp only [resolve, hg]
    simp [go_sem]
  · intro f' hf'; simp [Target.leads] at hf'; subst hf'; exact hFg
  · simp [invoke, go_sem, eg]
  · -- the iterator's contract, at the caller's word with the two blocks of book-keeping beside it
    have hst : ∀ {J : (Nat → Prop) → List α → World → Prop}, Stable J → Stable (fun O pre W => J (fun k => O k ∨ B0 k) pre W) := by
      intro J hJ O O' s A B hj ho hle hnew
      exact hJ _ _ s A B hj (ho.mono (fun k _ e => .inl e)) (fun k e => e.elim (fun e => .inl (hle k e)) .inr) (fun k e => by
        rcases e with e | e
        · rcases hnew k e with h | h
          · exact .inl (.inl h)
          · exact .inr h
        · exact .inl (.inr e))
    refine (hseq (w.heap.size + 1)
      (fun O pre W => (I (fun k => O k ∨ B0 k) pre W ∧ (∀ k, O k → W1.heap.size ≤ k) ∧ W1.heap.size ≤ W.heap.size) ∧ W.heap[w.heap.size + 1]? = some (.loop (rec .ready none)) ∧ W.heap[w.heap.size]? = some (.deferred (some [])))
      (fun O pre W => (∃ c, Ix c (fun k => O k ∨ B0 k) pre W ∧ W.heap[w.heap.size + 1]? = some (.loop (rec .done (some c)))) ∧ (∀ k, O k → W1.heap.size ≤ k) ∧ W1.heap.size ≤ W.heap.size ∧ W.heap[w.heap.size]? = some (.deferred (some [])))
      W1 (Only.of_below hb1) ?_ ?_ ?_ ⟨⟨?_, fun k e => e.elim, Nat.le_refl _⟩, hL1, hK1⟩).mono ?_
    · rintro O O' s A B ⟨⟨hj, hO, hsz⟩, hl, hk⟩ ho hle hnew
      have hn : ∀ k, k < W1.heap.size → ¬ O k := fun k hk e => by have := hO k e; omega
      refine ⟨⟨hst hI _ _ s A B hj ho hle hnew, fun k e => ?_, Nat.le_trans hsz ho.size⟩, keeps_of ho (hn _ (by omega)) hl, keeps_of ho (hn _ (by omega)) hk⟩
      rcases hnew k e with h | h
      · exact hO k h
      · omega
    · rintro O O' s A B ⟨⟨c, hj, hl⟩, hO, hsz, hk⟩ ho hle hnew
      have hn : ∀ k, k < W1.heap.size → ¬ O k := fun k hk e => by have := hO k e; omega
      refine ⟨⟨c, hst (hIx c) _ _ s A B hj ho hle hnew, keeps_of ho (hn _ (by omega)) hl⟩, fun k e => ?_, Nat.le_trans hsz ho.size, keeps_of ho (hn _ (by omega)) hk⟩
      rcases hnew k e with h | h
      · exact hO k h
      · omega
    · -- ONE ROUND
      rintro O pre x vs Wa W hOW ⟨⟨hi, hO, hsz⟩, hl, hk⟩ ho hrep hlen
      have hn : ∀ k, k < W1.heap.size → ¬ O k := fun k hk e => by have := hO k e; omega
      replace hl := keeps_of ho (hn _ (by omega)) hl
      replace hk := keeps_of ho (hn _ (by omega)) hk
      have hlt : w.heap.size + 1 < W.heap.size := (Array.getElem?_eq_some_iff.1 hl).1
      have hvs := hRs hrep
      have hy := run_yield (P := P) (args := vs) hl (by rw [hrec]; exact hvs)
      rw [hrec] at hy
      refine ⟨fn, _, assign, body, hy, roundIn_of_wpIn hfn (hassign _ vs W _ hvs ⟨_, run_beginRound hl (by rw [hrec]), ?_⟩)⟩
      have hl2 : (W.putObj (w.heap.size + 1) (.loop { rec .ready none with state := .busy })).heap[w.heap.size + 1]? = some (.loop { rec .ready none with state := .busy }) := World.putObj_heap_same hlt
      have hk2 : (W.putObj (w.heap.size + 1) (.loop { rec .ready none with state := .busy })).heap[w.heap.size]? = some (.deferred (some [])) := (World.putObj_heap_other (by omega)).trans hk
      have hB1 : (fun k => O k ∨ B0 k) (w.heap.size + 1) := .inr (by rw [hB0]; exact .inr rfl)
      have hB2 : (fun k => O k ∨ B0 k) w.heap.size := .inr (by rw [hB0]; exact .inl rfl)
      have ho2 : Only (fun k => O k ∨ B0 k) Wa (W.putObj (w.heap.size + 1) (.loop { rec .ready none with state := .busy })) :=
        (ho.mono (fun k _ e => .inl e)).trans (Only.putObj _ _ _ hB1)
      have hrep2 : Rep (W.putObj (w.heap.size + 1) (.loop { rec .ready none with state := .busy })) (fun k => Wa.heap.size ≤ k) x vs :=
        hRep hrep (fun k hok hlt2 => World.putObj_heap_other (by omega))
      refine wpIn_mono (hbody _ (fun k => O k ∨ B0 k) pre x vs Wa _ (by omega) ⟨_, hl2⟩ (fun k e => ?_) hi ho2 hrep2 hlen) ?_
      · rcases e with e | e
        · have := hOW k e; omega
        · rw [hB0] at e; rcases e with e | e <;> omega
      have fin : ∀ (jump : Option Code) (W3 : World) (T : Nat → Prop), ¬ T (w.heap.size + 1) → ¬ T w.heap.size → Only T (W.putObj (w.heap.size + 1) (.loop { rec .ready none with state := .busy })) W3 →
          (Instr.endRound (w.heap.size + 1) jump).run P W3 = .ok (.bool jump.isNone) (W3.putObj (w.heap.size + 1) (.loop (rec (if jump.isNone then .ready else .done) jump))) ∧
          W3.heap.size ≤ (W3.putObj (w.heap.size + 1) (.loop (rec (if jump.isNone then .ready else .done) jump))).heap.size ∧ W1.heap.size ≤ W3.heap.size ∧
          (W3.putObj (w.heap.size + 1) (.loop (rec (if jump.isNone then .ready else .done) jump))).heap[w.heap.size + 1]? = some (.loop (rec (if jump.isNone then .ready else .done) jump)) ∧
          (W3.putObj (w.heap.size + 1) (.loop (rec (if jump.isNone then .ready else .done) jump))).heap[w.heap.size]? = some (.deferred (some [])) := fun jump W3 T h1 h2 hk3 => by
        have hl3 := keeps_of hk3 h1 hl2
        have := run_endRound (P := P) jump hl3
        rw [hrec] at this ⊢
        refine ⟨this, by simp, ?_, World.putObj_heap_same (Array.getElem?_eq_some_iff.1 hl3).1, (World.putObj_heap_other (by omega)).trans (keeps_of hk3 h2 hk2)⟩
        have h4 := hk3.size
        have h5 := ho.size
        simp at h4
        omega
      have hput : ∀ {K : (Nat → Prop) → List α → World → Prop} {s : List α} {W3 : World} (o : Obj), Stable K → K (fun k => O k ∨ B0 k) s W3 → K (fun k => O k ∨ B0 k) s (W3.putObj (w.heap.size + 1) o) :=
        fun o hK hk => hK _ _ _ _ _ hk (Only.putObj _ _ _ hB1) (fun _ e => e) (fun _ e => .inl e)
      have no : ∀ {X : Prop}, ¬ ¬ (X ∨ (O (w.heap.size + 1) ∨ B0 (w.heap.size + 1))) := fun h => h (.inr hB1)
      rintro e a3 W3 hp
      cases e with
      | normal =>
        obtain ⟨hk3, hi3⟩ := hp
        obtain ⟨hr, _, hz, hl4, hk4⟩ := fin none W3 _ (fun h => h (.inr hB1)) (fun h => h (.inr hB2)) hk3
        refine ⟨_, _, hr, .inl ⟨rfl, ⟨⟨hput _ hI hi3, hO, by simpa using hz⟩, hl4, hk4⟩, ?_⟩⟩
        have q1 : Only (fun k => ¬ (Kc k ∨ O k)) W (W.putObj (w.heap.size + 1) (.loop { rec .ready none with state := .busy })) :=
          Only.putObj _ _ _ (fun h => by
            rcases h with h | h
            · have := hKc _ h; omega
            · exact hn _ (by omega) h)
        have q3 : Only (fun k => ¬ (Kc k ∨ O k)) W3 (W3.putObj (w.heap.size + 1) (.loop (rec .ready none))) :=
          Only.putObj _ _ _ (fun h => by
            rcases h with h | h
            · have := hKc _ h; omega
            · exact hn _ (by omega) h)
        exact (q1.trans (hk3.mono (fun k _ e h => e (h.imp id .inl)))).trans q3
      | ret =>
        obtain ⟨hk3, hi3⟩ := hp
        obtain ⟨hr, _, hz, hl4, hk4⟩ := fin (some .ret) W3 _ (fun h => h hB1) (fun h => h hB2) hk3
        exact ⟨_, _, hr, .inr ⟨rfl, ⟨.ret, hput _ (hIx _) hi3, hl4⟩, hO, by simpa using hz, hk4⟩⟩
      | exit id =>
        obtain ⟨hk3, hi3⟩ := hp
        obtain ⟨hr, _, hz, hl4, hk4⟩ := fin (some (.exit id)) W3 _ (fun h => h hB1) (fun h => h hB2) hk3
        exact ⟨_, _, hr, .inr ⟨rfl, ⟨.exit id, hput _ (hIx _) hi3, hl4⟩, hO, by simpa using hz, hk4⟩⟩
      | goto t =>
        obtain ⟨hk3, hi3⟩ := hp
        obtain ⟨hr, _, hz, hl4, hk4⟩ := fin (some (.goto t)) W3 _ (fun h => h hB1) (fun h => h hB2) hk3
        exact ⟨_, _, hr, .inr ⟨rfl, ⟨.goto t, hput _ (hIx _) hi3, hl4⟩, hO, by simpa using hz, hk4⟩⟩
      | panic ch => exact hp.elim
      | outgrown => exact hp.elim
    · exact hI _ _ _ _ _ hI1 (Only.refl _ _) (fun k e => .inr e) (fun k e => e.elim (fun e => e.elim) .inl)
    · -- BEHIND THE ITERATOR
      rintro e W2 ⟨⟨v, rfl⟩, O, hOW, (⟨xs, hS, ⟨hi, hO, hsz⟩, hl, hk⟩ | ⟨pre, hSp, ⟨c, hi, hl⟩, hO, hsz, hk⟩)⟩
      · have hB1 : (fun k => O k ∨ B0 k) (w.heap.size + 1) := .inr (by rw [hB0]; exact .inr rfl)
        have hB2 : (fun k => O k ∨ B0 k) w.heap.size := .inr (by rw [hB0]; exact .inl rfl)
        exact ⟨none, _, by have := run_endLoop (P := P) hl (by rw [hrec]; simp); rw [hrec] at this; exact this, hdone _ _ xs _ (Nat.le_refl _) hS (hI _ _ _ _ _ hi (Only.putObj _ _ _ hB1) (fun _ e => e) (fun _ e => .inl e)) ((World.putObj_heap_other (by omega)).trans hk) hB2⟩
      · have hB1 : (fun k => O k ∨ B0 k) (w.heap.size + 1) := .inr (by rw [hB0]; exact .inr rfl)
        have hB2 : (fun k => O k ∨ B0 k) w.heap.size := .inr (by rw [hB0]; exact .inl rfl)
        exact ⟨some c, _, by have := run_endLoop (P := P) hl (by rw [hrec]; simp); rw [hrec] at this; exact this, hstop _ _ c pre _ (Nat.le_refl _) hSp ((hIx c) _ _ _ _ _ hi (Only.putObj _ _ _ hB1) (fun _ e => e) (fun _ e => .inl e)) ((World.putObj_heap_other (by omega)).trans hk) hB2⟩
end Go.Proofs.YtbdlihldmmbdmaaDoor.Range

namespace Go.Proofs.YtbdlihldmmbdmaaDoor.Spoil
open Go.RowKit Go.Proofs.YtbdlihldmmbdmaaDoorW.PrintWords Go.Proofs.YtbdlihldmmbdmaaDoorW.PrintMore Go.Proofs.YtbdlihldmmbdmaaDoor.Plain Go.Proofs.YtbdlihldmmbdmaaDoor.Full Go.Proofs.YtbdlihldmmbdmaaDoor.Range
set_option linter.unusedVariables false

/-- A slice of whole numbers whose cells are all there, up to the capacity, in a block from base on; or nil. -/
def RowIn (W : World) (S : Nat → Prop) (u : Value) : Prop :=
  u = .slice none 0 0 ∨ ∃ b n c cs, u = .slice (some ⟨b, 0, none⟩) n c ∧ n ≤ c ∧ c ≤ maxLen ∧ S b ∧ W.heap[b]? = some (.cells cs 3 (0, 0)) ∧ cs.size = c
structure Spoils (W : World) (S : Nat → Prop) (g : Nat) (vals : List Value) : Prop where
  blk : W.heap[g]? = some (.cells vals.toArray 23 (0, 0))
  max : vals.length ≤ maxLen
  rows : ∀ u ∈ vals, RowIn W S u
theorem Spoils.set {W : World} {S : Nat → Prop} {g : Nat} {vals : List Value} (h : Spoils W S g vals) {b : Nat} {cs : Array Value} (hb : W.heap[b]? = some (.cells cs 3 (0, 0))) (k : Nat) (x : Value) : Spoils (W.setCell ⟨b, k, none⟩ x) S g vals := by
  have hne : g ≠ b := fun e => by
    have := h.blk
    rw [e, hb] at this
    simp at this
  refine ⟨(Below.heap_setCell W ⟨b, k, none⟩ x g hne).trans h.blk, h.max, fun u hu => ?_⟩
  rcases h.rows u hu with h1 | ⟨b2, n, c, cs2, rfl, h1, h2, h3, h4, h5⟩
  · exact .inl h1
  · by_cases hbb : b2 = b
    · subst hbb
      rw [hb] at h4
      have : cs = cs2 := by simpa using h4
      subst this
      exact .inr ⟨b2, n, c, _, rfl, h1, h2, h3, heap_setCell_same W b2 k cs _ x hb, by simpa using h5⟩
    · exact .inr ⟨b2, n, c, cs2, rfl, h1, h2, h3, (Below.heap_setCell W ⟨b, k, none⟩ x b2 hbb).trans h4, h5⟩

theorem spoil_nil (w : World) : Calls Tryd.prog 15 #[.slice none 0 0] w fun e w' => (∃ v, e = .returned v) ∧ w' = w := by
  go_enter Tryd.func15, Tryd.ntmps15
  go_wp2
  go_loopw [2] (fun v2 wr => v2 = .int .i64 0 ∧ wr = w) (fun _ _ => 0)
  case atStart => exact ⟨rfl, rfl⟩
  case round =>
    obtain ⟨rfl, rfl⟩ := hrel
    go_wp2
    go_end0
    exact ⟨⟨_, rfl⟩, rfl⟩

set_option maxHeartbeats 4000000 in
theorem spoil_any (S : Nat → Prop) (g n : Nat) (vals : List Value) (w : World) (H : Spoils w S g vals) (hn : n ≤ vals.length) :
    Calls Tryd.prog 15 #[.slice (some ⟨g, 0, none⟩) n vals.length] w fun e w' => (∃ v, e = .returned v) ∧ Only S w w' := by
  have HS := Aside0.mk H
  have hmax := H.max
  simp only [maxLen] at hmax
  clear H
  go_enter Tryd.func15, Tryd.ntmps15
  go_wp2
  go_loopw [2] (fun v2 wr => ∃ i : Nat, v2 = .int .i64 (i : Int) ∧ i ≤ vals.length ∧ Aside0 (Spoils wr S g vals) ∧ Aside0 (Only S w wr)) (fun v2 _ => vals.length - (intOf v2).toNat)
  case atStart => exact ⟨0, rfl, Nat.zero_le _, HS, ⟨Only.refl _ _⟩⟩
  case round =>
    clear HS
    obtain ⟨i, rfl, hi, HS, HO⟩ := hrel
    by_cases hin : i < vals.length
    · obtain ⟨u, hu⟩ : ∃ u, u = vals[i] := ⟨_, rfl⟩
      have hmem : u ∈ vals := by rw [hu]; exact List.getElem_mem hin
      have hget : ∀ W, Spoils W S g vals → W.cell? ⟨g, i, none⟩ = some u := fun W h => by rw [cell_at h.blk, List.getElem?_toArray, List.getElem?_eq_getElem hin, hu]
      have hcell := hget wr HS.out
      have HG := Aside0.mk hget
      have hrow := HS.out.rows u hmem
      have HM := Aside0.mk hmem
      clear hu hget hmem
      rcases hrow with rfl | ⟨b, m, c, cs, rfl, h1, h2, h3, h4, h5⟩
      · go_wp2
        go_loopw [3] (fun v3 wr2 => v3 = .int .i64 0 ∧ wr2 = wr) (fun _ _ => 0)
        case atStart => exact ⟨rfl, rfl⟩
        case round =>
          obtain ⟨rfl, rfl⟩ := hrel
          go_wp2
          exact ⟨⟨i + 1, by go_num, by omega, HS, HO⟩, by simp only [intOf]; omega⟩
      · have hc9 : c ≤ 9223372036854775807 := by simp only [maxLen] at h2; omega
        clear h2
        go_wp2
        go_loopw [3] (fun v3 wr2 => ∃ k : Nat, v3 = .int .i64 (k : Int) ∧ k ≤ c ∧ Aside0 (Spoils wr2 S g vals) ∧ Aside0 (Only S w wr2) ∧ Aside0 (∃ cs2, wr2.heap[b]? = some (.cells cs2 3 (0, 0)) ∧ cs2.size = c)) (fun v3 _ => c - (intOf v3).toNat)
        case atStart => exact ⟨0, rfl, Nat.zero_le _, HS, HO, ⟨cs, h4, h5⟩⟩
        case round =>
          clear HS HO h4 h5 hcell
          obtain ⟨k, rfl, hk, HS, HO, HB⟩ := hrel
          have hcell := HG.out _ HS.out
          by_cases hkc : k < c
          · obtain ⟨cs2, h4, h5⟩ := HB.out
            have hz1 : wr.cell? ⟨b, k, none⟩ = some cs2[k] := by rw [cell_at h4, Array.getElem?_eq_getElem (by omega)]
            obtain ⟨x, hx⟩ : ∃ x, x = cs2[k] := ⟨_, rfl⟩
            rw [← hx] at hz1
            have hz2 : wr.frozen? ⟨b, k, none⟩ = false := free_at h4 k
            have HS2 := Aside0.mk (HS.out.set h4 k (.int .i64 (-7)))
            have HO2 := Aside0.mk (HO.out.setCell ⟨b, k, none⟩ (.int .i64 (-7)) (.inl h3))
            have HB2 := Aside0.mk (show ∃ cs3, (wr.setCell ⟨b, k, none⟩ (.int .i64 (-7))).heap[b]? = some (.cells cs3 3 (0, 0)) ∧ cs3.size = c from ⟨_, heap_setCell_same wr b k cs2 _ _ h4, by simpa using h5⟩)
            clear HS HO HB h4 h5 hx
            go_wp2_with (fail)
            go_region
            have HS3 := Aside0.mk (show Spoils (wr.setCell ⟨b, k, none⟩ (.int .i64 (-7))).drew S g vals from ⟨HS2.out.blk, HS2.out.max, HS2.out.rows⟩)
            have HO3 := Aside0.mk (HO2.out.trans (Only.of_below (below_drew (Below.refl _ _))))
            go_wp2
            exact ⟨⟨k + 1, by go_num, by omega, HS3, HO3, HB2⟩, by simp only [intOf]; omega⟩
          · go_wp2
            exact ⟨⟨i + 1, by go_num, by omega, HS, HO⟩, by simp only [intOf]; omega⟩
    · go_wp2
      go_end0
      exact ⟨⟨_, rfl⟩, HO.out⟩
end Go.Proofs.YtbdlihldmmbdmaaDoor.Spoil

namespace Go.Proofs.YtbdlihldmmbdmaaDoor.Lent
open Go.RowKit Go.Proofs.YtbdlihldmmbdmaaDoorW.PrintWords Go.Proofs.YtbdlihldmmbdmaaDoorW.PrintMore Go.Proofs.YtbdlihldmmbdmaaDoor.Plain Go.Proofs.YtbdlihldmmbdmaaDoor.PickSpec Go.Proofs.YtbdlihldmmbdmaaDoor.PickFn Go.Proofs.YtbdlihldmmbdmaaDoor.Full Go.Proofs.YtbdlihldmmbdmaaDoor.Range Go.Proofs.YtbdlihldmmbdmaaDoor.Spoil
set_option linter.unusedVariables false

theorem make_cap {P : Program} (t e : TypeId) (z : Value) (bytes : Nat) (ht : P.underlying t = some (.slice e)) (hinfo : (P.info? e).map (fun i => (i.zero, i.size, i.bytes)) = some (some z, 1, bytes)) (hz1 : z.cells = #[z])
    (n : Nat) (hbytes : bytes * n ≤ 281474976710656) (h63 : n ≤ 9223372036854775807) (w : World) :
    (Instr.makeSlice t (.int .i64 0) (.int .i64 (n : Int))).run P w = .ok (.slice (some ⟨w.heap.size, 0, none⟩) 0 n) (w.alloc (.cells (madeCells #[z] n) e)) := by
  obtain ⟨i, hi, hzz⟩ := Option.map_eq_some_iff.1 hinfo
  simp only [Prod.mk.injEq] at hzz
  obtain ⟨hz, hs, hb⟩ := hzz
  have hb' : (i.bytes : Int) * (n : Int) ≤ 281474976710656 := by
    rw [hb]
    have h : ((bytes * n : Nat) : Int) ≤ 281474976710656 := by omega
    rwa [Int.natCast_mul] at h
  have hr := run_make (P := P) w t e i z ht hi hz .i64 .i64 0 n (by omega) (by omega) hb' (by omega)
  simp only [Int.toNat_natCast, Int.toNat_zero, hs, Nat.mul_one, hz1] at hr
  exact hr

theorem Only.setCells {S : Nat → Prop} (b : Nat) (hb : S b) : ∀ (vs : List Value) (o : Nat) (A : World), Only S A (A.setCells b o vs)
  | [], _, A => Only.refl _ _
  | v :: vs, o, A => ((Only.refl S A).setCell ⟨b, o, none⟩ v (.inl hb)).trans (Only.setCells b hb vs (o + 1) _)
theorem heap_setCells (b : Nat) (e : TypeId) : ∀ (vs : List Value) (o : Nat) (A : World) (cs : List Value), A.heap[b]? = some (.cells cs.toArray e (0, 0)) → o + vs.length ≤ cs.length → (A.setCells b o vs).heap[b]? = some (.cells (cs.take o ++ vs ++ cs.drop (o + vs.length)).toArray e (0, 0))
  | [], o, A, cs, h, _ => by simpa [World.setCells] using h
  | v :: vs, o, A, cs, h, hl => by
    have h1 := heap_setCell_same A b o cs.toArray e v h
    rw [List.setIfInBounds_toArray] at h1
    have h2 := heap_setCells b e vs (o + 1) (A.setCell ⟨b, o, none⟩ v) (cs.set o v) h1 (by simp at hl ⊢; omega)
    simp only [World.setCells]
    rw [h2]
    simp only [List.length_cons] at hl
    congr 2
    apply congrArg List.toArray
    rw [List.take_set, List.drop_set_of_lt (by omega), List.take_succ_eq_append_getElem (by omega), List.set_append_right _ _ (by simp; omega)]
    simp [Nat.min_eq_left (show o ≤ cs.length by omega), Nat.add_assoc, Nat.add_comm 1]
/-- append within the capacity, whatever the source (nil, too), as one step of a region that draws. -/
theorem step_append_at {P : Program} {ops : Array Oper} {o : Oper} {a : Act} {w : World} {K : Act → World → Prop} {Q : Exit → Act → World → Prop} {E : Prop}
    (hg : o.guard = none) (s x : Operand) (t : TypeId) (hop : o.op = Op.call { callee := Callee.builtin Builtin.append, args := #[s, x], argTypes := #[t, t] })
    (e : TypeId) (z : Value) (bytes : Nat) (h1 : P.underlying t = some (.slice e)) (hinfo : (P.info? e).map (fun i => (i.zero, i.size, i.bytes)) = some (some z, 1, bytes))
    (b n cap : Nat) (cs : List Value) (hs : a.eval s = .slice (some ⟨b, 0, none⟩) n cap) (hb : w.heap[b]? = some (.cells cs.toArray e (0, 0))) (hcs : cs.length = cap) (hcap : cap ≤ maxLen)
    (A : Option Addr) (m c : Nat) (news : List Value) (hx : a.eval x = .slice A m c) (hn : news.length = m) (hA : A = none → m = 0) (hc : ∀ ad, A = some ad → ∀ j u, news[j]? = some u → w.cell? (ad.add j) = some u) (h1c : ∀ u ∈ news, u.oneCell' = true)
    (n' : Nat) (hn' : n + m = n') (hroom : n + m ≤ cap) (hK : ∀ W', Only (fun k => k = b) w W' → W'.heap[b]? = some (.cells (cs.take n ++ news ++ cs.drop (n + m)).toArray e (0, 0)) → K (a.put o.dst (.slice (some ⟨b, 0, none⟩) n' cap)) W') :
    if Region.wanted o (yielded ops a.tmps) = true then Oper.wp P o a w K Q else E := by
  obtain ⟨i, hi, hzz⟩ := Option.map_eq_some_iff.1 hinfo
  simp only [Prod.mk.injEq] at hzz
  obtain ⟨hz, hsz, hby⟩ := hzz
  subst hn'
  replace hK := hK (w.setCells b n news) (Only.setCells (S := fun k => k = b) b rfl news n w) (by rw [← hn]; exact heap_setCells b e news n w cs hb (by omega))
  cases A with
  | some ad =>
    refine step_append_room hg s x t hop e i 1 h1 hi hsz b 0 n cap hs ad m c news hx (by omega) (hc ad rfl) h1c hroom (fun j hj => ⟨?_, free_at hb _⟩) (by simpa using hK)
    rw [cell_at hb]
    have : 0 + n * 1 + j < cs.toArray.size := by simp; omega
    rw [Array.getElem?_eq_getElem this]; rfl
  | none =>
    obtain rfl := hA rfl
    have hnews : news = [] := List.eq_nil_of_length_eq_zero hn
    subst hnews
    have hw : Region.wanted o (yielded ops a.tmps) = true := by simp [Region.wanted, hg]
    rw [if_pos hw]
    have hnc : n ≤ cap := by omega
    have hrun : (Builtin.append_ #[t, t] o.type #[.slice (some ⟨b, 0, none⟩) n cap, .slice none 0 c]).run P w = .ok (.slice (some ⟨b, 0, none⟩) n cap) w := by
      simp [Builtin.append_, run_underlying h1, sizeOf, typeInfo, hi, Builtin.lenOf, hnc, run_firstCells_none, storeCells]
    have hK2 : K (a.put o.dst (.slice (some ⟨b, 0, none⟩) n cap)) w := by simpa [World.setCells] using hK
    unfold Oper.wp
    simp [execOp, hop, resolve, invoke, builtin, hs, hx, hrun, Result.andThen]
    exact hK2

theorem made_new (W : World) (z : Value) (n : Nat) (e : TypeId) : (W.alloc (.cells (madeCells #[z] n) e)).heap[W.heap.size]? = some (.cells (List.replicate n z).toArray e (0, 0)) := by
  rw [World.alloc_heap_new]
  congr 2
  apply Array.ext'
  rw [toList_madeCells_one]
theorem alloc_old (W : World) (o : Obj) (k : Nat) (h : k < W.heap.size) : (W.alloc o).heap[k]? = W.heap[k]? := (below_alloc (Below.refl _ W) o).block k h
theorem src_cells {W : World} {A : Option Addr} {n : Nat} {xs : List Int} (h : (Kd.int .i64).C W A n xs) : ∀ ad, A = some ad → ∀ j u, (xs.map (Value.int .i64))[j]? = some u → W.cell? (ad.add j) = some u := by
  rintro ad rfl j u hj
  rw [List.getElem?_map] at hj
  obtain ⟨x, hx, rfl⟩ := Option.map_eq_some_iff.1 hj
  have hl := (List.getElem?_eq_some_iff.1 hx).1
  have hn := Kd.C_len h
  obtain ⟨ad', e, hc⟩ := (Kd.reads_of_C (enc := Value.int .i64) (d := (0 : Int)) (h1 := fun _ => rfl) h).2.2 (by omega)
  cases e
  have := hc j (by omega)
  rwa [List.getD_eq_getElem?_getD, hx] at this
theorem src_none {W : World} {A : Option Addr} {n : Nat} {xs : List Int} (h : (Kd.int .i64).C W A n xs) (e : A = none) : n = 0 :=
  Nat.eq_zero_of_not_pos (fun hp => by obtain ⟨ad', e', _⟩ := h.2.2 hp; rw [e] at e'; cases e')
theorem cell_keep {S : Nat → Prop} {A B : World} {a : Addr} {v : Value} (h : Only S A B) (hs : ¬ S a.block) (hc : A.cell? a = some v) : B.cell? a = some v :=
  (World.cell?_of_block (a := a) (h.block a.block (World.block_lt_of_cell? A a hc) hs)).trans hc
/-- A row's slice, and a mark behind it in its block. -/
def Marked (W : World) (base : Nat) (u : Value) (xs : List Int) : Prop :=
  ∃ b, u = .slice (some ⟨b, 0, none⟩) xs.length (xs.length + 1) ∧ base ≤ b ∧ W.heap[b]? = some (.cells ((xs ++ [77]).map (Value.int .i64)).toArray 3 (0, 0))
structure LentTo (W : World) (base g n : Nat) (rows : List (List Int)) (i : Nat) (vals : List Value) : Prop where
  blk : W.heap[g]? = some (.cells (vals ++ List.replicate (n + 1 - i) (Value.slice none 0 0)).toArray 23 (0, 0))
  len : vals.length = i
  rows_ : ∀ (j : Nat) (xs : List Int) (u : Value), rows[j]? = some xs → vals[j]? = some u → Marked W base u xs

theorem lit_cells {W : World} {L : Nat} {v : Value} {e : TypeId} (h : W.heap[L]? = some (.cells #[v] e (0, 0))) : ∀ ad, some (⟨L, 0, none⟩ : Addr) = some ad → ∀ j u, [v][j]? = some u → W.cell? (ad.add j) = some u := by
  intro ad e1 j u hj
  cases e1
  cases j with
  | zero =>
    have : v = u := by simpa using hj
    subst this
    rw [Addr.add_lit]
    exact cell_of_one h
  | succ j => simp at hj
theorem LentTo.step {W W7 : World} {base g n : Nat} {rows : List (List Int)} {i : Nat} {vals : List Value} {row : List Int} {B : Nat} {cs : List Value} (h : LentTo W base g n rows i vals) (hi : i ≤ n) (hrow : rows[i]? = some row) (hO : Only (fun k => k = g ∨ W.heap.size ≤ k) W W7) (hg : base ≤ g) (hs : base ≤ W.heap.size)
    (hB : W.heap.size ≤ B) (hb : W7.heap[B]? = some (.cells cs.toArray 3 (0, 0))) (hcs : cs = row.map (Value.int .i64) ++ [.int .i64 77])
    (hW : W7.heap[g]? = some (.cells (List.take i (vals ++ List.replicate (n + 1 - i) (Value.slice none 0 0)) ++ [Value.slice (some ⟨B, 0, none⟩) row.length (row.length + 1)] ++ List.drop (i + 1) (vals ++ List.replicate (n + 1 - i) (Value.slice none 0 0))).toArray 23 (0, 0))) :
    LentTo W7 base g n rows (i + 1) (vals ++ [Value.slice (some ⟨B, 0, none⟩) row.length (row.length + 1)]) := by
  have hl := h.len
  refine ⟨?_, by simp [hl], fun j xs u hj hu => ?_⟩
  · rw [hW]
    congr 2
    apply congrArg List.toArray
    have e1 : List.take i (vals ++ List.replicate (n + 1 - i) (Value.slice none 0 0)) = vals := by rw [← hl]; simp
    have e2 : List.drop (i + 1) (vals ++ List.replicate (n + 1 - i) (Value.slice none 0 0)) = List.replicate (n + 1 - (i + 1)) (Value.slice none 0 0) := by
      rw [List.drop_append, List.drop_eq_nil_of_le (by omega), hl]
      simp; omega
    rw [e1, e2]
  · by_cases hji : j < i
    · rw [List.getElem?_append_left (by omega)] at hu
      obtain ⟨b, e, h1, h2⟩ := h.rows_ j xs u hj hu
      have hlt : b < W.heap.size := (Array.getElem?_eq_some_iff.1 h2).1
      by_cases hbg : b = g
      · rw [hbg, h.blk] at h2
        exfalso
        simp at h2
      · exact ⟨b, e, h1, (hO.block b hlt (by omega)).trans h2⟩
    · have hji2 : j = i := by
        have := (List.getElem?_eq_some_iff.1 hu).1
        simp at this
        omega
      subst hji2
      rw [List.getElem?_append_right (by omega), hl, Nat.sub_self] at hu
      have hu2 : Value.slice (some ⟨B, 0, none⟩) row.length (row.length + 1) = u := by simpa using hu
      have hx2 : row = xs := by rw [hrow] at hj; simpa using hj
      subst hu2 hx2
      exact ⟨B, rfl, by omega, by rw [hb, hcs]; simp⟩
/-- What lent answers: the rows, each with a mark behind it, and one more row with a mark alone behind them all. -/
def Lent (W : World) (base g : Nat) (rows : List (List Int)) : Prop :=
  ∃ (vals : List Value) (m : Nat), W.heap[g]? = some (.cells (vals ++ [Value.slice (some ⟨m, 0, none⟩) 1 1]).toArray 23 (0, 0)) ∧ vals.length = rows.length ∧ base ≤ g ∧ base ≤ m ∧ W.heap[m]? = some (.cells #[.int .i64 77] 3 (0, 0)) ∧
    ∀ (j : Nat) (xs : List Int) (u : Value), rows[j]? = some xs → vals[j]? = some u → Marked W base u xs

theorem info_row : (Tryd.prog.info? 23).map (fun i => (i.zero, i.size, i.bytes)) = some (some (.slice none 0 0), 1, 24) := by kernel_rfl
set_option maxHeartbeats 4000000 in
theorem lent_any (A0 : Option Addr) (c0 : Nat) (rows : List (List Int)) (w : World) (hr : Kd.C (Kd.slice 3 (Kd.int .i64)) w A0 rows.length rows) (hn : rows.length ≤ 1048576) (hl : ∀ row ∈ rows, row.length ≤ 1048576) :
    Calls Tryd.prog 9 #[.slice A0 rows.length c0] w fun e w' => e = .returned (.slice (some ⟨w.heap.size, 0, none⟩) rows.length (rows.length + 1)) ∧ Lent w' w.heap.size w.heap.size rows ∧ Below w.heap.size w w' := by
  have HR := Aside0.mk hr
  have HL := Aside0.mk hl
  have hmk := make_cap (P := Tryd.prog) 22 23 (.slice none 0 0) 24 Tryd.underlying22 info_row rfl (rows.length + 1) (by omega) (by omega)
  rw [show ((rows.length + 1 : Nat) : Int) = (rows.length : Int) + 1 by omega] at hmk
  clear hr hl
  go_enter Tryd.func9, Tryd.ntmps9
  go_wp2
  go_loopw [3, 4] (fun v3 v4 wr => ∃ (i : Nat) (vals : List Value), v4 = .int .i64 (i : Int) ∧ i ≤ rows.length ∧ v3 = .slice (some ⟨w.heap.size, 0, none⟩) i (rows.length + 1) ∧ Aside0 (LentTo wr w.heap.size w.heap.size rows.length rows i vals) ∧ Aside0 (Below w.heap.size w wr) ∧ w.heap.size < wr.heap.size) (fun _ v4 _ => rows.length - (intOf v4).toNat)
  case atStart =>
    refine ⟨0, [], rfl, Nat.zero_le _, rfl, ⟨⟨?_, rfl, fun j xs u _ hu => by simp at hu⟩⟩, ⟨below_alloc (Below.refl _ _) _⟩, by simp⟩
    rw [made_new]
    simp
  case round =>
    obtain ⟨i, vals, rfl, hi, rfl, HLT, HB, hgs⟩ := hrel
    by_cases hin : i < rows.length
    · obtain ⟨ad, A1, c1, e, hx, hc1, hC1⟩ := at_row (Kd.C_below HR.out HB.out) i hin
      obtain ⟨ad', A1', c1', e', hx', _, _⟩ := at_row HR.out i hin
      obtain rfl := e.symm.trans e' |> Option.some.inj
      cases e
      obtain ⟨row, hrow⟩ : ∃ row, row = rows[i] := ⟨_, rfl⟩
      rw [← hrow] at hx hc1 hC1
      have hxi : wr.cell? (ad.add i) = some (.slice A1 row.length c1) := hx
      have hblk : (ad.add i).block < w.heap.size := World.block_lt_of_cell? w _ hx'
      have hlen : row.length ≤ 1048576 := by rw [hrow]; exact HL.out _ (List.getElem_mem _)
      have HC := Aside0.mk hC1
      clear hx hC1 hmk hx' e'
      go_wp2_with (fail)
      have hmk2 := make_cap (P := Tryd.prog) 23 3 (.int .i64 0) 8 Tryd.underlying23 Clone.info_int rfl (row.length + 1) (by omega) (by omega)
      have hwrap : IntKind.i64.wrap ((row.length : Int) + 1) = ((row.length + 1 : Nat) : Int) := by rw [IntKind.wrap_i64]; omega
      rw [← hwrap] at hmk2
      have HROW := Aside0.mk hrow
      have hb0 : (0 : Int) ≤ (row.length : Int) := by omega
      have hb1 : (row.length : Int) ≤ (row.length : Int) + 1 := by omega
      have hb2 : (row.length : Int) ≤ ((row.length + 1 : Nat) : Int) := by omega
      have hnew := World.new_ne wr (ad.add i) hxi
      clear hrow hwrap
      go_region_held3 (fun W => W.cell? (ad.add i) = some (.slice A1 row.length c1)) (first | assumption | go_keep) (first
        | (refine step_append_at rfl (.tmp 22) (.tmp 26) 23 rfl 3 (.int .i64 0) 8 rfl Clone.info_int _ 0 (row.length + 1) (List.replicate (row.length + 1) (.int .i64 0)) rfl ?x1 ?x2 ?x3 A1 row.length c1 (row.map (Value.int .i64)) rfl ?x4 ?x5 ?x6 ?x7 row.length ?x8 ?x9 ?_; (case x1 => first | exact made_new _ _ _ _ | exact (alloc_old _ _ _ (by simp)).trans (made_new _ _ _ _) | exact (by have h := made_new (wr.alloc (.cells #[.int .i64 77] 3)) (.int .i64 0) (row.length + 1) 3; rwa [World.size_alloc] at h)); (case x2 => simp); (case x3 => simp only [maxLen]; omega); (case x4 => simp); (case x5 => exact src_none HC.out); (case x6 => exact src_cells (Kd.C_below HC.out (by repeat (first | exact Below.refl _ _ | apply below_alloc | apply below_drew)))); (case x7 => intro u hu; obtain ⟨y, _, rfl⟩ := List.mem_map.1 hu; rfl); (case x8 => omega); (case x9 => omega); intro W5 hW5 hW5b; simp only [List.take_zero, List.nil_append, Nat.zero_add, List.drop_replicate, Nat.add_sub_cancel_left, List.replicate_one] at hW5b; have HO5 : Aside0 (Only (fun k => wr.heap.size ≤ k) wr W5) := ?o5; (case o5 => exact ⟨(Only.of_below (by repeat (first | exact Below.refl _ _ | apply below_alloc | apply below_drew))).trans (hW5.mono (fun k _ e => by have e2 : k = _ := e; omega))⟩); have hx5 : W5.cell? (ad.add i) = some (.slice A1 row.length c1) := cell_keep HO5.out (by omega) hxi)
        | (refine step_append_at rfl (.tmp 27) (.tmp 28) 23 rfl 3 (.int .i64 0) 8 rfl Clone.info_int _ row.length (row.length + 1) (row.map (Value.int .i64) ++ [.int .i64 0]) rfl ?x1 ?x2 ?x3 _ 1 1 [.int .i64 77] rfl ?x4 ?x5 ?x6 ?x7 (row.length + 1) ?x8 ?x9 ?_; (case x1 => first | exact hW5b | exact (alloc_old _ _ _ (Array.getElem?_eq_some_iff.1 hW5b).1).trans hW5b); (case x2 => simp); (case x3 => simp only [maxLen]; omega); (case x4 => rfl); (case x5 => intro h; cases h); (case x6 => first | exact lit_cells (heap_alloc_new W5 _) | exact lit_cells (keeps_of hW5 (by simp) ((alloc_old _ _ _ (by simp)).trans (heap_alloc_new wr _))) | exact lit_cells (keeps_of hW5 (by simp) (by have h := heap_alloc_new (wr.alloc (.cells (madeCells #[.int .i64 0] (row.length + 1)) 3)) (.cells #[.int .i64 77] 3); rwa [World.size_alloc] at h))); (case x7 => intro u hu; rw [List.mem_singleton.1 hu]; rfl); (case x8 => rfl); (case x9 => omega); intro W6 hW6 hW6b; have HO6 : Aside0 (Only (fun k => wr.heap.size ≤ k) wr W6) := ?o6; (case o6 => exact ⟨(HO5.out.trans (Only.of_below (by repeat (first | exact Below.refl _ _ | apply below_alloc | apply below_drew)))).trans (hW6.mono (fun k _ e => by have e2 : k = _ := e; omega))⟩); have hx6 : W6.cell? (ad.add i) = some (.slice A1 row.length c1) := cell_keep HO6.out (by omega) hxi)
        | (refine step_append_at rfl (.tmp 15) (.tmp 36) 22 rfl 23 (.slice none 0 0) 24 rfl info_row _ i (rows.length + 1) (vals ++ List.replicate (rows.length + 1 - i) (.slice none 0 0)) rfl ?x1 ?x2 ?x3 _ 1 1 [.slice (some ⟨wr.heap.size, 0, none⟩) row.length (row.length + 1)] rfl ?x4 ?x5 ?x6 ?x7 (i + 1) ?x8 ?x9 ?_; (case x1 => exact (alloc_old _ _ _ (Nat.lt_of_lt_of_le hgs HO6.out.size)).trans ((HO6.out.block _ hgs (by omega)).trans HLT.out.blk)); (case x2 => simp [HLT.out.len]; omega); (case x3 => simp only [maxLen]; omega); (case x4 => rfl); (case x5 => intro h; cases h); (case x6 => exact lit_cells (heap_alloc_new W6 _)); (case x7 => intro u hu; rw [List.mem_singleton.1 hu]; rfl); (case x8 => rfl); (case x9 => omega); intro W7 hW7 hW7b; have HO7 : Aside0 (Only (fun k => k = w.heap.size ∨ wr.heap.size ≤ k) wr W7) := ?o7; (case o7 => exact ⟨((HO6.out.mono (fun k _ e => .inr e)).trans (Only.of_below (by repeat (first | exact Below.refl _ _ | apply below_alloc | apply below_drew)))).trans (hW7.mono (fun k _ e => .inl e))⟩); have hx7 : W7.cell? (ad.add i) = some (.slice A1 row.length c1) := cell_keep HO7.out (by omega) hxi)
        | (refine step_append_at rfl (.tmp 15) (.tmp 36) 22 rfl 23 (.slice none 0 0) 24 rfl info_row _ i (rows.length + 1) (vals ++ List.replicate (rows.length + 1 - i) (.slice none 0 0)) rfl ?x1 ?x2 ?x3 _ 1 1 [.slice (some ⟨wr.heap.size + 1, 0, none⟩) row.length (row.length + 1)] rfl ?x4 ?x5 ?x6 ?x7 (i + 1) ?x8 ?x9 ?_; (case x1 => exact (alloc_old _ _ _ (Nat.lt_of_lt_of_le hgs HO6.out.size)).trans ((HO6.out.block _ hgs (by omega)).trans HLT.out.blk)); (case x2 => simp [HLT.out.len]; omega); (case x3 => simp only [maxLen]; omega); (case x4 => rfl); (case x5 => intro h; cases h); (case x6 => exact lit_cells (heap_alloc_new W6 _)); (case x7 => intro u hu; rw [List.mem_singleton.1 hu]; rfl); (case x8 => rfl); (case x9 => omega); intro W7 hW7 hW7b; have HO7 : Aside0 (Only (fun k => k = w.heap.size ∨ wr.heap.size ≤ k) wr W7) := ?o7; (case o7 => exact ⟨((HO6.out.mono (fun k _ e => .inr e)).trans (Only.of_below (by repeat (first | exact Below.refl _ _ | apply below_alloc | apply below_drew)))).trans (hW7.mono (fun k _ e => .inl e))⟩); have hx7 : W7.cell? (ad.add i) = some (.slice A1 row.length c1) := cell_keep HO7.out (by omega) hxi))
      all_goals
        have HL7 := Aside0.mk (LentTo.step HLT.out hi (show rows[i]? = some row by rw [HROW.out]; exact List.getElem?_eq_getElem hin) HO7.out (Nat.le_refl _) HB.out.size (by omega) (keeps_of hW7 (by omega) ((alloc_old _ _ _ (Array.getElem?_eq_some_iff.1 hW6b).1).trans hW6b)) (by simp) hW7b)
        have HB7 := Aside0.mk (show Below w.heap.size w W7 from HB.out.trans (HO7.out.below (n := w.heap.size) HB.out.size (fun k hk => by omega)))
        have hgs7 : w.heap.size < W7.heap.size := Nat.lt_of_lt_of_le hgs HO7.out.size
        clear hW5b hW6b hW7b hx5 hx6 hx7 HLT HB hxi
        go_wp2
        exact ⟨⟨i + 1, _, by go_num, by omega, rfl, HL7, HB7, hgs7⟩, by simp only [intOf]; omega⟩
    · have hie : i = rows.length := by omega
      subst hie
      clear hmk
      have HM : Aside0 (∀ (W' : World), Only (fun k => k = w.heap.size) ((wr.alloc (.cells #[.int .i64 77] 3)).alloc (.cells #[.slice (some ⟨wr.heap.size, 0, none⟩) 1 1] 23)) W' → W'.heap[w.heap.size]? = some (.cells (List.take rows.length (vals ++ List.replicate (rows.length + 1 - rows.length) (Value.slice none 0 0)) ++ [Value.slice (some ⟨wr.heap.size, 0, none⟩) 1 1] ++ List.drop (rows.length + 1) (vals ++ List.replicate (rows.length + 1 - rows.length) (Value.slice none 0 0))).toArray 23 (0, 0)) → Lent W' w.heap.size w.heap.size rows ∧ Below w.heap.size w W') := ⟨fun W' hO hb => by
        have hl := HLT.out.len
        have hold : ∀ k, k < wr.heap.size → k ≠ w.heap.size → W'.heap[k]? = wr.heap[k]? := fun k hk hne => ((hO.block k (by simp; omega) hne).trans (alloc_old _ _ _ (by simp; omega))).trans (alloc_old _ _ _ hk)
        refine ⟨⟨vals, wr.heap.size, ?_, hl, Nat.le_refl _, HB.out.size, ?_, fun j xs u hj hu => ?_⟩, HB.out.trans ?_⟩
        · rw [hb]
          congr 2
          apply congrArg List.toArray
          rw [show rows.length + 1 - rows.length = 1 by omega, ← hl]
          simp
        · exact keeps_of hO (by omega) ((alloc_old _ _ _ (by simp)).trans (heap_alloc_new wr _))
        · obtain ⟨b, e, h1, h2⟩ := HLT.out.rows_ j xs u hj hu
          have hlt : b < wr.heap.size := (Array.getElem?_eq_some_iff.1 h2).1
          by_cases hbg : b = w.heap.size
          · rw [hbg, HLT.out.blk] at h2
            exfalso
            simp at h2
          · exact ⟨b, e, h1, (hold b hlt hbg).trans h2⟩
        · exact (below_alloc (below_alloc (Below.refl _ wr) _) _ |>.mono HB.out.size).trans (hO.below (by simp; omega) (fun k hk => by omega))⟩
      go_wp2_with (at_builtin; refine wpList_step (fun K hK => ?_); refine step_append_at rfl (.tmp 38) (.tmp 40) 22 rfl 23 (.slice none 0 0) 24 rfl info_row _ rows.length (rows.length + 1) (vals ++ List.replicate (rows.length + 1 - rows.length) (.slice none 0 0)) rfl ?x1 ?x2 ?x3 _ 1 1 [.slice (some ⟨wr.heap.size, 0, none⟩) 1 1] rfl ?x4 ?x5 ?x6 ?x7 (rows.length + 1) ?x8 ?x9 ?_)
      case x1 => exact ((alloc_old _ _ _ (by simp; omega)).trans (alloc_old _ _ _ hgs)).trans HLT.out.blk
      case x2 => simp [HLT.out.len]
      case x3 => simp only [maxLen]; omega
      case x4 => rfl
      case x5 => intro h; cases h
      case x6 => exact lit_cells (by have h := heap_alloc_new (wr.alloc (.cells #[.int .i64 77] 3)) (.cells #[.slice (some ⟨wr.heap.size, 0, none⟩) 1 1] 23); rwa [World.size_alloc] at h)
      case x7 => intro u hu; rw [List.mem_singleton.1 hu]; rfl
      case x8 => rfl
      case x9 => omega
      intro W8 hW8 hW8b
      have hfin := Aside0.mk (HM.out W8 hW8 (by simpa using hW8b))
      clear hW8 hW8b HM HLT
      refine hK _ _ ?_
      have hs0 : (rows.length : Int) ≤ (rows.length : Int) + 1 := by omega
      go_wp2
      go_ret
      exact ⟨rfl, hfin.out⟩
end Go.Proofs.YtbdlihldmmbdmaaDoor.Lent
