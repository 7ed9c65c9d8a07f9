/- How arguments read, told on lists: a slice of slices of whole numbers; a slice of whole numbers. No program. -/
import Derived.Test.YtbdlihldmmbdmaaDoorWWords
import Derived.WalkKit
import Derived.ProofKit
import Derived.OpenShut
import Derived.ShutString
import Derived.ChangeOld
import Derived.Below
import Derived.SizedLaws
import Derived.Deep.Matrix
import Derived.WideKeyArgs
import Derived.Lib.LaidTab
namespace Go.Proofs.YtbdlihldmmbdmaaDoor.Args
open Go.ChangeShapes Go.WideShapes Go.ChangeAt Go.RowKit Go.Deep Go.Proofs.YtbdlihldmmbdmaaDoorW.PrintWords
set_option linter.unusedVariables false

section
variable {H : Type} {enc : TypeId × Value → H} {P : Program} {w : World} {base : Nat} {held : Bool}

theorem C_take {k : IntKind} {W : World} {A : Option Addr} {L C : Nat} {Z : List Int} (h1 : L ≤ C) (h2 : C ≤ maxLen) (h3 : Z.length = C) (h4 : A = none → C = 0) (h5 : ∀ a', A = some a' → ∀ c, c < C → W.cell? (a'.add c) = some (.int k (Z.getD c 0))) :
    (Kd.int k).C W A L (Z.take L) := by
  refine Kd.C_of_reads (d := (0 : Int)) ⟨by simp; omega, by simp only [maxLen] at h2; omega, fun hn => ?_⟩
  cases A with
  | none => have := h4 rfl; omega
  | some a' =>
    refine ⟨a', rfl, fun j hj => ?_⟩
    rw [h5 a' rfl j (by omega), List.getD_eq_getElem?_getD, List.getD_eq_getElem?_getD, List.getElem?_take_of_lt hj]

/-- A slice of slices of whole numbers that came in reads as a list of lists. -/
theorem rows_of_trod {t e q : TypeId} {k : IntKind} {v : Value} {d : DataW H} {ps : List MemPlace} (ht : P.underlying t = some (.slice e)) (he : P.underlying e = some (.slice q)) (hq : P.underlying q = some (.int k))
    (ce : P.cellsOf e = 1) (cq : P.cellsOf q = 1) (hv : ∃ a n c, v = .slice a n c) (h : DataW.Trod enc P w base (fun _ => true) held t v d ps) :
    ∃ (A : Option Addr) (c : Nat) (rows : List (List Int)), v = .slice A rows.length c ∧ rows.length ≤ c ∧ (Kd.slice q (Kd.int k)).C w A rows.length rows := by
  obtain ⟨fuel, hf⟩ := h
  obtain ⟨va, vn, vc, rfl⟩ := hv
  rcases open_int_rows ht he hq ce cq hf with ⟨hcs, _⟩ | ⟨a, len, cap, A, L, C, Z, hcs, _, hl, hm, _, hx⟩
  · simp [Value.cells] at hcs
    obtain ⟨rfl, rfl, rfl⟩ := hcs
    exact ⟨none, 0, [], rfl, Nat.le_refl _, rfl, Nat.zero_le _, fun hn => absurd hn (by simp)⟩
  · simp [Value.cells] at hcs
    obtain ⟨rfl, rfl, rfl⟩ := hcs
    refine ⟨some a, vc, (List.range vn).map fun r => (Z r).take (L r), by simp, by simpa using hl, by simp, ?_, fun hn => ⟨a, rfl, fun j p hj => ?_⟩⟩
    · simp only [maxLen] at hm
      simp
      omega
    · obtain ⟨hj1, hj2⟩ := List.getElem?_eq_some_iff.1 hj
      simp at hj1 hj2
      subst hj2
      obtain ⟨c1, c2, c3, c4, _, c6, c7⟩ := hx j (by omega)
      refine ⟨[.slice (A j) (L j) (C j)], rfl, ⟨A j, C j, ?_, ?_, ?_⟩, fun i u hu => ?_⟩
      · simp; omega
      · simp; omega
      · have := C_take (W := w) (A := A j) c2 c3 c4 c6 (fun a' ha => (c7 a' ha).2)
        have hlen : ((Z j).take (L j)).length = L j := by simp; omega
        rw [hlen]
        exact this
      · cases i with
        | zero =>
          have : Value.slice (A j) (L j) (C j) = u := by simpa using hu
          subst this
          simpa [Kd.slice] using c1
        | succ i => simp at hu

theorem u32_of_wf {n : Int} (h : (Lit.int .u32 n).wf = true) : 0 ≤ n ∧ n ≤ 4294967295 := by
  have e1 : IntKind.min .u32 = 0 := by decide
  have e2 : IntKind.max .u32 = 4294967295 := by decide
  simp only [Lit.wf, Bool.and_eq_true, decide_eq_true_eq, e1, e2] at h
  exact h

/-- A slice of whole numbers that came in reads as a list. -/
theorem ints_of_trod {t e : TypeId} {k : IntKind} {v : Value} {d : DataW H} {ps : List MemPlace} (ht : P.underlying t = some (.slice e)) (he : P.underlying e = some (.int k)) (ce : P.cellsOf e = 1)
    (hv : ∃ a n c, v = .slice a n c) (h : DataW.Trod enc P w base (fun _ => true) held t v d ps) :
    ∃ (A : Option Addr) (c : Nat) (l : List Int), v = .slice A l.length c ∧ l.length ≤ c ∧ (Kd.int k).C w A l.length l ∧ ∀ x ∈ l, (Lit.int k x).wf = true := by
  obtain ⟨fuel, hf⟩ := h
  obtain ⟨va, vn, vc, rfl⟩ := hv
  rcases open_ints ht he ce hf with ⟨hcs, _⟩ | ⟨x, l, c, zs, hcs, _, hl, hm, hz, _, hcell, hwz⟩
  · simp [Value.cells] at hcs
    obtain ⟨rfl, rfl, rfl⟩ := hcs
    exact ⟨none, 0, [], rfl, Nat.le_refl _, ⟨rfl, Nat.zero_le _, fun hn => absurd hn (by simp)⟩, fun x hx => by cases hx⟩
  · simp [Value.cells] at hcs
    obtain ⟨rfl, rfl, rfl⟩ := hcs
    have hz' : zs.length = vc := by simpa using hz
    have hlen : (zs.take vn).length = vn := by simp; omega
    refine ⟨some x, vc, zs.take vn, by rw [hlen], by omega, ?_, fun y hy => hwz y (List.mem_of_mem_take hy)⟩
    rw [hlen]
    exact C_take (C := vc) hl hm hz' (fun h => by cases h) (fun a' ha c' hc' => by cases ha; exact hcell c' (by omega))

/-- An array of two whole numbers that came in. -/
theorem arr2_of_trod {t e : TypeId} {k : IntKind} {r : Reach} {b0 : Nat} {v : Value} {d : DataW H} {ps : List MemPlace} (ht : P.underlying t = some (.array 2 e)) (he : P.underlying e = some (.int k)) (ce : P.cellsOf e = 1) (ct : P.cellsOf t = 2)
    (hv : Value.okWide P w r b0 t v) (h : DataW.Trod enc P w base (fun _ => true) held t v d ps) : ∃ a b : Int, v = .agg #[.int k a, .int k b] ∧ (Lit.int k a).wf = true ∧ (Lit.int k b).wf = true := by
  simp only [Value.okWide, ht] at hv
  obtain ⟨cs, rfl, hs, _⟩ := hv
  rw [ct] at hs
  obtain ⟨fuel, h⟩ := h
  cases fuel with
  | zero => simp [DataW.trod] at h
  | succ fuel =>
    simp only [DataW.trod, ht, ce, ct, Nat.mul_one] at h
    split at h
    · obtain ⟨xs, hm, hx⟩ := Option.map_eq_some_iff.1 h
      obtain ⟨y0, _, hf0⟩ := Lib.mapM_at hm 0 0 (by simp)
      obtain ⟨y1, _, hf1⟩ := Lib.mapM_at hm 1 1 (by simp)
      obtain ⟨a, ha, _, wa⟩ := DataW.trod_int he hf0
      obtain ⟨b, hb, _, wb⟩ := DataW.trod_int he hf1
      refine ⟨a, b, ?_, wa, wb⟩
      have h0 : cs[0]? = some (.int k a) := by
        have := congrArg (·[0]?) ha
        simpa [Value.cells] using this
      have h1 : cs[1]? = some (.int k b) := by
        have := congrArg (·[0]?) hb
        simpa [Value.cells] using this
      congr 1
      apply Array.ext
      · simpa using hs
      · intro i hi1 hi2
        have : i = 0 ∨ i = 1 := by omega
        rcases this with rfl | rfl
        · rw [Array.getElem?_eq_getElem hi1] at h0; simpa using h0
        · rw [Array.getElem?_eq_getElem hi1] at h1; simpa using h1
    · cases h
end
end Go.Proofs.YtbdlihldmmbdmaaDoor.Args
