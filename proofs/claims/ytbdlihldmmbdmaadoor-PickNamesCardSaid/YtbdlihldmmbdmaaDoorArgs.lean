/- How arguments read, told on lists: a slice of slices of whole numbers; a slice of whole numbers. No program. -/
import Derived.Test.YtbdlihldmmbdmaaDoorWWords
import Derived.WalkKit
import Derived.ProofKit
import Derived.OpenShut
import Derived.ShutString
import Derived.ChangeOld
import Derived.Below
import Derived.SizedLaws
import Derived.Deep.Matrix
import Derived.WideKeyArgs
namespace Go.Proofs.YtbdlihldmmbdmaaDoor.Args
open Go.ChangeShapes Go.WideShapes Go.ChangeAt Go.RowKit Go.Deep Go.Proofs.YtbdlihldmmbdmaaDoorW.PrintWords
set_option linter.unusedVariables false

section
variable {H : Type} {enc : TypeId × Value → H} {P : Program} {w : World} {base : Nat} {held : Bool}

theorem C_take {k : IntKind} {W : World} {A : Option Addr} {L C : Nat} {Z : List Int} (h1 : L ≤ C) (h2 : C ≤ maxLen) (h3 : Z.length = C) (h4 : A = none → C = 0) (h5 : ∀ a', A = some a' → ∀ c, c < C → W.cell? (a'.add c) = some (.int k (Z.getD c 0))) :
    (Kd.int k).C W A L (Z.take L) := by
  refine Kd.C_of_reads (d := (0 : Int)) ⟨by simp; omega, by simp only [maxLen] at h2; omega, fun hn => ?_⟩
  cases A with
  | none => have := h4 rfl; omega
  | some a' =>
    refine ⟨a', rfl, fun j hj => ?_⟩
    rw [h5 a' rfl j (by omega), List.getD_eq_getElem?_getD, List.getD_eq_getElem?_getD, List.getElem?_take_of_lt hj]

/-- A slice of slices of whole numbers that came in reads as a list of lists. -/
theorem rows_of_trod {t e q : TypeId} {k : IntKind} {v : Value} {d : DataW H} {ps : List MemPlace} (ht : P.underlying t = some (.slice e)) (he : P.underlying e = some (.slice q)) (hq : P.underlying q = some (.int k))
    (ce : P.cellsOf e = 1) (cq : P.cellsOf q = 1) (hv : ∃ a n c, v = .slice a n c) (h : DataW.Trod enc P w base (fun _ => true) held t v d ps) :
    ∃ (A : Option Addr) (c : Nat) (rows : List (List Int)), v = .slice A rows.length c ∧ rows.length ≤ c ∧ (Kd.slice q (Kd.int k)).C w A rows.length rows := by
  obtain ⟨fuel, hf⟩ := h
  obtain ⟨va, vn, vc, rfl⟩ := hv
  rcases open_int_rows ht he hq ce cq hf with ⟨hcs, _⟩ | ⟨a, len, cap, A, L, C, Z, hcs, _, hl, hm, _, hx⟩
  · simp [Value.cells] at hcs
    obtain ⟨rfl, rfl, rfl⟩ := hcs
    exact ⟨none, 0, [], rfl, Nat.le_refl _, rfl, Nat.zero_le _, fun hn => absurd hn (by simp)⟩
  · simp [Value.cells] at hcs
    obtain ⟨rfl, rfl, rfl⟩ := hcs
    refine ⟨some a, vc, (List.range vn).map fun r => (Z r).take (L r), by simp, by simpa using hl, by simp, ?_, fun hn => ⟨a, rfl, fun j p hj => ?_⟩⟩
    · simp only [maxLen] at hm
      simp
      omega
    · obtain ⟨hj1, hj2⟩ := List.getElem?_eq_some_iff.1 hj
      simp at hj1 hj2
      subst hj2
      obtain ⟨c1, c2, c3, c4, _, c6, c7⟩ := hx j (by omega)
      refine ⟨[.slice (A j) (L j) (C j)], rfl, ⟨A j, C j, ?_, ?_, ?_⟩, fun i u hu => ?_⟩
      · simp; omega
      · simp; omega
      · have := C_take (W := w) (A := A j) c2 c3 c4 c6 (fun a' ha => (c7 a' ha).2)
        have hlen : ((Z j).take (L j)).length = L j := by simp; omega
        rw [hlen]
        exact this
      · cases i with
        | zero =>
          have : Value.slice (A j) (L j) (C j) = u := by simpa using hu
          subst this
          simpa [Kd.slice] using c1
        | succ i => simp at hu
end
end Go.Proofs.YtbdlihldmmbdmaaDoor.Args
