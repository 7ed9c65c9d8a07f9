/- Small facts on numbers of rounds, lists and whole numbers; nothing of the program. -/
import Derived.Test.YtbdlihldmmbdmaaDoorWWords
namespace Go.Proofs.YtbdlihldmmbdmaaDoor.Plain
open Go.RowKit Go.Proofs.YtbdlihldmmbdmaaDoorW.PrintWords
set_option linter.unusedVariables false

theorem wrap_nat {i : Nat} (h : i < 9223372036854775807) : wrap64 ((i : Int) + 1) = ((i + 1 : Nat) : Int) := by
  unfold wrap64; omega
theorem wrap_id {x : Int} (h0 : -9223372036854775808 ≤ x) (h1 : x ≤ 9223372036854775807) : wrap64 x = x := by
  unfold wrap64; omega
theorem rd_lt {xs : List Int} {k : Nat} (h : k < xs.length) : rd xs (k : Int) = xs[k] := by
  unfold rd
  rw [Int.toNat_natCast, List.getD_eq_getElem?_getD, List.getElem?_eq_getElem h]; rfl
theorem drop_any {α : Type} {p : α → Bool} {xs : List α} {i : Nat} (h : i < xs.length) : (xs.drop i).any p = (p xs[i] || (xs.drop (i + 1)).any p) := by
  rw [List.drop_eq_getElem_cons h, List.any_cons]
theorem drop_any_end {α : Type} {p : α → Bool} {xs : List α} {i : Nat} (h : xs.length ≤ i) : (xs.drop i).any p = false := by
  rw [List.drop_eq_nil_of_le h]; rfl
theorem drop_all {α : Type} {p : α → Bool} {xs : List α} {i : Nat} (h : i < xs.length) : (xs.drop i).all p = (p xs[i] && (xs.drop (i + 1)).all p) := by
  rw [List.drop_eq_getElem_cons h, List.all_cons]
theorem drop_all_end {α : Type} {p : α → Bool} {xs : List α} {i : Nat} (h : xs.length ≤ i) : (xs.drop i).all p = true := by
  rw [List.drop_eq_nil_of_le h]; rfl
/-- Two answers of one function, at whatever numbers of rounds, are one. -/
theorem one_answer {α : Type} {g : Nat → Option α} (hg : ∀ k, LeO (g k) (g (k + 1))) {k k' : Nat} {r s : α} (h : g k = some r) (h' : g k' = some s) : r = s := by
  have h1 := at_rounds hg (Nat.le_max_left k k') h
  have h2 := at_rounds hg (Nat.le_max_right k k') h'
  exact Option.some.inj (h1.symm.trans h2)
theorem Ev.answer {α : Type} {g : Nat → Option α} {r s : α} (hg : ∀ k, LeO (g k) (g (k + 1))) {k : Nat} (h : g k = some r) (e : Ev g s) : r = s := by
  obtain ⟨K, e⟩ := e
  exact one_answer hg h (e K (Nat.le_refl _))
/-- One round: the loop's own row unfolds to f. -/
theorem Ev.round {α : Type} {g f : Nat → Option α} {r : α} (k : Ev f r) (h : ∀ k, g (k + 1) = f k) : Ev g r := Ev.step h k
theorem Ev.then {α β : Type} {g : Nat → Option α} {f : Nat → α → Option β} {a : α} {r : β} (h : Ev g a) (k : Ev (fun n => f n a) r) : Ev (fun n => (g n).bind (f n)) r := Ev.bind h k
theorem Ev.cast {α : Type} {g : Nat → Option α} {r s : α} (h : Ev g r) (e : r = s) : Ev g s := e ▸ h
theorem cell_al {w : World} {a : Addr} {v : Value} (h : w.cell? a = some v) (o : Obj) : (w.alloc o).cell? a = some v := pw_cell_below (below_alloc (Below.refl _ _) o) h
theorem froz_below {w w1 : World} {a : Addr} {v : Value} (h : w.cell? a = some v) (hf : w.frozen? a = false) (hb : Below w.heap.size w w1) : w1.frozen? a = false := (hb.frozen (World.block_lt_of_cell? w a h)).trans hf
theorem froz_al {w : World} {a : Addr} {v : Value} (h : w.cell? a = some v) (hf : w.frozen? a = false) (o : Obj) : (w.alloc o).frozen? a = false := froz_below h hf (below_alloc (Below.refl _ _) o)
/-- Part done: the first j of the new ones, the others the old ones. -/
def upTo {α : Type} (j : Nat) (new old : List α) : List α := new.take j ++ old.drop j
theorem upTo_zero {α : Type} (new old : List α) : upTo 0 new old = old := by simp [upTo]
theorem upTo_all {α : Type} (j : Nat) (new old : List α) (h : new.length ≤ j) (h' : old.length ≤ j) : upTo j new old = new := by
  simp [upTo, List.take_of_length_le h, List.drop_eq_nil_of_le h']
theorem upTo_length {α : Type} (j : Nat) (new old : List α) (h : new.length = old.length) : (upTo j new old).length = old.length := by
  simp [upTo]; omega
theorem upTo_get {α : Type} (j : Nat) (new old : List α) (hj : j < old.length) (h : new.length = old.length) : (upTo j new old)[j]? = old[j]? := by
  unfold upTo
  rw [List.getElem?_append_right (by simp; omega)]
  simp [Nat.min_eq_left (show j ≤ new.length by omega)]
theorem upTo_set {α : Type} (j : Nat) (new old : List α) (hj : j < old.length) (h : new.length = old.length) : (upTo j new old).set j (new[j]'(by omega)) = upTo (j + 1) new old := by
  unfold upTo
  have h1 : (new.take j).length = j := by simp; omega
  rw [List.set_append_right _ _ (by omega), h1, Nat.sub_self, List.drop_eq_getElem_cons hj, List.set_cons_zero, List.take_succ_eq_append_getElem (show j < new.length by omega), List.append_assoc]; rfl
theorem rd_get? {xs : List Int} {k : Nat} {v : Int} (h : xs[k]? = some v) : rd xs (k : Int) = v := by
  unfold rd
  rw [Int.toNat_natCast, List.getD_eq_getElem?_getD, h]; rfl
end Go.Proofs.YtbdlihldmmbdmaaDoor.Plain
