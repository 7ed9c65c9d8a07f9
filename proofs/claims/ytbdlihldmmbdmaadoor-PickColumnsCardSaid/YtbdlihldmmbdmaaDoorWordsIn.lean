/- append of one element to a row of the call's own, within a fence (so in a round of a range over a function, too). No program. -/
import Derived.Test.YtbdlihldmmbdmaaDoorWWords
import Derived.Test.YtbdlihldmmbdmaaDoorRange
import Derived.Maps.OwnIn
namespace Go.Proofs.YtbdlihldmmbdmaaDoor.WordsIn
open Go.RowKit Go.Proofs.YtbdlihldmmbdmaaDoorW.PrintWords Go.Proofs.YtbdlihldmmbdmaaDoor.Range
set_option linter.unusedVariables false

theorem Only.of_grownBy {W w1 : World} {row : Option Nat} (h : W.grownBy w1 row) {S : Nat → Prop} (hs : ∀ k, row = some k → S k) : Only S W w1 :=
  ⟨h.os, h.tape, h.output, h.size, fun k hk hn => h.block k hk (fun e => hn (hs k e.symm))⟩

variable {F : Fence} {nF : Nat} {P : Program} {ops : Array Oper} {rest : List Oper} {o : Oper} {a : Act} {Q : Exit → Act → World → Prop}
theorem R_append_in {α : Type} {enc : α → Value} {h1 : ∀ x, (enc x).oneCell' = true} {W : World} (base : Nat) (hgd : o.guard = none) (s x : Operand) (t e : TypeId) (z : Value) (bytes : Nat)
    (ho : o.op = .call { callee := .builtin .append, args := #[s, x], argTypes := #[t, t] })
    (ht : P.underlying t = some (.slice e)) (hinfo : (P.info? e).map (fun i => (i.zero, i.size, i.bytes)) = some (some z, 1, bytes)) (hz : z.cells.size = 1) (hb0 : 0 < bytes)
    (v : Value) (xs : List α) (y : α) (ok : Nat → Prop) (hs : a.eval s = v) (hx : a.eval x = .slice (some ⟨W.heap.size, 0, none⟩) 1 1) (hfresh : ∀ k, W.heap.size ≤ k → ok k)
    (HR : (Kd.scalar enc h1).R e W base ok v xs) (hbase : base ≤ W.heap.size) (hl : (xs.length + 1) * bytes ≤ 140737488355328)
    (h : ∀ v1 w1, (Kd.scalar enc h1).R e w1 base ok v1 (xs ++ [y]) → W.grownBy w1 v.ownBlock → wpListIn F nF P ops Q rest (a.put o.dst v1) w1) :
    wpListIn F nF P ops Q (o :: rest) a (W.alloc (.cells #[enc y] e)) := by
  obtain ⟨i0, hi, hzz⟩ := Option.map_eq_some_iff.1 hinfo
  simp only [Prod.mk.injEq] at hzz
  obtain ⟨hz0, hz1, hz2⟩ := hzz
  have hlen : xs.length + 1 ≤ 140737488355328 := Nat.le_trans (Nat.le_mul_of_pos_right _ hb0) hl
  have HO := Kd.own_of_R HR
  refine wpListIn_append_own_at (w := W.alloc (.cells #[enc y] e)) hgd s x t ho base e i0 z 1 bytes ht hi hz0 hz1 hz2 hz (by omega) v xs.length (encs enc xs) hs (HO.alloc _) ⟨W.heap.size, 0, none⟩ 1 1 [enc y] hx rfl
    (World.news_of_block (cs := #[enc y]) (t := e) (fr := (0, 0)) (heap_alloc_new W _)) (by simpa using h1 y) (by simp only [maxLen]; omega) hl (by simp; omega) ?_
  intro v1 w1 hown hg _ hat
  refine h v1 w1 (Kd.R_of_own (by simpa [encs] using hown) (fun k hk => ?_)) (World.grownBy.trans (World.grownBy_alloc W _ _) hg)
  rcases hat with hat | hat
  · exact HR.1 k (hat ▸ hk)
  · rw [hat] at hk
    injection hk with hk
    exact hfresh k (by rw [← hk]; simp)
end Go.Proofs.YtbdlihldmmbdmaaDoor.WordsIn
