/- A range over a function whose iterator keeps state in cells of its own: what the iterator and the loop's body promise each other, block by block; the statement's law. No program. -/
import Derived.RangeFuncNested
import Derived.RangeFuncBound
import Derived.RangeFuncCalls
import Derived.RangeFuncLeaves
import Derived.Below
namespace Go.Proofs.YtbdlihldmmbdmaaDoor.Range
open Go Go.RowKit
set_option linter.unusedVariables false

/-- B is what A turned into: blocks of S, and new ones, alone have been touched. -/
structure Only (S : Nat → Prop) (A B : World) : Prop where
  os : B.os = A.os
  tape : B.tape = A.tape
  output : B.output = A.output
  size : A.heap.size ≤ B.heap.size
  block : ∀ k, k < A.heap.size → ¬ S k → B.heap[k]? = A.heap[k]?
theorem Only.refl (S : Nat → Prop) (A : World) : Only S A A := ⟨rfl, rfl, rfl, Nat.le_refl _, fun _ _ _ => rfl⟩
theorem Only.trans {S : Nat → Prop} {A B C : World} (h : Only S A B) (k : Only S B C) : Only S A C :=
  ⟨k.os.trans h.os, k.tape.trans h.tape, k.output.trans h.output, Nat.le_trans h.size k.size, fun i hi hs => (k.block i (Nat.lt_of_lt_of_le hi h.size) hs).trans (h.block i hi hs)⟩
theorem Only.mono {S T : Nat → Prop} {A B : World} (h : Only S A B) (hs : ∀ k, k < A.heap.size → S k → T k) : Only T A B :=
  ⟨h.os, h.tape, h.output, h.size, fun i hi ht => h.block i hi (fun e => ht (hs i hi e))⟩
theorem Only.of_below {S : Nat → Prop} {A B : World} (h : Below A.heap.size A B) : Only S A B := ⟨h.os, h.tape, h.output, h.size, fun i hi _ => h.block i hi⟩
theorem Only.below {S : Nat → Prop} {A B : World} {n : Nat} (h : Only S A B) (hn : n ≤ A.heap.size) (hs : ∀ k, S k → n ≤ k) : Below n A B :=
  ⟨h.os, h.tape, h.output, h.size, fun i hi => h.block i (by omega) (fun e => by have := hs i e; omega)⟩
theorem Only.putObj {S : Nat → Prop} (A : World) (l : Nat) (o : Obj) (h : S l) : Only S A (A.putObj l o) :=
  ⟨rfl, rfl, rfl, by simp, fun i hi hs => World.putObj_heap_other (fun e => hs (e ▸ h))⟩
theorem Only.alloc {S : Nat → Prop} {A B : World} (h : Only S A B) (o : Obj) : Only S A (B.alloc o) :=
  h.trans (Only.of_below ((Below.refl _ B).alloc (Nat.le_refl _) o))
theorem Only.setCell {S : Nat → Prop} {A B : World} (h : Only S A B) (a : Addr) (v : Value) (hs : S a.block ∨ A.heap.size ≤ a.block) : Only S A (B.setCell a v) :=
  ⟨h.os, h.tape, h.output, Nat.le_trans h.size (by show _ ≤ (B.heap.modify _ _).size; rw [Array.size_modify]; exact Nat.le_refl _), fun i hi hn => by
    refine (Below.heap_setCell B a v i (fun e => ?_)).trans (h.block i hi hn)
    subst e
    rcases hs with hs | hs
    · exact hn hs
    · omega⟩

/-- What a caller says between two rounds, while the iterator's own blocks are O: it doesn't mind what the iterator does with its own blocks, nor with new ones. -/
def Stable {β : Type} (J : (Nat → Prop) → β → World → Prop) : Prop :=
  ∀ (O O' : Nat → Prop) (s : β) (A B : World), J O s A → Only O A B → (∀ k, O k → O' k) → (∀ k, O' k → O k ∨ (A.heap.size ≤ k ∧ k < B.heap.size)) → J O' s B

variable {F : Fence} {n : Nat} {P : Program} {α : Type}

/-- AN ITERATOR's CONTRACT. Kc: the blocks that it reads between two rounds. Rep W ok x vs: the values vs tell x at W, in blocks of ok. -/
def IterC (F : Fence) (n : Nat) (P : Program) (g : Nat) (lb : Array Value) (Kc : Nat → Prop) (Rep : World → (Nat → Prop) → α → Array Value → Prop) (S Sp : List α → Prop) (N : Nat) (w : World) : Prop :=
  ∀ (l : Nat) (J Jx : (Nat → Prop) → List α → World → Prop) (W : World), Only (fun k => ¬ Kc k) w W → Stable J → Stable Jx →
    (∀ (O : Nat → Prop) pre x vs W0 W1, (∀ k, O k → W.heap.size ≤ k ∧ k < W0.heap.size) → J O pre W0 → Only O W0 W1 → Rep W1 (fun k => W0.heap.size ≤ k) x vs → pre.length < N →
      YieldAt F (n - 1) P l vs W1 fun e W' =>
        (e = .returned (.bool true) ∧ J O (pre ++ [x]) W' ∧ Only (fun k => ¬ (Kc k ∨ O k)) W1 W') ∨ (e = .returned (.bool false) ∧ Jx O (pre ++ [x]) W')) →
    J (fun _ => False) [] W →
    CallsIn F n P g (#[.func (.yield l) #[] #[]] ++ lb) W fun e W' => (∃ v, e = .returned v) ∧ ∃ O : Nat → Prop, (∀ k, O k → W.heap.size ≤ k) ∧ ((∃ xs, S xs ∧ J O xs W') ∨ (∃ pre, Sp pre ∧ Jx O pre W'))
theorem IterC.inRound {g : Nat} {lb : Array Value} {Kc : Nat → Prop} {Rep : World → (Nat → Prop) → α → Array Value → Prop} {S Sp : List α → Prop} {N : Nat} {w : World} (l : Nat)
    (h : IterC F n P g lb Kc Rep S Sp N w) : IterC (F.inRound l) n P g lb Kc Rep S Sp N w := h

/-- How a round's body may be left. -/
def bodyOut (Kc O : Nat → Prop) (I : (Nat → Prop) → List α → World → Prop) (Ix : Code → (Nat → Prop) → List α → World → Prop) (xs : List α) (W : World) : Exit → Act → World → Prop
  | .normal, _, W' => Only (fun k => ¬ (Kc k ∨ O k)) W W' ∧ I O xs W'
  | .ret, _, W' => Only (fun k => ¬ O k) W W' ∧ Ix .ret O xs W'
  | .exit id, _, W' => Only (fun k => ¬ O k) W W' ∧ Ix (.exit id) O xs W'
  | .goto t, _, W' => Only (fun k => ¬ O k) W W' ∧ Ix (.goto t) O xs W'
  | .panic _, _, _ => False
  | .outgrown, _, _ => False

theorem keeps_of {S : Nat → Prop} {A B : World} {k : Nat} {o : Obj} (h : Only S A B) (hs : ¬ S k) (hk : A.heap[k]? = some o) : B.heap[k]? = some o :=
  (h.block k (Array.getElem?_eq_some_iff.1 hk).1 hs).trans hk

/-- THE STATEMENT's LAW, at an outermost loop. -/
theorem wp_range {g : Operand} {ps : Array Tmp} {assign body : Code} {Q : Exit → Act → World → Prop} {a : Act} {w : World}
    (hro : F.round = none) (h1 : 1 ≤ n) {gf : Nat} {lb : Array Value} (hg : a.eval g = .func (.func gf) #[] lb) (hFg : F.fn gf) (eg : ∀ args w, (callFunc gf args).run P w = .ok (.enter gf args) w)
    {Kc : Nat → Prop} (hKc : ∀ k, Kc k → k < w.heap.size) {Rep : World → (Nat → Prop) → α → Array Value → Prop}
    (hRep : ∀ {A B : World} {ok : Nat → Prop} {x vs}, Rep A ok x vs → (∀ k, ok k → k < A.heap.size → B.heap[k]? = A.heap[k]?) → Rep B ok x vs)
    (hRs : ∀ {A : World} {ok : Nat → Prop} {x vs}, Rep A ok x vs → vs.size = ps.size)
    {S Sp : List α → Prop} {N : Nat} (hseq : IterC F (n - 1) P gf lb Kc Rep S Sp N w)
    (I : (Nat → Prop) → List α → World → Prop) (Ix : Code → (Nat → Prop) → List α → World → Prop) (hI : Stable I) (hIx : ∀ c, Stable (Ix c)) (h0 : I (fun _ => False) [] w) (a₁ : Array Value → Act)
    (hassign : ∀ (l : Nat) (vs : Array Value) (W : World) (K : Act → World → Prop), vs.size = ps.size → K (a₁ vs) W →
      assign.wpIn (F.inRound l) (n - 1 - 1) P (Exit.then K (fun _ _ _ => False)) { tmps := (ps.zip vs).foldl (fun t (p, v) => t.setIfInBounds p v) a.tmps, defers := [] } W)
    (hbody : ∀ (l : Nat) (O : Nat → Prop) (pre : List α) (x : α) (vs : Array Value) (W0 W1 : World), w.heap.size ≤ l → (∃ r, W1.heap[l]? = some (.loop r)) → (∀ k, O k → w.heap.size ≤ k ∧ k < W0.heap.size) → I O pre W0 → Only O W0 W1 →
      Rep W1 (fun k => W0.heap.size ≤ k) x vs → pre.length < N → body.wpIn (F.inRound l) (n - 1 - 1) P (bodyOut Kc O I Ix (pre ++ [x]) W1) (a₁ vs) W1)
    (hdone : ∀ (D : Nat) (O : Nat → Prop) (xs : List α) (W : World), w.heap.size ≤ D → S xs → I O xs W → W.heap[D]? = some (.deferred (some [])) → O D → Q .normal { a with defers := { target := .collected D, args := #[] } :: a.defers } W)
    (hstop : ∀ (D : Nat) (O : Nat → Prop) (c : Code) (pre : List α) (W : World), w.heap.size ≤ D → Sp pre → Ix c O pre W → W.heap[D]? = some (.deferred (some [])) → O D → c.wpIn F n P Q { a with defers := { target := .collected D, args := #[] } :: a.defers } W) :
    (Code.rangeFunc g ps assign body).wpIn F n P Q a w := by
  refine wpIn_rangeFunc ?_
  intro fn hfn
  rw [hro]
  obtain ⟨rec, hrec⟩ : ∃ rec : LoopState → Option Code → Loop, rec = fun st pe => { state := st, pending := pe, fn, tmps := a.tmps, params := ps, assign, body, defers := w.heap.size } := ⟨_, rfl⟩
  obtain ⟨W1, hW1⟩ : ∃ W1, (w.alloc (.deferred (some []))).alloc (.loop (rec .ready none)) = W1 := ⟨_, rfl⟩
  obtain ⟨B0, hB0⟩ : ∃ B0 : Nat → Prop, B0 = fun k => k = w.heap.size ∨ k = w.heap.size + 1 := ⟨_, rfl⟩
  have hs1 : W1.heap.size = w.heap.size + 2 := by rw [← hW1]; simp
  have hL1 : W1.heap[w.heap.size + 1]? = some (.loop (rec .ready none)) := by
    rw [← hW1]; have := World.alloc_heap_new (w.alloc (.deferred (some []))) (.loop (rec .ready none)); rwa [World.size_alloc] at this
  have hK1 : W1.heap[w.heap.size]? = some (.deferred (some [])) := by
    rw [← hW1]; exact (Below.heap_alloc _ _ _ (by simp)).trans (World.alloc_heap_new w _)
  have hb1 : Below w.heap.size w W1 := by
    rw [← hW1]; exact ((Below.refl _ w).alloc (Nat.le_refl _) _).alloc (by simp) _
  have hI1 : I B0 [] W1 := hI _ B0 [] w W1 h0 (Only.of_below hb1) (fun k e => e.elim) (fun k e => .inr (by rw [hB0] at e; rw [hs1]; rcases e with e | e <;> omega))
  refine ⟨w.heap.size + 1, [{ target := .collected w.heap.size, args := #[] }], W1, { target := .fn (.func gf) lb, args := #[.func (.yield (w.heap.size + 1)) #[] #[]] }, W1, gf,
    #[.func (.yield (w.heap.size + 1)) #[] #[]] ++ lb, W1, ?_, ?_, ?_, ?_, fun _ => h1, ?_⟩
  · rw [← hW1, hrec]; exact run_enterLoop_outer _ _ _ _ _
  · simp only [resolve, hg]
    simp [go_sem]
  · intro f' hf'; simp [Target.leads] at hf'; subst hf'; exact hFg
  · simp [invoke, go_sem, eg]
  · -- the iterator's contract, at the caller's word with the two blocks of book-keeping beside it
    have hst : ∀ {J : (Nat → Prop) → List α → World → Prop}, Stable J → Stable (fun O pre W => J (fun k => O k ∨ B0 k) pre W) := by
      intro J hJ O O' s A B hj ho hle hnew
      exact hJ _ _ s A B hj (ho.mono (fun k _ e => .inl e)) (fun k e => e.elim (fun e => .inl (hle k e)) .inr) (fun k e => by
        rcases e with e | e
        · rcases hnew k e with h | h
          · exact .inl (.inl h)
          · exact .inr h
        · exact .inl (.inr e))
    refine (hseq (w.heap.size + 1)
      (fun O pre W => (I (fun k => O k ∨ B0 k) pre W ∧ (∀ k, O k → W1.heap.size ≤ k) ∧ W1.heap.size ≤ W.heap.size) ∧ W.heap[w.heap.size + 1]? = some (.loop (rec .ready none)) ∧ W.heap[w.heap.size]? = some (.deferred (some [])))
      (fun O pre W => (∃ c, Ix c (fun k => O k ∨ B0 k) pre W ∧ W.heap[w.heap.size + 1]? = some (.loop (rec .done (some c)))) ∧ (∀ k, O k → W1.heap.size ≤ k) ∧ W1.heap.size ≤ W.heap.size ∧ W.heap[w.heap.size]? = some (.deferred (some [])))
      W1 (Only.of_below hb1) ?_ ?_ ?_ ⟨⟨?_, fun k e => e.elim, Nat.le_refl _⟩, hL1, hK1⟩).mono ?_
    · rintro O O' s A B ⟨⟨hj, hO, hsz⟩, hl, hk⟩ ho hle hnew
      have hn : ∀ k, k < W1.heap.size → ¬ O k := fun k hk e => by have := hO k e; omega
      refine ⟨⟨hst hI _ _ s A B hj ho hle hnew, fun k e => ?_, Nat.le_trans hsz ho.size⟩, keeps_of ho (hn _ (by omega)) hl, keeps_of ho (hn _ (by omega)) hk⟩
      rcases hnew k e with h | h
      · exact hO k h
      · omega
    · rintro O O' s A B ⟨⟨c, hj, hl⟩, hO, hsz, hk⟩ ho hle hnew
      have hn : ∀ k, k < W1.heap.size → ¬ O k := fun k hk e => by have := hO k e; omega
      refine ⟨⟨c, hst (hIx c) _ _ s A B hj ho hle hnew, keeps_of ho (hn _ (by omega)) hl⟩, fun k e => ?_, Nat.le_trans hsz ho.size, keeps_of ho (hn _ (by omega)) hk⟩
      rcases hnew k e with h | h
      · exact hO k h
      · omega
    · -- ONE ROUND
      rintro O pre x vs Wa W hOW ⟨⟨hi, hO, hsz⟩, hl, hk⟩ ho hrep hlen
      have hn : ∀ k, k < W1.heap.size → ¬ O k := fun k hk e => by have := hO k e; omega
      replace hl := keeps_of ho (hn _ (by omega)) hl
      replace hk := keeps_of ho (hn _ (by omega)) hk
      have hlt : w.heap.size + 1 < W.heap.size := (Array.getElem?_eq_some_iff.1 hl).1
      have hvs := hRs hrep
      have hy := run_yield (P := P) (args := vs) hl (by rw [hrec]; exact hvs)
      rw [hrec] at hy
      refine ⟨fn, _, assign, body, hy, roundIn_of_wpIn hfn (hassign _ vs W _ hvs ⟨_, run_beginRound hl (by rw [hrec]), ?_⟩)⟩
      have hl2 : (W.putObj (w.heap.size + 1) (.loop { rec .ready none with state := .busy })).heap[w.heap.size + 1]? = some (.loop { rec .ready none with state := .busy }) := World.putObj_heap_same hlt
      have hk2 : (W.putObj (w.heap.size + 1) (.loop { rec .ready none with state := .busy })).heap[w.heap.size]? = some (.deferred (some [])) := (World.putObj_heap_other (by omega)).trans hk
      have hB1 : (fun k => O k ∨ B0 k) (w.heap.size + 1) := .inr (by rw [hB0]; exact .inr rfl)
      have hB2 : (fun k => O k ∨ B0 k) w.heap.size := .inr (by rw [hB0]; exact .inl rfl)
      have ho2 : Only (fun k => O k ∨ B0 k) Wa (W.putObj (w.heap.size + 1) (.loop { rec .ready none with state := .busy })) :=
        (ho.mono (fun k _ e => .inl e)).trans (Only.putObj _ _ _ hB1)
      have hrep2 : Rep (W.putObj (w.heap.size + 1) (.loop { rec .ready none with state := .busy })) (fun k => Wa.heap.size ≤ k) x vs :=
        hRep hrep (fun k hok hlt2 => World.putObj_heap_other (by omega))
      refine wpIn_mono (hbody _ (fun k => O k ∨ B0 k) pre x vs Wa _ (by omega) ⟨_, hl2⟩ (fun k e => ?_) hi ho2 hrep2 hlen) ?_
      · rcases e with e | e
        · have := hOW k e; omega
        · rw [hB0] at e; rcases e with e | e <;> omega
      have fin : ∀ (jump : Option Code) (W3 : World) (T : Nat → Prop), ¬ T (w.heap.size + 1) → ¬ T w.heap.size → Only T (W.putObj (w.heap.size + 1) (.loop { rec .ready none with state := .busy })) W3 →
          (Instr.endRound (w.heap.size + 1) jump).run P W3 = .ok (.bool jump.isNone) (W3.putObj (w.heap.size + 1) (.loop (rec (if jump.isNone then .ready else .done) jump))) ∧
          W3.heap.size ≤ (W3.putObj (w.heap.size + 1) (.loop (rec (if jump.isNone then .ready else .done) jump))).heap.size ∧ W1.heap.size ≤ W3.heap.size ∧
          (W3.putObj (w.heap.size + 1) (.loop (rec (if jump.isNone then .ready else .done) jump))).heap[w.heap.size + 1]? = some (.loop (rec (if jump.isNone then .ready else .done) jump)) ∧
          (W3.putObj (w.heap.size + 1) (.loop (rec (if jump.isNone then .ready else .done) jump))).heap[w.heap.size]? = some (.deferred (some [])) := fun jump W3 T h1 h2 hk3 => by
        have hl3 := keeps_of hk3 h1 hl2
        have := run_endRound (P := P) jump hl3
        rw [hrec] at this ⊢
        refine ⟨this, by simp, ?_, World.putObj_heap_same (Array.getElem?_eq_some_iff.1 hl3).1, (World.putObj_heap_other (by omega)).trans (keeps_of hk3 h2 hk2)⟩
        have h4 := hk3.size
        have h5 := ho.size
        simp at h4
        omega
      have hput : ∀ {K : (Nat → Prop) → List α → World → Prop} {s : List α} {W3 : World} (o : Obj), Stable K → K (fun k => O k ∨ B0 k) s W3 → K (fun k => O k ∨ B0 k) s (W3.putObj (w.heap.size + 1) o) :=
        fun o hK hk => hK _ _ _ _ _ hk (Only.putObj _ _ _ hB1) (fun _ e => e) (fun _ e => .inl e)
      have no : ∀ {X : Prop}, ¬ ¬ (X ∨ (O (w.heap.size + 1) ∨ B0 (w.heap.size + 1))) := fun h => h (.inr hB1)
      rintro e a3 W3 hp
      cases e with
      | normal =>
        obtain ⟨hk3, hi3⟩ := hp
        obtain ⟨hr, _, hz, hl4, hk4⟩ := fin none W3 _ (fun h => h (.inr hB1)) (fun h => h (.inr hB2)) hk3
        refine ⟨_, _, hr, .inl ⟨rfl, ⟨⟨hput _ hI hi3, hO, by simpa using hz⟩, hl4, hk4⟩, ?_⟩⟩
        have q1 : Only (fun k => ¬ (Kc k ∨ O k)) W (W.putObj (w.heap.size + 1) (.loop { rec .ready none with state := .busy })) :=
          Only.putObj _ _ _ (fun h => by
            rcases h with h | h
            · have := hKc _ h; omega
            · exact hn _ (by omega) h)
        have q3 : Only (fun k => ¬ (Kc k ∨ O k)) W3 (W3.putObj (w.heap.size + 1) (.loop (rec .ready none))) :=
          Only.putObj _ _ _ (fun h => by
            rcases h with h | h
            · have := hKc _ h; omega
            · exact hn _ (by omega) h)
        exact (q1.trans (hk3.mono (fun k _ e h => e (h.imp id .inl)))).trans q3
      | ret =>
        obtain ⟨hk3, hi3⟩ := hp
        obtain ⟨hr, _, hz, hl4, hk4⟩ := fin (some .ret) W3 _ (fun h => h hB1) (fun h => h hB2) hk3
        exact ⟨_, _, hr, .inr ⟨rfl, ⟨.ret, hput _ (hIx _) hi3, hl4⟩, hO, by simpa using hz, hk4⟩⟩
      | exit id =>
        obtain ⟨hk3, hi3⟩ := hp
        obtain ⟨hr, _, hz, hl4, hk4⟩ := fin (some (.exit id)) W3 _ (fun h => h hB1) (fun h => h hB2) hk3
        exact ⟨_, _, hr, .inr ⟨rfl, ⟨.exit id, hput _ (hIx _) hi3, hl4⟩, hO, by simpa using hz, hk4⟩⟩
      | goto t =>
        obtain ⟨hk3, hi3⟩ := hp
        obtain ⟨hr, _, hz, hl4, hk4⟩ := fin (some (.goto t)) W3 _ (fun h => h hB1) (fun h => h hB2) hk3
        exact ⟨_, _, hr, .inr ⟨rfl, ⟨.goto t, hput _ (hIx _) hi3, hl4⟩, hO, by simpa using hz, hk4⟩⟩
      | panic ch => exact hp.elim
      | outgrown => exact hp.elim
    · exact hI _ _ _ _ _ hI1 (Only.refl _ _) (fun k e => .inr e) (fun k e => e.elim (fun e => e.elim) .inl)
    · -- BEHIND THE ITERATOR
      rintro e W2 ⟨⟨v, rfl⟩, O, hOW, (⟨xs, hS, ⟨hi, hO, hsz⟩, hl, hk⟩ | ⟨pre, hSp, ⟨c, hi, hl⟩, hO, hsz, hk⟩)⟩
      · have hB1 : (fun k => O k ∨ B0 k) (w.heap.size + 1) := .inr (by rw [hB0]; exact .inr rfl)
        have hB2 : (fun k => O k ∨ B0 k) w.heap.size := .inr (by rw [hB0]; exact .inl rfl)
        exact ⟨none, _, by have := run_endLoop (P := P) hl (by rw [hrec]; simp); rw [hrec] at this; exact this, hdone _ _ xs _ (Nat.le_refl _) hS (hI _ _ _ _ _ hi (Only.putObj _ _ _ hB1) (fun _ e => e) (fun _ e => .inl e)) ((World.putObj_heap_other (by omega)).trans hk) hB2⟩
      · have hB1 : (fun k => O k ∨ B0 k) (w.heap.size + 1) := .inr (by rw [hB0]; exact .inr rfl)
        have hB2 : (fun k => O k ∨ B0 k) w.heap.size := .inr (by rw [hB0]; exact .inl rfl)
        exact ⟨some c, _, by have := run_endLoop (P := P) hl (by rw [hrec]; simp); rw [hrec] at this; exact this, hstop _ _ c pre _ (Nat.le_refl _) hSp ((hIx c) _ _ _ _ _ hi (Only.putObj _ _ _ hB1) (fun _ e => e) (fun _ e => .inl e)) ((World.putObj_heap_other (by omega)).trans hk) hB2⟩
end Go.Proofs.YtbdlihldmmbdmaaDoor.Range
