/- pick.List: the masks that fit, or why not. -/
import Derived.Test.YtbdlihldmmbdmaaDoorPickAll
import Derived.Test.YtbdlihldmmbdmaaDoorWordsIn
namespace Go.Proofs.YtbdlihldmmbdmaaDoor.PickList
open Go.RowKit Go.Shelf Go.Proofs.YtbdlihldmmbdmaaDoor.SK Go.Proofs.YtbdlihldmmbdmaaDoorW.PrintWords Go.Proofs.YtbdlihldmmbdmaaDoorW.PrintMore Go.Proofs.YtbdlihldmmbdmaaDoor.PickSpec Go.Proofs.YtbdlihldmmbdmaaDoor.PickFn Go.Proofs.YtbdlihldmmbdmaaDoor.Bits Go.Proofs.YtbdlihldmmbdmaaDoor.Plain Go.Proofs.YtbdlihldmmbdmaaDoor.Range Go.Proofs.YtbdlihldmmbdmaaDoor.PickWalker Go.Proofs.YtbdlihldmmbdmaaDoor.PickIter Go.Proofs.YtbdlihldmmbdmaaDoor.PickAll Go.Proofs.YtbdlihldmmbdmaaDoor.WordsIn
attribute [local go_sem] Oper.semAt_some
set_option linter.unusedVariables false

theorem info_u32 : (Tryd.prog.info? 37).map (fun i => (i.zero, i.size, i.bytes)) = some (some (.int .u32 0), 1, 4) := by kernel_rfl

def ListPost (l : List Int) (c : Int) (w : World) (e : Ending) (w' : World) : Prop :=
  ∃ v0 : Value, e = .returned (.tuple #[v0, .int .i64 c]) ∧ Kd.R (Kd.int .u32) 37 w' w.heap.size (fun _ => True) v0 l ∧ Below w.heap.size w w'

theorem two_set {w : World} {x y : Nat} {a b u v : Value} (hx : w.cell? ⟨x, 0, none⟩ = some u) (hy : w.cell? ⟨y, 0, none⟩ = some v) (hne : x ≠ y) :
    ((w.setCell ⟨x, 0, none⟩ a).setCell ⟨y, 0, none⟩ b).cell? ⟨x, 0, none⟩ = some a ∧ ((w.setCell ⟨x, 0, none⟩ a).setCell ⟨y, 0, none⟩ b).cell? ⟨y, 0, none⟩ = some b := by
  have h1 : (w.setCell ⟨x, 0, none⟩ a).cell? ⟨y, 0, none⟩ = some v := by
    rw [World.cell?_of_block (a := ⟨y, 0, none⟩) (Below.heap_setCell w ⟨x, 0, none⟩ a y (fun e => hne e.symm))]; exact hy
  refine ⟨?_, World.cell?_setCell_same' _ _ _ (by rw [h1]; rfl)⟩
  rw [World.cell?_of_block (a := ⟨x, 0, none⟩) (Below.heap_setCell _ ⟨y, 0, none⟩ b x hne)]
  exact World.cell?_setCell_same' _ _ _ (by rw [hx]; rfl)

set_option maxHeartbeats 4000000 in
theorem list_early (A0 : Option Addr) (c0 : Nat) (rows : List (List Int)) (A1 : Option Addr) (c1 : Nat) (want : List Int) (most : Int) (w : World) (hr0 : Kd.C (Kd.slice 3 (Kd.int .i64)) w A0 rows.length rows) (hc0 : rows.length ≤ c0)
    (hr1 : Kd.C (Kd.int .i64) w A1 want.length want) (hc1 : want.length ≤ c1) (he : chk rows want ≠ 0 ∨ most < 0) :
    Calls Tryd.prog 10 #[.slice A0 rows.length c0, .slice A1 want.length c1, .int .i64 most] w (ListPost [] (if chk rows want = 0 then 1 else chk rows want) w) := by
  obtain ⟨kc, hkc⟩ := Ev.rounds (check_ev rows want)
  obtain ⟨W1, hW1⟩ : ∃ W, W = ((w.alloc (.cells #[.int .i64 most] 3)).alloc (.cells #[.slice none 0 0] 26)).alloc (.cells #[.int .i64 0] 27) := ⟨_, rfl⟩
  have hb1 : Below w.heap.size w W1 := by rw [hW1]; exact below_alloc (below_alloc (below_alloc (Below.refl _ _) _) _) _
  have HCK := Aside0.mk (pick_Check.calls kc A0 c0 rows A1 c1 want (chk rows want) W1 (Kd.C_below hr0 hb1) hc0 (Kd.C_below hr1 hb1) hc1 (by unfold pick_Check.f; rw [hkc]; rfl))
  obtain ⟨cv, hcv⟩ : ∃ cv, cv = chk rows want := ⟨_, rfl⟩
  rw [← hcv] at HCK he ⊢
  have hs1 : W1.heap.size = w.heap.size + 3 := by rw [hW1]; simp
  have hmc : W1.cell? ⟨w.heap.size, 0, none⟩ = some (.int .i64 most) := by rw [hW1]; exact cell_al (cell_al (by simp) _) _
  have hc6 : W1.cell? ⟨w.heap.size + 1, 0, none⟩ = some (.slice none 0 0) := by
    rw [hW1]; refine cell_al ?_ _
    have h := heap_alloc_new (w.alloc (.cells #[.int .i64 most] 3)) (.cells #[.slice none 0 0] 26)
    rw [World.size_alloc] at h
    exact cell_of_one h
  have hc7 : W1.cell? ⟨w.heap.size + 2, 0, none⟩ = some (.int .i64 0) := by
    rw [hW1]
    have h := heap_alloc_new ((w.alloc (.cells #[.int .i64 most] 3)).alloc (.cells #[.slice none 0 0] 26)) (.cells #[.int .i64 0] 27)
    rw [World.size_alloc, World.size_alloc] at h
    exact cell_of_one h
  have hf6 : W1.frozen? ⟨w.heap.size + 1, 0, none⟩ = false := by
    rw [hW1]; refine froz_al (v := .slice none 0 0) ?_ ?_ _
    · have h := heap_alloc_new (w.alloc (.cells #[.int .i64 most] 3)) (.cells #[.slice none 0 0] 26)
      rw [World.size_alloc] at h
      exact cell_of_one h
    · have h := heap_alloc_new (w.alloc (.cells #[.int .i64 most] 3)) (.cells #[.slice none 0 0] 26)
      rw [World.size_alloc] at h
      exact free_of_one h
  have hf7 : W1.frozen? ⟨w.heap.size + 2, 0, none⟩ = false := by
    rw [hW1]
    have h := heap_alloc_new ((w.alloc (.cells #[.int .i64 most] 3)).alloc (.cells #[.slice none 0 0] 26)) (.cells #[.int .i64 0] 27)
    rw [World.size_alloc, World.size_alloc] at h
    exact free_of_one h
  have HE := Aside0.mk he
  have HM := Aside0.mk hmc
  have H6 := Aside0.mk hc6
  have H7 := Aside0.mk hc7
  have G6 := Aside0.mk hf6
  have G7 := Aside0.mk hf7
  have HB := Aside0.mk hb1
  have HW1 := Aside0.mk hW1
  clear he hmc hc6 hc7 hf6 hf7 hb1 hW1 hkc hr0 hr1 hs1 hcv
  by_cases h0 : cv = 0
  · have hneg : most < 0 := HE.out.resolve_left (by simpa using h0)
    subst h0
    go_enter Tryd.func10, Tryd.ntmps10
    go_wp2_with (fail)
    rw [← HW1.out]
    refine HCK.out.mono ?_
    rintro e w1 ⟨rfl, hb⟩
    have hm1 := pw_cell_below hb HM.out
    have h61 := pw_cell_below hb H6.out
    have h71 := pw_cell_below hb H7.out
    have g61 := froz_below H6.out G6.out hb
    have g71 := froz_below H7.out G7.out hb
    have HB1 := Aside0.mk (below_then HB.out HB.out.size hb)
    clear hb
    go_wp2
    obtain ⟨k6, k7⟩ := two_set (a := .slice none 0 0) (b := .int .i64 1) h61 h71 (by omega)
    refine bodyPost_ret (v := .tuple #[.slice none 0 0, .int .i64 1]) (by simp [results, Tryd.results10, go_sem, k6, k7]) rfl ?_
    exact ⟨_, rfl, Kd.R_nil _ _ _ _ _, (HB1.out.setCell (p := ⟨w.heap.size + 1, 0, none⟩) (by simp) _).setCell (p := ⟨w.heap.size + 1 + 1, 0, none⟩) (by simp; omega) _⟩
  · have hz1 : (cv == 0) = false := by simpa using h0
    have hz2 : (cv != 0) = true := by simpa using h0
    rw [if_neg h0]
    clear h0
    go_enter Tryd.func10, Tryd.ntmps10
    go_wp2_with (fail)
    rw [← HW1.out]
    refine HCK.out.mono ?_
    rintro e w1 ⟨rfl, hb⟩
    have hm1 := pw_cell_below hb HM.out
    have h61 := pw_cell_below hb H6.out
    have h71 := pw_cell_below hb H7.out
    have g61 := froz_below H6.out G6.out hb
    have g71 := froz_below H7.out G7.out hb
    have HB1 := Aside0.mk (below_then HB.out HB.out.size hb)
    clear hb
    go_wp2
    obtain ⟨k6, k7⟩ := two_set (a := .slice none 0 0) (b := .int .i64 cv) h61 h71 (by omega)
    refine bodyPost_ret (v := .tuple #[.slice none 0 0, .int .i64 cv]) (by simp [results, Tryd.results10, go_sem, k6, k7]) rfl ?_
    exact ⟨_, rfl, Kd.R_nil _ _ _ _ _, (HB1.out.setCell (p := ⟨w.heap.size + 1, 0, none⟩) (by simp) _).setCell (p := ⟨w.heap.size + 1 + 1, 0, none⟩) (by simp; omega) _⟩
/-- Between two rounds of List's range. L: l's box; H: how far the heap went when the range began. -/
structure LSt (w : World) (L H : Nat) (most : Int) (O : Nat → Prop) (pre : List Nat) (W : World) : Prop where
  B : Below w.heap.size w W
  cm : W.cell? ⟨w.heap.size, 0, none⟩ = some (.int .i64 most)
  c6 : W.cell? ⟨w.heap.size + 1, 0, none⟩ = some (.slice none 0 0)
  c7 : W.cell? ⟨w.heap.size + 2, 0, none⟩ = some (.int .i64 0)
  f6 : W.frozen? ⟨w.heap.size + 1, 0, none⟩ = false
  f7 : W.frozen? ⟨w.heap.size + 2, 0, none⟩ = false
  fl : W.frozen? ⟨L, 0, none⟩ = false
  cl : ∃ v, W.cell? ⟨L, 0, none⟩ = some v ∧ Kd.R (Kd.int .u32) 37 W w.heap.size (fun k => H ≤ k ∧ ¬ O k) v (pre.map fun m : Nat => (m : Int))
  OH : ∀ k, O k → H ≤ k
  sz : H ≤ W.heap.size
  le : (pre.length : Int) ≤ most
structure LEnd (w : World) (H : Nat) (most : Int) (O : Nat → Prop) (pre : List Nat) (W : World) : Prop where
  B : Below w.heap.size w W
  c6 : W.cell? ⟨w.heap.size + 1, 0, none⟩ = some (.slice none 0 0)
  c7 : W.cell? ⟨w.heap.size + 2, 0, none⟩ = some (.int .i64 2)
  OH : ∀ k, O k → H ≤ k
  sz : H ≤ W.heap.size
  lt : most < (pre.length : Int)
theorem froz_only {S : Nat → Prop} {A B : World} {k : Nat} {v : Value} (h : Only S A B) (hs : ¬ S k) (hc : A.cell? ⟨k, 0, none⟩ = some v) (hf : A.frozen? ⟨k, 0, none⟩ = false) : B.frozen? ⟨k, 0, none⟩ = false :=
  (World.frozen?_of_block (a := ⟨k, 0, none⟩) (h.block k (World.block_lt_of_cell? A ⟨k, 0, none⟩ hc) hs)).trans hf
theorem LSt.stable (w : World) (L H : Nat) (most : Int) (hL : w.heap.size + 3 ≤ L) (hH : L < H) : Stable (LSt w L H most) := by
  intro O O' s A B h ho hle hnew
  obtain ⟨v, hv, hr⟩ := h.cl
  have hn : ∀ k, k < H → ¬ O k := fun k hk e => by have := h.OH k e; omega
  have hsz := h.sz
  have hos := ho.size
  refine ⟨h.B.trans (ho.below h.B.size (fun k e => by have := h.OH k e; omega)), cell_only ho (hn _ (by omega)) h.cm, cell_only ho (hn _ (by omega)) h.c6, cell_only ho (hn _ (by omega)) h.c7,
    froz_only ho (hn _ (by omega)) h.c6 h.f6, froz_only ho (hn _ (by omega)) h.c7 h.f7, froz_only ho (hn _ (by omega)) hv h.fl, ⟨v, cell_only ho (hn _ (by omega)) hv, ?_⟩, fun k e => ?_, by omega, h.le⟩
  · refine Kd.R_step (Kd.R_reok (ok := fun k => H ≤ k ∧ ¬ O' k) rfl hr (fun k hk => ?_)) (fun k hk hl => ho.block k hl (fun e => hk.2 (hle k e)))
    have h1 := hr.1 k hk
    have h2 := Kd.R_lt hr k hk
    refine ⟨h1.1, fun e => ?_⟩
    rcases hnew k e with h3 | h3
    · exact h1.2 h3
    · omega
  · rcases hnew k e with h1 | h1
    · exact h.OH k h1
    · omega
theorem LEnd.stable (w : World) (H : Nat) (most : Int) (hH : w.heap.size + 3 ≤ H) : Stable (LEnd w H most) := by
  intro O O' s A B h ho hle hnew
  have hn : ∀ k, k < H → ¬ O k := fun k hk e => by have := h.OH k e; omega
  have hsz := h.sz
  have hos := ho.size
  refine ⟨h.B.trans (ho.below h.B.size (fun k e => by have := h.OH k e; omega)), cell_only ho (hn _ (by omega)) h.c6, cell_only ho (hn _ (by omega)) h.c7, fun k e => ?_, by omega, h.lt⟩
  rcases hnew k e with h1 | h1
  · exact h.OH k h1
  · omega
theorem LSt.put {w : World} {L H : Nat} {most : Int} (hL : w.heap.size + 3 ≤ L) (hH : L < H) {O : Nat → Prop} {pre : List Nat} {W w1 : World} {v v1 : Value} {x : Nat} (h : LSt w L H most O pre W) (hv : W.cell? ⟨L, 0, none⟩ = some v)
    (hr : Kd.R (Kd.int .u32) 37 W w.heap.size (fun k => H ≤ k ∧ ¬ O k) v (pre.map fun m : Nat => (m : Int))) (hg : W.grownBy w1 v.ownBlock)
    (hr1 : Kd.R (Kd.int .u32) 37 w1 w.heap.size (fun k => H ≤ k ∧ ¬ O k) v1 ((pre.map fun m : Nat => (m : Int)) ++ [(x : Int)])) (hlt : (pre.length : Int) < most) :
    LSt w L H most O (pre ++ [x]) (w1.setCell ⟨L, 0, none⟩ v1) ∧ Only (fun k => k = L ∨ (H ≤ k ∧ ¬ O k)) W (w1.setCell ⟨L, 0, none⟩ v1) := by
  have ho : Only (fun k => H ≤ k ∧ ¬ O k) W w1 := Only.of_grownBy hg (fun k hk => hr.1 k hk)
  have ho2 : Only (fun k => k = L ∨ (H ≤ k ∧ ¬ O k)) W (w1.setCell ⟨L, 0, none⟩ v1) := (ho.mono (fun k _ e => .inr e)).setCell ⟨L, 0, none⟩ v1 (.inl (.inl rfl))
  have hn : ∀ k, k < L → ¬ (k = L ∨ (H ≤ k ∧ ¬ O k)) := fun k hk e => by omega
  have hsz := h.sz
  have hos := ho2.size
  have hl1 : w1.cell? ⟨L, 0, none⟩ = some v := cell_only ho (fun e => by omega) hv
  refine ⟨⟨h.B.trans (ho2.below h.B.size (fun k e => by omega)), cell_only ho2 (hn _ (by omega)) h.cm, cell_only ho2 (hn _ (by omega)) h.c6, cell_only ho2 (hn _ (by omega)) h.c7,
    froz_only ho2 (hn _ (by omega)) h.c6 h.f6, froz_only ho2 (hn _ (by omega)) h.c7 h.f7, ?_, ⟨v1, World.cell?_setCell_same' _ _ _ (by rw [hl1]; rfl), ?_⟩, h.OH, by omega, by simp; omega⟩, ho2⟩
  · have := froz_only ho (fun e => by omega) hv h.fl
    rw [← this]
    exact World.frozen?_setCell _ _ _ _
  · rw [List.map_append]
    exact Kd.R_step hr1 (fun k hk _ => Below.heap_setCell w1 ⟨L, 0, none⟩ v1 k (by rintro rfl; have := hk.1; omega))
set_option maxHeartbeats 4000000 in
theorem list_main (A0 : Option Addr) (c0 : Nat) (rows : List (List Int)) (A1 : Option Addr) (c1 : Nat) (want : List Int) (most : Int) (w : World) (hr0 : Kd.C (Kd.slice 3 (Kd.int .i64)) w A0 rows.length rows) (hc0 : rows.length ≤ c0)
    (hr1 : Kd.C (Kd.int .i64) w A1 want.length want) (hc1 : want.length ≤ c1) (hT : TabW w) (hz : chk rows want = 0) (hm0 : 0 ≤ most) :
    Calls Tryd.prog 10 #[.slice A0 rows.length c0, .slice A1 want.length c1, .int .i64 most] w (ListPost (if ((masks rows want).length : Int) > most then [] else masks rows want) (if ((masks rows want).length : Int) > most then 2 else 0) w) := by
  obtain ⟨res, hres⟩ : ∃ res : List Int × Int, res = (if ((masks rows want).length : Int) > most then [] else masks rows want, if ((masks rows want).length : Int) > most then 2 else 0) := ⟨_, rfl⟩
  have h1 : (if ((masks rows want).length : Int) > most then [] else masks rows want) = res.1 := by rw [hres]
  have h2 : (if ((masks rows want).length : Int) > most then (2 : Int) else 0) = res.2 := by rw [hres]
  rw [h1, h2]
  have HRES := Aside0.mk hres
  clear h1 h2 hres
  obtain ⟨kc, hkc⟩ := Ev.rounds (check_ev rows want)
  obtain ⟨W1, hW1⟩ : ∃ W, W = ((w.alloc (.cells #[.int .i64 most] 3)).alloc (.cells #[.slice none 0 0] 26)).alloc (.cells #[.int .i64 0] 27) := ⟨_, rfl⟩
  have hb1 : Below w.heap.size w W1 := by rw [hW1]; exact below_alloc (below_alloc (below_alloc (Below.refl _ _) _) _) _
  have HCK := Aside0.mk (pick_Check.calls kc A0 c0 rows A1 c1 want (chk rows want) W1 (Kd.C_below hr0 hb1) hc0 (Kd.C_below hr1 hb1) hc1 (by unfold pick_Check.f; rw [hkc]; rfl))
  rw [hz] at HCK
  have HZ := Aside0.mk hz
  have HT := Aside0.mk hT
  obtain ⟨h16, h10, _, hrr⟩ := chk_zero hz
  have hs1 : W1.heap.size = w.heap.size + 3 := by rw [hW1]; simp
  have hmc : W1.cell? ⟨w.heap.size, 0, none⟩ = some (.int .i64 most) := by rw [hW1]; exact cell_al (cell_al (by simp) _) _
  have hc6 : W1.cell? ⟨w.heap.size + 1, 0, none⟩ = some (.slice none 0 0) := by
    rw [hW1]; refine cell_al ?_ _
    have h := heap_alloc_new (w.alloc (.cells #[.int .i64 most] 3)) (.cells #[.slice none 0 0] 26)
    rw [World.size_alloc] at h
    exact cell_of_one h
  have hc7 : W1.cell? ⟨w.heap.size + 2, 0, none⟩ = some (.int .i64 0) := by
    rw [hW1]
    have h := heap_alloc_new ((w.alloc (.cells #[.int .i64 most] 3)).alloc (.cells #[.slice none 0 0] 26)) (.cells #[.int .i64 0] 27)
    rw [World.size_alloc, World.size_alloc] at h
    exact cell_of_one h
  have hf6 : W1.frozen? ⟨w.heap.size + 1, 0, none⟩ = false := by
    rw [hW1]; refine froz_al (v := .slice none 0 0) ?_ ?_ _
    · have h := heap_alloc_new (w.alloc (.cells #[.int .i64 most] 3)) (.cells #[.slice none 0 0] 26)
      rw [World.size_alloc] at h
      exact cell_of_one h
    · have h := heap_alloc_new (w.alloc (.cells #[.int .i64 most] 3)) (.cells #[.slice none 0 0] 26)
      rw [World.size_alloc] at h
      exact free_of_one h
  have hf7 : W1.frozen? ⟨w.heap.size + 2, 0, none⟩ = false := by
    rw [hW1]
    have h := heap_alloc_new ((w.alloc (.cells #[.int .i64 most] 3)).alloc (.cells #[.slice none 0 0] 26)) (.cells #[.int .i64 0] 27)
    rw [World.size_alloc, World.size_alloc] at h
    exact free_of_one h
  have HR0 := Aside0.mk hr0
  have HR1 := Aside0.mk hr1
  have HRR := Aside0.mk hrr
  have HM := Aside0.mk hmc
  have H6 := Aside0.mk hc6
  have H7 := Aside0.mk hc7
  have G6 := Aside0.mk hf6
  have G7 := Aside0.mk hf7
  have HB := Aside0.mk hb1
  have HW1 := Aside0.mk hW1
  have HS1 := Aside0.mk hs1
  clear hmc hc6 hc7 hf6 hf7 hb1 hW1 hkc hr0 hr1 hs1 hz hT hrr
  refine (callsIn_wide (n := 3)).1 ?_
  refine callsIn_of_wp_marks Tryd.func10 rfl trivial ?_
  simp only [Tryd.ntmps10, List.size_toArray, List.length_cons, List.length_nil, Nat.reduceAdd, Nat.reduceSub, Array.replicate_succ, Array.replicate_zero, List.push_toArray, List.append_toArray, List.nil_append, List.cons_append]
  gi_wp2
  refine ⟨trivial, ?_⟩
  rw [← HW1.out]
  refine (callsIn_wide.2 HCK.out).mono ?_
  rintro e w1 ⟨rfl, hb⟩
  have hm1 := pw_cell_below hb HM.out
  have hbw : Below w.heap.size w w1 := below_then HB.out HB.out.size hb
  have hb9 : Below w1.heap.size w1 (w1.alloc (.cells #[.slice none 0 0] 26)) := below_alloc (Below.refl _ _) _
  have hbw9 := below_then hbw hbw.size hb9
  have HALL := Aside0.mk (all_any A0 c0 rows A1 c1 want (w1.alloc (.cells #[.slice none 0 0] 26)) (Kd.C_below HR0.out hbw9) hc0 (Kd.C_below HR1.out hbw9) hc1 (HT.out.below hbw9) (by omega) (by omega) (fun row hrow => by have := (HRR.out row hrow).1; omega))
  have HB1 := Aside0.mk hb
  clear hb hbw hb9 hbw9
  gi_wp2
  refine ⟨trivial, ?_⟩
  refine (callsIn_wide.2 HALL.out).mono ?_
  rintro e w3 ⟨bo, br, bw, rfl, hb3, hbo, hcb, hheld⟩
  obtain ⟨A0', c0', A1', c1', hheld⟩ := hheld HZ.out
  rw [HZ.out] at hcb
  have hb13 : Below W1.heap.size W1 w3 := below_then (below_then HB1.out HB1.out.size (below_alloc (Below.refl _ _) _)) (Nat.le_trans HB1.out.size (by simp)) hb3
  have hL := HB1.out.size
  rw [HS1.out] at hL
  have hcl := heap_alloc_new w1 (.cells #[.slice none 0 0] 26)
  have hl3 := pw_cell_below hb3 (cell_of_one hcl)
  have hfl3 := froz_below (cell_of_one hcl) (free_of_one hcl) hb3
  have hs9 : (w1.alloc (.cells #[.slice none 0 0] 26)).heap.size = w1.heap.size + 1 := by simp
  have hb3s := hb3.size
  rw [hs9] at hb3s hbo hheld
  have hS0 : LSt w w1.heap.size w3.heap.size most (fun _ => False) [] w3 :=
    ⟨below_then HB.out HB.out.size hb13, pw_cell_below hb13 HM.out, pw_cell_below hb13 H6.out, pw_cell_below hb13 H7.out, froz_below H6.out G6.out hb13, froz_below H7.out G7.out hb13, hfl3, ⟨_, hl3, Kd.R_nil _ _ _ _ _⟩, fun k e => e.elim, Nat.le_refl _, by simpa using hm0⟩
  have htab : 0 < w.heap.size := World.block_lt_of_cell? w ⟨0, 0, none⟩ (HT.out.out 0 (by decide))
  have HCB := Aside0.mk hcb
  have HHD := Aside0.mk hheld
  have HBO := Aside0.mk hbo
  have HST := Aside0.mk hS0
  clear hcb hheld hbo hS0 hb13 hcl hl3 hfl3 hs9 HB1 HALL HCK hb3
  gi_wp2
  refine wp_range (n := 3) (ps := #[22]) rfl (by decide) (gf := 29) (lb := #[.pointer (some ⟨bo, 0, none⟩), .pointer (some ⟨br, 0, none⟩), .pointer (some ⟨bw, 0, none⟩)]) rfl trivial (Fn.entersP_of rfl rfl ⟨_, rfl⟩)
    (Kc := fun k => k = 0 ∨ (w1.heap.size + 1 ≤ k ∧ k < w3.heap.size)) (fun k hk => by omega) (Rep := RepM) (fun h _ => h) (fun h => by rw [show _ = _ from h]; rfl)
    (iter_ok 2 rows want bo br bw (w1.heap.size + 1) _ A0' c0' A1' c1' w3 HHD.out HCB.out (.inr HBO.out) (fun k hk => by omega))
    (LSt w w1.heap.size w3.heap.size most) (fun c O pre W => c = .ret ∧ LEnd w w3.heap.size most O pre W) (LSt.stable _ _ _ _ hL (by omega)) ?sx HST.out
    (fun vs => { tmps := #[.slice A0 rows.length c0, .slice A1 want.length c1, .int .i64 most, undef, undef, .pointer (some ⟨w.heap.size, 0, none⟩), .pointer (some ⟨w.heap.size + 1, 0, none⟩), .pointer (some ⟨w.heap.size + 1 + 1, 0, none⟩), .int .i64 0, .pointer (some ⟨w1.heap.size, 0, none⟩),
      vs.getD 0 undef, .slice A0 rows.length c0, .slice A1 want.length c1, .int .i64 0, .int .i64 0, .bool false, undef, .int .i64 most, .bool (decide (most < 0)), .slice A0 rows.length c0, .slice A1 want.length c1,
      .func (.func 29) #[] #[.pointer (some ⟨bo, 0, none⟩), .pointer (some ⟨br, 0, none⟩), .pointer (some ⟨bw, 0, none⟩)], vs.getD 0 undef, undef, undef, undef, undef, undef, undef, undef, undef, undef], defers := [] }) ?ca ?bd ?dn ?st
  case sx =>
    rintro c O O' s A B ⟨rfl, h⟩ ho hle hnew
    exact ⟨rfl, LEnd.stable _ _ _ (by omega) _ _ _ _ _ h ho hle hnew⟩
  case ca =>
    intro l vs W K hvs hK
    obtain ⟨v, rfl⟩ := Array.size_eq_one_iff.1 hvs
    gi_wp2
    exact hK
  case bd =>
    rintro l O pre x vs W0 W1 hl hrec hO hI ho rfl hlen
    have hx0 : (#[Value.int .u32 (x : Int)] : Array Value).getD 0 undef = .int .u32 x := rfl
    simp only [hx0]
    have hS := LSt.stable w w1.heap.size w3.heap.size most hL (by omega) _ _ _ _ _ hI ho (fun _ e => e) (fun _ e => .inl e)
    obtain ⟨v, hv, hr⟩ := hS.cl
    obtain ⟨Av, cv, rfl⟩ := Kd.R_slice hr
    have hcm := hS.cm
    have hle := hS.le
    rw [List.length_map] at hv hr
    have HSA := Aside0.mk hS
    have HV := Aside0.mk hr
    have HO := Aside0.mk hO
    have HW01 := Aside0.mk ho.size
    clear hI ho hr hS hO hrec
    have hlen2 := masksN_length rows want h16
    by_cases hfull : (pre.length : Int) = most
    · have hc6 := HSA.out.c6
      have hc7 := HSA.out.c7
      have hf6 := HSA.out.f6
      have hf7 := HSA.out.f7
      have hq : ((pre.length : Int) == most) = true := by simpa using hfull
      gi_wp2
      have hn : ∀ k, k < w3.heap.size → ¬ O k := fun k hk e => by have := HSA.out.OH k e; omega
      obtain ⟨k6, k7⟩ := two_set (a := .slice none 0 0) (b := .int .i64 2) hc6 hc7 (by omega)
      exact ⟨((Only.refl _ _).setCell ⟨w.heap.size + 1, 0, none⟩ _ (.inl (hn (w.heap.size + 1) (by omega)))).setCell ⟨w.heap.size + 1 + 1, 0, none⟩ _ (.inl (hn (w.heap.size + 1 + 1) (by omega))), rfl,
        (HSA.out.B.setCell (p := ⟨w.heap.size + 1, 0, none⟩) (by simp) _).setCell (p := ⟨w.heap.size + 1 + 1, 0, none⟩) (by simp; omega) _, k6, k7, HSA.out.OH, by simpa using HSA.out.sz, by simp; omega⟩
    · have hq : ((pre.length : Int) == most) = false := by simpa using hfull
      gi_wp2_with (gi_at_builtin; refine (show (Nat → _) → _ from fun h => h 0) ?_)
      intro _
      refine R_append_in (h1 := fun _ => rfl) (enc := fun x : Int => .int .u32 x) w.heap.size rfl (.tmp 27) (.tmp 29) 26 37 (.int .u32 0) 4 rfl rfl info_u32 rfl (by decide) (.slice Av pre.length cv) (pre.map fun m : Nat => (m : Int)) (x : Int) (fun k => w3.heap.size ≤ k ∧ ¬ O k) rfl rfl
        (fun k hk => ⟨Nat.le_trans HSA.out.sz hk, fun e => by have := (HO.out k e).2; have := HW01.out; omega⟩) HV.out HSA.out.B.size (by rw [List.length_map]; omega) ?_
      intro v1 w5 hr1 hg
      have hg2 := Only.of_grownBy hg (S := fun k => w3.heap.size ≤ k ∧ ¬ O k) (fun k hk => HV.out.1 k hk)
      have hv5 := cell_only hg2 (fun e => by omega) hv
      have hf5 := froz_only hg2 (fun e => by omega) hv HSA.out.fl
      obtain ⟨hS2, hO2⟩ := HSA.out.put hL (by omega) hv HV.out hg hr1 (by omega)
      obtain ⟨A5, c5, rfl⟩ := Kd.R_slice hr1
      rw [show ((pre.map fun m : Nat => (m : Int)) ++ [(x : Int)]).length = pre.length + 1 by simp] at hS2 hO2
      have HS2 := Aside0.mk hS2
      have HO2 := Aside0.mk hO2
      clear hr1 hg hg2 hS2 hO2
      gi_wp2
      refine ⟨HO2.out.mono (fun k _ e h => ?_), HS2.out⟩
      rcases e with e | ⟨e1, e2⟩
      · rcases h with h | h
        · omega
        · have := HSA.out.OH k h; omega
      · rcases h with h | h
        · omega
        · exact e2 h
  case dn =>
    rintro D O xs W hD rfl hI hK hOD
    obtain ⟨v, hv, hr⟩ := hI.cl
    obtain ⟨Av, cv, rfl⟩ := Kd.R_slice hr
    rw [List.length_map] at hv hr
    have hc6 := hI.c6
    have hc7 := hI.c7
    have hf6 := hI.f6
    have hf7 := hI.f7
    have HSA := Aside0.mk hI
    have HV := Aside0.mk hr
    have HK := Aside0.mk hK
    have HOD := Aside0.mk hOD
    clear hI hr hK hOD
    gi_wp2
    obtain ⟨k6, k7⟩ := two_set (a := .slice Av (masksN rows want).length cv) (b := .int .i64 0) hc6 hc7 (by omega)
    obtain ⟨W4, hW4⟩ : ∃ W4, (W.setCell ⟨w.heap.size + 1, 0, none⟩ (.slice Av (masksN rows want).length cv)).setCell ⟨w.heap.size + 1 + 1, 0, none⟩ (.int .i64 0) = W4 := ⟨_, rfl⟩
    have hO4 : Only (fun k => k = w.heap.size + 1 ∨ k = w.heap.size + 2) W W4 := by
      rw [← hW4]
      exact ((Only.refl _ _).setCell ⟨w.heap.size + 1, 0, none⟩ _ (.inl (.inl rfl))).setCell ⟨w.heap.size + 1 + 1, 0, none⟩ _ (.inl (.inr rfl))
    rw [hW4] at k6 k7 ⊢
    have hK4 := keeps_of hO4 (fun e => by omega) HK.out
    refine ⟨by simp, .inl ⟨_, _, rfl, run_takeDeferred hK4, ?_⟩⟩
    have hO5 : Only (fun k => k = D) W4 (W4.putObj D (.deferred none)) := Only.putObj _ _ _ rfl
    have k6' := cell_only hO5 (fun e => by omega) k6
    have k7' := cell_only hO5 (fun e => by omega) k7
    have hsz := HSA.out.sz
    have hle := HSA.out.le
    have hml : (masks rows want).length = (masksN rows want).length := by unfold masks; rw [List.length_map]
    refine ⟨.tuple #[.slice Av (masksN rows want).length cv, .int .i64 0], by simp [results, Tryd.results10, go_sem, k6', k7'], ?_⟩
    have hres := HRES.out
    rw [hml, if_neg (by omega), if_neg (by omega)] at hres
    rw [hres]
    refine ⟨_, rfl, ?_, (HSA.out.B.trans (hO4.below HSA.out.B.size (fun k e => by omega))).trans (hO5.below (by have := hO4.size; omega) (fun k e => by omega))⟩
    refine Kd.R_mono (ok := fun k => w3.heap.size ≤ k ∧ ¬ O k) (Kd.R_step (Kd.R_step HV.out (fun k hk hl => hO4.block k hl (fun e => by omega))) (fun k hk hl => hO5.block k hl (fun e => hk.2 (by rw [e]; exact HOD.out)))) (fun _ _ => trivial)
  case st =>
    rintro D O c pre W hD ⟨rest, hrest⟩ ⟨rfl, hI⟩ hK hOD
    have HSA := Aside0.mk hI
    have HK := Aside0.mk hK
    clear hI hK
    gi_wp2
    refine ⟨by simp, .inl ⟨_, _, rfl, run_takeDeferred HK.out, ?_⟩⟩
    have hO5 : Only (fun k => k = D) W (W.putObj D (.deferred none)) := Only.putObj _ _ _ rfl
    have k6' := cell_only hO5 (fun e => by omega) HSA.out.c6
    have k7' := cell_only hO5 (fun e => by omega) HSA.out.c7
    have hml : (masks rows want).length = (masksN rows want).length := by unfold masks; rw [List.length_map]
    have hlt := HSA.out.lt
    have hpl : pre.length ≤ (masksN rows want).length := by rw [hrest, List.length_append]; omega
    refine ⟨.tuple #[.slice none 0 0, .int .i64 2], by simp [results, Tryd.results10, go_sem, k6', k7'], ?_⟩
    have hres := HRES.out
    rw [hml, if_pos (by omega), if_pos (by omega)] at hres
    rw [hres]
    exact ⟨_, rfl, Kd.R_nil _ _ _ _ _, HSA.out.B.trans (hO5.below HSA.out.B.size (fun k e => by omega))⟩
end Go.Proofs.YtbdlihldmmbdmaaDoor.PickList
