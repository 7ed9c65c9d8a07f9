/- pick.All: what it hands back, and what that reads: copies of the rows and the wants. -/
import Derived.Test.YtbdlihldmmbdmaaDoorPickIter
import Derived.Test.YtbdlihldmmbdmaaDoorSK9
import Derived.Deep.RegionHeld3
namespace Go.Proofs.YtbdlihldmmbdmaaDoor.PickAll
open Go.RowKit Go.Proofs.YtbdlihldmmbdmaaDoor.SK Go.Proofs.YtbdlihldmmbdmaaDoorW.PrintWords Go.Proofs.YtbdlihldmmbdmaaDoorW.PrintMore Go.Proofs.YtbdlihldmmbdmaaDoor.PickSpec Go.Proofs.YtbdlihldmmbdmaaDoor.PickFn Go.Proofs.YtbdlihldmmbdmaaDoor.Bits Go.Proofs.YtbdlihldmmbdmaaDoor.Plain Go.Proofs.YtbdlihldmmbdmaaDoor.Range Go.Proofs.YtbdlihldmmbdmaaDoor.PickWalker
set_option linter.unusedVariables false

theorem info_row : (Tryd.prog.info? 23).map (fun i => (i.zero, i.size, i.bytes)) = some (some (.slice none 0 0), 1, 24) := by kernel_rfl

/-- What All leaves: a function, its three boxes; what they hold. -/
def AllPost (rows : List (List Int)) (want : List Int) (w : World) (e : Ending) (w' : World) : Prop :=
  ∃ bo br bw : Nat, e = .returned (.func (.func 29) #[] #[.pointer (some ⟨bo, 0, none⟩), .pointer (some ⟨br, 0, none⟩), .pointer (some ⟨bw, 0, none⟩)]) ∧ Below w.heap.size w w' ∧
    (w.heap.size ≤ bo ∧ bo < w'.heap.size) ∧
    w'.cell? ⟨bo, 0, none⟩ = some (.bool (chk rows want == 0)) ∧
    (chk rows want = 0 → ∃ A0 c0 A1 c1, Held rows want br bw w.heap.size (fun k => k = 0 ∨ (w.heap.size ≤ k ∧ k < w'.heap.size)) A0 c0 A1 c1 w')

theorem R_made_rows (W : World) (base n : Nat) (ok : Nat → Prop) (hok : ok W.heap.size) (hb : base ≤ W.heap.size) (hm : n ≤ 9223372036854775807) :
    Kd.R (Kd.slice 3 (Kd.int .i64)) 23 (W.alloc (.cells (madeCells #[.slice none 0 0] n) 23)) base ok (.slice (some ⟨W.heap.size, 0, none⟩) n n) (List.replicate n []) := by
  refine ⟨fun k hk => ?_, (madeCells #[.slice none 0 0] n).toList, ?_, ?_⟩
  · have : W.heap.size = k := by simpa [Value.ownBlock] using hk
    subst this
    exact hok
  · have h2 := World.ownsRow_lit (base := base) (e := 23) (size := 1) W (madeCells #[.slice none 0 0] n) n hb (by simpa [maxLen] using hm) (by simp [size_madeCells])
    simpa [Kd.slice] using h2
  · have h := Kd.reps_made (R := (Kd.slice 3 (Kd.int .i64)).M (W.alloc (.cells (madeCells #[.slice none 0 0] n) 23)) base (fun k => ok k ∧ some k ≠ (Value.slice (some ⟨W.heap.size, 0, none⟩) n n).ownBlock)) (z := .slice none 0 0) (size := 1) (z0 := ([] : List Int)) rfl (by decide) ⟨_, rfl, Kd.R_nil _ _ _ _ _⟩ n
    simpa [Kd.slice, Value.cells] using h
/-- The state of All's loop: what the boxes hold, the copy of the wants, the copies of the first j rows. g: the rows' block; a: where the copy of the wants begins. -/
structure St (rows : List (List Int)) (want : List Int) (w : World) (bw bo a g : Nat) (vw : Value) (b : Bool) (j : Nat) (W : World) : Prop where
  B : Below w.heap.size w W
  cw : W.cell? ⟨bw, 0, none⟩ = some vw
  cb : W.cell? ⟨bo, 0, none⟩ = some (.bool b)
  co : W.cell? ⟨g + 1, 0, none⟩ = some (.slice (some ⟨g, 0, none⟩) rows.length rows.length)
  RV : Kd.R (Kd.int .i64) 3 W w.heap.size (fun k => a ≤ k ∧ k < g) vw want
  RR : Kd.R (Kd.slice 3 (Kd.int .i64)) 23 W w.heap.size (fun k => k = g ∨ g + 2 ≤ k) (.slice (some ⟨g, 0, none⟩) rows.length rows.length) (upTo j rows (List.replicate rows.length []))
  sz : g + 2 ≤ W.heap.size
theorem St.put {rows : List (List Int)} {want : List Int} {w : World} {bw bo a g : Nat} {vw : Value} {b : Bool} {j : Nat} {W W1 : World} (h : St rows want w bw bo a g vw b j W) (hb : Below W.heap.size W W1) (hbw : bw < g) (hbo : bo < g) (hwg : w.heap.size ≤ g) (hj : j < rows.length)
    {v : Value} {x : List Int} (hx : x = rows[j]) (hv : Kd.R (Kd.int .i64) 3 W1 W.heap.size (fun _ => True) v x) :
    St rows want w bw bo a g vw b (j + 1) (W1.setCell ⟨g, j, none⟩ v) := by
  have hsz := h.sz
  have hB1 : Below w.heap.size w W1 := below_then h.B h.B.size hb
  have far : ∀ (k i : Nat), k ≠ g → (W1.setCell ⟨g, j, none⟩ v).cell? ⟨k, i, none⟩ = W1.cell? ⟨k, i, none⟩ := fun k i hk => World.cell?_of_block (a := ⟨k, i, none⟩) (Below.heap_setCell W1 ⟨g, j, none⟩ v _ hk)
  have hR1 := Kd.R_below h.RR hb
  have hrl : (upTo j rows (List.replicate rows.length [])).length = rows.length := by rw [upTo_length j _ _ (by simp)]; simp
  obtain ⟨c, hcl, _, hcc, _⟩ := Kd.R_elem hR1 [] (j : Int) (by omega) (by omega)
  have hseg := Kd.R_seg (okp := fun k => W.heap.size ≤ k) hR1 (j : Int) (by omega) (by omega) (c := c) (seg := [v]) (j := 0) hcl hcc (by simp [Kd.slice]) (x' := x)
    (by
      have h1 : c.length = 1 := hcl
      have h2 : (c.take 0 ++ [v] ++ c.drop (0 + [v].length)) = [v] := by simp [List.drop_eq_nil_of_le (show c.length ≤ 1 by omega)]
      rw [h2]
      exact ⟨v, rfl, Kd.R_lower (Kd.R_mono (Kd.R_bound hv) (fun k hk => hk.2.1)) h.B.size⟩)
    (fun k hk => ⟨.inr (by omega), by omega⟩)
  have e1 : (W1.setCells g ((j : Int).toNat * (Kd.slice 3 (Kd.int .i64)).sz + 0) [v]) = W1.setCell ⟨g, j, none⟩ v := by
    simp [Kd.slice, World.setCells]
  rw [e1] at hseg
  have e2 : (upTo j rows (List.replicate rows.length [])).set (j : Int).toNat x = upTo (j + 1) rows (List.replicate rows.length []) := by
    rw [Int.toNat_natCast, hx]
    exact upTo_set j rows (List.replicate rows.length []) (by simpa using hj) (by simp)
  rw [e2] at hseg
  refine ⟨hB1.setCell (p := ⟨g, j, none⟩) hwg v, ?_, ?_, ?_, ?_, hseg.1, ?_⟩
  · rw [far _ _ (by omega)]; exact pw_cell_below hb h.cw
  · rw [far _ _ (by omega)]; exact pw_cell_below hb h.cb
  · rw [far _ _ (by omega)]; exact pw_cell_below hb h.co
  · exact Kd.R_far (Kd.R_below h.RV hb) (p := ⟨g, j, none⟩) (fun k hk => by show k ≠ g; omega) v
  · have := hseg.2.size
    have := hb.size
    omega
theorem St.elem {rows : List (List Int)} {want : List Int} {w : World} {bw bo a g : Nat} {vw : Value} {b : Bool} {j : Nat} {W W1 : World} (h : St rows want w bw bo a g vw b j W) (hb : Below W.heap.size W W1) (hj : j < rows.length) :
    ∃ u, W1.cell? ⟨g, j, none⟩ = some u ∧ W1.frozen? ⟨g, j, none⟩ = false := by
  have hR1 := Kd.R_below h.RR hb
  have hrl : (upTo j rows (List.replicate rows.length [])).length = rows.length := by rw [upTo_length j _ _ (by simp)]; simp
  obtain ⟨c, hcl, _, hcc, hf⟩ := Kd.R_elem hR1 [] (j : Int) (by omega) (by omega)
  have h1 : c.length = 1 := hcl
  have h2 := hcc 0 c[0] (List.getElem?_eq_getElem (by omega))
  have h3 := hf 0
  simp [Kd.slice] at h2 h3
  exact ⟨_, h2, h3⟩
theorem make_rows (n : Nat) (hn : n * 24 ≤ 281474976710656) :
    ∀ W : World, (Instr.makeSlice 22 (.int .i64 (n : Int)) (.int .i64 (n : Int))).run Tryd.prog W = .ok (.slice (some ⟨W.heap.size, 0, none⟩) n n) (W.alloc (.cells (madeCells #[.slice none 0 0] n) 23)) := by
  intro W
  exact run_make_row' 22 23 (.slice none 0 0) 24 Tryd.underlying22 info_row rfl .i64 .i64 n (by rw [Nat.mul_comm]; exact hn) (by omega) W

set_option maxHeartbeats 4000000 in
theorem all_any (A0 : Option Addr) (c0 : Nat) (rows : List (List Int)) (A1 : Option Addr) (c1 : Nat) (want : List Int) (w : World) (hr0 : Kd.C (Kd.slice 3 (Kd.int .i64)) w A0 rows.length rows) (hc0 : rows.length ≤ c0)
    (hr1 : Kd.C (Kd.int .i64) w A1 want.length want) (hc1 : want.length ≤ c1) (hT : TabW w) (hl0 : rows.length ≤ 5864062014805) (hl1 : want.length ≤ 17592186044416) (hl2 : ∀ row ∈ rows, row.length ≤ 17592186044416) :
    Calls Tryd.prog 14 #[.slice A0 rows.length c0, .slice A1 want.length c1] w (AllPost rows want w) := by
  obtain ⟨kc, hkc⟩ := Ev.rounds (check_ev rows want)
  have hb1 : Below w.heap.size w (w.alloc (.cells #[.slice A1 want.length c1] 23)) := (Below.refl _ _).alloc (Nat.le_refl _) _
  have HCK := Aside0.mk (pick_Check.calls kc A0 c0 rows A1 c1 want (chk rows want) _ (Kd.C_below hr0 hb1) hc0 (Kd.C_below hr1 hb1) hc1 (by unfold pick_Check.f; rw [hkc]; rfl))
  have HR0 := Aside0.mk hr0
  have HR1 := Aside0.mk hr1
  have HT := Aside0.mk hT
  have HL2 := Aside0.mk hl2
  have hmax0 := Kd.C_max hr0
  obtain ⟨cv, hcv⟩ : ∃ cv, cv = chk rows want := ⟨_, rfl⟩
  rw [← hcv] at HCK
  have HCV := Aside0.mk hcv
  clear hkc hr0 hr1 hT hl2 hcv hb1
  go_enter Tryd.func14, Tryd.ntmps14
  go_wp2_with (fail)
  refine HCK.out.mono ?_
  rintro e w1 ⟨rfl, hb1⟩
  have hcw := pw_cell_below hb1 (a := ⟨w.heap.size, 0, none⟩) (v := .slice A1 want.length c1) (by simp)
  have hfw : w1.frozen? ⟨w.heap.size, 0, none⟩ = false := by rw [hb1.frozen (p := ⟨w.heap.size, 0, none⟩) (by simp)]; simp
  have hsz1 : w.heap.size + 1 ≤ w1.heap.size := by have := hb1.size; simp at this; omega
  have HB1 := Aside0.mk hb1
  clear hb1
  have hca := cell_al hcw
  have hfa := froz_al hcw hfw
  clear hcw hfw
  have hmk := make_rows rows.length (by omega)
  go_wp2_with (fail)
  refine (Clone.clone_int A1 c1 want _ (Kd.C_below HR1.out (below_then ((Below.refl w.heap.size w).alloc (Nat.le_refl _) (.cells #[.slice A1 want.length c1] 23)) (by simp) (below_alloc HB1.out _))) hl1).mono ?_
  rintro e w2 ⟨v, rfl, hv, hb2⟩
  obtain ⟨Av, cv2, rfl⟩ := Kd.R_slice hv
  have hB1 : Below w.heap.size w w1 := below_then ((Below.refl w.heap.size w).alloc (Nat.le_refl _) (.cells #[.slice A1 want.length c1] 23)) (by simp) HB1.out
  have hB2 : Below w.heap.size w w2 := below_then (below_alloc hB1 _) (by simp; omega) hb2
  have hcw := pw_cell_below hb2 (hca _)
  have hfw := froz_below (hca _) (hfa _) hb2
  have hbo2 := pw_cell_below hb2 (a := ⟨w1.heap.size, 0, none⟩) (v := .bool (cv == 0)) (by simp)
  have hsz2 : w1.heap.size + 1 ≤ w2.heap.size := by have := hb2.size; simp at this; omega
  have HV := Aside0.mk (Kd.R_lower hv (show w.heap.size ≤ _ by simp; omega))
  have HB2 := Aside0.mk hB2
  have HBO2 := Aside0.mk hbo2
  have HOKV := Aside0.mk (show ∀ k, (Value.slice Av want.length cv2).ownBlock = some k → w1.heap.size + 1 ≤ k from fun k hk => by have := Kd.R_base hv k hk; simpa using this)
  have HVB := Aside0.mk (Kd.R_mono (Kd.R_bound hv) (ok' := fun k => w1.heap.size + 1 ≤ k ∧ k < w2.heap.size) (fun k hk => ⟨by have := hk.2.1; simpa using this, hk.2.2.1⟩))
  clear hv hb2 hB1 hB2 hca hfa hbo2 HB1
  go_wp2_with (fail)
  obtain ⟨w3, hw3⟩ : ∃ W, W = (((w2.setCell ⟨w.heap.size, 0, none⟩ (.slice Av want.length cv2)).alloc (.cells (madeCells #[.slice none 0 0] rows.length) 23)).alloc (.cells #[.slice (some ⟨w2.heap.size, 0, none⟩) rows.length rows.length] 22)) := ⟨_, rfl⟩
  have hSt : St rows want w w.heap.size w1.heap.size (w1.heap.size + 1) w2.heap.size (.slice Av want.length cv2) (cv == 0) 0 w3 := by
    have hs3 : w3.heap.size = w2.heap.size + 2 := by rw [hw3]; simp
    have hBs : Below w.heap.size w (w2.setCell ⟨w.heap.size, 0, none⟩ (.slice Av want.length cv2)) := HB2.out.setCell (p := ⟨w.heap.size, 0, none⟩) (Nat.le_refl _) _
    have hb3 : Below (w2.setCell ⟨w.heap.size, 0, none⟩ (.slice Av want.length cv2)).heap.size (w2.setCell ⟨w.heap.size, 0, none⟩ (.slice Av want.length cv2)) w3 := by
      rw [hw3]; exact below_alloc (below_alloc (Below.refl _ _) _) _
    refine ⟨below_then hBs hBs.size hb3, pw_cell_below hb3 (World.cell?_setCell_same' _ _ _ (by rw [hcw]; rfl)), pw_cell_below hb3 ?_, ?_, ?_, ?_, by omega⟩
    · rw [World.cell?_of_block (a := ⟨w1.heap.size, 0, none⟩) (Below.heap_setCell w2 ⟨w.heap.size, 0, none⟩ _ _ (show w1.heap.size ≠ w.heap.size by omega))]
      exact HBO2.out
    · rw [hw3]
      have h := heap_alloc_new ((w2.setCell ⟨w.heap.size, 0, none⟩ (.slice Av want.length cv2)).alloc (.cells (madeCells #[.slice none 0 0] rows.length) 23)) (.cells #[.slice (some ⟨w2.heap.size, 0, none⟩) rows.length rows.length] 22)
      have e : ((w2.setCell ⟨w.heap.size, 0, none⟩ (.slice Av want.length cv2)).alloc (.cells (madeCells #[.slice none 0 0] rows.length) 23)).heap.size = w2.heap.size + 1 := by simp
      rw [e] at h
      exact cell_of_one h
    · exact Kd.R_below (Kd.R_far (Kd.R_lower HVB.out (by simp; omega)) (p := ⟨w.heap.size, 0, none⟩) (fun k hk => by show k ≠ w.heap.size; omega) _) hb3
    · rw [hw3, upTo_zero]
      refine Kd.R_alloc ?_ _
      have h := R_made_rows (w2.setCell ⟨w.heap.size, 0, none⟩ (.slice Av want.length cv2)) w.heap.size rows.length (fun k => k = w2.heap.size ∨ w2.heap.size + 2 ≤ k) (.inl (by simp)) hBs.size hmax0
      have e : (w2.setCell ⟨w.heap.size, 0, none⟩ (.slice Av want.length cv2)).heap.size = w2.heap.size := by simp
      rw [e] at h
      exact h
  rw [← hw3]
  have HS := Aside0.mk hSt
  clear hw3 hSt hcw hfw hmk HB2 HBO2 HOKV HVB HV
  go_loopw [20] (fun v20 wr => ∃ j : Nat, j ≤ rows.length ∧ v20 = .int .i64 (j : Int) ∧ Aside0 (St rows want w w.heap.size w1.heap.size (w1.heap.size + 1) w2.heap.size (.slice Av want.length cv2) (cv == 0) j wr)) (fun v20 _ => rows.length - (intOf v20).toNat)
  case atStart => exact ⟨0, Nat.zero_le _, rfl, HS⟩
  case round =>
    clear HS
    obtain ⟨j, hj, rfl, HS⟩ := hrel
    by_cases hlt : j < rows.length
    · obtain ⟨ad, Ar, cr, e1, hx0, hcr, hCr⟩ := at_row HR0.out j hlt
      cases e1
      obtain ⟨row, hrow⟩ : ∃ x, x = rows[j] := ⟨_, rfl⟩
      rw [← hrow] at hx0 hcr hCr
      have hx := pw_cell_below HS.out.B hx0
      have hco := HS.out.co
      have HCL := Aside0.mk (fun (W : World) (hb : Below w.heap.size w W) => Clone.clone_int Ar cr row W (Kd.C_below hCr hb) (by rw [hrow]; exact HL2.out _ (List.getElem_mem _)))
      have HROW := Aside0.mk hrow
      clear hrow hx0 hcr hCr
      go_wp2
      go_region_with (first | (go_at_call 28; refine (HCL.out _ (below_drew HS.out.B)).mono ?_; rintro e w4 ⟨vr, rfl, hvr, hb4⟩; obtain ⟨Avr, cvr, rfl⟩ := Kd.R_slice hvr; have hco4 := pw_cell_below (below_then (below_drew (Below.refl wr.heap.size wr)) (Nat.le_refl _) hb4) HS.out.co; obtain ⟨u, hcu, hfu⟩ := HS.out.elem (below_then (below_drew (Below.refl wr.heap.size wr)) (Nat.le_refl _) hb4) hlt; have HVR := Aside0.mk hvr; have HB4 := Aside0.mk hb4; clear hvr hb4))
      all_goals
        go_wp2
        go_roundw
        case rel => exact ⟨j + 1, by omega, by go_num, ⟨HS.out.put (below_then (below_drew (Below.refl wr.heap.size wr)) (Nat.le_refl _) HB4.out) (by omega) (by omega) (by omega) hlt HROW.out HVR.out⟩⟩
        case measure => simp [intOf]; omega
    · obtain rfl : j = rows.length := by omega
      go_wp2
      go_ret
      have h := HS.out
      refine ⟨w1.heap.size, w2.heap.size + 1, w.heap.size, rfl, h.B, ⟨by omega, by have := h.sz; omega⟩, by rw [← HCV.out]; exact h.cb, fun hc => ⟨some ⟨w2.heap.size, 0, none⟩, rows.length, Av, cv2, ?_⟩⟩
      have hsz := h.sz
      refine ⟨hc, h.co, h.cw, .inr ⟨by omega, by omega⟩, .inr ⟨by omega, by omega⟩, .inl rfl, ?_, ?_, HT.out.below h.B⟩
      · have hr := h.RR
        rw [upTo_all _ _ _ (Nat.le_refl _) (by simp)] at hr
        exact Kd.R_mono (Kd.R_bound hr) (fun k hk => .inr ⟨hk.2.1, hk.2.2.1⟩)
      · exact Kd.R_mono (Kd.R_bound h.RV) (fun k hk => .inr ⟨hk.2.1, hk.2.2.1⟩)
end Go.Proofs.YtbdlihldmmbdmaaDoor.PickAll
