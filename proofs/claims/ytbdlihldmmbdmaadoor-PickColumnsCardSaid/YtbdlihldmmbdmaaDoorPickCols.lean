/- PickColumns: the walk. -/
import Derived.Test.YtbdlihldmmbdmaaDoorPickColsP
import Derived.Test.YtbdlihldmmbdmaaDoorPickNames
import Derived.Test.YtbdlihldmmbdmaaDoorClone
import Derived.Test.YtbdlihldmmbdmaaDoorSK10
import Derived.Test.YtbdlihldmmbdmaaDoorSK9
import Derived.Test.YtbdlihldmmbdmaaDoorSK4
namespace Go.Proofs.YtbdlihldmmbdmaaDoor.PickCols
open Go.RowKit Go.Proofs.YtbdlihldmmbdmaaDoor.SK Go.Proofs.YtbdlihldmmbdmaaDoorW.PrintWords Go.Proofs.YtbdlihldmmbdmaaDoorW.PrintMore Go.Proofs.YtbdlihldmmbdmaaDoor.Bits Go.Proofs.YtbdlihldmmbdmaaDoor.Plain Go.Proofs.YtbdlihldmmbdmaaDoor.PickSpec
set_option linter.unusedVariables false

def allTo (rows : List (List Int)) (want : List Int) (m i : Nat) : Bool := (List.range i).all fun j => fitB ((addM rows m (List.replicate want.length 0)).getD j 0) (want.getD j 0)
def anyTo (want : List Int) (i : Nat) : Bool := (List.range i).any fun j => want.getD j 0 == 2
theorem allTo_succ {rows : List (List Int)} {want : List Int} (hc : chk rows want = 0) (m i : Nat) (hi : i < want.length) : allTo rows want m (i + 1) = (allTo rows want m i && fitsM rows (alone want i) m) := by
  unfold fitsM
  rw [alone_length, fitsB_alone _ _ (addM_right hc m).1 i hi]
  simp [allTo, List.range_succ, List.all_append]
theorem anyTo_succ (want : List Int) (i : Nat) : anyTo want (i + 1) = (anyTo want i || want.getD i 0 == 2) := by simp [anyTo, List.range_succ, List.any_append]
theorem allTo_end {rows : List (List Int)} {want : List Int} (hc : chk rows want = 0) (m : Nat) : allTo rows want m want.length = fitsM rows want m := (fitsB_each _ _ (addM_right hc m).1).symm
theorem anyTo_end {want : List Int} (h : anyTo want want.length = false) : ∀ i, i < want.length → want.getD i 0 ≠ 2 := fun i hi => by
  have := List.any_eq_false.1 h i (List.mem_range.2 hi)
  simpa using this

theorem C_alone (W : World) (want : List Int) (i : Nat) (hi : i < want.length) (hm : want.length ≤ 10) (x : Int) (hx : x = want.getD i 0) :
    (Kd.int .i64).C (W.alloc (.cells ((madeCells #[.int .i64 0] want.length).setIfInBounds i (.int .i64 x)) 3)) (some ⟨W.heap.size, 0, none⟩) want.length (alone want i) := by
  have h : (madeCells #[Value.int .i64 0] want.length).setIfInBounds i (.int .i64 x) = (encs (Value.int .i64) (alone want i)).toArray := by
    apply Array.ext'
    rw [Array.toList_setIfInBounds, toList_madeCells_one]
    simp [encs, alone, hx]
  rw [h]
  have := PickNames.C_new W 3 .i64 (alone want i) (by rw [alone_length]; omega)
  rwa [alone_length] at this

set_option maxHeartbeats 4000000 in
theorem cols_calls (A0 : Option Addr) (c0 : Nat) (rows : List (List Int)) (A1 : Option Addr) (c1 : Nat) (want : List Int) (x0 x1 : Nat) (hx0 : x0 < 4294967296) (hx1 : x1 < 4294967296) (w : World) (hr0 : Kd.C (Kd.slice 3 (Kd.int .i64)) w A0 rows.length rows) (hc0 : rows.length ≤ c0)
    (hr1 : Kd.C (Kd.int .i64) w A1 want.length want) (hc1 : want.length ≤ c1) (hT : TabW w) :
    Calls Tryd.prog 6 #[.slice A0 rows.length c0, .slice A1 want.length c1, .agg #[.int .u32 (x0 : Int), .int .u32 (x1 : Int)]] w fun e w' => e = .returned (.bool true) ∧ Below w.heap.size w w' := by
  obtain ⟨W1, hW1⟩ : ∃ W, W = w.alloc (.cells #[.int .u32 (x0 : Int), .int .u32 (x1 : Int)] 45) := ⟨_, rfl⟩
  have hb1 : Below w.heap.size w W1 := by rw [hW1]; exact below_alloc (Below.refl _ _) _
  have hk0 : W1.cell? ⟨w.heap.size, 0, none⟩ = some (.int .u32 (x0 : Int)) := by rw [hW1]; simp
  have hk1 : W1.cell? ⟨w.heap.size, 1, none⟩ = some (.int .u32 (x1 : Int)) := by rw [hW1]; simp
  obtain ⟨kc, hkc⟩ := Ev.rounds (check_ev rows want)
  have HR0 := Aside0.mk hr0
  have HR1 := Aside0.mk hr1
  have HT := Aside0.mk hT
  have HB1 := Aside0.mk hb1
  have HK0 := Aside0.mk hk0
  have HK1 := Aside0.mk hk1
  have HW1 := Aside0.mk hW1
  have HKC := Aside0.mk hkc
  clear hr0 hr1 hT hb1 hk0 hk1 hW1 hkc
  obtain ⟨cv, hcv⟩ : ∃ cv, cv = chk rows want := ⟨_, rfl⟩
  go_enter Tryd.func6, Tryd.ntmps6
  go_wp2_with (fail)
  rw [← HW1.out]
  refine (amalgamlaw10_lives.calls 200 true W1 PickNames.eLives (HT.out.below HB1.out)).mono ?_
  rintro e w1 ⟨rfl, hb⟩
  have hk0 := pw_cell_below hb HK0.out
  have hk1 := pw_cell_below hb HK1.out
  have HB2 := Aside0.mk (HB1.out.trans (hb.mono HB1.out.size))
  clear hb
  go_wp2_with (fail)
  refine (pick_Check.calls kc A0 c0 rows A1 c1 want (chk rows want) w1 (Kd.C_below HR0.out (HB2.out.mono (Nat.le_refl _))) hc0 (Kd.C_below HR1.out HB2.out) hc1 (by unfold pick_Check.f; rw [HKC.out]; rfl)).mono ?_
  rintro e w2 ⟨rfl, hb⟩
  have HB3 := Aside0.mk (HB2.out.trans (hb.mono HB2.out.size))
  clear hb hk0 hk1
  rw [← hcv]
  by_cases hc : cv = 0
  · subst hc
    have HC := Aside0.mk hcv.symm
    clear hcv
    obtain ⟨h16, h10, _, _⟩ := chk_zero HC.out
    have hp := pow_le16 h16
    have hpos := Nat.two_pow_pos rows.length
    obtain ⟨m, hm⟩ : ∃ m, m = x0 &&& (2 ^ rows.length - 1) := ⟨_, rfl⟩
    obtain ⟨y, hy⟩ : ∃ y, y = x1 &&& (2 ^ rows.length - 1) := ⟨_, rfl⟩
    have hylt : y < 2 ^ rows.length := by rw [hy]; exact and_mask_lt _ _
    obtain ⟨m', hm'⟩ : ∃ m', m' = y ||| m := ⟨_, rfl⟩
    have hmlt : m < 2 ^ rows.length := by rw [hm]; exact and_mask_lt _ _
    have hmlt' : m' < 2 ^ rows.length := by rw [hm']; exact Nat.or_lt_two_pow hylt hmlt
    have hsub : ∀ i, m.testBit i = true → m'.testBit i = true := fun i hi => by rw [hm', Nat.testBit_or, hi, Bool.or_true]
    obtain ⟨E, hE⟩ : ∃ E : Nat, E = 2 ^ rows.length := ⟨_, rfl⟩
    have hpw : (2 : Int) ^ rows.length = (E : Int) := by rw [hE]; simp
    have hA : Go.bits .and .u32 (x0 : Int) ((E : Int) - 1) = (m : Int) := by
      rw [show ((E : Int) - 1) = ((2 ^ rows.length - 1 : Nat) : Int) by omega, hm]; exact bits_and_u32_nat _ _ hx0 (by omega)
    have hB : Go.bits .and .u32 (x1 : Int) ((E : Int) - 1) = (y : Int) := by
      rw [show ((E : Int) - 1) = ((2 ^ rows.length - 1 : Nat) : Int) by omega, hy]; exact bits_and_u32_nat _ _ hx1 (by omega)
    have hC : Go.bits .or .u32 (y : Int) (m : Int) = (m' : Int) := by
      rw [hm']; exact bits_or_u32_nat _ _ (by omega) (by omega)
    have hmod : ((E : Int) - 1) % 4294967296 = (E : Int) - 1 := by omega
    obtain ⟨k1, hk1⟩ := Ev.rounds (pick_fits_ev rows want HC.out m hmlt)
    obtain ⟨k2, hk2⟩ := Ev.rounds (pick_fits_ev rows want HC.out m' hmlt')
    have HF1 := Aside0.mk hk1
    have HF2 := Aside0.mk hk2
    have HMORE := Aside0.mk (fits_more HC.out m m' hsub)
    have HAL := Aside0.mk (fun i hi => pick_fits_ev rows (alone want i) (chk_alone HC.out i hi) m hmlt)
    have hmkn := print_make (P := Tryd.prog) 23 3 .i64 8 Tryd.underlying23 Clone.info_int (by decide) want.length (by omega)
    have hmax1 := Kd.C_max HR1.out
    clear hk1 hk2 hsub hm hm' hpos hE hy
    go_wp2_with (fail)
    try simp only [hpw, hmod, hA, hB, hC]
    clear hpw hmod hA hB hC
    refine (pick_Fits.calls k1 A0 c0 rows A1 c1 want m (fitsM rows want m) 0 w2 (Kd.C_below HR0.out HB3.out) hc0 (Kd.C_below HR1.out HB3.out) hc1 HF1.out (HT.out.below HB3.out)).mono ?_
    rintro e w3 ⟨rfl, hb⟩
    have HB4 := Aside0.mk (HB3.out.trans (hb.mono HB3.out.size))
    clear hb
    go_wp2_with (fail)
    go_loopw [12, 13, 14] (fun v12 v13 v14 wr => ∃ (i : Nat) (b1 b2 : Bool), v14 = .int .i64 (i : Int) ∧ i ≤ want.length ∧ v12 = .bool b1 ∧ v13 = .bool b2 ∧ Aside0 (b1 = allTo rows want m i) ∧ Aside0 (b2 = anyTo want i) ∧ Aside0 (Below w.heap.size w wr)) (fun _ _ v14 _ => want.length - (intOf v14).toNat)
    case atStart => exact ⟨0, true, false, rfl, Nat.zero_le _, rfl, rfl, ⟨rfl⟩, ⟨rfl⟩, HB4⟩
    case round =>
      clear HB4
      obtain ⟨i, b1, b2, rfl, hi, rfl, rfl, HA, HO, HB5⟩ := hrel
      by_cases hin : i < want.length
      · obtain ⟨k3, hk3⟩ := Ev.rounds (HAL.out i hin)
        obtain ⟨W5, hW5⟩ : ∃ W5, W5 = wr.alloc (.cells (madeCells #[.int .i64 0] want.length) 3) := ⟨_, rfl⟩
        have hb5 : Below wr.heap.size wr W5 := by rw [hW5]; exact below_alloc (Below.refl _ _) _
        have hR : Kd.R (Kd.int .i64) 3 W5 wr.heap.size (fun _ => True) (.slice (some ⟨wr.heap.size, 0, none⟩) (List.replicate want.length (0 : Int)).length want.length) (List.replicate want.length (0 : Int)) := by
          rw [hW5, List.length_replicate]
          exact Kd.R_of_own (enc := Value.int .i64) (h1 := fun _ => rfl) (ok := fun _ => True) (xs := List.replicate want.length (0 : Int)) (by have h := own_made wr wr.heap.size 3 .i64 want.length (Nat.le_refl _) (by omega); simpa [nums, encs] using h) (fun _ _ => trivial)
        obtain ⟨hz1, hz2⟩ := Kd.R_cell (enc := Value.int .i64) (0 : Int) hR (i : Int) (by omega) (by simp; omega)
        obtain ⟨hp1, hp2⟩ := Kd.R_put (enc := Value.int .i64) hR (i : Int) (want.getD i 0)
        rw [Int.toNat_natCast] at hz1 hz2 hp1 hp2
        obtain ⟨ad, e2, hy0⟩ := Kd.at_int (Kd.C_below HR1.out (HB5.out.trans (hb5.mono HB5.out.size))) (i : Int) (by omega) (by omega)
        have hgd : rd want (i : Int) = want.getD i 0 := by unfold rd; rw [Int.toNat_natCast]
        rw [hgd] at hy0
        cases e2
        obtain ⟨x, hx⟩ : ∃ x, x = want.getD i 0 := ⟨_, rfl⟩
        have hy1 : W5.cell? (ad.add i) = some (.int .i64 x) := by rw [hx]; exact hy0
        have hz1' : W5.cell? ⟨wr.heap.size, i, none⟩ = some (.int .i64 (rdOf 0 (List.replicate want.length (0 : Int)) (i : Int))) := hz1
        obtain ⟨W6, hW6⟩ : ∃ W6, W6 = wr.alloc (.cells ((madeCells #[.int .i64 0] want.length).setIfInBounds i (.int .i64 x)) 3) := ⟨_, rfl⟩
        have hb6 : Below wr.heap.size wr W6 := by rw [hW6]; exact below_alloc (Below.refl _ _) _
        have hB6 := HB5.out.trans (hb6.mono HB5.out.size)
        have hF := pick_Fits.calls k3 A0 c0 rows (some ⟨wr.heap.size, 0, none⟩) want.length (alone want i) m (fitsM rows (alone want i) m) 0 W6 (Kd.C_below HR0.out hB6) hc0 (by rw [alone_length, hW6]; exact C_alone wr want i hin h10 x hx) (by rw [alone_length]; exact Nat.le_refl _) hk3 (HT.out.below hB6)
        rw [alone_length] at hF
        have hSA := allTo_succ HC.out m i hin
        have hSO := anyTo_succ want i
        rw [← hx] at hSO
        obtain ⟨fb, hfb⟩ : ∃ fb, fb = fitsM rows (alone want i) m := ⟨_, rfl⟩
        rw [← hfb] at hF hSA
        have hA' := HA.out
        have hO' := HO.out
        rw [← hA'] at hSA
        rw [← hO'] at hSO
        have HFI := Aside0.mk hF
        have HSA := Aside0.mk hSA
        have HSO := Aside0.mk hSO
        have HB6 := Aside0.mk hB6
        clear hR hp1 hp2 hy0 hb5 hk3 hz1 hF hSA hSO hA' hO' hb6 hB6 HA HO hfb
        have HX := Aside0.mk hx
        have HG := Aside0.mk hgd
        clear hx hgd
        subst hW5
        go_wp2_with (fail)
        rw [← hW6]
        refine HFI.out.mono ?_
        rintro e w7 ⟨rfl, hb⟩
        have HB7 := Aside0.mk (HB6.out.trans (hb.mono HB6.out.size))
        clear hb HB6 hW6 hy1 hz1' hz2
        obtain ⟨ad', e3, hy7⟩ := Kd.at_int (Kd.C_below HR1.out HB7.out) (i : Int) (by omega) (by omega)
        rw [HG.out, ← HX.out] at hy7
        have hy7' : w7.cell? (ad'.add i) = some (.int .i64 x) := hy7
        cases e3
        clear hy7 HG HX
        cases b1 <;> cases b2 <;> go_wp2
        all_goals exact ⟨⟨i + 1, _, _, by go_num, by omega, rfl, rfl, ⟨by rw [HSA.out]; simp⟩, ⟨by rw [HSO.out]; simp⟩, HB7⟩, by simp only [intOf]; omega⟩
      · have hie : i = want.length := by omega
        have hA' := HA.out
        have hO' := HO.out
        rw [hie] at hA' hO'
        rw [allTo_end HC.out] at hA'
        have hF2 := pick_Fits.calls k2 A0 c0 rows A1 c1 want m' (fitsM rows want m') 0 wr (Kd.C_below HR0.out HB5.out) hc0 (Kd.C_below HR1.out HB5.out) hc1 HF2.out (HT.out.below HB5.out)
        have hend : b2 = false → fitsM rows want m = true → fitsM rows want m' = true := fun h => HMORE.out (anyTo_end (by rw [← hO']; exact h))
        rw [← hA'] at hend
        obtain ⟨f2, hf2⟩ : ∃ f2, f2 = fitsM rows want m' := ⟨_, rfl⟩
        rw [← hf2] at hF2 hend
        have HFI := Aside0.mk hF2
        have HEND := Aside0.mk hend
        have HA2 := Aside0.mk hA'
        clear hF2 hend hf2 HA HO hie
        go_wp2_with (fail)
        refine HFI.out.mono ?_
        rintro e w7 ⟨rfl, hb⟩
        have HB7 := Aside0.mk (HB5.out.trans (hb.mono HB5.out.size))
        clear hb
        rw [← hA']
        clear hA' hO'
        have hend := HEND.out
        cases b1 <;> cases b2 <;> cases f2 <;> first | (exfalso; simp at hend; done) | (clear hend; go_wp2; go_ret; exact ⟨rfl, HB7.out⟩)
  · have hq : (cv == 0) = false := by simpa using hc
    have hq2 : (cv != 0) = true := by simpa using hc
    clear hc hcv
    go_wp2
    go_ret
    exact ⟨rfl, HB3.out⟩
end Go.Proofs.YtbdlihldmmbdmaaDoor.PickCols
