/- pick.total: the sum of a mask's rows, where all rows are of one length and the mask names rows alone. -/
import Derived.Test.YtbdlihldmmbdmaaDoorPickFn
import Derived.Test.YtbdlihldmmbdmaaDoorPickSum
import Derived.Test.YtbdlihldmmbdmaaDoorBits
import Derived.Test.YtbdlihldmmbdmaaDoorClone
namespace Go.Proofs.YtbdlihldmmbdmaaDoor.PickTotal
open Go.RowKit Go.Proofs.YtbdlihldmmbdmaaDoor.SK Go.Proofs.YtbdlihldmmbdmaaDoorW.PrintWords Go.Proofs.YtbdlihldmmbdmaaDoorW.PrintMore Go.Proofs.YtbdlihldmmbdmaaDoor.PickSpec Go.Proofs.YtbdlihldmmbdmaaDoor.PickFn Go.Proofs.YtbdlihldmmbdmaaDoor.Bits Go.Proofs.YtbdlihldmmbdmaaDoor.Plain
set_option linter.unusedVariables false

set_option maxHeartbeats 2000000 in
theorem total_any (A0 : Option Addr) (c0 : Nat) (rows : List (List Int)) (n m : Nat) (w : World) (hr : Kd.C (Kd.slice 3 (Kd.int .i64)) w A0 rows.length rows) (hn : n ≤ 10) (hr16 : rows.length ≤ 16)
    (hrow : ∀ (i : Nat) (h : i < rows.length), rows[i].length = n) (hm : m < 2 ^ rows.length) (hT : TabW w) :
    Calls Tryd.prog 34 #[.slice A0 rows.length c0, .int .i64 n, .int .u32 m] w fun e w' => ∃ v, e = .returned v ∧ Kd.R (Kd.int .i64) 3 w' w.heap.size (fun _ => True) v (addM rows m (List.replicate n 0)) ∧ Below w.heap.size w w' := by
  have h32 : m < 4294967296 := Nat.lt_of_lt_of_le hm (Nat.pow_le_pow_right (by decide) (show rows.length ≤ 32 by omega))
  have hmk := print_make (P := Tryd.prog) 23 3 .i64 8 Tryd.underlying23 Clone.info_int (by decide) n (by omega)
  have HR := Aside0.mk hr
  have HT := Aside0.mk hT
  have HROW := Aside0.mk hrow
  have HM := Aside0.mk hm
  clear hr hT hrow hm
  go_enter Tryd.func34, Tryd.ntmps34
  go_wp2
  have HO := Aside0.mk (Kd.R_of_own (enc := Value.int .i64) (h1 := fun _ => rfl) (ok := fun _ => True) (xs := List.replicate n (0 : Int)) (by have h := own_made w w.heap.size 3 .i64 n (Nat.le_refl _) (by omega); simpa [nums, encs] using h) (fun _ _ => trivial))
  have HB := Aside0.mk ((Below.refl w.heap.size w).alloc (Nat.le_refl _) (.cells (madeCells #[.int .i64 0] n) 3))
  clear hmk
  go_loopw [2] (fun v2 wr => ∃ (mm : Nat) (acc : List Int), v2 = .int .u32 (mm : Int) ∧ mm < 4294967296 ∧ Aside0 (mm < 2 ^ rows.length) ∧ Aside0 (acc.length = n) ∧ Aside0 (addM rows mm acc = addM rows m (List.replicate n 0)) ∧ Aside0 (Kd.R (Kd.int .i64) 3 wr w.heap.size (fun _ => True) (.slice (some ⟨w.heap.size, 0, none⟩) n n) acc) ∧ Aside0 (Below w.heap.size w wr)) (fun v2 _ => (intOf v2).toNat)
  case atStart => exact ⟨m, List.replicate n 0, rfl, h32, HM, ⟨by simp⟩, ⟨rfl⟩, HO, HB⟩
  case round =>
    clear HO HB
    obtain ⟨mm, acc, rfl, hm32, HMM, HL, HE, HO, HB⟩ := hrel
    by_cases h0 : mm = 0
    · have hz : ((mm : Int) != 0) = false := by simp [h0]
      have HE2 := Aside0.mk (show acc = addM rows m (List.replicate n 0) by rw [← HE.out, h0, addM_zero])
      clear HE h0
      go_wp2
      go_ret
      exact ⟨_, rfl, by rw [← HE2.out]; exact HO.out, HB.out⟩
    · obtain ⟨hlt, hadd, hless⟩ := addM_low rows mm acc h0 hm32 HMM.out
      have hz : ((mm : Int) != 0) = true := by simp [h0]
      have HZ := Aside0.mk (tz32 mm hm32 h0 wr (HT.out.below HB.out))
      obtain ⟨t, ht⟩ : ∃ t, t = Lib.ctz 32 mm := ⟨_, rfl⟩
      have hlt' : t < rows.length := by rw [ht]; exact hlt
      have hadd' : addM rows (mm &&& (mm - 1)) (addRow acc (rows[t]'hlt')) = addM rows m (List.replicate n 0) := by rw [← HE.out, hadd]; simp only [ht]
      rw [← ht] at HZ
      clear hadd hlt ht HE
      obtain ⟨ad, A1, c1, e1, hx0, hc1, hC1⟩ := at_row HR.out t hlt'
      have hx := pw_cell_below HB.out hx0
      clear hx0
      cases e1
      obtain ⟨row, hrowe⟩ : ∃ x, x = rows[t]'hlt' := ⟨_, rfl⟩
      have hrl : row.length = n := by rw [hrowe]; exact HROW.out t hlt'
      rw [← hrowe] at hx hc1 hC1 hadd'
      have HC1 := Aside0.mk hC1
      have HA := Aside0.mk hadd'
      have HLE := Aside0.mk hless
      have hx' : wr.cell? (ad.add t) = some (.slice A1 n c1) := by rw [← hrl]; exact hx
      have HRL := Aside0.mk hrl
      clear hrowe hadd' hless hC1 hc1 h0 hx hrl
      go_wp2_with (go_at_call 42; refine HZ.out.mono ?_; rintro e w2 ⟨rfl, rfl⟩)
      clear HZ hx'
      go_loopw [24] (fun v24 wr => ∃ j : Nat, v24 = .int .i64 (j : Int) ∧ j ≤ n ∧ Aside0 (Kd.R (Kd.int .i64) 3 wr w.heap.size (fun _ => True) (.slice (some ⟨w.heap.size, 0, none⟩) n n) (upTo j (addRow acc row) acc)) ∧ Aside0 (Below w.heap.size w wr)) (fun v24 _ => n - (intOf v24).toNat)
      case atStart => exact ⟨0, rfl, Nat.zero_le _, ⟨by rw [upTo_zero]; exact HO.out⟩, HB⟩
      case round =>
        clear HO HB
        obtain ⟨j, rfl, hj, HO, HB⟩ := hrel
        by_cases hjn : j < n
        · have hl := HL.out
          have hjr : j < row.length := by rw [HRL.out]; exact hjn
          have hja : j < acc.length := by rw [hl]; exact hjn
          have hla : (addRow acc row).length = acc.length := by rw [addRow_length hl HRL.out, hl]
          obtain ⟨ad2, e2, hy0⟩ := Kd.at_int (Kd.C_below HC1.out HB.out) (j : Int) (by omega) (by omega)
          rw [rd_lt hjr] at hy0
          cases e2
          have hlu : (upTo j (addRow acc row) acc).length = n := by rw [upTo_length j _ _ hla, hl]
          have hg : rd (upTo j (addRow acc row) acc) (j : Int) = acc[j] := rd_get? (by rw [upTo_get j _ _ hja hla]; exact List.getElem?_eq_getElem hja)
          have HO2 := HO.out
          rw [← hlu] at HO2
          obtain ⟨hz1, hz2⟩ := Kd.R_cell (enc := Value.int .i64) (0 : Int) HO2 (j : Int) (by omega) (by omega)
          obtain ⟨hp1, hp2⟩ := Kd.R_put (enc := Value.int .i64) HO2 (j : Int) (wrap64 (acc[j] + row[j]))
          have hset : (upTo j (addRow acc row) acc).set j (wrap64 (acc[j] + row[j])) = upTo (j + 1) (addRow acc row) acc := by
            rw [← upTo_set j (addRow acc row) acc hja hla]; simp [addRow]
          rw [hlu, Int.toNat_natCast, hset] at hp1
          rw [Int.toNat_natCast] at hp2 hz1 hz2
          obtain ⟨a, ha⟩ : ∃ x, x = acc[j] := ⟨_, rfl⟩
          obtain ⟨b, hb⟩ : ∃ x, x = row[j] := ⟨_, rfl⟩
          have hz1' : wr.cell? ⟨w.heap.size, j, none⟩ = some (.int .i64 a) := by rw [ha]; exact hz1.trans (by rw [← hg]; rfl)
          have hy1 : wr.cell? (ad2.add j) = some (.int .i64 b) := by rw [hb]; exact hy0
          rw [← ha, ← hb] at hp1 hp2
          have HP1 := Aside0.mk hp1
          have HP2 := Aside0.mk hp2
          clear hp1 hp2 hz1 hy0 hset hg hlu HO2 hla hja hjr hl ha hb HO
          go_wp2
          exact ⟨⟨j + 1, by go_num, by omega, HP1, ⟨HB.out.setCell (p := ⟨w.heap.size, j, none⟩) (Nat.le_refl _) _⟩⟩, by simp only [intOf]; omega⟩
        · have HE2 := Aside0.mk (show upTo j (addRow acc row) acc = addRow acc row from upTo_all j _ _ (by have := addRow_length HL.out HRL.out; omega) (by have := HL.out; omega))
          have hand : Go.bits BinOp.and IntKind.u32 (mm : Int) (((mm : Int) - 1) % 4294967296) = ((mm &&& (mm - 1) : Nat) : Int) := by
            have h1 : ((mm : Int) - 1) % 4294967296 = ((mm - 1 : Nat) : Int) := by
              have : mm ≠ 0 := by rintro rfl; simp at hz
              omega
            rw [h1, bits_and_u32_nat mm (mm - 1) hm32 (by omega)]
          have HAND := Aside0.mk hand
          clear hand
          go_wp2
          refine ⟨⟨mm &&& (mm - 1), addRow acc row, by rw [HAND.out], Nat.lt_trans HLE.out hm32, ⟨Nat.lt_trans HLE.out HMM.out⟩, ⟨addRow_length HL.out HRL.out⟩, HA, ⟨by rw [← HE2.out]; exact HO.out⟩, HB⟩, ?_⟩
          have := HLE.out
          rw [HAND.out]
          simp only [intOf]
          omega
end Go.Proofs.YtbdlihldmmbdmaaDoor.PickTotal
