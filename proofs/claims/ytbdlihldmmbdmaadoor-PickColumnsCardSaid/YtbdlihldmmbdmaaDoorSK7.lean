-- PRINTED by print.py (a twelfth state) out of the translation. Not trusted: Lean checks it.
import Derived.Test.YtbdlihldmmbdmaaDoorSK0
import Derived.Test.YtbdlihldmmbdmaaDoorSK6
import Derived.Test.YtbdlihldmmbdmaaDoorSK8
import Derived.Test.YtbdlihldmmbdmaaDoorSK9
import Derived.Test.YtbdlihldmmbdmaaDoorBits
import Derived.Test.YtbdlihldmmbdmaaDoorPickSumB
import Derived.Test.YtbdlihldmmbdmaaDoorPickTotal
import Derived.Test.YtbdlihldmmbdmaaDoorShelf
namespace Go.Proofs.YtbdlihldmmbdmaaDoor.SK
open Go.RowKit Go.Proofs.YtbdlihldmmbdmaaDoorW.PrintWords Go.Proofs.YtbdlihldmmbdmaaDoorW.PrintLast Go.Proofs.YtbdlihldmmbdmaaDoorW.PrintMore
attribute [local go_sem] max2_int min2_int max_two min_two max_three min_three max_four min_four   -- for this text's walks alone
set_option linter.unusedVariables false
set_option linter.unusedSimpArgs false

-- NEEDS pick_Check.calls
set_option maxHeartbeats 2000000 in
theorem pick_Sum.calls (k : Nat) (A0 : Option Addr) (c0 : Nat) (l0 : List (List Int)) (A1 : Option Addr) (c1 : Nat) (l1 : List Int) (a2 : Int) (r1 : List Int) (r2 : Int) (w : World) (hr0 : Kd.C (Kd.slice 3 (Kd.int .i64)) w A0 l0.length l0) (hc0 : l0.length ≤ c0) (hr1 : Kd.C (Kd.int .i64) w A1 l1.length l1) (hc1 : l1.length ≤ c1) (h : pick_Sum.f k l0 l1 a2 = some (r1, r2)) (hT : Go.Proofs.YtbdlihldmmbdmaaDoor.Bits.TabW w) :
    Calls Tryd.prog 18 #[.slice A0 l0.length c0, .slice A1 l1.length c1, .int .u32 a2] w fun e w' => ∃ v0_ : Value, e = .returned (.tuple #[v0_, .int .i64 r2]) ∧ Kd.R (Kd.int .i64) 3 w' w.heap.size (fun _ => True) v0_ r1 ∧ Below w.heap.size w w' := by
  have hb0 : 0 ≤ a2 / 4294967296 := by
    unfold pick_Sum.f at h
    by_cases hb : 0 ≤ a2 / 4294967296
    · exact hb
    · rw [if_neg hb] at h; simp at h
  have hb1 : a2 / 4294967296 < 1 := by
    unfold pick_Sum.f at h
    rw [if_pos hb0] at h
    by_cases hb : a2 / 4294967296 < 1
    · exact hb
    · rw [if_neg (by simpa using hb)] at h; simp at h
  obtain ⟨m, rfl⟩ : ∃ m : Nat, a2 = (m : Int) := ⟨a2.toNat, by omega⟩
  have hm : m < 4294967296 := by omega
  have hres : (r1, r2) = Go.Proofs.YtbdlihldmmbdmaaDoor.PickSpec.sumS l0 l1 m := by
    unfold pick_Sum.f at h
    rw [if_pos hb0, if_pos (by simpa using hb1)] at h
    obtain ⟨x, hx, hxe⟩ := Option.bind_eq_some_iff.1 h
    have h1 := Go.Proofs.YtbdlihldmmbdmaaDoor.Plain.Ev.answer (fun k => amalgamref10_Sum.mono l0 l1 (m : Int) k) hx (Go.Proofs.YtbdlihldmmbdmaaDoor.PickSpec.sum_ev l0 l1 m hm)
    rw [← h1]
    exact (Option.some.inj hxe).symm
  clear h hb0 hb1
  obtain ⟨kc, hkc⟩ := Ev.rounds (Go.Proofs.YtbdlihldmmbdmaaDoor.PickSpec.check_ev l0 l1)
  have hCk := Aside0.mk (pick_Check.calls kc A0 c0 l0 A1 c1 l1 (Go.Proofs.YtbdlihldmmbdmaaDoor.PickSpec.chk l0 l1) w hr0 hc0 hr1 hc1 (by unfold pick_Check.f; rw [hkc]; rfl))
  have hmax0 := Kd.C_max hr0
  have hmax1 := Kd.C_max hr1
  unfold Go.Proofs.YtbdlihldmmbdmaaDoor.PickSpec.sumS at hres
  by_cases hc : Go.Proofs.YtbdlihldmmbdmaaDoor.PickSpec.chk l0 l1 = 0
  · obtain ⟨h16, h10, _⟩ := Go.Proofs.YtbdlihldmmbdmaaDoor.PickSpec.chk_zero hc
    rw [if_pos hc] at hres
    rw [hc] at hCk
    have hlen := fun w1 => Tryd.bits_Len32 (m : Int) w1 (by omega) (by omega)
    have HLen := Aside0.mk hlen
    have hgt := Go.Proofs.YtbdlihldmmbdmaaDoor.PickSpec.bitLen_gt m l0.length hm h16
    clear hlen
    by_cases hz : m / 2 ^ l0.length = 0
    · rw [if_pos hz] at hres
      obtain ⟨rfl, rfl⟩ := Prod.mk.inj hres
      have hle : Lib.bitLen m ≤ l0.length := by
        rcases Nat.lt_or_ge l0.length (Lib.bitLen m) with h | h
        · exact absurd hz (hgt.1 h)
        · exact h
      have hmlt : m < 2 ^ l0.length := by
        rcases Nat.lt_or_ge m (2 ^ l0.length) with h | h
        · exact h
        · have := Nat.div_pos h (Nat.two_pow_pos l0.length); omega
      have HTot := Aside0.mk (fun (w1 : World) (hb : Below w.heap.size w w1) => Go.Proofs.YtbdlihldmmbdmaaDoor.PickTotal.total_any A0 c0 l0 l1.length m w1 (Kd.C_below hr0 hb) h10 h16 (Go.Proofs.YtbdlihldmmbdmaaDoor.PickSpec.rows_len hc) hmlt (hT.below hb))
      clear hres hc hz hgt hr0 hr1 hT
      go_enter Tryd.func18, Tryd.ntmps18
      go_wp2_with (first | (go_at_call 19; refine hCk.out.mono ?_; rintro e w1 ⟨rfl, hb1⟩; have HB1 := Aside0.mk hb1; clear hb1)
                          | (go_at_call 33; refine (HLen.out _).mono ?_; rintro e w2 ⟨rfl, rfl⟩; simp only [Int.toNat_natCast])
                          | (go_at_call 34; refine (HTot.out _ HB1.out).mono ?_; rintro e w3 ⟨v, rfl, ho, hb3⟩; have HO := Aside0.mk ho; have HB3 := Aside0.mk hb3; clear ho hb3))
      go_ret2
      exact ⟨_, rfl, Kd.R_lower HO.out HB1.out.size, HB1.out.trans (HB3.out.mono HB1.out.size)⟩
    · rw [if_neg hz] at hres
      obtain ⟨rfl, rfl⟩ := Prod.mk.inj hres
      have hlt : l0.length < Lib.bitLen m := hgt.2 hz
      clear hres hc hz hgt hr0 hr1 hT
      go_enter Tryd.func18, Tryd.ntmps18
      go_wp2_with (first | (go_at_call 19; refine hCk.out.mono ?_; rintro e w1 ⟨rfl, hb1⟩; have HB1 := Aside0.mk hb1; clear hb1)
                          | (go_at_call 33; refine (HLen.out _).mono ?_; rintro e w2 ⟨rfl, rfl⟩; simp only [Int.toNat_natCast]))
      go_ret2
      exact ⟨_, rfl, Kd.R_nil _ _ _ _ _, HB1.out⟩
  · rw [if_neg hc] at hres
    obtain ⟨rfl, rfl⟩ := Prod.mk.inj hres
    obtain ⟨c, hcc⟩ : ∃ c, c = Go.Proofs.YtbdlihldmmbdmaaDoor.PickSpec.chk l0 l1 := ⟨_, rfl⟩
    rw [← hcc] at hCk hc ⊢
    have hc1 : (c == 0) = false := by simpa using hc
    have hc2 : (c != 0) = true := by simpa using hc
    clear hres hcc hc hr0 hr1 hT
    go_enter Tryd.func18, Tryd.ntmps18
    go_wp2_with (go_at_call 19; refine hCk.out.mono ?_; rintro e w1 ⟨rfl, hb1⟩; have HB1 := Aside0.mk hb1; clear hb1)
    go_ret2
    exact ⟨_, rfl, Kd.R_nil _ _ _ _ _, HB1.out⟩

end Go.Proofs.YtbdlihldmmbdmaaDoor.SK
