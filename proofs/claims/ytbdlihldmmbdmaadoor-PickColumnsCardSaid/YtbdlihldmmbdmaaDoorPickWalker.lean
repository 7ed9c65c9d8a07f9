/- pick.walker's closure: the next mask that fits, or none; its own variable steps on. -/
import Derived.Test.YtbdlihldmmbdmaaDoorPickTotal
import Derived.Test.YtbdlihldmmbdmaaDoorPickMeets
import Derived.Test.YtbdlihldmmbdmaaDoorRange
import Derived.Test.YtbdlihldmmbdmaaDoorSK10
import Derived.OneCell
import Derived.Deep.RegionHeld3
namespace Go.Proofs.YtbdlihldmmbdmaaDoor.PickWalker
open Go.RowKit Go.Proofs.YtbdlihldmmbdmaaDoor.SK Go.Proofs.YtbdlihldmmbdmaaDoorW.PrintWords Go.Proofs.YtbdlihldmmbdmaaDoorW.PrintMore Go.Proofs.YtbdlihldmmbdmaaDoor.PickSpec Go.Proofs.YtbdlihldmmbdmaaDoor.PickFn Go.Proofs.YtbdlihldmmbdmaaDoor.Bits Go.Proofs.YtbdlihldmmbdmaaDoor.Plain Go.Proofs.YtbdlihldmmbdmaaDoor.Range
set_option linter.unusedVariables false

/-- What the closure's call leaves, its variable (block bn) having held nx. -/
def StepPost (rows : List (List Int)) (want : List Int) (bn nx : Nat) (w : World) (e : Ending) (w' : World) : Prop :=
  ∃ (m' : Nat) (b : Bool) (nx' : Nat), e = .returned (.tuple #[.int .u32 (m' : Int), .bool b]) ∧ w'.heap[bn]? = some (.cells #[.int .u32 (nx' : Int)] 37 (0, 0)) ∧ Only (fun k => k = bn) w w' ∧ nx' ≤ 2 ^ rows.length ∧ (b = true → nx < nx') ∧
    match masksFrom rows want nx (2 ^ rows.length - nx) with
    | [] => b = false ∧ nx' = 2 ^ rows.length
    | m :: ms => b = true ∧ m' = m ∧ masksFrom rows want nx' (2 ^ rows.length - nx') = ms

/-- What the iterator reads, in blocks of ok: the rows' and the wants' boxes, the rows, the table. -/
structure Held (rows : List (List Int)) (want : List Int) (br bw base : Nat) (ok : Nat → Prop) (A0 : Option Addr) (c0 : Nat) (A1 : Option Addr) (c1 : Nat) (W : World) : Prop where
  chk0 : chk rows want = 0
  rb : W.cell? ⟨br, 0, none⟩ = some (.slice A0 rows.length c0)
  wb : W.cell? ⟨bw, 0, none⟩ = some (.slice A1 want.length c1)
  okr : ok br
  okw : ok bw
  okt : ok 0
  rows_ : Kd.R (Kd.slice 3 (Kd.int .i64)) 23 W base ok (.slice A0 rows.length c0) rows
  want_ : Kd.R (Kd.int .i64) 3 W base ok (.slice A1 want.length c1) want
  tab : TabW W
theorem cell_only {S : Nat → Prop} {A B : World} {k : Nat} {j : Nat} {v : Value} (h : Only S A B) (hs : ¬ S k) (hc : A.cell? ⟨k, j, none⟩ = some v) : B.cell? ⟨k, j, none⟩ = some v :=
  (World.cell?_of_block (a := ⟨k, j, none⟩) (h.block k (World.block_lt_of_cell? A ⟨k, j, none⟩ hc) hs)).trans hc
theorem Held.later {rows : List (List Int)} {want : List Int} {br bw base : Nat} {ok : Nat → Prop} {A0 : Option Addr} {c0 : Nat} {A1 : Option Addr} {c1 : Nat} {A B : World} (h : Held rows want br bw base ok A0 c0 A1 c1 A) (ho : Only (fun k => ¬ ok k) A B) : Held rows want br bw base ok A0 c0 A1 c1 B :=
  ⟨h.chk0, cell_only ho (fun e => e h.okr) h.rb, cell_only ho (fun e => e h.okw) h.wb, h.okr, h.okw, h.okt, Kd.R_step h.rows_ (fun k hk hl => ho.block k hl (fun e => e hk)), Kd.R_step h.want_ (fun k hk hl => ho.block k hl (fun e => e hk)),
    ⟨fun j hj => cell_only ho (fun e => e h.okt) (h.tab.out j hj)⟩⟩
theorem Held.below {rows : List (List Int)} {want : List Int} {br bw base : Nat} {ok : Nat → Prop} {A0 : Option Addr} {c0 : Nat} {A1 : Option Addr} {c1 : Nat} {A B : World} (h : Held rows want br bw base ok A0 c0 A1 c1 A) (ho : Below A.heap.size A B) : Held rows want br bw base ok A0 c0 A1 c1 B := h.later (Only.of_below ho)

def nextOf (bn : Nat) (W : World) : Nat := (intOf ((W.cell? ⟨bn, 0, none⟩).getD undef)).toNat
theorem nextOf_eq {bn x : Nat} {W : World} {t : TypeId} (h : W.heap[bn]? = some (.cells #[.int .u32 (x : Int)] t (0, 0))) : nextOf bn W = x := by
  unfold nextOf; rw [cell_of_one h]; simp [intOf]
theorem heap_below {A B : World} {k : Nat} {o : Obj} (h : Below A.heap.size A B) (hk : A.heap[k]? = some o) : B.heap[k]? = some o :=
  (h.block k (Array.getElem?_eq_some_iff.1 hk).1).trans hk

set_option maxHeartbeats 4000000 in
theorem step_any (rows : List (List Int)) (want : List Int) (br bn bw base : Nat) (ok : Nat → Prop) (A0 : Option Addr) (c0 : Nat) (A1 : Option Addr) (c1 : Nat) (w : World) (H : Held rows want br bw base ok A0 c0 A1 c1 w)
    (hbn : ¬ ok bn) (nx : Nat) (hnx : nx ≤ 2 ^ rows.length) (hnb : w.heap[bn]? = some (.cells #[.int .u32 (nx : Int)] 37 (0, 0))) :
    Calls Tryd.prog 41 #[.pointer (some ⟨br, 0, none⟩), .pointer (some ⟨bn, 0, none⟩), .pointer (some ⟨bw, 0, none⟩)] w (StepPost rows want bn nx w) := by
  obtain ⟨h16, h10, _, hr⟩ := chk_zero H.chk0
  have hp := pow_le16 h16
  have hrb := H.rb
  have hwb := H.wb
  have HN := Aside0.mk hnb
  have HH := Aside0.mk H
  have hon : ∀ {B : World}, Only (fun k => k = bn) w B → Only (fun k => ¬ ok k) w B := fun ho => ho.mono (fun k _ e => by rw [e]; exact hbn)
  have HON := Aside0.mk @hon
  have hsh := shl_one h16
  obtain ⟨E, hE⟩ : ∃ E, E = 2 ^ rows.length := ⟨_, rfl⟩
  rw [← hE] at hp hnx
  have HE := Aside0.mk hE
  have hsh2 : (2 : Int) ^ rows.length % 4294967296 = (E : Int) := by
    have : ((2 : Int) ^ rows.length) = (E : Int) := by rw [hE]; simp
    rw [this]; omega
  have HCH := Aside0.mk H.chk0
  clear hnb H hr hsh hE hon
  go_enter Tryd.func41, Tryd.ntmps41
  go_wp2
  rw [hsh2]
  clear hsh2
  go_loopw [6] (fun v6 wr => ∃ x : Nat, nx ≤ x ∧ x ≤ E ∧ Aside0 (wr.heap[bn]? = some (.cells #[.int .u32 (x : Int)] 37 (0, 0))) ∧ Aside0 (masksFrom rows want x (E - x) = masksFrom rows want nx (E - nx)) ∧ Aside0 (Only (fun k => k = bn) w wr)) (fun _ wr => E - nextOf bn wr)
  case atStart => exact ⟨nx, Nat.le_refl _, hnx, HN, ⟨rfl⟩, ⟨Only.refl _ _⟩⟩
  case round =>
    obtain ⟨x, hnxx, hx, HX, HF, HO⟩ := hrel
    have hnc := cell_of_one HX.out
    have hnf := free_of_one HX.out
    have hH1 := HH.out.later (HON.out HO.out)
    have hrb := hH1.rb
    have hwb := hH1.wb
    clear hH1
    by_cases hlt : x < E
    · have HXR := HX
      go_wp2
      obtain ⟨wr2, hwr2⟩ : ∃ W, W = wr.setCell ⟨bn, 0, none⟩ (.int .u32 ((x : Int) + 1)) := ⟨_, rfl⟩
      have HX2 := Aside0.mk (show wr2.heap[bn]? = some (.cells #[.int .u32 ((x + 1 : Nat) : Int)] 37 (0, 0)) by rw [hwr2]; exact one_setCell HX.out)
      have HO2 := Aside0.mk (show Only (fun k => k = bn) w wr2 by rw [hwr2]; exact HO.out.setCell _ _ (.inl rfl))
      have hH2 := HH.out.later (HON.out HO2.out)
      have hrb := hH2.rb
      have hwb := hH2.wb
      obtain ⟨sm, hsm⟩ : ∃ sm, sm = addM rows x (List.replicate want.length 0) := ⟨_, rfl⟩
      have HT := Aside0.mk (fun (W : World) (hb : Below wr2.heap.size wr2 W) => PickTotal.total_any A0 c0 rows want.length x W (Kd.R_reads' (hH2.below hb).rows_).2.2 h10 h16 (rows_len HCH.out) (by rw [← HE.out]; exact hlt) (hH2.below hb).tab)
      have hright := addM_right HCH.out x
      rw [← hsm] at hright HT
      obtain ⟨kk, hkk⟩ := Ev.rounds (meets_ev sm want hright.1 h10 (fun s hs => (hright.2 s hs).1))
      have HK := Aside0.mk hkk
      have HFM := Aside0.mk (show fitsM rows want x = fitsB sm want by rw [hsm]; rfl)
      obtain ⟨b, hb⟩ : ∃ b, b = fitsB sm want := ⟨_, rfl⟩
      rw [← hb] at HK HFM
      rw [← hwr2]
      have HW := Aside0.mk (fun (W : World) (hb : Below wr2.heap.size wr2 W) => (Kd.R_reads' (hH2.below hb).want_).2.2)
      have hc1 := (Kd.R_reads' hH2.want_).2.1
      have HC1 := Aside0.mk hc1
      clear hwr2 hnc hnf HX HO hsm hright hkk hb hH2 hc1
      go_region_held3 (fun W => W.cell? ⟨br, 0, none⟩ = some (.slice A0 rows.length c0) ∧ W.cell? ⟨bw, 0, none⟩ = some (.slice A1 want.length c1) ∧ Aside0 (Below wr2.heap.size wr2 W)) (first | exact ⟨by simpa using hrb, by simpa using hwb, ⟨below_drew (Below.refl _ _)⟩⟩ | exact ⟨pw_cell_below HB3.out hrb, pw_cell_below HB3.out hwb, HB3⟩ | exact ⟨by simpa using pw_cell_below HB3.out hrb, by simpa using pw_cell_below HB3.out hwb, ⟨pw_below_drewN HB3.out _⟩⟩ | go_keep)
        (first | (go_at_call 34; refine (HT.out _ (below_drew (Below.refl _ _))).mono ?_; rintro e w3 ⟨v, rfl, ho, hb3⟩; obtain ⟨Av, cv, rfl, hlv, hCv⟩ := Kd.R_reads ho; have HB3 := Aside0.mk (below_then (below_drew (Below.refl wr2.heap.size wr2)) (Nat.le_refl _) hb3); have HC3 := Aside0.mk hCv; have HL3 := Aside0.mk hlv; clear ho hb3 hCv hlv)
               | (go_at_call 40; refine (pick_meets.calls kk Av cv sm A1 c1 want b w3 HC3.out HL3.out (HW.out _ HB3.out) HC1.out HK.out).mono ?_; rintro e w4 ⟨rfl, ⟨n4, rfl⟩⟩))
      have hB4 : Below wr2.heap.size wr2 (w3.drewN n4) := pw_below_drewN HB3.out n4
      have HX4 := Aside0.mk (heap_below hB4 HX2.out)
      have HO4 := Aside0.mk (HO2.out.trans (Only.of_below hB4))
      have HMS := Aside0.mk (masksFrom_succ rows want x (E - (x + 1)))
      have HNX := Aside0.mk (nextOf_eq HX2.out)
      have hex : E - x = E - (x + 1) + 1 := by omega
      have HEX := Aside0.mk hex
      clear hex hB4
      cases b with
      | true =>
        go_wp2
        go_ret2
        refine ⟨x, true, x + 1, rfl, HX4.out, HO4.out, by rw [← HE.out]; omega, fun _ => by omega, ?_⟩
        rw [← HE.out, ← HF.out, HEX.out, HMS.out, HFM.out, if_pos rfl]
        exact ⟨rfl, rfl, rfl⟩
      | false =>
        go_wp2
        go_roundw
        case rel => exact ⟨x + 1, by omega, by omega, HX4, ⟨by rw [← HF.out, HEX.out, HMS.out, HFM.out]; simp⟩, HO4⟩
        case measure => rw [nextOf_eq HX4.out, nextOf_eq HXR.out]; omega
    · have HZ := Aside0.mk (show masksFrom rows want nx (E - nx) = [] by rw [← HF.out, show E - x = 0 by omega]; rfl)
      have hxe : x = E := by omega
      subst hxe
      go_wp2
      go_ret2
      refine ⟨0, false, x, rfl, HX.out, HO.out, by rw [← HE.out]; omega, (fun h => by cases h), ?_⟩
      rw [← HE.out, HZ.out]
      exact ⟨rfl, rfl⟩

set_option maxHeartbeats 1000000 in
theorem walker_any (v0 v1 : Value) (w : World) (A0 : Option Addr) (n0 c0 : Nat) (A1 : Option Addr) (n1 c1 : Nat) (h0 : v0 = .slice A0 n0 c0) (h1 : v1 = .slice A1 n1 c1) :
    Calls Tryd.prog 30 #[v0, v1] w fun e w' => e = .returned (.func (.func 41) #[] #[.pointer (some ⟨w.heap.size, 0, none⟩), .pointer (some ⟨w.heap.size + 2, 0, none⟩), .pointer (some ⟨w.heap.size + 1, 0, none⟩)]) ∧
      Below w.heap.size w w' ∧ w'.heap.size = w.heap.size + 3 ∧ w'.cell? ⟨w.heap.size, 0, none⟩ = some v0 ∧ w'.cell? ⟨w.heap.size + 1, 0, none⟩ = some v1 ∧ w'.heap[w.heap.size + 2]? = some (.cells #[.int .u32 0] 37 (0, 0)) := by
  subst h0
  subst h1
  go_enter Tryd.func30, Tryd.ntmps30
  go_wp2
  go_ret
  refine ⟨rfl, ((((Below.refl _ w).alloc (Nat.le_refl _) _).alloc (by simp) _).alloc (by simp; omega) _), by simp, ?_, ?_, ?_⟩
  · exact pw_cell_below (below_alloc (Below.refl _ _) _) (pw_cell_below (below_alloc (Below.refl _ _) _) (by simp))
  · refine pw_cell_below (below_alloc (Below.refl _ _) _) ?_
    have h := heap_alloc_new (w.alloc (.cells #[.slice A0 n0 c0] 22)) (.cells #[.slice A1 n1 c1] 23)
    rw [World.size_alloc] at h
    exact cell_of_one h
  · have h := heap_alloc_new ((w.alloc (.cells #[.slice A0 n0 c0] 22)).alloc (.cells #[.slice A1 n1 c1] 23)) (.cells #[.int .u32 0] 37)
    rw [World.size_alloc, World.size_alloc] at h
    exact h
end Go.Proofs.YtbdlihldmmbdmaaDoor.PickWalker
