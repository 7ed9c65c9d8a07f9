/- The function that pick.All hands back, gone through by a range: the masks that fit, rising. -/
import Derived.Test.YtbdlihldmmbdmaaDoorPickWalker
import Derived.Shelf.Abstract
import Derived.Shelf.RegionOpen
import Derived.OwnWalkIn
import Derived.TacticsInMore
import Derived.LoopNIn
import Derived.LoopIn
import Derived.Deep.LoopGhost
namespace Go.Proofs.YtbdlihldmmbdmaaDoor.PickIter
open Go.RowKit Go.Shelf Go.Proofs.YtbdlihldmmbdmaaDoor.SK Go.Proofs.YtbdlihldmmbdmaaDoorW.PrintWords Go.Proofs.YtbdlihldmmbdmaaDoorW.PrintMore Go.Proofs.YtbdlihldmmbdmaaDoor.PickSpec Go.Proofs.YtbdlihldmmbdmaaDoor.PickFn Go.Proofs.YtbdlihldmmbdmaaDoor.Bits Go.Proofs.YtbdlihldmmbdmaaDoor.Plain Go.Proofs.YtbdlihldmmbdmaaDoor.Range Go.Proofs.YtbdlihldmmbdmaaDoor.PickWalker
attribute [local go_sem] Oper.semAt_some
set_option linter.unusedVariables false

def RepM (W : World) (ok : Nat → Prop) (x : Nat) (vs : Array Value) : Prop := vs = #[.int .u32 (x : Int)]

/-- Between two steps: pre has come; slots 6 and 7 hold what comes next, if anything does. -/
def AtM (rows : List (List Int)) (want : List Int) (bn : Nat) (pre : List Nat) (v6 v7 : Value) (W : World) : Prop :=
  ∃ (nx m : Nat) (b : Bool), v6 = .int .u32 (m : Int) ∧ v7 = .bool b ∧ W.heap[bn]? = some (.cells #[.int .u32 (nx : Int)] 37 (0, 0)) ∧ nx ≤ 2 ^ rows.length ∧
    (b = false → masksN rows want = pre) ∧ (b = true → ∃ ms, masksN rows want = pre ++ m :: ms ∧ masksFrom rows want nx (2 ^ rows.length - nx) = ms)
def measM (E bn : Nat) (v7 : Value) (W : World) : Nat := 2 * (E - nextOf bn W) + (match v7 with | .bool true => 1 | _ => 0)

theorem at_of_post {rows : List (List Int)} {want : List Int} {bn nx : Nat} {w w' : World} {e : Ending} (pre : List Nat) (h : StepPost rows want bn nx w e w')
    (hL : masksN rows want = pre ++ masksFrom rows want nx (2 ^ rows.length - nx)) (hnx : nx ≤ 2 ^ rows.length) :
    ∃ v6 v7, e = .returned (.tuple #[v6, v7]) ∧ AtM rows want bn pre v6 v7 w' ∧ Only (fun k => k = bn) w w' ∧ measM (2 ^ rows.length) bn v7 w' < 2 * (2 ^ rows.length - nx) + 1 := by
  obtain ⟨m', b, nx', rfl, hh, ho, hle, hlt, hm⟩ := h
  refine ⟨_, _, rfl, ?_, ho, ?_⟩
  · refine ⟨nx', m', b, rfl, rfl, hh, hle, ?_, ?_⟩
    · rintro rfl
      cases hms : masksFrom rows want nx (2 ^ rows.length - nx) with
      | nil => rw [hL, hms, List.append_nil]
      | cons m ms => rw [hms] at hm; exact absurd hm.1 (by simp)
    · rintro rfl
      cases hms : masksFrom rows want nx (2 ^ rows.length - nx) with
      | nil => rw [hms] at hm; exact absurd hm.1 (by simp)
      | cons m ms =>
        rw [hms] at hm
        obtain ⟨_, rfl, h3⟩ := hm
        exact ⟨ms, by rw [hL, hms], h3⟩
  · unfold measM
    rw [nextOf_eq hh]
    cases b with
    | true => have := hlt rfl; simp only; omega
    | false =>
      cases hms : masksFrom rows want nx (2 ^ rows.length - nx) with
      | nil => rw [hms] at hm; have := hm.2; simp only; omega
      | cons m ms => rw [hms] at hm; exact absurd hm.1 (by simp)

set_option maxHeartbeats 4000000 in
theorem iter_ok (n : Nat) (rows : List (List Int)) (want : List Int) (bo br bw base : Nat) (ok : Nat → Prop) (A0 : Option Addr) (c0 : Nat) (A1 : Option Addr) (c1 : Nat) (w : World) (H : Held rows want br bw base ok A0 c0 A1 c1 w)
    (hbo : w.cell? ⟨bo, 0, none⟩ = some (.bool true)) (hoko : ok bo) (hok : ∀ k, ok k → k < w.heap.size) :
    IterC Fence.wide n Tryd.prog 29 #[.pointer (some ⟨bo, 0, none⟩), .pointer (some ⟨br, 0, none⟩), .pointer (some ⟨bw, 0, none⟩)] ok RepM (fun xs => xs = masksN rows want) (fun pre => ∃ rest, masksN rows want = pre ++ rest) ((masksN rows want).length) w := by
  intro l J Jx W hW hJ hJx hY h0
  have H1 := H.later hW
  have hbo1 := cell_only hW (fun e => e hoko) hbo
  have hrb1 := H1.rb
  have hwb1 := H1.wb
  have HH := Aside0.mk H1
  have HJ0 := Aside0.mk h0
  have HY := Aside0.mk @hY
  have HW := Aside0.mk hW
  clear hW h0 hY
  refine callsIn_of_wp Tryd.func29 rfl trivial ?_ rfl
  simp only [Tryd.ntmps29, List.size_toArray, List.length_cons, List.length_nil, Nat.reduceAdd, Nat.reduceSub, Array.replicate_succ, Array.replicate_zero, List.push_toArray, List.append_toArray, List.nil_append, List.cons_append]
  gi_wp2
  refine ⟨trivial, (fun h => absurd h (by simp [Fence.wide])), ?_⟩
  refine (callsIn_wide.2 (walker_any _ _ W A0 rows.length c0 A1 want.length c1 rfl rfl)).mono ?_
  rintro e w2 ⟨rfl, hb2, hsz2, hc1, hc2, hn2⟩
  clear hbo1 hrb1 hwb1
  obtain ⟨ok2, hok2⟩ : ∃ ok2 : Nat → Prop, ok2 = fun k => ok k ∨ k = W.heap.size ∨ k = W.heap.size + 1 := ⟨_, rfl⟩
  obtain ⟨O1, hO1⟩ : ∃ O1 : Nat → Prop, O1 = fun k => k = W.heap.size ∨ k = W.heap.size + 1 ∨ k = W.heap.size + 2 := ⟨_, rfl⟩
  have hsW := HW.out.size
  have hH2 : Held rows want W.heap.size (W.heap.size + 1) base ok2 A0 c0 A1 c1 w2 :=
    ⟨HH.out.chk0, hc1, hc2, by rw [hok2]; exact .inr (.inl rfl), by rw [hok2]; exact .inr (.inr rfl), by rw [hok2]; exact .inl HH.out.okt, Kd.R_mono (Kd.R_below HH.out.rows_ hb2) (fun k hk => by rw [hok2]; exact .inl hk),
      Kd.R_mono (Kd.R_below HH.out.want_ hb2) (fun k hk => by rw [hok2]; exact .inl hk), HH.out.tab.below hb2⟩
  have hbn : ¬ ok2 (W.heap.size + 2) := by
    rw [hok2]
    rintro (h | h | h)
    · have := hok _ h; omega
    · omega
    · omega
  have hJ2 : J O1 [] w2 := hJ _ _ _ _ _ HJ0.out (Only.of_below hb2) (fun k e => e.elim) (fun k e => .inr (by rw [hO1] at e; rw [hsz2]; rcases e with e | e | e <;> omega))
  have hO1b : ∀ k, O1 k → W.heap.size ≤ k ∧ k < W.heap.size + 3 := fun k e => by rw [hO1] at e; rcases e with e | e | e <;> omega
  have hO1n : O1 (W.heap.size + 2) := by rw [hO1]; exact .inr (.inr rfl)
  have hok2O : ∀ k, ok2 k → ok k ∨ O1 k := fun k e => by
    rw [hok2] at e
    rw [hO1]
    rcases e with e | e | e
    · exact .inl e
    · exact .inr (.inl e)
    · exact .inr (.inr (.inl e))
  have HST := Aside0.mk (fun (W' : World) (hH : Held rows want W.heap.size (W.heap.size + 1) base ok2 A0 c0 A1 c1 W') (nx : Nat) (h1 : nx ≤ 2 ^ rows.length) (h2 : W'.heap[W.heap.size + 2]? = some (.cells #[.int .u32 (nx : Int)] 37 (0, 0))) =>
    (callsIn_wide (n := n - 1)).2 (step_any rows want W.heap.size (W.heap.size + 2) (W.heap.size + 1) base ok2 A0 c0 A1 c1 W' hH hbn nx h1 h2))
  have hst := fun (pre : List Nat) (A B : World) (hj : J O1 pre A) (ho : Only (fun k => k = W.heap.size + 2) A B) => hJ _ _ _ _ _ hj (ho.mono (fun k _ e => by rw [e]; exact hO1n)) (fun _ e => e) (fun _ e => .inl e)
  have HSJ := Aside0.mk hst
  have hHon := fun (A B : World) (hH : Held rows want W.heap.size (W.heap.size + 1) base ok2 A0 c0 A1 c1 A) (ho : Only (fun k => k = W.heap.size + 2) A B) => hH.later (ho.mono (fun k _ e => by rw [e]; exact hbn))
  have HHO := Aside0.mk hHon
  have HOB := Aside0.mk hO1b
  have HON := Aside0.mk hO1n
  have HOK := Aside0.mk hok2O
  have HJ2 := Aside0.mk hJ2
  have HH2 := Aside0.mk hH2
  have HN2 := Aside0.mk hn2
  have HSZ := Aside0.mk hsz2
  clear hst hHon hO1b hO1n hok2O hJ2 hH2 hn2 hsz2 hbn hc1 hc2 hb2 hok2 hO1 hsW
  gi_wp2
  refine ⟨trivial, (fun h => absurd h (by simp [Fence.wide])), ?_⟩
  refine (HST.out w2 HH2.out 0 (Nat.zero_le _) (by simpa using HN2.out)).mono ?_
  rintro e w3 hpost
  obtain ⟨v6, v7, rfl, hat, ho3, _⟩ := at_of_post [] hpost (by simp [masksN]) (Nat.zero_le _)
  have HAT := Aside0.mk hat
  have HJ3 := Aside0.mk (HSJ.out _ _ _ HJ2.out ho3)
  have HH3 := Aside0.mk (HHO.out _ _ HH2.out ho3)
  have HS3 := Aside0.mk (show W.heap.size + 3 ≤ w3.heap.size by have := ho3.size; have := HSZ.out; omega)
  clear hpost hat ho3 HSZ
  gi_wp2
  gi_loopw [6, 7] (fun v6 v7 wr => ∃ pre, Aside0 (AtM rows want (W.heap.size + 2) pre v6 v7 wr) ∧ Aside0 (J O1 pre wr) ∧ Aside0 (Held rows want W.heap.size (W.heap.size + 1) base ok2 A0 c0 A1 c1 wr) ∧ Aside0 (W.heap.size + 3 ≤ wr.heap.size)) (fun _ v7 wr => measM (2 ^ rows.length) (W.heap.size + 2) v7 wr)
  case atStart => exact ⟨[], HAT, HJ3, HH3, HS3⟩
  case round =>
    clear HAT HJ3 HH3 HS3
    obtain ⟨pre, HAT, HJ3, HH3, HS3⟩ := hrel
    obtain ⟨nx, m, b, rfl, rfl, hn, hnx, hf, ht⟩ := HAT.out
    clear HAT
    cases b with
    | false =>
      have HL := Aside0.mk (hf rfl)
      have HN := Aside0.mk hn
      clear hf ht hn
      gi_wp2
      refine ⟨(fun _ h => by cases h), ?_⟩
      gi_wp2
      go_end0
      exact ⟨⟨_, rfl⟩, O1, fun k e => (HOB.out k e).1, .inl ⟨pre, HL.out.symm, HJ3.out⟩⟩
    | true =>
      obtain ⟨ms, hL, hms⟩ := ht rfl
      have hlen : pre.length < (masksN rows want).length := by rw [hL]; simp
      obtain ⟨fn, tmps, assign, body, hy, hR⟩ := HY.out O1 pre m #[.int .u32 (m : Int)] wr wr (fun k e => ⟨(HOB.out k e).1, by have := (HOB.out k e).2; have := HS3.out; omega⟩) HJ3.out (Only.refl _ _) rfl hlen
      have HL := Aside0.mk hL
      have HMS := Aside0.mk hms
      have HN := Aside0.mk hn
      clear hf ht hL hms hlen hn
      gi_wp2
      refine ⟨(fun h => absurd h (by simp [Fence.wide])), ?_⟩
      refine hR.mono ?_
      rintro e W3 (⟨rfl, hJ4, hk4⟩ | ⟨rfl, hJx4⟩)
      · have hH4 := HH3.out.later (hk4.mono (fun k _ e h => e (HOK.out k h)))
        have hn4 := keeps_of hk4 (fun h => h (.inr HON.out)) HN.out
        have HC := Aside0.mk (HST.out W3 hH4 nx hnx hn4)
        have HJ4 := Aside0.mk hJ4
        have HH4 := Aside0.mk hH4
        have HK4 := Aside0.mk hk4.size
        have HM := Aside0.mk (nextOf_eq HN.out)
        clear hJ4 hk4 hH4 hn4 hy hR
        gi_wp2
        refine ⟨trivial, (fun h => absurd h (by simp [Fence.wide])), ?_⟩
        refine HC.out.mono ?_
        rintro e w5 hpost
        obtain ⟨v6', v7', rfl, hat, ho5, hm5⟩ := at_of_post (pre ++ [m]) hpost (by rw [HL.out, HMS.out]; simp) hnx
        have HAT := Aside0.mk hat
        have HJ5 := Aside0.mk (HSJ.out _ _ _ HJ4.out ho5)
        have HH5 := Aside0.mk (HHO.out _ _ HH4.out ho5)
        have HS5 := Aside0.mk (show W.heap.size + 3 ≤ w5.heap.size by have := ho5.size; have := HS3.out; have := HK4.out; omega)
        have HM5 := Aside0.mk hm5
        clear hpost hat ho5 hm5
        gi_wp2
        go_roundw
        case rel => exact ⟨pre ++ [m], HAT, HJ5, HH5, HS5⟩
        case measure =>
          have h1 := HM5.out
          have h2 := HM.out
          unfold measM at h1 ⊢
          rw [h2]
          omega
      · have HJX := Aside0.mk hJx4
        clear hJx4 hy hR
        gi_wp2
        go_end0
        exact ⟨⟨_, rfl⟩, O1, fun k e => (HOB.out k e).1, .inr ⟨pre ++ [m], ⟨ms, by rw [HL.out]; simp⟩, HJX.out⟩⟩

set_option maxHeartbeats 1000000 in
theorem iter_no (n : Nat) (bo br bw : Nat) (Kc : Nat → Prop) (w : World) (hbo : w.cell? ⟨bo, 0, none⟩ = some (.bool false)) (hoko : Kc bo) :
    IterC Fence.wide n Tryd.prog 29 #[.pointer (some ⟨bo, 0, none⟩), .pointer (some ⟨br, 0, none⟩), .pointer (some ⟨bw, 0, none⟩)] Kc RepM (fun xs => xs = []) (fun pre => pre = []) 0 w := by
  intro l J Jx W hW hJ hJx hY h0
  have hbo1 := cell_only hW (fun e => e hoko) hbo
  have HJ0 := Aside0.mk h0
  clear hW h0 hY
  refine callsIn_of_wp Tryd.func29 rfl trivial ?_ rfl
  simp only [Tryd.ntmps29, List.size_toArray, List.length_cons, List.length_nil, Nat.reduceAdd, Nat.reduceSub, Array.replicate_succ, Array.replicate_zero, List.push_toArray, List.append_toArray, List.nil_append, List.cons_append]
  gi_wp2
  refine bodyPost_ret (results_none rfl _ _ _) rfl ?_
  exact ⟨⟨_, rfl⟩, fun _ => False, fun k e => e.elim, .inl ⟨[], rfl, HJ0.out⟩⟩
end Go.Proofs.YtbdlihldmmbdmaaDoor.PickIter
