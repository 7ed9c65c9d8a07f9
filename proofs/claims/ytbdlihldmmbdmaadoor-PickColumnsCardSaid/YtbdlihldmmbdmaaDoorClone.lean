/- slices.Clone of whole numbers: new memory that reads the same. -/
import Derived.Test.YtbdlihldmmbdmaaDoorFn
import Derived.WalkSpells
namespace Go.Proofs.YtbdlihldmmbdmaaDoor.Clone
open Go.RowKit Go.Proofs.YtbdlihldmmbdmaaDoorW.PrintWords Go.Proofs.YtbdlihldmmbdmaaDoor.Fn
set_option linter.unusedVariables false

theorem info_int : (Tryd.prog.info? 3).map (fun i => (i.zero, i.size, i.bytes)) = some (some (.int .i64 0), 1, 8) := by kernel_rfl
theorem C_none {w : World} {n : Nat} {xs : List Int} (h : (Kd.int .i64).C w none n xs) : xs = [] := by
  rcases Nat.eq_zero_or_pos n with h0 | h0
  · have := Kd.C_len h
    exact List.eq_nil_of_length_eq_zero (by omega)
  · obtain ⟨ad, e, _⟩ := h.2.2 h0
    cases e
theorem C_ints {w : World} {A : Option Addr} {n : Nat} {xs : List Int} (h : (Kd.int .i64).C w A n xs) : ReadsInt w .i64 A n xs := by
  have := Kd.reads_of_C (enc := Value.int .i64) (d := (0 : Int)) (h1 := fun _ => rfl) h
  exact this

set_option maxHeartbeats 1000000 in
theorem clone_int (A : Option Addr) (c : Nat) (xs : List Int) (w : World) (hr : (Kd.int .i64).C w A xs.length xs) (hlen : xs.length ≤ 17592186044416) :
    Calls Tryd.prog 28 #[.slice A xs.length c] w fun e w' => ∃ v, e = .returned v ∧ Kd.R (Kd.int .i64) 3 w' w.heap.size (fun _ => True) v xs ∧ Below w.heap.size w w' := by
  rcases A with _ | ad
  · obtain rfl := C_none hr
    clear hr
    have hn : ∀ W : World, (binOp .eql 23 (.slice none 0 c) (.slice none 0 0)).run Tryd.prog W = .ok (.bool true) W := fun W => by
      rw [Lib.run_eql_slice_nil W 23 3 none 0 c 0 0 Tryd.underlying23]; rfl
    go_enter Tryd.func28, Tryd.ntmps28
    go_wp2
    go_ret
    exact ⟨_, rfl, Kd.R_nil _ _ _ _ _, Below.refl _ _⟩
  · have HR := Aside0.mk hr
    clear hr
    have hn : ∀ W : World, (binOp .eql 23 (.slice (some ad) xs.length c) (.slice none 0 0)).run Tryd.prog W = .ok (.bool false) W := fun W => by
      rw [Lib.run_eql_slice_nil W 23 3 (some ad) xs.length c 0 0 Tryd.underlying23]; rfl
    go_enter Tryd.func28, Tryd.ntmps28
    go_wp2_with (at_builtin; refine print_append_row (w0 := w) w.heap.size rfl _ _ 23 3 .i64 8 rfl Tryd.underlying23 info_int (by decide) (.slice (some ⟨w.heap.size, 0, none⟩) 0 0) [] xs (some ad) xs.length c rfl rfl ?c1 ?c2 ?c3 ?c4 ?c5 ?_)
    case c1 => exact own_lit w w.heap.size 3 .i64 [] (Nat.le_refl _) (by simp)
    case c2 => exact (C_ints HR.out).below ((Below.refl _ _).alloc (Nat.le_refl _) _)
    case c3 => exact (Below.refl _ _).alloc (Nat.le_refl _) _
    case c4 => simp
    case c5 => simp; omega
    intro v1 w1 hown hB _ _
    have HO := Aside0.mk hown
    clear hown
    go_wp2
    go_ret
    exact ⟨v1, rfl, Kd.R_of_own (enc := Value.int .i64) HO.out (fun _ _ => trivial), hB⟩
end Go.Proofs.YtbdlihldmmbdmaaDoor.Clone
