/- math/bits.TrailingZeros32: how many times 2 divides x, where the table's variable holds what its initialiser lays. -/
import Derived.Test.YtbdlihldmmbdmaaDoorProg
import Derived.Test.YtbdlihldmmbdmaaDoorWWords
import Derived.Shelf.Spec.TrailingZeros
import Derived.Lib.TrailingZeros
namespace Go.Proofs.YtbdlihldmmbdmaaDoor.Bits
open Go.RowKit Go.Proofs.YtbdlihldmmbdmaaDoorW.PrintWords
set_option linter.unusedVariables false

/-- The table's variable holds its numbers. -/
structure TabW (w : World) : Prop where mk :: (out : TabAt 0 Lib.deBruijn32tab w)
theorem TabW.below {w w1 : World} (h : TabW w) (hb : Below w.heap.size w w1) : TabW w1 := ⟨fun j hj => pw_cell_below hb (h.out j hj)⟩
theorem TabW.later {w0 w1 : World} (h : TabW w0) (h0 : Below w0.heap.size w0 w1) : TabW w1 := h.below h0
theorem TabW.drewN {w : World} (h : TabW w) (n : Nat) : TabW (w.drewN n) := h.below (pw_below_drewN (Below.refl _ _) n)
theorem TabW.alloc {w : World} (h : TabW w) (o : Obj) : TabW (w.alloc o) := h.below (below_alloc (Below.refl _ _) o)

set_option maxHeartbeats 1000000 in
theorem tz32_core (x k idx : Nat) (w : World) (hx0 : ((x : Int) == 0) = false)
    (key : bits BinOp.and IntKind.u32 (x : Int) (-(x : Int) % 4294967296) * 125613361 % 4294967296 / 134217728 = (idx : Int))
    (hi : idx < 32) (hk : k < 32) (hcell : w.cell? ⟨0, idx, none⟩ = some (.int .u8 k)) :
    Calls Tryd.prog 42 #[.int .u32 x] w fun e w' => e = .returned (.int .i64 k) ∧ w' = w := by
  go_enter Tryd.func42, Tryd.ntmps42
  go_wp2_with (simp only [key])
  go_ret
  exact ⟨rfl, rfl⟩
theorem tz32 (x : Nat) (hx : x < 4294967296) (hx0 : x ≠ 0) (w : World) (hT : TabW w) :
    Calls Tryd.prog 42 #[.int .u32 x] w fun e w' => e = .returned (.int .i64 (Lib.ctz 32 x)) ∧ w' = w := by
  obtain ⟨hlow, hk⟩ := Lib.lowest_bit 32 x hx0 hx
  obtain ⟨hi, htab⟩ := Lib.deBruijn32_at _ hk
  have hcell := hT.out _ hi
  rw [htab] at hcell
  exact tz32_core x _ _ w (by simp; omega) (tz32_key x _ hx hx0 hlow) hi hk hcell
end Go.Proofs.YtbdlihldmmbdmaaDoor.Bits
