/-
  DERIVED. GIVEN WITH THE SEED: THE CARDS: each row of YtbdlihldmmbdmaaDoorRows.lean that lists a variable, with what it lists TIED to the program's text (the seventh form; the later family's looks); each row that meets fmt, with fmt's text TOLD by the authors' own Lean function (tested against real Go, not proved from fmt's source: count such statements apart). THE CARD IS WHAT COUNTS. Prove the row's statement (the work); the ties are given (YtbdlihldmmbdmaaDoorTie.lean); close each card by the builder's one call (the guide's Derived/Test/ToyasCard.lean, 'card_holds'). Laid BY PROGRAM, IN A SANDBOX (cutbox-door.mjs). By AI agents, Wed Nov 11 2026. No macro, syntax, notation, axiom, sorry.
-/
import Derived.Test.YtbdlihldmmbdmaaDoorRows
import GoSem.ClaimSeven
namespace Go.Proofs.YtbdlihldmmbdmaaDoor
namespace Rows

/-- THE TIED CARD OF 'amalgamlaw10.PickLists'. -/
def pickListsCard : Claim7 := { stood := { row := pickListsRow, standIns := [], harness := (true, "7c0debd3f8c9716af48be06b1909182cef7d3272bd712dd90f6e2175e8b8d14b"), looks := false }, kinds := [], alts := [], laidByText := true, laidKinds := [.data], laidTests := true, laidLooks := .later }
def PickListsCardSaid : Prop := Claim7.holds Tryd.pinned (.plain (OpenSpec.ofChange pickListsSpec)) pickListsCard

/-- THE TIED CARD OF 'amalgamlaw10.PickCover'. -/
def pickCoverCard : Claim7 := { stood := { row := pickCoverRow, standIns := [], harness := (true, "7c0debd3f8c9716af48be06b1909182cef7d3272bd712dd90f6e2175e8b8d14b"), looks := false }, kinds := [], alts := [], laidByText := true, laidKinds := [.data], laidTests := true, laidLooks := .later }
def PickCoverCardSaid : Prop := Claim7.holds Tryd.pinned (.plain (OpenSpec.ofChange pickCoverSpec)) pickCoverCard

/-- THE TIED CARD OF 'amalgamlaw10.PickNames'. -/
def pickNamesCard : Claim7 := { stood := { row := pickNamesRow, standIns := [], harness := (true, "7c0debd3f8c9716af48be06b1909182cef7d3272bd712dd90f6e2175e8b8d14b"), looks := false }, kinds := [], alts := [], laidByText := true, laidKinds := [.data], laidTests := true, laidLooks := .later }
def PickNamesCardSaid : Prop := Claim7.holds Tryd.pinned (.plain (OpenSpec.ofChange pickNamesSpec)) pickNamesCard

/-- THE TIED CARD OF 'amalgamlaw10.PickColumns'. -/
def pickColumnsCard : Claim7 := { stood := { row := pickColumnsRow, standIns := [], harness := (true, "7c0debd3f8c9716af48be06b1909182cef7d3272bd712dd90f6e2175e8b8d14b"), looks := false }, kinds := [], alts := [], laidByText := true, laidKinds := [.data], laidTests := true, laidLooks := .later }
def PickColumnsCardSaid : Prop := Claim7.holds Tryd.pinned (.plain (OpenSpec.ofChange pickColumnsSpec)) pickColumnsCard

/-- THE TIED CARD OF 'amalgamlaw10.PickSums'. -/
def pickSumsCard : Claim7 := { stood := { row := pickSumsRow, standIns := [], harness := (true, "7c0debd3f8c9716af48be06b1909182cef7d3272bd712dd90f6e2175e8b8d14b"), looks := false }, kinds := [], alts := [], laidByText := true, laidKinds := [.data], laidTests := true, laidLooks := .later }
def PickSumsCardSaid : Prop := Claim7.holds Tryd.pinned (.plain (OpenSpec.ofChange pickSumsSpec)) pickSumsCard

/-- THE SECOND FORM's CARD OF 'amalgamlaw10.PickLists'. -/
def pickListsUptoCard : Claim7 := { stood := { row := pickListsUptoRow, standIns := [], harness := (true, "7c0debd3f8c9716af48be06b1909182cef7d3272bd712dd90f6e2175e8b8d14b"), looks := false }, kinds := [], alts := [], laidByText := true, laidKinds := [.data], laidTests := true, laidLooks := .later }
def PickListsUptoCardSaid : Prop := Claim7.holds Tryd.pinned (.plain (OpenSpec.upto pickListsSpec)) pickListsUptoCard

/-- THE SECOND FORM's CARD OF 'amalgamlaw10.PickCover'. -/
def pickCoverUptoCard : Claim7 := { stood := { row := pickCoverUptoRow, standIns := [], harness := (true, "7c0debd3f8c9716af48be06b1909182cef7d3272bd712dd90f6e2175e8b8d14b"), looks := false }, kinds := [], alts := [], laidByText := true, laidKinds := [.data], laidTests := true, laidLooks := .later }
def PickCoverUptoCardSaid : Prop := Claim7.holds Tryd.pinned (.plain (OpenSpec.upto pickCoverSpec)) pickCoverUptoCard

/-- THE SECOND FORM's CARD OF 'amalgamlaw10.PickNames'. -/
def pickNamesUptoCard : Claim7 := { stood := { row := pickNamesUptoRow, standIns := [], harness := (true, "7c0debd3f8c9716af48be06b1909182cef7d3272bd712dd90f6e2175e8b8d14b"), looks := false }, kinds := [], alts := [], laidByText := true, laidKinds := [.data], laidTests := true, laidLooks := .later }
def PickNamesUptoCardSaid : Prop := Claim7.holds Tryd.pinned (.plain (OpenSpec.upto pickNamesSpec)) pickNamesUptoCard

/-- THE SECOND FORM's CARD OF 'amalgamlaw10.PickColumns'. -/
def pickColumnsUptoCard : Claim7 := { stood := { row := pickColumnsUptoRow, standIns := [], harness := (true, "7c0debd3f8c9716af48be06b1909182cef7d3272bd712dd90f6e2175e8b8d14b"), looks := false }, kinds := [], alts := [], laidByText := true, laidKinds := [.data], laidTests := true, laidLooks := .later }
def PickColumnsUptoCardSaid : Prop := Claim7.holds Tryd.pinned (.plain (OpenSpec.upto pickColumnsSpec)) pickColumnsUptoCard

/-- THE SECOND FORM's CARD OF 'amalgamlaw10.PickSums'. -/
def pickSumsUptoCard : Claim7 := { stood := { row := pickSumsUptoRow, standIns := [], harness := (true, "7c0debd3f8c9716af48be06b1909182cef7d3272bd712dd90f6e2175e8b8d14b"), looks := false }, kinds := [], alts := [], laidByText := true, laidKinds := [.data], laidTests := true, laidLooks := .later }
def PickSumsUptoCardSaid : Prop := Claim7.holds Tryd.pinned (.plain (OpenSpec.upto pickSumsSpec)) pickSumsUptoCard
end Rows
end Go.Proofs.YtbdlihldmmbdmaaDoor
