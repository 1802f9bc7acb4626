/-
  DERIVED. GIVEN WITH THE SEED: THE CARDS: each row of YtndpmpnmkpaklaaGreatDoorRows.lean that lists a variable, with what it lists TIED to the program's text (the seventh form; the later family's looks); each row that meets fmt, with fmt's text TOLD by the authors' own Lean function (tested against real Go, not proved from fmt's source: count such statements apart). THE CARD IS WHAT COUNTS. Prove the row's statement (the work); the ties are given (YtndpmpnmkpaklaaGreatDoorTie.lean); close each card by the builder's one call (the guide's Derived/Test/ToyasCard.lean, 'card_holds'). Laid BY PROGRAM, IN A SANDBOX (cutbox-door.mjs). By AI agents, Wed Nov 11 2026. No macro, syntax, notation, axiom, sorry.
-/
import Derived.Test.YtndpmpnmkpaklaaGreatDoorRows
import GoSem.ClaimSeven
namespace Go.Proofs.YtndpmpnmkpaklaaGreatDoor
namespace Rows

/-- THE TIED CARD OF 'radiolinklaw12.HeaderlinkReliable'. -/
def headerlinkReliableCard : Claim7 := { stood := { row := headerlinkReliableRow, standIns := [], harness := (true, "fbb4bd97560a42999170064dda5ce4bb14f22675f9c2952b5ad69d7f95959887"), looks := false }, kinds := [], alts := [], laidByText := true, laidKinds := [.mapped], laidTests := true, laidLooks := .later }
def HeaderlinkReliableCardSaid : Prop := Claim7.holds Tryz.pinned (.plain (OpenSpec.ofChange headerlinkReliableSpec)) headerlinkReliableCard

/-- THE TIED CARD OF 'radiolinklaw12.HeaderlinkOnce'. -/
def headerlinkOnceCard : Claim7 := { stood := { row := headerlinkOnceRow, standIns := [], harness := (true, "fbb4bd97560a42999170064dda5ce4bb14f22675f9c2952b5ad69d7f95959887"), looks := false }, kinds := [], alts := [], laidByText := true, laidKinds := [.mapped], laidTests := true, laidLooks := .later }
def HeaderlinkOnceCardSaid : Prop := Claim7.holds Tryz.pinned (.plain (OpenSpec.ofChange headerlinkOnceSpec)) headerlinkOnceCard

/-- THE TIED CARD OF 'radiolinklaw12.HeaderlinkRuns'. -/
def headerlinkRunsCard : Claim7 := { stood := { row := headerlinkRunsRow, standIns := [], harness := (true, "fbb4bd97560a42999170064dda5ce4bb14f22675f9c2952b5ad69d7f95959887"), looks := false }, kinds := [], alts := [], laidByText := true, laidKinds := [.mapped], laidTests := true, laidLooks := .later }
def HeaderlinkRunsCardSaid : Prop := Claim7.holds Tryz.pinned (.plain (OpenSpec.ofChange headerlinkRunsSpec)) headerlinkRunsCard

/-- THE TIED CARD OF 'radiolinklaw12.HeaderlinkMade'. -/
def headerlinkMadeCard : Claim7 := { stood := { row := headerlinkMadeRow, standIns := [], harness := (true, "fbb4bd97560a42999170064dda5ce4bb14f22675f9c2952b5ad69d7f95959887"), looks := false }, kinds := [], alts := [], laidByText := true, laidKinds := [.mapped], laidTests := true, laidLooks := .later }
def HeaderlinkMadeCardSaid : Prop := Claim7.holds Tryz.pinned (.plain (OpenSpec.ofChange headerlinkMadeSpec)) headerlinkMadeCard

/-- THE SECOND FORM's CARD OF 'radiolinklaw12.HeaderlinkReliable'. -/
def headerlinkReliableUptoCard : Claim7 := { stood := { row := headerlinkReliableUptoRow, standIns := [], harness := (true, "fbb4bd97560a42999170064dda5ce4bb14f22675f9c2952b5ad69d7f95959887"), looks := false }, kinds := [], alts := [], laidByText := true, laidKinds := [.mapped], laidTests := true, laidLooks := .later }
def HeaderlinkReliableUptoCardSaid : Prop := Claim7.holds Tryz.pinned (.plain (OpenSpec.upto headerlinkReliableSpec)) headerlinkReliableUptoCard

/-- THE SECOND FORM's CARD OF 'radiolinklaw12.HeaderlinkOnce'. -/
def headerlinkOnceUptoCard : Claim7 := { stood := { row := headerlinkOnceUptoRow, standIns := [], harness := (true, "fbb4bd97560a42999170064dda5ce4bb14f22675f9c2952b5ad69d7f95959887"), looks := false }, kinds := [], alts := [], laidByText := true, laidKinds := [.mapped], laidTests := true, laidLooks := .later }
def HeaderlinkOnceUptoCardSaid : Prop := Claim7.holds Tryz.pinned (.plain (OpenSpec.upto headerlinkOnceSpec)) headerlinkOnceUptoCard

/-- THE SECOND FORM's CARD OF 'radiolinklaw12.HeaderlinkRuns'. -/
def headerlinkRunsUptoCard : Claim7 := { stood := { row := headerlinkRunsUptoRow, standIns := [], harness := (true, "fbb4bd97560a42999170064dda5ce4bb14f22675f9c2952b5ad69d7f95959887"), looks := false }, kinds := [], alts := [], laidByText := true, laidKinds := [.mapped], laidTests := true, laidLooks := .later }
def HeaderlinkRunsUptoCardSaid : Prop := Claim7.holds Tryz.pinned (.plain (OpenSpec.upto headerlinkRunsSpec)) headerlinkRunsUptoCard

/-- THE SECOND FORM's CARD OF 'radiolinklaw12.HeaderlinkMade'. -/
def headerlinkMadeUptoCard : Claim7 := { stood := { row := headerlinkMadeUptoRow, standIns := [], harness := (true, "fbb4bd97560a42999170064dda5ce4bb14f22675f9c2952b5ad69d7f95959887"), looks := false }, kinds := [], alts := [], laidByText := true, laidKinds := [.mapped], laidTests := true, laidLooks := .later }
def HeaderlinkMadeUptoCardSaid : Prop := Claim7.holds Tryz.pinned (.plain (OpenSpec.upto headerlinkMadeSpec)) headerlinkMadeUptoCard
end Rows
end Go.Proofs.YtndpmpnmkpaklaaGreatDoor
