/-
  DERIVED. GIVEN WITH THE SEED: THE CARDS: each row of YtbagbjacmakfhaaGreatDoorRows.lean that lists a variable, with what it lists TIED to the program's text (the seventh form; the later family's looks); each row that meets fmt, with fmt's text TOLD by the authors' own Lean function (tested against real Go, not proved from fmt's source: count such statements apart). THE CARD IS WHAT COUNTS. Prove the row's statement (the work); the ties are given (YtbagbjacmakfhaaGreatDoorTie.lean); close each card by the builder's one call (the guide's Derived/Test/ToyasCard.lean, 'card_holds'). Laid BY PROGRAM, IN A SANDBOX (cutbox-door.mjs). By AI agents, Wed Nov 11 2026. No macro, syntax, notation, axiom, sorry.
-/
import Derived.Test.YtbagbjacmakfhaaGreatDoorRows
import GoSem.ClaimSeven
namespace Go.Proofs.YtbagbjacmakfhaaGreatDoor
namespace Rows

/-- THE TIED CARD OF 'radiolinklaw09.CompressorExact'. -/
def compressorExactCard : Claim7 := { stood := { row := compressorExactRow, standIns := [], harness := (true, "9c6b8b9cfa3c033dbc1c8b32f5f9fb86ce60f1815cde26fa9bb8728806202825"), looks := false }, kinds := [], alts := [], laidByText := true, laidKinds := [.mapped], laidTests := true, laidLooks := .later }
def CompressorExactCardSaid : Prop := Claim7.holds Tryz.pinned (.plain (OpenSpec.ofChange compressorExactSpec)) compressorExactCard

/-- THE TIED CARD OF 'radiolinklaw09.CompressorRuns'. -/
def compressorRunsCard : Claim7 := { stood := { row := compressorRunsRow, standIns := [], harness := (true, "9c6b8b9cfa3c033dbc1c8b32f5f9fb86ce60f1815cde26fa9bb8728806202825"), looks := false }, kinds := [], alts := [], laidByText := true, laidKinds := [.mapped], laidTests := true, laidLooks := .later }
def CompressorRunsCardSaid : Prop := Claim7.holds Tryz.pinned (.plain (OpenSpec.ofChange compressorRunsSpec)) compressorRunsCard

/-- THE TIED CARD OF 'radiolinklaw09.CompressorNever'. -/
def compressorNeverCard : Claim7 := { stood := { row := compressorNeverRow, standIns := [], harness := (true, "9c6b8b9cfa3c033dbc1c8b32f5f9fb86ce60f1815cde26fa9bb8728806202825"), looks := false }, kinds := [], alts := [], laidByText := true, laidKinds := [.mapped], laidTests := true, laidLooks := .later }
def CompressorNeverCardSaid : Prop := Claim7.holds Tryz.pinned (.plain (OpenSpec.ofChange compressorNeverSpec)) compressorNeverCard

/-- THE TIED CARD OF 'radiolinklaw09.CompressorPossible'. -/
def compressorPossibleCard : Claim7 := { stood := { row := compressorPossibleRow, standIns := [], harness := (true, "9c6b8b9cfa3c033dbc1c8b32f5f9fb86ce60f1815cde26fa9bb8728806202825"), looks := false }, kinds := [], alts := [], laidByText := true, laidKinds := [.mapped], laidTests := true, laidLooks := .later }
def CompressorPossibleCardSaid : Prop := Claim7.holds Tryz.pinned (.plain (OpenSpec.ofChange compressorPossibleSpec)) compressorPossibleCard

/-- THE SECOND FORM's CARD OF 'radiolinklaw09.CompressorExact'. -/
def compressorExactUptoCard : Claim7 := { stood := { row := compressorExactUptoRow, standIns := [], harness := (true, "9c6b8b9cfa3c033dbc1c8b32f5f9fb86ce60f1815cde26fa9bb8728806202825"), looks := false }, kinds := [], alts := [], laidByText := true, laidKinds := [.mapped], laidTests := true, laidLooks := .later }
def CompressorExactUptoCardSaid : Prop := Claim7.holds Tryz.pinned (.plain (OpenSpec.upto compressorExactSpec)) compressorExactUptoCard

/-- THE SECOND FORM's CARD OF 'radiolinklaw09.CompressorRuns'. -/
def compressorRunsUptoCard : Claim7 := { stood := { row := compressorRunsUptoRow, standIns := [], harness := (true, "9c6b8b9cfa3c033dbc1c8b32f5f9fb86ce60f1815cde26fa9bb8728806202825"), looks := false }, kinds := [], alts := [], laidByText := true, laidKinds := [.mapped], laidTests := true, laidLooks := .later }
def CompressorRunsUptoCardSaid : Prop := Claim7.holds Tryz.pinned (.plain (OpenSpec.upto compressorRunsSpec)) compressorRunsUptoCard

/-- THE SECOND FORM's CARD OF 'radiolinklaw09.CompressorNever'. -/
def compressorNeverUptoCard : Claim7 := { stood := { row := compressorNeverUptoRow, standIns := [], harness := (true, "9c6b8b9cfa3c033dbc1c8b32f5f9fb86ce60f1815cde26fa9bb8728806202825"), looks := false }, kinds := [], alts := [], laidByText := true, laidKinds := [.mapped], laidTests := true, laidLooks := .later }
def CompressorNeverUptoCardSaid : Prop := Claim7.holds Tryz.pinned (.plain (OpenSpec.upto compressorNeverSpec)) compressorNeverUptoCard

/-- THE SECOND FORM's CARD OF 'radiolinklaw09.CompressorPossible'. -/
def compressorPossibleUptoCard : Claim7 := { stood := { row := compressorPossibleUptoRow, standIns := [], harness := (true, "9c6b8b9cfa3c033dbc1c8b32f5f9fb86ce60f1815cde26fa9bb8728806202825"), looks := false }, kinds := [], alts := [], laidByText := true, laidKinds := [.mapped], laidTests := true, laidLooks := .later }
def CompressorPossibleUptoCardSaid : Prop := Claim7.holds Tryz.pinned (.plain (OpenSpec.upto compressorPossibleSpec)) compressorPossibleUptoCard
end Rows
end Go.Proofs.YtbagbjacmakfhaaGreatDoor
