/-
  DERIVED. GIVEN WITH THE SEED: THE CARDS: each row of YtbagbjacmakfhaaDoorRows.lean that lists a variable, with what it lists TIED to the program's text (the seventh form; the later family's looks); each row that meets fmt, with fmt's text TOLD by the authors' own Lean function (tested against real Go, not proved from fmt's source: count such statements apart). THE CARD IS WHAT COUNTS. Prove the row's statement (the work); the ties are given (YtbagbjacmakfhaaDoorTie.lean); close each card by the builder's one call (the guide's Derived/Test/ToyasCard.lean, 'card_holds'). Laid BY PROGRAM, IN A SANDBOX (cutbox-door.mjs). By AI agents, Wed Nov 11 2026. No macro, syntax, notation, axiom, sorry.
-/
import Derived.Test.YtbagbjacmakfhaaDoorRows
import GoSem.ClaimSeven
namespace Go.Proofs.YtbagbjacmakfhaaDoor
namespace Rows

/-- THE TIED CARD OF 'radiolinklaw09.CompressorNews'. -/
def compressorNewsCard : Claim7 := { stood := { row := compressorNewsRow, standIns := [], harness := (true, "60ed1319f4a4f7c28c09e6d3728a915221acc9c80d2eb7eb03842e7fcd3f5c22"), looks := false }, kinds := [], alts := [], laidByText := true, laidKinds := [.mapped], laidTests := true, laidLooks := .later }
def CompressorNewsCardSaid : Prop := Claim7.holds Tryd.pinned (.plain (OpenSpec.ofChange compressorNewsSpec)) compressorNewsCard

/-- THE TIED CARD OF 'radiolinklaw09.CompressorTiny'. -/
def compressorTinyCard : Claim7 := { stood := { row := compressorTinyRow, standIns := [], harness := (true, "60ed1319f4a4f7c28c09e6d3728a915221acc9c80d2eb7eb03842e7fcd3f5c22"), looks := false }, kinds := [], alts := [], laidByText := true, laidKinds := [.mapped], laidTests := true, laidLooks := .later }
def CompressorTinyCardSaid : Prop := Claim7.holds Tryd.pinned (.plain (OpenSpec.ofChange compressorTinySpec)) compressorTinyCard

/-- THE SECOND FORM's CARD OF 'radiolinklaw09.CompressorNews'. -/
def compressorNewsUptoCard : Claim7 := { stood := { row := compressorNewsUptoRow, standIns := [], harness := (true, "60ed1319f4a4f7c28c09e6d3728a915221acc9c80d2eb7eb03842e7fcd3f5c22"), looks := false }, kinds := [], alts := [], laidByText := true, laidKinds := [.mapped], laidTests := true, laidLooks := .later }
def CompressorNewsUptoCardSaid : Prop := Claim7.holds Tryd.pinned (.plain (OpenSpec.upto compressorNewsSpec)) compressorNewsUptoCard

/-- THE SECOND FORM's CARD OF 'radiolinklaw09.CompressorTiny'. -/
def compressorTinyUptoCard : Claim7 := { stood := { row := compressorTinyUptoRow, standIns := [], harness := (true, "60ed1319f4a4f7c28c09e6d3728a915221acc9c80d2eb7eb03842e7fcd3f5c22"), looks := false }, kinds := [], alts := [], laidByText := true, laidKinds := [.mapped], laidTests := true, laidLooks := .later }
def CompressorTinyUptoCardSaid : Prop := Claim7.holds Tryd.pinned (.plain (OpenSpec.upto compressorTinySpec)) compressorTinyUptoCard
end Rows
end Go.Proofs.YtbagbjacmakfhaaDoor
