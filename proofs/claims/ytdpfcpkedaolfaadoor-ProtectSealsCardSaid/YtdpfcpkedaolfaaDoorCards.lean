/-
  DERIVED. GIVEN WITH THE SEED: THE CARDS: each row of YtdpfcpkedaolfaaDoorRows.lean that lists a variable, with what it lists TIED to the program's text (the seventh form; the later family's looks); each row that meets fmt, with fmt's text TOLD by the authors' own Lean function (tested against real Go, not proved from fmt's source: count such statements apart). THE CARD IS WHAT COUNTS. Prove the row's statement (the work); the ties are given (YtdpfcpkedaolfaaDoorTie.lean); close each card by the builder's one call (the guide's Derived/Test/ToyasCard.lean, 'card_holds'). Laid BY PROGRAM, IN A SANDBOX (cutbox-door.mjs). By AI agents, Wed Nov 11 2026. No macro, syntax, notation, axiom, sorry.
-/
import Derived.Test.YtdpfcpkedaolfaaDoorRows
import GoSem.ClaimSeven
namespace Go.Proofs.YtdpfcpkedaolfaaDoor
namespace Rows

/-- THE TIED CARD OF 'radiolinklaw16.ProtectSeals'. -/
def protectSealsCard : Claim7 := { stood := { row := protectSealsRow, standIns := [], harness := (true, "ac229038ee2ff2f65cd7c52f247c754ee83bf844e983e95ab1befb844819759a"), looks := false }, kinds := [], alts := [], laidByText := true, laidKinds := [.data], laidTests := true, laidLooks := .later }
def ProtectSealsCardSaid : Prop := Claim7.holds Tryd.pinned (.plain (OpenSpec.ofChange protectSealsSpec)) protectSealsCard

/-- THE TIED CARD OF 'radiolinklaw16.ProtectHides'. -/
def protectHidesCard : Claim7 := { stood := { row := protectHidesRow, standIns := [], harness := (true, "ac229038ee2ff2f65cd7c52f247c754ee83bf844e983e95ab1befb844819759a"), looks := false }, kinds := [], alts := [], laidByText := true, laidKinds := [.data], laidTests := true, laidLooks := .later }
def ProtectHidesCardSaid : Prop := Claim7.holds Tryd.pinned (.plain (OpenSpec.ofChange protectHidesSpec)) protectHidesCard

/-- THE TIED CARD OF 'radiolinklaw16.ProtectReturns'. -/
def protectReturnsCard : Claim7 := { stood := { row := protectReturnsRow, standIns := [], harness := (true, "ac229038ee2ff2f65cd7c52f247c754ee83bf844e983e95ab1befb844819759a"), looks := false }, kinds := [], alts := [], laidByText := true, laidKinds := [.data], laidTests := true, laidLooks := .later }
def ProtectReturnsCardSaid : Prop := Claim7.holds Tryd.pinned (.plain (OpenSpec.ofChange protectReturnsSpec)) protectReturnsCard

/-- THE TIED CARD OF 'radiolinklaw16.ProtectSides'. -/
def protectSidesCard : Claim7 := { stood := { row := protectSidesRow, standIns := [], harness := (true, "ac229038ee2ff2f65cd7c52f247c754ee83bf844e983e95ab1befb844819759a"), looks := false }, kinds := [], alts := [], laidByText := true, laidKinds := [.data], laidTests := true, laidLooks := .later }
def ProtectSidesCardSaid : Prop := Claim7.holds Tryd.pinned (.plain (OpenSpec.ofChange protectSidesSpec)) protectSidesCard

/-- THE TIED CARD OF 'radiolinklaw16.ProtectSidesMade'. -/
def protectSidesMadeCard : Claim7 := { stood := { row := protectSidesMadeRow, standIns := [], harness := (true, "ac229038ee2ff2f65cd7c52f247c754ee83bf844e983e95ab1befb844819759a"), looks := false }, kinds := [], alts := [], laidByText := true, laidKinds := [.data], laidTests := true, laidLooks := .later }
def ProtectSidesMadeCardSaid : Prop := Claim7.holds Tryd.pinned (.plain (OpenSpec.ofChange protectSidesMadeSpec)) protectSidesMadeCard

/-- THE TIED CARD OF 'radiolinklaw16.ProtectOnce'. -/
def protectOnceCard : Claim7 := { stood := { row := protectOnceRow, standIns := [], harness := (true, "ac229038ee2ff2f65cd7c52f247c754ee83bf844e983e95ab1befb844819759a"), looks := false }, kinds := [], alts := [], laidByText := true, laidKinds := [.data], laidTests := true, laidLooks := .later }
def ProtectOnceCardSaid : Prop := Claim7.holds Tryd.pinned (.plain (OpenSpec.ofChange protectOnceSpec)) protectOnceCard

/-- THE SECOND FORM's CARD OF 'radiolinklaw16.ProtectSeals'. -/
def protectSealsUptoCard : Claim7 := { stood := { row := protectSealsUptoRow, standIns := [], harness := (true, "ac229038ee2ff2f65cd7c52f247c754ee83bf844e983e95ab1befb844819759a"), looks := false }, kinds := [], alts := [], laidByText := true, laidKinds := [.data], laidTests := true, laidLooks := .later }
def ProtectSealsUptoCardSaid : Prop := Claim7.holds Tryd.pinned (.plain (OpenSpec.upto protectSealsSpec)) protectSealsUptoCard

/-- THE SECOND FORM's CARD OF 'radiolinklaw16.ProtectHides'. -/
def protectHidesUptoCard : Claim7 := { stood := { row := protectHidesUptoRow, standIns := [], harness := (true, "ac229038ee2ff2f65cd7c52f247c754ee83bf844e983e95ab1befb844819759a"), looks := false }, kinds := [], alts := [], laidByText := true, laidKinds := [.data], laidTests := true, laidLooks := .later }
def ProtectHidesUptoCardSaid : Prop := Claim7.holds Tryd.pinned (.plain (OpenSpec.upto protectHidesSpec)) protectHidesUptoCard

/-- THE SECOND FORM's CARD OF 'radiolinklaw16.ProtectReturns'. -/
def protectReturnsUptoCard : Claim7 := { stood := { row := protectReturnsUptoRow, standIns := [], harness := (true, "ac229038ee2ff2f65cd7c52f247c754ee83bf844e983e95ab1befb844819759a"), looks := false }, kinds := [], alts := [], laidByText := true, laidKinds := [.data], laidTests := true, laidLooks := .later }
def ProtectReturnsUptoCardSaid : Prop := Claim7.holds Tryd.pinned (.plain (OpenSpec.upto protectReturnsSpec)) protectReturnsUptoCard

/-- THE SECOND FORM's CARD OF 'radiolinklaw16.ProtectSides'. -/
def protectSidesUptoCard : Claim7 := { stood := { row := protectSidesUptoRow, standIns := [], harness := (true, "ac229038ee2ff2f65cd7c52f247c754ee83bf844e983e95ab1befb844819759a"), looks := false }, kinds := [], alts := [], laidByText := true, laidKinds := [.data], laidTests := true, laidLooks := .later }
def ProtectSidesUptoCardSaid : Prop := Claim7.holds Tryd.pinned (.plain (OpenSpec.upto protectSidesSpec)) protectSidesUptoCard

/-- THE SECOND FORM's CARD OF 'radiolinklaw16.ProtectSidesMade'. -/
def protectSidesMadeUptoCard : Claim7 := { stood := { row := protectSidesMadeUptoRow, standIns := [], harness := (true, "ac229038ee2ff2f65cd7c52f247c754ee83bf844e983e95ab1befb844819759a"), looks := false }, kinds := [], alts := [], laidByText := true, laidKinds := [.data], laidTests := true, laidLooks := .later }
def ProtectSidesMadeUptoCardSaid : Prop := Claim7.holds Tryd.pinned (.plain (OpenSpec.upto protectSidesMadeSpec)) protectSidesMadeUptoCard

/-- THE SECOND FORM's CARD OF 'radiolinklaw16.ProtectOnce'. -/
def protectOnceUptoCard : Claim7 := { stood := { row := protectOnceUptoRow, standIns := [], harness := (true, "ac229038ee2ff2f65cd7c52f247c754ee83bf844e983e95ab1befb844819759a"), looks := false }, kinds := [], alts := [], laidByText := true, laidKinds := [.data], laidTests := true, laidLooks := .later }
def ProtectOnceUptoCardSaid : Prop := Claim7.holds Tryd.pinned (.plain (OpenSpec.upto protectOnceSpec)) protectOnceUptoCard
end Rows
end Go.Proofs.YtdpfcpkedaolfaaDoor
