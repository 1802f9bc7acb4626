/-
  DERIVED. GIVEN WITH THE SEED: THE CARDS: each row of YtnmifddidgofaaaDoorRows.lean that lists a variable, with what it lists TIED to the program's text (the seventh form; the later family's looks); each row that meets fmt, with fmt's text TOLD by the authors' own Lean function (tested against real Go, not proved from fmt's source: count such statements apart). THE CARD IS WHAT COUNTS. Prove the row's statement (the work); the ties are given (YtnmifddidgofaaaDoorTie.lean); close each card by the builder's one call (the guide's Derived/Test/ToyasCard.lean, 'card_holds'). Laid BY PROGRAM, IN A SANDBOX (cutbox-door.mjs). By AI agents, Wed Nov 11 2026. No macro, syntax, notation, axiom, sorry.
-/
import Derived.Test.YtnmifddidgofaaaDoorRows
import GoSem.ClaimSeven
namespace Go.Proofs.YtnmifddidgofaaaDoor
namespace Rows

/-- THE TIED CARD OF 'radiolinklaw17.DeliverAll'. -/
def deliverAllCard : Claim7 := { stood := { row := deliverAllRow, standIns := [], harness := (true, "39a07fdbe8ab8e826b3347f978b01a40247a4d91e7ca0ec910907817207dc5a1"), looks := false }, kinds := [], alts := [], laidByText := true, laidKinds := [.data], laidTests := true, laidLooks := .later }
def DeliverAllCardSaid : Prop := Claim7.holds Tryd.pinned (.plain (OpenSpec.ofChange deliverAllSpec)) deliverAllCard

/-- THE TIED CARD OF 'radiolinklaw17.DeliverOrder'. -/
def deliverOrderCard : Claim7 := { stood := { row := deliverOrderRow, standIns := [], harness := (true, "39a07fdbe8ab8e826b3347f978b01a40247a4d91e7ca0ec910907817207dc5a1"), looks := false }, kinds := [], alts := [], laidByText := true, laidKinds := [.data], laidTests := true, laidLooks := .later }
def DeliverOrderCardSaid : Prop := Claim7.holds Tryd.pinned (.plain (OpenSpec.ofChange deliverOrderSpec)) deliverOrderCard

/-- THE SECOND FORM's CARD OF 'radiolinklaw17.DeliverAll'. -/
def deliverAllUptoCard : Claim7 := { stood := { row := deliverAllUptoRow, standIns := [], harness := (true, "39a07fdbe8ab8e826b3347f978b01a40247a4d91e7ca0ec910907817207dc5a1"), looks := false }, kinds := [], alts := [], laidByText := true, laidKinds := [.data], laidTests := true, laidLooks := .later }
def DeliverAllUptoCardSaid : Prop := Claim7.holds Tryd.pinned (.plain (OpenSpec.upto deliverAllSpec)) deliverAllUptoCard

/-- THE SECOND FORM's CARD OF 'radiolinklaw17.DeliverOrder'. -/
def deliverOrderUptoCard : Claim7 := { stood := { row := deliverOrderUptoRow, standIns := [], harness := (true, "39a07fdbe8ab8e826b3347f978b01a40247a4d91e7ca0ec910907817207dc5a1"), looks := false }, kinds := [], alts := [], laidByText := true, laidKinds := [.data], laidTests := true, laidLooks := .later }
def DeliverOrderUptoCardSaid : Prop := Claim7.holds Tryd.pinned (.plain (OpenSpec.upto deliverOrderSpec)) deliverOrderUptoCard
end Rows
end Go.Proofs.YtnmifddidgofaaaDoor
