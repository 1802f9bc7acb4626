/-
  DERIVED. GIVEN WITH THE SEED: THE CARDS: each row of YtnmifddidgofaaaGreatDoorRows.lean that lists a variable, with what it lists TIED to the program's text (the seventh form; the later family's looks); each row that meets fmt, with fmt's text TOLD by the authors' own Lean function (tested against real Go, not proved from fmt's source: count such statements apart). THE CARD IS WHAT COUNTS. Prove the row's statement (the work); the ties are given (YtnmifddidgofaaaGreatDoorTie.lean); close each card by the builder's one call (the guide's Derived/Test/ToyasCard.lean, 'card_holds'). Laid BY PROGRAM, IN A SANDBOX (cutbox-door.mjs). By AI agents, Wed Nov 11 2026. No macro, syntax, notation, axiom, sorry.
-/
import Derived.Test.YtnmifddidgofaaaGreatDoorRows
import GoSem.ClaimSeven
namespace Go.Proofs.YtnmifddidgofaaaGreatDoor
namespace Rows

/-- THE TIED CARD OF 'radiolinklaw17.DeliverRekeys'. -/
def deliverRekeysCard : Claim7 := { stood := { row := deliverRekeysRow, standIns := [], harness := (true, "ad37cc6ac9dd0e6990a97c80f1658d909386c04808075ddcde7f404825d6da45"), looks := false }, kinds := [], alts := [], laidByText := true, laidKinds := [.data], laidTests := true, laidLooks := .later }
def DeliverRekeysCardSaid : Prop := Claim7.holds Tryz.pinned (.plain (OpenSpec.ofChange deliverRekeysSpec)) deliverRekeysCard

/-- THE TIED CARD OF 'radiolinklaw17.DeliverExact'. -/
def deliverExactCard : Claim7 := { stood := { row := deliverExactRow, standIns := [], harness := (true, "ad37cc6ac9dd0e6990a97c80f1658d909386c04808075ddcde7f404825d6da45"), looks := false }, kinds := [], alts := [], laidByText := true, laidKinds := [.data], laidTests := true, laidLooks := .later }
def DeliverExactCardSaid : Prop := Claim7.holds Tryz.pinned (.plain (OpenSpec.ofChange deliverExactSpec)) deliverExactCard

/-- THE TIED CARD OF 'radiolinklaw17.DeliverMade'. -/
def deliverMadeCard : Claim7 := { stood := { row := deliverMadeRow, standIns := [], harness := (true, "ad37cc6ac9dd0e6990a97c80f1658d909386c04808075ddcde7f404825d6da45"), looks := false }, kinds := [], alts := [], laidByText := true, laidKinds := [.data], laidTests := true, laidLooks := .later }
def DeliverMadeCardSaid : Prop := Claim7.holds Tryz.pinned (.plain (OpenSpec.ofChange deliverMadeSpec)) deliverMadeCard

/-- THE SECOND FORM's CARD OF 'radiolinklaw17.DeliverRekeys'. -/
def deliverRekeysUptoCard : Claim7 := { stood := { row := deliverRekeysUptoRow, standIns := [], harness := (true, "ad37cc6ac9dd0e6990a97c80f1658d909386c04808075ddcde7f404825d6da45"), looks := false }, kinds := [], alts := [], laidByText := true, laidKinds := [.data], laidTests := true, laidLooks := .later }
def DeliverRekeysUptoCardSaid : Prop := Claim7.holds Tryz.pinned (.plain (OpenSpec.upto deliverRekeysSpec)) deliverRekeysUptoCard

/-- THE SECOND FORM's CARD OF 'radiolinklaw17.DeliverExact'. -/
def deliverExactUptoCard : Claim7 := { stood := { row := deliverExactUptoRow, standIns := [], harness := (true, "ad37cc6ac9dd0e6990a97c80f1658d909386c04808075ddcde7f404825d6da45"), looks := false }, kinds := [], alts := [], laidByText := true, laidKinds := [.data], laidTests := true, laidLooks := .later }
def DeliverExactUptoCardSaid : Prop := Claim7.holds Tryz.pinned (.plain (OpenSpec.upto deliverExactSpec)) deliverExactUptoCard

/-- THE SECOND FORM's CARD OF 'radiolinklaw17.DeliverMade'. -/
def deliverMadeUptoCard : Claim7 := { stood := { row := deliverMadeUptoRow, standIns := [], harness := (true, "ad37cc6ac9dd0e6990a97c80f1658d909386c04808075ddcde7f404825d6da45"), looks := false }, kinds := [], alts := [], laidByText := true, laidKinds := [.data], laidTests := true, laidLooks := .later }
def DeliverMadeUptoCardSaid : Prop := Claim7.holds Tryz.pinned (.plain (OpenSpec.upto deliverMadeSpec)) deliverMadeUptoCard
end Rows
end Go.Proofs.YtnmifddidgofaaaGreatDoor
