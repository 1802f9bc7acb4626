/-
  DERIVED. GIVEN WITH THE SEED: THE CARDS: each row of YtkfpgdckdmlhkaaGreatDoorRows.lean that lists a variable, with what it lists TIED to the program's text (the seventh form; the later family's looks); each row that meets fmt, with fmt's text TOLD by the authors' own Lean function (tested against real Go, not proved from fmt's source: count such statements apart). THE CARD IS WHAT COUNTS. Prove the row's statement (the work); the ties are given (YtkfpgdckdmlhkaaGreatDoorTie.lean); close each card by the builder's one call (the guide's Derived/Test/ToyasCard.lean, 'card_holds'). Laid BY PROGRAM, IN A SANDBOX (cutbox-door.mjs). By AI agents, Wed Nov 11 2026. No macro, syntax, notation, axiom, sorry.
-/
import Derived.Test.YtkfpgdckdmlhkaaGreatDoorRows
import GoSem.ClaimSeven
namespace Go.Proofs.YtkfpgdckdmlhkaaGreatDoor
namespace Rows

/-- THE TIED CARD OF 'radiolinklaw10.DecompressorNews'. -/
def decompressorNewsCard : Claim7 := { stood := { row := decompressorNewsRow, standIns := [], harness := (true, "2cb01f1104f5a3b691327964f0c9a0254d95501851fae3b2816e301aec541b32"), looks := false }, kinds := [], alts := [], laidByText := true, laidKinds := [.mapped], laidTests := true, laidLooks := .later }
def DecompressorNewsCardSaid : Prop := Claim7.holds Tryz.pinned (.plain (OpenSpec.ofChange decompressorNewsSpec)) decompressorNewsCard

/-- THE TIED CARD OF 'radiolinklaw10.DecompressorExact'. -/
def decompressorExactCard : Claim7 := { stood := { row := decompressorExactRow, standIns := [], harness := (true, "2cb01f1104f5a3b691327964f0c9a0254d95501851fae3b2816e301aec541b32"), looks := false }, kinds := [], alts := [], laidByText := true, laidKinds := [.mapped], laidTests := true, laidLooks := .later }
def DecompressorExactCardSaid : Prop := Claim7.holds Tryz.pinned (.plain (OpenSpec.ofChange decompressorExactSpec)) decompressorExactCard

/-- THE TIED CARD OF 'radiolinklaw10.DecompressorRuns'. -/
def decompressorRunsCard : Claim7 := { stood := { row := decompressorRunsRow, standIns := [], harness := (true, "2cb01f1104f5a3b691327964f0c9a0254d95501851fae3b2816e301aec541b32"), looks := false }, kinds := [], alts := [], laidByText := true, laidKinds := [.mapped], laidTests := true, laidLooks := .later }
def DecompressorRunsCardSaid : Prop := Claim7.holds Tryz.pinned (.plain (OpenSpec.ofChange decompressorRunsSpec)) decompressorRunsCard

/-- THE TIED CARD OF 'radiolinklaw10.DecompressorReturns'. -/
def decompressorReturnsCard : Claim7 := { stood := { row := decompressorReturnsRow, standIns := [], harness := (true, "2cb01f1104f5a3b691327964f0c9a0254d95501851fae3b2816e301aec541b32"), looks := false }, kinds := [], alts := [], laidByText := true, laidKinds := [.mapped], laidTests := true, laidLooks := .later }
def DecompressorReturnsCardSaid : Prop := Claim7.holds Tryz.pinned (.plain (OpenSpec.ofChange decompressorReturnsSpec)) decompressorReturnsCard

/-- THE TIED CARD OF 'radiolinklaw10.DecompressorAccepts'. -/
def decompressorAcceptsCard : Claim7 := { stood := { row := decompressorAcceptsRow, standIns := [], harness := (true, "2cb01f1104f5a3b691327964f0c9a0254d95501851fae3b2816e301aec541b32"), looks := false }, kinds := [], alts := [], laidByText := true, laidKinds := [.mapped], laidTests := true, laidLooks := .later }
def DecompressorAcceptsCardSaid : Prop := Claim7.holds Tryz.pinned (.plain (OpenSpec.ofChange decompressorAcceptsSpec)) decompressorAcceptsCard

/-- THE SECOND FORM's CARD OF 'radiolinklaw10.DecompressorNews'. -/
def decompressorNewsUptoCard : Claim7 := { stood := { row := decompressorNewsUptoRow, standIns := [], harness := (true, "2cb01f1104f5a3b691327964f0c9a0254d95501851fae3b2816e301aec541b32"), looks := false }, kinds := [], alts := [], laidByText := true, laidKinds := [.mapped], laidTests := true, laidLooks := .later }
def DecompressorNewsUptoCardSaid : Prop := Claim7.holds Tryz.pinned (.plain (OpenSpec.upto decompressorNewsSpec)) decompressorNewsUptoCard

/-- THE SECOND FORM's CARD OF 'radiolinklaw10.DecompressorExact'. -/
def decompressorExactUptoCard : Claim7 := { stood := { row := decompressorExactUptoRow, standIns := [], harness := (true, "2cb01f1104f5a3b691327964f0c9a0254d95501851fae3b2816e301aec541b32"), looks := false }, kinds := [], alts := [], laidByText := true, laidKinds := [.mapped], laidTests := true, laidLooks := .later }
def DecompressorExactUptoCardSaid : Prop := Claim7.holds Tryz.pinned (.plain (OpenSpec.upto decompressorExactSpec)) decompressorExactUptoCard

/-- THE SECOND FORM's CARD OF 'radiolinklaw10.DecompressorRuns'. -/
def decompressorRunsUptoCard : Claim7 := { stood := { row := decompressorRunsUptoRow, standIns := [], harness := (true, "2cb01f1104f5a3b691327964f0c9a0254d95501851fae3b2816e301aec541b32"), looks := false }, kinds := [], alts := [], laidByText := true, laidKinds := [.mapped], laidTests := true, laidLooks := .later }
def DecompressorRunsUptoCardSaid : Prop := Claim7.holds Tryz.pinned (.plain (OpenSpec.upto decompressorRunsSpec)) decompressorRunsUptoCard

/-- THE SECOND FORM's CARD OF 'radiolinklaw10.DecompressorReturns'. -/
def decompressorReturnsUptoCard : Claim7 := { stood := { row := decompressorReturnsUptoRow, standIns := [], harness := (true, "2cb01f1104f5a3b691327964f0c9a0254d95501851fae3b2816e301aec541b32"), looks := false }, kinds := [], alts := [], laidByText := true, laidKinds := [.mapped], laidTests := true, laidLooks := .later }
def DecompressorReturnsUptoCardSaid : Prop := Claim7.holds Tryz.pinned (.plain (OpenSpec.upto decompressorReturnsSpec)) decompressorReturnsUptoCard

/-- THE SECOND FORM's CARD OF 'radiolinklaw10.DecompressorAccepts'. -/
def decompressorAcceptsUptoCard : Claim7 := { stood := { row := decompressorAcceptsUptoRow, standIns := [], harness := (true, "2cb01f1104f5a3b691327964f0c9a0254d95501851fae3b2816e301aec541b32"), looks := false }, kinds := [], alts := [], laidByText := true, laidKinds := [.mapped], laidTests := true, laidLooks := .later }
def DecompressorAcceptsUptoCardSaid : Prop := Claim7.holds Tryz.pinned (.plain (OpenSpec.upto decompressorAcceptsSpec)) decompressorAcceptsUptoCard
end Rows
end Go.Proofs.YtkfpgdckdmlhkaaGreatDoor
