/-
  No cell of these rows narrows 'for every input' (looked for: loops, veiled, ifaces, maps, wideKeys, modest, calm, conditions, laid).
  DERIVED. THE GIVEN ROWS OF THIS SEAT. 7 by the template 'for every input the law returns true; each argument reads behind the call as it read before'; 0 by the template 'total and deterministic' (their statements: YtnlpjbedkdhlbaaTotals.lean).
  GIVEN WITH THE SEED: the statements are not yours to turn. If you find one false, say at which input.
  Laid BY PROGRAM, IN A SANDBOX (cutbox-rows.mjs): the forced cells as the released guide's own fill.sh prints them over the translation d4db49c400d29fd4… (all of the seat's roots in one cut). By AI agents, Wed Nov 11 2026. No macro, syntax, notation, axiom, sorry.
-/
import Derived.Test.YtnlpjbedkdhlbaaChecked
import GoSem.Claim
import GoSem.ClaimJoined
import GoSem.ClaimMapViews
import Derived.JoinedTies
import Derived.KernelRfl
namespace Go.Proofs.Ytnlpjbedkdhlbaa
/- THE CELL 'sum', in the pinned program and in every row, IS THE sha256 OF THE DUMP (.gsa) THAT YtnlpjbedkdhlbaaProg.lean LOADS. Nothing in Lean hashes anything: it is a label: what it is worth is what the hold of that sum in a sandbox is worth. -/
noncomputable def Try.pinned : Pinned := { name := "ytnlpjbedkdhlbaa", sum := "d4db49c400d29fd4c2f7bbe4ec897067bc3f55e4e49330b66a002e55260618d8", checked := Try.checked }
namespace Rows
def none {H : Type} : Left H := { results := [], args := [] }

/-- 'radiolinklaw08.FormatEncodes': WHATEVER THE INPUT: true; the input reads as it did. -/
def formatEncodesSpec : ChangeSpec := { name := "formatEncodes", fn := fun _ => fun
  | [d] => { results := [.lit (.bool true)], args := [d] }
  | _ => none }
def formatEncodesRow : OpenClaim := { program := "ytnlpjbedkdhlbaa", sum := "d4db49c400d29fd4c2f7bbe4ec897067bc3f55e4e49330b66a002e55260618d8", func := "radiolink/radiolinklaw08.FormatEncodes", spec := "formatEncodes", apart := false }
def FormatEncodesSaid : Prop := formatEncodesRow.holds Try.pinned (OpenSpec.ofChange formatEncodesSpec)

/-- ITS FALSE NEIGHBOUR: 'it returns false'. Refute it at one input. -/
def formatEncodesWrong : ChangeSpec := { name := "formatEncodes", fn := fun _ => fun
  | [d] => { results := [.lit (.bool false)], args := [d] }
  | _ => none }
def FormatEncodesWrongFalsely : Prop := formatEncodesRow.holds Try.pinned (OpenSpec.ofChange formatEncodesWrong)

/-- 'radiolinklaw08.FormatEncodesMade': WHATEVER THE INPUT: true; the input reads as it did. -/
def formatEncodesMadeSpec : ChangeSpec := { name := "formatEncodesMade", fn := fun _ => fun
  | [d] => { results := [.lit (.bool true)], args := [d] }
  | _ => none }
def formatEncodesMadeRow : OpenClaim := { program := "ytnlpjbedkdhlbaa", sum := "d4db49c400d29fd4c2f7bbe4ec897067bc3f55e4e49330b66a002e55260618d8", func := "radiolink/radiolinklaw08.FormatEncodesMade", spec := "formatEncodesMade", apart := false }
def FormatEncodesMadeSaid : Prop := formatEncodesMadeRow.holds Try.pinned (OpenSpec.ofChange formatEncodesMadeSpec)

/-- ITS FALSE NEIGHBOUR: 'it returns false'. Refute it at one input. -/
def formatEncodesMadeWrong : ChangeSpec := { name := "formatEncodesMade", fn := fun _ => fun
  | [d] => { results := [.lit (.bool false)], args := [d] }
  | _ => none }
def FormatEncodesMadeWrongFalsely : Prop := formatEncodesMadeRow.holds Try.pinned (OpenSpec.ofChange formatEncodesMadeWrong)

/-- 'radiolinklaw08.FormatDecodes': WHATEVER THE INPUT: true; the input reads as it did. -/
def formatDecodesSpec : ChangeSpec := { name := "formatDecodes", fn := fun _ => fun
  | [d1, d2, d3] => { results := [.lit (.bool true)], args := [d1, d2, d3] }
  | _ => none }
def formatDecodesRow : OpenClaim := { program := "ytnlpjbedkdhlbaa", sum := "d4db49c400d29fd4c2f7bbe4ec897067bc3f55e4e49330b66a002e55260618d8", func := "radiolink/radiolinklaw08.FormatDecodes", spec := "formatDecodes", apart := false }
def FormatDecodesSaid : Prop := formatDecodesRow.holds Try.pinned (OpenSpec.ofChange formatDecodesSpec)

/-- ITS FALSE NEIGHBOUR: 'it returns false'. Refute it at one input. -/
def formatDecodesWrong : ChangeSpec := { name := "formatDecodes", fn := fun _ => fun
  | [d1, d2, d3] => { results := [.lit (.bool false)], args := [d1, d2, d3] }
  | _ => none }
def FormatDecodesWrongFalsely : Prop := formatDecodesRow.holds Try.pinned (OpenSpec.ofChange formatDecodesWrong)

/-- 'radiolinklaw08.FormatDecodesMade': WHATEVER THE INPUT: true; the input reads as it did. -/
def formatDecodesMadeSpec : ChangeSpec := { name := "formatDecodesMade", fn := fun _ => fun
  | [d1, d2] => { results := [.lit (.bool true)], args := [d1, d2] }
  | _ => none }
def formatDecodesMadeRow : OpenClaim := { program := "ytnlpjbedkdhlbaa", sum := "d4db49c400d29fd4c2f7bbe4ec897067bc3f55e4e49330b66a002e55260618d8", func := "radiolink/radiolinklaw08.FormatDecodesMade", spec := "formatDecodesMade", apart := false }
def FormatDecodesMadeSaid : Prop := formatDecodesMadeRow.holds Try.pinned (OpenSpec.ofChange formatDecodesMadeSpec)

/-- ITS FALSE NEIGHBOUR: 'it returns false'. Refute it at one input. -/
def formatDecodesMadeWrong : ChangeSpec := { name := "formatDecodesMade", fn := fun _ => fun
  | [d1, d2] => { results := [.lit (.bool false)], args := [d1, d2] }
  | _ => none }
def FormatDecodesMadeWrongFalsely : Prop := formatDecodesMadeRow.holds Try.pinned (OpenSpec.ofChange formatDecodesMadeWrong)

/-- 'radiolinklaw08.FormatReturns': WHATEVER THE INPUT: true; the input reads as it did. -/
def formatReturnsSpec : ChangeSpec := { name := "formatReturns", fn := fun _ => fun
  | [d] => { results := [.lit (.bool true)], args := [d] }
  | _ => none }
def formatReturnsRow : OpenClaim := { program := "ytnlpjbedkdhlbaa", sum := "d4db49c400d29fd4c2f7bbe4ec897067bc3f55e4e49330b66a002e55260618d8", func := "radiolink/radiolinklaw08.FormatReturns", spec := "formatReturns", apart := false }
def FormatReturnsSaid : Prop := formatReturnsRow.holds Try.pinned (OpenSpec.ofChange formatReturnsSpec)

/-- ITS FALSE NEIGHBOUR: 'it returns false'. Refute it at one input. -/
def formatReturnsWrong : ChangeSpec := { name := "formatReturns", fn := fun _ => fun
  | [d] => { results := [.lit (.bool false)], args := [d] }
  | _ => none }
def FormatReturnsWrongFalsely : Prop := formatReturnsRow.holds Try.pinned (OpenSpec.ofChange formatReturnsWrong)

/-- 'radiolinklaw08.FormatOnce': WHATEVER THE INPUT: true; the input reads as it did. -/
def formatOnceSpec : ChangeSpec := { name := "formatOnce", fn := fun _ => fun
  | [d1, d2, d3] => { results := [.lit (.bool true)], args := [d1, d2, d3] }
  | _ => none }
def formatOnceRow : OpenClaim := { program := "ytnlpjbedkdhlbaa", sum := "d4db49c400d29fd4c2f7bbe4ec897067bc3f55e4e49330b66a002e55260618d8", func := "radiolink/radiolinklaw08.FormatOnce", spec := "formatOnce", apart := false }
def FormatOnceSaid : Prop := formatOnceRow.holds Try.pinned (OpenSpec.ofChange formatOnceSpec)

/-- ITS FALSE NEIGHBOUR: 'it returns false'. Refute it at one input. -/
def formatOnceWrong : ChangeSpec := { name := "formatOnce", fn := fun _ => fun
  | [d1, d2, d3] => { results := [.lit (.bool false)], args := [d1, d2, d3] }
  | _ => none }
def FormatOnceWrongFalsely : Prop := formatOnceRow.holds Try.pinned (OpenSpec.ofChange formatOnceWrong)

/-- 'radiolinklaw08.FormatSizes': WHATEVER THE INPUT: true; the input reads as it did. -/
def formatSizesSpec : ChangeSpec := { name := "formatSizes", fn := fun _ => fun
  | [d] => { results := [.lit (.bool true)], args := [d] }
  | _ => none }
def formatSizesRow : OpenClaim := { program := "ytnlpjbedkdhlbaa", sum := "d4db49c400d29fd4c2f7bbe4ec897067bc3f55e4e49330b66a002e55260618d8", func := "radiolink/radiolinklaw08.FormatSizes", spec := "formatSizes", apart := false }
def FormatSizesSaid : Prop := formatSizesRow.holds Try.pinned (OpenSpec.ofChange formatSizesSpec)

/-- ITS FALSE NEIGHBOUR: 'it returns false'. Refute it at one input. -/
def formatSizesWrong : ChangeSpec := { name := "formatSizes", fn := fun _ => fun
  | [d] => { results := [.lit (.bool false)], args := [d] }
  | _ => none }
def FormatSizesWrongFalsely : Prop := formatSizesRow.holds Try.pinned (OpenSpec.ofChange formatSizesWrong)

/- THE SECOND FORM. 'bulk': how many values and letters a reading holds, each counted each time it is reached (what is shared counts as often as it is met; a slice's spare places count too). A statement '..UptoSaid' is the law's where the arguments, and the package variables that the reading takes, are together of bulk at most 1048576: NARROWER than '..Said'. Prove '..Said' where nothing that the law and all that it calls make is longer than what came in: it says more and counts as full. Else prove '..UptoSaid'. A law counts once. -/
mutual
def uptoBulk {H : Type} : DataW H → Nat
  | .lit (.string bytes) => bytes.length + 1
  | .lit _ => 1
  | .nil => 1
  | .ptr d => uptoBulk d + 1
  | .slice elems spare => uptoBulkAll elems + uptoBulkAll spare + 1
  | .agg parts => uptoBulkAll parts + 1
  | .iface _ d => uptoBulk d + 1
  | .map entries => uptoBulkEntries entries + 1
  | .held _ => 1
def uptoBulkAll {H : Type} : List (DataW H) → Nat
  | [] => 0
  | d :: r => uptoBulk d + uptoBulkAll r
def uptoBulkEntries {H : Type} : List (Lit × DataW H) → Nat
  | [] => 0
  | x :: r => uptoBulkEntry x + uptoBulkEntries r
def uptoBulkEntry {H : Type} : Lit × DataW H → Nat
  | (.string bytes, d) => bytes.length + uptoBulk d + 1
  | (_, d) => uptoBulk d + 1
 end
def uptoSmall : (H : Type) → List (DataW H) → Bool := fun _ ds => decide (uptoBulkAll ds ≤ 1048576)
def OpenSpec.upto (s : _root_.Go.ChangeSpec) : _root_.Go.OpenSpec := { _root_.Go.OpenSpec.ofChange s with cond := some uptoSmall }

/-- 'radiolinklaw08.FormatEncodes', WHERE WHAT IT READS IS OF BULK AT MOST 1048576: true; the input reads as it did. -/
def formatEncodesUptoRow : OpenClaim := { program := "ytnlpjbedkdhlbaa", sum := "d4db49c400d29fd4c2f7bbe4ec897067bc3f55e4e49330b66a002e55260618d8", func := "radiolink/radiolinklaw08.FormatEncodes", spec := "formatEncodes", apart := false, narrowed := true }
def FormatEncodesUptoSaid : Prop := formatEncodesUptoRow.holds Try.pinned (OpenSpec.upto formatEncodesSpec)

/-- 'radiolinklaw08.FormatEncodesMade', WHERE WHAT IT READS IS OF BULK AT MOST 1048576: true; the input reads as it did. -/
def formatEncodesMadeUptoRow : OpenClaim := { program := "ytnlpjbedkdhlbaa", sum := "d4db49c400d29fd4c2f7bbe4ec897067bc3f55e4e49330b66a002e55260618d8", func := "radiolink/radiolinklaw08.FormatEncodesMade", spec := "formatEncodesMade", apart := false, narrowed := true }
def FormatEncodesMadeUptoSaid : Prop := formatEncodesMadeUptoRow.holds Try.pinned (OpenSpec.upto formatEncodesMadeSpec)

/-- 'radiolinklaw08.FormatDecodes', WHERE WHAT IT READS IS OF BULK AT MOST 1048576: true; the input reads as it did. -/
def formatDecodesUptoRow : OpenClaim := { program := "ytnlpjbedkdhlbaa", sum := "d4db49c400d29fd4c2f7bbe4ec897067bc3f55e4e49330b66a002e55260618d8", func := "radiolink/radiolinklaw08.FormatDecodes", spec := "formatDecodes", apart := false, narrowed := true }
def FormatDecodesUptoSaid : Prop := formatDecodesUptoRow.holds Try.pinned (OpenSpec.upto formatDecodesSpec)

/-- 'radiolinklaw08.FormatDecodesMade', WHERE WHAT IT READS IS OF BULK AT MOST 1048576: true; the input reads as it did. -/
def formatDecodesMadeUptoRow : OpenClaim := { program := "ytnlpjbedkdhlbaa", sum := "d4db49c400d29fd4c2f7bbe4ec897067bc3f55e4e49330b66a002e55260618d8", func := "radiolink/radiolinklaw08.FormatDecodesMade", spec := "formatDecodesMade", apart := false, narrowed := true }
def FormatDecodesMadeUptoSaid : Prop := formatDecodesMadeUptoRow.holds Try.pinned (OpenSpec.upto formatDecodesMadeSpec)

/-- 'radiolinklaw08.FormatReturns', WHERE WHAT IT READS IS OF BULK AT MOST 1048576: true; the input reads as it did. -/
def formatReturnsUptoRow : OpenClaim := { program := "ytnlpjbedkdhlbaa", sum := "d4db49c400d29fd4c2f7bbe4ec897067bc3f55e4e49330b66a002e55260618d8", func := "radiolink/radiolinklaw08.FormatReturns", spec := "formatReturns", apart := false, narrowed := true }
def FormatReturnsUptoSaid : Prop := formatReturnsUptoRow.holds Try.pinned (OpenSpec.upto formatReturnsSpec)

/-- 'radiolinklaw08.FormatOnce', WHERE WHAT IT READS IS OF BULK AT MOST 1048576: true; the input reads as it did. -/
def formatOnceUptoRow : OpenClaim := { program := "ytnlpjbedkdhlbaa", sum := "d4db49c400d29fd4c2f7bbe4ec897067bc3f55e4e49330b66a002e55260618d8", func := "radiolink/radiolinklaw08.FormatOnce", spec := "formatOnce", apart := false, narrowed := true }
def FormatOnceUptoSaid : Prop := formatOnceUptoRow.holds Try.pinned (OpenSpec.upto formatOnceSpec)

/-- 'radiolinklaw08.FormatSizes', WHERE WHAT IT READS IS OF BULK AT MOST 1048576: true; the input reads as it did. -/
def formatSizesUptoRow : OpenClaim := { program := "ytnlpjbedkdhlbaa", sum := "d4db49c400d29fd4c2f7bbe4ec897067bc3f55e4e49330b66a002e55260618d8", func := "radiolink/radiolinklaw08.FormatSizes", spec := "formatSizes", apart := false, narrowed := true }
def FormatSizesUptoSaid : Prop := formatSizesUptoRow.holds Try.pinned (OpenSpec.upto formatSizesSpec)

end Rows
end Go.Proofs.Ytnlpjbedkdhlbaa
