/-
  No cell of these rows narrows 'for every input' (looked for: loops, veiled, ifaces, maps, wideKeys, modest, calm, conditions, laid).
  DERIVED. THE GIVEN ROWS OF THIS SEAT. 3 by the template 'for every input the law returns true; each argument reads behind the call as it read before'; 0 by the template 'total and deterministic' (their statements: YteahbonhdoaibaaTotals.lean).
  GIVEN WITH THE SEED: the statements are not yours to turn. If you find one false, say at which input.
  Laid BY PROGRAM, IN A SANDBOX (cutbox-rows.mjs): the forced cells as the released guide's own fill.sh prints them over the translation 66d2eabd39ec436d… (all of the seat's roots in one cut). By AI agents, Wed Nov 11 2026. No macro, syntax, notation, axiom, sorry.
-/
import Derived.Test.YteahbonhdoaibaaChecked
import GoSem.Claim
import GoSem.ClaimJoined
import GoSem.ClaimMapViews
import Derived.JoinedTies
import Derived.KernelRfl
namespace Go.Proofs.Yteahbonhdoaibaa
/- THE CELL 'sum', in the pinned program and in every row, IS THE sha256 OF THE DUMP (.gsa) THAT YteahbonhdoaibaaProg.lean LOADS. Nothing in Lean hashes anything: it is a label: what it is worth is what the hold of that sum in a sandbox is worth. -/
noncomputable def Try.pinned : Pinned := { name := "yteahbonhdoaibaa", sum := "66d2eabd39ec436d88a7cc54fa154ecc626a1e56a14f96772cf7d02ed007ee98", checked := Try.checked }
namespace Rows
def none {H : Type} : Left H := { results := [], args := [] }

/-- 'radiolinklaw14.TagLast': WHATEVER THE INPUT: true; the input reads as it did. -/
def tagLastSpec : ChangeSpec := { name := "tagLast", fn := fun _ => fun
  | [d1, d2] => { results := [.lit (.bool true)], args := [d1, d2] }
  | _ => none }
def tagLastRow : OpenClaim := { program := "yteahbonhdoaibaa", sum := "66d2eabd39ec436d88a7cc54fa154ecc626a1e56a14f96772cf7d02ed007ee98", func := "radiolink/radiolinklaw14.TagLast", spec := "tagLast", apart := false }
def TagLastSaid : Prop := tagLastRow.holds Try.pinned (OpenSpec.ofChange tagLastSpec)

/-- ITS FALSE NEIGHBOUR: 'it returns false'. Refute it at one input. -/
def tagLastWrong : ChangeSpec := { name := "tagLast", fn := fun _ => fun
  | [d1, d2] => { results := [.lit (.bool false)], args := [d1, d2] }
  | _ => none }
def TagLastWrongFalsely : Prop := tagLastRow.holds Try.pinned (OpenSpec.ofChange tagLastWrong)

/-- 'radiolinklaw14.TagExact': WHATEVER THE INPUT: true; the input reads as it did. -/
def tagExactSpec : ChangeSpec := { name := "tagExact", fn := fun _ => fun
  | [d1, d2, d3] => { results := [.lit (.bool true)], args := [d1, d2, d3] }
  | _ => none }
def tagExactRow : OpenClaim := { program := "yteahbonhdoaibaa", sum := "66d2eabd39ec436d88a7cc54fa154ecc626a1e56a14f96772cf7d02ed007ee98", func := "radiolink/radiolinklaw14.TagExact", spec := "tagExact", apart := false }
def TagExactSaid : Prop := tagExactRow.holds Try.pinned (OpenSpec.ofChange tagExactSpec)

/-- ITS FALSE NEIGHBOUR: 'it returns false'. Refute it at one input. -/
def tagExactWrong : ChangeSpec := { name := "tagExact", fn := fun _ => fun
  | [d1, d2, d3] => { results := [.lit (.bool false)], args := [d1, d2, d3] }
  | _ => none }
def TagExactWrongFalsely : Prop := tagExactRow.holds Try.pinned (OpenSpec.ofChange tagExactWrong)

/-- 'radiolinklaw14.TagShort': WHATEVER THE INPUT: true; the input reads as it did. -/
def tagShortSpec : ChangeSpec := { name := "tagShort", fn := fun _ => fun
  | [d1, d2] => { results := [.lit (.bool true)], args := [d1, d2] }
  | _ => none }
def tagShortRow : OpenClaim := { program := "yteahbonhdoaibaa", sum := "66d2eabd39ec436d88a7cc54fa154ecc626a1e56a14f96772cf7d02ed007ee98", func := "radiolink/radiolinklaw14.TagShort", spec := "tagShort", apart := false }
def TagShortSaid : Prop := tagShortRow.holds Try.pinned (OpenSpec.ofChange tagShortSpec)

/-- ITS FALSE NEIGHBOUR: 'it returns false'. Refute it at one input. -/
def tagShortWrong : ChangeSpec := { name := "tagShort", fn := fun _ => fun
  | [d1, d2] => { results := [.lit (.bool false)], args := [d1, d2] }
  | _ => none }
def TagShortWrongFalsely : Prop := tagShortRow.holds Try.pinned (OpenSpec.ofChange tagShortWrong)

/- THE SECOND FORM. 'bulk': how many values and letters a reading holds, each counted each time it is reached (what is shared counts as often as it is met; a slice's spare places count too). A statement '..UptoSaid' is the law's where the arguments, and the package variables that the reading takes, are together of bulk at most 1048576: NARROWER than '..Said'. Prove '..Said' where nothing that the law and all that it calls make is longer than what came in: it says more and counts as full. Else prove '..UptoSaid'. A law counts once. -/
mutual
def uptoBulk {H : Type} : DataW H → Nat
  | .lit (.string bytes) => bytes.length + 1
  | .lit _ => 1
  | .nil => 1
  | .ptr d => uptoBulk d + 1
  | .slice elems spare => uptoBulkAll elems + uptoBulkAll spare + 1
  | .agg parts => uptoBulkAll parts + 1
  | .iface _ d => uptoBulk d + 1
  | .map entries => uptoBulkEntries entries + 1
  | .held _ => 1
def uptoBulkAll {H : Type} : List (DataW H) → Nat
  | [] => 0
  | d :: r => uptoBulk d + uptoBulkAll r
def uptoBulkEntries {H : Type} : List (Lit × DataW H) → Nat
  | [] => 0
  | x :: r => uptoBulkEntry x + uptoBulkEntries r
def uptoBulkEntry {H : Type} : Lit × DataW H → Nat
  | (.string bytes, d) => bytes.length + uptoBulk d + 1
  | (_, d) => uptoBulk d + 1
 end
def uptoSmall : (H : Type) → List (DataW H) → Bool := fun _ ds => decide (uptoBulkAll ds ≤ 1048576)
def OpenSpec.upto (s : _root_.Go.ChangeSpec) : _root_.Go.OpenSpec := { _root_.Go.OpenSpec.ofChange s with cond := some uptoSmall }

/-- 'radiolinklaw14.TagLast', WHERE WHAT IT READS IS OF BULK AT MOST 1048576: true; the input reads as it did. -/
def tagLastUptoRow : OpenClaim := { program := "yteahbonhdoaibaa", sum := "66d2eabd39ec436d88a7cc54fa154ecc626a1e56a14f96772cf7d02ed007ee98", func := "radiolink/radiolinklaw14.TagLast", spec := "tagLast", apart := false, narrowed := true }
def TagLastUptoSaid : Prop := tagLastUptoRow.holds Try.pinned (OpenSpec.upto tagLastSpec)

/-- 'radiolinklaw14.TagExact', WHERE WHAT IT READS IS OF BULK AT MOST 1048576: true; the input reads as it did. -/
def tagExactUptoRow : OpenClaim := { program := "yteahbonhdoaibaa", sum := "66d2eabd39ec436d88a7cc54fa154ecc626a1e56a14f96772cf7d02ed007ee98", func := "radiolink/radiolinklaw14.TagExact", spec := "tagExact", apart := false, narrowed := true }
def TagExactUptoSaid : Prop := tagExactUptoRow.holds Try.pinned (OpenSpec.upto tagExactSpec)

/-- 'radiolinklaw14.TagShort', WHERE WHAT IT READS IS OF BULK AT MOST 1048576: true; the input reads as it did. -/
def tagShortUptoRow : OpenClaim := { program := "yteahbonhdoaibaa", sum := "66d2eabd39ec436d88a7cc54fa154ecc626a1e56a14f96772cf7d02ed007ee98", func := "radiolink/radiolinklaw14.TagShort", spec := "tagShort", apart := false, narrowed := true }
def TagShortUptoSaid : Prop := tagShortUptoRow.holds Try.pinned (OpenSpec.upto tagShortSpec)

end Rows
end Go.Proofs.Yteahbonhdoaibaa
