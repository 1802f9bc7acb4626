/-
  No cell of these rows narrows 'for every input' (looked for: loops, veiled, ifaces, maps, wideKeys, modest, calm, conditions, laid).
  DERIVED. THE GIVEN ROWS OF THIS SEAT. 3 by the template 'for every input the law returns true; each argument reads behind the call as it read before'; 0 by the template 'total and deterministic' (their statements: YtmfifkkmbkcibaaTotals.lean).
  GIVEN WITH THE SEED: the statements are not yours to turn. If you find one false, say at which input.
  Laid BY PROGRAM, IN A SANDBOX (cutbox-rows.mjs): the forced cells as the released guide's own fill.sh prints them over the translation 1e6a7af4ddfcb147… (all of the seat's roots in one cut). By AI agents, Wed Nov 11 2026. No macro, syntax, notation, axiom, sorry.
-/
import Derived.Test.YtmfifkkmbkcibaaChecked
import GoSem.Claim
import GoSem.ClaimJoined
import GoSem.ClaimMapViews
import Derived.JoinedTies
import Derived.KernelRfl
namespace Go.Proofs.Ytmfifkkmbkcibaa
/- THE CELL 'sum', in the pinned program and in every row, IS THE sha256 OF THE DUMP (.gsa) THAT YtmfifkkmbkcibaaProg.lean LOADS. Nothing in Lean hashes anything: it is a label: what it is worth is what the hold of that sum in a sandbox is worth. -/
noncomputable def Try.pinned : Pinned := { name := "ytmfifkkmbkcibaa", sum := "1e6a7af4ddfcb147a8deb57a26ea9bef3eaf0db305bb5f55194ce95894dd655e", checked := Try.checked }
namespace Rows
def none {H : Type} : Left H := { results := [], args := [] }

/-- 'radiolinklaw41.AnchorRows': WHATEVER THE INPUT: true; the input reads as it did. -/
def anchorRowsSpec : ChangeSpec := { name := "anchorRows", fn := fun _ => fun
  | [d1, d2, d3] => { results := [.lit (.bool true)], args := [d1, d2, d3] }
  | _ => none }
def anchorRowsRow : OpenClaim := { program := "ytmfifkkmbkcibaa", sum := "1e6a7af4ddfcb147a8deb57a26ea9bef3eaf0db305bb5f55194ce95894dd655e", func := "radiolink/radiolinklaw41.AnchorRows", spec := "anchorRows", apart := false }
def AnchorRowsSaid : Prop := anchorRowsRow.holds Try.pinned (OpenSpec.ofChange anchorRowsSpec)

/-- ITS FALSE NEIGHBOUR: 'it returns false'. Refute it at one input. -/
def anchorRowsWrong : ChangeSpec := { name := "anchorRows", fn := fun _ => fun
  | [d1, d2, d3] => { results := [.lit (.bool false)], args := [d1, d2, d3] }
  | _ => none }
def AnchorRowsWrongFalsely : Prop := anchorRowsRow.holds Try.pinned (OpenSpec.ofChange anchorRowsWrong)

/-- 'radiolinklaw41.AnchorRaw': WHATEVER THE INPUT: true; the input reads as it did. -/
def anchorRawSpec : ChangeSpec := { name := "anchorRaw", fn := fun _ => fun
  | [d1, d2, d3, d4, d5, d6, d7] => { results := [.lit (.bool true)], args := [d1, d2, d3, d4, d5, d6, d7] }
  | _ => none }
def anchorRawRow : OpenClaim := { program := "ytmfifkkmbkcibaa", sum := "1e6a7af4ddfcb147a8deb57a26ea9bef3eaf0db305bb5f55194ce95894dd655e", func := "radiolink/radiolinklaw41.AnchorRaw", spec := "anchorRaw", apart := false }
def AnchorRawSaid : Prop := anchorRawRow.holds Try.pinned (OpenSpec.ofChange anchorRawSpec)

/-- ITS FALSE NEIGHBOUR: 'it returns false'. Refute it at one input. -/
def anchorRawWrong : ChangeSpec := { name := "anchorRaw", fn := fun _ => fun
  | [d1, d2, d3, d4, d5, d6, d7] => { results := [.lit (.bool false)], args := [d1, d2, d3, d4, d5, d6, d7] }
  | _ => none }
def AnchorRawWrongFalsely : Prop := anchorRawRow.holds Try.pinned (OpenSpec.ofChange anchorRawWrong)

/-- 'radiolinklaw41.AnchorPaths': WHATEVER THE INPUT: true; the input reads as it did. -/
def anchorPathsSpec : ChangeSpec := { name := "anchorPaths", fn := fun _ => fun
  | [d1, d2] => { results := [.lit (.bool true)], args := [d1, d2] }
  | _ => none }
def anchorPathsRow : OpenClaim := { program := "ytmfifkkmbkcibaa", sum := "1e6a7af4ddfcb147a8deb57a26ea9bef3eaf0db305bb5f55194ce95894dd655e", func := "radiolink/radiolinklaw41.AnchorPaths", spec := "anchorPaths", apart := false }
def AnchorPathsSaid : Prop := anchorPathsRow.holds Try.pinned (OpenSpec.ofChange anchorPathsSpec)

/-- ITS FALSE NEIGHBOUR: 'it returns false'. Refute it at one input. -/
def anchorPathsWrong : ChangeSpec := { name := "anchorPaths", fn := fun _ => fun
  | [d1, d2] => { results := [.lit (.bool false)], args := [d1, d2] }
  | _ => none }
def AnchorPathsWrongFalsely : Prop := anchorPathsRow.holds Try.pinned (OpenSpec.ofChange anchorPathsWrong)

/- THE SECOND FORM. 'bulk': how many values and letters a reading holds, each counted each time it is reached (what is shared counts as often as it is met; a slice's spare places count too). A statement '..UptoSaid' is the law's where the arguments, and the package variables that the reading takes, are together of bulk at most 1048576: NARROWER than '..Said'. Prove '..Said' where nothing that the law and all that it calls make is longer than what came in: it says more and counts as full. Else prove '..UptoSaid'. A law counts once. -/
mutual
def uptoBulk {H : Type} : DataW H → Nat
  | .lit (.string bytes) => bytes.length + 1
  | .lit _ => 1
  | .nil => 1
  | .ptr d => uptoBulk d + 1
  | .slice elems spare => uptoBulkAll elems + uptoBulkAll spare + 1
  | .agg parts => uptoBulkAll parts + 1
  | .iface _ d => uptoBulk d + 1
  | .map entries => uptoBulkEntries entries + 1
  | .held _ => 1
def uptoBulkAll {H : Type} : List (DataW H) → Nat
  | [] => 0
  | d :: r => uptoBulk d + uptoBulkAll r
def uptoBulkEntries {H : Type} : List (Lit × DataW H) → Nat
  | [] => 0
  | x :: r => uptoBulkEntry x + uptoBulkEntries r
def uptoBulkEntry {H : Type} : Lit × DataW H → Nat
  | (.string bytes, d) => bytes.length + uptoBulk d + 1
  | (_, d) => uptoBulk d + 1
 end
def uptoSmall : (H : Type) → List (DataW H) → Bool := fun _ ds => decide (uptoBulkAll ds ≤ 1048576)
def OpenSpec.upto (s : _root_.Go.ChangeSpec) : _root_.Go.OpenSpec := { _root_.Go.OpenSpec.ofChange s with cond := some uptoSmall }

/-- 'radiolinklaw41.AnchorRows', WHERE WHAT IT READS IS OF BULK AT MOST 1048576: true; the input reads as it did. -/
def anchorRowsUptoRow : OpenClaim := { program := "ytmfifkkmbkcibaa", sum := "1e6a7af4ddfcb147a8deb57a26ea9bef3eaf0db305bb5f55194ce95894dd655e", func := "radiolink/radiolinklaw41.AnchorRows", spec := "anchorRows", apart := false, narrowed := true }
def AnchorRowsUptoSaid : Prop := anchorRowsUptoRow.holds Try.pinned (OpenSpec.upto anchorRowsSpec)

/-- 'radiolinklaw41.AnchorRaw', WHERE WHAT IT READS IS OF BULK AT MOST 1048576: true; the input reads as it did. -/
def anchorRawUptoRow : OpenClaim := { program := "ytmfifkkmbkcibaa", sum := "1e6a7af4ddfcb147a8deb57a26ea9bef3eaf0db305bb5f55194ce95894dd655e", func := "radiolink/radiolinklaw41.AnchorRaw", spec := "anchorRaw", apart := false, narrowed := true }
def AnchorRawUptoSaid : Prop := anchorRawUptoRow.holds Try.pinned (OpenSpec.upto anchorRawSpec)

/-- 'radiolinklaw41.AnchorPaths', WHERE WHAT IT READS IS OF BULK AT MOST 1048576: true; the input reads as it did. -/
def anchorPathsUptoRow : OpenClaim := { program := "ytmfifkkmbkcibaa", sum := "1e6a7af4ddfcb147a8deb57a26ea9bef3eaf0db305bb5f55194ce95894dd655e", func := "radiolink/radiolinklaw41.AnchorPaths", spec := "anchorPaths", apart := false, narrowed := true }
def AnchorPathsUptoSaid : Prop := anchorPathsUptoRow.holds Try.pinned (OpenSpec.upto anchorPathsSpec)

end Rows
end Go.Proofs.Ytmfifkkmbkcibaa
