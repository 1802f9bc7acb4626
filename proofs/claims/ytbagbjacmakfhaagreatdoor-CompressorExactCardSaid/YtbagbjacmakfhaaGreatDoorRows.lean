/-
  NARROWER THAN 'FOR EVERY INPUT', by the rows' own cells (each row's printed sentence says how): CompressorExact: laid · CompressorRuns: laid · CompressorNever: laid · CompressorPossible: laid.
  DERIVED. THE GIVEN ROWS OF THIS SEAT. 4 by the template 'for every input the law returns true; each argument reads behind the call as it read before'; 0 by the template 'total and deterministic' (their statements: YtbagbjacmakfhaaGreatDoorTotals.lean).
  GIVEN WITH THE SEED: the statements are not yours to turn. If you find one false, say at which input.
  Laid BY PROGRAM, IN A SANDBOX (cutbox-rows.mjs): the forced cells as the released guide's own fill.sh prints them over the translation 6a26a6c15ce3bb13… (all of the seat's roots in one cut). By AI agents, Wed Nov 11 2026. No macro, syntax, notation, axiom, sorry.
-/
import Derived.Test.YtbagbjacmakfhaaGreatDoorChecked
import GoSem.Claim
import GoSem.ClaimJoined
import GoSem.ClaimMapViews
import Derived.JoinedTies
import Derived.KernelRfl
namespace Go.Proofs.YtbagbjacmakfhaaGreatDoor
/- THE CELL 'sum', in the pinned program and in every row, IS THE sha256 OF THE DUMP (.gsa) THAT YtbagbjacmakfhaaGreatDoorProg.lean LOADS. Nothing in Lean hashes anything: it is a label: what it is worth is what the hold of that sum in a sandbox is worth. -/
noncomputable def Tryz.pinned : Pinned := { name := "ytbagbjacmakfhaagreatdoor", sum := "6a26a6c15ce3bb13d9eaaa934f1ca07ad06671f7c1b077f8930a39b02fa4c0fa", checked := Tryz.checked }
namespace Rows
def none {H : Type} : Left H := { results := [], args := [] }

/- WHAT THE LISTED PACKAGE-LEVEL VARIABLES READ AS WHEN THE CALL BEGINS. Each datum BY PROGRAM (the guide's laid-datum.mjs) off the statement by which the dump's own 'gosem.cut.vars' lays the variable. In a bare row this is a premise. The card (YtbagbjacmakfhaaGreatDoorCards.lean) ties it to the program's text. -/
def laid_radiolink_check_polynomials {H : Type} : DataW H := .map [(.int .i64 3, .lit (.int .i64 3)), (.int .i64 7, .lit (.int .i64 9)), (.int .i64 8, .lit (.int .i64 7)), (.int .i64 16, .lit (.int .i64 4129)), (.int .i64 24, .lit (.int .i64 8801531))]

/-- 'radiolinklaw09.CompressorExact': WHATEVER THE INPUT: true; the input reads as it did. -/
def compressorExactSpec : ChangeSpec := { name := "compressorExact", fn := fun _ => fun
  | [d1, d2] => { results := [.lit (.bool true)], args := [d1, d2] }
  | _ => none }
def compressorExactRow : OpenClaim := { program := "ytbagbjacmakfhaagreatdoor", sum := "6a26a6c15ce3bb13d9eaaa934f1ca07ad06671f7c1b077f8930a39b02fa4c0fa", func := "radiolink/radiolinklaw09.CompressorExact", spec := "compressorExact", unfollowed := true, recurses := true, named := ["radiolink/check.polynomials"], apart := false, laid := [("radiolink/check.polynomials", laid_radiolink_check_polynomials)] }
def CompressorExactSaid : Prop := compressorExactRow.holds Tryz.pinned (OpenSpec.ofChange compressorExactSpec)

/-- ITS FALSE NEIGHBOUR: 'it returns false'. Refute it at one input. -/
def compressorExactWrong : ChangeSpec := { name := "compressorExact", fn := fun _ => fun
  | [d1, d2] => { results := [.lit (.bool false)], args := [d1, d2] }
  | _ => none }
def CompressorExactWrongFalsely : Prop := compressorExactRow.holds Tryz.pinned (OpenSpec.ofChange compressorExactWrong)

/-- 'radiolinklaw09.CompressorRuns': WHATEVER THE INPUT: true; the input reads as it did. -/
def compressorRunsSpec : ChangeSpec := { name := "compressorRuns", fn := fun _ => fun
  | [d1, d2, d3] => { results := [.lit (.bool true)], args := [d1, d2, d3] }
  | _ => none }
def compressorRunsRow : OpenClaim := { program := "ytbagbjacmakfhaagreatdoor", sum := "6a26a6c15ce3bb13d9eaaa934f1ca07ad06671f7c1b077f8930a39b02fa4c0fa", func := "radiolink/radiolinklaw09.CompressorRuns", spec := "compressorRuns", unfollowed := true, recurses := true, named := ["radiolink/check.polynomials"], apart := false, laid := [("radiolink/check.polynomials", laid_radiolink_check_polynomials)] }
def CompressorRunsSaid : Prop := compressorRunsRow.holds Tryz.pinned (OpenSpec.ofChange compressorRunsSpec)

/-- ITS FALSE NEIGHBOUR: 'it returns false'. Refute it at one input. -/
def compressorRunsWrong : ChangeSpec := { name := "compressorRuns", fn := fun _ => fun
  | [d1, d2, d3] => { results := [.lit (.bool false)], args := [d1, d2, d3] }
  | _ => none }
def CompressorRunsWrongFalsely : Prop := compressorRunsRow.holds Tryz.pinned (OpenSpec.ofChange compressorRunsWrong)

/-- 'radiolinklaw09.CompressorNever': WHATEVER THE INPUT: true; the input reads as it did. -/
def compressorNeverSpec : ChangeSpec := { name := "compressorNever", fn := fun _ => fun
  | [d1, d2] => { results := [.lit (.bool true)], args := [d1, d2] }
  | _ => none }
def compressorNeverRow : OpenClaim := { program := "ytbagbjacmakfhaagreatdoor", sum := "6a26a6c15ce3bb13d9eaaa934f1ca07ad06671f7c1b077f8930a39b02fa4c0fa", func := "radiolink/radiolinklaw09.CompressorNever", spec := "compressorNever", unfollowed := true, recurses := true, named := ["radiolink/check.polynomials"], apart := false, laid := [("radiolink/check.polynomials", laid_radiolink_check_polynomials)] }
def CompressorNeverSaid : Prop := compressorNeverRow.holds Tryz.pinned (OpenSpec.ofChange compressorNeverSpec)

/-- ITS FALSE NEIGHBOUR: 'it returns false'. Refute it at one input. -/
def compressorNeverWrong : ChangeSpec := { name := "compressorNever", fn := fun _ => fun
  | [d1, d2] => { results := [.lit (.bool false)], args := [d1, d2] }
  | _ => none }
def CompressorNeverWrongFalsely : Prop := compressorNeverRow.holds Tryz.pinned (OpenSpec.ofChange compressorNeverWrong)

/-- 'radiolinklaw09.CompressorPossible': WHATEVER THE INPUT: true; the input reads as it did. -/
def compressorPossibleSpec : ChangeSpec := { name := "compressorPossible", fn := fun _ => fun
  | [d1, d2, d3] => { results := [.lit (.bool true)], args := [d1, d2, d3] }
  | _ => none }
def compressorPossibleRow : OpenClaim := { program := "ytbagbjacmakfhaagreatdoor", sum := "6a26a6c15ce3bb13d9eaaa934f1ca07ad06671f7c1b077f8930a39b02fa4c0fa", func := "radiolink/radiolinklaw09.CompressorPossible", spec := "compressorPossible", unfollowed := true, recurses := true, named := ["radiolink/check.polynomials"], apart := false, laid := [("radiolink/check.polynomials", laid_radiolink_check_polynomials)] }
def CompressorPossibleSaid : Prop := compressorPossibleRow.holds Tryz.pinned (OpenSpec.ofChange compressorPossibleSpec)

/-- ITS FALSE NEIGHBOUR: 'it returns false'. Refute it at one input. -/
def compressorPossibleWrong : ChangeSpec := { name := "compressorPossible", fn := fun _ => fun
  | [d1, d2, d3] => { results := [.lit (.bool false)], args := [d1, d2, d3] }
  | _ => none }
def CompressorPossibleWrongFalsely : Prop := compressorPossibleRow.holds Tryz.pinned (OpenSpec.ofChange compressorPossibleWrong)

/- THE SECOND FORM. 'bulk': how many values and letters a reading holds, each counted each time it is reached (what is shared counts as often as it is met; a slice's spare places count too). A statement '..UptoSaid' is the law's where the arguments, and the package variables that the reading takes, are together of bulk at most 1048576: NARROWER than '..Said'. Prove '..Said' where nothing that the law and all that it calls make is longer than what came in: it says more and counts as full. Else prove '..UptoSaid'. A law counts once. -/
mutual
def uptoBulk {H : Type} : DataW H → Nat
  | .lit (.string bytes) => bytes.length + 1
  | .lit _ => 1
  | .nil => 1
  | .ptr d => uptoBulk d + 1
  | .slice elems spare => uptoBulkAll elems + uptoBulkAll spare + 1
  | .agg parts => uptoBulkAll parts + 1
  | .iface _ d => uptoBulk d + 1
  | .map entries => uptoBulkEntries entries + 1
  | .held _ => 1
def uptoBulkAll {H : Type} : List (DataW H) → Nat
  | [] => 0
  | d :: r => uptoBulk d + uptoBulkAll r
def uptoBulkEntries {H : Type} : List (Lit × DataW H) → Nat
  | [] => 0
  | x :: r => uptoBulkEntry x + uptoBulkEntries r
def uptoBulkEntry {H : Type} : Lit × DataW H → Nat
  | (.string bytes, d) => bytes.length + uptoBulk d + 1
  | (_, d) => uptoBulk d + 1
 end
def uptoSmall : (H : Type) → List (DataW H) → Bool := fun _ ds => decide (uptoBulkAll ds ≤ 1048576)
def OpenSpec.upto (s : _root_.Go.ChangeSpec) : _root_.Go.OpenSpec := { _root_.Go.OpenSpec.ofChange s with cond := some uptoSmall }

/-- 'radiolinklaw09.CompressorExact', WHERE WHAT IT READS IS OF BULK AT MOST 1048576: true; the input reads as it did. -/
def compressorExactUptoRow : OpenClaim := { program := "ytbagbjacmakfhaagreatdoor", sum := "6a26a6c15ce3bb13d9eaaa934f1ca07ad06671f7c1b077f8930a39b02fa4c0fa", func := "radiolink/radiolinklaw09.CompressorExact", spec := "compressorExact", unfollowed := true, recurses := true, named := ["radiolink/check.polynomials"], apart := false, laid := [("radiolink/check.polynomials", laid_radiolink_check_polynomials)], narrowed := true }
def CompressorExactUptoSaid : Prop := compressorExactUptoRow.holds Tryz.pinned (OpenSpec.upto compressorExactSpec)

/-- 'radiolinklaw09.CompressorRuns', WHERE WHAT IT READS IS OF BULK AT MOST 1048576: true; the input reads as it did. -/
def compressorRunsUptoRow : OpenClaim := { program := "ytbagbjacmakfhaagreatdoor", sum := "6a26a6c15ce3bb13d9eaaa934f1ca07ad06671f7c1b077f8930a39b02fa4c0fa", func := "radiolink/radiolinklaw09.CompressorRuns", spec := "compressorRuns", unfollowed := true, recurses := true, named := ["radiolink/check.polynomials"], apart := false, laid := [("radiolink/check.polynomials", laid_radiolink_check_polynomials)], narrowed := true }
def CompressorRunsUptoSaid : Prop := compressorRunsUptoRow.holds Tryz.pinned (OpenSpec.upto compressorRunsSpec)

/-- 'radiolinklaw09.CompressorNever', WHERE WHAT IT READS IS OF BULK AT MOST 1048576: true; the input reads as it did. -/
def compressorNeverUptoRow : OpenClaim := { program := "ytbagbjacmakfhaagreatdoor", sum := "6a26a6c15ce3bb13d9eaaa934f1ca07ad06671f7c1b077f8930a39b02fa4c0fa", func := "radiolink/radiolinklaw09.CompressorNever", spec := "compressorNever", unfollowed := true, recurses := true, named := ["radiolink/check.polynomials"], apart := false, laid := [("radiolink/check.polynomials", laid_radiolink_check_polynomials)], narrowed := true }
def CompressorNeverUptoSaid : Prop := compressorNeverUptoRow.holds Tryz.pinned (OpenSpec.upto compressorNeverSpec)

/-- 'radiolinklaw09.CompressorPossible', WHERE WHAT IT READS IS OF BULK AT MOST 1048576: true; the input reads as it did. -/
def compressorPossibleUptoRow : OpenClaim := { program := "ytbagbjacmakfhaagreatdoor", sum := "6a26a6c15ce3bb13d9eaaa934f1ca07ad06671f7c1b077f8930a39b02fa4c0fa", func := "radiolink/radiolinklaw09.CompressorPossible", spec := "compressorPossible", unfollowed := true, recurses := true, named := ["radiolink/check.polynomials"], apart := false, laid := [("radiolink/check.polynomials", laid_radiolink_check_polynomials)], narrowed := true }
def CompressorPossibleUptoSaid : Prop := compressorPossibleUptoRow.holds Tryz.pinned (OpenSpec.upto compressorPossibleSpec)

end Rows
end Go.Proofs.YtbagbjacmakfhaaGreatDoor
