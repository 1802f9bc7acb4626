/-
  NARROWER THAN 'FOR EVERY INPUT', by the rows' own cells (each row's printed sentence says how): HeaderlinkReliable: laid · HeaderlinkOnce: laid · HeaderlinkRuns: laid · HeaderlinkMade: laid.
  DERIVED. THE GIVEN ROWS OF THIS SEAT. 4 by the template 'for every input the law returns true; each argument reads behind the call as it read before'; 0 by the template 'total and deterministic' (their statements: YtndpmpnmkpaklaaGreatDoorTotals.lean).
  GIVEN WITH THE SEED: the statements are not yours to turn. If you find one false, say at which input.
  Laid BY PROGRAM, IN A SANDBOX (cutbox-rows.mjs): the forced cells as the released guide's own fill.sh prints them over the translation 949f55087a39089b… (all of the seat's roots in one cut). By AI agents, Wed Nov 11 2026. No macro, syntax, notation, axiom, sorry.
-/
import Derived.Test.YtndpmpnmkpaklaaGreatDoorChecked
import GoSem.Claim
import GoSem.ClaimJoined
import GoSem.ClaimMapViews
import Derived.JoinedTies
import Derived.KernelRfl
namespace Go.Proofs.YtndpmpnmkpaklaaGreatDoor
/- THE CELL 'sum', in the pinned program and in every row, IS THE sha256 OF THE DUMP (.gsa) THAT YtndpmpnmkpaklaaGreatDoorProg.lean LOADS. Nothing in Lean hashes anything: it is a label: what it is worth is what the hold of that sum in a sandbox is worth. -/
noncomputable def Tryz.pinned : Pinned := { name := "ytndpmpnmkpaklaagreatdoor", sum := "949f55087a39089b60fd22f1fab3bc65e8c95594ee038cefccab5d6fdb7e07fd", checked := Tryz.checked }
namespace Rows
def none {H : Type} : Left H := { results := [], args := [] }

/- WHAT THE LISTED PACKAGE-LEVEL VARIABLES READ AS WHEN THE CALL BEGINS. Each datum BY PROGRAM (the guide's laid-datum.mjs) off the statement by which the dump's own 'gosem.cut.vars' lays the variable. In a bare row this is a premise. The card (YtndpmpnmkpaklaaGreatDoorCards.lean) ties it to the program's text. -/
def laid_radiolink_check_polynomials {H : Type} : DataW H := .map [(.int .i64 3, .lit (.int .i64 3)), (.int .i64 7, .lit (.int .i64 9)), (.int .i64 8, .lit (.int .i64 7)), (.int .i64 16, .lit (.int .i64 4129)), (.int .i64 24, .lit (.int .i64 8801531))]

/-- 'radiolinklaw12.HeaderlinkReliable': WHATEVER THE INPUT: true; the input reads as it did. -/
def headerlinkReliableSpec : ChangeSpec := { name := "headerlinkReliable", fn := fun _ => fun
  | [d1, d2] => { results := [.lit (.bool true)], args := [d1, d2] }
  | _ => none }
def headerlinkReliableRow : OpenClaim := { program := "ytndpmpnmkpaklaagreatdoor", sum := "949f55087a39089b60fd22f1fab3bc65e8c95594ee038cefccab5d6fdb7e07fd", func := "radiolink/radiolinklaw12.HeaderlinkReliable", spec := "headerlinkReliable", unfollowed := true, recurses := true, named := ["radiolink/check.polynomials"], apart := false, laid := [("radiolink/check.polynomials", laid_radiolink_check_polynomials)] }
def HeaderlinkReliableSaid : Prop := headerlinkReliableRow.holds Tryz.pinned (OpenSpec.ofChange headerlinkReliableSpec)

/-- ITS FALSE NEIGHBOUR: 'it returns false'. Refute it at one input. -/
def headerlinkReliableWrong : ChangeSpec := { name := "headerlinkReliable", fn := fun _ => fun
  | [d1, d2] => { results := [.lit (.bool false)], args := [d1, d2] }
  | _ => none }
def HeaderlinkReliableWrongFalsely : Prop := headerlinkReliableRow.holds Tryz.pinned (OpenSpec.ofChange headerlinkReliableWrong)

/-- 'radiolinklaw12.HeaderlinkOnce': WHATEVER THE INPUT: true; the input reads as it did. -/
def headerlinkOnceSpec : ChangeSpec := { name := "headerlinkOnce", fn := fun _ => fun
  | [d1, d2, d3] => { results := [.lit (.bool true)], args := [d1, d2, d3] }
  | _ => none }
def headerlinkOnceRow : OpenClaim := { program := "ytndpmpnmkpaklaagreatdoor", sum := "949f55087a39089b60fd22f1fab3bc65e8c95594ee038cefccab5d6fdb7e07fd", func := "radiolink/radiolinklaw12.HeaderlinkOnce", spec := "headerlinkOnce", unfollowed := true, recurses := true, named := ["radiolink/check.polynomials"], apart := false, laid := [("radiolink/check.polynomials", laid_radiolink_check_polynomials)] }
def HeaderlinkOnceSaid : Prop := headerlinkOnceRow.holds Tryz.pinned (OpenSpec.ofChange headerlinkOnceSpec)

/-- ITS FALSE NEIGHBOUR: 'it returns false'. Refute it at one input. -/
def headerlinkOnceWrong : ChangeSpec := { name := "headerlinkOnce", fn := fun _ => fun
  | [d1, d2, d3] => { results := [.lit (.bool false)], args := [d1, d2, d3] }
  | _ => none }
def HeaderlinkOnceWrongFalsely : Prop := headerlinkOnceRow.holds Tryz.pinned (OpenSpec.ofChange headerlinkOnceWrong)

/-- 'radiolinklaw12.HeaderlinkRuns': WHATEVER THE INPUT: true; the input reads as it did. -/
def headerlinkRunsSpec : ChangeSpec := { name := "headerlinkRuns", fn := fun _ => fun
  | [d1, d2, d3] => { results := [.lit (.bool true)], args := [d1, d2, d3] }
  | _ => none }
def headerlinkRunsRow : OpenClaim := { program := "ytndpmpnmkpaklaagreatdoor", sum := "949f55087a39089b60fd22f1fab3bc65e8c95594ee038cefccab5d6fdb7e07fd", func := "radiolink/radiolinklaw12.HeaderlinkRuns", spec := "headerlinkRuns", unfollowed := true, recurses := true, named := ["radiolink/check.polynomials"], apart := false, laid := [("radiolink/check.polynomials", laid_radiolink_check_polynomials)] }
def HeaderlinkRunsSaid : Prop := headerlinkRunsRow.holds Tryz.pinned (OpenSpec.ofChange headerlinkRunsSpec)

/-- ITS FALSE NEIGHBOUR: 'it returns false'. Refute it at one input. -/
def headerlinkRunsWrong : ChangeSpec := { name := "headerlinkRuns", fn := fun _ => fun
  | [d1, d2, d3] => { results := [.lit (.bool false)], args := [d1, d2, d3] }
  | _ => none }
def HeaderlinkRunsWrongFalsely : Prop := headerlinkRunsRow.holds Tryz.pinned (OpenSpec.ofChange headerlinkRunsWrong)

/-- 'radiolinklaw12.HeaderlinkMade': WHATEVER THE INPUT: true; the input reads as it did. -/
def headerlinkMadeSpec : ChangeSpec := { name := "headerlinkMade", fn := fun _ => fun
  | [d1, d2, d3] => { results := [.lit (.bool true)], args := [d1, d2, d3] }
  | _ => none }
def headerlinkMadeRow : OpenClaim := { program := "ytndpmpnmkpaklaagreatdoor", sum := "949f55087a39089b60fd22f1fab3bc65e8c95594ee038cefccab5d6fdb7e07fd", func := "radiolink/radiolinklaw12.HeaderlinkMade", spec := "headerlinkMade", unfollowed := true, recurses := true, named := ["radiolink/check.polynomials"], apart := false, laid := [("radiolink/check.polynomials", laid_radiolink_check_polynomials)] }
def HeaderlinkMadeSaid : Prop := headerlinkMadeRow.holds Tryz.pinned (OpenSpec.ofChange headerlinkMadeSpec)

/-- ITS FALSE NEIGHBOUR: 'it returns false'. Refute it at one input. -/
def headerlinkMadeWrong : ChangeSpec := { name := "headerlinkMade", fn := fun _ => fun
  | [d1, d2, d3] => { results := [.lit (.bool false)], args := [d1, d2, d3] }
  | _ => none }
def HeaderlinkMadeWrongFalsely : Prop := headerlinkMadeRow.holds Tryz.pinned (OpenSpec.ofChange headerlinkMadeWrong)

/- THE SECOND FORM. 'bulk': how many values and letters a reading holds, each counted each time it is reached (what is shared counts as often as it is met; a slice's spare places count too). A statement '..UptoSaid' is the law's where the arguments, and the package variables that the reading takes, are together of bulk at most 1048576: NARROWER than '..Said'. Prove '..Said' where nothing that the law and all that it calls make is longer than what came in: it says more and counts as full. Else prove '..UptoSaid'. A law counts once. -/
mutual
def uptoBulk {H : Type} : DataW H → Nat
  | .lit (.string bytes) => bytes.length + 1
  | .lit _ => 1
  | .nil => 1
  | .ptr d => uptoBulk d + 1
  | .slice elems spare => uptoBulkAll elems + uptoBulkAll spare + 1
  | .agg parts => uptoBulkAll parts + 1
  | .iface _ d => uptoBulk d + 1
  | .map entries => uptoBulkEntries entries + 1
  | .held _ => 1
def uptoBulkAll {H : Type} : List (DataW H) → Nat
  | [] => 0
  | d :: r => uptoBulk d + uptoBulkAll r
def uptoBulkEntries {H : Type} : List (Lit × DataW H) → Nat
  | [] => 0
  | x :: r => uptoBulkEntry x + uptoBulkEntries r
def uptoBulkEntry {H : Type} : Lit × DataW H → Nat
  | (.string bytes, d) => bytes.length + uptoBulk d + 1
  | (_, d) => uptoBulk d + 1
 end
def uptoSmall : (H : Type) → List (DataW H) → Bool := fun _ ds => decide (uptoBulkAll ds ≤ 1048576)
def OpenSpec.upto (s : _root_.Go.ChangeSpec) : _root_.Go.OpenSpec := { _root_.Go.OpenSpec.ofChange s with cond := some uptoSmall }

/-- 'radiolinklaw12.HeaderlinkReliable', WHERE WHAT IT READS IS OF BULK AT MOST 1048576: true; the input reads as it did. -/
def headerlinkReliableUptoRow : OpenClaim := { program := "ytndpmpnmkpaklaagreatdoor", sum := "949f55087a39089b60fd22f1fab3bc65e8c95594ee038cefccab5d6fdb7e07fd", func := "radiolink/radiolinklaw12.HeaderlinkReliable", spec := "headerlinkReliable", unfollowed := true, recurses := true, named := ["radiolink/check.polynomials"], apart := false, laid := [("radiolink/check.polynomials", laid_radiolink_check_polynomials)], narrowed := true }
def HeaderlinkReliableUptoSaid : Prop := headerlinkReliableUptoRow.holds Tryz.pinned (OpenSpec.upto headerlinkReliableSpec)

/-- 'radiolinklaw12.HeaderlinkOnce', WHERE WHAT IT READS IS OF BULK AT MOST 1048576: true; the input reads as it did. -/
def headerlinkOnceUptoRow : OpenClaim := { program := "ytndpmpnmkpaklaagreatdoor", sum := "949f55087a39089b60fd22f1fab3bc65e8c95594ee038cefccab5d6fdb7e07fd", func := "radiolink/radiolinklaw12.HeaderlinkOnce", spec := "headerlinkOnce", unfollowed := true, recurses := true, named := ["radiolink/check.polynomials"], apart := false, laid := [("radiolink/check.polynomials", laid_radiolink_check_polynomials)], narrowed := true }
def HeaderlinkOnceUptoSaid : Prop := headerlinkOnceUptoRow.holds Tryz.pinned (OpenSpec.upto headerlinkOnceSpec)

/-- 'radiolinklaw12.HeaderlinkRuns', WHERE WHAT IT READS IS OF BULK AT MOST 1048576: true; the input reads as it did. -/
def headerlinkRunsUptoRow : OpenClaim := { program := "ytndpmpnmkpaklaagreatdoor", sum := "949f55087a39089b60fd22f1fab3bc65e8c95594ee038cefccab5d6fdb7e07fd", func := "radiolink/radiolinklaw12.HeaderlinkRuns", spec := "headerlinkRuns", unfollowed := true, recurses := true, named := ["radiolink/check.polynomials"], apart := false, laid := [("radiolink/check.polynomials", laid_radiolink_check_polynomials)], narrowed := true }
def HeaderlinkRunsUptoSaid : Prop := headerlinkRunsUptoRow.holds Tryz.pinned (OpenSpec.upto headerlinkRunsSpec)

/-- 'radiolinklaw12.HeaderlinkMade', WHERE WHAT IT READS IS OF BULK AT MOST 1048576: true; the input reads as it did. -/
def headerlinkMadeUptoRow : OpenClaim := { program := "ytndpmpnmkpaklaagreatdoor", sum := "949f55087a39089b60fd22f1fab3bc65e8c95594ee038cefccab5d6fdb7e07fd", func := "radiolink/radiolinklaw12.HeaderlinkMade", spec := "headerlinkMade", unfollowed := true, recurses := true, named := ["radiolink/check.polynomials"], apart := false, laid := [("radiolink/check.polynomials", laid_radiolink_check_polynomials)], narrowed := true }
def HeaderlinkMadeUptoSaid : Prop := headerlinkMadeUptoRow.holds Tryz.pinned (OpenSpec.upto headerlinkMadeSpec)

end Rows
end Go.Proofs.YtndpmpnmkpaklaaGreatDoor
