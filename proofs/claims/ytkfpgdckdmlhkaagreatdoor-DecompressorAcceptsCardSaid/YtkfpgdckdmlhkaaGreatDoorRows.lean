/-
  NARROWER THAN 'FOR EVERY INPUT', by the rows' own cells (each row's printed sentence says how): DecompressorNews: laid · DecompressorExact: laid · DecompressorRuns: laid · DecompressorReturns: laid · DecompressorAccepts: laid.
  DERIVED. THE GIVEN ROWS OF THIS SEAT. 5 by the template 'for every input the law returns true; each argument reads behind the call as it read before'; 0 by the template 'total and deterministic' (their statements: YtkfpgdckdmlhkaaGreatDoorTotals.lean).
  GIVEN WITH THE SEED: the statements are not yours to turn. If you find one false, say at which input.
  Laid BY PROGRAM, IN A SANDBOX (cutbox-rows.mjs): the forced cells as the released guide's own fill.sh prints them over the translation 3864af602d0270ef… (all of the seat's roots in one cut). By AI agents, Wed Nov 11 2026. No macro, syntax, notation, axiom, sorry.
-/
import Derived.Test.YtkfpgdckdmlhkaaGreatDoorChecked
import GoSem.Claim
import GoSem.ClaimJoined
import GoSem.ClaimMapViews
import Derived.JoinedTies
import Derived.KernelRfl
namespace Go.Proofs.YtkfpgdckdmlhkaaGreatDoor
/- THE CELL 'sum', in the pinned program and in every row, IS THE sha256 OF THE DUMP (.gsa) THAT YtkfpgdckdmlhkaaGreatDoorProg.lean LOADS. Nothing in Lean hashes anything: it is a label: what it is worth is what the hold of that sum in a sandbox is worth. -/
noncomputable def Tryz.pinned : Pinned := { name := "ytkfpgdckdmlhkaagreatdoor", sum := "3864af602d0270ef7c72611216b2faa0c9f0301272f117cdf0fb2f876fe9478a", checked := Tryz.checked }
namespace Rows
def none {H : Type} : Left H := { results := [], args := [] }

/- WHAT THE LISTED PACKAGE-LEVEL VARIABLES READ AS WHEN THE CALL BEGINS. Each datum BY PROGRAM (the guide's laid-datum.mjs) off the statement by which the dump's own 'gosem.cut.vars' lays the variable. In a bare row this is a premise. The card (YtkfpgdckdmlhkaaGreatDoorCards.lean) ties it to the program's text. -/
def laid_radiolink_check_polynomials {H : Type} : DataW H := .map [(.int .i64 3, .lit (.int .i64 3)), (.int .i64 7, .lit (.int .i64 9)), (.int .i64 8, .lit (.int .i64 7)), (.int .i64 16, .lit (.int .i64 4129)), (.int .i64 24, .lit (.int .i64 8801531))]

/-- 'radiolinklaw10.DecompressorNews': WHATEVER THE INPUT: true; the input reads as it did. -/
def decompressorNewsSpec : ChangeSpec := { name := "decompressorNews", fn := fun _ => fun
  | [d1, d2] => { results := [.lit (.bool true)], args := [d1, d2] }
  | _ => none }
def decompressorNewsRow : OpenClaim := { program := "ytkfpgdckdmlhkaagreatdoor", sum := "3864af602d0270ef7c72611216b2faa0c9f0301272f117cdf0fb2f876fe9478a", func := "radiolink/radiolinklaw10.DecompressorNews", spec := "decompressorNews", unfollowed := true, recurses := true, named := ["radiolink/check.polynomials"], apart := false, laid := [("radiolink/check.polynomials", laid_radiolink_check_polynomials)] }
def DecompressorNewsSaid : Prop := decompressorNewsRow.holds Tryz.pinned (OpenSpec.ofChange decompressorNewsSpec)

/-- ITS FALSE NEIGHBOUR: 'it returns false'. Refute it at one input. -/
def decompressorNewsWrong : ChangeSpec := { name := "decompressorNews", fn := fun _ => fun
  | [d1, d2] => { results := [.lit (.bool false)], args := [d1, d2] }
  | _ => none }
def DecompressorNewsWrongFalsely : Prop := decompressorNewsRow.holds Tryz.pinned (OpenSpec.ofChange decompressorNewsWrong)

/-- 'radiolinklaw10.DecompressorExact': WHATEVER THE INPUT: true; the input reads as it did. -/
def decompressorExactSpec : ChangeSpec := { name := "decompressorExact", fn := fun _ => fun
  | [d1, d2, d3] => { results := [.lit (.bool true)], args := [d1, d2, d3] }
  | _ => none }
def decompressorExactRow : OpenClaim := { program := "ytkfpgdckdmlhkaagreatdoor", sum := "3864af602d0270ef7c72611216b2faa0c9f0301272f117cdf0fb2f876fe9478a", func := "radiolink/radiolinklaw10.DecompressorExact", spec := "decompressorExact", unfollowed := true, recurses := true, named := ["radiolink/check.polynomials"], apart := false, laid := [("radiolink/check.polynomials", laid_radiolink_check_polynomials)] }
def DecompressorExactSaid : Prop := decompressorExactRow.holds Tryz.pinned (OpenSpec.ofChange decompressorExactSpec)

/-- ITS FALSE NEIGHBOUR: 'it returns false'. Refute it at one input. -/
def decompressorExactWrong : ChangeSpec := { name := "decompressorExact", fn := fun _ => fun
  | [d1, d2, d3] => { results := [.lit (.bool false)], args := [d1, d2, d3] }
  | _ => none }
def DecompressorExactWrongFalsely : Prop := decompressorExactRow.holds Tryz.pinned (OpenSpec.ofChange decompressorExactWrong)

/-- 'radiolinklaw10.DecompressorRuns': WHATEVER THE INPUT: true; the input reads as it did. -/
def decompressorRunsSpec : ChangeSpec := { name := "decompressorRuns", fn := fun _ => fun
  | [d1, d2, d3] => { results := [.lit (.bool true)], args := [d1, d2, d3] }
  | _ => none }
def decompressorRunsRow : OpenClaim := { program := "ytkfpgdckdmlhkaagreatdoor", sum := "3864af602d0270ef7c72611216b2faa0c9f0301272f117cdf0fb2f876fe9478a", func := "radiolink/radiolinklaw10.DecompressorRuns", spec := "decompressorRuns", unfollowed := true, recurses := true, named := ["radiolink/check.polynomials"], apart := false, laid := [("radiolink/check.polynomials", laid_radiolink_check_polynomials)] }
def DecompressorRunsSaid : Prop := decompressorRunsRow.holds Tryz.pinned (OpenSpec.ofChange decompressorRunsSpec)

/-- ITS FALSE NEIGHBOUR: 'it returns false'. Refute it at one input. -/
def decompressorRunsWrong : ChangeSpec := { name := "decompressorRuns", fn := fun _ => fun
  | [d1, d2, d3] => { results := [.lit (.bool false)], args := [d1, d2, d3] }
  | _ => none }
def DecompressorRunsWrongFalsely : Prop := decompressorRunsRow.holds Tryz.pinned (OpenSpec.ofChange decompressorRunsWrong)

/-- 'radiolinklaw10.DecompressorReturns': WHATEVER THE INPUT: true; the input reads as it did. -/
def decompressorReturnsSpec : ChangeSpec := { name := "decompressorReturns", fn := fun _ => fun
  | [d1, d2, d3] => { results := [.lit (.bool true)], args := [d1, d2, d3] }
  | _ => none }
def decompressorReturnsRow : OpenClaim := { program := "ytkfpgdckdmlhkaagreatdoor", sum := "3864af602d0270ef7c72611216b2faa0c9f0301272f117cdf0fb2f876fe9478a", func := "radiolink/radiolinklaw10.DecompressorReturns", spec := "decompressorReturns", unfollowed := true, recurses := true, named := ["radiolink/check.polynomials"], apart := false, laid := [("radiolink/check.polynomials", laid_radiolink_check_polynomials)] }
def DecompressorReturnsSaid : Prop := decompressorReturnsRow.holds Tryz.pinned (OpenSpec.ofChange decompressorReturnsSpec)

/-- ITS FALSE NEIGHBOUR: 'it returns false'. Refute it at one input. -/
def decompressorReturnsWrong : ChangeSpec := { name := "decompressorReturns", fn := fun _ => fun
  | [d1, d2, d3] => { results := [.lit (.bool false)], args := [d1, d2, d3] }
  | _ => none }
def DecompressorReturnsWrongFalsely : Prop := decompressorReturnsRow.holds Tryz.pinned (OpenSpec.ofChange decompressorReturnsWrong)

/-- 'radiolinklaw10.DecompressorAccepts': WHATEVER THE INPUT: true; the input reads as it did. -/
def decompressorAcceptsSpec : ChangeSpec := { name := "decompressorAccepts", fn := fun _ => fun
  | [d1, d2] => { results := [.lit (.bool true)], args := [d1, d2] }
  | _ => none }
def decompressorAcceptsRow : OpenClaim := { program := "ytkfpgdckdmlhkaagreatdoor", sum := "3864af602d0270ef7c72611216b2faa0c9f0301272f117cdf0fb2f876fe9478a", func := "radiolink/radiolinklaw10.DecompressorAccepts", spec := "decompressorAccepts", unfollowed := true, recurses := true, named := ["radiolink/check.polynomials"], apart := false, laid := [("radiolink/check.polynomials", laid_radiolink_check_polynomials)] }
def DecompressorAcceptsSaid : Prop := decompressorAcceptsRow.holds Tryz.pinned (OpenSpec.ofChange decompressorAcceptsSpec)

/-- ITS FALSE NEIGHBOUR: 'it returns false'. Refute it at one input. -/
def decompressorAcceptsWrong : ChangeSpec := { name := "decompressorAccepts", fn := fun _ => fun
  | [d1, d2] => { results := [.lit (.bool false)], args := [d1, d2] }
  | _ => none }
def DecompressorAcceptsWrongFalsely : Prop := decompressorAcceptsRow.holds Tryz.pinned (OpenSpec.ofChange decompressorAcceptsWrong)

/- THE SECOND FORM. 'bulk': how many values and letters a reading holds, each counted each time it is reached (what is shared counts as often as it is met; a slice's spare places count too). A statement '..UptoSaid' is the law's where the arguments, and the package variables that the reading takes, are together of bulk at most 1048576: NARROWER than '..Said'. Prove '..Said' where nothing that the law and all that it calls make is longer than what came in: it says more and counts as full. Else prove '..UptoSaid'. A law counts once. -/
mutual
def uptoBulk {H : Type} : DataW H → Nat
  | .lit (.string bytes) => bytes.length + 1
  | .lit _ => 1
  | .nil => 1
  | .ptr d => uptoBulk d + 1
  | .slice elems spare => uptoBulkAll elems + uptoBulkAll spare + 1
  | .agg parts => uptoBulkAll parts + 1
  | .iface _ d => uptoBulk d + 1
  | .map entries => uptoBulkEntries entries + 1
  | .held _ => 1
def uptoBulkAll {H : Type} : List (DataW H) → Nat
  | [] => 0
  | d :: r => uptoBulk d + uptoBulkAll r
def uptoBulkEntries {H : Type} : List (Lit × DataW H) → Nat
  | [] => 0
  | x :: r => uptoBulkEntry x + uptoBulkEntries r
def uptoBulkEntry {H : Type} : Lit × DataW H → Nat
  | (.string bytes, d) => bytes.length + uptoBulk d + 1
  | (_, d) => uptoBulk d + 1
 end
def uptoSmall : (H : Type) → List (DataW H) → Bool := fun _ ds => decide (uptoBulkAll ds ≤ 1048576)
def OpenSpec.upto (s : _root_.Go.ChangeSpec) : _root_.Go.OpenSpec := { _root_.Go.OpenSpec.ofChange s with cond := some uptoSmall }

/-- 'radiolinklaw10.DecompressorNews', WHERE WHAT IT READS IS OF BULK AT MOST 1048576: true; the input reads as it did. -/
def decompressorNewsUptoRow : OpenClaim := { program := "ytkfpgdckdmlhkaagreatdoor", sum := "3864af602d0270ef7c72611216b2faa0c9f0301272f117cdf0fb2f876fe9478a", func := "radiolink/radiolinklaw10.DecompressorNews", spec := "decompressorNews", unfollowed := true, recurses := true, named := ["radiolink/check.polynomials"], apart := false, laid := [("radiolink/check.polynomials", laid_radiolink_check_polynomials)], narrowed := true }
def DecompressorNewsUptoSaid : Prop := decompressorNewsUptoRow.holds Tryz.pinned (OpenSpec.upto decompressorNewsSpec)

/-- 'radiolinklaw10.DecompressorExact', WHERE WHAT IT READS IS OF BULK AT MOST 1048576: true; the input reads as it did. -/
def decompressorExactUptoRow : OpenClaim := { program := "ytkfpgdckdmlhkaagreatdoor", sum := "3864af602d0270ef7c72611216b2faa0c9f0301272f117cdf0fb2f876fe9478a", func := "radiolink/radiolinklaw10.DecompressorExact", spec := "decompressorExact", unfollowed := true, recurses := true, named := ["radiolink/check.polynomials"], apart := false, laid := [("radiolink/check.polynomials", laid_radiolink_check_polynomials)], narrowed := true }
def DecompressorExactUptoSaid : Prop := decompressorExactUptoRow.holds Tryz.pinned (OpenSpec.upto decompressorExactSpec)

/-- 'radiolinklaw10.DecompressorRuns', WHERE WHAT IT READS IS OF BULK AT MOST 1048576: true; the input reads as it did. -/
def decompressorRunsUptoRow : OpenClaim := { program := "ytkfpgdckdmlhkaagreatdoor", sum := "3864af602d0270ef7c72611216b2faa0c9f0301272f117cdf0fb2f876fe9478a", func := "radiolink/radiolinklaw10.DecompressorRuns", spec := "decompressorRuns", unfollowed := true, recurses := true, named := ["radiolink/check.polynomials"], apart := false, laid := [("radiolink/check.polynomials", laid_radiolink_check_polynomials)], narrowed := true }
def DecompressorRunsUptoSaid : Prop := decompressorRunsUptoRow.holds Tryz.pinned (OpenSpec.upto decompressorRunsSpec)

/-- 'radiolinklaw10.DecompressorReturns', WHERE WHAT IT READS IS OF BULK AT MOST 1048576: true; the input reads as it did. -/
def decompressorReturnsUptoRow : OpenClaim := { program := "ytkfpgdckdmlhkaagreatdoor", sum := "3864af602d0270ef7c72611216b2faa0c9f0301272f117cdf0fb2f876fe9478a", func := "radiolink/radiolinklaw10.DecompressorReturns", spec := "decompressorReturns", unfollowed := true, recurses := true, named := ["radiolink/check.polynomials"], apart := false, laid := [("radiolink/check.polynomials", laid_radiolink_check_polynomials)], narrowed := true }
def DecompressorReturnsUptoSaid : Prop := decompressorReturnsUptoRow.holds Tryz.pinned (OpenSpec.upto decompressorReturnsSpec)

/-- 'radiolinklaw10.DecompressorAccepts', WHERE WHAT IT READS IS OF BULK AT MOST 1048576: true; the input reads as it did. -/
def decompressorAcceptsUptoRow : OpenClaim := { program := "ytkfpgdckdmlhkaagreatdoor", sum := "3864af602d0270ef7c72611216b2faa0c9f0301272f117cdf0fb2f876fe9478a", func := "radiolink/radiolinklaw10.DecompressorAccepts", spec := "decompressorAccepts", unfollowed := true, recurses := true, named := ["radiolink/check.polynomials"], apart := false, laid := [("radiolink/check.polynomials", laid_radiolink_check_polynomials)], narrowed := true }
def DecompressorAcceptsUptoSaid : Prop := decompressorAcceptsUptoRow.holds Tryz.pinned (OpenSpec.upto decompressorAcceptsSpec)

end Rows
end Go.Proofs.YtkfpgdckdmlhkaaGreatDoor
