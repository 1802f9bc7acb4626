/-
  NARROWER THAN 'FOR EVERY INPUT', by the rows' own cells (each row's printed sentence says how): DeliverRekeys: laid · DeliverExact: laid · DeliverMade: laid.
  DERIVED. THE GIVEN ROWS OF THIS SEAT. 3 by the template 'for every input the law returns true; each argument reads behind the call as it read before'; 0 by the template 'total and deterministic' (their statements: YtnmifddidgofaaaGreatDoorTotals.lean).
  GIVEN WITH THE SEED: the statements are not yours to turn. If you find one false, say at which input.
  Laid BY PROGRAM, IN A SANDBOX (cutbox-rows.mjs): the forced cells as the released guide's own fill.sh prints them over the translation 0d46beead7e3c643… (all of the seat's roots in one cut). By AI agents, Wed Nov 11 2026. No macro, syntax, notation, axiom, sorry.
-/
import Derived.Test.YtnmifddidgofaaaGreatDoorChecked
import GoSem.Claim
import GoSem.ClaimJoined
import GoSem.ClaimMapViews
import Derived.JoinedTies
import Derived.KernelRfl
namespace Go.Proofs.YtnmifddidgofaaaGreatDoor
/- THE CELL 'sum', in the pinned program and in every row, IS THE sha256 OF THE DUMP (.gsa) THAT YtnmifddidgofaaaGreatDoorProg.lean LOADS. Nothing in Lean hashes anything: it is a label: what it is worth is what the hold of that sum in a sandbox is worth. -/
noncomputable def Tryz.pinned : Pinned := { name := "ytnmifddidgofaaagreatdoor", sum := "0d46beead7e3c6438409d92b1f9cc192d3e2bb7e8b800e77e577f26dba7feefe", checked := Tryz.checked }
namespace Rows
def none {H : Type} : Left H := { results := [], args := [] }

/- WHAT THE LISTED PACKAGE-LEVEL VARIABLES READ AS WHEN THE CALL BEGINS. Each datum BY PROGRAM (the guide's laid-datum.mjs) off the statement by which the dump's own 'gosem.cut.vars' lays the variable. In a bare row this is a premise. The card (YtnmifddidgofaaaGreatDoorCards.lean) ties it to the program's text. -/
def laid_radiolink_stream_lanes {H : Type} : DataW H := .agg [.agg [.lit (.int .i64 0), .lit (.int .i64 4), .lit (.int .i64 8), .lit (.int .i64 12)], .agg [.lit (.int .i64 1), .lit (.int .i64 5), .lit (.int .i64 9), .lit (.int .i64 13)], .agg [.lit (.int .i64 2), .lit (.int .i64 6), .lit (.int .i64 10), .lit (.int .i64 14)], .agg [.lit (.int .i64 3), .lit (.int .i64 7), .lit (.int .i64 11), .lit (.int .i64 15)], .agg [.lit (.int .i64 0), .lit (.int .i64 5), .lit (.int .i64 10), .lit (.int .i64 15)], .agg [.lit (.int .i64 1), .lit (.int .i64 6), .lit (.int .i64 11), .lit (.int .i64 12)], .agg [.lit (.int .i64 2), .lit (.int .i64 7), .lit (.int .i64 8), .lit (.int .i64 13)], .agg [.lit (.int .i64 3), .lit (.int .i64 4), .lit (.int .i64 9), .lit (.int .i64 14)]]

/-- 'radiolinklaw17.DeliverRekeys': WHATEVER THE INPUT: true; the input reads as it did. -/
def deliverRekeysSpec : ChangeSpec := { name := "deliverRekeys", fn := fun _ => fun
  | [d] => { results := [.lit (.bool true)], args := [d] }
  | _ => none }
def deliverRekeysRow : OpenClaim := { program := "ytnmifddidgofaaagreatdoor", sum := "0d46beead7e3c6438409d92b1f9cc192d3e2bb7e8b800e77e577f26dba7feefe", func := "radiolink/radiolinklaw17.DeliverRekeys", spec := "deliverRekeys", inPlace := ["slices.overlaps[radiolink/api.Held]"], unfollowed := true, recurses := true, named := ["radiolink/stream.lanes"], apart := false, laid := [("radiolink/stream.lanes", laid_radiolink_stream_lanes)] }
def DeliverRekeysSaid : Prop := deliverRekeysRow.holds Tryz.pinned (OpenSpec.ofChange deliverRekeysSpec)

/-- ITS FALSE NEIGHBOUR: 'it returns false'. Refute it at one input. -/
def deliverRekeysWrong : ChangeSpec := { name := "deliverRekeys", fn := fun _ => fun
  | [d] => { results := [.lit (.bool false)], args := [d] }
  | _ => none }
def DeliverRekeysWrongFalsely : Prop := deliverRekeysRow.holds Tryz.pinned (OpenSpec.ofChange deliverRekeysWrong)

/-- 'radiolinklaw17.DeliverExact': WHATEVER THE INPUT: true; the input reads as it did. -/
def deliverExactSpec : ChangeSpec := { name := "deliverExact", fn := fun _ => fun
  | [d1, d2, d3] => { results := [.lit (.bool true)], args := [d1, d2, d3] }
  | _ => none }
def deliverExactRow : OpenClaim := { program := "ytnmifddidgofaaagreatdoor", sum := "0d46beead7e3c6438409d92b1f9cc192d3e2bb7e8b800e77e577f26dba7feefe", func := "radiolink/radiolinklaw17.DeliverExact", spec := "deliverExact", inPlace := ["slices.overlaps[radiolink/api.Held]"], unfollowed := true, recurses := true, named := ["radiolink/stream.lanes"], apart := false, laid := [("radiolink/stream.lanes", laid_radiolink_stream_lanes)] }
def DeliverExactSaid : Prop := deliverExactRow.holds Tryz.pinned (OpenSpec.ofChange deliverExactSpec)

/-- ITS FALSE NEIGHBOUR: 'it returns false'. Refute it at one input. -/
def deliverExactWrong : ChangeSpec := { name := "deliverExact", fn := fun _ => fun
  | [d1, d2, d3] => { results := [.lit (.bool false)], args := [d1, d2, d3] }
  | _ => none }
def DeliverExactWrongFalsely : Prop := deliverExactRow.holds Tryz.pinned (OpenSpec.ofChange deliverExactWrong)

/-- 'radiolinklaw17.DeliverMade': WHATEVER THE INPUT: true; the input reads as it did. -/
def deliverMadeSpec : ChangeSpec := { name := "deliverMade", fn := fun _ => fun
  | [d] => { results := [.lit (.bool true)], args := [d] }
  | _ => none }
def deliverMadeRow : OpenClaim := { program := "ytnmifddidgofaaagreatdoor", sum := "0d46beead7e3c6438409d92b1f9cc192d3e2bb7e8b800e77e577f26dba7feefe", func := "radiolink/radiolinklaw17.DeliverMade", spec := "deliverMade", inPlace := ["slices.overlaps[radiolink/api.Held]"], unfollowed := true, recurses := true, named := ["radiolink/stream.lanes"], apart := false, laid := [("radiolink/stream.lanes", laid_radiolink_stream_lanes)] }
def DeliverMadeSaid : Prop := deliverMadeRow.holds Tryz.pinned (OpenSpec.ofChange deliverMadeSpec)

/-- ITS FALSE NEIGHBOUR: 'it returns false'. Refute it at one input. -/
def deliverMadeWrong : ChangeSpec := { name := "deliverMade", fn := fun _ => fun
  | [d] => { results := [.lit (.bool false)], args := [d] }
  | _ => none }
def DeliverMadeWrongFalsely : Prop := deliverMadeRow.holds Tryz.pinned (OpenSpec.ofChange deliverMadeWrong)

/- THE SECOND FORM. 'bulk': how many values and letters a reading holds, each counted each time it is reached (what is shared counts as often as it is met; a slice's spare places count too). A statement '..UptoSaid' is the law's where the arguments, and the package variables that the reading takes, are together of bulk at most 1048576: NARROWER than '..Said'. Prove '..Said' where nothing that the law and all that it calls make is longer than what came in: it says more and counts as full. Else prove '..UptoSaid'. A law counts once. -/
mutual
def uptoBulk {H : Type} : DataW H → Nat
  | .lit (.string bytes) => bytes.length + 1
  | .lit _ => 1
  | .nil => 1
  | .ptr d => uptoBulk d + 1
  | .slice elems spare => uptoBulkAll elems + uptoBulkAll spare + 1
  | .agg parts => uptoBulkAll parts + 1
  | .iface _ d => uptoBulk d + 1
  | .map entries => uptoBulkEntries entries + 1
  | .held _ => 1
def uptoBulkAll {H : Type} : List (DataW H) → Nat
  | [] => 0
  | d :: r => uptoBulk d + uptoBulkAll r
def uptoBulkEntries {H : Type} : List (Lit × DataW H) → Nat
  | [] => 0
  | x :: r => uptoBulkEntry x + uptoBulkEntries r
def uptoBulkEntry {H : Type} : Lit × DataW H → Nat
  | (.string bytes, d) => bytes.length + uptoBulk d + 1
  | (_, d) => uptoBulk d + 1
 end
def uptoSmall : (H : Type) → List (DataW H) → Bool := fun _ ds => decide (uptoBulkAll ds ≤ 1048576)
def OpenSpec.upto (s : _root_.Go.ChangeSpec) : _root_.Go.OpenSpec := { _root_.Go.OpenSpec.ofChange s with cond := some uptoSmall }

/-- 'radiolinklaw17.DeliverRekeys', WHERE WHAT IT READS IS OF BULK AT MOST 1048576: true; the input reads as it did. -/
def deliverRekeysUptoRow : OpenClaim := { program := "ytnmifddidgofaaagreatdoor", sum := "0d46beead7e3c6438409d92b1f9cc192d3e2bb7e8b800e77e577f26dba7feefe", func := "radiolink/radiolinklaw17.DeliverRekeys", spec := "deliverRekeys", inPlace := ["slices.overlaps[radiolink/api.Held]"], unfollowed := true, recurses := true, named := ["radiolink/stream.lanes"], apart := false, laid := [("radiolink/stream.lanes", laid_radiolink_stream_lanes)], narrowed := true }
def DeliverRekeysUptoSaid : Prop := deliverRekeysUptoRow.holds Tryz.pinned (OpenSpec.upto deliverRekeysSpec)

/-- 'radiolinklaw17.DeliverExact', WHERE WHAT IT READS IS OF BULK AT MOST 1048576: true; the input reads as it did. -/
def deliverExactUptoRow : OpenClaim := { program := "ytnmifddidgofaaagreatdoor", sum := "0d46beead7e3c6438409d92b1f9cc192d3e2bb7e8b800e77e577f26dba7feefe", func := "radiolink/radiolinklaw17.DeliverExact", spec := "deliverExact", inPlace := ["slices.overlaps[radiolink/api.Held]"], unfollowed := true, recurses := true, named := ["radiolink/stream.lanes"], apart := false, laid := [("radiolink/stream.lanes", laid_radiolink_stream_lanes)], narrowed := true }
def DeliverExactUptoSaid : Prop := deliverExactUptoRow.holds Tryz.pinned (OpenSpec.upto deliverExactSpec)

/-- 'radiolinklaw17.DeliverMade', WHERE WHAT IT READS IS OF BULK AT MOST 1048576: true; the input reads as it did. -/
def deliverMadeUptoRow : OpenClaim := { program := "ytnmifddidgofaaagreatdoor", sum := "0d46beead7e3c6438409d92b1f9cc192d3e2bb7e8b800e77e577f26dba7feefe", func := "radiolink/radiolinklaw17.DeliverMade", spec := "deliverMade", inPlace := ["slices.overlaps[radiolink/api.Held]"], unfollowed := true, recurses := true, named := ["radiolink/stream.lanes"], apart := false, laid := [("radiolink/stream.lanes", laid_radiolink_stream_lanes)], narrowed := true }
def DeliverMadeUptoSaid : Prop := deliverMadeUptoRow.holds Tryz.pinned (OpenSpec.upto deliverMadeSpec)

end Rows
end Go.Proofs.YtnmifddidgofaaaGreatDoor
