/-
  NARROWER THAN 'FOR EVERY INPUT', by the rows' own cells (each row's printed sentence says how): CompressorNews: laid · CompressorTiny: laid.
  DERIVED. THE GIVEN ROWS OF THIS SEAT. 2 by the template 'for every input the law returns true; each argument reads behind the call as it read before'; 0 by the template 'total and deterministic' (their statements: YtbagbjacmakfhaaDoorTotals.lean).
  GIVEN WITH THE SEED: the statements are not yours to turn. If you find one false, say at which input.
  Laid BY PROGRAM, IN A SANDBOX (cutbox-rows.mjs): the forced cells as the released guide's own fill.sh prints them over the translation 86efe816e106aed4… (all of the seat's roots in one cut). By AI agents, Wed Nov 11 2026. No macro, syntax, notation, axiom, sorry.
-/
import Derived.Test.YtbagbjacmakfhaaDoorChecked
import GoSem.Claim
import GoSem.ClaimJoined
import GoSem.ClaimMapViews
import Derived.JoinedTies
import Derived.KernelRfl
namespace Go.Proofs.YtbagbjacmakfhaaDoor
/- THE CELL 'sum', in the pinned program and in every row, IS THE sha256 OF THE DUMP (.gsa) THAT YtbagbjacmakfhaaDoorProg.lean LOADS. Nothing in Lean hashes anything: it is a label: what it is worth is what the hold of that sum in a sandbox is worth. -/
noncomputable def Tryd.pinned : Pinned := { name := "ytbagbjacmakfhaadoor", sum := "86efe816e106aed493ca3078d25d5f530e7facbcd6e5ef91bac3d84f09df5bec", checked := Tryd.checked }
namespace Rows
def none {H : Type} : Left H := { results := [], args := [] }

/- WHAT THE LISTED PACKAGE-LEVEL VARIABLES READ AS WHEN THE CALL BEGINS. Each datum BY PROGRAM (the guide's laid-datum.mjs) off the statement by which the dump's own 'gosem.cut.vars' lays the variable. In a bare row this is a premise. The card (YtbagbjacmakfhaaDoorCards.lean) ties it to the program's text. -/
def laid_radiolink_check_polynomials {H : Type} : DataW H := .map [(.int .i64 3, .lit (.int .i64 3)), (.int .i64 7, .lit (.int .i64 9)), (.int .i64 8, .lit (.int .i64 7)), (.int .i64 16, .lit (.int .i64 4129)), (.int .i64 24, .lit (.int .i64 8801531))]

/-- 'radiolinklaw09.CompressorNews': WHATEVER THE INPUT: true; the input reads as it did. -/
def compressorNewsSpec : ChangeSpec := { name := "compressorNews", fn := fun _ => fun
  | [d1, d2, d3] => { results := [.lit (.bool true)], args := [d1, d2, d3] }
  | _ => none }
def compressorNewsRow : OpenClaim := { program := "ytbagbjacmakfhaadoor", sum := "86efe816e106aed493ca3078d25d5f530e7facbcd6e5ef91bac3d84f09df5bec", func := "radiolink/radiolinklaw09.CompressorNews", spec := "compressorNews", unfollowed := true, recurses := true, named := ["radiolink/check.polynomials"], apart := false, laid := [("radiolink/check.polynomials", laid_radiolink_check_polynomials)] }
def CompressorNewsSaid : Prop := compressorNewsRow.holds Tryd.pinned (OpenSpec.ofChange compressorNewsSpec)

/-- ITS FALSE NEIGHBOUR: 'it returns false'. Refute it at one input. -/
def compressorNewsWrong : ChangeSpec := { name := "compressorNews", fn := fun _ => fun
  | [d1, d2, d3] => { results := [.lit (.bool false)], args := [d1, d2, d3] }
  | _ => none }
def CompressorNewsWrongFalsely : Prop := compressorNewsRow.holds Tryd.pinned (OpenSpec.ofChange compressorNewsWrong)

/-- 'radiolinklaw09.CompressorTiny': WHATEVER THE INPUT: true; the input reads as it did. -/
def compressorTinySpec : ChangeSpec := { name := "compressorTiny", fn := fun _ => fun
  | [d1, d2] => { results := [.lit (.bool true)], args := [d1, d2] }
  | _ => none }
def compressorTinyRow : OpenClaim := { program := "ytbagbjacmakfhaadoor", sum := "86efe816e106aed493ca3078d25d5f530e7facbcd6e5ef91bac3d84f09df5bec", func := "radiolink/radiolinklaw09.CompressorTiny", spec := "compressorTiny", unfollowed := true, recurses := true, named := ["radiolink/check.polynomials"], apart := false, laid := [("radiolink/check.polynomials", laid_radiolink_check_polynomials)] }
def CompressorTinySaid : Prop := compressorTinyRow.holds Tryd.pinned (OpenSpec.ofChange compressorTinySpec)

/-- ITS FALSE NEIGHBOUR: 'it returns false'. Refute it at one input. -/
def compressorTinyWrong : ChangeSpec := { name := "compressorTiny", fn := fun _ => fun
  | [d1, d2] => { results := [.lit (.bool false)], args := [d1, d2] }
  | _ => none }
def CompressorTinyWrongFalsely : Prop := compressorTinyRow.holds Tryd.pinned (OpenSpec.ofChange compressorTinyWrong)

/- THE SECOND FORM. 'bulk': how many values and letters a reading holds, each counted each time it is reached (what is shared counts as often as it is met; a slice's spare places count too). A statement '..UptoSaid' is the law's where the arguments, and the package variables that the reading takes, are together of bulk at most 1048576: NARROWER than '..Said'. Prove '..Said' where nothing that the law and all that it calls make is longer than what came in: it says more and counts as full. Else prove '..UptoSaid'. A law counts once. -/
mutual
def uptoBulk {H : Type} : DataW H → Nat
  | .lit (.string bytes) => bytes.length + 1
  | .lit _ => 1
  | .nil => 1
  | .ptr d => uptoBulk d + 1
  | .slice elems spare => uptoBulkAll elems + uptoBulkAll spare + 1
  | .agg parts => uptoBulkAll parts + 1
  | .iface _ d => uptoBulk d + 1
  | .map entries => uptoBulkEntries entries + 1
  | .held _ => 1
def uptoBulkAll {H : Type} : List (DataW H) → Nat
  | [] => 0
  | d :: r => uptoBulk d + uptoBulkAll r
def uptoBulkEntries {H : Type} : List (Lit × DataW H) → Nat
  | [] => 0
  | x :: r => uptoBulkEntry x + uptoBulkEntries r
def uptoBulkEntry {H : Type} : Lit × DataW H → Nat
  | (.string bytes, d) => bytes.length + uptoBulk d + 1
  | (_, d) => uptoBulk d + 1
 end
def uptoSmall : (H : Type) → List (DataW H) → Bool := fun _ ds => decide (uptoBulkAll ds ≤ 1048576)
def OpenSpec.upto (s : _root_.Go.ChangeSpec) : _root_.Go.OpenSpec := { _root_.Go.OpenSpec.ofChange s with cond := some uptoSmall }

/-- 'radiolinklaw09.CompressorNews', WHERE WHAT IT READS IS OF BULK AT MOST 1048576: true; the input reads as it did. -/
def compressorNewsUptoRow : OpenClaim := { program := "ytbagbjacmakfhaadoor", sum := "86efe816e106aed493ca3078d25d5f530e7facbcd6e5ef91bac3d84f09df5bec", func := "radiolink/radiolinklaw09.CompressorNews", spec := "compressorNews", unfollowed := true, recurses := true, named := ["radiolink/check.polynomials"], apart := false, laid := [("radiolink/check.polynomials", laid_radiolink_check_polynomials)], narrowed := true }
def CompressorNewsUptoSaid : Prop := compressorNewsUptoRow.holds Tryd.pinned (OpenSpec.upto compressorNewsSpec)

/-- 'radiolinklaw09.CompressorTiny', WHERE WHAT IT READS IS OF BULK AT MOST 1048576: true; the input reads as it did. -/
def compressorTinyUptoRow : OpenClaim := { program := "ytbagbjacmakfhaadoor", sum := "86efe816e106aed493ca3078d25d5f530e7facbcd6e5ef91bac3d84f09df5bec", func := "radiolink/radiolinklaw09.CompressorTiny", spec := "compressorTiny", unfollowed := true, recurses := true, named := ["radiolink/check.polynomials"], apart := false, laid := [("radiolink/check.polynomials", laid_radiolink_check_polynomials)], narrowed := true }
def CompressorTinyUptoSaid : Prop := compressorTinyUptoRow.holds Tryd.pinned (OpenSpec.upto compressorTinySpec)

end Rows
end Go.Proofs.YtbagbjacmakfhaaDoor
