/-
  NARROWER THAN 'FOR EVERY INPUT', by the rows' own cells (each row's printed sentence says how): ProtectSeals: laid · ProtectHides: laid · ProtectReturns: laid · ProtectSides: laid · ProtectSidesMade: laid · ProtectOnce: laid.
  DERIVED. THE GIVEN ROWS OF THIS SEAT. 6 by the template 'for every input the law returns true; each argument reads behind the call as it read before'; 0 by the template 'total and deterministic' (their statements: YtdpfcpkedaolfaaDoorTotals.lean).
  GIVEN WITH THE SEED: the statements are not yours to turn. If you find one false, say at which input.
  Laid BY PROGRAM, IN A SANDBOX (cutbox-rows.mjs): the forced cells as the released guide's own fill.sh prints them over the translation d0b84d09d0486c9f… (all of the seat's roots in one cut). By AI agents, Wed Nov 11 2026. No macro, syntax, notation, axiom, sorry.
-/
import Derived.Test.YtdpfcpkedaolfaaDoorChecked
import GoSem.Claim
import GoSem.ClaimJoined
import GoSem.ClaimMapViews
import Derived.JoinedTies
import Derived.KernelRfl
namespace Go.Proofs.YtdpfcpkedaolfaaDoor
/- THE CELL 'sum', in the pinned program and in every row, IS THE sha256 OF THE DUMP (.gsa) THAT YtdpfcpkedaolfaaDoorProg.lean LOADS. Nothing in Lean hashes anything: it is a label: what it is worth is what the hold of that sum in a sandbox is worth. -/
noncomputable def Tryd.pinned : Pinned := { name := "ytdpfcpkedaolfaadoor", sum := "d0b84d09d0486c9f70cadd57e69877468f69b52df95db763e772cef6dfc8a1a3", checked := Tryd.checked }
namespace Rows
def none {H : Type} : Left H := { results := [], args := [] }

/- WHAT THE LISTED PACKAGE-LEVEL VARIABLES READ AS WHEN THE CALL BEGINS. Each datum BY PROGRAM (the guide's laid-datum.mjs) off the statement by which the dump's own 'gosem.cut.vars' lays the variable. In a bare row this is a premise. The card (YtdpfcpkedaolfaaDoorCards.lean) ties it to the program's text. -/
def laid_radiolink_stream_lanes {H : Type} : DataW H := .agg [.agg [.lit (.int .i64 0), .lit (.int .i64 4), .lit (.int .i64 8), .lit (.int .i64 12)], .agg [.lit (.int .i64 1), .lit (.int .i64 5), .lit (.int .i64 9), .lit (.int .i64 13)], .agg [.lit (.int .i64 2), .lit (.int .i64 6), .lit (.int .i64 10), .lit (.int .i64 14)], .agg [.lit (.int .i64 3), .lit (.int .i64 7), .lit (.int .i64 11), .lit (.int .i64 15)], .agg [.lit (.int .i64 0), .lit (.int .i64 5), .lit (.int .i64 10), .lit (.int .i64 15)], .agg [.lit (.int .i64 1), .lit (.int .i64 6), .lit (.int .i64 11), .lit (.int .i64 12)], .agg [.lit (.int .i64 2), .lit (.int .i64 7), .lit (.int .i64 8), .lit (.int .i64 13)], .agg [.lit (.int .i64 3), .lit (.int .i64 4), .lit (.int .i64 9), .lit (.int .i64 14)]]

/-- 'radiolinklaw16.ProtectSeals': WHATEVER THE INPUT: true; the input reads as it did. -/
def protectSealsSpec : ChangeSpec := { name := "protectSeals", fn := fun _ => fun
  | [d1, d2, d3] => { results := [.lit (.bool true)], args := [d1, d2, d3] }
  | _ => none }
def protectSealsRow : OpenClaim := { program := "ytdpfcpkedaolfaadoor", sum := "d0b84d09d0486c9f70cadd57e69877468f69b52df95db763e772cef6dfc8a1a3", func := "radiolink/radiolinklaw16.ProtectSeals", spec := "protectSeals", named := ["radiolink/stream.lanes"], apart := false, laid := [("radiolink/stream.lanes", laid_radiolink_stream_lanes)] }
def ProtectSealsSaid : Prop := protectSealsRow.holds Tryd.pinned (OpenSpec.ofChange protectSealsSpec)

/-- ITS FALSE NEIGHBOUR: 'it returns false'. Refute it at one input. -/
def protectSealsWrong : ChangeSpec := { name := "protectSeals", fn := fun _ => fun
  | [d1, d2, d3] => { results := [.lit (.bool false)], args := [d1, d2, d3] }
  | _ => none }
def ProtectSealsWrongFalsely : Prop := protectSealsRow.holds Tryd.pinned (OpenSpec.ofChange protectSealsWrong)

/-- 'radiolinklaw16.ProtectHides': WHATEVER THE INPUT: true; the input reads as it did. -/
def protectHidesSpec : ChangeSpec := { name := "protectHides", fn := fun _ => fun
  | [d1, d2] => { results := [.lit (.bool true)], args := [d1, d2] }
  | _ => none }
def protectHidesRow : OpenClaim := { program := "ytdpfcpkedaolfaadoor", sum := "d0b84d09d0486c9f70cadd57e69877468f69b52df95db763e772cef6dfc8a1a3", func := "radiolink/radiolinklaw16.ProtectHides", spec := "protectHides", named := ["radiolink/stream.lanes"], apart := false, laid := [("radiolink/stream.lanes", laid_radiolink_stream_lanes)] }
def ProtectHidesSaid : Prop := protectHidesRow.holds Tryd.pinned (OpenSpec.ofChange protectHidesSpec)

/-- ITS FALSE NEIGHBOUR: 'it returns false'. Refute it at one input. -/
def protectHidesWrong : ChangeSpec := { name := "protectHides", fn := fun _ => fun
  | [d1, d2] => { results := [.lit (.bool false)], args := [d1, d2] }
  | _ => none }
def ProtectHidesWrongFalsely : Prop := protectHidesRow.holds Tryd.pinned (OpenSpec.ofChange protectHidesWrong)

/-- 'radiolinklaw16.ProtectReturns': WHATEVER THE INPUT: true; the input reads as it did. -/
def protectReturnsSpec : ChangeSpec := { name := "protectReturns", fn := fun _ => fun
  | [d1, d2] => { results := [.lit (.bool true)], args := [d1, d2] }
  | _ => none }
def protectReturnsRow : OpenClaim := { program := "ytdpfcpkedaolfaadoor", sum := "d0b84d09d0486c9f70cadd57e69877468f69b52df95db763e772cef6dfc8a1a3", func := "radiolink/radiolinklaw16.ProtectReturns", spec := "protectReturns", named := ["radiolink/stream.lanes"], apart := false, laid := [("radiolink/stream.lanes", laid_radiolink_stream_lanes)] }
def ProtectReturnsSaid : Prop := protectReturnsRow.holds Tryd.pinned (OpenSpec.ofChange protectReturnsSpec)

/-- ITS FALSE NEIGHBOUR: 'it returns false'. Refute it at one input. -/
def protectReturnsWrong : ChangeSpec := { name := "protectReturns", fn := fun _ => fun
  | [d1, d2] => { results := [.lit (.bool false)], args := [d1, d2] }
  | _ => none }
def ProtectReturnsWrongFalsely : Prop := protectReturnsRow.holds Tryd.pinned (OpenSpec.ofChange protectReturnsWrong)

/-- 'radiolinklaw16.ProtectSides': WHATEVER THE INPUT: true; the input reads as it did. -/
def protectSidesSpec : ChangeSpec := { name := "protectSides", fn := fun _ => fun
  | [d1, d2, d3] => { results := [.lit (.bool true)], args := [d1, d2, d3] }
  | _ => none }
def protectSidesRow : OpenClaim := { program := "ytdpfcpkedaolfaadoor", sum := "d0b84d09d0486c9f70cadd57e69877468f69b52df95db763e772cef6dfc8a1a3", func := "radiolink/radiolinklaw16.ProtectSides", spec := "protectSides", named := ["radiolink/stream.lanes"], apart := false, laid := [("radiolink/stream.lanes", laid_radiolink_stream_lanes)] }
def ProtectSidesSaid : Prop := protectSidesRow.holds Tryd.pinned (OpenSpec.ofChange protectSidesSpec)

/-- ITS FALSE NEIGHBOUR: 'it returns false'. Refute it at one input. -/
def protectSidesWrong : ChangeSpec := { name := "protectSides", fn := fun _ => fun
  | [d1, d2, d3] => { results := [.lit (.bool false)], args := [d1, d2, d3] }
  | _ => none }
def ProtectSidesWrongFalsely : Prop := protectSidesRow.holds Tryd.pinned (OpenSpec.ofChange protectSidesWrong)

/-- 'radiolinklaw16.ProtectSidesMade': WHATEVER THE INPUT: true; the input reads as it did. -/
def protectSidesMadeSpec : ChangeSpec := { name := "protectSidesMade", fn := fun _ => fun
  | [d] => { results := [.lit (.bool true)], args := [d] }
  | _ => none }
def protectSidesMadeRow : OpenClaim := { program := "ytdpfcpkedaolfaadoor", sum := "d0b84d09d0486c9f70cadd57e69877468f69b52df95db763e772cef6dfc8a1a3", func := "radiolink/radiolinklaw16.ProtectSidesMade", spec := "protectSidesMade", named := ["radiolink/stream.lanes"], apart := false, laid := [("radiolink/stream.lanes", laid_radiolink_stream_lanes)] }
def ProtectSidesMadeSaid : Prop := protectSidesMadeRow.holds Tryd.pinned (OpenSpec.ofChange protectSidesMadeSpec)

/-- ITS FALSE NEIGHBOUR: 'it returns false'. Refute it at one input. -/
def protectSidesMadeWrong : ChangeSpec := { name := "protectSidesMade", fn := fun _ => fun
  | [d] => { results := [.lit (.bool false)], args := [d] }
  | _ => none }
def ProtectSidesMadeWrongFalsely : Prop := protectSidesMadeRow.holds Tryd.pinned (OpenSpec.ofChange protectSidesMadeWrong)

/-- 'radiolinklaw16.ProtectOnce': WHATEVER THE INPUT: true; the input reads as it did. -/
def protectOnceSpec : ChangeSpec := { name := "protectOnce", fn := fun _ => fun
  | [d] => { results := [.lit (.bool true)], args := [d] }
  | _ => none }
def protectOnceRow : OpenClaim := { program := "ytdpfcpkedaolfaadoor", sum := "d0b84d09d0486c9f70cadd57e69877468f69b52df95db763e772cef6dfc8a1a3", func := "radiolink/radiolinklaw16.ProtectOnce", spec := "protectOnce", named := ["radiolink/stream.lanes"], apart := false, laid := [("radiolink/stream.lanes", laid_radiolink_stream_lanes)] }
def ProtectOnceSaid : Prop := protectOnceRow.holds Tryd.pinned (OpenSpec.ofChange protectOnceSpec)

/-- ITS FALSE NEIGHBOUR: 'it returns false'. Refute it at one input. -/
def protectOnceWrong : ChangeSpec := { name := "protectOnce", fn := fun _ => fun
  | [d] => { results := [.lit (.bool false)], args := [d] }
  | _ => none }
def ProtectOnceWrongFalsely : Prop := protectOnceRow.holds Tryd.pinned (OpenSpec.ofChange protectOnceWrong)

/- THE SECOND FORM. 'bulk': how many values and letters a reading holds, each counted each time it is reached (what is shared counts as often as it is met; a slice's spare places count too). A statement '..UptoSaid' is the law's where the arguments, and the package variables that the reading takes, are together of bulk at most 1048576: NARROWER than '..Said'. Prove '..Said' where nothing that the law and all that it calls make is longer than what came in: it says more and counts as full. Else prove '..UptoSaid'. A law counts once. -/
mutual
def uptoBulk {H : Type} : DataW H → Nat
  | .lit (.string bytes) => bytes.length + 1
  | .lit _ => 1
  | .nil => 1
  | .ptr d => uptoBulk d + 1
  | .slice elems spare => uptoBulkAll elems + uptoBulkAll spare + 1
  | .agg parts => uptoBulkAll parts + 1
  | .iface _ d => uptoBulk d + 1
  | .map entries => uptoBulkEntries entries + 1
  | .held _ => 1
def uptoBulkAll {H : Type} : List (DataW H) → Nat
  | [] => 0
  | d :: r => uptoBulk d + uptoBulkAll r
def uptoBulkEntries {H : Type} : List (Lit × DataW H) → Nat
  | [] => 0
  | x :: r => uptoBulkEntry x + uptoBulkEntries r
def uptoBulkEntry {H : Type} : Lit × DataW H → Nat
  | (.string bytes, d) => bytes.length + uptoBulk d + 1
  | (_, d) => uptoBulk d + 1
 end
def uptoSmall : (H : Type) → List (DataW H) → Bool := fun _ ds => decide (uptoBulkAll ds ≤ 1048576)
def OpenSpec.upto (s : _root_.Go.ChangeSpec) : _root_.Go.OpenSpec := { _root_.Go.OpenSpec.ofChange s with cond := some uptoSmall }

/-- 'radiolinklaw16.ProtectSeals', WHERE WHAT IT READS IS OF BULK AT MOST 1048576: true; the input reads as it did. -/
def protectSealsUptoRow : OpenClaim := { program := "ytdpfcpkedaolfaadoor", sum := "d0b84d09d0486c9f70cadd57e69877468f69b52df95db763e772cef6dfc8a1a3", func := "radiolink/radiolinklaw16.ProtectSeals", spec := "protectSeals", named := ["radiolink/stream.lanes"], apart := false, laid := [("radiolink/stream.lanes", laid_radiolink_stream_lanes)], narrowed := true }
def ProtectSealsUptoSaid : Prop := protectSealsUptoRow.holds Tryd.pinned (OpenSpec.upto protectSealsSpec)

/-- 'radiolinklaw16.ProtectHides', WHERE WHAT IT READS IS OF BULK AT MOST 1048576: true; the input reads as it did. -/
def protectHidesUptoRow : OpenClaim := { program := "ytdpfcpkedaolfaadoor", sum := "d0b84d09d0486c9f70cadd57e69877468f69b52df95db763e772cef6dfc8a1a3", func := "radiolink/radiolinklaw16.ProtectHides", spec := "protectHides", named := ["radiolink/stream.lanes"], apart := false, laid := [("radiolink/stream.lanes", laid_radiolink_stream_lanes)], narrowed := true }
def ProtectHidesUptoSaid : Prop := protectHidesUptoRow.holds Tryd.pinned (OpenSpec.upto protectHidesSpec)

/-- 'radiolinklaw16.ProtectReturns', WHERE WHAT IT READS IS OF BULK AT MOST 1048576: true; the input reads as it did. -/
def protectReturnsUptoRow : OpenClaim := { program := "ytdpfcpkedaolfaadoor", sum := "d0b84d09d0486c9f70cadd57e69877468f69b52df95db763e772cef6dfc8a1a3", func := "radiolink/radiolinklaw16.ProtectReturns", spec := "protectReturns", named := ["radiolink/stream.lanes"], apart := false, laid := [("radiolink/stream.lanes", laid_radiolink_stream_lanes)], narrowed := true }
def ProtectReturnsUptoSaid : Prop := protectReturnsUptoRow.holds Tryd.pinned (OpenSpec.upto protectReturnsSpec)

/-- 'radiolinklaw16.ProtectSides', WHERE WHAT IT READS IS OF BULK AT MOST 1048576: true; the input reads as it did. -/
def protectSidesUptoRow : OpenClaim := { program := "ytdpfcpkedaolfaadoor", sum := "d0b84d09d0486c9f70cadd57e69877468f69b52df95db763e772cef6dfc8a1a3", func := "radiolink/radiolinklaw16.ProtectSides", spec := "protectSides", named := ["radiolink/stream.lanes"], apart := false, laid := [("radiolink/stream.lanes", laid_radiolink_stream_lanes)], narrowed := true }
def ProtectSidesUptoSaid : Prop := protectSidesUptoRow.holds Tryd.pinned (OpenSpec.upto protectSidesSpec)

/-- 'radiolinklaw16.ProtectSidesMade', WHERE WHAT IT READS IS OF BULK AT MOST 1048576: true; the input reads as it did. -/
def protectSidesMadeUptoRow : OpenClaim := { program := "ytdpfcpkedaolfaadoor", sum := "d0b84d09d0486c9f70cadd57e69877468f69b52df95db763e772cef6dfc8a1a3", func := "radiolink/radiolinklaw16.ProtectSidesMade", spec := "protectSidesMade", named := ["radiolink/stream.lanes"], apart := false, laid := [("radiolink/stream.lanes", laid_radiolink_stream_lanes)], narrowed := true }
def ProtectSidesMadeUptoSaid : Prop := protectSidesMadeUptoRow.holds Tryd.pinned (OpenSpec.upto protectSidesMadeSpec)

/-- 'radiolinklaw16.ProtectOnce', WHERE WHAT IT READS IS OF BULK AT MOST 1048576: true; the input reads as it did. -/
def protectOnceUptoRow : OpenClaim := { program := "ytdpfcpkedaolfaadoor", sum := "d0b84d09d0486c9f70cadd57e69877468f69b52df95db763e772cef6dfc8a1a3", func := "radiolink/radiolinklaw16.ProtectOnce", spec := "protectOnce", named := ["radiolink/stream.lanes"], apart := false, laid := [("radiolink/stream.lanes", laid_radiolink_stream_lanes)], narrowed := true }
def ProtectOnceUptoSaid : Prop := protectOnceUptoRow.holds Tryd.pinned (OpenSpec.upto protectOnceSpec)

end Rows
end Go.Proofs.YtdpfcpkedaolfaaDoor
