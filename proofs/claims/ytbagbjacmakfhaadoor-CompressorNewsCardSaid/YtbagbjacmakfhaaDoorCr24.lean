/-
  Contracts of the functions that the laws reach.
-/
import Derived.Test.YtbagbjacmakfhaaDoorCr01
import Derived.Test.YtbagbjacmakfhaaDoorCr02
import Derived.Test.YtbagbjacmakfhaaDoorCr03
import Derived.Test.YtbagbjacmakfhaaDoorCr04
import Derived.Test.YtbagbjacmakfhaaDoorCr05
import Derived.Test.YtbagbjacmakfhaaDoorCr06
import Derived.Test.YtbagbjacmakfhaaDoorCr09
import Derived.Test.YtbagbjacmakfhaaDoorCr11
import Derived.Test.YtbagbjacmakfhaaDoorCr12
import Derived.Test.YtbagbjacmakfhaaDoorCr17
import Derived.Test.YtbagbjacmakfhaaDoorCr23
set_option linter.all false
namespace Go.Proofs.YtbagbjacmakfhaaDoor
open Go.ChangeShapes Go.WideShapes Go.ChangeAt Go.RowKit
section
variable {H : Type} {enc : TypeId × Value → H} {W : World} {base : Nat} {sp : Nat → Bool} {held : Bool} {b0 : Nat} {r : Reach} {v : Value} {d : DataW H} {p : List MemPlace}
theorem hd_of_ints : ∀ ns : List Int, ns.length = 15 → ∃ x : Hd, x.cs = ns.map iAV
 | [a1, a2, a3, a4, a5, a6, a7, a8, a9, a10, a11, a12, a13, a14, a15], _ => ⟨⟨a1, a2, a3, a4, a5, a6, a7, a8, a9, a10, a11, a12, a13, a14, a15⟩, rfl⟩
theorem cell_bool {P : Program} {u : TypeId} (hu : P.underlying u = some .bool) {c : Value} {fuel : Nat} {y : DataW H × List MemPlace} (h : DataW.trod enc P W base sp held fuel u [c] = some y) : ∃ b : Bool, Rd (fun _ => none) W (.bool b) c := by
 obtain ⟨b, h1, -⟩ := DataW.trod_bool hu h
 obtain rfl := (List.cons.inj h1).1
 exact ⟨b, .bool _⟩
set_option maxRecDepth 100000 in
theorem send_rd (fuel : Nat) (cs : List Value) (y : DataW H × List MemPlace) (hf : DataW.trod enc Tryd.prog W base sp held fuel 55 cs = some y) : ∃ x : Sn, RdL (fun _ => none) W x.cs cs.toArray := by
 obtain ⟨xs, m, -, -, hl, -, -⟩ := DataW.trod_struct Tryd.underlying55 hf
 have hl : cs.length = 9 := hl.trans (by kernel_rfl)
 match cs, hl with
 | [c0, c1, c2, c3, c4, c5, c6, c7, c8], _ =>
   obtain ⟨n0, y0, h0⟩ := qP Tryd.underlying55 hf 0 1 _ rfl (by kernel_rfl) [c0] rfl
   obtain ⟨n1, y1, h1⟩ := qP Tryd.underlying55 hf 1 1 _ rfl (by kernel_rfl) [c1] rfl
   obtain ⟨n2, y2, h2⟩ := qP Tryd.underlying55 hf 2 1 _ rfl (by kernel_rfl) [c2] rfl
   obtain ⟨n3, y3, h3⟩ := qP Tryd.underlying55 hf 3 1 _ rfl (by kernel_rfl) [c3] rfl
   obtain ⟨n4, y4, h4⟩ := qP Tryd.underlying55 hf 4 1 _ rfl (by kernel_rfl) [c4] rfl
   obtain ⟨n5, y5, h5⟩ := qP Tryd.underlying55 hf 5 1 _ rfl (by kernel_rfl) [c5] rfl
   obtain ⟨n6, y6, h6⟩ := qP Tryd.underlying55 hf 6 2 _ rfl (by kernel_rfl) [c6, c7] rfl
   obtain ⟨n8, y8, h8⟩ := qP Tryd.underlying55 hf 7 1 _ rfl (by kernel_rfl) [c8] rfl
   obtain ⟨x0, r0⟩ := cell_bool Tryd.underlying4 h0
   obtain ⟨x1, r1⟩ := xh Tryd.underlying3 h1
   obtain ⟨x2, r2⟩ := xh Tryd.underlying3 h2
   obtain ⟨x3, r3⟩ := xh Tryd.underlying3 h3
   obtain ⟨x4, r4⟩ := xh Tryd.underlying3 h4
   obtain ⟨x5, r5⟩ := xh Tryd.underlying3 h5
   obtain ⟨ns, k1, k2⟩ := intT_dyn.2 _ _ _ h6
   obtain ⟨l, r8⟩ := vV (A := Hd.cs) (by decide) Hd.cs_len Tryd.underlying53 (by kernel_rfl) (fun fuel cs y h => intT_hdr.rdl hd_of_ints h) h8
   match ns, k1 with
   | [z1, z2], _ =>
     have e6 : c6 = .int .i64 z1 := congrArg (fun l : List Value => l.getD 0 undef) k2
     have e7 : c7 = .int .i64 z2 := congrArg (fun l : List Value => l.getD 1 undef) k2
     subst e6 e7
     exact ⟨⟨x0, x1, x2, x3, x4, x5, ⟨z1, z2⟩, l⟩, .cons0 r0 (.cons0 r1 (.cons0 r2 (.cons0 r3 (.cons0 r4 (.cons0 r5 (.cons0 (.int _ _) (.cons0 (.int _ _) (.cons0 r8 .nil0))))))))⟩
set_option maxRecDepth 100000 in
theorem arg_comp (hv : Value.okWide Tryd.prog W r b0 24 v) (h : DataW.Trod enc Tryd.prog W base sp held 24 v d p) : ∃ x : Co, Rd (fun _ => none) W x.av v := by
 obtain ⟨cs, rfl, hl, hc⟩ := agg_cells Tryd.underlying24 (ts := [3, 3, 22]) (by kernel_rfl) (by kernel_rfl) hv
 obtain ⟨fuel, hf⟩ := h
 have hf : DataW.trod enc Tryd.prog W base sp held fuel 24 cs = some (d, p) := hf
 match cs, hl with
 | [c0, c1, c2], _ =>
   obtain ⟨n0, y0, h0⟩ := qP Tryd.underlying24 hf 0 1 _ rfl (by kernel_rfl) [c0] rfl
   obtain ⟨n1, y1, h1⟩ := qP Tryd.underlying24 hf 1 1 _ rfl (by kernel_rfl) [c1] rfl
   obtain ⟨n2, y2, h2⟩ := qP Tryd.underlying24 hf 2 1 _ rfl (by kernel_rfl) [c2] rfl
   obtain ⟨x0, r0⟩ := xh Tryd.underlying3 h0
   obtain ⟨x1, r1⟩ := xh Tryd.underlying3 h1
   obtain ⟨l, r2⟩ := vV (A := Sn.cs) (by decide) Sn.cs_len Tryd.underlying22 (by kernel_rfl) send_rd h2
   exact ⟨⟨x0, x1, l⟩, RdL.agg0 (.cons0 r0 (.cons0 r1 (.cons0 r2 .nil0)))⟩
end
end Go.Proofs.YtbagbjacmakfhaaDoor
