/-
  Contracts of the functions that the laws reach.
-/
import Derived.Test.YtkfpgdckdmlhkaaGreatDoorDq01
import Derived.Test.YtkfpgdckdmlhkaaGreatDoorDq02
import Derived.Test.YtkfpgdckdmlhkaaGreatDoorDq03
import Derived.Test.YtkfpgdckdmlhkaaGreatDoorDq04
import Derived.Test.YtkfpgdckdmlhkaaGreatDoorDq05
import Derived.Test.YtkfpgdckdmlhkaaGreatDoorDq06
import Derived.Test.YtkfpgdckdmlhkaaGreatDoorDq14
import Derived.Test.YtkfpgdckdmlhkaaGreatDoorDq15
import Derived.Test.YtkfpgdckdmlhkaaGreatDoorDq17
import Derived.Test.YtkfpgdckdmlhkaaGreatDoorDq24
import Derived.Test.YtkfpgdckdmlhkaaGreatDoorDq28
set_option linter.all false
namespace Go.Proofs.YtkfpgdckdmlhkaaGreatDoor
open Go.ChangeShapes Go.WideShapes Go.ChangeAt Go.RowKit
section
variable {H : Type} {enc : TypeId × Value → H} {W : World} {base : Nat} {sp : Nat → Bool} {held : Bool} {b0 : Nat} {r : Reach} {v : Value} {d : DataW H} {p : List MemPlace}
theorem intT_rc : IntT enc Tryz.prog W base sp held (71, 19) := .struct Tryz.underlying71 (by kernel_rfl) [(3, 1), (65, 15), (56, 2), (3, 1)] (fun x hx => by
 simp only [List.mem_cons, List.not_mem_nil, or_false] at hx
 rcases hx with rfl | rfl | rfl | rfl
 · exact yp
 · exact intT_hdr
 · exact intT_dyn
 · exact yp) rfl rfl
theorem rc_of_ints : ∀ ns : List Int, ns.length = 19 → ∃ x : Rc, x.cs = ns.map iAV
 | [a0, a1, a2, a3, a4, a5, a6, a7, a8, a9, a10, a11, a12, a13, a14, a15, a16, a17, a18], _ => ⟨⟨a0, ⟨a1, a2, a3, a4, a5, a6, a7, a8, a9, a10, a11, a12, a13, a14, a15⟩, ⟨a16, a17⟩, a18⟩, rfl⟩
set_option maxRecDepth 100000 in
theorem arg_deco (hv : Value.okWide Tryz.prog W r b0 24 v) (h : DataW.Trod enc Tryz.prog W base sp held 24 v d p) : ∃ x : De, Rd (fun _ => none) W x.av v := by
 obtain ⟨cs, rfl, hl, hc⟩ := agg_cells Tryz.underlying24 (ts := [3, 22]) (by kernel_rfl) (by kernel_rfl) hv
 obtain ⟨fuel, hf⟩ := h
 have hf : DataW.trod enc Tryz.prog W base sp held fuel 24 cs = some (d, p) := hf
 match cs, hl with
 | [c0, c1], _ =>
   obtain ⟨n0, y0, h0⟩ := trod_field Tryz.underlying24 hf 0 1 _ rfl (by kernel_rfl) [c0] rfl
   obtain ⟨n1, y1, h1⟩ := trod_field Tryz.underlying24 hf 1 1 _ rfl (by kernel_rfl) [c1] rfl
   obtain ⟨x0, r0⟩ := cell_int Tryz.underlying3 h0
   obtain ⟨l, r1⟩ := rec_row (A := Rc.cs) (by decide) Rc.cs_len Tryz.underlying22 (by kernel_rfl) (fun fuel cs y h => intT_rc.rdl rc_of_ints h) (hc 1 _ _ rfl rfl) h1
   exact ⟨⟨x0, l⟩, RdL.agg0 (.cons0 r0 (.cons0 r1 .nil0))⟩
end
end Go.Proofs.YtkfpgdckdmlhkaaGreatDoor
