/-
  Contracts of the functions that the laws reach.
-/
import Derived.Test.YtnmifddidgofaaaGreatDoorDx01
import Derived.Test.YtnmifddidgofaaaGreatDoorDx02
import Derived.Test.YtnmifddidgofaaaGreatDoorDx03
import Derived.Test.YtnmifddidgofaaaGreatDoorDx04
import Derived.Test.YtnmifddidgofaaaGreatDoorDx05
import Derived.Test.YtnmifddidgofaaaGreatDoorDx06
import Derived.Test.YtnmifddidgofaaaGreatDoorDx07
import Derived.Test.YtnmifddidgofaaaGreatDoorDx09
import Derived.Test.YtnmifddidgofaaaGreatDoorDx11
import Derived.Test.YtnmifddidgofaaaGreatDoorDx12
set_option linter.all false
namespace Go.Proofs.YtnmifddidgofaaaGreatDoor
open Go.ChangeShapes Go.WideShapes Go.ChangeAt Go.RowKit
section
variable {H : Type} {enc : TypeId × Value → H} {P : Program} {W : World} {base : Nat} {sp : Nat → Bool} {held : Bool} {b0 : Nat} {r : Reach} {v : Value} {d : DataW H} {p : List MemPlace}
theorem fm_bytes (l : List UInt8) : (l.flatMap fun b => [bAV b]) = l.map bAV := by induction l <;> simp [*]
theorem cell_bytesN {u e : TypeId} (hu : P.underlying u = some (.slice e)) (he : P.underlying e = some (.int .u8)) (hc : P.cellsOf e = 1) {c : Value} {fuel : Nat} {y : DataW H × List MemPlace} (h : DataW.trod enc P W base sp held fuel u [c] = some y) : ∃ l : List UInt8, Rd (fun _ => none) W (bv l) c := by
 obtain ⟨l, h⟩ := rec_rowN (A := fun b : UInt8 => [bAV b]) (n := 1) (by decide) (fun _ => rfl) hu hc (fun fuel cs y h => by
   obtain ⟨n, h1, -, h2⟩ := DataW.trod_int he h
   subst h1
   have h3 : 0 ≤ n ∧ n ≤ 255 := by simpa [Lit.wf, IntKind.min, IntKind.max, IntKind.signed, IntKind.bits] using h2
   refine ⟨b8 n, .cons0 ?_ .nil0⟩
   rw [bAV_b8, IntKind.wrap_u8, Int.emod_eq_of_lt (by omega) (by omega)]
   exact .int _ _) h
 rw [fm_bytes] at h
 exact ⟨l, h⟩
set_option maxRecDepth 100000 in
theorem held_rd (fuel : Nat) (cs : List Value) (y : DataW H × List MemPlace) (hf : DataW.trod enc Tryz.prog W base sp held fuel 56 cs = some y) : ∃ x : Hl, RdL (fun _ => none) W x.cs cs.toArray := by
 obtain ⟨xs, m, -, -, hl, -, -⟩ := DataW.trod_struct Tryz.underlying56 hf
 have hl : cs.length = 2 := hl.trans (by kernel_rfl)
 match cs, hl with
 | [c0, c1], _ =>
   obtain ⟨n0, y0, h0⟩ := trod_field Tryz.underlying56 hf 0 1 _ rfl (by kernel_rfl) [c0] rfl
   obtain ⟨n1, y1, h1⟩ := trod_field Tryz.underlying56 hf 1 1 _ rfl (by kernel_rfl) [c1] rfl
   obtain ⟨x0, r0⟩ := cell_int Tryz.underlying3 h0
   obtain ⟨x1, r1⟩ := cell_bytesN Tryz.underlying27 Tryz.underlying5 (by kernel_rfl) h1
   exact ⟨⟨x0, x1⟩, .cons0 r0 (.cons0 r1 .nil0)⟩
set_option maxRecDepth 100000 in
theorem arg_in (hv : Value.okWide Tryz.prog W r b0 32 v) (h : DataW.Trod enc Tryz.prog W base sp held 32 v d p) : ∃ x : In, Rd (fun _ => none) W x.av v := by
 obtain ⟨cs, rfl, hl, hc⟩ := agg_cells Tryz.underlying32 (ts := [3, 27, 27, 3, 3, 3, 3, 3, 3, 3, 3, 30]) (by kernel_rfl) (by kernel_rfl) hv
 obtain ⟨fuel, hf⟩ := h
 have hf : DataW.trod enc Tryz.prog W base sp held fuel 32 cs = some (d, p) := hf
 match cs, hl with
 | [cb, c0, c1, c2, c3, c4, cf, cn, cm, cl, ct, ch], _ =>
   obtain ⟨nb, yb, hb⟩ := trod_field Tryz.underlying32 hf 0 1 _ rfl (by kernel_rfl) [cb] rfl
   obtain ⟨nk, yk, hk⟩ := trod_field Tryz.underlying32 hf 1 5 _ rfl (by kernel_rfl) [c0, c1, c2, c3, c4] rfl
   obtain ⟨nf, yf, hF⟩ := trod_field Tryz.underlying32 hf 2 1 _ rfl (by kernel_rfl) [cf] rfl
   obtain ⟨nn, yn, hn⟩ := trod_field Tryz.underlying32 hf 3 1 _ rfl (by kernel_rfl) [cn] rfl
   obtain ⟨nm, ym, hm⟩ := trod_field Tryz.underlying32 hf 4 1 _ rfl (by kernel_rfl) [cm] rfl
   obtain ⟨nl, yl, hL⟩ := trod_field Tryz.underlying32 hf 5 1 _ rfl (by kernel_rfl) [cl] rfl
   obtain ⟨nt, yt, ht⟩ := trod_field Tryz.underlying32 hf 6 1 _ rfl (by kernel_rfl) [ct] rfl
   obtain ⟨nh, yh, hh⟩ := trod_field Tryz.underlying32 hf 7 1 _ rfl (by kernel_rfl) [ch] rfl
   obtain ⟨n0, y0, h0⟩ := trod_field Tryz.underlying29 hk 0 1 _ rfl (by kernel_rfl) [c0] rfl
   obtain ⟨n1, y1, h1⟩ := trod_field Tryz.underlying29 hk 1 1 _ rfl (by kernel_rfl) [c1] rfl
   obtain ⟨n2, y2, h2⟩ := trod_field Tryz.underlying29 hk 2 1 _ rfl (by kernel_rfl) [c2] rfl
   obtain ⟨n3, y3, h3⟩ := trod_field Tryz.underlying29 hk 3 1 _ rfl (by kernel_rfl) [c3] rfl
   obtain ⟨n4, y4, h4⟩ := trod_field Tryz.underlying29 hk 4 1 _ rfl (by kernel_rfl) [c4] rfl
   obtain ⟨xb, rb⟩ := cell_int Tryz.underlying3 hb
   obtain ⟨s, r0⟩ := cell_bytes Tryz.underlying27 Tryz.underlying5 (by kernel_rfl) (hc 1 _ _ rfl rfl) h0
   obtain ⟨g, r1⟩ := cell_bytes Tryz.underlying27 Tryz.underlying5 (by kernel_rfl) (hc 2 _ _ rfl rfl) h1
   obtain ⟨x2, r2⟩ := cell_int Tryz.underlying3 h2
   obtain ⟨x3, r3⟩ := cell_int Tryz.underlying3 h3
   obtain ⟨x4, r4⟩ := cell_int Tryz.underlying3 h4
   obtain ⟨xf, rf⟩ := cell_int Tryz.underlying3 hF
   obtain ⟨xn, rn⟩ := cell_int Tryz.underlying3 hn
   obtain ⟨xm, rm⟩ := cell_int Tryz.underlying3 hm
   obtain ⟨xl, rl⟩ := cell_int Tryz.underlying3 hL
   obtain ⟨xt, rt⟩ := cell_int Tryz.underlying3 ht
   obtain ⟨l, rh⟩ := rec_rowN (A := Hl.cs) (by decide) Hl.cs_len Tryz.underlying30 (by kernel_rfl) held_rd hh
   exact ⟨⟨xb, ⟨s, g, x2, x3, x4⟩, xf, xn, xm, xl, xt, l⟩, RdL.agg0 (.cons0 rb (.cons0 r0 (.cons0 r1 (.cons0 r2 (.cons0 r3 (.cons0 r4 (.cons0 rf (.cons0 rn (.cons0 rm (.cons0 rl (.cons0 rt (.cons0 rh .nil0))))))))))))⟩
end
end Go.Proofs.YtnmifddidgofaaaGreatDoor
