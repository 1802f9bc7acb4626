/-
  Plain facts: keys and outgoing sides as arguments; what the table of the stream holds.
-/
import Derived.Test.YtdpfcpkedaolfaaDoorArg
import Derived.Test.YtdpfcpkedaolfaaDoorPro5
import Derived.Test.YtdpfcpkedaolfaaDoorRows
namespace Go.Proofs.YtdpfcpkedaolfaaDoor
open Go.ChangeShapes Go.WideShapes Go.ChangeAt Go.RowKit
set_option linter.all false
section
variable {H : Type} {enc : TypeId × Value → H} {W : World} {base : Nat} {sp : Nat → Bool} {held : Bool} {b0 : Nat} {r : Reach} {v : Value} {d : DataW H} {p : List MemPlace}
set_option maxRecDepth 100000 in
theorem arg_key (hv : Value.okWide Tryd.prog W r b0 24 v) (h : DataW.Trod enc Tryd.prog W base sp held 24 v d p) : ∃ k : Ky, Rd (fun _ => none) W k.av v := by
  obtain ⟨cs, rfl, hl, hc⟩ := agg_cells Tryd.underlying24 (ts := [22, 22, 3, 3, 3]) (by kernel_rfl) (by kernel_rfl) hv
  obtain ⟨fuel, hf⟩ := h
  have hf : DataW.trod enc Tryd.prog W base sp held fuel 24 cs = some (d, p) := hf
  match cs, hl with
  | [c0, c1, c2, c3, c4], _ =>
    obtain ⟨n0, y0, h0⟩ := trod_field Tryd.underlying24 hf 0 1 _ rfl (by kernel_rfl) [c0] rfl
    obtain ⟨n1, y1, h1⟩ := trod_field Tryd.underlying24 hf 1 1 _ rfl (by kernel_rfl) [c1] rfl
    obtain ⟨n2, y2, h2⟩ := trod_field Tryd.underlying24 hf 2 1 _ rfl (by kernel_rfl) [c2] rfl
    obtain ⟨n3, y3, h3⟩ := trod_field Tryd.underlying24 hf 3 1 _ rfl (by kernel_rfl) [c3] rfl
    obtain ⟨n4, y4, h4⟩ := trod_field Tryd.underlying24 hf 4 1 _ rfl (by kernel_rfl) [c4] rfl
    obtain ⟨s, r0⟩ := cell_bytes Tryd.underlying22 Tryd.underlying5 (by kernel_rfl) (hc 0 _ _ rfl rfl) h0
    obtain ⟨g, r1⟩ := cell_bytes Tryd.underlying22 Tryd.underlying5 (by kernel_rfl) (hc 1 _ _ rfl rfl) h1
    obtain ⟨x2, r2⟩ := cell_int Tryd.underlying3 h2
    obtain ⟨x3, r3⟩ := cell_int Tryd.underlying3 h3
    obtain ⟨x4, r4⟩ := cell_int Tryd.underlying3 h4
    exact ⟨⟨s, g, x2, x3, x4⟩, RdL.agg0 (.cons0 r0 (.cons0 r1 (.cons0 r2 (.cons0 r3 (.cons0 r4 .nil0)))))⟩
set_option maxRecDepth 100000 in
theorem arg_out (hv : Value.okWide Tryd.prog W r b0 53 v) (h : DataW.Trod enc Tryd.prog W base sp held 53 v d p) : ∃ o : Ot, Rd (fun _ => none) W o.av v := by
  obtain ⟨cs, rfl, hl, hc⟩ := agg_cells Tryd.underlying53 (ts := [3, 22, 22, 3, 3, 3, 3]) (by kernel_rfl) (by kernel_rfl) hv
  obtain ⟨fuel, hf⟩ := h
  have hf : DataW.trod enc Tryd.prog W base sp held fuel 53 cs = some (d, p) := hf
  match cs, hl with
  | [cb, c0, c1, c2, c3, c4, cn], _ =>
    obtain ⟨nb, yb, hb⟩ := trod_field Tryd.underlying53 hf 0 1 _ rfl (by kernel_rfl) [cb] rfl
    obtain ⟨nk, yk, hk⟩ := trod_field Tryd.underlying53 hf 1 5 _ rfl (by kernel_rfl) [c0, c1, c2, c3, c4] rfl
    obtain ⟨nn, yn, hn⟩ := trod_field Tryd.underlying53 hf 2 1 _ rfl (by kernel_rfl) [cn] rfl
    obtain ⟨n0, y0, h0⟩ := trod_field Tryd.underlying24 hk 0 1 _ rfl (by kernel_rfl) [c0] rfl
    obtain ⟨n1, y1, h1⟩ := trod_field Tryd.underlying24 hk 1 1 _ rfl (by kernel_rfl) [c1] rfl
    obtain ⟨n2, y2, h2⟩ := trod_field Tryd.underlying24 hk 2 1 _ rfl (by kernel_rfl) [c2] rfl
    obtain ⟨n3, y3, h3⟩ := trod_field Tryd.underlying24 hk 3 1 _ rfl (by kernel_rfl) [c3] rfl
    obtain ⟨n4, y4, h4⟩ := trod_field Tryd.underlying24 hk 4 1 _ rfl (by kernel_rfl) [c4] rfl
    obtain ⟨xb, rb⟩ := cell_int Tryd.underlying3 hb
    obtain ⟨s, r0⟩ := cell_bytes Tryd.underlying22 Tryd.underlying5 (by kernel_rfl) (hc 1 _ _ rfl rfl) h0
    obtain ⟨g, r1⟩ := cell_bytes Tryd.underlying22 Tryd.underlying5 (by kernel_rfl) (hc 2 _ _ rfl rfl) h1
    obtain ⟨x2, r2⟩ := cell_int Tryd.underlying3 h2
    obtain ⟨x3, r3⟩ := cell_int Tryd.underlying3 h3
    obtain ⟨x4, r4⟩ := cell_int Tryd.underlying3 h4
    obtain ⟨xn, rn⟩ := cell_int Tryd.underlying3 hn
    exact ⟨⟨xb, ⟨s, g, x2, x3, x4⟩, xn⟩, RdL.agg0 (.cons0 rb (.cons0 r0 (.cons0 r1 (.cons0 r2 (.cons0 r3 (.cons0 r4 (.cons0 rn .nil0)))))))⟩
end
/-- An array of integers that reads as given numbers. -/
theorem array_ints {H : Type} {enc : TypeId × Value → H} {P : Program} {w : World} {base : Nat} {sp : Nat → Bool} {held : Bool} {t e n : Nat} (ht : P.underlying t = some (.array n e)) (he : P.underlying e = some (.int .i64)) (hc : P.cellsOf e = 1) {fuel : Nat} {cs : List Value} {zs : List Int} {p : List MemPlace}
    (h : DataW.trod enc P w base sp held fuel t cs = some (.agg (zs.map fun z => DataW.lit (Lit.int .i64 z)), p)) : ∀ (k : Nat) (z : Int), zs[k]? = some z → cs[k]? = some (.int .i64 z) := by
  obtain ⟨xs, m, -, hx, hl, hn, hel⟩ := DataW.trod_array ht h
  injection hx with hx1 hx2
  injection hx1 with hx1
  intro k z hz
  have hk : k < zs.length := (List.getElem?_eq_some_iff.1 hz).1
  have hlen : xs.length = zs.length := by simpa using (congrArg List.length hx1).symm
  have h1 := hel k (by omega)
  rw [hc, Nat.mul_one, List.getElem?_eq_getElem (by omega)] at h1
  obtain ⟨i, h2, h3, -⟩ := DataW.trod_int he h1
  have h4 : (xs.map (·.1))[k]? = some (.lit (.int .i64 i)) := by
    rw [List.getElem?_map, List.getElem?_eq_getElem (by omega)]
    simp [h3]
  rw [← hx1, List.getElem?_map, hz] at h4
  simp at h4
  subst h4
  have h5 := congrArg (·[0]?) h2
  simpa [List.getElem?_take, List.getElem?_drop] using h5
theorem gLanes : Tryd.prog.globalNamed "radiolink/stream.lanes" = some 0 := by kernel_rfl
theorem tLanes : (Tryd.prog.globals[0]?).map (·.type) = some 87 := by kernel_rfl
theorem lanes_of {W : World} (h : laidMetH Tryd.prog [("radiolink/stream.lanes", Rows.laid_radiolink_stream_lanes)] W) : Glob gl (fun _ => none) W := by
  rw [MakeChecks.laidMetH_plain _ _ _ (by kernel_rfl)] at h
  obtain ⟨ps, ⟨g0, t0, cs0, f0, p0, q0, hg0, ht0, hv0, hd0, -, -⟩, -, -⟩ := h
  obtain rfl := Option.some.inj (gLanes.symm.trans hg0)
  obtain rfl := Option.some.inj (tLanes.symm.trans ht0)
  obtain ⟨xs, m, -, hx, hl, hn, hel⟩ := DataW.trod_array Tryd.underlying87 hd0
  injection hx with hx1 hx2
  have hall : ∀ i : Nat, i < 8 → ∀ k z, ([[0, 4, 8, 12], [1, 5, 9, 13], [2, 6, 10, 14], [3, 7, 11, 15], [0, 5, 10, 15], [1, 6, 11, 12], [2, 7, 8, 13], [3, 4, 9, 14]] : List (List Int))[i]?.bind (·[k]?) = some z → cs0.toList[i * 4 + k]? = some (.int .i64 z) := by
    intro i hi k z hz
    obtain ⟨zs, hzs, hk⟩ := Option.bind_eq_some_iff.1 hz
    have h1 := hel i hi
    rw [show Tryd.prog.cellsOf 86 = 4 by kernel_rfl, List.getElem?_eq_getElem (by omega)] at h1
    have hmap : xs.map (·.1) = ([[0, 4, 8, 12], [1, 5, 9, 13], [2, 6, 10, 14], [3, 7, 11, 15], [0, 5, 10, 15], [1, 6, 11, 12], [2, 7, 8, 13], [3, 4, 9, 14]] : List (List Int)).map fun zs => DataW.agg (zs.map fun z => DataW.lit (Lit.int .i64 z)) := by
      injection hx1 with hx1
      exact hx1.symm
    have h2 : (xs.map (·.1))[i]? = some (.agg (zs.map fun z => DataW.lit (Lit.int .i64 z))) := by
      rw [hmap, List.getElem?_map, hzs]; rfl
    rw [List.getElem?_map, List.getElem?_eq_getElem (by omega)] at h2
    have h3 : (xs[i]'(by omega)).1 = .agg (zs.map fun z => DataW.lit (Lit.int .i64 z)) := Option.some.inj h2
    have h4 : DataW.trod (fun _ => ()) Tryd.prog W 0 (fun _ => true) false m 86 ((cs0.toList.drop (i * 4)).take 4) = some (.agg (zs.map fun z => DataW.lit (Lit.int .i64 z)), (xs[i]'(by omega)).2) := by
      rw [h1, ← h3]
    have h5 := array_ints Tryd.underlying86 Tryd.underlying3 (by kernel_rfl) h4 k z hk
    have hk4 : k < 4 := by
      have := (List.getElem?_eq_some_iff.1 h5).1
      simp at this
      omega
    simpa [List.getElem?_take, hk4, List.getElem?_drop] using h5
  have hcell : ∀ o z, tblN[o]? = some z → W.cell? ⟨0, 0 + o, none⟩ = some (.int .i64 z) := by
    intro o z hz
    have ho : o < 32 := (List.getElem?_eq_some_iff.1 hz).1
    have h1 := hall (o / 4) (by omega) (o % 4) z (by
      rw [← hz]
      have : ∀ o, o < 32 → (([[0, 4, 8, 12], [1, 5, 9, 13], [2, 6, 10, 14], [3, 7, 11, 15], [0, 5, 10, 15], [1, 6, 11, 12], [2, 7, 8, 13], [3, 4, 9, 14]] : List (List Int))[o / 4]?.bind (·[o % 4]?)) = tblN[o]? := by decide
      exact this o ho)
    have h2 := World.var?_cell hg0 hv0 o
    rw [show o / 4 * 4 + o % 4 = o by omega] at h1
    rw [Nat.zero_add, h2]
    simpa using h1
  intro g
  by_cases hg : g = 0
  · subst hg
    show Rd _ W (.ip (tblN.map iAV)) _
    refine .ip _ _ 0 (fun i => .int .i64 (tblN.getD i 0)) (fun _ => rfl) (fun i hi => ?_) (fun i hi => ?_)
    · have hi : i < tblN.length := by simpa using hi
      exact hcell i _ (by rw [List.getD_eq_getElem?_getD, List.getElem?_eq_getElem hi]; rfl)
    · have hi : i < tblN.length := by simpa using hi
      rw [List.getD_eq_getElem?_getD, List.getElem?_map, List.getD_eq_getElem?_getD, List.getElem?_eq_getElem hi]
      exact .int _ _
  · have : gl g = .any := by
      unfold gl
      split
      · rename_i hb
        exact absurd (Nat.eq_of_beq_eq_true hb) hg
      · rfl
    rw [this]
    exact .any _
/-- The heap that the program's start leaves meets the condition. -/
theorem door_met (os : Os) (args : Array Value) : laidMetH Tryd.prog [("radiolink/stream.lanes", Rows.laid_radiolink_stream_lanes)] ((World.doorLaid Tryd.prog 400 os).forCall (fun _ _ => 0) ⟨#[], args, []⟩).memory :=
  laidMetH_of_parts3 (fuel := 8) (laidMet_of_run' 8 (by kernel_rfl) (by kernel_rfl)) (by kernel_rfl) (by kernel_rfl)
end Go.Proofs.YtdpfcpkedaolfaaDoor
