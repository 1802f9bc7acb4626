/-
  Plain facts: truth values, byte strings that are not too long, and compressed packets in parts as arguments.
-/
import Derived.Test.YtnlpjbedkdhlbaaArg
import Derived.Test.YtnlpjbedkdhlbaaFmt1
import Derived.Test.YtnlpjbedkdhlbaaRows
import Derived.SizedLaws
namespace Go.Proofs.Ytnlpjbedkdhlbaa
open Go.ChangeShapes Go.WideShapes Go.ChangeAt Go.RowKit
set_option linter.all false
theorem glob_any {w : World} {σ : Store} : Glob (fun _ => .any) σ w := fun _ => .any _
theorem weights_at {H : Type} {P : Program} {ts : List TypeId} {ds : List (DataW H)} (h : (DataW.weightsEach P ts ds).all (· ≤ reachBytes) = true) {j : Nat} {t : TypeId} {d : DataW H} (ht : ts[j]? = some t) (hd : ds[j]? = some d) : (d.weights P t).all (· ≤ reachBytes) = true := by
  rw [List.all_eq_true] at h ⊢
  intro k hk
  exact h k (DataW.weights_mem_each ht hd k hk)
section
variable {H : Type} {enc : TypeId × Value → H} {P : Program} {W : World} {base : Nat} {sp : Nat → Bool} {held : Bool} {b0 : Nat} {r : Reach} {v : Value} {d : DataW H} {p : List MemPlace}
theorem bytes_len {u e : TypeId} (hu : P.underlying u = some (.slice e)) (hb : P.bytesOf e = 1) {c : Value} {fuel : Nat} (h : DataW.trod enc P W base sp held fuel u [c] = some (d, p)) (hw : (d.weights P u).all (· ≤ reachBytes) = true) {l : List UInt8} (hr : Rd (fun _ => none) W (bv l) c) : l.length ≤ 140737488355328 := by
  rcases DataW.trod_slice hu h with ⟨h0, -⟩ | ⟨a, len, cap, elems, rest, n, q, h0, hx, -, hl, hm, hlen, hel, -⟩
  · obtain rfl := (List.cons.inj h0).1
    unfold bv at hr
    generalize l.length = L at hr ⊢
    generalize l.map bAV = M at hr
    cases hr
    · omega
  · obtain rfl := (List.cons.inj h0).1
    injection hx with hx1 hx2
    subst hx1
    have hall : ∀ n ∈ DataW.weights P u (.slice (elems.map (·.1)) (rest.map (·.1))), n ≤ reachBytes := fun n hn => by
      have := List.all_eq_true.1 hw n hn
      simpa using this
    simp only [DataW.weights, hu] at hall
    have hsz := hall _ (List.mem_cons_self ..)
    have e1 : l.length = len := by
      unfold bv at hr
      generalize l.length = L at hr ⊢
      generalize l.map bAV = M at hr
      cases hr
      · rfl
    simp only [List.length_map, hlen, hb, Nat.mul_one] at hsz
    have : reachBytes = 140737488351232 := by decide
    omega
theorem arg_bytes_z {u e : TypeId} (hu : P.underlying u = some (.slice e)) (he : P.underlying e = some (.int .u8)) (hc : P.cellsOf e = 1) (hb : P.bytesOf e = 1) (hv : Value.okWide P W r b0 u v) (h : DataW.Trod enc P W base sp held u v d p) (hw : (d.weights P u).all (· ≤ reachBytes) = true) : ∃ l : List UInt8, Rd (fun _ => none) W (bv l) v ∧ l.length ≤ 140737488355328 := by
  obtain ⟨a, len, cap, rfl⟩ := okWide_slice hu hv
  obtain ⟨fuel, hf⟩ := h
  have hv : Cell.okWide P W r b0 u (.slice a len cap) := by simpa only [Value.okWide, hu] using hv
  obtain ⟨l, hl⟩ := cell_bytes hu he hc hv hf
  exact ⟨l, hl, bytes_len hu hb hf hw hl⟩
theorem arg_bool {u : TypeId} (hu : P.underlying u = some .bool) (hv : Value.okWide P W r b0 u v) (h : DataW.Trod enc P W base sp held u v d p) : ∃ b : Bool, Rd (fun _ => none) W (.bool b) v := by
  obtain ⟨b, rfl, -⟩ := open_bool hu hv h
  exact ⟨b, .bool _⟩
end
section
variable {H : Type} {enc : TypeId × Value → H} {W : World} {base : Nat} {sp : Nat → Bool} {held : Bool} {b0 : Nat} {r : Reach} {v : Value} {d : DataW H} {p : List MemPlace}
set_option maxRecDepth 100000 in
theorem arg_small (hv : Value.okWide Try.prog W r b0 28 v) (h : DataW.Trod enc Try.prog W base sp held 28 v d p) : ∃ s : Sm, Rd (fun _ => none) W s.av v := by
  obtain ⟨cs, rfl, hl, hc⟩ := agg_cells Try.underlying28 (ts := [3, 3, 3, 3, 3, 3, 3, 3, 3, 3, 3, 3, 3, 3, 3, 3, 3, 3, 3, 3, 3, 3, 3, 3, 3, 26]) (by kernel_rfl) (by kernel_rfl) hv
  obtain ⟨fuel, hf⟩ := h
  have hf : DataW.trod enc Try.prog W base sp held fuel 28 cs = some (d, p) := hf
  match cs, hl with
  | [c0, c1, c2, c3, c4, c5, c6, c7, c8, c9, c10, c11, c12, c13, c14, c15, c16, c17, c18, c19, c20, c21, c22, c23, c24, c25], _ =>
    obtain ⟨n0, y0, h0⟩ := trod_field Try.underlying28 hf 0 1 _ rfl (by kernel_rfl) [c0] rfl
    obtain ⟨n1, y1, h1⟩ := trod_field Try.underlying28 hf 1 1 _ rfl (by kernel_rfl) [c1] rfl
    obtain ⟨n2, y2, h2⟩ := trod_field Try.underlying28 hf 2 1 _ rfl (by kernel_rfl) [c2] rfl
    obtain ⟨n3, y3, h3⟩ := trod_field Try.underlying28 hf 3 1 _ rfl (by kernel_rfl) [c3] rfl
    obtain ⟨n4, y4, h4⟩ := trod_field Try.underlying28 hf 4 1 _ rfl (by kernel_rfl) [c4] rfl
    obtain ⟨n5, y5, h5⟩ := trod_field Try.underlying28 hf 5 1 _ rfl (by kernel_rfl) [c5] rfl
    obtain ⟨n6, y6, h6⟩ := trod_field Try.underlying28 hf 6 1 _ rfl (by kernel_rfl) [c6] rfl
    obtain ⟨nh, yh, hh⟩ := trod_field Try.underlying28 hf 7 15 _ rfl (by kernel_rfl) [c7, c8, c9, c10, c11, c12, c13, c14, c15, c16, c17, c18, c19, c20, c21] rfl
    obtain ⟨nd, yd, hd⟩ := trod_field Try.underlying28 hf 8 2 _ rfl (by kernel_rfl) [c22, c23] rfl
    obtain ⟨n24, y24, h24⟩ := trod_field Try.underlying28 hf 9 1 _ rfl (by kernel_rfl) [c24] rfl
    obtain ⟨n25, y25, h25⟩ := trod_field Try.underlying28 hf 10 1 _ rfl (by kernel_rfl) [c25] rfl
    obtain ⟨n7, y7, h7⟩ := trod_field Try.underlying23 hh 0 1 _ rfl (by kernel_rfl) [c7] rfl
    obtain ⟨n8, y8, h8⟩ := trod_field Try.underlying23 hh 1 1 _ rfl (by kernel_rfl) [c8] rfl
    obtain ⟨n9, y9, h9⟩ := trod_field Try.underlying23 hh 2 1 _ rfl (by kernel_rfl) [c9] rfl
    obtain ⟨n10, y10, h10⟩ := trod_field Try.underlying23 hh 3 1 _ rfl (by kernel_rfl) [c10] rfl
    obtain ⟨n11, y11, h11⟩ := trod_field Try.underlying23 hh 4 1 _ rfl (by kernel_rfl) [c11] rfl
    obtain ⟨n12, y12, h12⟩ := trod_field Try.underlying23 hh 5 1 _ rfl (by kernel_rfl) [c12] rfl
    obtain ⟨n13, y13, h13⟩ := trod_field Try.underlying23 hh 6 1 _ rfl (by kernel_rfl) [c13] rfl
    obtain ⟨n14, y14, h14⟩ := trod_field Try.underlying23 hh 7 1 _ rfl (by kernel_rfl) [c14] rfl
    obtain ⟨n15, y15, h15⟩ := trod_field Try.underlying23 hh 8 1 _ rfl (by kernel_rfl) [c15] rfl
    obtain ⟨n16, y16, h16⟩ := trod_field Try.underlying23 hh 9 1 _ rfl (by kernel_rfl) [c16] rfl
    obtain ⟨n17, y17, h17⟩ := trod_field Try.underlying23 hh 10 1 _ rfl (by kernel_rfl) [c17] rfl
    obtain ⟨n18, y18, h18⟩ := trod_field Try.underlying23 hh 11 1 _ rfl (by kernel_rfl) [c18] rfl
    obtain ⟨n19, y19, h19⟩ := trod_field Try.underlying23 hh 12 1 _ rfl (by kernel_rfl) [c19] rfl
    obtain ⟨n20, y20, h20⟩ := trod_field Try.underlying23 hh 13 1 _ rfl (by kernel_rfl) [c20] rfl
    obtain ⟨n21, y21, h21⟩ := trod_field Try.underlying23 hh 14 1 _ rfl (by kernel_rfl) [c21] rfl
    obtain ⟨n22, y22, h22⟩ := trod_field Try.underlying25 hd 0 1 _ rfl (by kernel_rfl) [c22] rfl
    obtain ⟨n23, y23, h23⟩ := trod_field Try.underlying25 hd 1 1 _ rfl (by kernel_rfl) [c23] rfl
    obtain ⟨x0, r0⟩ := cell_int Try.underlying3 h0
    obtain ⟨x1, r1⟩ := cell_int Try.underlying3 h1
    obtain ⟨x2, r2⟩ := cell_int Try.underlying3 h2
    obtain ⟨x3, r3⟩ := cell_int Try.underlying3 h3
    obtain ⟨x4, r4⟩ := cell_int Try.underlying3 h4
    obtain ⟨x5, r5⟩ := cell_int Try.underlying3 h5
    obtain ⟨x6, r6⟩ := cell_int Try.underlying3 h6
    obtain ⟨x7, r7⟩ := cell_int Try.underlying3 h7
    obtain ⟨x8, r8⟩ := cell_int Try.underlying3 h8
    obtain ⟨x9, r9⟩ := cell_int Try.underlying3 h9
    obtain ⟨x10, r10⟩ := cell_int Try.underlying3 h10
    obtain ⟨x11, r11⟩ := cell_int Try.underlying3 h11
    obtain ⟨x12, r12⟩ := cell_int Try.underlying3 h12
    obtain ⟨x13, r13⟩ := cell_int Try.underlying3 h13
    obtain ⟨x14, r14⟩ := cell_int Try.underlying3 h14
    obtain ⟨x15, r15⟩ := cell_int Try.underlying3 h15
    obtain ⟨x16, r16⟩ := cell_int Try.underlying3 h16
    obtain ⟨x17, r17⟩ := cell_int Try.underlying3 h17
    obtain ⟨x18, r18⟩ := cell_int Try.underlying3 h18
    obtain ⟨x19, r19⟩ := cell_int Try.underlying3 h19
    obtain ⟨x20, r20⟩ := cell_int Try.underlying3 h20
    obtain ⟨x21, r21⟩ := cell_int Try.underlying3 h21
    obtain ⟨x22, r22⟩ := cell_int Try.underlying3 h22
    obtain ⟨x23, r23⟩ := cell_int Try.underlying3 h23
    obtain ⟨x24, r24⟩ := cell_int Try.underlying3 h24
    obtain ⟨x25, r25⟩ := cell_bytes Try.underlying26 Try.underlying5 (by kernel_rfl) (hc 25 _ _ rfl rfl) h25
    exact ⟨⟨x0, x1, x2, x3, x4, x5, x6, ⟨x7, x8, x9, x10, x11, x12, x13, x14, x15, x16, x17, x18, x19, x20, x21⟩, ⟨x22, x23⟩, x24, x25⟩, RdL.agg0 (.cons0 r0 (.cons0 r1 (.cons0 r2 (.cons0 r3 (.cons0 r4 (.cons0 r5 (.cons0 r6 (.cons0 r7 (.cons0 r8 (.cons0 r9 (.cons0 r10 (.cons0 r11 (.cons0 r12 (.cons0 r13 (.cons0 r14 (.cons0 r15 (.cons0 r16 (.cons0 r17 (.cons0 r18 (.cons0 r19 (.cons0 r20 (.cons0 r21 (.cons0 r22 (.cons0 r23 (.cons0 r24 (.cons0 r25 .nil0))))))))))))))))))))))))))⟩
end
end Go.Proofs.Ytnlpjbedkdhlbaa
