/-
  The statement AnchorRaw is proved: for all tunnels, messages, gateways and numbers radiolinklaw41.AnchorRaw returns true. No condition.
-/
import Derived.Test.YtmfifkkmbkcibaaAnchRaw
import Derived.Test.YtmfifkkmbkcibaaOpenM
namespace Go.Proofs.Ytmfifkkmbkcibaa.anchorRaw
open Go.ChangeShapes Go.WideShapes Go.ChangeAt Go.RowKit

theorem own : ownKnob Try.prog.godebug = none := by kernel_rfl
theorem laidOut : laidOutB Try.prog = true := by kernel_rfl

theorem weights_at {H : Type} {P : Program} {ts : List TypeId} {ds : List (DataW H)} (h : (DataW.weightsEach P ts ds).all (· ≤ reachBytes) = true) {j : Nat} {t : TypeId} {d : DataW H} (ht : ts[j]? = some t) (hd : ds[j]? = some d) : (d.weights P t).all (· ≤ reachBytes) = true := by
  rw [List.all_eq_true] at h ⊢
  intro k hk
  exact h k (DataW.weights_mem_each ht hd k hk)
theorem tunnel_arg {H : Type} {enc : TypeId × Value → H} {w : World} {base : Nat} {sp : Nat → Bool} {held : Bool} {fuel : Nat} {c : Array Value} {d : DataW H} {ps : List MemPlace}
    (h : DataW.trod enc Try.prog w base sp held fuel 27 c.toList = some (d, ps)) (hw : (d.weights Try.prog 27).all (· ≤ reachBytes) = true) :
    ∃ delay v xs, c = #[.int .i64 delay, v] ∧ Sl msgR (fun _ => True) w v xs ∧ xs.length * 88 ≤ 140737488355328 ∧ ∀ m ∈ xs, m.fits := by
  obtain ⟨hl, hf⟩ := open_fields1 Try.underlying27 h hw
  rw [show Try.prog.cellsOf 27 = 2 by kernel_rfl] at hl
  obtain ⟨cs⟩ := c
  match cs, hl with
  | [c0, c1], _ =>
    obtain ⟨n0, d0, p0, h0, w0⟩ := hf 0 _ rfl (by kernel_rfl) c0 rfl
    obtain ⟨n1, d1, p1, h1, w1⟩ := hf 1 _ rfl (by kernel_rfl) c1 rfl
    obtain ⟨x0, ⟨e0, r0⟩, -⟩ := opens_int Try.underlying3 enc w base sp held _ _ _ _ h0 w0
    obtain ⟨x1, ⟨v1, e1, r1⟩, f1⟩ := opens_msgs enc w base sp held _ _ _ _ h1 w1
    have e0 := (List.cons.inj e0).1
    have e1 := (List.cons.inj e1).1
    subst e0 e1
    exact ⟨_, _, x1, rfl, r1, f1.1, f1.2⟩
theorem anchor_arg {H : Type} {enc : TypeId × Value → H} {w : World} {base : Nat} {sp : Nat → Bool} {held : Bool} {fuel : Nat} {c : Array Value} {d : DataW H} {ps : List MemPlace}
    (h : DataW.trod enc Try.prog w base sp held fuel 39 c.toList = some (d, ps)) (hw : (d.weights Try.prog 39).all (· ≤ reachBytes) = true) :
    ∃ v xs, c = #[v] ∧ Sl intR (fun _ => True) w v xs ∧ xs.length * 8 ≤ 140737488355328 := by
  obtain ⟨hl, hf⟩ := open_fields1 Try.underlying39 h hw
  rw [show Try.prog.cellsOf 39 = 1 by kernel_rfl] at hl
  obtain ⟨cs⟩ := c
  match cs, hl with
  | [c0], _ =>
    obtain ⟨n0, d0, p0, h0, w0⟩ := hf 0 _ rfl (by kernel_rfl) c0 rfl
    obtain ⟨x0, ⟨v0, e0, r0⟩, f0⟩ := opens_ints enc w base sp held _ _ _ _ h0 w0
    have e0 := (List.cons.inj e0).1
    subst e0
    exact ⟨_, x0, rfl, r0, f0⟩

theorem lifted (os : Os) (started : os.Started) (H : Type) (enc : TypeId × Value → H) :
    ReturnsInHanded {} Try.checked os 4 .any (Rows.anchorRawSpec.pre6 enc Try.prog Try.f4 Rows.anchorRawRow.domain false) (Rows.anchorRawSpec.post enc Try.prog Try.f4 false true false false) := by
  refine returnsInHanded_of_change_sized (C := Try.checked) own started (by kernel_rfl) Try.func4
    (ChangeSpec.witness6 (enc := enc) (C := Try.checked) false ⟨#[], #[.agg #[.int .i64 0, .slice none 0 0], .agg #[.int .i64 0, .int .i64 0, .int .i64 0, .int .i64 0, .int .i64 0, .slice none 0 0, .slice none 0 0], .int .i64 0, .int .i64 0, .agg #[.slice none 0 0], .int .i64 0, .int .i64 0], []⟩ 8 (by kernel_rfl) (by kernel_rfl) (by kernel_rfl) (by kernel_rfl)) ?_
  intro W base args ds gs before hval0 hW hcnd hsz _
  have hval : ∀ (j : Nat) t v, Try.f4.params[j]? = some t → args[j]? = some v → Value.okWide Try.prog W .any base t v := hval0
  have hW' := hW
  obtain ⟨p, q, hA0, hV, rfl, hfz, hnd⟩ := hW
  have hA : DataW.TrodAll enc Try.prog W 0 (fun _ => true) true Try.f4.params.toList args.toList ds p := hA0
  rw [Try.params4] at hA hval
  obtain ⟨v0, vs0, d0, ds0, p0, q0, hargs, rfl, rfl, h0, r0⟩ := trodAll_cons hA
  obtain ⟨v1, vs1, d1, ds1, p1, q1, rfl, rfl, rfl, h1, r1⟩ := trodAll_cons r0
  obtain ⟨v2, vs2, d2, ds2, p2, q2, rfl, rfl, rfl, h2, r2⟩ := trodAll_cons r1
  obtain ⟨v3, vs3, d3, ds3, p3, q3, rfl, rfl, rfl, h3, r3⟩ := trodAll_cons r2
  obtain ⟨v4, vs4, d4, ds4, p4, q4, rfl, rfl, rfl, h4, r4⟩ := trodAll_cons r3
  obtain ⟨v5, vs5, d5, ds5, p5, q5, rfl, rfl, rfl, h5, r5⟩ := trodAll_cons r4
  obtain ⟨v6, vs6, d6, ds6, p6, q6, rfl, rfl, rfl, h6, r6⟩ := trodAll_cons r5
  obtain ⟨rfl, rfl, rfl⟩ := trodAll_nil r6
  obtain rfl : args = #[v0, v1, v2, v3, v4, v5, v6] := by cases args; simp_all
  obtain ⟨rfl, rfl⟩ := trodVars_none hV
  rw [Try.params4] at hsz
  have hw0 := weights_at hsz (j := 0) (t := 27) (d := d0) (by rfl) (by rfl)
  have hw1 := weights_at hsz (j := 1) (t := 34) (d := d1) (by rfl) (by rfl)
  have hw2 := weights_at hsz (j := 2) (t := 3) (d := d2) (by rfl) (by rfl)
  have hw3 := weights_at hsz (j := 3) (t := 3) (d := d3) (by rfl) (by rfl)
  have hw4 := weights_at hsz (j := 4) (t := 39) (d := d4) (by rfl) (by rfl)
  have hw5 := weights_at hsz (j := 5) (t := 3) (d := d5) (by rfl) (by rfl)
  have hw6 := weights_at hsz (j := 6) (t := 3) (d := d6) (by rfl) (by rfl)
  have lt0 : ∀ x ∈ p0, x.block < W.heap.size := by obtain ⟨m, hm⟩ := h0; exact DataW.trod_lt m _ _ _ hm
  have lt1 : ∀ x ∈ p1, x.block < W.heap.size := by obtain ⟨m, hm⟩ := h1; exact DataW.trod_lt m _ _ _ hm
  have lt2 : ∀ x ∈ p2, x.block < W.heap.size := by obtain ⟨m, hm⟩ := h2; exact DataW.trod_lt m _ _ _ hm
  have lt3 : ∀ x ∈ p3, x.block < W.heap.size := by obtain ⟨m, hm⟩ := h3; exact DataW.trod_lt m _ _ _ hm
  have lt4 : ∀ x ∈ p4, x.block < W.heap.size := by obtain ⟨m, hm⟩ := h4; exact DataW.trod_lt m _ _ _ hm
  have lt5 : ∀ x ∈ p5, x.block < W.heap.size := by obtain ⟨m, hm⟩ := h5; exact DataW.trod_lt m _ _ _ hm
  have lt6 : ∀ x ∈ p6, x.block < W.heap.size := by obtain ⟨m, hm⟩ := h6; exact DataW.trod_lt m _ _ _ hm
  obtain ⟨m0, hm0⟩ := id h0
  obtain ⟨c0, rfl, hc0⟩ := agg_arg Try.underlying27 (hval 0 27 v0 rfl rfl)
  rw [hc0] at hm0
  obtain ⟨dl0, tv0, ts0, rfl, st0, sl0, sf0⟩ := tunnel_arg hm0 hw0
  obtain ⟨m1, hm1⟩ := id h1
  obtain ⟨c1, rfl, hc1⟩ := agg_arg Try.underlying34 (hval 1 34 v1 rfl rfl)
  rw [hc1] at hm1
  obtain ⟨mm1, rm1, fm1⟩ := opens_msg enc W _ _ _ _ _ _ _ hm1 hw1
  obtain ⟨x2, rfl, -, -, wn2⟩ := open_int Try.underlying3 (hval 2 3 v2 rfl rfl) h2
  have hr2 := wf_i64 wn2
  obtain ⟨x3, rfl, -, -, wn3⟩ := open_int Try.underlying3 (hval 3 3 v3 rfl rfl) h3
  have hr3 := wf_i64 wn3
  obtain ⟨m4, hm4⟩ := id h4
  obtain ⟨c4, rfl, hc4⟩ := agg_arg Try.underlying39 (hval 4 39 v4 rfl rfl)
  rw [hc4] at hm4
  obtain ⟨av4, zs4, rfl, sa4, la4⟩ := anchor_arg hm4 hw4
  obtain ⟨x5, rfl, -, -, wn5⟩ := open_int Try.underlying3 (hval 5 3 v5 rfl rfl) h5
  have hr5 := wf_i64 wn5
  obtain ⟨x6, rfl, -, -, wn6⟩ := open_int Try.underlying3 (hval 6 3 v6 rfl rfl) h6
  have hr6 := wf_i64 wn6
  clear hA0 hval0
  refine (raw_any dl0 x2 x3 x5 x6 tv0 av4 ts0 mm1 c1.toList zs4 _ W st0 rm1 sa4 sl0 sf0 fm1 la4 hr2 hr6).mono fun e W' ⟨he, bel⟩ => ?_
  subst he
  exact ⟨_, rfl, _, _, _, [], _, [], hW', trodAll_mk1 (shut_bool Try.underlying4 _), (trodAll_cons_mk (Below.trod laidOut (by kernel_rfl) (of_decide_eq_true (by kernel_rfl)) h0 bel lt0) (trodAll_cons_mk (Below.trod laidOut (by kernel_rfl) (of_decide_eq_true (by kernel_rfl)) h1 bel lt1) (trodAll_cons_mk (Below.trod laidOut (by kernel_rfl) (of_decide_eq_true (by kernel_rfl)) h2 bel lt2) (trodAll_cons_mk (Below.trod laidOut (by kernel_rfl) (of_decide_eq_true (by kernel_rfl)) h3 bel lt3) (trodAll_cons_mk (Below.trod laidOut (by kernel_rfl) (of_decide_eq_true (by kernel_rfl)) h4 bel lt4) (trodAll_cons_mk (Below.trod laidOut (by kernel_rfl) (of_decide_eq_true (by kernel_rfl)) h5 bel lt5) (trodAll_cons_mk (Below.trod laidOut (by kernel_rfl) (of_decide_eq_true (by kernel_rfl)) h6 bel lt6) trodAll_mk0))))))), rfl, bel.frame _, fun h => by cases h⟩

theorem proved : Rows.AnchorRawSaid :=
  OpenClaim.holds_of_wide 4 Try.f4 rfl rfl rfl rfl rfl rfl rfl ⟨rfl, rfl, rfl, rfl, rfl⟩ rfl rfl rfl rfl rfl (by kernel_rfl) Try.func4 (by kernel_rfl)
    (of_decide_eq_true (by kernel_rfl)) (by unfold Func.isWrapper; first | (rw [if_pos (by decide +kernel)]; kernel_rfl) | (rw [if_neg (by decide +kernel)]; exact ⟨rfl, rfl⟩))
    (fun os started H enc _ => lifted os started H enc)
#print axioms proved
end Go.Proofs.Ytmfifkkmbkcibaa.anchorRaw
