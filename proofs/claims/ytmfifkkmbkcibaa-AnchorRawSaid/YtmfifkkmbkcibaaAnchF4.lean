/-
  The contract of the reference's Put.
-/
import Derived.Test.YtmfifkkmbkcibaaAnchF3
import Derived.StillTailTactics
import Derived.Deep.RegionHeld3
import Derived.Deep.RegionLaw
import Derived.Deep.DrawnRows
namespace Go.Proofs.Ytmfifkkmbkcibaa
set_option linter.unusedVariables false
open Go.RowKit

theorem step_append_run4 {P : Program} {ops : Array Oper} {o : Oper} {a : Act} {w : World} {K : Act → World → Prop} {Q : Exit → Act → World → Prop} {E : Prop} (s x : Operand) (t : TypeId) {dv v v' : Value} {w' W : World}
    (hr : (Builtin.append_ #[t, t] t #[dv, v]).run P W = .ok v' w') (hw : w = W) (hgd : o.guard = none) (ho : o.op = .call { callee := .builtin .append, args := #[s, x], argTypes := #[t, t] }) (ht : o.type = t) (hs : a.eval s = dv) (hx : a.eval x = v)
    (h : K (a.put o.dst v') w') : if Region.wanted o (yielded ops a.tmps) = true then Oper.wp P o a w K Q else E := by
  subst hw
  simp only [Region.wanted, hgd, if_true]
  unfold Oper.wp execOp
  simp only [ho, ht, resolve, invoke, builtin, Sem.run_bind, Sem.run_pure, Result.andThen_ok, List.map_toArray, List.map_cons, List.map_nil, hs, hx, hr]
  exact h

section
variable {w : World} {delay D : Int} {xs : List Msg} {m : Msg} {va da ta : Option Addr} {vc dc tc : Nat} {v2 : Value} {w2 : World}
/-- What Put leaves. -/
theorem Dn.done {oa : Option Addr} {oc n : Nat} (h : Dn w delay D xs m va da ta vc dc tc (.slice oa n oc) w2) :
    Sl msgR (fun _ => True) (((w2.setCell ⟨w.heap.size, 1, none⟩ (.slice oa n oc)).setCell ⟨w.heap.size + 2, 0, none⟩ (.int .i64 delay)).setCell ⟨w.heap.size + 2, 1, none⟩ (.slice oa n oc)) (.slice oa n oc) (xs ++ [{ m with arr := D }]) ∧
    Below w.heap.size w (((w2.setCell ⟨w.heap.size, 1, none⟩ (.slice oa n oc)).setCell ⟨w.heap.size + 2, 0, none⟩ (.int .i64 delay)).setCell ⟨w.heap.size + 2, 1, none⟩ (.slice oa n oc)) := by
  have k := h.own
  refine ⟨?_, ((h.bel.setCell (Nat.le_refl _) _).setCell (by simp) _).setCell (by simp) _⟩
  have h8 := k.setOther (g := w.heap.size) (o := 1) (.slice oa n oc) (k.apart (by omega)) (fun hx => by omega)
  have h9 := h8.setOther (g := w.heap.size + 2) (o := 0) (.int .i64 delay) (h8.apart (by omega)) (fun hx => by omega)
  have h10 := h9.setOther (g := w.heap.size + 2) (o := 1) (.slice oa n oc) (h9.apart (by omega)) (fun hx => by omega)
  exact h10.sl (fun _ _ => trivial) (fun _ _ => trivial)
theorem Dn.facts {v2 : Value} (h : Dn w delay D xs m va da ta vc dc tc v2 w2) : w2.cell? ⟨w.heap.size, 0, none⟩ = some (.int .i64 delay) ∧ w2.cell? ⟨w.heap.size, 1, none⟩ = some (.slice va xs.length vc) ∧ (∀ i, w2.frozen? ⟨w.heap.size, i, none⟩ = false) ∧ w2.cell? ⟨w.heap.size + 2, 0, none⟩ = some (.int .i64 0) ∧ w2.cell? ⟨w.heap.size + 2, 1, none⟩ = some (.slice none 0 0) ∧ (∀ i, w2.frozen? ⟨w.heap.size + 2, i, none⟩ = false) :=
  ⟨h.kp.r0.cell 0, h.kp.r0.cell 1, h.kp.r0.frz, h.kp.r2.cell 0, h.kp.r2.cell 1, h.kp.r2.frz⟩
theorem m7 {g : Nat} {w : World} (h : Row w g 34 (mcells m D da ta dc tc)) : w.cell? ⟨g, 0, none⟩ = some (.int .i64 D) ∧ w.cell? ⟨g, 1, none⟩ = some (.int .i64 m.kind) ∧ w.cell? ⟨g, 2, none⟩ = some (.int .i64 m.terminal) ∧ w.cell? ⟨g, 3, none⟩ = some (.int .i64 m.bearer) ∧ w.cell? ⟨g, 4, none⟩ = some (.int .i64 m.number) ∧ w.cell? ⟨g, 5, none⟩ = some (.slice da m.data.length dc) ∧ w.cell? ⟨g, 6, none⟩ = some (.slice ta m.tickets.length tc) :=
  ⟨h.cell 0, h.cell 1, h.cell 2, h.cell 3, h.cell 4, h.cell 5, h.cell 6⟩
theorem Kp.setAt {B : Nat} {D' : Int} {w : World} (h : Kp B delay D xs m va da ta vc dc tc w) : Kp B delay D' xs m va da ta vc dc tc (w.setCell ⟨B + 1, 0, none⟩ (.int .i64 D')) :=
  ⟨h.r0.setOther _ (by omega), h.r1.set 0 _, h.r2.setOther _ (by omega)⟩
end

set_option maxRecDepth 100000 in
set_option maxHeartbeats 8000000 in
theorem refPut_any (delay tick : Int) (v : Value) (xs : List Msg) (m : Msg) (mc : List Value) (S : Nat → Prop) (w : World) (hv : Sl msgR S w v xs) (hm : msgR.rd S w mc m) :
    Calls Try.prog 10 #[.agg #[.int .i64 delay, v], .agg mc.toArray, .int .i64 tick] w fun e w' => ∃ v', e = .returned (.tuple #[.agg #[.int .i64 delay, v'], .int .i64 (put delay xs m tick).2]) ∧ Sl msgR (fun _ => True) w' v' (put delay xs m tick).1 ∧ Below w.heap.size w w' := by
  obtain ⟨va, vc, rfl, hm0⟩ := hv.len
  have hv := hv.lt (S' := fun b => b < w.heap.size) (by decide) (fun b hb hlt => hlt)
  have hm := msgR.lt (S' := fun b => b < w.heap.size) hm (fun b hb hlt => hlt)
  obtain ⟨pd, pt, rfl, p1, p2, p3, p4, p5, p6, p7⟩ := hm
  obtain ⟨da, dc, rfl, -⟩ := p6.len
  obtain ⟨ta, tc, rfl, -⟩ := p7.len
  obtain ⟨W, hW⟩ : ∃ W, W = ((w.alloc (.cells #[.int .i64 delay, .slice va xs.length vc] 27)).alloc (.cells #[.int .i64 m.arr, .int .i64 m.kind, .int .i64 m.terminal, .int .i64 m.bearer, .int .i64 m.number, .slice da m.data.length dc, .slice ta m.tickets.length tc] 34)).alloc (.cells #[.int .i64 0, .slice none 0 0] 27) := ⟨_, rfl⟩
  have hbW : Below w.heap.size w W := by rw [hW]; exact (((Below.refl w.heap.size w).alloc (Nat.le_refl _) _).alloc (by simp) _).alloc (by simp; omega) _
  have hsW : W.heap.size = w.heap.size + 3 := by rw [hW]; simp
  have kp : Kp w.heap.size delay m.arr xs m va da ta vc dc tc W := by
    rw [hW]
    refine ⟨?_, ?_, ?_⟩
    · exact ((Row.new w _ [.int .i64 delay, .slice va xs.length vc]).below ((Below.refl _ _).alloc (Nat.le_refl _) _) (by simp)).below ((Below.refl _ _).alloc (Nat.le_refl _) _) (by simp; omega)
    · have := (Row.new (w.alloc (.cells #[.int .i64 delay, .slice va xs.length vc] 27)) 34 (mcells m m.arr da ta dc tc)).below ((Below.refl _ _).alloc (Nat.le_refl _) (.cells #[.int .i64 0, .slice none 0 0] 27)) (by simp)
      simpa using this
    · have := Row.new ((w.alloc (.cells #[.int .i64 delay, .slice va xs.length vc] 27)).alloc (.cells #[.int .i64 m.arr, .int .i64 m.kind, .int .i64 m.terminal, .int .i64 m.bearer, .int .i64 m.number, .slice da m.data.length dc, .slice ta m.tickets.length tc] 34)) 27 [.int .i64 0, .slice none 0 0]
      simpa using this
  have hv := hv.below hbW
  have p6 := p6.below hbW
  have p7 := p7.below hbW
  generalize hput : put delay xs m tick = pt
  have HPT := Lib.hid hput; clear hput
  go_enter Try.func10, Try.ntmps10
  go_wp2_with fail
  rw [← hW]
  clear hW
  refine (refCheck_any delay _ xs _ W hv).mono ?_
  rintro e w1 ⟨rfl, hb1⟩
  have kp := kp.below hb1
  have hv := hv.below hb1
  have p6 := p6.below hb1
  have p7 := p7.below hb1
  have hbx := hbW.trans (hb1.mono hbW.size)
  have hs1 := hb1.size
  clear hb1 hbW
  have a0 : w1.cell? ⟨w.heap.size, 0, none⟩ = some (.int .i64 delay) := kp.r0.cell 0
  have a1 : w1.cell? ⟨w.heap.size, 1, none⟩ = some (.slice va xs.length vc) := kp.r0.cell 1
  have m0 : w1.cell? ⟨w.heap.size + 1, 0, none⟩ = some (.int .i64 m.arr) := kp.r1.cell 0
  have mf := kp.r1.frz
  have c0 : w1.cell? ⟨w.heap.size + 2, 0, none⟩ = some (.int .i64 0) := kp.r2.cell 0
  have c1 : w1.cell? ⟨w.heap.size + 2, 1, none⟩ = some (.slice none 0 0) := kp.r2.cell 1
  have f2 := kp.r2.frz
  have hsame : Sl msgR (fun _ => True) ((w1.setCell ⟨w.heap.size + 2, 0, none⟩ (.int .i64 delay)).setCell ⟨w.heap.size + 2, 1, none⟩ (.slice va xs.length vc)) (.slice va xs.length vc) xs :=
    ((hv.kept (w' := w1.setCell ⟨w.heap.size + 2, 0, none⟩ (.int .i64 delay)) (fun b hb _ => Below.heap_setCell _ _ _ _ (by show b ≠ w.heap.size + 2; omega))).kept (fun b hb _ => Below.heap_setCell _ _ _ _ (by show b ≠ w.heap.size + 2; omega))).any (by decide)
  have HS := Lib.hid hsame; clear hsame
  have HB := Lib.hid hbx; clear hbx
  have HV := Lib.hid hv; clear hv
  have KP := Lib.hid kp; clear kp
  have P6 := Lib.hid p6; clear p6
  have P7 := Lib.hid p7; clear p7
  have PP := Lib.hid (And.intro p1 (And.intro p2 (And.intro p3 (And.intro p4 p5)))); clear p1 p2 p3 p4 p5
  by_cases hc : chk delay xs = 0
  · have HC := Lib.hid hc
    have hdel : 0 ≤ delay ∧ delay ≤ 1000 ∧ xs.length ≤ 256 ∧ okm 0 xs = true := by
      unfold chk at hc
      split at hc
      · simp at hc
      · split at hc
        · simp at hc
        · split at hc
          · rename_i h1 h2 h3; exact ⟨by omega, by omega, by omega, h3⟩
          · simp at hc
    obtain ⟨hd0, hd1, hxl, hokm⟩ := hdel
    have HOK := Lib.hid hokm; clear hokm
    rw [hc]; clear hc
    by_cases t1 : tick < 0
    · have ht : put delay xs m tick = (xs, 3) := by
        have hb : bgn delay xs tick = 3 := by unfold bgn; rw [if_pos HC.out, if_pos (.inl t1)]
        unfold put; rw [hb]; rfl
      obtain rfl := ht.symm.trans HPT.out
      clear ht
      go_wp2_with fail
      refine bodyPost_ret (v := .tuple #[.agg #[.int .i64 delay, .slice va xs.length vc], .int .i64 3]) (by simp [results, Try.results10, go_sem, c0, c1]) rfl ⟨_, rfl, HS.out, (HB.out.setCell (by simp; omega) _).setCell (by simp; omega) _⟩
    by_cases t2 : 1048576 < tick
    · have ht : put delay xs m tick = (xs, 3) := by
        have hb : bgn delay xs tick = 3 := by unfold bgn; rw [if_pos HC.out, if_pos (.inr t2)]
        unfold put; rw [hb]; rfl
      obtain rfl := ht.symm.trans HPT.out
      clear ht
      go_wp2_with fail
      refine bodyPost_ret (v := .tuple #[.agg #[.int .i64 delay, .slice va xs.length vc], .int .i64 3]) (by simp [results, Try.results10, go_sem, c0, c1]) rfl ⟨_, rfl, HS.out, (HB.out.setCell (by simp; omega) _).setCell (by simp; omega) _⟩
    have hbg : bgn delay xs tick = 0 := by unfold bgn; rw [if_pos HC.out, if_neg (by omega)]
    by_cases h256 : xs.length = 256
    · have ht : put delay xs m tick = (xs, 13) := by unfold put; rw [if_pos hbg, if_pos h256]
      obtain rfl := ht.symm.trans HPT.out
      clear ht hbg
      have hbb : ((xs.length : Int) == 256) = true := beq_iff_eq.2 (by omega)
      clear h256
      go_wp2_with fail
      refine bodyPost_ret (v := .tuple #[.agg #[.int .i64 delay, .slice va xs.length vc], .int .i64 13]) (by simp [results, Try.results10, go_sem, c0, c1]) rfl ⟨_, rfl, HS.out, (HB.out.setCell (by simp; omega) _).setCell (by simp; omega) _⟩
    have ht : put delay xs m tick = (xs ++ [{ m with arr := due delay xs tick }], 0) := by unfold put; rw [if_pos hbg, if_neg h256]
    obtain rfl := ht.symm.trans HPT.out
    have hbb : ((xs.length : Int) == 256) = false := beq_eq_false_iff_ne.2 (by omega)
    clear ht hbg h256 HPT HS HC c0 c1 f2
    have kp3 := KP.out.setAt (D' := tick + delay)
    have far : ∀ (u : World) (z : Value) b, b < w.heap.size → b < u.heap.size → (u.setCell ⟨w.heap.size + 1, 0, none⟩ z).heap[b]? = u.heap[b]? := fun u z b hb _ => Below.heap_setCell _ _ _ _ (by show b ≠ w.heap.size + 1; omega)
    have hv3 := HV.out.kept (far w1 (.int .i64 (tick + delay)))
    have p63 := P6.out.kept (far w1 (.int .i64 (tick + delay)))
    have p73 := P7.out.kept (far w1 (.int .i64 (tick + delay)))
    have hb3 := HB.out.setCell (p := ⟨w.heap.size + 1, 0, none⟩) (by simp) (.int .i64 (tick + delay))
    have KP3 := Lib.hid kp3; clear kp3
    have HV3 := Lib.hid hv3; clear hv3
    have P63 := Lib.hid p63; clear p63
    have P73 := Lib.hid p73; clear p73
    have HB3 := Lib.hid hb3; clear hb3
    have FAR := Lib.hid far; clear far KP HV HB P6 P7
    by_cases hx0 : 0 < xs.length
    case' pos =>
      obtain ⟨q, hq⟩ : ∃ q, xs.length - 1 = q := ⟨_, rfl⟩
      have hqx : q < xs.length := by omega
      obtain ⟨b, off, c, rfl, -, hrd, hcell⟩ := HV3.out.at q hqx
      obtain ⟨ld, lt, rfl, hlr, -⟩ := hrd
      have y0 : (w1.setCell ⟨w.heap.size + 1, 0, none⟩ (.int .i64 (tick + delay))).cell? ⟨b, off + q * 7, none⟩ = some (.int .i64 xs[q].arr) := hcell 0 (by decide)
      have hdue : due delay xs tick = max (tick + delay) xs[q].arr := by
        unfold due
        have : xs.getLast? = some xs[q] := by rw [List.getLast?_eq_getElem?, hq, List.getElem?_eq_getElem hqx]
        rw [this]
      have hlast := okm_rng xs 0 HOK.out xs[q] (List.getElem_mem _)
      generalize xs[q].arr = la at *
      clear hcell
      have s1 : IntKind.i64.wrap ((xs.length : Int) - 1) = (q : Int) := by rw [IntWalk.i64_in _ (by omega)]; omega
      have q0 : (0 : Int) ≤ (q : Int) := by omega
      have q1 : (q : Int) < (xs.length : Int) := by omega
      clear hq
      have HDU := Lib.hid hdue; clear hdue
      go_upto_region 11 with (fail)
      have z1 : (w1.setCell ⟨w.heap.size + 1, 0, none⟩ (.int .i64 (tick + delay))).cell? ⟨w.heap.size, 1, none⟩ = some (.slice (some ⟨b, off, none⟩) xs.length vc) := KP3.out.r0.cell 1
      have x0 : (w1.setCell ⟨w.heap.size + 1, 0, none⟩ (.int .i64 (tick + delay))).cell? ⟨w.heap.size + 1, 0, none⟩ = some (.int .i64 (tick + delay)) := KP3.out.r1.cell 0
      have fx := KP3.out.r1.frz
      clear a0 a1 m0 mf
      generalize w1.setCell ⟨w.heap.size + 1, 0, none⟩ (.int .i64 (tick + delay)) = W3 at *
      refine wp_region_still_tail 11 (by kernel_rfl) (by kernel_rfl) ?_
      simp only [List.take_succ_cons, List.take_zero, List.drop_succ_cons, List.drop_zero]
      repeat still_step
      refine wpStill_nil ?_
      change wpList _ _ _ _ _ W3.drew
      have hDD : due delay xs tick = if tick + delay < la then la else tick + delay := by rw [HDU.out]; split <;> omega
      generalize hDx : (if tick + delay < la then la else tick + delay) = D at *
      have hDr : rng D := by rw [← hDx]; split <;> exact ⟨by omega, by omega⟩
      clear hDx s1 HDU
      have HD := Lib.hid hDD; clear hDD
      have KP4 := Lib.hid (KP3.out.setAt (D' := D)).drew; clear KP3
      have HV4 := Lib.hid (HV3.out.kept (FAR.out W3 (.int .i64 D))).drew; clear HV3
      have P64 := Lib.hid (P63.out.kept (FAR.out W3 (.int .i64 D))).drew; clear P63
      have P74 := Lib.hid (P73.out.kept (FAR.out W3 (.int .i64 D))).drew; clear P73
      have HB4 := Lib.hid (HB3.out.setCell (p := ⟨w.heap.size + 1, 0, none⟩) (by simp) (.int .i64 D)).drew; clear HB3
      go_upto_region 12 with (fail)
      clear z1 x0 fx y0
      generalize (W3.setCell ⟨w.heap.size + 1, 0, none⟩ (.int .i64 D)).drew = W4 at *
      clear hlr
      generalize hva : (some ⟨b, off, none⟩ : Option Addr) = va at *
      clear hva
    case' neg =>
      have hz : decide (0 < (xs.length : Int)) = false := decide_eq_false (by omega)
      have hDr : rng (tick + delay) := ⟨by omega, by omega⟩
      have hDD : due delay xs tick = tick + delay := by
        obtain rfl : xs = [] := List.eq_nil_of_length_eq_zero (by omega)
        rfl
      have HD := Lib.hid hDD; clear hDD
      go_upto_region 12 with (fail)
      clear a0 a1 m0 mf hz
      generalize w1.setCell ⟨w.heap.size + 1, 0, none⟩ (.int .i64 (tick + delay)) = W4 at *
      generalize tick + delay = D at *
      have KP4 := KP3; clear KP3
      have HV4 := HV3; clear HV3
      have P64 := P63; clear P63
      have P74 := P73; clear P73
      have HB4 := HB3; clear HB3
    all_goals
      clear FAR
      have hm4 : msgR.rd (fun b => b < w.heap.size) W4 (mcells m D da ta dc tc) { m with arr := D } := ⟨_, _, rfl, hDr, PP.out.2.1, PP.out.2.2.1, PP.out.2.2.2.1, PP.out.2.2.2.2, P64.out, P74.out⟩
      have kp4 := KP4.out
      have hv4 := HV4.out
      have hb4 := HB4.out
      have hn4 : w.heap.size + 3 ≤ W4.heap.size := kp4.r2.lt
      clear P64 P74 KP4 HV4 HB4
      obtain ⟨n, hn⟩ : ∃ n, n = (xs ++ [{ m with arr := D }]).length := ⟨_, rfl⟩
      have bE := (Below.refl W4.heap.size W4).alloc (Nat.le_refl _) (.cells #[] 34)
      have bM := (Below.refl W4.heap.size W4).alloc (Nat.le_refl _) (.cells (mcells m D da ta dc tc).toArray 34)
      have bA := (bE.alloc (by simp) (.cells (mcells m D da ta dc tc).toArray 34)).drew
      have bB := (bM.alloc (by simp) (.cells #[] 34)).drew
      have eA : Row ((W4.alloc (.cells #[] 34)).alloc (.cells (mcells m D da ta dc tc).toArray 34)).drew W4.heap.size 34 [] := ((Row.new W4 34 []).below ((Below.refl _ _).alloc (Nat.le_refl _) _) (by simp)).drew
      have mA : Row ((W4.alloc (.cells #[] 34)).alloc (.cells (mcells m D da ta dc tc).toArray 34)).drew (W4.heap.size + 1) 34 (mcells m D da ta dc tc) := by
        have := (Row.new (W4.alloc (.cells #[] 34)) 34 (mcells m D da ta dc tc)).drew
        simpa using this
      have mB : Row ((W4.alloc (.cells (mcells m D da ta dc tc).toArray 34)).alloc (.cells #[] 34)).drew W4.heap.size 34 (mcells m D da ta dc tc) := ((Row.new W4 34 (mcells m D da ta dc tc)).below ((Below.refl _ _).alloc (Nat.le_refl _) _) (by simp)).drew
      have eB : Row ((W4.alloc (.cells (mcells m D da ta dc tc).toArray 34)).alloc (.cells #[] 34)).drew (W4.heap.size + 1) 34 [] := by
        have := (Row.new (W4.alloc (.cells (mcells m D da ta dc tc).toArray 34)) 34 []).drew
        simpa using this
      obtain ⟨v1A, w1A, v2A, w2A, run1A, run2A, kA1, dnA⟩ := two_apps (w := w) (kp4.below bA) (hv4.below bA) (msgR.kept hm4 (fun b _ hlt => bA.block b hlt)) (hb4.trans (bA.mono hb4.size)) hxl W4.heap.size (W4.heap.size + 1) (by omega) (by omega) (by simp; omega) (by simp) (by omega) eA mA
      obtain ⟨v1B, w1B, v2B, w2B, run1B, run2B, kB1, dnB⟩ := two_apps (w := w) (kp4.below bB) (hv4.below bB) (msgR.kept hm4 (fun b _ hlt => bB.block b hlt)) (hb4.trans (bB.mono hb4.size)) hxl (W4.heap.size + 1) W4.heap.size (by omega) (by omega) (by simp) (by simp; omega) (by omega) eB mB
      obtain ⟨v1C, w1C, v2C, w2C, run1C, run2C, kC1, dnC⟩ := app_app (w := w) (kp4.below bE.drew) (hv4.below bE.drew) (msgR.kept hm4 (fun b _ hlt => bE.drew.block b hlt)) (hb4.trans (bE.drew.mono hb4.size)) hxl W4.heap.size (by omega) (by simp) (Row.new W4 34 []).drew
      obtain ⟨oaA, ocA, hvA⟩ := dnA.own.len
      obtain ⟨oaB, ocB, hvB⟩ := dnB.own.len
      obtain ⟨oaC, ocC, hvC⟩ := dnC.own.len
      rw [← hn] at hvA hvB hvC
      subst hvA hvB hvC
      have HN := Lib.hid hn; clear hn
      obtain ⟨j0, j1, j2, j3, j4, j5, j6⟩ := m7 kp4.r1
      obtain ⟨i0, i1, i2, i3, i4, i5, i6⟩ := m7 (kp4.below bE).r1
      obtain ⟨h0, h1, h2, h3, h4, h5, h6⟩ := m7 kC1.r1
      have l0 : W4.cell? ⟨w.heap.size, 1, none⟩ = some (.slice va xs.length vc) := kp4.r0.cell 1
      have lE : (W4.alloc (.cells #[] 34)).cell? ⟨w.heap.size, 1, none⟩ = some (.slice va xs.length vc) := (kp4.below bE).r0.cell 1
      have lM : (W4.alloc (.cells (mcells m D da ta dc tc).toArray 34)).cell? ⟨w.heap.size, 1, none⟩ = some (.slice va xs.length vc) := (kp4.below bM).r0.cell 1
      have lA : ((W4.alloc (.cells #[] 34)).alloc (.cells (mcells m D da ta dc tc).toArray 34)).cell? ⟨w.heap.size, 1, none⟩ = some (.slice va xs.length vc) := (kp4.below bA).r0.cell 1
      have lB : ((W4.alloc (.cells (mcells m D da ta dc tc).toArray 34)).alloc (.cells #[] 34)).cell? ⟨w.heap.size, 1, none⟩ = some (.slice va xs.length vc) := (kp4.below bB).r0.cell 1
      have fzA : w2A.frozen? ⟨w.heap.size, 1, none⟩ = false := dnA.kp.r0.frz 1
      have fzB : w2B.frozen? ⟨w.heap.size, 1, none⟩ = false := dnB.kp.r0.frz 1
      have fzC : w2C.frozen? ⟨w.heap.size, 1, none⟩ = false := dnC.kp.r0.frz 1
      have szA : w2A.cell? ⟨w.heap.size, 1, none⟩ = some (.slice va xs.length vc) := dnA.kp.r0.cell 1
      have szB : w2B.cell? ⟨w.heap.size, 1, none⟩ = some (.slice va xs.length vc) := dnB.kp.r0.cell 1
      have szC : w2C.cell? ⟨w.heap.size, 1, none⟩ = some (.slice va xs.length vc) := dnC.kp.r0.cell 1
      have DA := Lib.hid dnA; clear dnA
      have DB := Lib.hid dnB; clear dnB
      have DC := Lib.hid dnC; clear dnC
      have R1A := Lib.hid run1A; clear run1A
      have R2A := Lib.hid run2A; clear run2A
      have R1B := Lib.hid run1B; clear run1B
      have R2B := Lib.hid run2B; clear run2B
      have R1C := Lib.hid run1C; clear run1C
      have R2C := Lib.hid run2C; clear run2C
      clear kA1 kB1 kC1 bE bM bA bB eA mA eB mB hm4 kp4 hv4 hb4 PP
      go_region_law (first | (refine step_append_run4 _ _ 25 R1A.out (by with_reducible rfl) (by rfl) (by rfl) (by rfl) (by rfl) (by rfl) ?_) | (refine step_append_run4 _ _ 25 R2A.out (by with_reducible rfl) (by rfl) (by rfl) (by rfl) (by rfl) (by rfl) ?_) | (refine step_append_run4 _ _ 25 R1B.out (by with_reducible rfl) (by rfl) (by rfl) (by rfl) (by rfl) (by rfl) ?_) | (refine step_append_run4 _ _ 25 R2B.out (by with_reducible rfl) (by rfl) (by rfl) (by rfl) (by rfl) (by rfl) ?_) | (refine step_append_run4 _ _ 25 R1C.out (by with_reducible rfl) (by rfl) (by rfl) (by rfl) (by rfl) (by rfl) ?_) | (refine step_append_run4 _ _ 25 R2C.out (by with_reducible rfl) (by rfl) (by rfl) (by rfl) (by rfl) (by rfl) ?_))
      all_goals
        clear l0 lE lM lA lB szA szB szC fzA fzB fzC j0 j1 j2 j3 j4 j5 j6 i0 i1 i2 i3 i4 i5 i6 h0 h1 h2 h3 h4 h5 h6 R1A R1B R1C R2A R2B R2C
        obtain ⟨ya0, ya1, yaf, ya2, ya3, yag⟩ := DA.out.facts
        obtain ⟨yb0, yb1, ybf, yb2, yb3, ybg⟩ := DB.out.facts
        obtain ⟨yc0, yc1, ycf, yc2, yc3, ycg⟩ := DC.out.facts
        go_wp2_with fail
        first
          | exact bodyPost_ret (v := .tuple #[.agg #[.int .i64 delay, .slice oaA n ocA], .int .i64 0]) (by simp [results, Try.results10, go_sem, ya2, ya3]) rfl ⟨_, rfl, by rw [HD.out]; exact DA.out.done.1, DA.out.done.2⟩
          | exact bodyPost_ret (v := .tuple #[.agg #[.int .i64 delay, .slice oaB n ocB], .int .i64 0]) (by simp [results, Try.results10, go_sem, yb2, yb3]) rfl ⟨_, rfl, by rw [HD.out]; exact DB.out.done.1, DB.out.done.2⟩
          | exact bodyPost_ret (v := .tuple #[.agg #[.int .i64 delay, .slice oaC n ocC], .int .i64 0]) (by simp [results, Try.results10, go_sem, yc2, yc3]) rfl ⟨_, rfl, by rw [HD.out]; exact DC.out.done.1, DC.out.done.2⟩
  · have hcb : (chk delay xs != 0) = true := by rw [bne_iff_ne]; exact hc
    have ht : put delay xs m tick = (xs, chk delay xs) := by
      have hb : bgn delay xs tick = chk delay xs := by unfold bgn; rw [if_neg hc]
      unfold put; rw [if_neg (by rw [hb]; exact hc), hb]
    obtain rfl := ht.symm.trans HPT.out
    clear ht HPT hc
    go_wp2_with fail
    refine bodyPost_ret (v := .tuple #[.agg #[.int .i64 delay, .slice va xs.length vc], .int .i64 (chk delay xs)]) (by simp [results, Try.results10, go_sem, c0, c1]) rfl ⟨_, rfl, HS.out, (HB.out.setCell (by simp; omega) _).setCell (by simp; omega) _⟩
end Go.Proofs.Ytmfifkkmbkcibaa
