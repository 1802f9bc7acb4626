/-
  The walk of AnchorRaw.
-/
import Derived.Test.YtmfifkkmbkcibaaAnchF4
import Derived.Test.YtmfifkkmbkcibaaAnchQ2
import Derived.Test.YtmfifkkmbkcibaaAnchW
namespace Go.Proofs.Ytmfifkkmbkcibaa
set_option linter.unusedVariables false
open Go.RowKit

/-- What AnchorRaw's boxes hold. -/
structure Bg (B : Nat) (delay : Int) (xs : List Msg) (m : Msg) (zs : List Int) (va da ta aa : Option Addr) (vc dc tc ac : Nat) (w : World) : Prop where
  r0 : Row w B 27 [.int .i64 delay, .slice va xs.length vc]
  r1 : Row w (B + 1) 34 (mcells m m.arr da ta dc tc)
  r2 : Row w (B + 2) 39 [.slice aa zs.length ac]
  sx : Sl msgR (fun b => b < B) w (.slice va xs.length vc) xs
  sm : msgR.rd (fun b => b < B) w (mcells m m.arr da ta dc tc) m
  sa : Sl intR (fun b => b < B) w (.slice aa zs.length ac) zs
section
variable {B : Nat} {delay : Int} {xs : List Msg} {m : Msg} {zs : List Int} {va da ta aa : Option Addr} {vc dc tc ac : Nat} {w w' : World}
theorem Bg.below (h : Bg B delay xs m zs va da ta aa vc dc tc ac w) (hb : Below w.heap.size w w') : Bg B delay xs m zs va da ta aa vc dc tc ac w' :=
  ⟨h.r0.below hb h.r0.lt, h.r1.below hb h.r1.lt, h.r2.below hb h.r2.lt, h.sx.below hb, msgR.kept h.sm (fun b _ hlt => hb.block b hlt), h.sa.below hb⟩
theorem Bg.drew (h : Bg B delay xs m zs va da ta aa vc dc tc ac w) : Bg B delay xs m zs va da ta aa vc dc tc ac w.drew := h.below ⟨rfl, rfl, rfl, Nat.le_refl _, fun _ _ => rfl⟩
theorem Bg.alloc (h : Bg B delay xs m zs va da ta aa vc dc tc ac w) (o : Obj) : Bg B delay xs m zs va da ta aa vc dc tc ac (w.alloc o) := h.below ((Below.refl _ _).alloc (Nat.le_refl _) o)
end

/-- What is known behind the calls (Kr). -/
structure Kr (B : Nat) (delay : Int) (vt vx vy vu vv vl vk : Value) (xs ps us ls : List Msg) (nx ny nu nv : Nat) (w : World) : Prop where
  rt : Row w B 27 [.int .i64 delay, vt]
  rx : Row w nx 27 [.int .i64 delay, vx]
  ry : Row w ny 27 [.int .i64 delay, vy]
  ru : Row w nu 27 [.int .i64 delay, vu]
  rv : Row w nv 27 [.int .i64 delay, vv]
  st : Sl msgR (fun _ => True) w vt xs
  sx : Sl msgR (fun _ => True) w vx ps
  sy : Sl msgR (fun _ => True) w vy ps
  su : Sl msgR (fun _ => True) w vu us
  sv : Sl msgR (fun _ => True) w vv us
  sl : Sl msgR (fun _ => True) w vl ls
  sk : Sl msgR (fun _ => True) w vk ls
/-- What is known behind the calls (Ka). -/
structure Ka (B : Nat) (va vp vq vb vc : Value) (zs ps bs : List Int) (np nq nb nc : Nat) (w : World) : Prop where
  ra : Row w B 39 [va]
  rp : Row w np 39 [vp]
  rq : Row w nq 39 [vq]
  rb : Row w nb 39 [vb]
  rc : Row w nc 39 [vc]
  sa : Sl intR (fun _ => True) w va zs
  sp : Sl intR (fun _ => True) w vp ps
  sq : Sl intR (fun _ => True) w vq ps
  sb : Sl intR (fun _ => True) w vb bs
  sc : Sl intR (fun _ => True) w vc bs
section
variable {B : Nat} {delay : Int} {vt vx vy vu vv vl vk : Value} {xs ps us ls : List Msg} {nx ny nu nv : Nat} {w w' : World}
theorem Kr.below (h : Kr B delay vt vx vy vu vv vl vk xs ps us ls nx ny nu nv w) (hb : Below w.heap.size w w') : Kr B delay vt vx vy vu vv vl vk xs ps us ls nx ny nu nv w' :=
  ⟨h.rt.below hb h.rt.lt, h.rx.below hb h.rx.lt, h.ry.below hb h.ry.lt, h.ru.below hb h.ru.lt, h.rv.below hb h.rv.lt, h.st.below hb, h.sx.below hb, h.sy.below hb, h.su.below hb, h.sv.below hb, h.sl.below hb, h.sk.below hb⟩
theorem Kr.drew (h : Kr B delay vt vx vy vu vv vl vk xs ps us ls nx ny nu nv w) : Kr B delay vt vx vy vu vv vl vk xs ps us ls nx ny nu nv w.drew := h.below ⟨rfl, rfl, rfl, Nat.le_refl _, fun _ _ => rfl⟩
theorem Kr.cells (h : Kr B delay vt vx vy vu vv vl vk xs ps us ls nx ny nu nv w) : w.cell? ⟨B, 0, none⟩ = some (.int .i64 delay) ∧ w.cell? ⟨B, 1, none⟩ = some vt ∧ w.cell? ⟨nx, 0, none⟩ = some (.int .i64 delay) ∧ w.cell? ⟨nx, 1, none⟩ = some vx ∧ w.cell? ⟨ny, 0, none⟩ = some (.int .i64 delay) ∧ w.cell? ⟨ny, 1, none⟩ = some vy ∧ w.cell? ⟨nu, 0, none⟩ = some (.int .i64 delay) ∧ w.cell? ⟨nu, 1, none⟩ = some vu ∧ w.cell? ⟨nv, 0, none⟩ = some (.int .i64 delay) ∧ w.cell? ⟨nv, 1, none⟩ = some vv :=
  ⟨h.rt.cell 0, h.rt.cell 1, h.rx.cell 0, h.rx.cell 1, h.ry.cell 0, h.ry.cell 1, h.ru.cell 0, h.ru.cell 1, h.rv.cell 0, h.rv.cell 1⟩
end
section
variable {B : Nat} {va vp vq vb vc : Value} {zs ps bs : List Int} {np nq nb nc : Nat} {w w' : World}
theorem Ka.below (h : Ka B va vp vq vb vc zs ps bs np nq nb nc w) (hb : Below w.heap.size w w') : Ka B va vp vq vb vc zs ps bs np nq nb nc w' :=
  ⟨h.ra.below hb h.ra.lt, h.rp.below hb h.rp.lt, h.rq.below hb h.rq.lt, h.rb.below hb h.rb.lt, h.rc.below hb h.rc.lt, h.sa.below hb, h.sp.below hb, h.sq.below hb, h.sb.below hb, h.sc.below hb⟩
theorem Ka.drew (h : Ka B va vp vq vb vc zs ps bs np nq nb nc w) : Ka B va vp vq vb vc zs ps bs np nq nb nc w.drew := h.below ⟨rfl, rfl, rfl, Nat.le_refl _, fun _ _ => rfl⟩
theorem Ka.cells (h : Ka B va vp vq vb vc zs ps bs np nq nb nc w) : w.cell? ⟨B, 0, none⟩ = some va ∧ w.cell? ⟨np, 0, none⟩ = some vp ∧ w.cell? ⟨nq, 0, none⟩ = some vq ∧ w.cell? ⟨nb, 0, none⟩ = some vb ∧ w.cell? ⟨nc, 0, none⟩ = some vc :=
  ⟨h.ra.cell 0, h.rp.cell 0, h.rq.cell 0, h.rb.cell 0, h.rc.cell 0⟩
end

set_option maxRecDepth 100000 in
set_option maxHeartbeats 8000000 in
theorem raw_any (delay tick terms term cell : Int) (v va0 : Value) (xs : List Msg) (m : Msg) (mc : List Value) (zs : List Int) (S : Nat → Prop) (w : World) (hv : Sl msgR S w v xs) (hm : msgR.rd S w mc m) (ha : Sl intR S w va0 zs)
    (hl : xs.length * 88 ≤ 140737488355328) (hf : ∀ m ∈ xs, m.fits) (hfm : m.fits) (hla : zs.length * 8 ≤ 140737488355328) (htk : rng tick) (hcr : rng cell) :
    Calls Try.prog 4 #[.agg #[.int .i64 delay, v], .agg mc.toArray, .int .i64 tick, .int .i64 terms, .agg #[va0], .int .i64 term, .int .i64 cell] w fun e w' => e = .returned (.bool true) ∧ Below w.heap.size w w' := by
  obtain ⟨va, vc, rfl, hm0⟩ := hv.len
  obtain ⟨aa, ac, rfl, hm1⟩ := ha.len
  have hv := hv.lt (S' := fun b => b < w.heap.size) (by decide) (fun b hb hlt => hlt)
  have ha := ha.lt (S' := fun b => b < w.heap.size) (by decide) (fun b hb hlt => hlt)
  have hm := msgR.lt (S' := fun b => b < w.heap.size) hm (fun b hb hlt => hlt)
  have hmc : ∃ da dc ta tc, mc = mcells m m.arr da ta dc tc := by
    obtain ⟨pd, pt, rfl, p1, p2, p3, p4, p5, p6, p7⟩ := hm
    obtain ⟨da, dc, rfl, -⟩ := p6.len
    obtain ⟨ta, tc, rfl, -⟩ := p7.len
    exact ⟨da, dc, ta, tc, rfl⟩
  obtain ⟨da, dc, ta, tc, rfl⟩ := hmc
  obtain ⟨W, hW⟩ : ∃ W, W = ((w.alloc (.cells #[.int .i64 delay, .slice va xs.length vc] 27)).alloc (.cells #[.int .i64 m.arr, .int .i64 m.kind, .int .i64 m.terminal, .int .i64 m.bearer, .int .i64 m.number, .slice da m.data.length dc, .slice ta m.tickets.length tc] 34)).alloc (.cells #[.slice aa zs.length ac] 39) := ⟨_, rfl⟩
  have hbW : Below w.heap.size w W := by rw [hW]; exact (((Below.refl w.heap.size w).alloc (Nat.le_refl _) _).alloc (by simp) _).alloc (by simp; omega) _
  have bg : Bg w.heap.size delay xs m zs va da ta aa vc dc tc ac W := by
    refine ⟨?_, ?_, ?_, hv.below hbW, msgR.kept hm (fun b _ hlt => hbW.block b hlt), ha.below hbW⟩
    · rw [hW]; exact ((Row.new w _ [.int .i64 delay, .slice va xs.length vc]).below ((Below.refl _ _).alloc (Nat.le_refl _) _) (by simp)).below ((Below.refl _ _).alloc (Nat.le_refl _) _) (by simp; omega)
    · rw [hW]
      have := (Row.new (w.alloc (.cells #[.int .i64 delay, .slice va xs.length vc] 27)) 34 (mcells m m.arr da ta dc tc)).below ((Below.refl _ _).alloc (Nat.le_refl _) (.cells #[.slice aa zs.length ac] 39)) (by simp)
      simpa using this
    · rw [hW]
      have := Row.new ((w.alloc (.cells #[.int .i64 delay, .slice va xs.length vc] 27)).alloc (.cells #[.int .i64 m.arr, .int .i64 m.kind, .int .i64 m.terminal, .int .i64 m.bearer, .int .i64 m.number, .slice da m.data.length dc, .slice ta m.tickets.length tc] 34)) 39 [.slice aa zs.length ac]
      simpa using this
  clear hv ha hm
  have a1 : W.cell? ⟨w.heap.size, 1, none⟩ = some (.slice va xs.length vc) := bg.r0.cell 1
  go_enter Try.func4, Try.ntmps4
  go_upto_region 1 with (fail)
  rw [← hW]
  clear hW
  go_wp2_with fail
  clear a1
  refine (light_any _ xs _ W bg.sx).mono ?_
  rintro e w1 ⟨b1, rfl, hb1⟩
  have bg := bg.below hb1
  have hbx := hbW.trans (hb1.mono hbW.size)
  clear hb1 hbW
  have e0 : w1.cell? ⟨w.heap.size + 1, 0, none⟩ = some (.int .i64 m.arr) := bg.r1.cell 0
  have e1 := (m7 bg.r1).2
  obtain ⟨e1, e2, e3, e4, e5, e6⟩ := e1
  have HB := Lib.hid hbx; clear hbx
  have BG := Lib.hid bg; clear bg
  cases b1 with
  | false =>
    go_wp2_with fail
    refine (awake_any _).mono ?_
    rintro e w2 ⟨rfl, hb2⟩
    have hfin := HB.out.trans (hb2.mono HB.out.size)
    have HF := Lib.hid hfin; clear hfin hb2
    go_wp2_with fail
    go_ret
    exact ⟨rfl, HF.out⟩
  | true =>
    go_wp2_with fail
    refine (light_any _ [m] _ _ (sl_newM BG.out.sm)).mono ?_
    rintro e w2 ⟨b2, rfl, hb2⟩
    have hal := (Below.refl w1.heap.size w1).alloc (Nat.le_refl _) (.cells #[.int .i64 m.arr, .int .i64 m.kind, .int .i64 m.terminal, .int .i64 m.bearer, .int .i64 m.number, .slice da m.data.length dc, .slice ta m.tickets.length tc] 34)
    have hb := hal.trans (hb2.mono (by simp))
    clear hal hb2 e0 e1 e2 e3 e4 e5 e6
    have bg := BG.out.below hb
    have hbx := HB.out.trans (hb.mono HB.out.size)
    clear BG HB hb
    have t0 : w2.cell? ⟨w.heap.size, 0, none⟩ = some (.int .i64 delay) := bg.r0.cell 0
    have t1 : w2.cell? ⟨w.heap.size, 1, none⟩ = some (.slice va xs.length vc) := bg.r0.cell 1
    obtain ⟨m0, m1, m2, m3, m4, m5, m6⟩ := m7 bg.r1
    have a0 : w2.cell? ⟨w.heap.size + 2, 0, none⟩ = some (.slice aa zs.length ac) := bg.r2.cell 0
    have BG := Lib.hid bg; clear bg
    have HB := Lib.hid hbx; clear hbx
    cases b2 with
    | false =>
      go_wp2_with fail
      refine (awake_any _).mono ?_
      rintro e w3 ⟨rfl, hb2⟩
      have hfin := HB.out.trans (hb2.mono HB.out.size)
      have HF := Lib.hid hfin; clear hfin hb2
      go_wp2_with fail
      go_ret
      exact ⟨rfl, HF.out⟩
    | true =>
      by_cases h60 : 60 < zs.length
      · skip
        go_wp2_with fail
        refine (awake_any _).mono ?_
        rintro e w3 ⟨rfl, hb2⟩
        have hfin := HB.out.trans (hb2.mono HB.out.size)
        have HF := Lib.hid hfin; clear hfin hb2
        go_wp2_with fail
        go_ret
        exact ⟨rfl, HF.out⟩
      go_wp2_with fail
      clear t0 t1 m0 m1 m2 m3 m4 m5 m6 a0
      refine (put_any delay tick _ xs m _ _ w2 BG.out.sx BG.out.sm hl hf hfm htk).mono ?_
      rintro e w3 ⟨x1, rfl, kx, hb3⟩
      obtain ⟨xa, xc, rfl⟩ := kx.len
      have kx := kx.sl (S' := fun _ => True) (fun _ _ => trivial) (fun _ _ => trivial)
      have hal := (Below.refl w3.heap.size w3).alloc (Nat.le_refl _) (.cells #[.int .i64 delay, .slice xa (put delay xs m tick).1.length xc] 27)
      have hbb := hb3.trans (hal.mono hb3.size)
      clear hb3
      have bg := BG.out.below hbb
      have hbx := HB.out.trans (hbb.mono HB.out.size)
      clear BG HB hbb
      have rx := Row.new w3 27 [.int .i64 delay, .slice xa (put delay xs m tick).1.length xc]
      have sx := kx.below hal
      clear hal
      clear kx
      have t0 : (w3.alloc (.cells #[.int .i64 delay, .slice xa (put delay xs m tick).1.length xc] 27)).cell? ⟨w.heap.size, 0, none⟩ = some (.int .i64 delay) := bg.r0.cell 0
      have t1 : (w3.alloc (.cells #[.int .i64 delay, .slice xa (put delay xs m tick).1.length xc] 27)).cell? ⟨w.heap.size, 1, none⟩ = some (.slice va xs.length vc) := bg.r0.cell 1
      obtain ⟨m0, m1, m2, m3, m4, m5, m6⟩ := m7 bg.r1
      have BG := Lib.hid bg; clear bg
      have RX := Lib.hid rx; clear rx
      have SX := Lib.hid sx; clear sx
      have HB := Lib.hid hbx; clear hbx
      go_wp2_with fail
      clear t0 t1 m0 m1 m2 m3 m4 m5 m6
      refine (refPut_any delay tick _ xs m _ _ _ BG.out.sx BG.out.sm).mono ?_
      rintro e w4 ⟨y1, rfl, sy, hb4⟩
      obtain ⟨ya, yc, rfl, -⟩ := sy.len
      have hal := (Below.refl w4.heap.size w4).alloc (Nat.le_refl _) (.cells #[.int .i64 delay, .slice ya (put delay xs m tick).1.length yc] 27)
      have hbb := hb4.trans (hal.mono hb4.size)
      clear hb4
      have bg := BG.out.below hbb
      have rx := RX.out.below hbb RX.out.lt
      have sx := SX.out.below hbb
      have hbx := HB.out.trans (hbb.mono HB.out.size)
      clear BG RX SX HB hbb
      have ry := Row.new w4 27 [.int .i64 delay, .slice ya (put delay xs m tick).1.length yc]
      have sy := sy.below hal
      clear hal
      have t0 : (w4.alloc (.cells #[.int .i64 delay, .slice ya (put delay xs m tick).1.length yc] 27)).cell? ⟨w.heap.size, 0, none⟩ = some (.int .i64 delay) := bg.r0.cell 0
      have t1 : (w4.alloc (.cells #[.int .i64 delay, .slice ya (put delay xs m tick).1.length yc] 27)).cell? ⟨w.heap.size, 1, none⟩ = some (.slice va xs.length vc) := bg.r0.cell 1
      have BG := Lib.hid bg; clear bg
      have RX := Lib.hid rx; clear rx
      have SX := Lib.hid sx; clear sx
      have RY := Lib.hid ry; clear ry
      have SY := Lib.hid sy; clear sy
      have HB := Lib.hid hbx; clear hbx
      go_wp2_with fail
      clear t0 t1
      refine (take_any delay tick _ xs _ _ BG.out.sx hl hf).mono ?_
      rintro e w5 ⟨u1, l1, rfl, su, sl, hb5⟩
      obtain ⟨ua, uc, rfl, -⟩ := su.len
      obtain ⟨la, lc, rfl, -⟩ := sl.len
      have su := su.any (by decide)
      have sl := sl.any (by decide)
      have hal := (Below.refl w5.heap.size w5).alloc (Nat.le_refl _) (.cells #[.int .i64 delay, .slice ua (take delay xs tick).1.length uc] 27)
      have hbb := hb5.trans (hal.mono hb5.size)
      clear hb5
      have bg := BG.out.below hbb
      have rx := RX.out.below hbb RX.out.lt
      have sx := SX.out.below hbb
      have ry := RY.out.below hbb RY.out.lt
      have sy := SY.out.below hbb
      have hbx := HB.out.trans (hbb.mono HB.out.size)
      clear BG RX SX RY SY HB hbb
      have ru := Row.new w5 27 [.int .i64 delay, .slice ua (take delay xs tick).1.length uc]
      have su := su.below hal
      have sl := sl.below hal
      clear hal
      have t0 : (w5.alloc (.cells #[.int .i64 delay, .slice ua (take delay xs tick).1.length uc] 27)).cell? ⟨w.heap.size, 0, none⟩ = some (.int .i64 delay) := bg.r0.cell 0
      have t1 : (w5.alloc (.cells #[.int .i64 delay, .slice ua (take delay xs tick).1.length uc] 27)).cell? ⟨w.heap.size, 1, none⟩ = some (.slice va xs.length vc) := bg.r0.cell 1
      have BG := Lib.hid bg; clear bg
      have RX := Lib.hid rx; clear rx
      have SX := Lib.hid sx; clear sx
      have RY := Lib.hid ry; clear ry
      have SY := Lib.hid sy; clear sy
      have RU := Lib.hid ru; clear ru
      have SU := Lib.hid su; clear su
      have SL := Lib.hid sl; clear sl
      have HB := Lib.hid hbx; clear hbx
      go_wp2_with fail
      clear t0 t1
      refine (refTake_any delay tick _ xs _ _ BG.out.sx hl).mono ?_
      rintro e w6 ⟨v1, k1, rfl, sv, sk, hb6⟩
      obtain ⟨vva, vvc, rfl, -⟩ := sv.len
      obtain ⟨ka, kc, rfl, -⟩ := sk.len
      have hal := (Below.refl w6.heap.size w6).alloc (Nat.le_refl _) (.cells #[.int .i64 delay, .slice vva (take delay xs tick).1.length vvc] 27)
      have hbb := hb6.trans (hal.mono hb6.size)
      clear hb6
      have bg := BG.out.below hbb
      have rx := RX.out.below hbb RX.out.lt
      have sx := SX.out.below hbb
      have ry := RY.out.below hbb RY.out.lt
      have sy := SY.out.below hbb
      have ru := RU.out.below hbb RU.out.lt
      have su := SU.out.below hbb
      have sl := SL.out.below hbb
      have hbx := HB.out.trans (hbb.mono HB.out.size)
      clear BG RX SX RY SY RU SU SL HB hbb
      have rv := Row.new w6 27 [.int .i64 delay, .slice vva (take delay xs tick).1.length vvc]
      have sv := sv.below hal
      have sk := sk.below hal
      clear hal
      have k0 : Kr w.heap.size delay (.slice va xs.length vc) (.slice xa (put delay xs m tick).1.length xc) (.slice ya (put delay xs m tick).1.length yc) (.slice ua (take delay xs tick).1.length uc) (.slice vva (take delay xs tick).1.length vvc) (.slice la (take delay xs tick).2.1.length lc) (.slice ka (take delay xs tick).2.1.length kc) xs (put delay xs m tick).1 (take delay xs tick).1 (take delay xs tick).2.1 w3.heap.size w4.heap.size w5.heap.size w6.heap.size _ := ⟨bg.r0, rx, ry, ru, rv, bg.sx.any (by decide), sx, sy, su, sv, sl, sk⟩
      clear rx ry ru rv sx sy su sv sl sk
      have k0 := k0.drew
      have bg := bg.drew
      have hbx := hbx.drew
      have BG := Lib.hid bg; clear bg
      have HB := Lib.hid hbx; clear hbx
      have K0 := Lib.hid k0; clear k0
      go_upto_region 7 with (fail)
      generalize hW6 : w6.alloc (.cells #[.int .i64 delay, .slice vva (take delay xs tick).1.length vvc] 27) = W6 at *
      clear hW6
      generalize (put delay xs m tick) = pt at *
      generalize (take delay xs tick) = tk at *
      generalize w3.heap.size = n3 at *
      generalize w4.heap.size = n4 at *
      generalize w5.heap.size = n5 at *
      generalize w6.heap.size = n6 at *
      have k0 := K0.out; clear K0
      go_region_held3 (fun w' => w'.cell? ⟨w.heap.size, 0, none⟩ = some (.int .i64 delay) ∧ w'.cell? ⟨w.heap.size, 1, none⟩ = some (.slice va xs.length vc) ∧ w'.cell? ⟨n3, 0, none⟩ = some (.int .i64 delay) ∧ w'.cell? ⟨n3, 1, none⟩ = some (.slice xa pt.1.length xc) ∧ w'.cell? ⟨n4, 0, none⟩ = some (.int .i64 delay) ∧ w'.cell? ⟨n4, 1, none⟩ = some (.slice ya pt.1.length yc) ∧ w'.cell? ⟨n5, 0, none⟩ = some (.int .i64 delay) ∧ w'.cell? ⟨n5, 1, none⟩ = some (.slice ua tk.1.length uc) ∧ w'.cell? ⟨n6, 0, none⟩ = some (.int .i64 delay) ∧ w'.cell? ⟨n6, 1, none⟩ = some (.slice vva tk.1.length vvc))
        (first | with_reducible exact k5.cells | with_reducible exact k4.cells | with_reducible exact k3.cells | with_reducible exact k2.cells | with_reducible exact k1.cells | with_reducible exact k0.cells)
        (first | (go_at_call 14; have hh := k4.st; with_reducible refine (check_any _ _ _ _ _ (by exact k4.st)).mono ?_; rintro e x5 ⟨rfl, hb5⟩; have k5 := k4.below hb5) | (go_at_call 15; have hh := k4.st; with_reducible refine (refCheck_any _ _ _ _ _ (by exact k4.st)).mono ?_; rintro e x5 ⟨rfl, hb5⟩; have k5 := k4.below hb5) | (go_at_call 14; have hh := k3.st; with_reducible refine (check_any _ _ _ _ _ (by exact k3.st)).mono ?_; rintro e x4 ⟨rfl, hb4⟩; have k4 := k3.below hb4) | (go_at_call 15; have hh := k3.st; with_reducible refine (refCheck_any _ _ _ _ _ (by exact k3.st)).mono ?_; rintro e x4 ⟨rfl, hb4⟩; have k4 := k3.below hb4) | (go_at_call 13; have hh := k2.st; with_reducible refine (sameMessages_eq _ _ _ _ _ _ (by exact k2.sl) (by exact k2.sk)).mono ?_; rintro e x3 ⟨rfl, hb3⟩; have k3 := k2.below hb3) | (go_at_call 12; have hh := k1.st; with_reducible refine (same_eq _ _ _ _ _ _ _ (by exact k1.su) (by exact k1.sv)).mono ?_; rintro e x2 ⟨rfl, hb2⟩; have k2 := k1.below hb2) | (go_at_call 12; have hh := k0.st; with_reducible refine (same_eq _ _ _ _ _ _ _ (by exact k0.sx) (by exact k0.sy)).mono ?_; rintro e x1 ⟨rfl, hb1⟩; have k1 := k0.below hb1))
      all_goals
        have hbb := (((hb1.trans (hb2.mono hb1.size)).trans (hb3.mono (Nat.le_trans hb1.size hb2.size))).trans (hb4.mono (Nat.le_trans (Nat.le_trans hb1.size hb2.size) hb3.size))).trans (hb5.mono (Nat.le_trans (Nat.le_trans (Nat.le_trans hb1.size hb2.size) hb3.size) hb4.size))
        clear hb1 hb2 hb3 hb4 hb5 k0 k1 k2 k3 k4 k5
        have bg := BG.out.below hbb
        have hbx := HB.out.trans (hbb.mono HB.out.size)
        clear BG HB hbb
        have BG := Lib.hid bg; clear bg
        have HB := Lib.hid hbx; clear hbx
        go_wp2_with fail
        skip
        refine (new_any terms _).mono ?_
        rintro e y3 ⟨p1, rfl, sp, hb3⟩
        obtain ⟨pa, pc, rfl, -⟩ := sp.len
        have sp := sp.any (by decide)
        have hal := (Below.refl y3.heap.size y3).alloc (Nat.le_refl _) (.cells #[.slice pa (newOut terms).length pc] 39)
        have hbb := hb3.trans (hal.mono hb3.size)
        clear hb3
        have bg := BG.out.below hbb
        have hbx := HB.out.trans (hbb.mono HB.out.size)
        clear BG HB hbb
        have rp := Row.new y3 39 [.slice pa (newOut terms).length pc]
        have sp := sp.below hal
        clear hal
        have BG := Lib.hid bg; clear bg
        have RP := Lib.hid rp; clear rp
        have SP := Lib.hid sp; clear sp
        have HB := Lib.hid hbx; clear hbx
        go_wp2_with fail
        skip
        refine (refNew_any terms _).mono ?_
        rintro e y4 ⟨q1, rfl, sq, hb4⟩
        obtain ⟨qa, qc, rfl, -⟩ := sq.len
        have sq := sq.any (by decide)
        have hal := (Below.refl y4.heap.size y4).alloc (Nat.le_refl _) (.cells #[.slice qa (newOut terms).length qc] 39)
        have hbb := hb4.trans (hal.mono hb4.size)
        clear hb4
        have bg := BG.out.below hbb
        have rp := RP.out.below hbb RP.out.lt
        have sp := SP.out.below hbb
        have hbx := HB.out.trans (hbb.mono HB.out.size)
        clear BG RP SP HB hbb
        have rq := Row.new y4 39 [.slice qa (newOut terms).length qc]
        have sq := sq.below hal
        clear hal
        have a0 : (y4.alloc (.cells #[.slice qa (newOut terms).length qc] 39)).cell? ⟨w.heap.size + 2, 0, none⟩ = some (.slice aa zs.length ac) := bg.r2.cell 0
        have BG := Lib.hid bg; clear bg
        have RP := Lib.hid rp; clear rp
        have SP := Lib.hid sp; clear sp
        have RQ := Lib.hid rq; clear rq
        have SQ := Lib.hid sq; clear sq
        have HB := Lib.hid hbx; clear hbx
        go_wp2_with fail
        clear a0
        refine (switch_any _ zs term cell _ _ BG.out.sa hla hcr).mono ?_
        rintro e y5 ⟨b1, rfl, sb, hb5⟩
        obtain ⟨ba, bc, rfl, -⟩ := sb.len
        have sb := sb.any (by decide)
        have hal := (Below.refl y5.heap.size y5).alloc (Nat.le_refl _) (.cells #[.slice ba (swOut zs term cell).length bc] 39)
        have hbb := hb5.trans (hal.mono hb5.size)
        clear hb5
        have bg := BG.out.below hbb
        have rp := RP.out.below hbb RP.out.lt
        have sp := SP.out.below hbb
        have rq := RQ.out.below hbb RQ.out.lt
        have sq := SQ.out.below hbb
        have hbx := HB.out.trans (hbb.mono HB.out.size)
        clear BG RP SP RQ SQ HB hbb
        have rb := Row.new y5 39 [.slice ba (swOut zs term cell).length bc]
        have sb := sb.below hal
        clear hal
        have a0 : (y5.alloc (.cells #[.slice ba (swOut zs term cell).length bc] 39)).cell? ⟨w.heap.size + 2, 0, none⟩ = some (.slice aa zs.length ac) := bg.r2.cell 0
        have BG := Lib.hid bg; clear bg
        have RP := Lib.hid rp; clear rp
        have SP := Lib.hid sp; clear sp
        have RQ := Lib.hid rq; clear rq
        have SQ := Lib.hid sq; clear sq
        have RB := Lib.hid rb; clear rb
        have SB := Lib.hid sb; clear sb
        have HB := Lib.hid hbx; clear hbx
        go_wp2_with fail
        clear a0
        refine (refSwitch_any _ zs term cell _ _ BG.out.sa hla hcr).mono ?_
        rintro e y6 ⟨c1, rfl, sc, hb6⟩
        obtain ⟨ca, cc, rfl, -⟩ := sc.len
        have hal := (Below.refl y6.heap.size y6).alloc (Nat.le_refl _) (.cells #[.slice ca (swOut zs term cell).length cc] 39)
        have hbb := hb6.trans (hal.mono hb6.size)
        clear hb6
        have bg := BG.out.below hbb
        have rp := RP.out.below hbb RP.out.lt
        have sp := SP.out.below hbb
        have rq := RQ.out.below hbb RQ.out.lt
        have sq := SQ.out.below hbb
        have rb := RB.out.below hbb RB.out.lt
        have sb := SB.out.below hbb
        have hbx := HB.out.trans (hbb.mono HB.out.size)
        clear BG RP SP RQ SQ RB SB HB hbb
        have rc := Row.new y6 39 [.slice ca (swOut zs term cell).length cc]
        have sc := sc.below hal
        clear hal
        have k0 : Ka (w.heap.size + 2) (.slice aa zs.length ac) (.slice pa (newOut terms).length pc) (.slice qa (newOut terms).length qc) (.slice ba (swOut zs term cell).length bc) (.slice ca (swOut zs term cell).length cc) zs (newOut terms) (swOut zs term cell) y3.heap.size y4.heap.size y5.heap.size y6.heap.size _ := ⟨bg.r2, rp, rq, rb, rc, bg.sa.any (by decide), sp, sq, sb, sc⟩
        clear rp rq rb rc sp sq sb sc
        have k0 := k0.drew
        have hbx := hbx.drew
        clear bg
        have HB := Lib.hid hbx; clear hbx
        have K0 := Lib.hid k0; clear k0
        go_upto_region 13 with (fail)
        generalize hW6 : y6.alloc (.cells #[.slice ca (swOut zs term cell).length cc] 39) = W7 at *
        clear hW6
        generalize newOut terms = no at *
        generalize newErr terms = ne at *
        generalize swOut zs term cell = so at *
        generalize swErr zs term cell = se at *
        generalize swOld zs term cell = sd at *
        generalize y3.heap.size = n3 at *
        generalize y4.heap.size = n4 at *
        generalize y5.heap.size = n5 at *
        generalize y6.heap.size = n6 at *
        have k0 := K0.out; clear K0
        go_region_held3 (fun w' => w'.cell? ⟨w.heap.size + 2, 0, none⟩ = some (.slice aa zs.length ac) ∧ w'.cell? ⟨n3, 0, none⟩ = some (.slice pa no.length pc) ∧ w'.cell? ⟨n4, 0, none⟩ = some (.slice qa no.length qc) ∧ w'.cell? ⟨n5, 0, none⟩ = some (.slice ba so.length bc) ∧ w'.cell? ⟨n6, 0, none⟩ = some (.slice ca so.length cc))
          (first | with_reducible exact k5.cells | with_reducible exact k4.cells | with_reducible exact k3.cells | with_reducible exact k2.cells | with_reducible exact k1.cells | with_reducible exact k0.cells)
          (first | (go_at_call 6; have hh := k4.sa; with_reducible refine (awake_any _).mono ?_; rintro e x5 ⟨rfl, hb5⟩; have k5 := k4.below hb5) | (go_at_call 21; have hh := k3.sa; with_reducible refine (route_any _ _ _ _ _ (by exact k3.sa)).mono ?_; rintro e x4 ⟨rfl, hb4⟩; have k4 := k3.below hb4) | (go_at_call 22; have hh := k3.sa; with_reducible refine (refRoute_any _ _ _ _ _ (by exact k3.sa)).mono ?_; rintro e x4 ⟨rfl, hb4⟩; have k4 := k3.below hb4) | (go_at_call 21; have hh := k2.sa; with_reducible refine (route_any _ _ _ _ _ (by exact k2.sa)).mono ?_; rintro e x3 ⟨rfl, hb3⟩; have k3 := k2.below hb3) | (go_at_call 22; have hh := k2.sa; with_reducible refine (refRoute_any _ _ _ _ _ (by exact k2.sa)).mono ?_; rintro e x3 ⟨rfl, hb3⟩; have k3 := k2.below hb3) | (go_at_call 20; have hh := k1.sa; with_reducible refine (sameAnchor_eq _ _ _ _ _ _ (by exact k1.sb) (by exact k1.sc)).mono ?_; rintro e x2 ⟨rfl, hb2⟩; have k2 := k1.below hb2) | (go_at_call 20; have hh := k0.sa; with_reducible refine (sameAnchor_eq _ _ _ _ _ _ (by exact k0.sp) (by exact k0.sq)).mono ?_; rintro e x1 ⟨rfl, hb1⟩; have k1 := k0.below hb1))
        all_goals
          have hbb := (((hb1.trans (hb2.mono hb1.size)).trans (hb3.mono (Nat.le_trans hb1.size hb2.size))).trans (hb4.mono (Nat.le_trans (Nat.le_trans hb1.size hb2.size) hb3.size))).trans (hb5.mono (Nat.le_trans (Nat.le_trans (Nat.le_trans hb1.size hb2.size) hb3.size) hb4.size))
          have hfin := HB.out.trans (hbb.mono HB.out.size)
          have HF := Lib.hid hfin; clear hfin hbb hb1 hb2 hb3 hb4 hb5 k0 k1 k2 k3 k4 k5
          go_wp2_with fail
          go_ret
          exact ⟨rfl, HF.out⟩
end Go.Proofs.Ytmfifkkmbkcibaa
