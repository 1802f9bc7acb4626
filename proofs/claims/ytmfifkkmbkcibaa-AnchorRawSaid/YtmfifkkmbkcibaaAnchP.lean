/-
  The contract of anchor.Put.
-/
import Derived.Test.YtmfifkkmbkcibaaAnchA
namespace Go.Proofs.Ytmfifkkmbkcibaa
set_option linter.unusedVariables false
open Go.RowKit

/-- One message in a new block. -/
theorem sl_newM {S : Nat → Prop} {w : World} {c : List Value} {m : Msg} (h : msgR.rd S w c m) : Sl msgR (fun b => S b ∨ b = w.heap.size) (w.alloc (.cells c.toArray 34)) (.slice (some ⟨w.heap.size, 0, none⟩) 1 1) [m] := by
  refine ⟨_, 1, rfl, by simp, by omega, fun h => by simp at h, fun _ => ⟨w.heap.size, 0, rfl, .inr rfl, c, RdL.single (msgR.lt (msgR.kept h (fun b hb hlt => Below.heap_alloc _ _ _ hlt)) (fun b hb _ => .inl hb)), fun j hj => ?_⟩⟩
  rw [Nat.zero_add, (Row.new w 34 c).cell]

theorem own_apart {α : Type} {R : Rep α} {S : Nat → Prop} {w : World} {base : Nat} {e : TypeId} {v : Value} {xs : List α} (h : Own R S base e w v xs) : Own R (fun b => S b ∧ some b ≠ v.ownBlock) base e w v xs := by
  obtain ⟨cs, h1, h2⟩ := h
  exact ⟨cs, h1, h2.lt (fun b hb _ => ⟨hb, hb.2⟩)⟩
theorem Row.grown {w w' : World} {g : Nat} {t : TypeId} {cs : List Value} {row : Option Nat} (h : Row w g t cs) (hg : w.grownBy w' row) (hne : some g ≠ row) : Row w' g t cs := ⟨by rw [hg.block g h.lt hne]; exact h.blk⟩

set_option maxRecDepth 100000 in
set_option maxHeartbeats 4000000 in
theorem put_any (delay tick : Int) (v : Value) (xs : List Msg) (m : Msg) (mc : List Value) (S : Nat → Prop) (w : World) (hv : Sl msgR S w v xs) (hm : msgR.rd S w mc m) (hl : xs.length * 88 ≤ 140737488355328) (hf : ∀ m ∈ xs, m.fits) (hfm : m.fits) (htk : rng tick) :
    Calls Try.prog 7 #[.agg #[.int .i64 delay, v], .agg mc.toArray, .int .i64 tick] w fun e w' => ∃ v', e = .returned (.tuple #[.agg #[.int .i64 delay, v'], .int .i64 (put delay xs m tick).2]) ∧ Own msgR (orNew S w.heap.size) w.heap.size 34 w' v' (put delay xs m tick).1 ∧ Below w.heap.size w w' := by
  obtain ⟨i0, hi, hz0, hz1, hz2⟩ := info_parts (P := Try.prog) (e := 34) (z := .agg #[.int .i64 0, .int .i64 0, .int .i64 0, .int .i64 0, .int .i64 0, .slice none 0 0, .slice none 0 0]) (size := 7) (bytes := 88) (by kernel_rfl)
  obtain ⟨va, vcap, rfl, -⟩ := hv.len
  have hv := hv.lt (S' := fun b => S b ∧ b < w.heap.size) (by decide) (fun b hb hlt => ⟨hb, hlt⟩)
  have hm := msgR.lt (S' := fun b => S b ∧ b < w.heap.size) hm (fun b hb hlt => ⟨hb, hlt⟩)
  obtain ⟨pd, pt, rfl, p1, p2, p3, p4, p5, p6, p7⟩ := hm
  obtain ⟨ma, mac, rfl, -⟩ := p6.len
  obtain ⟨mb, mbc, rfl, -⟩ := p7.len
  obtain ⟨W, hW⟩ : ∃ W, W = ((w.alloc (.cells #[.int .i64 delay, .slice va xs.length vcap] 27)).alloc (.cells #[.int .i64 m.arr, .int .i64 m.kind, .int .i64 m.terminal, .int .i64 m.bearer, .int .i64 m.number, .slice ma m.data.length mac, .slice mb m.tickets.length mbc] 34)).alloc (.cells #[.int .i64 0, .slice none 0 0] 27) := ⟨_, rfl⟩
  have hbW : Below w.heap.size w W := by rw [hW]; exact (((Below.refl w.heap.size w).alloc (Nat.le_refl _) _).alloc (by simp) _).alloc (by simp; omega) _
  have hsW : W.heap.size = w.heap.size + 3 := by rw [hW]; simp
  have r0 : Row W w.heap.size 27 [.int .i64 delay, .slice va xs.length vcap] := by
    rw [hW]; exact ((Row.new w _ _).below ((Below.refl _ _).alloc (Nat.le_refl _) _) (by simp)).below ((Below.refl _ _).alloc (Nat.le_refl _) _) (by simp; omega)
  have r1 : Row W (w.heap.size + 1) 34 [.int .i64 m.arr, .int .i64 m.kind, .int .i64 m.terminal, .int .i64 m.bearer, .int .i64 m.number, .slice ma m.data.length mac, .slice mb m.tickets.length mbc] := by
    rw [hW]
    have := (Row.new (w.alloc (.cells #[.int .i64 delay, .slice va xs.length vcap] 27)) 34 [.int .i64 m.arr, .int .i64 m.kind, .int .i64 m.terminal, .int .i64 m.bearer, .int .i64 m.number, .slice ma m.data.length mac, .slice mb m.tickets.length mbc]).below ((Below.refl _ _).alloc (Nat.le_refl _) (.cells #[.int .i64 0, .slice none 0 0] 27)) (by simp)
    simpa using this
  have r2 : Row W (w.heap.size + 2) 27 [.int .i64 0, .slice none 0 0] := by
    rw [hW]
    have := Row.new ((w.alloc (.cells #[.int .i64 delay, .slice va xs.length vcap] 27)).alloc (.cells #[.int .i64 m.arr, .int .i64 m.kind, .int .i64 m.terminal, .int .i64 m.bearer, .int .i64 m.number, .slice ma m.data.length mac, .slice mb m.tickets.length mbc] 34)) 27 [.int .i64 0, .slice none 0 0]
    simpa using this
  have HV := Lib.hid (hv.below hbW); clear hv
  have P6 := Lib.hid (p6.below hbW); clear p6
  have P7 := Lib.hid (p7.below hbW); clear p7
  have PP := Lib.hid (And.intro p1 (And.intro p2 (And.intro p3 (And.intro p4 p5)))); clear p1 p2 p3 p4 p5
  go_enter Try.func7, Try.ntmps7
  go_wp2_with fail
  rw [← hW]
  clear hW
  refine (tunnel_any delay _ xs _ W HV.out hl hf).mono ?_
  rintro e w1 ⟨v1, rfl, k1, hb1⟩
  obtain ⟨oa, ocap, rfl⟩ := k1.len
  have hgno : ∀ g, Value.ownBlock (.slice oa xs.length ocap) = some g → w.heap.size + 3 ≤ g ∧ g < w1.heap.size := fun g hg => by have := k1.lt g hg; omega
  have hal := (Below.refl w1.heap.size w1).alloc (Nat.le_refl _) (.cells #[.int .i64 delay, .slice oa xs.length ocap] 27)
  have hb2 := hb1.trans (hal.mono hb1.size)
  have r0 := r0.below hb2 r0.lt
  have r1 := r1.below hb2 r1.lt
  have r2 := r2.below hb2 r2.lt
  have ro := Row.new w1 27 [.int .i64 delay, .slice oa xs.length ocap]
  have k1 := ((own_mono (S' := fun b => ((S b ∧ b < w.heap.size) ∨ w.heap.size + 3 ≤ b) ∧ b < w1.heap.size) k1 (fun b hb hlt => by
    rcases hb with hb | hb
    · exact ⟨.inl hb, hlt⟩
    · exact ⟨.inr (by omega), hlt⟩)).below hal).base (base' := w.heap.size + 3) (by omega)
  have hv := HV.out.below hb2
  have p6 := P6.out.below hb2
  have p7 := P7.out.below hb2
  have hbx := hbW.trans (hb2.mono (by omega))
  have hno : w.heap.size + 3 ≤ w1.heap.size := by have := hb1.size; omega
  clear HV P6 P7 hbW hb1 hb2 hal
  have a0 := r0.cell 0; have a1 := r0.cell 1
  simp only [List.getElem?_cons_zero, List.getElem?_cons_succ] at a0 a1
  go_wp2_with fail
  clear a0 a1
  generalize hW2 : w1.alloc (.cells #[.int .i64 delay, .slice oa xs.length ocap] 27) = W2 at *
  clear hW2
  generalize hno2 : w1.heap.size = no at *
  clear hno2
  refine (begin_any delay _ xs tick _ W2 hv).mono ?_
  rintro e w2 ⟨rfl, hb2⟩
  have r0 := r0.below hb2 r0.lt
  have r1 := r1.below hb2 r1.lt
  have r2 := r2.below hb2 r2.lt
  have ro := ro.below hb2 ro.lt
  have k1 := k1.below hb2
  have hv := hv.below hb2
  have p6 := p6.below hb2
  have p7 := p7.below hb2
  have hbx := hbx.trans (hb2.mono hbx.size)
  clear hb2
  have HNO : no < w2.heap.size := ro.lt
  by_cases hbg : bgn delay xs tick = 0
  · have hchk : chk delay xs = 0 := by
      unfold bgn at hbg
      split at hbg
      · assumption
      · rename_i h; exact absurd hbg h
    have htick : 0 ≤ tick ∧ tick ≤ 1048576 := by
      unfold bgn at hbg
      rw [if_pos hchk] at hbg
      split at hbg
      · simp at hbg
      · omega
    have hdel : 0 ≤ delay ∧ delay ≤ 1000 ∧ xs.length ≤ 256 ∧ okm 0 xs = true := by
      unfold chk at hchk
      split at hchk
      · simp at hchk
      · split at hchk
        · simp at hchk
        · split at hchk
          · rename_i h1 h2 h3; exact ⟨by omega, by omega, by omega, h3⟩
          · simp at hchk
    obtain ⟨hd0, hd1, hxl, hokm⟩ := hdel
    have HOK := Lib.hid hokm; clear hokm
    by_cases h256 : xs.length = 256
    · have hput : put delay xs m tick = (xs, 13) := by unfold put; rw [if_pos hbg, if_pos h256]
      have HPUT := Lib.hid hput; clear hput
      have hbb : ((xs.length : Int) == 256) = true := beq_iff_eq.2 (by omega)
      clear h256
      rw [hbg]
      clear hbg hchk
      have o0 := ro.cell 0; have o1 := ro.cell 1
      have a1 := r0.cell 1
      have c0 := r2.cell 0; have c1 := r2.cell 1
      have f2 := r2.frz
      simp only [List.getElem?_cons_zero, List.getElem?_cons_succ] at o0 o1 c0 c1 a1
      have K1 := Lib.hid k1; clear k1
      have HB := Lib.hid hbx; clear hbx
      clear r0 r1 r2 ro hv p6 p7
      go_wp2_with fail
      refine bodyPost_ret (v := .tuple #[.agg #[.int .i64 delay, .slice oa xs.length ocap], .int .i64 13]) (by simp [results, Try.results7, go_sem, c0, c1]) rfl ?_
      rw [HPUT.out]
      refine ⟨_, rfl, ?_, ?_⟩
      · have h8 := (K1.out.setOther (g := w.heap.size + 2) (o := 0) (.int .i64 delay) (K1.out.apart (by omega)) (fun hx => by rcases hx.1 with h | h <;> omega))
        have h9 := (h8.setOther (g := w.heap.size + 2) (o := 1) (.slice oa xs.length ocap) (h8.apart (by omega)) (fun hx => by rcases hx.1 with h | h <;> omega))
        exact own_mono (h9.base (by omega)) (fun b hb _ => by
          rcases hb.1 with hb | hb
          · exact .inl hb.1
          · exact .inr (by omega))
      · exact (HB.out.setCell (by simp; omega) _).setCell (by simp; omega) _
    have hput : put delay xs m tick = (xs ++ [{ m with arr := due delay xs tick }], 0) := by unfold put; rw [if_pos hbg, if_neg h256]
    have HPUT := Lib.hid hput; clear hput
    have hbb : ((xs.length : Int) == 256) = false := beq_eq_false_iff_ne.2 (by omega)
    clear h256
    rw [hbg]
    clear hbg hchk
    have a1 := r0.cell 1
    have m0 := r1.cell 0; have m1 := r1.cell 1; have m2 := r1.cell 2; have m3 := r1.cell 3; have m4 := r1.cell 4; have m5 := r1.cell 5; have m6 := r1.cell 6
    simp only [List.getElem?_cons_zero, List.getElem?_cons_succ] at a1 m0 m1 m2 m3 m4 m5 m6
    go_wp2_with fail
    clear a1 m0 m1 m2 m3 m4 m5 m6
    refine (message_any m _ _ w2 ⟨_, _, rfl, PP.out.1, PP.out.2.1, PP.out.2.2.1, PP.out.2.2.2.1, PP.out.2.2.2.2, p6, p7⟩ hfm).mono ?_
    rintro e w3 ⟨c3, rfl, ⟨d3, d4, rfl, q1, q2, q3, q4, q5, hd3, hd4⟩, hb3⟩
    obtain ⟨ea, eac, rfl, -⟩ := hd3.len
    obtain ⟨eb, ebc, rfl, -⟩ := hd4.len
    have k1 := own_mono (S' := fun b => (((S b ∧ b < w.heap.size) ∨ w.heap.size + 3 ≤ b) ∧ b < no) ∧ b < w3.heap.size) (k1.below hb3) (fun b hb hlt => ⟨hb, hlt⟩)
    have hd3 := hd3.lt (S' := fun b => ((S b ∧ b < w.heap.size) ∨ w2.heap.size ≤ b) ∧ b < w3.heap.size) (by decide) (fun b hb hlt => ⟨hb, hlt⟩)
    have hd4 := hd4.lt (S' := fun b => ((S b ∧ b < w.heap.size) ∨ w2.heap.size ≤ b) ∧ b < w3.heap.size) (by decide) (fun b hb hlt => ⟨hb, hlt⟩)
    have hal := (Below.refl w3.heap.size w3).alloc (Nat.le_refl _) (.cells #[.int .i64 (tick + delay), .int .i64 m.kind, .int .i64 m.terminal, .int .i64 m.bearer, .int .i64 m.number, .slice ea m.data.length eac, .slice eb m.tickets.length ebc] 34)
    have hb4 := hb3.trans (hal.mono hb3.size)
    have A0 : ∀ o, (w3.alloc o).cell? ⟨w.heap.size, 0, none⟩ = some (.int .i64 delay) := fun o => ((r0.below hb3 r0.lt).below ((Below.refl _ _).alloc (Nat.le_refl _) o) (by have := r0.lt; have := hb3.size; omega)).cell 0
    have A1 : ∀ o, (w3.alloc o).cell? ⟨w.heap.size, 1, none⟩ = some (.slice va xs.length vcap) := fun o => ((r0.below hb3 r0.lt).below ((Below.refl _ _).alloc (Nat.le_refl _) o) (by have := r0.lt; have := hb3.size; omega)).cell 1
    have r0 := r0.below hb4 r0.lt
    have r2 := r2.below hb4 r2.lt
    have ro := ro.below hb4 ro.lt
    have k1 := k1.below hal
    have hv := hv.below hb4
    have hd3 := hd3.below hal
    have hd4 := hd4.below hal
    have hbx := hbx.trans (hb4.mono hbx.size)
    have rx := Row.new w3 34 [.int .i64 (tick + delay), .int .i64 m.kind, .int .i64 m.terminal, .int .i64 m.bearer, .int .i64 m.number, .slice ea m.data.length eac, .slice eb m.tickets.length ebc]
    have hn3 : w2.heap.size ≤ w3.heap.size := hb3.size
    clear hal hb4 r1 p6 p7
    have HGN := Lib.hid hgno
    by_cases hx0 : 0 < xs.length
    · go_wp2_with fail
      clear A0 A1
      generalize w3.alloc _ = W3 at *
      generalize hnx : w3.heap.size = nx at *
      obtain ⟨q, hq⟩ : ∃ q, xs.length - 1 = q := ⟨_, rfl⟩
      have hqx : q < xs.length := by omega
      obtain ⟨b, off, c, rfl, -, hrd, hcell⟩ := hv.at q hqx
      obtain ⟨ld, lt, rfl, hlr, -⟩ := hrd
      have y0 : W3.cell? ⟨b, off + q * 7, none⟩ = some (.int .i64 xs[q].arr) := hcell 0 (by decide)
      have hdue : due delay xs tick = max (tick + delay) xs[q].arr := by
        unfold due
        have : xs.getLast? = some xs[q] := by rw [List.getLast?_eq_getElem?, hq, List.getElem?_eq_getElem hqx]
        rw [this]
      have hlast := okm_rng xs 0 HOK.out xs[q] (List.getElem_mem _)
      generalize xs[q].arr = la at *
      clear hcell
      have z1 := r0.cell 1
      have x0 := rx.cell 0
      have fx := rx.frz
      simp only [List.getElem?_cons_zero, List.getElem?_cons_succ] at z1 x0
      have s1 : IntKind.i64.wrap ((xs.length : Int) - 1) = (q : Int) := by rw [IntWalk.i64_in _ (by omega)]; omega
      have q0 : (0 : Int) ≤ (q : Int) := by omega
      have q1 : (q : Int) < (xs.length : Int) := by omega
      clear hq
      refine wp_region_still_tail 11 (by kernel_rfl) (by kernel_rfl) ?_
      simp only [List.take_succ_cons, List.take_zero, List.drop_succ_cons, List.drop_zero]
      repeat still_step
      refine wpStill_nil ?_
      change wpList _ _ _ _ _ W3.drew
      have hDD : due delay xs tick = if tick + delay < la then la else tick + delay := by rw [hdue]; split <;> omega
      generalize hDx : (if tick + delay < la then la else tick + delay) = D at *
      have hDr : rng D := by rw [← hDx]; split <;> exact ⟨by omega, by omega⟩
      clear hDx hdue s1
      have e2 : w.heap.size + 2 < nx := by omega
      have e3 : no < nx := by omega
      have r2 := (r2.setOther (g' := nx) (o := 0) (.int .i64 D) (by omega)).drew
      have ro := (ro.setOther (g' := nx) (o := 0) (.int .i64 D) (by omega)).drew
      have rx := (rx.set 0 (.int .i64 D)).drew
      have hgx : Value.ownBlock (.slice oa xs.length ocap) ≠ some nx := fun hx => by have := hgno nx hx; omega
      have k1 := (k1.setOther (g := nx) (o := 0) (.int .i64 D) hgx (by omega)).drew
      have hd3 := (hd3.kept (w' := W3.setCell ⟨nx, 0, none⟩ (.int .i64 D)) (fun b hb _ => Below.heap_setCell _ _ _ _ (by have := hb.2; simp; omega))).drew
      have hd4 := (hd4.kept (w' := W3.setCell ⟨nx, 0, none⟩ (.int .i64 D)) (fun b hb _ => Below.heap_setCell _ _ _ _ (by have := hb.2; simp; omega))).drew
      have hbx := (hbx.setCell (p := ⟨nx, 0, none⟩) (by simp; omega) (.int .i64 D)).drew
      go_upto_region 12 with (fail)
      clear x0 fx z1 y0 hv r0
      generalize (W3.setCell ⟨nx, 0, none⟩ (.int .i64 D)).drew = W4 at *
      have HD := Lib.hid hDD; clear hDD
      have o1 := ro.cell 1
      have o0 := ro.cell 0
      have fo := ro.frz
      have x0 := rx.cell 0; have x1 := rx.cell 1; have x2 := rx.cell 2; have x3 := rx.cell 3; have x4 := rx.cell 4; have x5 := rx.cell 5; have x6 := rx.cell 6
      have c0 := r2.cell 0; have c1 := r2.cell 1
      have f2 := r2.frz
      simp at o0 o1 x0 x1 x2 x3 x4 x5 x6 c0 c1
      have hW4 : w.heap.size + 3 ≤ W4.heap.size := by have := ro.lt; omega
      have K1 := Lib.hid (own_apart (own_mono (S' := fun b => ((S b ∧ b < w.heap.size) ∨ w.heap.size + 3 ≤ b) ∧ b ≠ no) k1 (fun b hb _ => ⟨hb.1.1, by have := hb.1.2; omega⟩))); clear k1
      have hsl := sl_newM (w := W4) (m := { m with arr := D }) ⟨_, _, rfl, hDr, q2, q3, q4, q5, hd3, hd4⟩
      have hxl4 : nx < W4.heap.size := rx.lt
      have hsl := hsl.lt (S' := fun b => (((S b ∧ b < w.heap.size) ∨ w.heap.size + 3 ≤ b) ∧ b ≠ no) ∧ some b ≠ Value.ownBlock (.slice oa xs.length ocap)) (by decide) (fun b hb _ => by
        have hgg := HGN.out
        rcases hb with ⟨hb | hb, -⟩ | hb
        · exact ⟨⟨.inl hb, by omega⟩, fun hx => by have := hgg b hx.symm; omega⟩
        · exact ⟨⟨.inr (by omega), by omega⟩, fun hx => by have := hgg b hx.symm; omega⟩
        · exact ⟨⟨.inr (by omega), by omega⟩, fun hx => by have := hgg b hx.symm; omega⟩)
      have HSL := Lib.hid hsl; clear hsl
      have RO := Lib.hid ro; clear ro
      have R2 := Lib.hid r2; clear r2
      have HB := Lib.hid hbx; clear hbx
      clear rx hd3 hd4
      go_wp2_with (at_builtin; refine wpList_appR (R := msgR) (S := fun b => (((S b ∧ b < w.heap.size) ∨ w.heap.size + 3 ≤ b) ∧ b ≠ no) ∧ some b ≠ Value.ownBlock (.slice oa xs.length ocap)) rfl _ _ 25 rfl (w.heap.size + 3) 34 i0 (.agg #[.int .i64 0, .int .i64 0, .int .i64 0, .int .i64 0, .int .i64 0, .slice none 0 0, .slice none 0 0]) 88 Try.underlying25 hi hz0 hz1 hz2 rfl (by decide) _ xs rfl (K1.out.below ((Below.refl _ _).alloc (Nat.le_refl _) _)) _ [{ m with arr := D }] rfl HSL.out ?g1 ?g2 ?g3 ?g4 ?_)
      case g1 => intros; simp_all
      case g2 => unfold maxLen; simp; omega
      case g3 => first | omega | (simp; omega)
      case g4 => first | omega | (simp; omega)
      intro v5 w5 hown5 hg5 hwh5
      obtain ⟨fa, fcap, rfl⟩ := hown5.len
      have hgg := HGN.out
      have ro5 := (RO.out.below ((Below.refl _ _).alloc (Nat.le_refl _) _) RO.out.lt).grown hg5 (fun hx => by have := hgg no hx.symm; omega)
      have r25 := (R2.out.below ((Below.refl _ _).alloc (Nat.le_refl _) _) R2.out.lt).grown hg5 (fun hx => by have := hgg (w.heap.size + 2) hx.symm; omega)
      have hb5 : Below w.heap.size w w5 := (HB.out.alloc (by omega) _).grown hg5 (by simp; omega) (fun k hk => by have := hgg k hk; omega)
      have hv5 : Value.ownBlock (.slice fa (xs ++ [{ m with arr := D }]).length fcap) ≠ some no := fun hx => by
        rcases hwh5 with h | h
        · rw [h] at hx; have := hgg no hx; omega
        · rw [h] at hx; injection hx with hx; have := RO.out.lt; first | omega | (simp at hx; omega)
      clear o0 o1 fo x0 x1 x2 x3 x4 x5 x6 c0 c1 f2 hg5 hwh5
      have o0 := ro5.cell 0; have o1 := ro5.cell 1
      have fo := ro5.frz
      have c0 := r25.cell 0; have c1 := r25.cell 1
      have f2 := r25.frz
      simp only [List.getElem?_cons_zero, List.getElem?_cons_succ] at o0 o1 c0 c1
      have hn2 : w.heap.size + 2 ≠ no := by omega
      have HO5 := Lib.hid hown5; clear hown5
      have HB5 := Lib.hid hb5; clear hb5 ro5 r25
      have HV5 := Lib.hid hv5; clear hv5
      generalize hys : xs ++ [{ m with arr := D }] = ys at *
      have HYS := Lib.hid hys; clear hys
      go_wp2_with fail
      refine bodyPost_ret (v := .tuple #[.agg #[.int .i64 delay, .slice fa ys.length fcap], .int .i64 0]) (by simp [results, Try.results7, go_sem, c0, c1]) rfl ?_
      rw [HPUT.out, HD.out]
      refine ⟨_, rfl, ?_, ?_⟩
      · have h7 := HO5.out.setOther (g := no) (o := 1) (.slice fa ys.length fcap) HV5.out (fun hx => hx.1.2 rfl)
        have h8 := (h7.setOther (g := w.heap.size + 2) (o := 0) (.int .i64 delay) (h7.apart (by omega)) (fun hx => by rcases hx.1.1 with h | h <;> omega))
        have h9 := (h8.setOther (g := w.heap.size + 2) (o := 1) (.slice fa ys.length fcap) (h8.apart (by omega)) (fun hx => by rcases hx.1.1 with h | h <;> omega))
        rw [HYS.out]
        exact own_mono (h9.base (by omega)) (fun b hb _ => by
          rcases hb.1.1 with hb | hb
          · exact .inl hb.1
          · exact .inr (by omega))
      · exact ((HB5.out.setCell (by simp; omega) _).setCell (by simp; omega) _).setCell (by simp; omega) _
    · have hDD : due delay xs tick = tick + delay := by
        unfold due
        obtain rfl : xs = [] := List.eq_nil_of_length_eq_zero (by omega)
        rfl
      have hDr : rng (tick + delay) := ⟨by omega, by omega⟩
      go_upto_region 12 with (fail)
      clear A0 A1 hv r0
      generalize hD0 : tick + delay = D at *
      generalize w3.alloc _ = W4 at *
      generalize hnx : w3.heap.size = nx at *
      have HD := Lib.hid hDD; clear hDD
      have o1 := ro.cell 1
      have o0 := ro.cell 0
      have fo := ro.frz
      have x0 := rx.cell 0; have x1 := rx.cell 1; have x2 := rx.cell 2; have x3 := rx.cell 3; have x4 := rx.cell 4; have x5 := rx.cell 5; have x6 := rx.cell 6
      have c0 := r2.cell 0; have c1 := r2.cell 1
      have f2 := r2.frz
      simp at o0 o1 x0 x1 x2 x3 x4 x5 x6 c0 c1
      have hW4 : w.heap.size + 3 ≤ W4.heap.size := by have := ro.lt; omega
      have K1 := Lib.hid (own_apart (own_mono (S' := fun b => ((S b ∧ b < w.heap.size) ∨ w.heap.size + 3 ≤ b) ∧ b ≠ no) k1 (fun b hb _ => ⟨hb.1.1, by have := hb.1.2; omega⟩))); clear k1
      have hsl := sl_newM (w := W4) (m := { m with arr := D }) ⟨_, _, rfl, hDr, q2, q3, q4, q5, hd3, hd4⟩
      have hxl4 : nx < W4.heap.size := rx.lt
      have hsl := hsl.lt (S' := fun b => (((S b ∧ b < w.heap.size) ∨ w.heap.size + 3 ≤ b) ∧ b ≠ no) ∧ some b ≠ Value.ownBlock (.slice oa xs.length ocap)) (by decide) (fun b hb _ => by
        have hgg := HGN.out
        rcases hb with ⟨hb | hb, -⟩ | hb
        · exact ⟨⟨.inl hb, by omega⟩, fun hx => by have := hgg b hx.symm; omega⟩
        · exact ⟨⟨.inr (by omega), by omega⟩, fun hx => by have := hgg b hx.symm; omega⟩
        · exact ⟨⟨.inr (by omega), by omega⟩, fun hx => by have := hgg b hx.symm; omega⟩)
      have HSL := Lib.hid hsl; clear hsl
      have RO := Lib.hid ro; clear ro
      have R2 := Lib.hid r2; clear r2
      have HB := Lib.hid hbx; clear hbx
      clear rx hd3 hd4
      go_wp2_with (at_builtin; refine wpList_appR (R := msgR) (S := fun b => (((S b ∧ b < w.heap.size) ∨ w.heap.size + 3 ≤ b) ∧ b ≠ no) ∧ some b ≠ Value.ownBlock (.slice oa xs.length ocap)) rfl _ _ 25 rfl (w.heap.size + 3) 34 i0 (.agg #[.int .i64 0, .int .i64 0, .int .i64 0, .int .i64 0, .int .i64 0, .slice none 0 0, .slice none 0 0]) 88 Try.underlying25 hi hz0 hz1 hz2 rfl (by decide) _ xs rfl (K1.out.below ((Below.refl _ _).alloc (Nat.le_refl _) _)) _ [{ m with arr := D }] rfl HSL.out ?g1 ?g2 ?g3 ?g4 ?_)
      case g1 => intros; simp_all
      case g2 => unfold maxLen; simp; omega
      case g3 => first | omega | (simp; omega)
      case g4 => first | omega | (simp; omega)
      intro v5 w5 hown5 hg5 hwh5
      obtain ⟨fa, fcap, rfl⟩ := hown5.len
      have hgg := HGN.out
      have ro5 := (RO.out.below ((Below.refl _ _).alloc (Nat.le_refl _) _) RO.out.lt).grown hg5 (fun hx => by have := hgg no hx.symm; omega)
      have r25 := (R2.out.below ((Below.refl _ _).alloc (Nat.le_refl _) _) R2.out.lt).grown hg5 (fun hx => by have := hgg (w.heap.size + 2) hx.symm; omega)
      have hb5 : Below w.heap.size w w5 := (HB.out.alloc (by omega) _).grown hg5 (by simp; omega) (fun k hk => by have := hgg k hk; omega)
      have hv5 : Value.ownBlock (.slice fa (xs ++ [{ m with arr := D }]).length fcap) ≠ some no := fun hx => by
        rcases hwh5 with h | h
        · rw [h] at hx; have := hgg no hx; omega
        · rw [h] at hx; injection hx with hx; have := RO.out.lt; first | omega | (simp at hx; omega)
      clear o0 o1 fo x0 x1 x2 x3 x4 x5 x6 c0 c1 f2 hg5 hwh5
      have o0 := ro5.cell 0; have o1 := ro5.cell 1
      have fo := ro5.frz
      have c0 := r25.cell 0; have c1 := r25.cell 1
      have f2 := r25.frz
      simp only [List.getElem?_cons_zero, List.getElem?_cons_succ] at o0 o1 c0 c1
      have hn2 : w.heap.size + 2 ≠ no := by omega
      have HO5 := Lib.hid hown5; clear hown5
      have HB5 := Lib.hid hb5; clear hb5 ro5 r25
      have HV5 := Lib.hid hv5; clear hv5
      generalize hys : xs ++ [{ m with arr := D }] = ys at *
      have HYS := Lib.hid hys; clear hys
      go_wp2_with fail
      refine bodyPost_ret (v := .tuple #[.agg #[.int .i64 delay, .slice fa ys.length fcap], .int .i64 0]) (by simp [results, Try.results7, go_sem, c0, c1]) rfl ?_
      rw [HPUT.out, HD.out]
      refine ⟨_, rfl, ?_, ?_⟩
      · have h7 := HO5.out.setOther (g := no) (o := 1) (.slice fa ys.length fcap) HV5.out (fun hx => hx.1.2 rfl)
        have h8 := (h7.setOther (g := w.heap.size + 2) (o := 0) (.int .i64 delay) (h7.apart (by omega)) (fun hx => by rcases hx.1.1 with h | h <;> omega))
        have h9 := (h8.setOther (g := w.heap.size + 2) (o := 1) (.slice fa ys.length fcap) (h8.apart (by omega)) (fun hx => by rcases hx.1.1 with h | h <;> omega))
        rw [HYS.out]
        exact own_mono (h9.base (by omega)) (fun b hb _ => by
          rcases hb.1.1 with hb | hb
          · exact .inl hb.1
          · exact .inr (by omega))
      · exact ((HB5.out.setCell (by simp; omega) _).setCell (by simp; omega) _).setCell (by simp; omega) _
  · have hput : put delay xs m tick = (xs, bgn delay xs tick) := by unfold put; rw [if_neg hbg]
    have HPUT := Lib.hid hput
    have hbb : (bgn delay xs tick != 0) = true := by rw [bne_iff_ne]; exact hbg
    clear hput hbg
    generalize bgn delay xs tick = eb at *
    have o0 := ro.cell 0; have o1 := ro.cell 1
    have c0 := r2.cell 0; have c1 := r2.cell 1
    have f2 := r2.frz
    simp only [List.getElem?_cons_zero, List.getElem?_cons_succ] at o0 o1 c0 c1
    have K1 := Lib.hid k1; clear k1
    have HB := Lib.hid hbx; clear hbx
    clear r0 r1 r2 ro hv p6 p7
    go_wp2_with fail
    refine bodyPost_ret (v := .tuple #[.agg #[.int .i64 delay, .slice oa xs.length ocap], .int .i64 eb]) (by simp [results, Try.results7, go_sem, c0, c1]) rfl ?_
    rw [HPUT.out]
    refine ⟨_, rfl, ?_, ?_⟩
    · have h8 := (K1.out.setOther (g := w.heap.size + 2) (o := 0) (.int .i64 delay) (K1.out.apart (by omega)) (fun hx => by rcases hx.1 with h | h <;> omega))
      have h9 := (h8.setOther (g := w.heap.size + 2) (o := 1) (.slice oa xs.length ocap) (h8.apart (by omega)) (fun hx => by rcases hx.1 with h | h <;> omega))
      exact own_mono (h9.base (by omega)) (fun b hb _ => by
        rcases hb.1 with hb | hb
        · exact .inl hb.1
        · exact .inr (by omega))
    · exact (HB.out.setCell (by simp; omega) _).setCell (by simp; omega) _
end Go.Proofs.Ytmfifkkmbkcibaa
