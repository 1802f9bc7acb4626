/-
  The contract of the reference's Put.
-/
import Derived.Test.YtmfifkkmbkcibaaAnchF2
namespace Go.Proofs.Ytmfifkkmbkcibaa
set_option linter.unusedVariables false
open Go.RowKit

/-- The cells of a message. -/
abbrev mcells (m : Msg) (D : Int) (da ta : Option Addr) (dc tc : Nat) : List Value := [.int .i64 D, .int .i64 m.kind, .int .i64 m.terminal, .int .i64 m.bearer, .int .i64 m.number, .slice da m.data.length dc, .slice ta m.tickets.length tc]
/-- What Put's boxes hold. -/
structure Kp (B : Nat) (delay D : Int) (xs : List Msg) (m : Msg) (va da ta : Option Addr) (vc dc tc : Nat) (w : World) : Prop where
  r0 : Row w B 27 [.int .i64 delay, .slice va xs.length vc]
  r1 : Row w (B + 1) 34 (mcells m D da ta dc tc)
  r2 : Row w (B + 2) 27 [.int .i64 0, .slice none 0 0]
section
variable {B : Nat} {delay D : Int} {xs : List Msg} {m : Msg} {va da ta : Option Addr} {vc dc tc : Nat} {w w' : World}
theorem Kp.below (h : Kp B delay D xs m va da ta vc dc tc w) (hb : Below w.heap.size w w') : Kp B delay D xs m va da ta vc dc tc w' := ⟨h.r0.below hb h.r0.lt, h.r1.below hb h.r1.lt, h.r2.below hb h.r2.lt⟩
theorem Kp.alloc (h : Kp B delay D xs m va da ta vc dc tc w) (o : Obj) : Kp B delay D xs m va da ta vc dc tc (w.alloc o) := h.below ((Below.refl _ _).alloc (Nat.le_refl _) o)
theorem Kp.drew (h : Kp B delay D xs m va da ta vc dc tc w) : Kp B delay D xs m va da ta vc dc tc w.drew := ⟨h.r0.drew, h.r1.drew, h.r2.drew⟩
theorem Kp.grown (h : Kp B delay D xs m va da ta vc dc tc w) {row : Option Nat} (hg : w.grownBy w' row) (hr : ∀ k, row = some k → B + 3 ≤ k) : Kp B delay D xs m va da ta vc dc tc w' :=
  ⟨h.r0.grown hg (fun hx => by have := hr B hx.symm; omega), h.r1.grown hg (fun hx => by have := hr (B + 1) hx.symm; omega), h.r2.grown hg (fun hx => by have := hr (B + 2) hx.symm; omega)⟩
theorem Kp.cells (h : Kp B delay D xs m va da ta vc dc tc w) : w.cell? ⟨B, 1, none⟩ = some (.slice va xs.length vc) ∧ w.cell? ⟨B + 1, 0, none⟩ = some (.int .i64 D) ∧ w.cell? ⟨B + 1, 1, none⟩ = some (.int .i64 m.kind) ∧ w.cell? ⟨B + 1, 2, none⟩ = some (.int .i64 m.terminal) ∧ w.cell? ⟨B + 1, 3, none⟩ = some (.int .i64 m.bearer) ∧ w.cell? ⟨B + 1, 4, none⟩ = some (.int .i64 m.number) ∧ w.cell? ⟨B + 1, 5, none⟩ = some (.slice da m.data.length dc) ∧ w.cell? ⟨B + 1, 6, none⟩ = some (.slice ta m.tickets.length tc) :=
  ⟨h.r0.cell 1, h.r1.cell 0, h.r1.cell 1, h.r1.cell 2, h.r1.cell 3, h.r1.cell 4, h.r1.cell 5, h.r1.cell 6⟩
end

/-- One append of messages. -/
theorem appM {u : World} {B base : Nat} {S : Nat → Prop} {dv v : Value} {xs ys : List Msg} (hown : Own msgR S base 34 u dv xs) (hsl : Sl msgR S u v ys) (hne : ∀ b, S b → b < u.heap.size → some b ≠ dv.ownBlock) (hl : (xs.length + ys.length) ≤ 1000) (hbase : base ≤ u.heap.size) :
    ∃ v' w', (Builtin.append_ #[25, 25] 25 #[dv, v]).run Try.prog u = .ok v' w' ∧ Own msgR S base 34 w' v' (xs ++ ys) ∧ u.grownBy w' dv.ownBlock ∧ (v'.ownBlock = dv.ownBlock ∨ v'.ownBlock = some u.heap.size) := by
  obtain ⟨i0, hi0, hz0, hz1, hz2⟩ := info_parts (P := Try.prog) (e := 34) (z := .agg #[.int .i64 0, .int .i64 0, .int .i64 0, .int .i64 0, .int .i64 0, .slice none 0 0, .slice none 0 0]) (size := msgR.n) (bytes := 88) (by kernel_rfl)
  exact run_appR (P := Try.prog) (R := msgR) (S := S) 25 25 base 34 i0 _ 88 Try.underlying25 hi0 hz0 hz1 hz2 rfl (by decide) dv xs hown v ys hsl hne (by unfold maxLen; omega) (by omega) hbase

/-- What stands behind the two appends. -/
structure Dn (w : World) (delay D : Int) (xs : List Msg) (m : Msg) (va da ta : Option Addr) (vc dc tc : Nat) (v2 : Value) (w2 : World) : Prop where
  kp : Kp w.heap.size delay D xs m va da ta vc dc tc w2
  own : Own msgR (fun b => b ≠ w.heap.size ∧ b ≠ w.heap.size + 1 ∧ b ≠ w.heap.size + 2) (w.heap.size + 3) 34 w2 v2 (xs ++ [{ m with arr := D }])
  bel : Below w.heap.size w w2

section
variable {w W : World} {delay D : Int} {xs : List Msg} {m : Msg} {va da ta : Option Addr} {vc dc tc : Nat}
/-- Both new blocks are made ahead of the appends. -/
theorem two_apps (kp : Kp w.heap.size delay D xs m va da ta vc dc tc W) (hv : Sl msgR (fun b => b < w.heap.size) W (.slice va xs.length vc) xs) (hm : msgR.rd (fun b => b < w.heap.size) W (mcells m D da ta dc tc) { m with arr := D }) (hb : Below w.heap.size w W) (hl : xs.length ≤ 256)
    (ge gm : Nat) (hge : w.heap.size + 3 ≤ ge) (hgm : w.heap.size + 3 ≤ gm) (hgl : ge < W.heap.size) (hgl2 : gm < W.heap.size) (hne : ge ≠ gm) (re : Row W ge 34 []) (rm : Row W gm 34 (mcells m D da ta dc tc)) :
    ∃ v1 w1 v2 w2, (Builtin.append_ #[25, 25] 25 #[.slice (some ⟨ge, 0, none⟩) 0 0, .slice va xs.length vc]).run Try.prog W = .ok v1 w1 ∧
      (Builtin.append_ #[25, 25] 25 #[v1, .slice (some ⟨gm, 0, none⟩) 1 1]).run Try.prog w1 = .ok v2 w2 ∧ Kp w.heap.size delay D xs m va da ta vc dc tc w1 ∧ Dn w delay D xs m va da ta vc dc tc v2 w2 := by
  have hown : Own msgR (fun b => b < w.heap.size ∨ b = gm) (w.heap.size + 3) 34 W (.slice (some ⟨ge, 0, none⟩) 0 0) [] :=
    ⟨[], ⟨by simp, .inr ⟨ge, 0, #[], rfl, hge, by simpa using re.blk, Nat.le_refl _, by unfold maxLen; omega, by simp, by simp⟩⟩, rfl⟩
  have hsm : Sl msgR (fun b => b < w.heap.size ∨ b = gm) W (.slice (some ⟨gm, 0, none⟩) 1 1) [{ m with arr := D }] :=
    ⟨_, 1, rfl, by simp, by omega, fun h => by simp at h, fun _ => ⟨gm, 0, rfl, .inr rfl, _, RdL.single (msgR.lt hm (fun b hb _ => .inl hb)), fun j hj => by rw [Nat.zero_add]; exact rm.cell j⟩⟩
  have hne1 : ∀ b, (b < w.heap.size ∨ b = gm) → b < W.heap.size → some b ≠ Value.ownBlock (.slice (some ⟨ge, 0, none⟩) 0 0) := fun b hb _ hx => by
    injection hx with hx
    have hx2 : b = ge := hx
    rcases hb with hb | hb <;> omega
  obtain ⟨v1, w1, run1, own1, g1, wh1⟩ := appM (B := 0) hown (hv.lt (by decide) (fun b hb _ => .inl hb)) hne1 (by simp; omega) (by omega)
  rw [List.nil_append] at own1
  have hrow1 : ∀ k, Value.ownBlock (.slice (some ⟨ge, 0, none⟩) 0 0) = some k → w.heap.size + 3 ≤ k := fun k hk => by injection hk with hk; have hk2 : ge = k := hk; omega
  have kp1 := kp.grown g1 hrow1
  have hsm1 := hsm.grown g1 hne1
  have hv1 : ∀ k, v1.ownBlock = some k → w.heap.size + 3 ≤ k ∧ k ≠ gm := fun k hk => by
    refine ⟨(own1.lt k hk).1, ?_⟩
    rcases wh1 with h | h
    · rw [h] at hk; injection hk with hk; have hk2 : ge = k := hk; omega
    · rw [h] at hk; injection hk with hk; omega
  obtain ⟨v2, w2, run2, own2, g2, wh2⟩ := appM (B := 0) own1 hsm1 (fun b hb _ hx => by
    have := hv1 b hx.symm
    rcases hb with hb | hb <;> omega) (by simp; omega) (by have := g1.size; omega)
  refine ⟨v1, w1, v2, w2, run1, run2, kp1, kp1.grown g2 (fun k hk => (hv1 k hk).1), own_mono own2 (fun b hb _ => by rcases hb with hb | hb <;> omega), ?_⟩
  have hb1 := hb.grown g1 hb.size (fun k hk => by have := hrow1 k hk; omega)
  exact hb1.grown g2 hb1.size (fun k hk => by have := (hv1 k hk).1; omega)
/-- The new message's block is made between the appends. -/
theorem app_app (kp : Kp w.heap.size delay D xs m va da ta vc dc tc W) (hv : Sl msgR (fun b => b < w.heap.size) W (.slice va xs.length vc) xs) (hm : msgR.rd (fun b => b < w.heap.size) W (mcells m D da ta dc tc) { m with arr := D }) (hb : Below w.heap.size w W) (hl : xs.length ≤ 256)
    (ge : Nat) (hge : w.heap.size + 3 ≤ ge) (hgl : ge < W.heap.size) (re : Row W ge 34 []) :
    ∃ v1 w1 v2 w2, (Builtin.append_ #[25, 25] 25 #[.slice (some ⟨ge, 0, none⟩) 0 0, .slice va xs.length vc]).run Try.prog W = .ok v1 w1 ∧
      (Builtin.append_ #[25, 25] 25 #[v1, .slice (some ⟨w1.heap.size, 0, none⟩) 1 1]).run Try.prog (w1.alloc (.cells (mcells m D da ta dc tc).toArray 34)) = .ok v2 w2 ∧ Kp w.heap.size delay D xs m va da ta vc dc tc w1 ∧ Dn w delay D xs m va da ta vc dc tc v2 w2 := by
  have hown : Own msgR (fun b => b < w.heap.size) (w.heap.size + 3) 34 W (.slice (some ⟨ge, 0, none⟩) 0 0) [] :=
    ⟨[], ⟨by simp, .inr ⟨ge, 0, #[], rfl, hge, by simpa using re.blk, Nat.le_refl _, by unfold maxLen; omega, by simp, by simp⟩⟩, rfl⟩
  have hne1 : ∀ b, (b < w.heap.size) → b < W.heap.size → some b ≠ Value.ownBlock (.slice (some ⟨ge, 0, none⟩) 0 0) := fun b hb _ hx => by
    injection hx with hx
    have hx2 : b = ge := hx
    omega
  obtain ⟨v1, w1, run1, own1, g1, wh1⟩ := appM (B := 0) hown hv hne1 (by simp; omega) (by omega)
  rw [List.nil_append] at own1
  have hrow1 : ∀ k, Value.ownBlock (.slice (some ⟨ge, 0, none⟩) 0 0) = some k → w.heap.size + 3 ≤ k := fun k hk => by injection hk with hk; have hk2 : ge = k := hk; omega
  have kp1 := kp.grown g1 hrow1
  have hm1 := msgR.kept hm (fun b hb hlt => g1.block b hlt (hne1 b hb hlt))
  have hv1 : ∀ k, v1.ownBlock = some k → w.heap.size + 3 ≤ k ∧ k < w1.heap.size := fun k hk => own1.lt k hk
  have hsm1 := sl_newM (m := { m with arr := D }) hm1
  have own1' := own_mono (S' := fun b => b < w.heap.size ∨ b = w1.heap.size) (own1.below ((Below.refl w1.heap.size w1).alloc (Nat.le_refl _) (.cells (mcells m D da ta dc tc).toArray 34))) (fun b hb _ => .inl hb)
  have hb1 := hb.grown g1 hb.size (fun k hk => by have := hrow1 k hk; omega)
  obtain ⟨v2, w2, run2, own2, g2, wh2⟩ := appM (B := 0) own1' hsm1 (fun b hb _ hx => by
    have := hv1 b hx.symm
    rcases hb with hb | hb <;> omega) (by simp; omega) (by have := g1.size; simp; omega)
  refine ⟨v1, w1, v2, w2, run1, run2, kp1, (kp1.alloc _).grown g2 (fun k hk => (hv1 k hk).1), own_mono own2 (fun b hb _ => by
    have := kp1.r2.lt
    rcases hb with hb | hb <;> omega), ?_⟩
  have hb2 := hb1.alloc hb1.size (.cells (mcells m D da ta dc tc).toArray 34)
  exact hb2.grown g2 hb2.size (fun k hk => by have := (hv1 k hk).1; omega)
end
end Go.Proofs.Ytmfifkkmbkcibaa
