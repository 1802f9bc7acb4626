/-
  The contracts of anchor.New and anchor.Switch.
-/
import Derived.Test.YtmfifkkmbkcibaaAnchN
namespace Go.Proofs.Ytmfifkkmbkcibaa
set_option linter.unusedVariables false
open Go.RowKit

theorem RdL.ints {S S' : Nat → Prop} {w w' : World} : ∀ {xs : List Int} {cs : List Value}, RdL intR S w cs xs → RdL intR S' w' cs xs
  | [], cs, h => h
  | x :: xs, cs, ⟨c, r, e, h1, h2⟩ => ⟨c, r, e, h1, RdL.ints h2⟩
theorem Own.ints {S S' : Nat → Prop} {w : World} {base : Nat} {e : TypeId} {v : Value} {xs : List Int} (h : Own intR S base e w v xs) : Own intR S' base e w v xs := by
  obtain ⟨cs, h1, h2⟩ := h
  exact ⟨cs, h1, h2.ints⟩
theorem RdL.intsMk {S : Nat → Prop} {w : World} : ∀ {xs : List Int}, (∀ x ∈ xs, rng x) → RdL intR S w (xs.map (Value.int .i64)) xs
  | [], _ => rfl
  | x :: xs, h => ⟨[.int .i64 x], _, rfl, ⟨rfl, h x (by simp)⟩, RdL.intsMk (fun y hy => h y (by simp [hy]))⟩
theorem RdL.intsRng {S : Nat → Prop} {w : World} : ∀ {xs : List Int} {cs : List Value}, RdL intR S w cs xs → ∀ x ∈ xs, rng x
  | [], cs, h, x, hx => by simp at hx
  | y :: xs, cs, ⟨c, r, e, h1, h2⟩, x, hx => by
    rcases List.mem_cons.1 hx with rfl | hx
    · exact h1.2
    · exact RdL.intsRng h2 x hx
/-- A row of ints as a slice. -/
theorem Row.slI {S : Nat → Prop} {w : World} {g : Nat} {t : TypeId} {xs : List Int} (h : Row w g t (xs.map (Value.int .i64))) (hr : ∀ x ∈ xs, rng x) (hl : xs.length ≤ 9223372036854775807) (hS : S g) : Sl intR S w (.slice (some ⟨g, 0, none⟩) xs.length xs.length) xs := by
  refine ⟨_, _, rfl, Nat.le_refl _, hl, fun h => by simp at h, fun _ => ⟨g, 0, rfl, hS, _, RdL.intsMk hr, fun j _ => ?_⟩⟩
  rw [Nat.zero_add, h.cell]
/-- One int of a row of the call's own is written. -/
theorem Own.setI {S : Nat → Prop} {w : World} {base : Nat} {e : TypeId} {g n cap : Nat} {xs : List Int} (h : Own intR S base e w (.slice (some ⟨g, 0, none⟩) n cap) xs) (i : Nat) (hi : i < xs.length) (x : Int) (hx : rng x) :
    Own intR S base e (w.setCell ⟨g, i, none⟩ (.int .i64 x)) (.slice (some ⟨g, 0, none⟩) n cap) (xs.set i x) := by
  refine h.put i hi (c := [.int .i64 x]) (fun cs h1 h2 => ?_) (fun b hb _ => Below.heap_setCell _ _ _ _ hb) ⟨rfl, hx⟩
  have h3 := h1.stored i (.int .i64 x)
  have hl : cs.length = xs.length := by rw [h2.len]; simp [intR]
  rw [chunk1 cs i _ (by omega)] at h3
  simpa [intR] using h3.1

def newErr (t : Int) : Int := if t < 1 ∨ 4 < t then 3 else 0
def newOut (t : Int) : List Int := if t < 1 ∨ 4 < t then [] else List.replicate t.toNat (-1)
def swErr (xs : List Int) (t c : Int) : Int := if t < 0 ∨ (xs.length : Int) ≤ t then 64 else if isCell c then 0 else 63
def swOut (xs : List Int) (t c : Int) : List Int := if swErr xs t c = 0 then xs.set t.toNat c else xs
def swOld (xs : List Int) (t c : Int) : Int := if swErr xs t c = 0 then route xs t else -1

set_option maxRecDepth 100000 in
set_option maxHeartbeats 2000000 in
theorem new_any (t : Int) (w : World) :
    Calls Try.prog 16 #[.int .i64 t] w fun e w' => ∃ v, e = .returned (.tuple #[.agg #[v], .int .i64 (newErr t)]) ∧ Sl intR (fun b => w.heap.size ≤ b) w' v (newOut t) ∧ Below w.heap.size w w' := by
  by_cases h1 : t < 1
  · have he : newErr t = 3 := by unfold newErr; rw [if_pos (.inl h1)]
    have ho : newOut t = [] := by unfold newOut; rw [if_pos (.inl h1)]
    rw [he, ho]; clear he ho
    go_enter Try.func16, Try.ntmps16
    go_wp2_with fail
    refine bodyPost_ret (v := .tuple #[.agg #[.slice none 0 0], .int .i64 3]) (by simp [results, Try.results16, go_sem]) rfl ⟨_, rfl, Sl.nil, ?_⟩
    exact (Below.refl _ _).alloc (Nat.le_refl _) _
  by_cases h2 : 4 < t
  · have he : newErr t = 3 := by unfold newErr; rw [if_pos (.inr h2)]
    have ho : newOut t = [] := by unfold newOut; rw [if_pos (.inr h2)]
    rw [he, ho]; clear he ho
    go_enter Try.func16, Try.ntmps16
    go_wp2_with fail
    refine bodyPost_ret (v := .tuple #[.agg #[.slice none 0 0], .int .i64 3]) (by simp [results, Try.results16, go_sem]) rfl ⟨_, rfl, Sl.nil, ?_⟩
    exact (Below.refl _ _).alloc (Nat.le_refl _) _
  obtain ⟨n, rfl⟩ : ∃ n : Nat, t = n := ⟨t.toNat, by omega⟩
  have he : newErr n = 0 := by unfold newErr; rw [if_neg (by omega)]
  have ho : newOut n = List.replicate n (-1) := by unfold newOut; rw [if_neg (by omega)]; simp
  rw [he, ho]; clear he ho
  have hn : n = 1 ∨ n = 2 ∨ n = 3 ∨ n = 4 := by omega
  have C := fun b w => repeat_any n hn b w
  clear hn
  go_enter Try.func16, Try.ntmps16
  go_wp2_with fail
  refine (C _ _ (by
    simp)).mono ?_
  clear C
  rintro e w1 ⟨rfl, hr, hb⟩
  have hbx := ((Below.refl w.heap.size w).alloc (Nat.le_refl _) (.cells #[.slice none 0 0] 39)).alloc (by simp) (.cells #[.int .i64 (-1)] 3)
  have hr0 := ((Row.new w 39 [.slice none 0 0]).below ((Below.refl _ _).alloc (Nat.le_refl _) (.cells #[.int .i64 (-1)] 3)) (by simp)).below hb (by simp; omega)
  have HB := Lib.hid (hbx.trans (hb.mono (by simp; omega))); clear hbx hb
  have hf := hr0.frz 0
  have hc : w1.cell? ⟨w.heap.size, 0, none⟩ = some (.slice none 0 0) := hr0.cell 0
  have HR := Lib.hid hr; clear hr
  have HR0 := Lib.hid hr0; clear hr0
  go_wp2_with fail
  refine bodyPost_ret (v := .tuple #[.agg #[.slice (some ⟨w.heap.size + 1 + 1, 0, none⟩) n n], .int .i64 0]) (by simp [results, Try.results16, go_sem, hc]) rfl ⟨_, rfl, ?_, HB.out.setCell (Nat.le_refl _) _⟩
  have hx : Row w1 (w.heap.size + 1 + 1) 3 ((List.replicate n (-1 : Int)).map (Value.int .i64)) := by
    have h := HR.out
    simp only [List.map_replicate]
    simpa using h
  have hy := (hx.setOther (g' := w.heap.size) (o := 0) (.slice (some ⟨w.heap.size + 1 + 1, 0, none⟩) n n) (by omega)).slI (S := fun b => w.heap.size ≤ b) (fun x hx => by rw [List.eq_of_mem_replicate hx]; simp [rng]) (by simp; omega) (by omega)
  simpa using hy

set_option maxRecDepth 100000 in
set_option maxHeartbeats 4000000 in
theorem switch_any (v : Value) (xs : List Int) (t c : Int) (S : Nat → Prop) (w : World) (hv : Sl intR S w v xs) (hl : xs.length * 8 ≤ 140737488355328) (hcr : rng c) :
    Calls Try.prog 18 #[.agg #[v], .int .i64 t, .int .i64 c] w fun e w' => ∃ v', e = .returned (.tuple #[.agg #[v'], .int .i64 (swOld xs t c), .int .i64 (swErr xs t c)]) ∧ Sl intR (fun b => w.heap.size ≤ b) w' v' (swOut xs t c) ∧ Below w.heap.size w w' := by
  obtain ⟨va, vcap, rfl, hm⟩ := hv.len
  obtain ⟨W, hW⟩ : ∃ W, W = (w.alloc (.cells #[.slice va xs.length vcap] 39)).alloc (.cells #[.slice none 0 0] 39) := ⟨_, rfl⟩
  have hbW : Below w.heap.size w W := by rw [hW]; exact ((Below.refl w.heap.size w).alloc (Nat.le_refl _) _).alloc (by simp) _
  have hsW : W.heap.size = w.heap.size + 2 := by rw [hW]; simp
  have r0 : Row W w.heap.size 39 [.slice va xs.length vcap] := by
    rw [hW]; exact (Row.new w _ _).below ((Below.refl _ _).alloc (Nat.le_refl _) _) (by simp)
  have r1 : Row W (w.heap.size + 1) 39 [.slice none 0 0] := by
    rw [hW]
    have := Row.new (w.alloc (.cells #[.slice va xs.length vcap] 39)) 39 [.slice none 0 0]
    simpa using this
  have hv := hv.lt (S' := fun b => b < w.heap.size) (by decide) (fun b hb hlt => hlt)
  have HV := Lib.hid (hv.below hbW); clear hv
  generalize hge : swErr xs t c = er
  generalize hgo : swOut xs t c = out
  generalize hgd : swOld xs t c = old
  have HGE := Lib.hid hge; clear hge
  have HGO := Lib.hid hgo; clear hgo
  have HGD := Lib.hid hgd; clear hgd
  go_enter Try.func18, Try.ntmps18
  go_wp2_with fail
  rw [← hW]
  clear hW
  refine (cloneI_any _ _ xs W HV.out hl).mono ?_
  rintro e w1 ⟨v1, rfl, k1, hb1⟩
  obtain ⟨oa, ocap, rfl⟩ := k1.len
  have hk1 := k1.lt
  have k1 := k1.ints (S' := fun _ => True)
  have hal := (Below.refl w1.heap.size w1).alloc (Nat.le_refl _) (.cells #[.slice oa xs.length ocap] 39)
  have hb2 := hb1.trans (hal.mono hb1.size)
  have r0 := r0.below hb2 r0.lt
  have r1 := r1.below hb2 r1.lt
  have r2 := Row.new w1 39 [.slice oa xs.length ocap]
  have hv := HV.out.below hb2
  have k1 := k1.below hal
  have hbx := hbW.trans (hb2.mono (by omega))
  have hz1 := hb1.size
  clear HV hbW hb1 hb2 hal
  go_upto_region 2 with (fail)
  generalize hW2 : w1.alloc (.cells #[.slice oa xs.length ocap] 39) = W2 at *
  have hno : w1.heap.size < W2.heap.size := by rw [← hW2]; simp
  clear hW2
  generalize hno2 : w1.heap.size = no at *
  clear hno2
  have a0 : W2.cell? ⟨w.heap.size, 0, none⟩ = some (.slice va xs.length vcap) := r0.cell 0
  have a1 : W2.cell? ⟨w.heap.size + 1, 0, none⟩ = some (.slice none 0 0) := r1.cell 0
  have f1 := r1.frz 0
  have a2 : W2.cell? ⟨no, 0, none⟩ = some (.slice oa xs.length ocap) := r2.cell 0
  have hslx : Sl intR (fun b => w.heap.size ≤ b) (W2.setCell ⟨w.heap.size + 1, 0, none⟩ (.slice oa xs.length ocap)) (.slice oa xs.length ocap) xs :=
    ((k1.ints (S' := fun _ => False)).setOther (g := w.heap.size + 1) (o := 0) (.slice oa xs.length ocap) (fun hx => by have := (hk1 _ hx).1; omega) (fun h => h)).sl (fun b hb => by omega) (fun b hb => hb.elim)
  have HK1 := Lib.hid k1; clear k1
  have HKL := Lib.hid hk1; clear hk1
  have HS := Lib.hid hslx; clear hslx
  have HV := Lib.hid hv; clear hv
  have HB := Lib.hid hbx; clear hbx
  have HR0 := Lib.hid r0; clear r0
  have HR1 := Lib.hid r1; clear r1
  have HR2 := Lib.hid r2; clear r2
  by_cases h1 : t < 0 ∨ (xs.length : Int) ≤ t
  · have he : swErr xs t c = 64 := by unfold swErr; rw [if_pos h1]
    have ho : swOut xs t c = xs := by unfold swOut; rw [if_neg (by rw [he]; omega)]
    have hd : swOld xs t c = -1 := by unfold swOld; rw [if_neg (by rw [he]; omega)]
    obtain rfl := he.symm.trans HGE.out
    obtain rfl := ho.symm.trans HGO.out
    obtain rfl := hd.symm.trans HGD.out
    clear he ho hd
    rcases h1 with h1 | h1
    · go_wp2_with fail
      refine bodyPost_ret (v := .tuple #[.agg #[.slice oa xs.length ocap], .int .i64 (-1), .int .i64 64]) (by simp [results, Try.results18, go_sem, a1]) rfl ⟨_, rfl, HS.out, HB.out.setCell (Nat.le_succ _) _⟩
    · have h0 : ¬ t < 0 := by omega
      go_wp2_with fail
      refine bodyPost_ret (v := .tuple #[.agg #[.slice oa xs.length ocap], .int .i64 (-1), .int .i64 64]) (by simp [results, Try.results18, go_sem, a1]) rfl ⟨_, rfl, HS.out, HB.out.setCell (Nat.le_succ _) _⟩
  have h0 : ¬ t < 0 := by omega
  have h00 : t < xs.length := by omega
  by_cases hc : isCell c = true
  · have he : swErr xs t c = 0 := by unfold swErr; rw [if_neg h1, if_pos hc]
    have ho : swOut xs t c = xs.set t.toNat c := by unfold swOut; rw [if_pos he]
    have hd : swOld xs t c = route xs t := by unfold swOld; rw [if_pos he]
    obtain rfl := he.symm.trans HGE.out
    obtain rfl := ho.symm.trans HGO.out
    obtain rfl := hd.symm.trans HGD.out
    clear he ho hd
    have C := fun w => cell_same c w
    rw [hc] at C
    clear hc
    obtain ⟨k, rfl⟩ : ∃ k : Nat, t = k := ⟨t.toNat, by omega⟩
    have hk : k < xs.length := by omega
    obtain ⟨g, cc, rfl, hg1, hg2, hrd, hcell, hfz⟩ := HK1.out.at k hk
    obtain ⟨rfl, hx1, hx2⟩ := hrd
    have y0 : W2.cell? ⟨g, k, none⟩ = some (.int .i64 xs[k]) := by have h := hcell 0 (by decide); simpa [intR] using h
    have yf := hfz k
    have hki := HK1.out.setI k hk c hcr
    have hgg := HKL.out g rfl
    clear hcell hfz
    go_upto_region 7 with (first | (refine (C _).mono ?_; rintro e w2 ⟨rfl, rfl⟩))
    have hkv := HV.out.kept (w' := w2.setCell ⟨g, k, none⟩ (.int .i64 c)) (fun b hb _ => Below.heap_setCell _ _ _ _ (by show b ≠ g; omega))
    have r0 := HR0.out.setOther (g' := g) (o := k) (.int .i64 c) (by omega)
    have r1 := HR1.out.setOther (g' := g) (o := k) (.int .i64 c) (by omega)
    have r2 := HR2.out.setOther (g' := g) (o := k) (.int .i64 c) (by omega)
    have hbx := HB.out.setCell (p := ⟨g, k, none⟩) (by show w.heap.size ≤ g; omega) (.int .i64 c)
    have hsz : (w2.setCell ⟨g, k, none⟩ (.int .i64 c)).heap.size = w2.heap.size := by simp [World.setCell]
    clear HV HR0 HR1 HR2 HB HS y0 yf a0 a1 a2 f1 C
    generalize w2.setCell ⟨g, k, none⟩ (.int .i64 c) = W3 at *
    have x0 : W3.drew.cell? ⟨no, 0, none⟩ = some (.slice (some ⟨g, 0, none⟩) xs.length ocap) := r2.cell 0
    have x1 : W3.drew.cell? ⟨w.heap.size, 0, none⟩ = some (.slice va xs.length vcap) := r0.cell 0
    have hN : no ≠ w.heap.size + 1 := by omega
    have hN0 : w.heap.size ≠ w.heap.size + 1 := by omega
    have HKV := Lib.hid hkv; clear hkv
    have HKI := Lib.hid hki; clear hki
    have R0 := Lib.hid r0; clear r0
    have R1 := Lib.hid r1; clear r1
    have R2 := Lib.hid r2; clear r2
    have HBX := Lib.hid hbx; clear hbx
    go_region_held3 (fun w' => w'.cell? ⟨no, 0, none⟩ = some (.slice (some ⟨g, 0, none⟩) xs.length ocap) ∧ w'.cell? ⟨w.heap.size, 0, none⟩ = some (.slice va xs.length vcap))
      (first | with_reducible exact ⟨x0, x1⟩ | with_reducible exact ⟨y0, y1⟩ | exact ⟨(q2.setOther _ hN).cell 0, (q0.setOther _ hN0).cell 0⟩)
      (first | (go_at_call 21; refine (route_any _ xs k _ _ HKV.out.drew).mono ?_; rintro e w4 ⟨rfl, hb4⟩; have q2 := R2.out.drew.below hb4 R2.out.lt; have q0 := R0.out.drew.below hb4 R0.out.lt; have q1 := R1.out.drew.below hb4 R1.out.lt; have y0 : w4.cell? ⟨no, 0, none⟩ = some (.slice (some ⟨g, 0, none⟩) xs.length ocap) := q2.cell 0; have y1 : w4.cell? ⟨w.heap.size, 0, none⟩ = some (.slice va xs.length vcap) := q0.cell 0; have z1 : w4.cell? ⟨w.heap.size + 1, 0, none⟩ = some (.slice none 0 0) := q1.cell 0; have zf := q1.frz 0))
    have hfin : Sl intR (fun b => w.heap.size ≤ b) (w4.setCell ⟨w.heap.size + 1, 0, none⟩ (.slice (some ⟨g, 0, none⟩) xs.length ocap)) (.slice (some ⟨g, 0, none⟩) xs.length ocap) (xs.set k c) := by
      have h := (HKI.out.drew.below hb4).ints (S' := fun _ => False)
      have h2 := (h.setOther (g := w.heap.size + 1) (o := 0) (.slice (some ⟨g, 0, none⟩) xs.length ocap) (fun hx => by injection hx with hx; have hx2 : g = w.heap.size + 1 := hx; omega) (fun h => h)).sl (S' := fun b => w.heap.size ≤ b) (fun b hb => by omega) (fun b hb => hb.elim)
      exact h2
    have HF := Lib.hid hfin; clear hfin
    have hb5 := (HBX.out.drew.trans (hb4.mono HBX.out.drew.size)).setCell (p := ⟨w.heap.size + 1, 0, none⟩) (Nat.le_succ _) (.slice (some ⟨g, 0, none⟩) xs.length ocap)
    have HB5 := Lib.hid hb5; clear hb5 hb4 q0 q1 q2
    go_wp2_with fail
    refine bodyPost_ret (v := .tuple #[.agg #[.slice (some ⟨g, 0, none⟩) xs.length ocap], .int .i64 (route xs k), .int .i64 0]) (by simp [results, Try.results18, go_sem, z1]) rfl ⟨_, rfl, ?_, HB5.out⟩
    simpa using HF.out
  · have hc' : isCell c = false := by simpa using hc
    have he : swErr xs t c = 63 := by unfold swErr; rw [if_neg h1, if_neg hc]
    have ho : swOut xs t c = xs := by unfold swOut; rw [if_neg (by rw [he]; omega)]
    have hd : swOld xs t c = -1 := by unfold swOld; rw [if_neg (by rw [he]; omega)]
    obtain rfl := he.symm.trans HGE.out
    obtain rfl := ho.symm.trans HGO.out
    obtain rfl := hd.symm.trans HGD.out
    clear he ho hd
    have C := fun w => cell_same c w
    rw [hc'] at C
    clear hc hc'
    go_wp2_with (first | (refine (C _).mono ?_; rintro e w2 ⟨rfl, rfl⟩))
    refine bodyPost_ret (v := .tuple #[.agg #[.slice oa xs.length ocap], .int .i64 (-1), .int .i64 63]) (by simp [results, Try.results18, go_sem, a1]) rfl ⟨_, rfl, HS.out, HB.out.setCell (Nat.le_succ _) _⟩
end Go.Proofs.Ytmfifkkmbkcibaa
