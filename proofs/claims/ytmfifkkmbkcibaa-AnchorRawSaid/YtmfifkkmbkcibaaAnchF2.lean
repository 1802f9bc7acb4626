/-
  The contracts of the reference's Switch and Take.
-/
import Derived.Test.YtmfifkkmbkcibaaAnchF
namespace Go.Proofs.Ytmfifkkmbkcibaa
set_option linter.unusedVariables false
open Go.RowKit

theorem Sl.grown {α : Type} {R : Rep α} {S : Nat → Prop} {w w' : World} {v : Value} {xs : List α} {row : Option Nat} (h : Sl R S w v xs) (hg : w.grownBy w' row) (hne : ∀ b, S b → b < w.heap.size → some b ≠ row) : Sl R S w' v xs :=
  h.kept fun b hb hlt => hg.block b hlt (hne b hb hlt)
theorem Sl.takeAny {α : Type} {R : Rep α} {S : Nat → Prop} {w : World} {xs : List α} {a : Option Addr} {n cap k : Nat} (h : Sl R S w (.slice a n cap) xs) (hk : k ≤ xs.length) : Sl R S w (.slice a k cap) (xs.take k) := by
  obtain ⟨a', cap', hv, h1, h2, h3, h4⟩ := h
  simp at hv
  obtain ⟨rfl, rfl, rfl⟩ := hv
  have e : (xs.take k).length = k := by simp; omega
  refine ⟨a, cap, by rw [e], by omega, h2, h3, fun hp => ?_⟩
  obtain ⟨b, off, rfl, hb, cs, hr, hc⟩ := h4 (by omega)
  refine ⟨b, off, rfl, hb, cs.take (k * R.n), (hr.split k hk).1, fun j hj => ?_⟩
  simp at hj
  rw [hc j (by omega), List.getElem?_take_of_lt (by omega)]
theorem Sl.any {α : Type} {R : Rep α} {S : Nat → Prop} {w : World} {v : Value} {xs : List α} (h : Sl R S w v xs) (hn : 0 < R.n) : Sl R (fun _ => True) w v xs := h.lt hn (fun _ _ _ => trivial)
theorem below_grown {w w' : World} {row : Option Nat} {n : Nat} (hg : w.grownBy w' row) (h : ∀ k, row = some k → n ≤ k) (hn : n ≤ w.heap.size) : Below n w w' := (Below.refl n w).grown hg hn h

set_option maxRecDepth 100000 in
set_option maxHeartbeats 4000000 in
theorem refSwitch_any (v : Value) (xs : List Int) (t c : Int) (S : Nat → Prop) (w : World) (hv : Sl intR S w v xs) (hl : xs.length * 8 ≤ 140737488355328) (hcr : rng c) :
    Calls Try.prog 19 #[.agg #[v], .int .i64 t, .int .i64 c] w fun e w' => ∃ v', e = .returned (.tuple #[.agg #[v'], .int .i64 (swOld xs t c), .int .i64 (swErr xs t c)]) ∧ Sl intR (fun _ => True) w' v' (swOut xs t c) ∧ Below w.heap.size w w' := by
  obtain ⟨i0, hi0, hz0, hz1, hz2⟩ := info_parts (P := Try.prog) (e := 3) (z := .int .i64 0) (size := intR.n) (bytes := 8) (by kernel_rfl)
  obtain ⟨va, vcap, rfl, hm⟩ := hv.len
  obtain ⟨W, hW⟩ : ∃ W, W = (w.alloc (.cells #[.slice va xs.length vcap] 39)).alloc (.cells #[.slice none 0 0] 39) := ⟨_, rfl⟩
  have hbW : Below w.heap.size w W := by rw [hW]; exact ((Below.refl w.heap.size w).alloc (Nat.le_refl _) _).alloc (by simp) _
  have hsW : W.heap.size = w.heap.size + 2 := by rw [hW]; simp
  have r0 : Row W w.heap.size 39 [.slice va xs.length vcap] := by
    rw [hW]; exact (Row.new w _ _).below ((Below.refl _ _).alloc (Nat.le_refl _) _) (by simp)
  have r1 : Row W (w.heap.size + 1) 39 [.slice none 0 0] := by
    rw [hW]
    have := Row.new (w.alloc (.cells #[.slice va xs.length vcap] 39)) 39 [.slice none 0 0]
    simpa using this
  have hv := (hv.lt (S' := fun b => b < w.heap.size) (by decide) (fun b hb hlt => hlt)).below hbW
  generalize hge : swErr xs t c = er
  generalize hgo : swOut xs t c = out
  generalize hgd : swOld xs t c = old
  have HGE := Lib.hid hge; clear hge
  have HGO := Lib.hid hgo; clear hgo
  have HGD := Lib.hid hgd; clear hgd
  have a0 : W.cell? ⟨w.heap.size, 0, none⟩ = some (.slice va xs.length vcap) := r0.cell 0
  have a1 : W.cell? ⟨w.heap.size + 1, 0, none⟩ = some (.slice none 0 0) := r1.cell 0
  have f1 := r1.frz 0
  have hsx : Sl intR (fun _ => True) (W.setCell ⟨w.heap.size + 1, 0, none⟩ (.slice va xs.length vcap)) (.slice va xs.length vcap) xs :=
    (hv.kept (fun b hb _ => Below.heap_setCell _ _ _ _ (by show b ≠ w.heap.size + 1; omega))).any (by decide)
  have HV := Lib.hid hv; clear hv
  have HS := Lib.hid hsx; clear hsx
  have HB := Lib.hid hbW; clear hbW
  have HR0 := Lib.hid r0; clear r0
  have HR1 := Lib.hid r1; clear r1
  go_enter Try.func19, Try.ntmps19
  go_upto_region 1 with (fail)
  rw [← hW]
  clear hW
  by_cases h1 : t < 0 ∨ (xs.length : Int) ≤ t
  · have he : swErr xs t c = 64 := by unfold swErr; rw [if_pos h1]
    have ho : swOut xs t c = xs := by unfold swOut; rw [if_neg (by rw [he]; omega)]
    have hd : swOld xs t c = -1 := by unfold swOld; rw [if_neg (by rw [he]; omega)]
    obtain rfl := he.symm.trans HGE.out
    obtain rfl := ho.symm.trans HGO.out
    obtain rfl := hd.symm.trans HGD.out
    clear he ho hd
    rcases h1 with h1 | h1
    · go_wp2_with fail
      refine bodyPost_ret (v := .tuple #[.agg #[.slice va xs.length vcap], .int .i64 (-1), .int .i64 64]) (by simp [results, Try.results19, go_sem, a1]) rfl ⟨_, rfl, HS.out, HB.out.setCell (Nat.le_succ _) _⟩
    · have h0 : ¬ t < 0 := by omega
      go_wp2_with fail
      refine bodyPost_ret (v := .tuple #[.agg #[.slice va xs.length vcap], .int .i64 (-1), .int .i64 64]) (by simp [results, Try.results19, go_sem, a1]) rfl ⟨_, rfl, HS.out, HB.out.setCell (Nat.le_succ _) _⟩
  have h0 : ¬ t < 0 := by omega
  have h00 : t < xs.length := by omega
  by_cases hc : isCell c = true
  · have he : swErr xs t c = 0 := by unfold swErr; rw [if_neg h1, if_pos hc]
    have ho : swOut xs t c = xs.set t.toNat c := by unfold swOut; rw [if_pos he]
    have hd : swOld xs t c = route xs t := by unfold swOld; rw [if_pos he]
    obtain rfl := he.symm.trans HGE.out
    obtain rfl := ho.symm.trans HGO.out
    obtain rfl := hd.symm.trans HGD.out
    clear he ho hd
    have hc0 : ¬ c < 0 := by simp [isCell] at hc; omega
    have hc1 : ¬ 3 ≤ c := by simp [isCell] at hc; omega
    clear hc
    obtain ⟨k, rfl⟩ : ∃ k : Nat, t = k := ⟨t.toNat, by omega⟩
    have hk : k < xs.length := by omega
    go_wp2_with fail
    refine (refRoute_any _ xs k _ _ HV.out).mono ?_
    rintro e w1 ⟨rfl, hb1⟩
    have hv1 := HV.out.below hb1
    have r0 := HR0.out.below hb1 HR0.out.lt
    have r1 := HR1.out.below hb1 HR1.out.lt
    have hbx := HB.out.trans (hb1.mono HB.out.size)
    have hs1 := hb1.size
    clear HV HR0 HR1 HB hb1 a0 a1 f1 HS
    have a0 : (w1.alloc (.cells #[] 3)).cell? ⟨w.heap.size, 0, none⟩ = some (.slice va xs.length vcap) := (r0.below ((Below.refl _ _).alloc (Nat.le_refl _) _) r0.lt).cell 0
    have R0 := Lib.hid r0; clear r0
    have R1 := Lib.hid r1; clear r1
    have HV1 := Lib.hid hv1; clear hv1
    have HBX := Lib.hid hbx; clear hbx
    go_wp2_with (at_builtin; refine wpList_appR (R := intR) (S := fun b => b < w1.heap.size) rfl _ _ 28 rfl w1.heap.size 3 i0 (.int .i64 0) 8 Try.underlying28 hi0 hz0 hz1 hz2 rfl (by decide) _ [] rfl (own_empty _ _ w1 _) _ xs rfl ((HV1.out.below ((Below.refl _ _).alloc (Nat.le_refl _) _)).lt (by decide) (fun b hb _ => by omega)) ?c1 ?c2 ?c3 ?c4 ?_)
    try (case c1 => intros; simp only [Value.ownBlock]; intro hx; injection hx with hx; have hx2 : _ = w1.heap.size := hx; omega)
    try (case c2 => unfold maxLen; simp; omega)
    try (case c3 => simp; omega)
    try (case c4 => simp)
    intro v2 w2 hown hg hwh
    try rw [List.nil_append] at hown
    have hb2 : Below w1.heap.size w1 w2 := ((Below.refl w1.heap.size w1).alloc (Nat.le_refl _) _).grown hg (by simp) (by intro k hk; simp [Value.ownBlock] at hk; omega)
    have r0 := R0.out.below hb2 R0.out.lt
    have r1 := R1.out.below hb2 R1.out.lt
    have hbx := HBX.out.trans (hb2.mono HBX.out.size)
    clear hg hwh hb2 R0 R1 HBX a0
    obtain ⟨oa, ocap, rfl⟩ := hown.len
    obtain ⟨g, cc, rfl, hg1, hg2, hrd, hcell, hfz⟩ := hown.at k hk
    obtain ⟨rfl, hx1, hx2⟩ := hrd
    have y0 : w2.cell? ⟨g, k, none⟩ = some (.int .i64 xs[k]) := by have h := hcell 0 (by decide); simpa [intR] using h
    have yf := hfz k
    have hki := hown.setI k hk c hcr
    clear hcell hfz
    generalize xs[k] = xk at *
    have b0 : w2.cell? ⟨w.heap.size, 0, none⟩ = some (.slice va xs.length vcap) := r0.cell 0
    have bf := r0.frz 0
    have b1 : w2.cell? ⟨w.heap.size + 1, 0, none⟩ = some (.slice none 0 0) := r1.cell 0
    have b1f := r1.frz 0
    have hgn : g ≠ w.heap.size := by omega
    have hgn1 : g ≠ w.heap.size + 1 := by omega
    have hgn' : w.heap.size ≠ g := by omega
    have hgn1' : w.heap.size + 1 ≠ g := by omega
    have HO := Lib.hid hown; clear hown
    have HBX := Lib.hid hbx; clear hbx
    have R0 := Lib.hid r0; clear r0
    have R1 := Lib.hid r1; clear r1
    clear hki
    go_wp2_with fail
    refine bodyPost_ret (v := .tuple #[.agg #[.slice (some ⟨g, 0, none⟩) xs.length ocap], .int .i64 (route xs k), .int .i64 0]) (by simp [results, Try.results19, go_sem, b1]) rfl ⟨_, rfl, ?_, ((HBX.out.setCell (Nat.le_refl _) _).setCell (p := ⟨g, k, none⟩) (by show w.heap.size ≤ g; omega) _).setCell (p := ⟨w.heap.size + 1, 0, none⟩) (Nat.le_succ _) _⟩
    have q1 := (HO.out.ints (S' := fun _ => False)).setOther (g := w.heap.size) (o := 0) (.slice (some ⟨g, 0, none⟩) xs.length ocap) (fun hx => by injection hx with hx; exact hgn hx) (fun h => h)
    have q2 := q1.setI k hk c hcr
    have q3 := (q2.setOther (g := w.heap.size + 1) (o := 0) (.slice (some ⟨g, 0, none⟩) xs.length ocap) (fun hx => by injection hx with hx; exact hgn1 hx) (fun h => h)).sl (S' := fun _ => True) (fun _ _ => trivial) (fun _ _ => trivial)
    simpa using q3
  · have hc' : isCell c = false := by simpa using hc
    have he : swErr xs t c = 63 := by unfold swErr; rw [if_neg h1, if_neg hc]
    have ho : swOut xs t c = xs := by unfold swOut; rw [if_neg (by rw [he]; omega)]
    have hd : swOld xs t c = -1 := by unfold swOld; rw [if_neg (by rw [he]; omega)]
    obtain rfl := he.symm.trans HGE.out
    obtain rfl := ho.symm.trans HGO.out
    obtain rfl := hd.symm.trans HGD.out
    clear he ho hd
    by_cases hc0 : c < 0
    · clear hc hc'
      go_wp2_with fail
      refine bodyPost_ret (v := .tuple #[.agg #[.slice va xs.length vcap], .int .i64 (-1), .int .i64 63]) (by simp [results, Try.results19, go_sem, a1]) rfl ⟨_, rfl, HS.out, HB.out.setCell (Nat.le_succ _) _⟩
    · have hc1 : 3 ≤ c := by simp [isCell] at hc; omega
      clear hc hc'
      go_wp2_with fail
      refine bodyPost_ret (v := .tuple #[.agg #[.slice va xs.length vcap], .int .i64 (-1), .int .i64 63]) (by simp [results, Try.results19, go_sem, a1]) rfl ⟨_, rfl, HS.out, HB.out.setCell (Nat.le_succ _) _⟩

set_option maxRecDepth 100000 in
set_option maxHeartbeats 4000000 in
theorem refTake_any (delay tick : Int) (v : Value) (xs : List Msg) (S : Nat → Prop) (w : World) (hv : Sl msgR S w v xs) (hl : xs.length * 88 ≤ 140737488355328) :
    Calls Try.prog 11 #[.agg #[.int .i64 delay, v], .int .i64 tick] w fun e w' => ∃ v' l', e = .returned (.tuple #[.agg #[.int .i64 delay, v'], l', .int .i64 (take delay xs tick).2.2]) ∧ Sl msgR (fun _ => True) w' v' (take delay xs tick).1 ∧ Sl msgR (fun _ => True) w' l' (take delay xs tick).2.1 ∧ Below w.heap.size w w' := by
  obtain ⟨i0, hi0, hz0, hz1, hz2⟩ := info_parts (P := Try.prog) (e := 34) (z := .agg #[.int .i64 0, .int .i64 0, .int .i64 0, .int .i64 0, .int .i64 0, .slice none 0 0, .slice none 0 0]) (size := msgR.n) (bytes := 88) (by kernel_rfl)
  obtain ⟨va, vcap, rfl, hm⟩ := hv.len
  have hsh : xs.length ≤ vcap ∧ vcap ≤ 9223372036854775807 ∧ (va = none → vcap = 0) := by
    obtain ⟨a, cap, h1, h2, h3, h4, -⟩ := hv
    simp at h1
    obtain ⟨rfl, rfl⟩ := h1
    exact ⟨h2, h3, h4⟩
  obtain ⟨W, hW⟩ : ∃ W, W = (w.alloc (.cells #[.int .i64 delay, .slice va xs.length vcap] 27)).alloc (.cells #[.int .i64 0, .slice none 0 0] 27) := ⟨_, rfl⟩
  have hbW : Below w.heap.size w W := by rw [hW]; exact ((Below.refl w.heap.size w).alloc (Nat.le_refl _) _).alloc (by simp) _
  have hsW : W.heap.size = w.heap.size + 2 := by rw [hW]; simp
  have r0 : Row W w.heap.size 27 [.int .i64 delay, .slice va xs.length vcap] := by
    rw [hW]; exact (Row.new w _ _).below ((Below.refl _ _).alloc (Nat.le_refl _) _) (by simp)
  have r2 : Row W (w.heap.size + 1) 27 [.int .i64 0, .slice none 0 0] := by
    rw [hW]
    have := Row.new (w.alloc (.cells #[.int .i64 delay, .slice va xs.length vcap] 27)) 27 [.int .i64 0, .slice none 0 0]
    simpa using this
  have hv := (hv.lt (S' := fun b => b < w.heap.size) (by decide) (fun b hb hlt => hlt)).below hbW
  generalize htk : take delay xs tick = tk
  have HTK := Lib.hid htk; clear htk
  go_enter Try.func11, Try.ntmps11
  go_wp2_with fail
  rw [← hW]
  clear hW
  refine (refCheck_any delay _ xs _ W hv).mono ?_
  rintro e w1 ⟨rfl, hb1⟩
  have r0 := r0.below hb1 r0.lt
  have r2 := r2.below hb1 r2.lt
  have hv := hv.below hb1
  have hbx := hbW.trans (hb1.mono hbW.size)
  have hs1 := hb1.size
  clear hb1 hbW
  have a0 : w1.cell? ⟨w.heap.size, 0, none⟩ = some (.int .i64 delay) := r0.cell 0
  have a1 : w1.cell? ⟨w.heap.size, 1, none⟩ = some (.slice va xs.length vcap) := r0.cell 1
  have c0 : w1.cell? ⟨w.heap.size + 1, 0, none⟩ = some (.int .i64 0) := r2.cell 0
  have c1 : w1.cell? ⟨w.heap.size + 1, 1, none⟩ = some (.slice none 0 0) := r2.cell 1
  have f2 := r2.frz
  have hsame : Sl msgR (fun _ => True) ((w1.setCell ⟨w.heap.size + 1, 0, none⟩ (.int .i64 delay)).setCell ⟨w.heap.size + 1, 1, none⟩ (.slice va xs.length vcap)) (.slice va xs.length vcap) xs :=
    ((hv.kept (w' := w1.setCell ⟨w.heap.size + 1, 0, none⟩ (.int .i64 delay)) (fun b hb _ => Below.heap_setCell _ _ _ _ (by show b ≠ w.heap.size + 1; omega))).kept (fun b hb _ => Below.heap_setCell _ _ _ _ (by show b ≠ w.heap.size + 1; omega))).any (by decide)
  have HS := Lib.hid hsame; clear hsame
  have HB := Lib.hid hbx; clear hbx
  have HV := Lib.hid hv; clear hv
  have R0 := Lib.hid r0; clear r0
  have R2 := Lib.hid r2; clear r2
  by_cases hc : chk delay xs = 0
  · have HC := Lib.hid hc
    rw [hc]; clear hc
    by_cases t1 : tick < 0
    · have ht : take delay xs tick = (xs, [], 3) := by
        have hb : bgn delay xs tick = 3 := by unfold bgn; rw [if_pos HC.out, if_pos (.inl t1)]
        unfold take; rw [hb]; rfl
      obtain rfl := ht.symm.trans HTK.out
      clear ht
      go_wp2_with fail
      refine bodyPost_ret (v := .tuple #[.agg #[.int .i64 delay, .slice va xs.length vcap], .slice none 0 0, .int .i64 3]) (by simp [results, Try.results11, go_sem, c0, c1]) rfl ⟨_, _, rfl, HS.out, Sl.nil, (HB.out.setCell (Nat.le_succ _) _).setCell (Nat.le_succ _) _⟩
    by_cases t2 : 1048576 < tick
    · have ht : take delay xs tick = (xs, [], 3) := by
        have hb : bgn delay xs tick = 3 := by unfold bgn; rw [if_pos HC.out, if_pos (.inr t2)]
        unfold take; rw [hb]; rfl
      obtain rfl := ht.symm.trans HTK.out
      clear ht
      go_wp2_with fail
      refine bodyPost_ret (v := .tuple #[.agg #[.int .i64 delay, .slice va xs.length vcap], .slice none 0 0, .int .i64 3]) (by simp [results, Try.results11, go_sem, c0, c1]) rfl ⟨_, _, rfl, HS.out, Sl.nil, (HB.out.setCell (Nat.le_succ _) _).setCell (Nat.le_succ _) _⟩
    have hup := upto_le tick xs
    have ht : take delay xs tick = (xs.drop (upto tick xs), xs.take (upto tick xs), 0) := by
      have hb : bgn delay xs tick = 0 := by unfold bgn; rw [if_pos HC.out, if_neg (by omega)]
      unfold take; rw [if_pos hb]
    obtain rfl := ht.symm.trans HTK.out
    clear ht HTK HS HC
    obtain ⟨u, hu⟩ : ∃ u, upto tick xs = u := ⟨_, rfl⟩
    rw [hu] at hup
    have HU := Lib.hid hu; clear hu
    go_wp2_with fail
    go_loop [8] (fun i => ∃ k : Nat, k ≤ u ∧ i = .int .i64 k) (fun i => u - (intOf i).toNat)
    case atStart => exact ⟨0, by omega, rfl⟩
    case round =>
      obtain ⟨k, hk, rfl⟩ := hrel
      by_cases hku : k < u
      · have hkx : k < xs.length := by omega
        obtain ⟨b, off, c, rfl, -, hrd, hcell⟩ := HV.out.at k hkx
        obtain ⟨pd, pt, rfl, -⟩ := hrd
        have x0 : w1.cell? ⟨b, off + k * 7, none⟩ = some (.int .i64 xs[k].arr) := hcell 0 (by decide)
        have hle : xs[k].arr ≤ tick := upto_lt tick xs k hkx (by rw [HU.out]; exact hku)
        generalize xs[k].arr = ka at *
        clear hcell
        go_wp2_with fail
        go_round
        case rel => exact ⟨k + 1, by omega, by go_num⟩
        case measure => simp [intOf]; omega
      · obtain rfl : k = u := by omega
        by_cases hkl : k < xs.length
        · obtain ⟨b, off, c, rfl, -, hrd, hcell⟩ := HV.out.at k hkl
          obtain ⟨pd, pt, rfl, -⟩ := hrd
          have x0 : w1.cell? ⟨b, off + k * 7, none⟩ = some (.int .i64 xs[k].arr) := hcell 0 (by decide)
          have hle : ¬ xs[k].arr ≤ tick := by
            have := upto_end tick xs
            simp only [HU.out] at this
            exact this hkl
          generalize xs[k].arr = ka at *
          clear hcell
          obtain ⟨hcap, hcapm, -⟩ := hsh
          have sl1 : Sl msgR (fun b => b < w.heap.size) (w1.alloc (.cells #[] 34)) (.slice (some ⟨b, off, none⟩) k vcap) (xs.take k) := (HV.out.takeAny (by omega)).below ((Below.refl _ _).alloc (Nat.le_refl _) _)
          have sl2 : Sl msgR (fun b => b < w.heap.size) w1 (.slice (some ⟨b, off + k * 7, none⟩) (xs.length - k) (vcap - k)) (xs.drop k) := HV.out.dropS (k := k) (by omega) hcap hcapm
          have SL1 := Lib.hid sl1; clear sl1
          have SL2 := Lib.hid sl2; clear sl2
          have e0 : (w1.alloc (.cells #[] 34)).cell? ⟨w.heap.size, 1, none⟩ = some (.slice (some ⟨b, off, none⟩) xs.length vcap) := (R0.out.below ((Below.refl _ _).alloc (Nat.le_refl _) _) R0.out.lt).cell 1
          have hk88 : k * 88 ≤ 140737488355328 := by omega
          go_upto_region 9 with (fail)
          clear a0 a1 c0 c1 f2
          go_wp2_with (at_builtin; refine wpList_appR (R := msgR) (S := fun b => b < w.heap.size) rfl _ _ 25 rfl w1.heap.size 34 i0 (.agg #[.int .i64 0, .int .i64 0, .int .i64 0, .int .i64 0, .int .i64 0, .slice none 0 0, .slice none 0 0]) 88 Try.underlying25 hi0 hz0 hz1 hz2 rfl (by decide) _ [] rfl (own_empty _ _ w1 _) _ (xs.take k) rfl SL1.out ?c1 ?c2 ?c3 ?c4 ?_)
          try (case c1 => intros; simp only [Value.ownBlock]; intro hx; injection hx with hx; have hx2 : _ = w1.heap.size := hx; omega)
          try (case c2 => unfold maxLen; simp; omega)
          try (case c3 => simp; omega)
          try (case c4 => simp)
          intro v2 w2 hown2 hg2 hwh2
          try rw [List.nil_append] at hown2
          have hb2 : Below w1.heap.size w1 w2 := ((Below.refl w1.heap.size w1).alloc (Nat.le_refl _) _).grown hg2 (by simp) (by intro k hk; simp [Value.ownBlock] at hk; omega)
          have r0 := R0.out.below hb2 R0.out.lt
          have r2 := R2.out.below hb2 R2.out.lt
          have hbx := HB.out.trans (hb2.mono HB.out.size)
          have sl2 := SL2.out.below hb2
          have hs2 := hb2.size
          obtain ⟨oa2, oc2, hv2⟩ := hown2.len
          rw [show (xs.take k).length = k by simp; omega] at hv2
          subst hv2
          clear hg2 hwh2 hb2 R0 R2 HB SL1 SL2 e0
          have e0 : (w2.alloc (.cells #[] 34)).cell? ⟨w.heap.size, 1, none⟩ = some (.slice (some ⟨b, off, none⟩) xs.length vcap) := (r0.below ((Below.refl _ _).alloc (Nat.le_refl _) _) r0.lt).cell 1
          have R0 := Lib.hid r0; clear r0
          have R2 := Lib.hid r2; clear r2
          have HO2 := Lib.hid hown2; clear hown2
          have HB := Lib.hid hbx; clear hbx
          have SL2 := Lib.hid (sl2.below ((Below.refl _ _).alloc (Nat.le_refl _) (.cells #[] 34))); clear sl2
          go_wp2_with (at_builtin; refine wpList_appR (R := msgR) (S := fun b => b < w.heap.size) rfl _ _ 25 rfl w2.heap.size 34 i0 (.agg #[.int .i64 0, .int .i64 0, .int .i64 0, .int .i64 0, .int .i64 0, .slice none 0 0, .slice none 0 0]) 88 Try.underlying25 hi0 hz0 hz1 hz2 rfl (by decide) _ [] rfl (own_empty _ _ w2 _) _ (xs.drop k) rfl SL2.out ?d1 ?d2 ?d3 ?d4 ?_)
          try (case d1 => intros; simp only [Value.ownBlock]; intro hx; injection hx with hx; have hx2 : _ = w2.heap.size := hx; omega)
          try (case d2 => unfold maxLen; simp; omega)
          try (case d3 => simp; omega)
          try (case d4 => simp)
          intro v3 w3 hown3 hg3 hwh3
          try rw [List.nil_append] at hown3
          have hb3 : Below w2.heap.size w2 w3 := ((Below.refl w2.heap.size w2).alloc (Nat.le_refl _) _).grown hg3 (by simp) (by intro k hk; simp [Value.ownBlock] at hk; omega)
          have r0 := R0.out.below hb3 R0.out.lt
          have r2 := R2.out.below hb3 R2.out.lt
          have hbx := HB.out.trans (hb3.mono HB.out.size)
          have hown2 := HO2.out.below hb3
          obtain ⟨oa3, oc3, hv3⟩ := hown3.len
          rw [show (xs.drop k).length = xs.length - k by simp] at hv3
          subst hv3
          clear hg3 hwh3 hb3 R0 R2 HB SL2 e0 HO2
          have q3 : Sl msgR (fun _ => True) (((w3.setCell ⟨w.heap.size, 1, none⟩ (.slice oa3 (xs.length - k) oc3)).setCell ⟨w.heap.size + 1, 0, none⟩ (.int .i64 delay)).setCell ⟨w.heap.size + 1, 1, none⟩ (.slice oa3 (xs.length - k) oc3)) (.slice oa3 (xs.length - k) oc3) (xs.drop k) :=
            (((hown3.setOther (g := w.heap.size) (o := 1) _ (hown3.apart (by omega)) (by omega)).setOther (g := w.heap.size + 1) (o := 0) (.int .i64 delay) (hown3.apart (by omega)) (by omega)).setOther (g := w.heap.size + 1) (o := 1) (.slice oa3 (xs.length - k) oc3) (hown3.apart (by omega)) (by omega)).sl (fun _ _ => trivial) (fun _ _ => trivial)
          have q2 : Sl msgR (fun _ => True) (((w3.setCell ⟨w.heap.size, 1, none⟩ (.slice oa3 (xs.length - k) oc3)).setCell ⟨w.heap.size + 1, 0, none⟩ (.int .i64 delay)).setCell ⟨w.heap.size + 1, 1, none⟩ (.slice oa3 (xs.length - k) oc3)) (.slice oa2 k oc2) (xs.take k) :=
            (((hown2.setOther (g := w.heap.size) (o := 1) (.slice oa3 (xs.length - k) oc3) (hown2.apart (by omega)) (by omega)).setOther (g := w.heap.size + 1) (o := 0) (.int .i64 delay) (hown2.apart (by omega)) (by omega)).setOther (g := w.heap.size + 1) (o := 1) (.slice oa3 (xs.length - k) oc3) (hown2.apart (by omega)) (by omega)).sl (fun _ _ => trivial) (fun _ _ => trivial)
          have Q2 := Lib.hid q2; clear q2
          have Q3 := Lib.hid q3; clear q3
          have HB := Lib.hid hbx; clear hbx
          have a0 : w3.cell? ⟨w.heap.size, 0, none⟩ = some (.int .i64 delay) := r0.cell 0
          have a1 : w3.cell? ⟨w.heap.size, 1, none⟩ = some (.slice (some ⟨b, off, none⟩) xs.length vcap) := r0.cell 1
          have f0 := r0.frz
          have c0 : w3.cell? ⟨w.heap.size + 1, 0, none⟩ = some (.int .i64 0) := r2.cell 0
          have c1 : w3.cell? ⟨w.heap.size + 1, 1, none⟩ = some (.slice none 0 0) := r2.cell 1
          have f2 := r2.frz
          clear r0 r2 hown2 hown3
          go_wp2_with fail
          refine bodyPost_ret (v := .tuple #[.agg #[.int .i64 delay, .slice oa3 (xs.length - k) oc3], .slice oa2 k oc2, .int .i64 0]) (by simp [results, Try.results11, go_sem, c0, c1]) rfl ⟨_, _, rfl, ?_, ?_, ((HB.out.setCell (Nat.le_refl _) _).setCell (Nat.le_succ _) _).setCell (Nat.le_succ _) _⟩
          · rw [HU.out]; exact Q3.out
          · rw [HU.out]; exact Q2.out
        · obtain rfl : k = xs.length := by omega
          clear hkl
          by_cases hx0 : xs.length = 0
          · obtain rfl : xs = [] := List.eq_nil_of_length_eq_zero hx0
            clear hx0
            have e1 := (R0.out.below ((Below.refl w1.heap.size w1).alloc (Nat.le_refl _) (.cells #[] 34)) R0.out.lt)
            have e2 := (e1.below ((Below.refl _ _).alloc (Nat.le_refl _) (.cells #[] 34)) e1.lt)
            have e3 := (R2.out.below ((Below.refl w1.heap.size w1).alloc (Nat.le_refl _) (.cells #[] 34)) R2.out.lt)
            have e4 := (e3.below ((Below.refl _ _).alloc (Nat.le_refl _) (.cells #[] 34)) e3.lt)
            have g1 := e1.cell 1
            have g20 := e2.cell 0
            have g2 := e2.cell 1
            have gf := e2.frz
            have g40 := e4.cell 0
            have g41 := e4.cell 1
            have g4f := e4.frz
            simp only [List.getElem?_cons_zero, List.getElem?_cons_succ, List.length_nil] at g1 g20 g2 g40 g41
            have hbx := (HB.out.alloc HB.out.size (.cells #[] 34)).alloc (by have := HB.out.size; simp; omega) (.cells #[] 34)
            have HBX := Lib.hid hbx; clear hbx
            clear e1 e2 e3 e4
            have hq : va = none ∨ ∃ ad, va = some ad := by cases va; exact .inl rfl; exact .inr ⟨_, rfl⟩
            rcases hq with rfl | ⟨ad, rfl⟩
            · obtain rfl := hsh.2.2 rfl
              go_wp2_with fail
              refine bodyPost_ret (v := .tuple #[.agg #[.int .i64 delay, .slice (some ⟨w1.heap.size + 1, 0, none⟩) 0 0], .slice (some ⟨w1.heap.size, 0, none⟩) 0 0, .int .i64 0]) (by simp [results, Try.results11, go_sem, g40, g41]) rfl ⟨_, _, rfl, Sl.emptyS (fun h => by simp at h) (by omega), Sl.emptyS (fun h => by simp at h) (by omega), ((HBX.out.setCell (Nat.le_refl _) _).setCell (Nat.le_succ _) _).setCell (Nat.le_succ _) _⟩
            · by_cases hcl : vcap = 0
              · subst hcl
                go_wp2_with fail
                refine bodyPost_ret (v := .tuple #[.agg #[.int .i64 delay, .slice (some ⟨w1.heap.size + 1, 0, none⟩) 0 0], .slice (some ⟨w1.heap.size, 0, none⟩) 0 0, .int .i64 0]) (by simp [results, Try.results11, go_sem, g40, g41]) rfl ⟨_, _, rfl, Sl.emptyS (fun h => by simp at h) (by omega), Sl.emptyS (fun h => by simp at h) (by omega), ((HBX.out.setCell (Nat.le_refl _) _).setCell (Nat.le_succ _) _).setCell (Nat.le_succ _) _⟩
              · go_wp2_with fail
                refine bodyPost_ret (v := .tuple #[.agg #[.int .i64 delay, .slice (some ⟨w1.heap.size + 1, 0, none⟩) 0 0], .slice (some ⟨w1.heap.size, 0, none⟩) 0 0, .int .i64 0]) (by simp [results, Try.results11, go_sem, g40, g41]) rfl ⟨_, _, rfl, Sl.emptyS (fun h => by simp at h) (by omega), Sl.emptyS (fun h => by simp at h) (by omega), ((HBX.out.setCell (Nat.le_refl _) _).setCell (Nat.le_succ _) _).setCell (Nat.le_succ _) _⟩
          · obtain ⟨b, off, c, rfl, -, -, -⟩ := HV.out.at 0 (by omega)
            by_cases hcl : vcap = xs.length
            · subst hcl
              obtain ⟨hcap, hcapm, -⟩ := hsh
              have sl1 : Sl msgR (fun b => b < w.heap.size) (w1.alloc (.cells #[] 34)) (.slice (some ⟨b, off, none⟩) xs.length xs.length) xs := HV.out.below ((Below.refl _ _).alloc (Nat.le_refl _) _)
              have SL1 := Lib.hid sl1; clear sl1
              have e0 : (w1.alloc (.cells #[] 34)).cell? ⟨w.heap.size, 1, none⟩ = some (.slice (some ⟨b, off, none⟩) xs.length xs.length) := (R0.out.below ((Below.refl _ _).alloc (Nat.le_refl _) _) R0.out.lt).cell 1
              go_upto_region 9 with (fail)
              clear a0 a1 c0 c1 f2
              go_wp2_with (at_builtin; refine wpList_appR (R := msgR) (S := fun b => b < w.heap.size) rfl _ _ 25 rfl w1.heap.size 34 i0 (.agg #[.int .i64 0, .int .i64 0, .int .i64 0, .int .i64 0, .int .i64 0, .slice none 0 0, .slice none 0 0]) 88 Try.underlying25 hi0 hz0 hz1 hz2 rfl (by decide) _ [] rfl (own_empty _ _ w1 _) _ xs rfl SL1.out ?e1 ?e2 ?e3 ?e4 ?_)
              try (case e1 => intros; simp only [Value.ownBlock]; intro hx; injection hx with hx; have hx2 : _ = w1.heap.size := hx; omega)
              try (case e2 => unfold maxLen; simp; omega)
              try (case e3 => simp; omega)
              try (case e4 => simp)
              intro v2 w2 hown2 hg2 hwh2
              try rw [List.nil_append] at hown2
              have hb2 : Below w1.heap.size w1 w2 := ((Below.refl w1.heap.size w1).alloc (Nat.le_refl _) _).grown hg2 (by simp) (by intro k hk; simp [Value.ownBlock] at hk; omega)
              have r0 := R0.out.below hb2 R0.out.lt
              have r2 := R2.out.below hb2 R2.out.lt
              have hbx := HB.out.trans (hb2.mono HB.out.size)
              have hs2 := hb2.size
              obtain ⟨oa2, oc2, rfl⟩ := hown2.len
              clear hg2 hwh2 hb2 R0 R2 HB SL1 e0
              have hal := (Below.refl w2.heap.size w2).alloc (Nat.le_refl _) (.cells #[] 34)
              have r0 := r0.below hal r0.lt
              have r2 := r2.below hal r2.lt
              have hown2 := hown2.below hal
              have HB := Lib.hid (hbx.trans (hal.mono hbx.size))
              clear hal hbx
              have q2 : Sl msgR (fun _ => True) ((((w2.alloc (.cells #[] 34)).setCell ⟨w.heap.size, 1, none⟩ (.slice (some ⟨w2.heap.size, 0, none⟩) 0 0)).setCell ⟨w.heap.size + 1, 0, none⟩ (.int .i64 delay)).setCell ⟨w.heap.size + 1, 1, none⟩ (.slice (some ⟨w2.heap.size, 0, none⟩) 0 0)) (.slice oa2 xs.length oc2) xs :=
                (((hown2.setOther (g := w.heap.size) (o := 1) (.slice (some ⟨w2.heap.size, 0, none⟩) 0 0) (hown2.apart (by omega)) (by omega)).setOther (g := w.heap.size + 1) (o := 0) (.int .i64 delay) (hown2.apart (by omega)) (by omega)).setOther (g := w.heap.size + 1) (o := 1) (.slice (some ⟨w2.heap.size, 0, none⟩) 0 0) (hown2.apart (by omega)) (by omega)).sl (fun _ _ => trivial) (fun _ _ => trivial)
              have Q2 := Lib.hid q2; clear q2
              have e0 : (w2.alloc (.cells #[] 34)).cell? ⟨w.heap.size, 0, none⟩ = some (.int .i64 delay) := r0.cell 0
              have e1 : (w2.alloc (.cells #[] 34)).cell? ⟨w.heap.size, 1, none⟩ = some (.slice (some ⟨b, off, none⟩) xs.length xs.length) := r0.cell 1
              have f0 := r0.frz
              have c0 : (w2.alloc (.cells #[] 34)).cell? ⟨w.heap.size + 1, 0, none⟩ = some (.int .i64 0) := r2.cell 0
              have c1 : (w2.alloc (.cells #[] 34)).cell? ⟨w.heap.size + 1, 1, none⟩ = some (.slice none 0 0) := r2.cell 1
              have f2 := r2.frz
              clear r0 r2 hown2
              go_wp2_with fail
              refine bodyPost_ret (v := .tuple #[.agg #[.int .i64 delay, .slice (some ⟨w2.heap.size, 0, none⟩) 0 0], .slice oa2 xs.length oc2, .int .i64 0]) (by simp [results, Try.results11, go_sem, c0, c1]) rfl ⟨_, _, rfl, ?_, ?_, ((HB.out.setCell (Nat.le_refl _) _).setCell (Nat.le_succ _) _).setCell (Nat.le_succ _) _⟩
              · rw [HU.out, List.drop_length]; exact Sl.emptyS (fun h => by simp at h) (by omega)
              · rw [HU.out, List.take_length]; exact Q2.out
            · have hcl2 : xs.length < vcap := by have := hsh.1; omega
              clear hcl
              obtain ⟨hcap, hcapm, -⟩ := hsh
              have sl1 : Sl msgR (fun b => b < w.heap.size) (w1.alloc (.cells #[] 34)) (.slice (some ⟨b, off, none⟩) xs.length vcap) xs := HV.out.below ((Below.refl _ _).alloc (Nat.le_refl _) _)
              have SL1 := Lib.hid sl1; clear sl1
              have e0 : (w1.alloc (.cells #[] 34)).cell? ⟨w.heap.size, 1, none⟩ = some (.slice (some ⟨b, off, none⟩) xs.length vcap) := (R0.out.below ((Below.refl _ _).alloc (Nat.le_refl _) _) R0.out.lt).cell 1
              go_upto_region 9 with (fail)
              clear a0 a1 c0 c1 f2
              go_wp2_with (at_builtin; refine wpList_appR (R := msgR) (S := fun b => b < w.heap.size) rfl _ _ 25 rfl w1.heap.size 34 i0 (.agg #[.int .i64 0, .int .i64 0, .int .i64 0, .int .i64 0, .int .i64 0, .slice none 0 0, .slice none 0 0]) 88 Try.underlying25 hi0 hz0 hz1 hz2 rfl (by decide) _ [] rfl (own_empty _ _ w1 _) _ xs rfl SL1.out ?f1 ?f2 ?f3 ?f4 ?_)
              try (case f1 => intros; simp only [Value.ownBlock]; intro hx; injection hx with hx; have hx2 : _ = w1.heap.size := hx; omega)
              try (case f2 => unfold maxLen; simp; omega)
              try (case f3 => simp; omega)
              try (case f4 => simp)
              intro v2 w2 hown2 hg2 hwh2
              try rw [List.nil_append] at hown2
              have hb2 : Below w1.heap.size w1 w2 := ((Below.refl w1.heap.size w1).alloc (Nat.le_refl _) _).grown hg2 (by simp) (by intro k hk; simp [Value.ownBlock] at hk; omega)
              have r0 := R0.out.below hb2 R0.out.lt
              have r2 := R2.out.below hb2 R2.out.lt
              have hbx := HB.out.trans (hb2.mono HB.out.size)
              have hs2 := hb2.size
              obtain ⟨oa2, oc2, rfl⟩ := hown2.len
              clear hg2 hwh2 hb2 R0 R2 HB SL1 e0
              have hal := (Below.refl w2.heap.size w2).alloc (Nat.le_refl _) (.cells #[] 34)
              have r0 := r0.below hal r0.lt
              have r2 := r2.below hal r2.lt
              have hown2 := hown2.below hal
              have HB := Lib.hid (hbx.trans (hal.mono hbx.size))
              clear hal hbx
              have q2 : Sl msgR (fun _ => True) ((((w2.alloc (.cells #[] 34)).setCell ⟨w.heap.size, 1, none⟩ (.slice (some ⟨w2.heap.size, 0, none⟩) 0 0)).setCell ⟨w.heap.size + 1, 0, none⟩ (.int .i64 delay)).setCell ⟨w.heap.size + 1, 1, none⟩ (.slice (some ⟨w2.heap.size, 0, none⟩) 0 0)) (.slice oa2 xs.length oc2) xs :=
                (((hown2.setOther (g := w.heap.size) (o := 1) (.slice (some ⟨w2.heap.size, 0, none⟩) 0 0) (hown2.apart (by omega)) (by omega)).setOther (g := w.heap.size + 1) (o := 0) (.int .i64 delay) (hown2.apart (by omega)) (by omega)).setOther (g := w.heap.size + 1) (o := 1) (.slice (some ⟨w2.heap.size, 0, none⟩) 0 0) (hown2.apart (by omega)) (by omega)).sl (fun _ _ => trivial) (fun _ _ => trivial)
              have Q2 := Lib.hid q2; clear q2
              have e0 : (w2.alloc (.cells #[] 34)).cell? ⟨w.heap.size, 0, none⟩ = some (.int .i64 delay) := r0.cell 0
              have e1 : (w2.alloc (.cells #[] 34)).cell? ⟨w.heap.size, 1, none⟩ = some (.slice (some ⟨b, off, none⟩) xs.length vcap) := r0.cell 1
              have f0 := r0.frz
              have c0 : (w2.alloc (.cells #[] 34)).cell? ⟨w.heap.size + 1, 0, none⟩ = some (.int .i64 0) := r2.cell 0
              have c1 : (w2.alloc (.cells #[] 34)).cell? ⟨w.heap.size + 1, 1, none⟩ = some (.slice none 0 0) := r2.cell 1
              have f2 := r2.frz
              clear r0 r2 hown2
              go_wp2_with fail
              refine bodyPost_ret (v := .tuple #[.agg #[.int .i64 delay, .slice (some ⟨w2.heap.size, 0, none⟩) 0 0], .slice oa2 xs.length oc2, .int .i64 0]) (by simp [results, Try.results11, go_sem, c0, c1]) rfl ⟨_, _, rfl, ?_, ?_, ((HB.out.setCell (Nat.le_refl _) _).setCell (Nat.le_succ _) _).setCell (Nat.le_succ _) _⟩
              · rw [HU.out, List.drop_length]; exact Sl.emptyS (fun h => by simp at h) (by omega)
              · rw [HU.out, List.take_length]; exact Q2.out
  · have hcb : (chk delay xs != 0) = true := by rw [bne_iff_ne]; exact hc
    have ht : take delay xs tick = (xs, [], chk delay xs) := by
      have hb : bgn delay xs tick = chk delay xs := by unfold bgn; rw [if_neg hc]
      unfold take; rw [if_neg (by rw [hb]; exact hc), hb]
    obtain rfl := ht.symm.trans HTK.out
    clear ht HTK hc
    go_wp2_with fail
    refine bodyPost_ret (v := .tuple #[.agg #[.int .i64 delay, .slice va xs.length vcap], .slice none 0 0, .int .i64 (chk delay xs)]) (by simp [results, Try.results11, go_sem, c0, c1]) rfl ⟨_, _, rfl, HS.out, Sl.nil, (HB.out.setCell (Nat.le_succ _) _).setCell (Nat.le_succ _) _⟩
end Go.Proofs.Ytmfifkkmbkcibaa
