/-
  The contract of anchor.Take.
-/
import Derived.Test.YtmfifkkmbkcibaaAnchP
namespace Go.Proofs.Ytmfifkkmbkcibaa
set_option linter.unusedVariables false
open Go.RowKit

section
variable {α : Type} {R : Rep α} {S : Nat → Prop} {w : World} {xs : List α}
theorem Sl.takeS {b off n cap c' k : Nat} (h : Sl R S w (.slice (some ⟨b, off, none⟩) n cap) xs) (hk : k ≤ xs.length) (h1 : k ≤ c') (h2 : c' ≤ 9223372036854775807) : Sl R S w (.slice (some ⟨b, off, none⟩) k c') (xs.take k) := by
  have e : (xs.take k).length = k := by simp; omega
  refine ⟨_, c', by rw [e], by omega, h2, fun h => by simp at h, fun hp => ?_⟩
  obtain ⟨b', off', cap', cs, hv, -, -, hb, hr, hc⟩ := h.pos (by omega)
  simp at hv
  obtain ⟨⟨rfl, rfl⟩, -, -⟩ := hv
  refine ⟨b, off, rfl, hb, cs.take (k * R.n), (hr.split k hk).1, fun j hj => ?_⟩
  simp at hj
  rw [hc j (by omega), List.getElem?_take_of_lt (by omega)]
theorem Sl.dropS {b off n cap k : Nat} (h : Sl R S w (.slice (some ⟨b, off, none⟩) n cap) xs) (hk : k ≤ xs.length) (h1 : xs.length ≤ cap) (h2 : cap ≤ 9223372036854775807) : Sl R S w (.slice (some ⟨b, off + k * R.n, none⟩) (xs.length - k) (cap - k)) (xs.drop k) := by
  have e : (xs.drop k).length = xs.length - k := by simp
  refine ⟨_, cap - k, by rw [e], by omega, by omega, fun h => by simp at h, fun hp => ?_⟩
  obtain ⟨b', off', cap', cs, hv, -, -, hb, hr, hc⟩ := h.pos (by omega)
  simp at hv
  obtain ⟨⟨rfl, rfl⟩, -, -⟩ := hv
  refine ⟨b, off + k * R.n, rfl, hb, cs.drop (k * R.n), (hr.split k hk).2, fun j hj => ?_⟩
  simp at hj
  rw [List.getElem?_drop, ← hc (k * R.n + j) (by omega), Nat.add_assoc]
theorem Sl.emptyS {a : Option Addr} {c : Nat} (h : a = none → c = 0) (hc : c ≤ 9223372036854775807) : Sl R S w (.slice a 0 c) ([] : List α) := ⟨a, c, rfl, by simp, hc, h, fun h => by simp at h⟩
end
theorem Own.shape {α : Type} {R : Rep α} {S : Nat → Prop} {w : World} {xs : List α} {base : Nat} {e : TypeId} {a : Option Addr} {n cap : Nat} (h : Own R S base e w (.slice a n cap) xs) : n ≤ cap ∧ cap ≤ 9223372036854775807 ∧ ((a = none ∧ n = 0 ∧ cap = 0) ∨ ∃ g, a = some ⟨g, 0, none⟩) := by
  obtain ⟨cs, h1, h2⟩ := h
  rcases h1.2 with ⟨hv, hn⟩ | ⟨g, cap, cur, hv, hg, hgc, hnc, hcm, hcs, htake⟩
  · simp at hv
    obtain ⟨rfl, rfl, rfl⟩ := hv
    exact ⟨Nat.le_refl _, by omega, .inl ⟨rfl, rfl, rfl⟩⟩
  · simp at hv
    obtain ⟨rfl, rfl, rfl⟩ := hv
    exact ⟨hnc, by simpa [maxLen] using hcm, .inr ⟨g, rfl⟩⟩
theorem upto_lt (tick : Int) : ∀ (xs : List Msg) (k : Nat) (h : k < xs.length), k < upto tick xs → xs[k].arr ≤ tick
  | [], k, h, _ => by simp at h
  | x :: xs, k, h, hk => by
    unfold upto at hk
    rw [List.takeWhile_cons] at hk
    split at hk
    · rename_i hx
      cases k with
      | zero => simpa using hx
      | succ k => exact upto_lt tick xs k (by simpa using h) (by unfold upto; simpa using hk)
    · simp at hk
theorem upto_end (tick : Int) : ∀ (xs : List Msg) (h : upto tick xs < xs.length), ¬ xs[upto tick xs].arr ≤ tick
  | [], h => by simp at h
  | x :: xs, h => by
    by_cases hx : x.arr ≤ tick
    · have e : upto tick (x :: xs) = upto tick xs + 1 := by unfold upto; rw [List.takeWhile_cons, if_pos (by simpa using hx)]; rfl
      have h' : upto tick xs < xs.length := by rw [e] at h; simpa using h
      have := upto_end tick xs h'
      simp only [e, List.getElem_cons_succ]
      exact this
    · have e : upto tick (x :: xs) = 0 := by unfold upto; rw [List.takeWhile_cons, if_neg (by simpa using hx)]; rfl
      simp only [e, List.getElem_cons_zero]
      exact hx

set_option maxRecDepth 100000 in
set_option maxHeartbeats 4000000 in
theorem take_any (delay tick : Int) (v : Value) (xs : List Msg) (S : Nat → Prop) (w : World) (hv : Sl msgR S w v xs) (hl : xs.length * 88 ≤ 140737488355328) (hf : ∀ m ∈ xs, m.fits) :
    Calls Try.prog 8 #[.agg #[.int .i64 delay, v], .int .i64 tick] w fun e w' => ∃ v' l', e = .returned (.tuple #[.agg #[.int .i64 delay, v'], l', .int .i64 (take delay xs tick).2.2]) ∧ Sl msgR (orNew S w.heap.size) w' v' (take delay xs tick).1 ∧ Sl msgR (orNew S w.heap.size) w' l' (take delay xs tick).2.1 ∧ Below w.heap.size w w' := by
  obtain ⟨va, vcap, rfl, -⟩ := hv.len
  have hv := hv.lt (S' := fun b => S b ∧ b < w.heap.size) (by decide) (fun b hb hlt => ⟨hb, hlt⟩)
  obtain ⟨W, hW⟩ : ∃ W, W = (w.alloc (.cells #[.int .i64 delay, .slice va xs.length vcap] 27)).alloc (.cells #[.int .i64 0, .slice none 0 0] 27) := ⟨_, rfl⟩
  have hbW : Below w.heap.size w W := by rw [hW]; exact ((Below.refl w.heap.size w).alloc (Nat.le_refl _) _).alloc (by simp) _
  have hsW : W.heap.size = w.heap.size + 2 := by rw [hW]; simp
  have r0 : Row W w.heap.size 27 [.int .i64 delay, .slice va xs.length vcap] := by
    rw [hW]; exact (Row.new w _ _).below ((Below.refl _ _).alloc (Nat.le_refl _) _) (by simp)
  have r2 : Row W (w.heap.size + 1) 27 [.int .i64 0, .slice none 0 0] := by
    rw [hW]
    have := Row.new (w.alloc (.cells #[.int .i64 delay, .slice va xs.length vcap] 27)) 27 [.int .i64 0, .slice none 0 0]
    simpa using this
  have HV := Lib.hid (hv.below hbW); clear hv
  go_enter Try.func8, Try.ntmps8
  go_wp2_with fail
  rw [← hW]
  clear hW
  refine (tunnel_any delay _ xs _ W HV.out hl hf).mono ?_
  rintro e w1 ⟨v1, rfl, k1, hb1⟩
  obtain ⟨oa, ocap, rfl⟩ := k1.len
  have hsh : xs.length ≤ ocap ∧ ocap ≤ 9223372036854775807 ∧ ((oa = none ∧ xs.length = 0 ∧ ocap = 0) ∨ ∃ g, oa = some ⟨g, 0, none⟩) := k1.shape
  have HSH := Lib.hid hsh; clear hsh
  have hal := (Below.refl w1.heap.size w1).alloc (Nat.le_refl _) (.cells #[.int .i64 delay, .slice oa xs.length ocap] 27)
  have hb2 := hb1.trans (hal.mono hb1.size)
  have r0 := r0.below hb2 r0.lt
  have r2 := r2.below hb2 r2.lt
  have ro := Row.new w1 27 [.int .i64 delay, .slice oa xs.length ocap]
  have k1 := (k1.sl (S' := fun b => ((S b ∧ b < w.heap.size) ∨ w.heap.size + 2 ≤ b)) (fun b hb => .inr (by omega)) (fun b hb => by
    rcases hb with hb | hb
    · exact .inl hb
    · exact .inr (by omega))).lt (S' := fun b => ((S b ∧ b < w.heap.size) ∨ w.heap.size + 2 ≤ b) ∧ b < w1.heap.size) (by decide) (fun b hb hlt => ⟨hb, hlt⟩)
  have k1 := k1.below hal
  have hv := HV.out.below hb2
  have hbx := hbW.trans (hb2.mono (by omega))
  have hno : w.heap.size + 2 ≤ w1.heap.size := by have := hb1.size; omega
  clear HV hbW hb1 hb2 hal
  have a0 := r0.cell 0; have a1 := r0.cell 1
  simp only [List.getElem?_cons_zero, List.getElem?_cons_succ] at a0 a1
  go_wp2_with fail
  clear a0 a1
  generalize hW2 : w1.alloc (.cells #[.int .i64 delay, .slice oa xs.length ocap] 27) = W2 at *
  clear hW2
  generalize hno2 : w1.heap.size = no at *
  clear hno2
  refine (begin_any delay _ xs tick _ W2 hv).mono ?_
  rintro e w2 ⟨rfl, hb2⟩
  have r0 := r0.below hb2 r0.lt
  have r2 := r2.below hb2 r2.lt
  have ro := ro.below hb2 ro.lt
  have k1 := k1.below hb2
  have hv := hv.below hb2
  have hbx := hbx.trans (hb2.mono hbx.size)
  clear hb2
  have HNO : no < w2.heap.size := ro.lt
  by_cases hbg : bgn delay xs tick = 0
  · have htake : take delay xs tick = (xs.drop (upto tick xs), xs.take (upto tick xs), 0) := by unfold take; rw [if_pos hbg]
    have HTK := Lib.hid htake; clear htake
    rw [hbg]
    clear hbg
    have R0 := Lib.hid r0; clear r0
    have a1 := R0.out.cell 1
    simp only [List.getElem?_cons_zero, List.getElem?_cons_succ] at a1
    have hup := upto_le tick xs
    obtain ⟨u, hu⟩ : ∃ u, upto tick xs = u := ⟨_, rfl⟩
    rw [hu] at hup
    have HU := Lib.hid hu; clear hu
    have R2 := Lib.hid r2; clear r2
    have RO := Lib.hid ro; clear ro
    have K1 := Lib.hid k1; clear k1
    have HV := Lib.hid hv; clear hv
    have HB := Lib.hid hbx; clear hbx
    go_wp2_with fail
    have o0 := RO.out.cell 0; have o1 := RO.out.cell 1
    have fo := RO.out.frz
    have c0 := R2.out.cell 0; have c1 := R2.out.cell 1
    have f2 := R2.out.frz
    simp only [List.getElem?_cons_zero, List.getElem?_cons_succ] at o0 o1 c0 c1
    have hn2 : w.heap.size + 1 ≠ no := by omega
    obtain ⟨hcap, hcapm, hoa⟩ : xs.length ≤ ocap ∧ ocap ≤ 9223372036854775807 ∧ ((oa = none ∧ xs.length = 0 ∧ ocap = 0) ∨ ∃ g, oa = some ⟨g, 0, none⟩) := HSH.out
    have hk3 := fun (u1 u2 u3 : Value) => (K1.out.kept (w' := ((w2.setCell ⟨no, 1, none⟩ u1).setCell ⟨w.heap.size + 1, 0, none⟩ u2).setCell ⟨w.heap.size + 1, 1, none⟩ u3) (fun b hb hlt => by
      have h1 : b ≠ no := by have := hb.2; omega
      have h2 : b ≠ w.heap.size + 1 := by rcases hb.1 with h | h <;> omega
      rw [Below.heap_setCell _ _ _ _ h2, Below.heap_setCell _ _ _ _ h2, Below.heap_setCell _ _ _ _ h1])).lt (S' := orNew S w.heap.size) (by decide) (fun b hb _ => by
      rcases hb.1 with h | h
      · exact .inl h.1
      · exact .inr (by omega))
    have HK3 := Lib.hid hk3; clear hk3
    go_loop [9] (fun i => ∃ k : Nat, k ≤ u ∧ i = .int .i64 k) (fun i => u - (intOf i).toNat)
    case atStart => exact ⟨0, by omega, rfl⟩
    case round =>
      obtain ⟨k, hk, rfl⟩ := hrel
      by_cases hku : k < u
      · have hkx : k < xs.length := by omega
        obtain ⟨b, off, c, rfl, -, hrd, hcell⟩ := HV.out.at k hkx
        obtain ⟨pd, pt, rfl, -⟩ := hrd
        have x0 : w2.cell? ⟨b, off + k * 7, none⟩ = some (.int .i64 xs[k].arr) := hcell 0 (by decide)
        have hle : xs[k].arr ≤ tick := upto_lt tick xs k hkx (by rw [HU.out]; exact hku)
        generalize xs[k].arr = ka at *
        clear hcell
        go_wp2_with fail
        go_round
        case rel => exact ⟨k + 1, by omega, by go_num⟩
        case measure => simp [intOf]; omega
      · obtain rfl : k = u := by omega
        by_cases hkl : k < xs.length
        · obtain ⟨b, off, c, rfl, -, hrd, hcell⟩ := HV.out.at k hkl
          obtain ⟨pd, pt, rfl, -⟩ := hrd
          have x0 : w2.cell? ⟨b, off + k * 7, none⟩ = some (.int .i64 xs[k].arr) := hcell 0 (by decide)
          have hle : ¬ xs[k].arr ≤ tick := by
            have := upto_end tick xs
            simp only [HU.out] at this
            exact this hkl
          generalize xs[k].arr = ka at *
          clear hcell
          rcases hoa with ⟨rfl, hl0, rfl⟩ | ⟨g, rfl⟩
          · exact absurd hkl (by omega)
          · go_wp2_with fail
            refine bodyPost_ret (v := .tuple #[.agg #[.int .i64 delay, .slice (some ⟨g, k * 7, none⟩) (xs.length - k) (ocap - k)], .slice (some ⟨g, 0, none⟩) k k, .int .i64 0]) (by simp [results, Try.results8, go_sem, c0, c1]) rfl ?_
            rw [HTK.out, HU.out]
            refine ⟨_, _, rfl, (by have hh := (HK3.out (.slice (some ⟨g, k * 7, none⟩) (xs.length - k) (ocap - k)) (.int .i64 delay) (.slice (some ⟨g, k * 7, none⟩) (xs.length - k) (ocap - k))).dropS (k := k) hup hcap hcapm; rw [Nat.zero_add] at hh; exact hh), (HK3.out _ _ _).takeS (k := k) hup (Nat.le_refl _) (by omega), ((HB.out.setCell (by first | omega | (simp <;> omega)) _).setCell (by first | omega | (simp <;> omega)) _).setCell (by first | omega | (simp <;> omega)) _⟩
        · obtain rfl : k = xs.length := by omega
          rcases hoa with ⟨rfl, hl0, rfl⟩ | ⟨g, rfl⟩
          · obtain rfl : xs = [] := List.eq_nil_of_length_eq_zero hl0
            go_wp2_with fail
            refine bodyPost_ret (v := .tuple #[.agg #[.int .i64 delay, .slice none 0 0], .slice none 0 0, .int .i64 0]) (by simp [results, Try.results8, go_sem, c0, c1]) rfl ?_
            rw [HTK.out, HU.out]
            refine ⟨_, _, rfl, Sl.nil, Sl.nil, ((HB.out.setCell (by first | omega | (simp <;> omega)) _).setCell (by first | omega | (simp <;> omega)) _).setCell (by first | omega | (simp <;> omega)) _⟩
          · by_cases hcl : xs.length = ocap
            · go_wp2_with fail
              refine bodyPost_ret (v := .tuple #[.agg #[.int .i64 delay, .slice (some ⟨g, 0, none⟩) 0 0], .slice (some ⟨g, 0, none⟩) ocap ocap, .int .i64 0]) (by simp [results, Try.results8, go_sem, c0, c1]) rfl ?_
              rw [HTK.out, HU.out]
              refine ⟨_, _, rfl, by rw [List.drop_eq_nil_of_le (by omega)]; exact Sl.emptyS (fun h => by simp at h) (by omega), ?_, ((HB.out.setCell (by first | omega | (simp <;> omega)) _).setCell (by first | omega | (simp <;> omega)) _).setCell (by first | omega | (simp <;> omega)) _⟩
              rw [hcl]; exact (HK3.out _ _ _).takeS (k := ocap) (by omega) (Nat.le_refl _) (by omega)
            · go_wp2_with fail
              refine bodyPost_ret (v := .tuple #[.agg #[.int .i64 delay, .slice (some ⟨g, xs.length * 7, none⟩) 0 (ocap - xs.length)], .slice (some ⟨g, 0, none⟩) xs.length xs.length, .int .i64 0]) (by simp [results, Try.results8, go_sem, c0, c1]) rfl ?_
              rw [HTK.out, HU.out]
              refine ⟨_, _, rfl, by rw [List.drop_length]; exact Sl.emptyS (fun h => by simp at h) (by omega), (HK3.out _ _ _).takeS (k := xs.length) (Nat.le_refl _) (Nat.le_refl _) (by omega), ((HB.out.setCell (by first | omega | (simp <;> omega)) _).setCell (by first | omega | (simp <;> omega)) _).setCell (by first | omega | (simp <;> omega)) _⟩
  · have htake : take delay xs tick = (xs, [], bgn delay xs tick) := by unfold take; rw [if_neg hbg]
    have HTK := Lib.hid htake
    have hbb : (bgn delay xs tick != 0) = true := by rw [bne_iff_ne]; exact hbg
    clear htake hbg
    generalize bgn delay xs tick = eb at *
    have o0 := ro.cell 0; have o1 := ro.cell 1
    have c0 := r2.cell 0; have c1 := r2.cell 1
    have f2 := r2.frz
    simp only [List.getElem?_cons_zero, List.getElem?_cons_succ] at o0 o1 c0 c1
    have K1 := Lib.hid k1; clear k1
    have HB := Lib.hid hbx; clear hbx
    clear r0 r2 ro hv
    go_wp2_with fail
    refine bodyPost_ret (v := .tuple #[.agg #[.int .i64 delay, .slice oa xs.length ocap], .slice none 0 0, .int .i64 eb]) (by simp [results, Try.results8, go_sem, c0, c1]) rfl ?_
    rw [HTK.out]
    refine ⟨_, _, rfl, ?_, Sl.nil, (HB.out.setCell (by first | omega | (simp <;> omega)) _).setCell (by first | omega | (simp <;> omega)) _⟩
    exact (K1.out.kept (fun b hb hlt => by
      have h2 : b ≠ w.heap.size + 1 := by rcases hb.1 with h | h <;> omega
      rw [Below.heap_setCell _ _ _ _ h2, Below.heap_setCell _ _ _ _ h2])).lt (S' := orNew S w.heap.size) (by decide) (fun b hb _ => by
      rcases hb.1 with h | h
      · exact .inl h.1
      · exact .inr (by omega))
end Go.Proofs.Ytmfifkkmbkcibaa
