/-
  The contracts of the reference's Check, Route, New, and of the law's light and sameAnchor.
-/
import Derived.Test.YtmfifkkmbkcibaaAnchQ2
namespace Go.Proofs.Ytmfifkkmbkcibaa
set_option linter.unusedVariables false
open Go.RowKit

/-- The tick of the message ahead. -/
def lastOf (xs : List Msg) (k : Nat) : Int := if k = 0 then 0 else (xs.getD (k - 1) ⟨0, 0, 0, 0, 0, [], []⟩).arr
theorem lastOf_succ (xs : List Msg) (k : Nat) (h : k < xs.length) : lastOf xs (k + 1) = xs[k].arr := by
  unfold lastOf
  simp [List.getD_eq_getElem?_getD, h]

set_option maxRecDepth 100000 in
set_option maxHeartbeats 2000000 in
theorem refCheck_any (delay : Int) (v : Value) (xs : List Msg) (S : Nat → Prop) (w : World) (hv : Sl msgR S w v xs) :
    Calls Try.prog 15 #[.agg #[.int .i64 delay, v]] w fun e w' => e = .returned (.int .i64 (chk delay xs)) ∧ Below w.heap.size w w' := by
  obtain ⟨va, vcap, rfl, hm⟩ := hv.len
  have hb := (Below.refl w.heap.size w).alloc (Nat.le_refl _) (.cells #[.int .i64 delay, .slice va xs.length vcap] 27)
  have r0 := Row.new w 27 [.int .i64 delay, .slice va xs.length vcap]
  have HV := Lib.hid (hv.below hb); clear hv
  have HB := Lib.hid hb; clear hb
  by_cases h1 : delay < 0
  · have hc : chk delay xs = 3 := by unfold chk; rw [if_pos (.inl h1)]
    have HC := Lib.hid hc; clear hc r0
    go_enter Try.func15, Try.ntmps15
    go_wp2_with fail
    go_ret
    exact ⟨by rw [HC.out]; rfl, HB.out⟩
  by_cases h2 : 1000 < delay
  · have hc : chk delay xs = 3 := by unfold chk; rw [if_pos (.inr h2)]
    have HC := Lib.hid hc; clear hc r0
    go_enter Try.func15, Try.ntmps15
    go_wp2_with fail
    go_ret
    exact ⟨by rw [HC.out]; rfl, HB.out⟩
  by_cases h3 : 256 < xs.length
  · have hc : chk delay xs = 2 := by unfold chk; rw [if_neg (by omega), if_pos h3]
    have HC := Lib.hid hc; clear hc r0
    go_enter Try.func15, Try.ntmps15
    go_wp2_with fail
    go_ret
    exact ⟨by rw [HC.out]; rfl, HB.out⟩
  have hc : chk delay xs = if okm 0 xs then 0 else 4 := by unfold chk; rw [if_neg (by omega), if_neg h3]
  have HC := Lib.hid hc; clear hc
  have R0 := Lib.hid r0; clear r0
  go_enter Try.func15, Try.ntmps15
  go_wp2_with fail
  have a1 : (w.alloc (.cells #[.int .i64 delay, .slice va xs.length vcap] 27)).cell? ⟨w.heap.size, 1, none⟩ = some (.slice va xs.length vcap) := R0.out.cell 1
  generalize w.alloc (.cells #[.int .i64 delay, .slice va xs.length vcap] 27) = W at *
  clear R0
  go_loop [3] (fun i => ∃ k : Nat, k ≤ xs.length ∧ i = .int .i64 k ∧ 0 ≤ lastOf xs k ∧ okm (lastOf xs k) (xs.drop k) = okm 0 xs) (fun i => xs.length - (intOf i).toNat)
  case atStart => exact ⟨0, by omega, rfl, by simp [lastOf], by simp [lastOf]⟩
  case round =>
    obtain ⟨k, hk, rfl, hl0, hok⟩ := hrel
    by_cases hlt : k < xs.length
    · obtain ⟨b, off, c, rfl, -, hrd, hcell⟩ := HV.out.at k hlt
      obtain ⟨pd, pt, rfl, p1, -⟩ := hrd
      have x0 : W.cell? ⟨b, off + k * 7, none⟩ = some (.int .i64 xs[k].arr) := hcell 0 (by decide)
      have hdr : okm (lastOf xs k) (xs.drop k) = if xs[k].arr < lastOf xs k ∨ 2097152 < xs[k].arr then false else okm xs[k].arr (xs.drop (k + 1)) := by
        rw [List.drop_eq_getElem_cons hlt]; rfl
      rw [hdr] at hok
      clear hdr hcell
      have hls := lastOf_succ xs k hlt
      cases k with
      | zero =>
        have h00 : lastOf xs 0 = 0 := by simp [lastOf]
        rw [h00] at hok hl0
        clear h00
        generalize xs[0].arr = x at *
        have HLS := Lib.hid hls; clear hls
        simp only [Nat.zero_mul, Nat.add_zero] at x0
        simp only [Int.natCast_zero] at *
        by_cases g1 : x < 0
        · rw [if_pos (.inl g1)] at hok
          have HK := Lib.hid hok; clear hok
          go_wp2_with fail
          go_ret
          exact ⟨by rw [HC.out, ← HK.out]; rfl, HB.out⟩
        by_cases g2 : 2097152 < x
        · rw [if_pos (.inr g2)] at hok
          have HK := Lib.hid hok; clear hok
          go_wp2_with fail
          go_ret
          exact ⟨by rw [HC.out, ← HK.out]; rfl, HB.out⟩
        rw [if_neg (by omega)] at hok
        have HK := Lib.hid hok; clear hok
        go_wp2_with fail
        go_round
        case rel => exact ⟨1, by omega, by first | rfl | go_num, by rw [HLS.out]; omega, by rw [HLS.out]; exact HK.out⟩
        case measure => simp [intOf]; omega
      | succ j =>
        have hj : j < xs.length := by omega
        obtain ⟨b', off', c', hbb, -, hrd', hcell'⟩ := HV.out.at j hj
        obtain ⟨pd', pt', rfl, p1', -⟩ := hrd'
        simp only [Option.some.injEq, Addr.mk.injEq, and_true] at hbb
        obtain ⟨rfl, rfl⟩ := hbb
        have x1 : W.cell? ⟨b, off + j * 7, none⟩ = some (.int .i64 xs[j].arr) := hcell' 0 (by decide)
        clear hcell'
        have hlj := lastOf_succ xs j hj
        rw [hlj] at hok hl0
        clear hlj
        generalize xs[j].arr = y at *
        generalize xs[j + 1].arr = x at *
        have HLS := Lib.hid hls; clear hls
        have s1 : IntKind.i64.wrap (((j + 1 : Nat) : Int) - 1) = (j : Int) := by rw [IntWalk.i64_in _ (by omega)]; omega
        by_cases g1 : x < 0
        · rw [if_pos (.inl (by omega))] at hok
          have HK := Lib.hid hok; clear hok
          go_wp2_with fail
          go_ret
          exact ⟨by rw [HC.out, ← HK.out]; rfl, HB.out⟩
        by_cases g2 : 2097152 < x
        · rw [if_pos (.inr g2)] at hok
          have HK := Lib.hid hok; clear hok
          go_wp2_with fail
          go_ret
          exact ⟨by rw [HC.out, ← HK.out]; rfl, HB.out⟩
        by_cases g3 : x < y
        · rw [if_pos (.inl g3)] at hok
          have HK := Lib.hid hok; clear hok
          go_wp2_with fail
          go_ret
          exact ⟨by rw [HC.out, ← HK.out]; rfl, HB.out⟩
        rw [if_neg (by omega)] at hok
        have HK := Lib.hid hok; clear hok
        go_wp2_with fail
        go_round
        case rel => exact ⟨j + 1 + 1, by omega, by go_num, by rw [HLS.out]; omega, by rw [HLS.out]; exact HK.out⟩
        case measure => simp [intOf]; omega
    · have hok2 : okm 0 xs = true := by rw [← hok, List.drop_of_length_le (by omega)]; rfl
      have HK := Lib.hid hok2; clear hok hok2
      go_wp2_with fail
      go_ret
      exact ⟨by rw [HC.out, HK.out]; rfl, HB.out⟩

set_option maxRecDepth 100000 in
set_option maxHeartbeats 1000000 in
theorem refRoute_any (v : Value) (xs : List Int) (t : Int) (S : Nat → Prop) (w : World) (hv : Sl intR S w v xs) :
    Calls Try.prog 22 #[.agg #[v], .int .i64 t] w fun e w' => e = .returned (.int .i64 (route xs t)) ∧ Below w.heap.size w w' := by
  obtain ⟨va, vcap, rfl, hm⟩ := hv.len
  have hb := (Below.refl w.heap.size w).alloc (Nat.le_refl _) (.cells #[.slice va xs.length vcap] 39)
  have r0 := Row.new w 39 [.slice va xs.length vcap]
  have hv := hv.below hb
  have HB := Lib.hid hb; clear hb
  by_cases h0 : t < 0
  · have hr : route xs t = -1 := by unfold route; rw [if_neg (by omega)]
    rw [hr]; clear hr hv r0
    go_enter Try.func22, Try.ntmps22
    go_wp2_with fail
    go_ret
    exact ⟨rfl, HB.out⟩
  by_cases h1 : t < xs.length
  · obtain ⟨k, rfl⟩ : ∃ k : Nat, t = k := ⟨t.toNat, by omega⟩
    have hk : k < xs.length := by omega
    have hr : route xs k = if isCell xs[k] then xs[k] else -1 := by
      unfold route
      rw [if_pos ⟨by omega, h1⟩]
      simp [List.getD_eq_getElem?_getD, hk]
    obtain ⟨b, off, c, rfl, -, hrd, hcell⟩ := hv.at k hk
    obtain ⟨rfl, hr1, hr2⟩ := hrd
    have y0 : (w.alloc (.cells #[.slice (some ⟨b, off, none⟩) xs.length vcap] 39)).cell? ⟨b, off + k, none⟩ = some (.int .i64 xs[k]) := by
      have h := hcell 0 (by decide)
      simpa [intR] using h
    clear hcell hv r0
    generalize xs[k] = x at *
    by_cases g1 : x < 0
    · have hc : isCell x = false := by unfold isCell; simp; omega
      rw [hc] at hr
      simp only [Bool.false_eq_true, if_false] at hr
      rw [hr]; clear hr hc
      go_enter Try.func22, Try.ntmps22
      go_wp2_with fail
      go_ret
      exact ⟨rfl, HB.out⟩
    by_cases g2 : 3 ≤ x
    · have hc : isCell x = false := by unfold isCell; simp; omega
      rw [hc] at hr
      simp only [Bool.false_eq_true, if_false] at hr
      rw [hr]; clear hr hc
      go_enter Try.func22, Try.ntmps22
      go_wp2_with fail
      go_ret
      exact ⟨rfl, HB.out⟩
    have hc : isCell x = true := by unfold isCell; simp; omega
    rw [if_pos hc] at hr
    rw [hr]; clear hr hc
    go_enter Try.func22, Try.ntmps22
    go_wp2_with fail
    go_ret
    exact ⟨rfl, HB.out⟩
  · have hr : route xs t = -1 := by unfold route; rw [if_neg (by omega)]
    rw [hr]; clear hr hv r0
    go_enter Try.func22, Try.ntmps22
    go_wp2_with fail
    go_ret
    exact ⟨rfl, HB.out⟩

set_option maxRecDepth 100000 in
set_option maxHeartbeats 1000000 in
theorem sameAnchor_eq (v1 v2 : Value) (xs : List Int) (S1 S2 : Nat → Prop) (w : World) (h1 : Sl intR S1 w v1 xs) (h2 : Sl intR S2 w v2 xs) :
    Calls Try.prog 20 #[.agg #[v1], .agg #[v2]] w fun e w' => e = .returned (.bool true) ∧ Below w.heap.size w w' := by
  obtain ⟨a1, c1, rfl, hm1⟩ := h1.len
  obtain ⟨a2, c2, rfl, hm2⟩ := h2.len
  have hb : Below w.heap.size w ((w.alloc (.cells #[.slice a1 xs.length c1] 39)).alloc (.cells #[.slice a2 xs.length c2] 39)) := ((Below.refl w.heap.size w).alloc (Nat.le_refl _) _).alloc (by simp) _
  have C := sameInts_any _ _ xs xs _ _ _ (h1.below hb) (h2.below hb)
  rw [show decide (xs = xs) = true by simp] at C
  have HB := Lib.hid hb; clear hb
  clear h1 h2
  go_enter Try.func20, Try.ntmps20
  go_wp2_with fail
  refine C.mono ?_
  clear C
  rintro e w1 ⟨rfl, hb1⟩
  have HB1 := Lib.hid (HB.out.trans (hb1.mono (by simp; omega))); clear hb1
  go_wp2_with fail
  go_ret
  exact ⟨rfl, HB1.out⟩

set_option maxRecDepth 100000 in
set_option maxHeartbeats 2000000 in
theorem refNew_any (t : Int) (w : World) :
    Calls Try.prog 17 #[.int .i64 t] w fun e w' => ∃ v, e = .returned (.tuple #[.agg #[v], .int .i64 (newErr t)]) ∧ Sl intR (fun b => w.heap.size ≤ b) w' v (newOut t) ∧ Below w.heap.size w w' := by
  obtain ⟨i0, hi0, hz0, hz1, hz2⟩ := info_parts (P := Try.prog) (e := 3) (z := .int .i64 0) (size := 1) (bytes := 8) (by kernel_rfl)
  by_cases h1 : t < 1
  · have he : newErr t = 3 := by unfold newErr; rw [if_pos (.inl h1)]
    have ho : newOut t = [] := by unfold newOut; rw [if_pos (.inl h1)]
    rw [he, ho]; clear he ho
    go_enter Try.func17, Try.ntmps17
    go_wp2_with fail
    refine bodyPost_ret (v := .tuple #[.agg #[.slice none 0 0], .int .i64 3]) (by simp [results, Try.results17, go_sem]) rfl ⟨_, rfl, Sl.nil, ?_⟩
    exact (Below.refl _ _).alloc (Nat.le_refl _) _
  by_cases h2 : 4 < t
  · have he : newErr t = 3 := by unfold newErr; rw [if_pos (.inr h2)]
    have ho : newOut t = [] := by unfold newOut; rw [if_pos (.inr h2)]
    rw [he, ho]; clear he ho
    go_enter Try.func17, Try.ntmps17
    go_wp2_with fail
    refine bodyPost_ret (v := .tuple #[.agg #[.slice none 0 0], .int .i64 3]) (by simp [results, Try.results17, go_sem]) rfl ⟨_, rfl, Sl.nil, ?_⟩
    exact (Below.refl _ _).alloc (Nat.le_refl _) _
  obtain ⟨n, rfl⟩ : ∃ n : Nat, t = n := ⟨t.toNat, by omega⟩
  have he : newErr n = 0 := by unfold newErr; rw [if_neg (by omega)]
  have ho : newOut n = List.replicate n (-1) := by unfold newOut; rw [if_neg (by omega)]; simp
  rw [he, ho]; clear he ho
  have hb0 := (Below.refl w.heap.size w).alloc (Nat.le_refl _) (.cells #[.slice none 0 0] 39)
  have r0 := Row.new w 39 [.slice none 0 0]
  obtain ⟨W, hW⟩ : ∃ W, w.alloc (.cells #[.slice none 0 0] 39) = W := ⟨_, rfl⟩
  have hsW : W.heap.size = w.heap.size + 1 := by rw [← hW]; simp
  simp only [List.toArray] at r0
  rw [show (w.alloc (.cells (List.toArray [.slice none 0 0]) 39)) = W from hW] at r0
  rw [hW] at hb0
  obtain ⟨w2, hmk, hown2, hg2⟩ := run_make_full (P := Try.prog) W W.heap.size 28 3 i0 (.int .i64 0) 1 Try.underlying28 hi0 hz0 hz1 .i64 .i64 n (by rw [hz2]; omega) (by unfold maxLen; omega) (Nat.le_refl _)
  have hb2 : Below W.heap.size W w2 := ⟨hg2.os, hg2.tape, hg2.output, hg2.size, fun k hk => hg2.block k hk (by simp)⟩
  obtain ⟨ls, hrow, hlen⟩ : ∃ ls, Row w2 W.heap.size 3 ls ∧ ls.length = n := by
    rcases hown2.2 with ⟨h0, -⟩ | ⟨g', cap', cur, hv, hbg, hg, hnc, hcm, hcs, htake⟩
    · simp at h0
    · simp at hv
      obtain ⟨rfl, rfl⟩ := hv
      exact ⟨cur.toList, ⟨by simpa using hg⟩, by simpa using hcs⟩
  obtain ⟨G, hG⟩ : ∃ G, W.heap.size = G := ⟨_, rfl⟩
  have r0 := r0.below hb2 r0.lt
  have hbx := hb0.trans (hb2.mono hb0.size)
  have hal := (Below.refl w2.heap.size w2).alloc (Nat.le_refl _) (.cells #[.slice (some ⟨G, 0, none⟩) n n] 39)
  have rA := Row.new w2 39 [.slice (some ⟨G, 0, none⟩) n n]
  rw [hG] at hrow hmk
  have S0 := Lib.hid (And.intro (r0.below hal r0.lt) (And.intro rA (And.intro (hrow.below hal hrow.lt) (And.intro hlen (hbx.trans (hal.mono hbx.size))))))
  have hz2 := hrow.lt
  rw [hG] at hsW
  have HG := Lib.hid hG
  clear r0 hbx hb0 rA hrow hlen hal hb2 hown2 hg2
  have HW := Lib.hid hW
  go_enter Try.func17, Try.ntmps17
  go_wp2_with fail
  clear hmk hW HW hG HG
  subst hsW
  generalize hWA : w2.alloc (.cells #[.slice (some ⟨w.heap.size + 1, 0, none⟩) n n] 39) = WA at *
  clear hWA
  generalize hA : w2.heap.size = A at *
  clear hA
  go_loopw [5] (fun i wr => ∃ (k : Nat) (ls : List Value), k ≤ n ∧ i = .int .i64 k ∧ Row wr w.heap.size 39 [.slice none 0 0] ∧ Row wr A 39 [.slice (some ⟨w.heap.size + 1, 0, none⟩) n n] ∧ Row wr (w.heap.size + 1) 3 ls ∧ ls.length = n ∧ ls.take k = List.replicate k (.int .i64 (-1)) ∧ Below w.heap.size w wr) (fun i _ => n - (intOf i).toNat)
  case atStart => exact ⟨0, ls, by omega, rfl, S0.out.1, S0.out.2.1, S0.out.2.2.1, S0.out.2.2.2.1, by simp, S0.out.2.2.2.2⟩
  case round =>
    clear S0
    obtain ⟨k, ls, hk, rfl, r0, rA, hrow, hlen, htk, hbel⟩ := hrel
    by_cases hlt : k < n
    · have c0 := hrow.cell k
      rw [List.getElem?_eq_getElem (by omega)] at c0
      have cf := hrow.frz k
      have a0 : wr.cell? ⟨A, 0, none⟩ = some (.slice (some ⟨w.heap.size + 1, 0, none⟩) n n) := rA.cell 0
      have hst : (ls.set k (.int .i64 (-1))).take (k + 1) = List.replicate (k + 1) (.int .i64 (-1)) := by
        rw [List.take_succ_eq_append_getElem (by simp; omega)]
        simp [List.take_set_of_le, htk, List.replicate_succ']
      have R := Lib.hid (And.intro (r0.setOther (g' := w.heap.size + 1) (o := k) (.int .i64 (-1)) (by omega)) (And.intro (rA.setOther (g' := w.heap.size + 1) (o := k) (.int .i64 (-1)) (by omega)) (And.intro (hrow.set k (.int .i64 (-1))) (And.intro hlen (And.intro hst (hbel.setCell (p := ⟨w.heap.size + 1, k, none⟩) (Nat.le_succ _) (.int .i64 (-1))))))))
      clear r0 rA hrow htk hbel hst
      generalize ls[k] = x0 at *
      clear hlen
      go_wp2_with fail
      go_roundw
      case rel => exact ⟨k + 1, _, by omega, by go_num, R.out.1, R.out.2.1, R.out.2.2.1, by simp [R.out.2.2.2.1], R.out.2.2.2.2.1, R.out.2.2.2.2.2⟩
      case measure => simp [intOf]; omega
    · have hx : Row wr (w.heap.size + 1) 3 ((List.replicate n (-1 : Int)).map (Value.int .i64)) := by
        rw [show k = n by omega, ← hlen, List.take_length] at htk
        rw [List.map_replicate, ← hlen, ← htk]; exact hrow
      have hy := (hx.setOther (g' := w.heap.size) (o := 0) (.slice (some ⟨w.heap.size + 1, 0, none⟩) n n) (by omega)).slI (S := fun b => w.heap.size ≤ b) (fun x hx => by rw [List.eq_of_mem_replicate hx]; simp [rng]) (by simp; omega) (by omega)
      have HY := Lib.hid hy; clear hy hx
      have a0 : wr.cell? ⟨A, 0, none⟩ = some (.slice (some ⟨w.heap.size + 1, 0, none⟩) n n) := rA.cell 0
      have b0 : wr.cell? ⟨w.heap.size, 0, none⟩ = some (.slice none 0 0) := r0.cell 0
      have bf := r0.frz 0
      have HB := Lib.hid hbel; clear hbel r0 rA hrow htk
      clear hlen
      go_wp2_with fail
      refine bodyPost_ret (v := .tuple #[.agg #[.slice (some ⟨w.heap.size + 1, 0, none⟩) n n], .int .i64 0]) (by simp [results, Try.results17, go_sem, b0]) rfl ⟨_, rfl, ?_, HB.out.setCell (Nat.le_refl _) _⟩
      simpa using HY.out

set_option maxRecDepth 100000 in
set_option maxHeartbeats 4000000 in
/-- light returns something. -/
theorem light_any (v : Value) (xs : List Msg) (S : Nat → Prop) (w : World) (hv : Sl msgR S w v xs) :
    Calls Try.prog 9 #[v] w fun e w' => ∃ b, e = .returned (.bool b) ∧ Below w.heap.size w w' := by
  obtain ⟨va, vcap, rfl, hm⟩ := hv.len
  have HV := Lib.hid hv; clear hv
  go_enter Try.func9, Try.ntmps9
  go_wp2_with fail
  go_loopw [3, 4] (fun n i ws => ∃ (k : Nat) (z : Int), k ≤ xs.length ∧ i = .int .i64 k ∧ n = .int .i64 z ∧ Below w.heap.size w ws) (fun _ i _ => xs.length - (intOf i).toNat)
  case atStart => exact ⟨0, 0, by omega, rfl, rfl, Below.refl _ _⟩
  case round =>
    obtain ⟨k, z, hk, rfl, rfl, hb⟩ := hrel
    have HB := Lib.hid hb; clear hb
    by_cases hlt : k < xs.length
    · obtain ⟨b, off, c, rfl, -, hrd, hcell⟩ := (HV.out.below HB.out).at k hlt
      obtain ⟨pd, pt, rfl, -, -, -, -, -, p6, p7⟩ := hrd
      obtain ⟨ma, mac, rfl, -⟩ := p6.len
      obtain ⟨mb, mbc, rfl, hml⟩ := p7.len
      have x5 : wr.cell? ⟨b, off + k * 7 + 5, none⟩ = some (.slice ma xs[k].data.length mac) := hcell 5 (by decide)
      have x6 : wr.cell? ⟨b, off + k * 7 + 6, none⟩ = some (.slice mb xs[k].tickets.length mbc) := hcell 6 (by decide)
      clear hcell p6
      generalize xs[k] = x at *
      have P7 := Lib.hid p7; clear p7
      go_upto_region 5 with (fail)
      go_quiet (fail)
      have hb2 := HB.out.trans (c := wr.drewN nq) ⟨rfl, rfl, rfl, Nat.le_refl _, fun _ _ => rfl⟩
      have x6 : (wr.drewN nq).cell? ⟨b, off + k * 7 + 6, none⟩ = some (.slice mb x.tickets.length mbc) := x6
      have p7 := P7.out.kept (w' := wr.drewN nq) (fun _ _ _ => rfl)
      generalize wr.drewN nq = wq at *
      clear P7 HB x5
      have HB := Lib.hid hb2; clear hb2
      have P7 := Lib.hid p7; clear p7
      go_wp2_with fail
      go_loop [3, 5] (fun n i => ∃ (j : Nat) (z : Int), j ≤ x.tickets.length ∧ i = .int .i64 j ∧ n = .int .i64 z) (fun _ i => x.tickets.length - (intOf i).toNat)
      case atStart => exact ⟨0, _, by omega, rfl, rfl⟩
      case round =>
        obtain ⟨j, z', hj, rfl, rfl⟩ := hrel
        by_cases hjl : j < x.tickets.length
        · obtain ⟨b2, off2, c2, rfl, -, hrd2, hcell2⟩ := P7.out.at j hjl
          obtain ⟨pd2, rfl, -, -, -, hp2⟩ := hrd2
          obtain ⟨pa2, pc2, rfl, -⟩ := hp2.len
          have y1 : wq.cell? ⟨b2, off2 + j * 4 + 1, none⟩ = some (.slice pa2 x.tickets[j].parcels.length pc2) := hcell2 1 (by decide)
          clear hcell2 hp2
          generalize x.tickets[j].parcels.length = pl at *
          go_wp2_with fail
          go_round
          case rel => exact ⟨j + 1, _, by omega, by go_num, rfl⟩
          case measure => simp [intOf]; omega
        · go_wp2_with fail
          go_roundw
          case rel => exact ⟨k + 1, _, by omega, by go_num, rfl, HB.out⟩
          case measure => simp [intOf]; omega
    · go_wp2_with fail
      refine bodyPost_ret (v := .bool (decide (z ≤ 5000))) (by simp [results, Try.results9, go_sem]) rfl ⟨_, rfl, HB.out⟩
end Go.Proofs.Ytmfifkkmbkcibaa
