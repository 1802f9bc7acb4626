/-
  The contract of the reference's Sum: it returns what the program's Sum returns.
-/
import Derived.Test.YteahbonhdoaibaaTagSum
namespace Go.Proofs.Yteahbonhdoaibaa
open Go.RowKit

theorem word_same (v : Value) (l : List UInt8) (w : World) (h8 : l.length ≤ 8) (hb : Bts w v l) :
    Calls Try.prog 18 #[v] w fun e w' => e = .returned (.int .u64 (U (ldw l))) ∧ w' = w :=
  (word_any v l w h8 hb).mono fun _ _ ⟨he, hw⟩ => ⟨he, hw.symm⟩
/-- What stands before the place k. -/
theorem Bts.take {w : World} {l : List UInt8} {b off cap k : Nat} (hk : k ≤ l.length) (h1 : l.length ≤ cap) (h2 : cap ≤ 9223372036854775807)
    (h : ∀ i, i < l.length → w.cell? ⟨b, off + i, none⟩ = some (.int .u8 (B (l.getD i 0)))) :
    Bts w (.slice (some ⟨b, off, none⟩) k cap) (l.take k) := by
  have e : k = (l.take k).length := by simp; omega
  conv => arg 2; rw [e]
  refine Bts.mk (by simp; omega) (by omega) (fun i hi => ?_)
  have hi' : i < k := by simp at hi; omega
  rw [h i (by omega)]
  simp [List.getD_eq_getElem?_getD, hi']
theorem Bts.drewN {w : World} {v : Value} {l : List UInt8} (h : Bts w v l) (n : Nat) : Bts (w.drewN n) v l := h

theorem U_shl56 (c : UInt8) : U c.toUInt64 * 72057594037927936 = U (shlU c.toUInt64 56) := by
  rw [← U_shl _ 56 (by omega), ← B_U]
  have h1 := B_lo c; have h2 := B_hi c
  simp [IntKind.wrap, IntKind.bits, IntKind.signed]
  omega

set_option maxHeartbeats 1000000 in
theorem rsum_key (kv bv : Value) (key : List UInt8) (w : World) (hk : Bts w kv key) (h : ¬ key.length = 16) :
    Calls Try.prog 10 #[kv, bv] w fun e w' => e = .returned (.tuple #[.slice none 0 0, .int .i64 9]) ∧ w = w' := by
  obtain ⟨a, cap, rfl, hm⟩ := hk.len
  have hb : ((key.length : Int) != 16) = true := by rw [bne_iff_ne]; omega
  clear hk
  go_enter Try.func10, Try.ntmps10
  go_wp2_with fail
  go_ret2
  exact ⟨rfl, rfl⟩

set_option maxHeartbeats 1000000 in
theorem rsum_size (kv bv : Value) (key l : List UInt8) (w : World) (hk : Bts w kv key) (hb : Bts w bv l) (h : key.length = 16) (h2 : 4096 < l.length) :
    Calls Try.prog 10 #[kv, bv] w fun e w' => e = .returned (.tuple #[.slice none 0 0, .int .i64 2]) ∧ w = w' := by
  obtain ⟨a, cap, rfl, hm⟩ := hk.len
  obtain ⟨a', cap', rfl, hm'⟩ := hb.len
  have hb1 : ((key.length : Int) != 16) = false := by simp; omega
  clear hk hb
  go_enter Try.func10, Try.ntmps10
  go_wp2_with fail
  go_ret2
  exact ⟨rfl, rfl⟩

set_option maxRecDepth 100000 in
set_option maxHeartbeats 4000000 in
theorem rsum_ok (kv bv : Value) (key l : List UInt8) (w : World) (hk : Bts w kv key) (hb : Bts w bv l) (h : key.length = 16) (h2 : l.length ≤ 4096) :
    Calls Try.prog 10 #[kv, bv] w fun e w' => ∃ v, e = .returned (.tuple #[v, .int .i64 0]) ∧ Bts w' v (tagOf key l) ∧ Below w.heap.size w w' := by
  obtain ⟨i0, hi, hz0, hz1, hz2⟩ := info_parts (P := Try.prog) (e := 5) (z := .int .u8 0) (size := 1) (bytes := 1) (by kernel_rfl)
  rcases hk with ⟨rfl, rfl⟩ | ⟨b, off, cap, rfl, h1, hc2, h3⟩
  · simp at h
  obtain ⟨a', cap', rfl, hm'⟩ := hb.len
  have hb1 : ((key.length : Int) != 16) = false := by simp; omega
  have n8 : ¬ cap = 8 := by omega
  have g8 : 8 ≤ cap := by omega
  have A1 := fun nq => word_same _ (key.take 8) (w.drewN nq) (by simp; omega) ((Bts.take (k := 8) (by omega) h1 hc2 h3).drewN nq)
  have A2 := fun nq => word_same _ (key.drop 8) (w.drewN nq) (by simp; omega) ((Bts.drop (k := 8) (by omega) h1 hc2 h3).drewN nq)
  rw [show key.length - 8 = 8 by omega] at A2
  have HBB := Lib.hid hb; clear hb
  have H16 := Lib.hid h
  rw [h]
  rw [h] at hb1
  clear h h1 hc2 h3
  have B1 := Lib.hid A1; clear A1
  have B2 := Lib.hid A2; clear A2
  have hx := U_xor
  go_enter Try.func10, Try.ntmps10
  go_wp2_with fail
  go_quiet (first | (with_reducible exact Calls.quiet_of_same (B1.out _)) | (with_reducible exact Calls.quiet_of_same (B2.out _)))
  go_wp2_with fail
  have hs1 : St 48 _ w.heap.size (ini key) := ini_cells (ldw (key.take 8)) (ldw (key.drop 8)) (w.drewN nq) 48
  have hbe1 : Below w.heap.size w _ := Below.alloc (a := w) (w := w.drewN nq) ⟨rfl, rfl, rfl, Nat.le_refl _, fun _ _ => rfl⟩ (Nat.le_refl _) (.cells #[.int .u64 (bits .xor .u64 (U (ldw (key.take 8))) 8317987319222330741), .int .u64 (bits .xor .u64 (U (ldw (key.drop 8))) 7237128888997146477), .int .u64 (bits .xor .u64 (U (ldw (key.take 8))) 7816392313619706465), .int .u64 (bits .xor .u64 (U (ldw (key.drop 8))) 8387220255154660723)] 48)
  generalize (w.drewN nq).alloc _ = w1 at *
  have HS1 := Lib.hid hs1; clear hs1
  have HB1 := Lib.hid hbe1; clear hbe1
  have hsz1 : w.heap.size < w1.heap.size := (Array.getElem?_eq_some_iff.1 HS1.out.blk).1
  clear B1 B2
  go_loopw [1] (fun r wr => ∃ k : Nat, 8 * k ≤ l.length ∧ Bts w r (l.drop (8 * k)) ∧ St 48 wr w.heap.size ((fw l k).foldl tk (ini key)) ∧ On w.heap.size w1 wr) (fun r _ => slLen r)
  case atStart => exact ⟨0, by omega, HBB.out, HS1.out, On.refl _ _⟩
  case round =>
    obtain ⟨k, hkk, hr, hs, ho⟩ := hrel
    have HSr := Lib.hid hs; clear hs
    have HOr := Lib.hid ho; clear ho
    have hbw : Below w.heap.size w wr := HB1.out.trans (below_on HOr.out (Nat.le_refl _))
    generalize hdr : l.drop (8 * k) = r at hr
    have hrl : r.length + 8 * k = l.length := by rw [← hdr]; simp; omega
    have HDR := Lib.hid hdr; clear hdr
    have HRL := Lib.hid hrl; clear hrl
    by_cases hlt : 8 ≤ r.length
    · rcases hr with ⟨rfl, rfl⟩ | ⟨b2, off2, cap2, rfl, h1, hc2, h3⟩
      · simp at hlt
      have g8 : 8 ≤ cap2 := by omega
      have HL := Lib.hid (word_any _ (r.take 8) wr (by simp; omega) ((Bts.take (k := 8) hlt h1 hc2 h3).below hbw))
      have H3 := Lib.hid h3; clear h3
      have HBW := Lib.hid hbw; clear hbw
      have hbd := HRL.out
      go_wp2_with fail
      refine HL.out.mono ?_
      rintro e w' ⟨rfl, rfl⟩
      go_wp2_with fail
      refine (stake_any w.heap.size _ (ldw (r.take 8)) wr HSr.out).mono ?_
      rintro e w3 ⟨rfl, hs3, ho3⟩
      have HS3 := Lib.hid hs3; clear hs3
      have HO3 := Lib.hid ho3; clear ho3
      have hfold : (fw l (k + 1)).foldl tk (ini key) = tk ((fw l k).foldl tk (ini key)) (ldw (r.take 8)) := by rw [fw_succ, List.foldl_append, HDR.out]; rfl
      have HF := Lib.hid hfold; clear hfold
      by_cases hc8 : cap2 = 8
      · subst hc8
        obtain hr8 : r.length = 8 := by omega
        go_wp2_with fail
        go_roundw
        case rel => exact ⟨k + 1, by omega, by
          rw [show 8 * (k + 1) = 8 * k + 8 by omega, ← List.drop_drop, HDR.out, List.drop_of_length_le (by omega)]
          have := Bts.empty (w := w) (b := b2) (off := off2) (cap := 0) (by omega)
          simpa [hr8] using this, by rw [HF.out]; exact HS3.out, HOr.out.trans HO3.out⟩
        case measure => simp [slLen]; omega
      · go_wp2_with fail
        go_roundw
        case rel => exact ⟨k + 1, by omega, by
          rw [show 8 * (k + 1) = 8 * k + 8 by omega, ← List.drop_drop, HDR.out]
          exact Bts.drop hlt h1 hc2 H3.out, by rw [HF.out]; exact HS3.out, HOr.out.trans HO3.out⟩
        case measure => simp [slLen]; omega
    · obtain ⟨ra, rcap, rfl, -⟩ := hr.len
      have HL := Lib.hid (word_any _ r wr (by omega) (hr.below hbw))
      have HR := Lib.hid hr; clear hr
      have HBW := Lib.hid hbw; clear hbw
      have hq : ((l.length : Int) % 256) = U (byteOf (l.length : Int)).toUInt64 := by
        rw [← B_U, ← B_of]; simp [IntKind.wrap, IntKind.bits, IntKind.signed]
      have hU1 := U_wrap
      have hU2 := U_or
      have hU3 := U_shl56
      go_wp2_with fail
      refine HL.out.mono ?_
      rintro e w' ⟨rfl, rfl⟩
      go_wp2_with fail
      have hst : Calls Try.prog 19 _ wr _ := stake_any w.heap.size _ (wl r l.length) wr HSr.out
      unfold wl at hst
      refine hst.mono ?_
      clear hst
      rintro e w3 ⟨rfl, hs3, ho3⟩
      have hS : tk ((fw l k).foldl tk (ini key)) (ldw r ||| shlU (byteOf ↑l.length).toUInt64 56) = (wds l).foldl tk (ini key) := by
        have hk8 : l.length / 8 = k := by have := HRL.out; omega
        unfold wds
        rw [List.foldl_append, hk8, HDR.out]; rfl
      rw [hS] at hs3
      clear hS
      generalize hS : (wds l).foldl tk (ini key) = S at hs3
      have HSS := Lib.hid hS; clear hS
      have c2 := hs3.c2; have f := hs3.f
      have HS3 := Lib.hid hs3; clear hs3 HSr
      have HO3 := Lib.hid (HOr.out.trans ho3); clear ho3 HOr
      have k255 : bits .xor .u64 (U S.c) 255 = U (S.c ^^^ 255) := U_xc S.c 255 (by omega)
      clear hU1 hU2 hU3 hq
      go_wp2_with fail
      refine (rrounds_any w.heap.size _ 4 _ (by omega) (HS3.out.set2 _)).mono ?_
      rintro e w4 ⟨rfl, hs4, ho4⟩
      have hbel : Below w.heap.size w w4 := (HB1.out.trans (below_on (HO3.out.trans (((On.refl _ _).set _).trans ho4)) (Nat.le_refl _)))
      have c0 := hs4.c0; have c1 := hs4.c1; have c2 := hs4.c2; have c3 := hs4.c3
      clear f k255 HO3 HS3 ho4 hs4 HB1 HBW
      have HBe := Lib.hid hbel; clear hbel
      generalize hT : rnds 4 { S with c := S.c ^^^ 255 } = T at *
      have HT := Lib.hid hT; clear hT
      go_wp2_with fail
      go_quiet (fail)
      clear c0 c1 c2 c3
      generalize hV : T.a ^^^ T.b ^^^ T.c ^^^ T.d = V
      have HV := Lib.hid hV; clear hV
      go_wp2_with fail
      go_loopw [11, 12] (fun v i wr => ∃ k : Nat, k ≤ 8 ∧ i = .int .i64 k ∧ wr.ownsRow w.heap.size 5 1 v k ((outb V k).map fun c => Value.int .u8 (B c)) ∧ Below w.heap.size w wr) (fun _ i _ => 8 - (intOf i).toNat)
      case atStart => exact ⟨0, by omega, rfl, World.ownsRow_nil _ _ _ _, ⟨HBe.out.os, HBe.out.tape, HBe.out.output, HBe.out.size, HBe.out.block⟩⟩
      case round =>
        obtain ⟨j, hj, rfl, hown, hbel⟩ := hrel
        have HO := Lib.hid hown; clear hown
        have HB := Lib.hid hbel; clear hbel
        by_cases hlt : j < 8
        · have h1 := U_shr V (8 * j) (by omega)
          have h4 := U_byte
          go_wp2_with (at_builtin; refine wpList_app1 _ rfl _ _ 22 rfl w.heap.size 5 i0 (.int .u8 0) 1 Try.underlying22 hi hz0 hz1 hz2 rfl _ _ _ rfl (HO.out.alloc _) _ (.int .u8 (B (shrU V (8 * j)).toUInt8)) rfl (new_cell _ _ _) rfl ?c3 ?c4 ?c5 ?_)
          case c3 => unfold maxLen; omega
          case c4 => omega
          case c5 => have := HB.out.size; simp; omega
          intro v' w5 hown1 hg1
          have hb1 := below_app HB.out (Nat.le_refl _) HO.out hg1
          rw [← List.map_singleton (f := fun c => Value.int .u8 (B c)), ← List.map_append, ← outb_succ] at hown1
          have HO1 := Lib.hid hown1; clear hown1
          have HB1 := Lib.hid hb1; clear hb1 hg1 HO HB
          go_wp2_with fail
          go_roundw
          case rel => exact ⟨j + 1, by omega, by go_num, HO1.out, HB1.out⟩
          case measure => simp [intOf]; omega
        · obtain rfl : j = 8 := by omega
          go_wp2_with fail
          go_ret2
          refine ⟨_, rfl, ?_, HB.out⟩
          have h7 : V = tagv ((wds l).foldl tk (ini key)) := by rw [HSS.out, ← HV.out, ← HT.out]; rfl
          unfold tagOf
          rw [← h7]
          exact Bts.owns (by rw [outb_len]; exact HO.out)

theorem rsum_any (kv bv : Value) (key l : List UInt8) (w : World) (hk : Bts w kv key) (hb : Bts w bv l) :
    Calls Try.prog 10 #[kv, bv] w fun e w' => ∃ v, e = .returned (.tuple #[v, .int .i64 (sumR key l).2]) ∧ Bts w' v (sumR key l).1 ∧ Below w.heap.size w w' := by
  unfold sumR
  by_cases h : key.length = 16
  · rw [if_neg (by simpa using h)]
    by_cases h2 : 4096 < l.length
    · rw [if_pos h2]
      exact (rsum_size kv bv key l w hk hb h h2).mono fun e w' ⟨he, hw⟩ => ⟨_, he, .nil _, hw ▸ Below.refl _ _⟩
    · rw [if_neg h2]
      exact rsum_ok kv bv key l w hk hb h (by omega)
  · rw [if_pos h]
    exact (rsum_key kv bv key w hk h).mono fun e w' ⟨he, hw⟩ => ⟨_, he, .nil _, hw ▸ Below.refl _ _⟩
end Go.Proofs.Yteahbonhdoaibaa
