/-
  The contract of tag.Sum: the tag of bytes, as plain functions on lists of bytes say.
-/
import Derived.Test.YteahbonhdoaibaaTagWords
namespace Go.Proofs.Yteahbonhdoaibaa
open Go.RowKit

/-- The end of a tag. -/
def tagv (s : W4) : UInt64 :=
  let t := rnds 4 { s with c := s.c ^^^ 255 }
  t.a ^^^ t.b ^^^ t.c ^^^ t.d
/-- The first n bytes of a word, the lowest first. -/
def outb (v : UInt64) (n : Nat) : List UInt8 := (List.range n).map fun i => (shrU v (8 * i)).toUInt8
theorem outb_len (v : UInt64) (n : Nat) : (outb v n).length = n := by simp [outb]
theorem outb_succ (v : UInt64) (n : Nat) : outb v (n + 1) = outb v n ++ [(shrU v (8 * n)).toUInt8] := by simp [outb, List.range_succ]
def tagOf (key l : List UInt8) : List UInt8 := outb (tagv ((wds l).foldl tk (ini key))) 8
/-- What Sum returns. -/
def sumR (key l : List UInt8) : List UInt8 × Int :=
  if key.length ≠ 16 then ([], 9) else if 4096 < l.length then ([], 2) else (tagOf key l, 0)

theorem fill_set (l : List UInt8) (n : Nat) (x : UInt8) : ((l ++ List.replicate (n + 1) 0).map fun c => Value.int .u8 (B c)).set l.length (.int .u8 (B x)) = ((l ++ [x]) ++ List.replicate n 0).map fun c => Value.int .u8 (B c) := by
  rw [List.map_append, List.set_append_right _ _ (by simp)]
  simp [List.replicate_succ]

set_option maxHeartbeats 1000000 in
theorem sum_key (kv bv : Value) (key : List UInt8) (w : World) (hk : Bts w kv key) (h : ¬ key.length = 16) :
    Calls Try.prog 9 #[kv, bv] w fun e w' => e = .returned (.tuple #[.slice none 0 0, .int .i64 9]) ∧ w = w' := by
  obtain ⟨a, cap, rfl, hm⟩ := hk.len
  have hb : ((key.length : Int) != 16) = true := by rw [bne_iff_ne]; omega
  clear hk
  go_enter Try.func9, Try.ntmps9
  go_wp2_with fail
  go_ret2
  exact ⟨rfl, rfl⟩

set_option maxHeartbeats 1000000 in
theorem sum_size (kv bv : Value) (key l : List UInt8) (w : World) (hk : Bts w kv key) (hb : Bts w bv l) (h : key.length = 16) (h2 : 4096 < l.length) :
    Calls Try.prog 9 #[kv, bv] w fun e w' => e = .returned (.tuple #[.slice none 0 0, .int .i64 2]) ∧ w = w' := by
  obtain ⟨a, cap, rfl, hm⟩ := hk.len
  obtain ⟨a', cap', rfl, hm'⟩ := hb.len
  have hb1 : ((key.length : Int) != 16) = false := by simp; omega
  clear hk hb
  go_enter Try.func9, Try.ntmps9
  go_wp2_with fail
  go_ret2
  exact ⟨rfl, rfl⟩

set_option maxRecDepth 100000 in
set_option maxHeartbeats 2000000 in
theorem sum_ok (kv bv : Value) (key l : List UInt8) (w : World) (hk : Bts w kv key) (hb : Bts w bv l) (h : key.length = 16) (h2 : l.length ≤ 4096) :
    Calls Try.prog 9 #[kv, bv] w fun e w' => ∃ v, e = .returned (.tuple #[v, .int .i64 0]) ∧ Bts w' v (tagOf key l) ∧ Below w.heap.size w w' := by
  obtain ⟨a, cap, rfl, hm⟩ := hk.len
  obtain ⟨a', cap', rfl, hm'⟩ := hb.len
  have hb1 : ((key.length : Int) != 16) = false := by simp; omega
  have HK := Lib.hid hk; clear hk
  have HBB := Lib.hid hb; clear hb
  have H16 := Lib.hid h; clear h
  have hx := U_xor
  go_enter Try.func9, Try.ntmps9
  go_wp2_with fail
  refine (begin_any _ key w H16.out HK.out).mono ?_
  rintro e w1 ⟨rfl, hs1, hb1, hz1⟩
  have HS1 := Lib.hid hs1; clear hs1
  have HB1 := Lib.hid hb1; clear hb1
  have HZ1 := Lib.hid hz1; clear hz1
  go_wp2_with fail
  refine (words_any _ l w1 (by omega) (HBB.out.below HB1.out)).mono ?_
  rintro e w2 ⟨vw, rfl, hown, hb2⟩
  have hs2 : St 43 w2 w.heap.size (ini key) := ⟨by rw [hb2.block _ (by have := HZ1.out; omega)]; exact HS1.out.blk⟩
  generalize hW : wds l = W at hown
  have hWl : W.length = l.length / 8 + 1 := by rw [← hW, wds_len]
  rcases hown.2 with ⟨-, hn⟩ | ⟨g, wcap, cur, rfl, hg, -, hnc, hcm, -, -⟩
  · omega
  have hcell : ∀ i, i < W.length → w2.cell? ⟨g, i, none⟩ = some (.int .u64 (U (W.getD i 0))) := fun i hi => by
    rw [hown.cellAt i (by omega)]
    simp [List.getD_eq_getElem?_getD, List.getElem?_eq_getElem hi]
  have hgb : g ≠ w.heap.size := by have := HZ1.out; omega
  have hbel : Below w.heap.size w w2 := HB1.out.trans (hb2.mono (by have := HZ1.out; omega))
  have hz2 : w.heap.size < w2.heap.size := by have := hb2.size; have := HZ1.out; omega
  clear HS1 HB1 HZ1 hb2 hown HK HBB hg
  have HS := Lib.hid hs2; clear hs2
  have HC := Lib.hid hcell; clear hcell
  have HBe := Lib.hid hbel; clear hbel
  have HWe := Lib.hid hW; clear hW
  have HG := Lib.hid hgb; clear hgb
  have HWl := Lib.hid hWl; clear hWl
  have hWb : W.length ≤ 1000 := by have := HWl.out; omega
  go_wp2_with fail
  go_loopw [25] (fun i wr => ∃ k : Nat, k ≤ W.length ∧ i = .int .i64 k ∧ St 43 wr w.heap.size ((W.take k).foldl tk (ini key)) ∧ On w.heap.size w2 wr) (fun i _ => W.length - (intOf i).toNat)
  case atStart => exact ⟨0, by omega, rfl, HS.out, On.refl _ _⟩
  case round =>
    obtain ⟨k, hkk, rfl, hs, ho⟩ := hrel
    have HSr := Lib.hid hs; clear hs
    have HOr := Lib.hid ho; clear ho
    by_cases hlt : k < W.length
    · have hcx : wr.cell? ⟨g, k, none⟩ = some (.int .u64 (U (W.getD k 0))) := by
        have h3 := HC.out k hlt
        rw [World.cell?_of_block (w := w2) (a := ⟨g, k, none⟩) (HOr.out.block g HG.out)]; exact h3
      generalize hm : W.getD k 0 = m at hcx
      have HM := Lib.hid hm; clear hm
      go_wp2_with fail
      refine (sword_any w.heap.size _ m wr HSr.out).mono ?_
      rintro e w3 ⟨rfl, hs3, ho3⟩
      have HS3 := Lib.hid hs3; clear hs3
      have HO3 := Lib.hid ho3; clear ho3
      go_wp2_with fail
      go_roundw
      case rel =>
        refine ⟨k + 1, by omega, by go_num, ?_, HOr.out.trans HO3.out⟩
        rw [List.take_succ_eq_append_getElem hlt, List.foldl_append]
        have : W[k] = m := by rw [← HM.out]; simp [List.getD_eq_getElem?_getD, hlt]
        rw [this]
        exact HS3.out
      case measure => simp [intOf]; omega
    · obtain rfl : k = W.length := by omega
      have hs := HSr.out
      rw [List.take_length] at hs
      generalize hS : W.foldl tk (ini key) = S at hs
      have HSS := Lib.hid hS; clear hS
      have c2 := hs.c2; have f := hs.f
      have HS1 := Lib.hid hs; clear hs HSr
      have k255 : bits .xor .u64 (U S.c) 255 = U (S.c ^^^ 255) := U_xc S.c 255 (by omega)
      go_wp2_with fail
      refine (rounds_any w.heap.size _ 4 _ (by omega) (HS1.out.set2 _)).mono ?_
      rintro e w4 ⟨rfl, hs4, ho4⟩
      have hbel : Below w.heap.size w w4 := (HBe.out.trans (below_on (HOr.out.trans (((On.refl _ _).set _).trans ho4)) (Nat.le_refl _)))
      have c0 := hs4.c0; have c1 := hs4.c1; have c2 := hs4.c2; have c3 := hs4.c3
      clear f k255 HOr HS1 ho4 hs4 HBe
      have HBe := Lib.hid hbel; clear hbel
      generalize hT : rnds 4 { S with c := S.c ^^^ 255 } = T at *
      have HT := Lib.hid hT; clear hT
      go_wp2_with fail
      go_quiet (fail)
      clear c0 c1 c2 c3
      have hmk : ∀ w, (Instr.makeSlice 22 (.int .i64 8) (.int .i64 8)).run Try.prog w = .ok (.slice (some ⟨w.heap.size, 0, none⟩) 8 8) (w.alloc (.cells #[.int .u8 0, .int .u8 0, .int .u8 0, .int .u8 0, .int .u8 0, .int .u8 0, .int .u8 0, .int .u8 0] 5)) := fun _ => by kernel_rfl
      generalize hV : T.a ^^^ T.b ^^^ T.c ^^^ T.d = V
      have HV := Lib.hid hV; clear hV
      go_wp2_with fail
      go_loopw [64] (fun i wr => ∃ k : Nat, k ≤ 8 ∧ i = .int .i64 k ∧ Row wr w4.heap.size 5 ((outb V k ++ List.replicate (8 - k) 0).map fun c => Value.int .u8 (B c)) ∧ Below w.heap.size w wr) (fun i _ => 8 - (intOf i).toNat)
      case atStart => exact ⟨0, by omega, rfl, Row.new (w4.drewN nq) _ _, Below.alloc (w := w4.drewN nq) ⟨HBe.out.os, HBe.out.tape, HBe.out.output, HBe.out.size, HBe.out.block⟩ HBe.out.size _⟩
      case round =>
        obtain ⟨k, hkk, rfl, hrow, hbel⟩ := hrel
        clear hmk
        by_cases hlt : k < 8
        · have hck := hrow.cell k
          have hfk := hrow.frz k
          rw [mapB_get _ k (by simp [outb_len]; omega)] at hck
          generalize (outb V k ++ List.replicate (8 - k) 0).getD k 0 = c at hck
          have h1 := U_shr V (8 * k) (by omega)
          have h4 := U_byte
          have HR := Lib.hid hrow; clear hrow
          have HB := Lib.hid hbel; clear hbel
          go_wp2_with fail
          go_roundw
          case rel =>
            refine ⟨k + 1, by omega, by go_num, ?_, HB.out.setCell HBe.out.size _⟩
            have h5 := HR.out.set k (.int .u8 (B (shrU V (8 * k)).toUInt8))
            have h6 := fill_set (outb V k) (7 - k) (shrU V (8 * k)).toUInt8
            rw [outb_len, ← outb_succ, show 7 - k + 1 = 8 - k by omega] at h6
            rw [h6] at h5
            rw [show 8 - (k + 1) = 7 - k by omega]
            exact h5
          case measure => simp [intOf]; omega
        · obtain rfl : k = 8 := by omega
          have HR := Lib.hid hrow; clear hrow
          have HB := Lib.hid hbel; clear hbel
          go_wp2_with fail
          go_ret2
          refine ⟨_, rfl, ?_, HB.out⟩
          have h5 := HR.out
          rw [show 8 - 8 = 0 from rfl, List.replicate_zero, List.append_nil] at h5
          have h6 := h5.bts (by rw [outb_len]; omega)
          rw [outb_len] at h6
          have h7 : V = tagv (W.foldl tk (ini key)) := by rw [HSS.out, ← HV.out, ← HT.out]; rfl
          unfold tagOf
          rw [HWe.out, ← h7]
          exact h6

theorem sum_any (kv bv : Value) (key l : List UInt8) (w : World) (hk : Bts w kv key) (hb : Bts w bv l) :
    Calls Try.prog 9 #[kv, bv] w fun e w' => ∃ v, e = .returned (.tuple #[v, .int .i64 (sumR key l).2]) ∧ Bts w' v (sumR key l).1 ∧ Below w.heap.size w w' := by
  unfold sumR
  by_cases h : key.length = 16
  · rw [if_neg (by simpa using h)]
    by_cases h2 : 4096 < l.length
    · rw [if_pos h2]
      exact (sum_size kv bv key l w hk hb h h2).mono fun e w' ⟨he, hw⟩ => ⟨_, he, .nil _, hw ▸ Below.refl _ _⟩
    · rw [if_neg h2]
      exact sum_ok kv bv key l w hk hb h (by omega)
  · rw [if_pos h]
    exact (sum_key kv bv key w hk h).mono fun e w' ⟨he, hw⟩ => ⟨_, he, .nil _, hw ▸ Below.refl _ _⟩
end Go.Proofs.Yteahbonhdoaibaa
