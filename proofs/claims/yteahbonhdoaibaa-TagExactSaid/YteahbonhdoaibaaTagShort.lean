/-
  The contracts of Short, in the program and in the reference, and of the statements' sanity check.
-/
import Derived.Test.YteahbonhdoaibaaTagRef
namespace Go.Proofs.Yteahbonhdoaibaa
open Go.RowKit

theorem outb_len8 (key l : List UInt8) : (tagOf key l).length = 8 := outb_len _ _
/-- What Short returns. -/
def shortR (key l : List UInt8) : List UInt8 × Int :=
  if key.length ≠ 16 then ([], 9) else if 4096 < l.length then ([], 2) else ((tagOf key l).take 4, 0)

/-- A slice that reads as eight bytes lies somewhere. -/
theorem Bts.some8 {w : World} {v : Value} {l : List UInt8} (h : Bts w v l) (hl : l.length = 8) :
    ∃ b off cap, v = .slice (some ⟨b, off, none⟩) 8 cap ∧ 8 ≤ cap ∧ cap ≤ 9223372036854775807 ∧ ∀ i, i < l.length → w.cell? ⟨b, off + i, none⟩ = some (.int .u8 (B (l.getD i 0))) := by
  rcases h with ⟨rfl, rfl⟩ | ⟨b, off, cap, rfl, h1, h2, h3⟩
  · simp at hl
  · exact ⟨b, off, cap, by rw [hl], by omega, h2, h3⟩

set_option maxHeartbeats 1000000 in
theorem short_any (kv bv : Value) (key l : List UInt8) (w : World) (hk : Bts w kv key) (hb : Bts w bv l) :
    Calls Try.prog 12 #[kv, bv] w fun e w' => ∃ v, e = .returned (.tuple #[v, .int .i64 (shortR key l).2]) ∧ Bts w' v (shortR key l).1 ∧ Below w.heap.size w w' := by
  unfold shortR
  by_cases h : key.length = 16
  · rw [if_neg (by simpa using h)]
    by_cases h2 : 4096 < l.length
    · rw [if_pos h2]
      have H := Lib.hid (sum_size kv bv key l w hk hb h h2)
      clear hk hb h h2
      go_enter Try.func12, Try.ntmps12
      go_wp2_with fail
      refine H.out.mono ?_
      rintro e w' ⟨rfl, rfl⟩
      go_wp2_with fail
      go_ret2
      exact ⟨_, rfl, .nil _, Below.refl _ _⟩
    · rw [if_neg h2]
      have H := Lib.hid (sum_ok kv bv key l w hk hb h (by omega))
      clear hk hb h h2
      go_enter Try.func12, Try.ntmps12
      go_wp2_with fail
      refine H.out.mono ?_
      rintro e w1 ⟨v, rfl, hv, hb1⟩
      obtain ⟨b, off, cap, rfl, h1, hc, h3⟩ := hv.some8 (outb_len8 _ _)
      clear hv
      have HB := Lib.hid hb1; clear hb1
      have H3 := Lib.hid h3; clear h3
      have g4 : 4 ≤ cap := by omega
      go_wp2_with fail
      go_ret2
      exact ⟨_, rfl, Bts.take (k := 4) (cap := 4) (l := (tagOf key l).take 4) (by simp [outb_len8]) (by simp [outb_len8]) (by omega) (fun i hi => by
        have hi' : i < 4 := by simp [outb_len8] at hi; omega
        rw [H3.out i (by rw [outb_len8]; omega)]; simp [List.getD_eq_getElem?_getD, hi']), HB.out⟩
  · rw [if_pos h]
    have H := Lib.hid (sum_key kv bv key w hk h)
    clear hk hb h
    go_enter Try.func12, Try.ntmps12
    go_wp2_with fail
    refine H.out.mono ?_
    rintro e w' ⟨rfl, rfl⟩
    go_wp2_with fail
    go_ret2
    exact ⟨_, rfl, .nil _, Below.refl _ _⟩

set_option maxHeartbeats 1000000 in
theorem rshort_any (kv bv : Value) (key l : List UInt8) (w : World) (hk : Bts w kv key) (hb : Bts w bv l) :
    Calls Try.prog 13 #[kv, bv] w fun e w' => ∃ v, e = .returned (.tuple #[v, .int .i64 (shortR key l).2]) ∧ Bts w' v (shortR key l).1 ∧ Below w.heap.size w w' := by
  unfold shortR
  by_cases h : key.length = 16
  · rw [if_neg (by simpa using h)]
    by_cases h2 : 4096 < l.length
    · rw [if_pos h2]
      have H := Lib.hid (rsum_size kv bv key l w hk hb h h2)
      clear hk hb h h2
      go_enter Try.func13, Try.ntmps13
      go_wp2_with fail
      refine H.out.mono ?_
      rintro e w' ⟨rfl, rfl⟩
      go_wp2_with fail
      go_ret2
      exact ⟨_, rfl, .nil _, Below.refl _ _⟩
    · rw [if_neg h2]
      have H := Lib.hid (rsum_ok kv bv key l w hk hb h (by omega))
      clear hk hb h h2
      go_enter Try.func13, Try.ntmps13
      go_wp2_with fail
      refine H.out.mono ?_
      rintro e w1 ⟨v, rfl, hv, hb1⟩
      obtain ⟨b, off, cap, rfl, h1, hc, h3⟩ := hv.some8 (outb_len8 _ _)
      clear hv
      have HB := Lib.hid hb1; clear hb1
      have H3 := Lib.hid h3; clear h3
      have g4 : 4 ≤ cap := by omega
      go_wp2_with fail
      go_ret2
      exact ⟨_, rfl, Bts.take (k := 4) (by rw [outb_len8]; omega) (by rw [outb_len8]; omega) (by omega) H3.out, HB.out⟩
  · rw [if_pos h]
    have H := Lib.hid (rsum_key kv bv key w hk h)
    clear hk hb h
    go_enter Try.func13, Try.ntmps13
    go_wp2_with fail
    refine H.out.mono ?_
    rintro e w' ⟨rfl, rfl⟩
    go_wp2_with fail
    go_ret2
    exact ⟨_, rfl, .nil _, Below.refl _ _⟩

/-- Two tags that differ. -/
theorem awake_differ : (tagOf (fil 0 16) [1] == tagOf (fil 0 16) [2]) = false := by decide +kernel

theorem Bts.one (w : World) (c : UInt8) (t : TypeId) : Bts (w.alloc (.cells #[.int .u8 (B c)] t)) (.slice (some ⟨w.heap.size, 0, none⟩) 1 1) [c] :=
  Row.bts (l := [c]) (Row.new w t [.int .u8 (B c)]) (by simp)

set_option maxHeartbeats 1000000 in
theorem awake_any (w : World) : Calls Try.prog 6 #[] w fun e w' => e = .returned (.bool true) ∧ Below w.heap.size w w' := by
  go_enter Try.func6, Try.ntmps6
  go_wp2_with fail
  refine (filled_any 16 0 w (by omega)).mono ?_
  rintro e w1 ⟨kv, rfl, hk, hb1⟩
  have HK := Lib.hid hk; clear hk
  have HB1 := Lib.hid hb1; clear hb1
  go_wp2_with fail
  refine (sum_ok kv _ (fil 0 16) [1] _ (HK.out.alloc _) (Bts.one w1 1 _) (by simp [fil_len]) (by simp)).mono ?_
  rintro e w2 ⟨av, rfl, ha, hb2⟩
  obtain ⟨ab, ao, ac, rfl, ha1, ha2, ha3⟩ := ha.some8 (outb_len8 _ _)
  have hk2 := (HK.out.alloc _).below hb2
  have hbb := (HB1.out.alloc HB1.out.size _).trans (hb2.mono (by have := HB1.out.size; simp; omega))
  clear HK HB1 ha3 hb2
  have HA := Lib.hid ha; clear ha
  have HK := Lib.hid hk2; clear hk2
  have HB := Lib.hid hbb; clear hbb
  go_wp2_with fail
  refine (sum_ok kv _ (fil 0 16) [2] _ (HK.out.alloc _) (Bts.one w2 2 _) (by simp [fil_len]) (by simp)).mono ?_
  rintro e w3 ⟨bv, rfl, hbv, hb3⟩
  obtain ⟨bb, bo, bc, rfl, hb31, hb32, hb33⟩ := hbv.some8 (outb_len8 _ _)
  have ha2 := (HA.out.alloc _).below hb3
  have hbb := (HB.out.alloc HB.out.size _).trans (hb3.mono (by have := HB.out.size; simp; omega))
  clear HK HB HA hb33 hb3
  have HS := Lib.hid (same_any _ _ _ _ w3 ha2 hbv); clear ha2 hbv
  have HB := Lib.hid hbb; clear hbb
  go_wp2_with fail
  refine HS.out.mono ?_
  rw [awake_differ]
  rintro e w' ⟨rfl, rfl⟩
  go_wp2_with fail
  go_ret
  exact ⟨rfl, HB.out⟩
end Go.Proofs.Yteahbonhdoaibaa
