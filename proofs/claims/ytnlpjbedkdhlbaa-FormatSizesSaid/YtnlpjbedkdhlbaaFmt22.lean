import Derived.Test.YtnlpjbedkdhlbaaFmt21
import Derived.Test.YtnlpjbedkdhlbaaMade8
namespace Go.Proofs.Ytnlpjbedkdhlbaa
open Go.RowKit
set_option linter.all false
/-- Readers over bytes that are known. -/
theorem rdr_app (n : Nat) (a l : List UInt8) (ha : a.length = n) (h : (a ++ l).length ≤ 140737488355328) : rtk n (rdr (a ++ l) h) = rdr l (by simp at h; omega) := by
  refine Subtype.ext ?_
  unfold rtk rdr
  show tkR n (some (a ++ l)) = some l
  have e : tkR n (some (a ++ l)) = some ((a ++ l).drop n) := if_neg (by simp; omega)
  rw [e, ← ha]
  simp
theorem rv_app (n : Nat) (a l : List UInt8) (ha : a.length = n) (h : (a ++ l).length ≤ 140737488355328) : rv n (rdr (a ++ l) h) = beN a := by
  unfold rv rdr
  show tkV n (some (a ++ l)) = beN a
  have e : tkV n (some (a ++ l)) = beN ((a ++ l).take n) := if_neg (by simp; omega)
  rw [e, ← ha]
  simp
theorem rdr1 (c : UInt8) (l : List UInt8) (h : (c :: l).length ≤ 140737488355328) : rtk 1 (rdr (c :: l) h) = rdr l (by simp at h; omega) := rdr_app 1 [c] l rfl h
theorem rv1 (c : UInt8) (l : List UInt8) (h : (c :: l).length ≤ 140737488355328) : rv 1 (rdr (c :: l) h) = (c.toNat : Int) := (rv_app 1 [c] l rfl h).trans (by simp [beN])
theorem rdr2 (v : Int) (l : List UInt8) (h : (putB v 2 ++ l).length ≤ 140737488355328) : rtk 2 (rdr (putB v 2 ++ l) h) = rdr l (by simp at h; omega) := rdr_app 2 _ l (by simp) h
theorem rdr4 (v : Int) (l : List UInt8) (h : (putB v 4 ++ l).length ≤ 140737488355328) : rtk 4 (rdr (putB v 4 ++ l) h) = rdr l (by simp at h; omega) := rdr_app 4 _ l (by simp) h
theorem b8_nat (v : Int) : ((b8 v).toNat : Int) = v % 256 := by
  have h := bAV_b8 v
  unfold bAV at h
  have h2 := (AV.int.inj h).2
  rwa [IntKind.wrap_u8] at h2
theorem be_put2 (v : Int) : beN (putB v 2) = v % 65536 := by
  show 256 * (256 * 0 + ((b8 (v.fdiv 256)).toNat : Int)) + ((b8 (v.fdiv 1)).toNat : Int) = _
  rw [b8_nat, b8_nat, Int.fdiv_eq_ediv_of_nonneg _ (by decide), Int.fdiv_eq_ediv_of_nonneg _ (by decide)]
  omega
theorem be_put4 (v : Int) : beN (putB v 4) = v % 4294967296 := by
  show 256 * (256 * (256 * (256 * 0 + ((b8 (v.fdiv 16777216)).toNat : Int)) + ((b8 (v.fdiv 65536)).toNat : Int)) + ((b8 (v.fdiv 256)).toNat : Int)) + ((b8 (v.fdiv 1)).toNat : Int) = _
  rw [b8_nat, b8_nat, b8_nat, b8_nat, Int.fdiv_eq_ediv_of_nonneg _ (by decide), Int.fdiv_eq_ediv_of_nonneg _ (by decide), Int.fdiv_eq_ediv_of_nonneg _ (by decide), Int.fdiv_eq_ediv_of_nonneg _ (by decide)]
  omega
theorem rv2 (v : Int) (l : List UInt8) (h : (putB v 2 ++ l).length ≤ 140737488355328) : rv 2 (rdr (putB v 2 ++ l) h) = v % 65536 := (rv_app 2 _ l (by simp) h).trans (be_put2 v)
theorem rv4 (v : Int) (l : List UInt8) (h : (putB v 4 ++ l).length ≤ 140737488355328) : rv 4 (rdr (putB v 4 ++ l) h) = v % 4294967296 := (rv_app 4 _ l (by simp) h).trans (be_put4 v)
theorem rE_rdr (l : List UInt8) (h : l.length ≤ 140737488355328) : rE (rdr l h) = false := by unfold rE rdr; rfl
theorem rL_rdr (l : List UInt8) (h : l.length ≤ 140737488355328) : rL (rdr l h) = l := by unfold rL rdr; rfl
/-- Bits of a byte. -/
theorem by_all {p : Nat → Prop} [DecidablePred p] (h : ∀ n, n < 256 → p n) (c : UInt8) : p c.toNat := h _ c.toNat_lt
theorem sh3 : ∀ n : Nat, n < 256 → shR (n : Int) 3 = ((n / 8 : Nat) : Int) := by decide +kernel
theorem an7 : ∀ n : Nat, n < 256 → andR (n : Int) 7 = ((n % 8 : Nat) : Int) := by decide +kernel
theorem an31 : ∀ n : Nat, n < 256 → andR (n : Int) 31 = ((n % 32 : Nat) : Int) := by decide +kernel
theorem an1 : ∀ n : Nat, n < 256 → andR (n : Int) 1 = ((n % 2 : Nat) : Int) := by decide +kernel
theorem bi7 : ∀ n : Nat, n < 256 → bitR (n : Int) 7 = ((n / 128 % 2 : Nat) : Int) := by decide +kernel
theorem bi6 : ∀ n : Nat, n < 256 → bitR (n : Int) 6 = ((n / 64 % 2 : Nat) : Int) := by decide +kernel
theorem bi5 : ∀ n : Nat, n < 256 → bitR (n : Int) 5 = ((n / 32 % 2 : Nat) : Int) := by decide +kernel
theorem bi4 : ∀ n : Nat, n < 256 → bitR (n : Int) 4 = ((n / 16 % 2 : Nat) : Int) := by decide +kernel
def sumL (s : Sm) : List UInt8 := if sumR s = 0 then [] else putB (sumR s) 2
/-- What valid parts with low bits are. -/
theorem Sm.low (s : Sm) (h : s.ok = true) (hf : s.f = 1 ∨ s.f = 2 ∨ s.f = 3) : s = { s0 s.cx s.f with n := s.n, tm := s.tm, mr := s.mr, id := s.id, ud := s.ud, h := Hd.mk s.h.k 0 0 0 0 0 0 0 0 0 0 0 0 0 0, ck := s.ck, pl := s.pl } ∧ (s.h.k = 1 ∨ s.h.k = 2) ∧ (0 ≤ s.ud ∧ s.ud ≤ 65535) ∧ lowbR s = true ∧ fitR (cbR s.f) s.ck = true := by
  obtain ⟨h1, h2, h3⟩ := s.of h
  rcases h3 with ⟨h3, h4, h5, h6, h7⟩ | ⟨h3, -⟩ | ⟨h3, -⟩
  · refine ⟨?_, h5, ?_, h4, h2⟩
    · unfold hzR at h6
      unfold dzR at h7
      simp only [decide_eq_true_eq] at h6 h7
      obtain ⟨cx, f, n, tm, mr, id, ud, ⟨k, tos, hid, fx, ttl, fr, to, fp, tp, hck, hmr, ty, sq, htm, sr⟩, ⟨st, fo⟩, ck, pl⟩ := s
      simp only at h6 h7
      obtain ⟨-, rfl, rfl, rfl, rfl, rfl, rfl, rfl, rfl, rfl, rfl, rfl, rfl, rfl, rfl⟩ := h6
      obtain ⟨rfl, rfl⟩ := h7
      rfl
    · unfold lowbR at h4
      simp only [Bool.and_eq_true] at h4
      have := (fitN 16 s.ud).1 h4.2.2.2.2
      omega
  · omega
  · omega
theorem wid1 (k : Int) : wid 1 k 0 = 4 ∧ wid 1 k 1 = 0 ∧ wid 1 k 2 = 0 ∧ wid 1 k 3 = 0 := ⟨rfl, rfl, rfl, rfl⟩
theorem low1 (s : Sm) (hf : s.f = 1) (h : lowbR s = true) (hc : fitR (cbR s.f) s.ck = true) : (0 ≤ s.n ∧ s.n ≤ 15) ∧ s.tm = 0 ∧ s.mr = 0 ∧ s.id = 0 ∧ 0 ≤ s.ck ∧ s.ck ≤ 7 := by
  unfold lowbR at h
  rw [hf] at h hc
  simp only [Bool.and_eq_true] at h
  have a := (fitN 4 s.n).1 h.1
  have b := (fitN 0 s.tm).1 h.2.1
  have c := (fitN 0 s.mr).1 h.2.2.1
  have d := (fitN 0 s.id).1 h.2.2.2.1
  have e := (fitN 3 s.ck).1 hc
  omega
theorem low2T (s : Sm) (hf : s.f = 2) (hk : s.h.k = 2) (h : lowbR s = true) (hc : fitR (cbR s.f) s.ck = true) : (0 ≤ s.n ∧ s.n ≤ 31) ∧ (0 ≤ s.tm ∧ s.tm ≤ 65535) ∧ (0 ≤ s.mr ∧ s.mr ≤ 1) ∧ s.id = 0 ∧ 0 ≤ s.ck ∧ s.ck ≤ 127 := by
  unfold lowbR at h
  rw [hf, hk] at h
  rw [hf] at hc
  simp only [Bool.and_eq_true] at h
  have a := (fitN 5 s.n).1 h.1
  have b := (fitN 16 s.tm).1 h.2.1
  have c := (fitN 1 s.mr).1 h.2.2.1
  have d := (fitN 0 s.id).1 h.2.2.2.1
  have e := (fitN 7 s.ck).1 hc
  omega
theorem low2U (s : Sm) (hf : s.f = 2) (hk : s.h.k = 1) (h : lowbR s = true) (hc : fitR (cbR s.f) s.ck = true) : (0 ≤ s.n ∧ s.n ≤ 31) ∧ s.tm = 0 ∧ s.mr = 0 ∧ s.id = 0 ∧ 0 ≤ s.ck ∧ s.ck ≤ 127 := by
  unfold lowbR at h
  rw [hf, hk] at h
  rw [hf] at hc
  simp only [Bool.and_eq_true] at h
  have a := (fitN 5 s.n).1 h.1
  have b := (fitN 0 s.tm).1 h.2.1
  have c := (fitN 0 s.mr).1 h.2.2.1
  have d := (fitN 0 s.id).1 h.2.2.2.1
  have e := (fitN 7 s.ck).1 hc
  omega
theorem low3T (s : Sm) (hf : s.f = 3) (hk : s.h.k = 2) (h : lowbR s = true) (hc : fitR (cbR s.f) s.ck = true) : (0 ≤ s.n ∧ s.n ≤ 255) ∧ (0 ≤ s.tm ∧ s.tm ≤ 4294967295) ∧ (0 ≤ s.mr ∧ s.mr ≤ 1) ∧ (0 ≤ s.id ∧ s.id ≤ 65535) ∧ 0 ≤ s.ck ∧ s.ck ≤ 255 := by
  unfold lowbR at h
  rw [hf, hk] at h
  rw [hf] at hc
  simp only [Bool.and_eq_true] at h
  have a := (fitN 8 s.n).1 h.1
  have b := (fitN 32 s.tm).1 h.2.1
  have c := (fitN 1 s.mr).1 h.2.2.1
  have d := (fitN 16 s.id).1 h.2.2.2.1
  have e := (fitN 8 s.ck).1 hc
  omega
theorem low3U (s : Sm) (hf : s.f = 3) (hk : s.h.k = 1) (h : lowbR s = true) (hc : fitR (cbR s.f) s.ck = true) : (0 ≤ s.n ∧ s.n ≤ 65535) ∧ s.tm = 0 ∧ s.mr = 0 ∧ s.id = 0 ∧ 0 ≤ s.ck ∧ s.ck ≤ 255 := by
  unfold lowbR at h
  rw [hf, hk] at h
  rw [hf] at hc
  simp only [Bool.and_eq_true] at h
  have a := (fitN 16 s.n).1 h.1
  have b := (fitN 0 s.tm).1 h.2.1
  have c := (fitN 0 s.mr).1 h.2.2.1
  have d := (fitN 0 s.id).1 h.2.2.2.1
  have e := (fitN 8 s.ck).1 hc
  omega
/-- The bytes of the body, one format and kind each. -/
theorem bL1 (s : Sm) (h : s.f = 1) : bodyL s = [b8 (8 * s.n + s.ck)] := by unfold bodyL; rw [if_pos h]
theorem bL2T (s : Sm) (h : s.f = 2) (hk : s.h.k = 2) : bodyL s = b8 (32 * (4 + s.mr) + s.n) :: (putB s.tm 2 ++ [b8 s.ck]) := by unfold bodyL; rw [if_neg (by omega), if_pos h, if_pos hk]; rfl
theorem bL2U (s : Sm) (h : s.f = 2) (hk : s.h.k = 1) : bodyL s = b8 (32 * (4 + s.mr) + s.n) :: [b8 s.ck] := by unfold bodyL; rw [if_neg (by omega), if_pos h, if_neg (by omega)]; rfl
theorem bL3T (s : Sm) (h : s.f = 3) (hk : s.h.k = 2) : bodyL s = b8 (192 + s.mr) :: b8 s.n :: (putB s.tm 4 ++ (putB s.id 2 ++ [b8 s.ck])) := by unfold bodyL; rw [if_neg (by omega), if_neg (by omega), if_pos h, if_pos hk, if_pos hk]; simp
theorem bL3U (s : Sm) (h : s.f = 3) (hk : s.h.k = 1) : bodyL s = b8 (192 + s.mr) :: (putB s.n 2 ++ [b8 s.ck]) := by unfold bodyL; rw [if_neg (by omega), if_neg (by omega), if_pos h, if_neg (by omega), if_neg (by omega)]; simp
theorem bL4 (s : Sm) (h : s.f = 4) : bodyL s = b8 208 :: (dynL s.h s.d ++ [b8 s.ck]) := by unfold bodyL; rw [if_neg (by omega), if_neg (by omega), if_neg (by omega), if_pos h]; rfl
theorem bL5 (s : Sm) (h : s.f = 5) : bodyL s = b8 209 :: (statL s.h ++ (dynL s.h s.d ++ [b8 s.ck])) := by unfold bodyL; rw [if_neg (by omega), if_neg (by omega), if_neg (by omega), if_neg (by omega), if_pos h]; rfl
theorem bL6 (s : Sm) (h : s.f = 6) : bodyL s = [b8 210] := by unfold bodyL; rw [if_neg (by omega), if_neg (by omega), if_neg (by omega), if_neg (by omega), if_neg (by omega)]
end Go.Proofs.Ytnlpjbedkdhlbaa
