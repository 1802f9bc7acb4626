import Derived.Test.YtnlpjbedkdhlbaaFmt26
namespace Go.Proofs.Ytnlpjbedkdhlbaa
open Go.RowKit
set_option linter.all false
theorem rd_le {a l : List UInt8} (h : (a ++ l).length ≤ 140737488355328) : l.length ≤ 140737488355328 := by simp at h; omega
theorem rd_le1 {c : UInt8} {l : List UInt8} (h : (c :: l).length ≤ 140737488355328) : l.length ≤ 140737488355328 := by simp at h; omega
theorem key1 {L T : List UInt8} {c : UInt8} (h1 : L.length ≤ 140737488355328) (hL : L = c :: T) : ∃ hh, rtk 1 (rdr L h1) = rdr T hh ∧ rv 1 (rdr L h1) = (c.toNat : Int) := by
  subst hL; exact ⟨rd_le1 h1, rdr1 _ _ _, rv1 _ _ _⟩
theorem key2 {L T : List UInt8} {v : Int} (h1 : L.length ≤ 140737488355328) (hL : L = putB v 2 ++ T) : ∃ hh, rtk 2 (rdr L h1) = rdr T hh ∧ rv 2 (rdr L h1) = v % 65536 := by
  subst hL; exact ⟨rd_le h1, rdr2 _ _ _, rv2 _ _ _⟩
theorem key4 {L T : List UInt8} {v : Int} (h1 : L.length ≤ 140737488355328) (hL : L = putB v 4 ++ T) : ∃ hh, rtk 4 (rdr L h1) = rdr T hh ∧ rv 4 (rdr L h1) = v % 4294967296 := by
  subst hL; exact ⟨rd_le h1, rdr4 _ _ _, rv4 _ _ _⟩
theorem ret1 (s : Sm) (h : s.ok = true) (hf : s.f = 1) (b : List UInt8) (hbb : b = hdL s ++ s.pl) (hh : (bodyL s ++ (sumL s ++ s.pl)).length ≤ 140737488355328) : smallR (decide (s.ud ≠ 0)) (lwX1 (rdr (bodyL s ++ (sumL s ++ s.pl)) hh)) (lw1 (rdr (bodyL s ++ (sumL s ++ s.pl)) hh) s.h.k (s0 s.cx 1)) b = .inl s := by
  subst hbb
  obtain ⟨e, hk2, hu, hl, hc⟩ := s.low h (by omega)
  have a := low1 s hf hl hc
  obtain ⟨g0, x0, v0⟩ := key1 (c := b8 (8 * s.n + s.ck)) (T := (sumL s ++ s.pl)) hh (by rw [bL1 s hf]; simp)
  have ex : lwX1 (rdr (bodyL s ++ (sumL s ++ s.pl)) hh) = rdr (sumL s ++ s.pl) g0 := by simp only [lwX1, x0]
  have c0 : ((b8 (8 * s.n + s.ck)).toNat : Int) = 8 * s.n + s.ck := b8_v (by omega)
  have f1 : shR ((b8 (8 * s.n + s.ck)).toNat : Int) 3 = s.n := by rw [sh3 _ (b8 _).toNat_lt]; omega
  have f2 : andR ((b8 (8 * s.n + s.ck)).toNat : Int) 7 = s.ck := by rw [an7 _ (b8 _).toNat_lt]; omega
  have es : lw1 (rdr (bodyL s ++ (sumL s ++ s.pl)) hh) s.h.k (s0 s.cx 1) = { s0 s.cx 1 with n := s.n, ck := s.ck, h := Hd.mk s.h.k 0 0 0 0 0 0 0 0 0 0 0 0 0 0 } := by
    simp only [lw1, v0, f1, f2]
  rw [ex, es]
  refine small_ret s _ h (by omega) _ rfl ?_
  have e2 := e.symm
  rw [hf, a.2.1, a.2.2.1, a.2.2.2.1] at e2
  exact e2
theorem ret2T (s : Sm) (h : s.ok = true) (hf : s.f = 2) (hk : s.h.k = 2) (b : List UInt8) (hbb : b = hdL s ++ s.pl) (hh : (bodyL s ++ (sumL s ++ s.pl)).length ≤ 140737488355328) : smallR (decide (s.ud ≠ 0)) (lwX2T (rdr (bodyL s ++ (sumL s ++ s.pl)) hh)) (lw2T (rdr (bodyL s ++ (sumL s ++ s.pl)) hh) s.h.k (s0 s.cx 2)) b = .inl s := by
  subst hbb
  obtain ⟨e, hk2, hu, hl, hc⟩ := s.low h (by omega)
  have a := low2T s hf hk hl hc
  obtain ⟨g0, x0, v0⟩ := key1 (c := b8 (32 * (4 + s.mr) + s.n)) (T := (putB (s.tm) 2 ++ (b8 (s.ck) :: (sumL s ++ s.pl)))) hh (by rw [bL2T s hf hk]; simp)
  obtain ⟨g1, x1, v1⟩ := key2 (v := s.tm) (T := (b8 (s.ck) :: (sumL s ++ s.pl))) g0 rfl
  obtain ⟨g2, x2, v2⟩ := key1 (c := b8 (s.ck)) (T := (sumL s ++ s.pl)) g1 rfl
  have ex : lwX2T (rdr (bodyL s ++ (sumL s ++ s.pl)) hh) = rdr (sumL s ++ s.pl) g2 := by simp only [lwX2T, x0, x1, x2]
  have c0 : ((b8 (32 * (4 + s.mr) + s.n)).toNat : Int) = 32 * (4 + s.mr) + s.n := b8_v (by omega)
  have f1 : bitR ((b8 (32 * (4 + s.mr) + s.n)).toNat : Int) 5 = s.mr := by rw [bi5 _ (b8 _).toNat_lt]; omega
  have f2 : andR ((b8 (32 * (4 + s.mr) + s.n)).toNat : Int) 31 = s.n := by rw [an31 _ (b8 _).toNat_lt]; omega
  have f3 : s.tm % 65536 = s.tm := by omega
  have f4 : ((b8 s.ck).toNat : Int) = s.ck := b8_v (by omega)
  have es : lw2T (rdr (bodyL s ++ (sumL s ++ s.pl)) hh) s.h.k (s0 s.cx 2) = { s0 s.cx 2 with n := s.n, tm := s.tm, mr := s.mr, ck := s.ck, h := Hd.mk s.h.k 0 0 0 0 0 0 0 0 0 0 0 0 0 0 } := by
    simp only [lw2T, x0, x1, v0, v1, v2, f1, f2, f3, f4]
  rw [ex, es]
  refine small_ret s _ h (by omega) _ rfl ?_
  have e2 := e.symm
  rw [hf, a.2.2.2.1] at e2
  exact e2
theorem ret2U (s : Sm) (h : s.ok = true) (hf : s.f = 2) (hk : s.h.k = 1) (b : List UInt8) (hbb : b = hdL s ++ s.pl) (hh : (bodyL s ++ (sumL s ++ s.pl)).length ≤ 140737488355328) : smallR (decide (s.ud ≠ 0)) (lwX2U (rdr (bodyL s ++ (sumL s ++ s.pl)) hh)) (lw2U (rdr (bodyL s ++ (sumL s ++ s.pl)) hh) s.h.k (s0 s.cx 2)) b = .inl s := by
  subst hbb
  obtain ⟨e, hk2, hu, hl, hc⟩ := s.low h (by omega)
  have a := low2U s hf hk hl hc
  obtain ⟨g0, x0, v0⟩ := key1 (c := b8 (32 * (4 + s.mr) + s.n)) (T := (b8 (s.ck) :: (sumL s ++ s.pl))) hh (by rw [bL2U s hf hk]; simp)
  obtain ⟨g1, x1, v1⟩ := key1 (c := b8 (s.ck)) (T := (sumL s ++ s.pl)) g0 rfl
  have ex : lwX2U (rdr (bodyL s ++ (sumL s ++ s.pl)) hh) = rdr (sumL s ++ s.pl) g1 := by simp only [lwX2U, x0, x1]
  have c0 : ((b8 (32 * (4 + s.mr) + s.n)).toNat : Int) = 32 * (4 + s.mr) + s.n := b8_v (by omega)
  have f1 : bitR ((b8 (32 * (4 + s.mr) + s.n)).toNat : Int) 5 = s.mr := by rw [bi5 _ (b8 _).toNat_lt]; omega
  have f2 : andR ((b8 (32 * (4 + s.mr) + s.n)).toNat : Int) 31 = s.n := by rw [an31 _ (b8 _).toNat_lt]; omega
  have f4 : ((b8 s.ck).toNat : Int) = s.ck := b8_v (by omega)
  have es : lw2U (rdr (bodyL s ++ (sumL s ++ s.pl)) hh) s.h.k (s0 s.cx 2) = { s0 s.cx 2 with n := s.n, mr := s.mr, ck := s.ck, h := Hd.mk s.h.k 0 0 0 0 0 0 0 0 0 0 0 0 0 0 } := by
    simp only [lw2U, x0, v0, v1, f1, f2, f4]
  rw [ex, es]
  refine small_ret s _ h (by omega) _ rfl ?_
  have e2 := e.symm
  rw [hf, a.2.1, a.2.2.2.1] at e2
  exact e2
theorem ret3T (s : Sm) (h : s.ok = true) (hf : s.f = 3) (hk : s.h.k = 2) (b : List UInt8) (hbb : b = hdL s ++ s.pl) (hh : (bodyL s ++ (sumL s ++ s.pl)).length ≤ 140737488355328) : smallR (decide (s.ud ≠ 0)) (lwX3T (rdr (bodyL s ++ (sumL s ++ s.pl)) hh)) (lw3T (rdr (bodyL s ++ (sumL s ++ s.pl)) hh) s.h.k (s0 s.cx 3)) b = .inl s := by
  subst hbb
  obtain ⟨e, hk2, hu, hl, hc⟩ := s.low h (by omega)
  have a := low3T s hf hk hl hc
  obtain ⟨g0, x0, v0⟩ := key1 (c := b8 (192 + s.mr)) (T := (b8 (s.n) :: (putB (s.tm) 4 ++ (putB (s.id) 2 ++ (b8 (s.ck) :: (sumL s ++ s.pl)))))) hh (by rw [bL3T s hf hk]; simp)
  obtain ⟨g1, x1, v1⟩ := key1 (c := b8 (s.n)) (T := (putB (s.tm) 4 ++ (putB (s.id) 2 ++ (b8 (s.ck) :: (sumL s ++ s.pl))))) g0 rfl
  obtain ⟨g2, x2, v2⟩ := key4 (v := s.tm) (T := (putB (s.id) 2 ++ (b8 (s.ck) :: (sumL s ++ s.pl)))) g1 rfl
  obtain ⟨g3, x3, v3⟩ := key2 (v := s.id) (T := (b8 (s.ck) :: (sumL s ++ s.pl))) g2 rfl
  obtain ⟨g4, x4, v4⟩ := key1 (c := b8 (s.ck)) (T := (sumL s ++ s.pl)) g3 rfl
  have ex : lwX3T (rdr (bodyL s ++ (sumL s ++ s.pl)) hh) = rdr (sumL s ++ s.pl) g4 := by simp only [lwX3T, x0, x1, x2, x3, x4]
  have c0 : ((b8 (192 + s.mr)).toNat : Int) = 192 + s.mr := b8_v (by omega)
  have f1 : andR ((b8 (192 + s.mr)).toNat : Int) 1 = s.mr := by rw [an1 _ (b8 _).toNat_lt]; omega
  have f2 : ((b8 s.n).toNat : Int) = s.n := b8_v (by omega)
  have f3 : s.tm % 4294967296 = s.tm := by omega
  have f5 : s.id % 65536 = s.id := by omega
  have f4 : ((b8 s.ck).toNat : Int) = s.ck := b8_v (by omega)
  have es : lw3T (rdr (bodyL s ++ (sumL s ++ s.pl)) hh) s.h.k (s0 s.cx 3) = { s0 s.cx 3 with n := s.n, tm := s.tm, mr := s.mr, id := s.id, ck := s.ck, h := Hd.mk s.h.k 0 0 0 0 0 0 0 0 0 0 0 0 0 0 } := by
    simp only [lw3T, x0, x1, x2, x3, v0, v1, v2, v3, v4, f1, f2, f3, f4, f5]
  rw [ex, es]
  refine small_ret s _ h (by omega) _ rfl ?_
  have e2 := e.symm
  rw [hf] at e2
  exact e2
theorem ret3U (s : Sm) (h : s.ok = true) (hf : s.f = 3) (hk : s.h.k = 1) (b : List UInt8) (hbb : b = hdL s ++ s.pl) (hh : (bodyL s ++ (sumL s ++ s.pl)).length ≤ 140737488355328) : smallR (decide (s.ud ≠ 0)) (lwX3U (rdr (bodyL s ++ (sumL s ++ s.pl)) hh)) (lw3U (rdr (bodyL s ++ (sumL s ++ s.pl)) hh) s.h.k (s0 s.cx 3)) b = .inl s := by
  subst hbb
  obtain ⟨e, hk2, hu, hl, hc⟩ := s.low h (by omega)
  have a := low3U s hf hk hl hc
  obtain ⟨g0, x0, v0⟩ := key1 (c := b8 (192 + s.mr)) (T := (putB (s.n) 2 ++ (b8 (s.ck) :: (sumL s ++ s.pl)))) hh (by rw [bL3U s hf hk]; simp)
  obtain ⟨g1, x1, v1⟩ := key2 (v := s.n) (T := (b8 (s.ck) :: (sumL s ++ s.pl))) g0 rfl
  obtain ⟨g2, x2, v2⟩ := key1 (c := b8 (s.ck)) (T := (sumL s ++ s.pl)) g1 rfl
  have ex : lwX3U (rdr (bodyL s ++ (sumL s ++ s.pl)) hh) = rdr (sumL s ++ s.pl) g2 := by simp only [lwX3U, x0, x1, x2]
  have c0 : ((b8 (192 + s.mr)).toNat : Int) = 192 + s.mr := b8_v (by omega)
  have f1 : andR ((b8 (192 + s.mr)).toNat : Int) 1 = s.mr := by rw [an1 _ (b8 _).toNat_lt]; omega
  have f3 : s.n % 65536 = s.n := by omega
  have f4 : ((b8 s.ck).toNat : Int) = s.ck := b8_v (by omega)
  have es : lw3U (rdr (bodyL s ++ (sumL s ++ s.pl)) hh) s.h.k (s0 s.cx 3) = { s0 s.cx 3 with n := s.n, mr := s.mr, ck := s.ck, h := Hd.mk s.h.k 0 0 0 0 0 0 0 0 0 0 0 0 0 0 } := by
    simp only [lw3U, x0, x1, v0, v1, v2, f1, f3, f4]
  rw [ex, es]
  refine small_ret s _ h (by omega) _ rfl ?_
  have e2 := e.symm
  rw [hf, a.2.1, a.2.2.2.1] at e2
  exact e2
end Go.Proofs.Ytnlpjbedkdhlbaa
