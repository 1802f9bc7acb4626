import Derived.Test.YtnlpjbedkdhlbaaFmt27
namespace Go.Proofs.Ytnlpjbedkdhlbaa
open Go.RowKit
set_option linter.all false
theorem udp0 (h : Hd) (k : h.ok = true) (hk : h.k = 1) : h.mr = 0 ∧ h.ty = 0 ∧ h.sq = 0 ∧ h.tm = 0 ∧ h.sr = 0 := by
  unfold Hd.ok at k
  rw [if_pos hk] at k
  simp only [Bool.and_eq_true, udpR, decide_eq_true_eq] at k
  exact k.2
theorem some_ck (c : Int) (h : 0 ≤ c) : someM c = if c = 0 then 0 else 1 := by
  unfold someM
  split <;> split <;> omega
/-- The flags. -/
theorem flagsR (fx sm fo mr : Int) (h1 : fx = 0 ∨ fx = 1) (h2 : sm = 0 ∨ sm = 1) (h3 : fo = 0 ∨ fo = 1) (h4 : mr = 0 ∨ mr = 1) :
    bitR ((b8 (128 * fx + 64 * sm + 32 * fo + 16 * mr)).toNat : Int) 7 = fx ∧ bitR ((b8 (128 * fx + 64 * sm + 32 * fo + 16 * mr)).toNat : Int) 6 = sm ∧ bitR ((b8 (128 * fx + 64 * sm + 32 * fo + 16 * mr)).toNat : Int) 5 = fo ∧ bitR ((b8 (128 * fx + 64 * sm + 32 * fo + 16 * mr)).toNat : Int) 4 = mr := by
  have e := b8_v (v := 128 * fx + 64 * sm + 32 * fo + 16 * mr) (by omega)
  rw [bi7 _ (b8 _).toNat_lt, bi6 _ (b8 _).toNat_lt, bi5 _ (b8 _).toNat_lt, bi4 _ (b8 _).toNat_lt]
  omega
theorem dynT_ret (s' : Sm) (h : Hd) (d : Dy) (Z L : List UInt8) (hk : h.k = 2) (ho : h.ok = true) (hd : d.ok = true) (hL : L = dynL h d ++ Z) (hh : L.length ≤ 140737488355328) :
    ∃ hz, dynTX (rdr L hh) = rdr Z hz ∧ dynT (rdr L hh) s' = { s' with h := { s'.h with tos := h.tos, ttl := h.ttl, fx := h.fx, mr := h.mr, ty := h.ty, sq := h.sq, id := h.id, tm := h.tm }, d := d } ∧ bitR (dynF (rdr L hh)) 6 = someM h.ck := by
  have a := h.of ho
  have b := d.of hd
  have c := some01 h.ck (by omega)
  have f := flagsR h.fx (someM h.ck) d.fo h.mr (by omega) c b.2 (by omega)
  have e : L = b8 h.tos :: b8 h.ttl :: b8 (128 * h.fx + 64 * someM h.ck + 32 * d.fo + 16 * h.mr) :: b8 h.ty :: (putB h.sq 2 ++ (putB h.id 2 ++ (putB h.tm 4 ++ (putB d.st 2 ++ Z)))) := by
    rw [hL]; unfold dynL; rw [if_pos hk]; simp
  obtain ⟨g0, x0, v0⟩ := key1 hh e
  obtain ⟨g1, x1, v1⟩ := key1 g0 rfl
  obtain ⟨g2, x2, v2⟩ := key1 g1 rfl
  obtain ⟨g3, x3, v3⟩ := key1 g2 rfl
  obtain ⟨g4, x4, v4⟩ := key2 g3 rfl
  obtain ⟨g5, x5, v5⟩ := key2 g4 rfl
  obtain ⟨g6, x6, v6⟩ := key4 g5 rfl
  obtain ⟨g7, x7, v7⟩ := key2 g6 rfl
  have c0 : ((b8 h.tos).toNat : Int) = h.tos := b8_v (by omega)
  have c1 : ((b8 h.ttl).toNat : Int) = h.ttl := b8_v (by omega)
  have c3 : ((b8 h.ty).toNat : Int) = h.ty := b8_v (by omega)
  have c4 : h.sq % 65536 = h.sq := by omega
  have c5 : h.id % 65536 = h.id := by omega
  have c6 : h.tm % 4294967296 = h.tm := by omega
  have c7 : d.st % 65536 = d.st := by omega
  refine ⟨g7, ?_, ?_, ?_⟩
  · simp only [dynTX, dynY, x0, x1, x2, x3, x4, x5, x6, x7]
  · simp only [dynT, dynF, dynY, x0, x1, x2, x3, x4, x5, x6, v0, v1, v2, v3, v4, v5, v6, v7, c0, c1, c3, c4, c5, c6, c7, f.1, f.2.2.1, f.2.2.2]
  · simp only [dynF, x0, x1, v2, f.2.1]
theorem dynU_ret (s' : Sm) (h : Hd) (d : Dy) (Z L : List UInt8) (hk : h.k = 1) (ho : h.ok = true) (hd : d.ok = true) (hL : L = dynL h d ++ Z) (hh : L.length ≤ 140737488355328) :
    ∃ hz, dynUX (rdr L hh) = rdr Z hz ∧ dynU (rdr L hh) s' = { s' with h := { s'.h with tos := h.tos, ttl := h.ttl, fx := h.fx, mr := h.mr, id := h.id }, d := { s'.d with fo := d.fo } } ∧ bitR (dynF (rdr L hh)) 6 = someM h.ck := by
  have a := h.of ho
  have b := d.of hd
  have c := some01 h.ck (by omega)
  have f := flagsR h.fx (someM h.ck) d.fo h.mr (by omega) c b.2 (by omega)
  have e : L = b8 h.tos :: b8 h.ttl :: b8 (128 * h.fx + 64 * someM h.ck + 32 * d.fo + 16 * h.mr) :: (putB h.id 2 ++ Z) := by
    rw [hL]; unfold dynL; rw [if_neg (by omega)]; simp
  obtain ⟨g0, x0, v0⟩ := key1 hh e
  obtain ⟨g1, x1, v1⟩ := key1 g0 rfl
  obtain ⟨g2, x2, v2⟩ := key1 g1 rfl
  obtain ⟨g3, x3, v3⟩ := key2 g2 rfl
  have c0 : ((b8 h.tos).toNat : Int) = h.tos := b8_v (by omega)
  have c1 : ((b8 h.ttl).toNat : Int) = h.ttl := b8_v (by omega)
  have c5 : h.id % 65536 = h.id := by omega
  refine ⟨g3, ?_, ?_, ?_⟩
  · simp only [dynUX, dynY, x0, x1, x2, x3]
  · simp only [dynU, dynF, dynY, x0, x1, x2, v0, v1, v2, v3, c0, c1, c5, f.1, f.2.2.1, f.2.2.2]
  · simp only [dynF, x0, x1, v2, f.2.1]
/-- The end of the formats with a whole header. -/
theorem big_ret (s s' : Sm) (h : s.ok = true) (hf : s.f = 4 ∨ s.f = 5) (fl : Int) (hfl : bitR fl 6 = someM s.h.ck) (L : List UInt8) (hL : L = b8 s.ck :: (sumL s ++ s.pl)) (hh : L.length ≤ 140737488355328) (hck : fitR (cbR s.f) s.ck = true) (hc0 : s'.h.ck = 0) (hs : { s' with h := { s'.h with ck := s.h.ck }, ck := s.ck, pl := s.pl } = s) : bigR (rdr L hh) s' fl (hdL s ++ s.pl) = .inl s := by
  have hr := sum_rng s h
  have e1 : sumR s = s.h.ck := by rw [sum_eq, if_pos hf]
  have e8 : cbR s.f = (8 : Nat) := by rcases hf with e | e <;> rw [e] <;> rfl
  rw [e8] at hck
  have hck := (fitN 8 _).1 hck
  have cv : ((b8 s.ck).toNat : Int) = s.ck := b8_v (by omega)
  obtain ⟨g0, x0, v0⟩ := key1 hh hL
  have sm := some_ck s.h.ck (by omega)
  by_cases h0 : s.h.ck = 0
  · rw [if_pos h0] at sm
    rw [big_f (by omega), x0, v0, cv]
    have e2 : sumL s = [] := if_pos (by rw [e1, h0])
    have key : ∀ (M : List UInt8) (h1 : (M ++ s.pl).length ≤ 140737488355328), M = [] → finR (rdr (M ++ s.pl) h1) (wck s' s.ck) (hdL s ++ s.pl) = .inl s := by
      intro M h1 e; subst e
      exact fin_ret s _ h h1 ((show ({ wck s' s.ck with pl := s.pl } : Sm) = { s' with h := { s'.h with ck := s.h.ck }, ck := s.ck, pl := s.pl } from by rw [h0, ← hc0]).trans hs)
    exact key _ g0 e2
  · rw [if_neg h0] at sm
    rw [big_t (by omega), x0, v0, cv]
    have e2 : sumL s = putB s.h.ck 2 := by unfold sumL; rw [e1, if_neg h0]
    obtain ⟨g1, x1, v1⟩ := key2 (L := sumL s ++ s.pl) (v := s.h.ck) (T := s.pl) g0 (by rw [e2])
    rw [x1, v1, show s.h.ck % 65536 = s.h.ck by omega]
    exact fin_ret s _ h g1 hs
theorem Sm.big (s : Sm) (h : s.ok = true) (hf : s.f = 4 ∨ s.f = 5) : (s.n = 0 ∧ s.tm = 0 ∧ s.mr = 0 ∧ s.id = 0 ∧ s.ud = 0) ∧ s.h.ok = true ∧ s.d.ok = true ∧ (s.h.k = 1 → s.d.st = 0 ∧ s.d.fo = 0) ∧ (s.f = 5 ∨ s.h.fr = 0 ∧ s.h.to = 0 ∧ s.h.fp = 0 ∧ s.h.tp = 0 ∧ s.h.sr = 0) ∧ fitR (cbR s.f) s.ck = true := by
  obtain ⟨h1, h2, h3⟩ := s.of h
  rcases h3 with ⟨h3, -⟩ | ⟨h3, h4, h5⟩ | ⟨h3, -⟩
  · omega
  · unfold noneR at h4
    unfold wholeR szR dzR at h5
    simp only [Bool.and_eq_true, decide_eq_true_eq, Bool.or_eq_true, Bool.not_eq_true', Bool.and_eq_false_iff, decide_eq_false_iff_not, Bool.not_eq_false', Decidable.not_not] at h4 h5
    refine ⟨h4, h5.1, h5.2.1, fun hk => ?_, h5.2.2.2, h2⟩
    rcases h5.2.2.1 with e | e
    · exact absurd hk e
    · exact e
  · omega
end Go.Proofs.Ytnlpjbedkdhlbaa
