import Derived.Test.YtnlpjbedkdhlbaaFmt28
namespace Go.Proofs.Ytnlpjbedkdhlbaa
open Go.RowKit
set_option linter.all false
theorem statT_ret (s' : Sm) (h : Hd) (Z L : List UInt8) (hk : h.k = 2) (ho : h.ok = true) (hL : L = statL h ++ Z) (hh : L.length ≤ 140737488355328) :
    ∃ hz, rtk 4 (stX (rdr L hh)) = rdr Z hz ∧ stT (rdr L hh) s' = { s' with h := { s'.h with k := h.k, fr := h.fr, to := h.to, fp := h.fp, tp := h.tp, sr := h.sr } } ∧ rE (rtk 1 (rdr L hh)) = false ∧ rv 1 (rdr L hh) = 2 := by
  have a := h.of ho
  have e : L = b8 h.k :: (putB h.fr 4 ++ (putB h.to 4 ++ (putB h.fp 2 ++ (putB h.tp 2 ++ (putB h.sr 4 ++ Z))))) := by
    rw [hL]; unfold statL; rw [if_pos hk]; simp
  obtain ⟨g0, x0, v0⟩ := key1 hh e
  obtain ⟨g1, x1, v1⟩ := key4 g0 rfl
  obtain ⟨g2, x2, v2⟩ := key4 g1 rfl
  obtain ⟨g3, x3, v3⟩ := key2 g2 rfl
  obtain ⟨g4, x4, v4⟩ := key2 g3 rfl
  obtain ⟨g5, x5, v5⟩ := key4 g4 rfl
  have c0 : ((b8 h.k).toNat : Int) = h.k := b8_v (by omega)
  have c1 : h.fr % 4294967296 = h.fr := by omega
  have c2 : h.to % 4294967296 = h.to := by omega
  have c3 : h.fp % 65536 = h.fp := by omega
  have c4 : h.tp % 65536 = h.tp := by omega
  have c5 : h.sr % 4294967296 = h.sr := by omega
  refine ⟨g5, ?_, ?_, ?_, ?_⟩
  · simp only [stX, x0, x1, x2, x3, x4, x5]
  · simp only [stT, stH, stX, x0, x1, x2, x3, x4, v0, v1, v2, v3, v4, v5, c0, c1, c2, c3, c4, c5]
  · rw [x0]; exact rE_rdr _ _
  · rw [v0, c0, hk]
theorem statU_ret (s' : Sm) (h : Hd) (Z L : List UInt8) (hk : h.k = 1) (ho : h.ok = true) (hL : L = statL h ++ Z) (hh : L.length ≤ 140737488355328) :
    ∃ hz, stX (rdr L hh) = rdr Z hz ∧ stH (rdr L hh) s' = { s' with h := { s'.h with k := h.k, fr := h.fr, to := h.to, fp := h.fp, tp := h.tp } } ∧ rE (rtk 1 (rdr L hh)) = false ∧ rv 1 (rdr L hh) = 1 := by
  have a := h.of ho
  have e : L = b8 h.k :: (putB h.fr 4 ++ (putB h.to 4 ++ (putB h.fp 2 ++ (putB h.tp 2 ++ Z)))) := by
    rw [hL]; unfold statL; rw [if_neg (by omega)]; simp
  obtain ⟨g0, x0, v0⟩ := key1 hh e
  obtain ⟨g1, x1, v1⟩ := key4 g0 rfl
  obtain ⟨g2, x2, v2⟩ := key4 g1 rfl
  obtain ⟨g3, x3, v3⟩ := key2 g2 rfl
  obtain ⟨g4, x4, v4⟩ := key2 g3 rfl
  have c0 : ((b8 h.k).toNat : Int) = h.k := b8_v (by omega)
  have c1 : h.fr % 4294967296 = h.fr := by omega
  have c2 : h.to % 4294967296 = h.to := by omega
  have c3 : h.fp % 65536 = h.fp := by omega
  have c4 : h.tp % 65536 = h.tp := by omega
  refine ⟨g4, ?_, ?_, ?_, ?_⟩
  · simp only [stX, x0, x1, x2, x3, x4]
  · simp only [stH, x0, x1, x2, x3, v0, v1, v2, v3, v4, c0, c1, c2, c3, c4]
  · rw [x0]; exact rE_rdr _ _
  · rw [v0, c0, hk]
theorem ret4T (s : Sm) (h : s.ok = true) (hf : s.f = 4) (hk : s.h.k = 2) (hh : (bodyL s ++ (sumL s ++ s.pl)).length ≤ 140737488355328) (X : Rdr) (hX : X = rdr (bodyL s ++ (sumL s ++ s.pl)) hh) :
    bigR (dynTX (rtk 1 X)) (dynT (rtk 1 X) (hdk (s0 s.cx 4) 2)) (dynF (rtk 1 X)) (hdL s ++ s.pl) = .inl s := by
  subst hX
  obtain ⟨hn, ho, hd, -, hz, hc⟩ := s.big h (.inl hf)
  obtain ⟨g0, x0, -⟩ := key1 (c := b8 208) (T := dynL s.h s.d ++ (b8 s.ck :: (sumL s ++ s.pl))) hh (by rw [bL4 s hf]; simp)
  rw [x0]
  obtain ⟨g1, x1, x2, x3⟩ := dynT_ret (hdk (s0 s.cx 4) 2) s.h s.d _ _ hk ho hd rfl g0
  rw [x1, x2]
  refine big_ret s _ h (.inl hf) _ x3 _ rfl g1 hc rfl ?_
  obtain ⟨cx, f, n, tm, mr, id, ud, ⟨k, tos, hid, fx, ttl, fr, to, fp, tp, hck, hmr, ty, sq, htm, sr⟩, ⟨st, fo⟩, ck, pl⟩ := s
  simp only at hf hk hn hz
  obtain ⟨rfl, rfl, rfl, rfl, rfl⟩ := hn
  obtain ⟨rfl, rfl, rfl, rfl, rfl⟩ := hz.resolve_left (by omega)
  subst hf hk
  rfl
theorem ret4U (s : Sm) (h : s.ok = true) (hf : s.f = 4) (hk : s.h.k = 1) (hh : (bodyL s ++ (sumL s ++ s.pl)).length ≤ 140737488355328) (X : Rdr) (hX : X = rdr (bodyL s ++ (sumL s ++ s.pl)) hh) :
    bigR (dynUX (rtk 1 X)) (dynU (rtk 1 X) (hdk (s0 s.cx 4) 1)) (dynF (rtk 1 X)) (hdL s ++ s.pl) = .inl s := by
  subst hX
  obtain ⟨hn, ho, hd, hy, hz, hc⟩ := s.big h (.inl hf)
  have hu := udp0 s.h ho hk
  have hy2 := hy hk
  obtain ⟨g0, x0, -⟩ := key1 (c := b8 208) (T := dynL s.h s.d ++ (b8 s.ck :: (sumL s ++ s.pl))) hh (by rw [bL4 s hf]; simp)
  rw [x0]
  obtain ⟨g1, x1, x2, x3⟩ := dynU_ret (hdk (s0 s.cx 4) 1) s.h s.d _ _ hk ho hd rfl g0
  rw [x1, x2]
  refine big_ret s _ h (.inl hf) _ x3 _ rfl g1 hc rfl ?_
  obtain ⟨cx, f, n, tm, mr, id, ud, ⟨k, tos, hid, fx, ttl, fr, to, fp, tp, hck, hmr, ty, sq, htm, sr⟩, ⟨st, fo⟩, ck, pl⟩ := s
  simp only at hf hk hn hz hu hy2
  obtain ⟨rfl, rfl, rfl, rfl, rfl⟩ := hn
  obtain ⟨rfl, rfl, rfl, rfl, -⟩ := hz.resolve_left (by omega)
  obtain ⟨rfl, rfl, rfl, rfl, rfl⟩ := hu
  obtain ⟨rfl, rfl⟩ := hy2
  subst hf hk
  rfl
theorem ret5 (s : Sm) (h : s.ok = true) (hf : s.f = 5) (hh : (bodyL s ++ (sumL s ++ s.pl)).length ≤ 140737488355328) (X : Rdr) (hX : X = rdr (bodyL s ++ (sumL s ++ s.pl)) hh) :
    fullR s.cx (rtk 1 X) (hdL s ++ s.pl) = .inl s := by
  subst hX
  obtain ⟨hn, ho, hd, hy, -, hc⟩ := s.big h (.inr hf)
  obtain ⟨g0, x0, -⟩ := key1 (c := b8 209) (T := statL s.h ++ (dynL s.h s.d ++ (b8 s.ck :: (sumL s ++ s.pl)))) hh (by rw [bL5 s hf]; simp)
  rw [x0]
  rcases (s.h.of ho).1 with hk | hk
  · obtain ⟨g1, y1, y2, y3, y4⟩ := statU_ret (s0 s.cx 5) s.h _ _ hk ho rfl g0
    rw [full_u y3 y4, y1, y2]
    obtain ⟨g2, x1, x2, x3⟩ := dynU_ret { s0 s.cx 5 with h := { (s0 s.cx 5).h with k := s.h.k, fr := s.h.fr, to := s.h.to, fp := s.h.fp, tp := s.h.tp } } s.h s.d _ _ hk ho hd rfl g1
    rw [x1, x2]
    refine big_ret s _ h (.inr hf) _ x3 _ rfl g2 hc rfl ?_
    have hu := udp0 s.h ho hk
    have hy2 := hy hk
    obtain ⟨cx, f, n, tm, mr, id, ud, ⟨k, tos, hid, fx, ttl, fr, to, fp, tp, hck, hmr, ty, sq, htm, sr⟩, ⟨st, fo⟩, ck, pl⟩ := s
    simp only at hf hk hn hu hy2
    obtain ⟨rfl, rfl, rfl, rfl, rfl⟩ := hn
    obtain ⟨rfl, rfl, rfl, rfl, rfl⟩ := hu
    obtain ⟨rfl, rfl⟩ := hy2
    subst hf hk
    rfl
  · obtain ⟨g1, y1, y2, y3, y4⟩ := statT_ret (s0 s.cx 5) s.h _ _ hk ho rfl g0
    rw [full_t y3 y4, y1, y2]
    obtain ⟨g2, x1, x2, x3⟩ := dynT_ret { s0 s.cx 5 with h := { (s0 s.cx 5).h with k := s.h.k, fr := s.h.fr, to := s.h.to, fp := s.h.fp, tp := s.h.tp, sr := s.h.sr } } s.h s.d _ _ hk ho hd rfl g1
    rw [x1, x2]
    refine big_ret s _ h (.inr hf) _ x3 _ rfl g2 hc rfl ?_
    obtain ⟨cx, f, n, tm, mr, id, ud, ⟨k, tos, hid, fx, ttl, fr, to, fp, tp, hck, hmr, ty, sq, htm, sr⟩, ⟨st, fo⟩, ck, pl⟩ := s
    simp only at hf hk hn
    obtain ⟨rfl, rfl, rfl, rfl, rfl⟩ := hn
    subst hf hk
    rfl
theorem ret6 (s : Sm) (h : s.ok = true) (hf : s.f = 6) (hh : (bodyL s ++ (sumL s ++ s.pl)).length ≤ 140737488355328) (X : Rdr) (hX : X = rdr (bodyL s ++ (sumL s ++ s.pl)) hh) :
    finR (rtk 1 X) (s0 s.cx 6) (hdL s ++ s.pl) = .inl s := by
  subst hX
  obtain ⟨-, -, h3⟩ := s.of h
  obtain ⟨hn, hc, hz, hd⟩ : noneR s = true ∧ (s.cx = 0 ∧ s.ck = 0) ∧ hzR s.h 0 = true ∧ dzR s.d = true := by
    rcases h3 with ⟨h3, -⟩ | ⟨h3, -⟩ | ⟨-, h4, h5, h6, h7⟩
    · omega
    · omega
    · exact ⟨h4, h5, h6, h7⟩
  unfold noneR at hn
  unfold hzR at hz
  unfold dzR at hd
  simp only [decide_eq_true_eq] at hn hz hd
  have e1 : sumL s = [] := if_pos (by rw [sum_eq, if_neg (by omega)]; omega)
  obtain ⟨g0, x0, -⟩ := key1 (c := b8 210) (T := s.pl) hh (by rw [bL6 s hf, e1]; simp)
  rw [x0]
  refine fin_ret s _ h g0 ?_
  obtain ⟨cx, f, n, tm, mr, id, ud, ⟨k, tos, hid, fx, ttl, fr, to, fp, tp, hck, hmr, ty, sq, htm, sr⟩, ⟨st, fo⟩, ck, pl⟩ := s
  simp only at hf hn hz hd hc
  obtain ⟨rfl, rfl, rfl, rfl, rfl⟩ := hn
  obtain ⟨rfl, rfl, rfl, rfl, rfl, rfl, rfl, rfl, rfl, rfl, rfl, rfl, rfl, rfl, rfl⟩ := hz
  obtain ⟨rfl, rfl⟩ := hd
  obtain ⟨rfl, rfl⟩ := hc
  subst hf
  rfl
/-- Parts are decoded as they were encoded. -/
theorem ret_dec (s : Sm) (h : s.ok = true) (hb : (hdL s ++ s.pl).length ≤ 140737488355328) : decR (hdL s ++ s.pl) hb s.h.k (decide (s.ud ≠ 0)) = .inl s := by
  have hk : s.f ≤ 4 → s.h.k = 1 ∨ s.h.k = 2 := fun hf => by
    obtain ⟨-, -, h3⟩ := s.of h
    rcases h3 with ⟨-, -, h4, -⟩ | ⟨h3, -⟩ | ⟨h3, -⟩
    · exact h4
    · exact (s.h.of (s.big h h3).2.1).1
    · omega
  have h6 : s.f = 1 ∨ s.f = 2 ∨ s.f = 3 ∨ s.f = 4 ∨ s.f = 5 ∨ s.f = 6 := by
    obtain ⟨-, -, h3⟩ := s.of h
    omega
  rw [decR_b (ret_peek s h s.pl) (by omega)]
  obtain ⟨hh, e⟩ := ret_start s s.pl hb
  rw [e]
  unfold decB
  rcases h6 with hf | hf | hf | hf | hf | hf
  · rw [if_pos hf]
    exact ret1 s h hf _ rfl hh
  · rw [if_neg (by omega), if_pos hf]
    rcases hk (by omega) with h7 | h7
    · rw [if_neg (by omega)]; exact ret2U s h hf h7 _ rfl hh
    · rw [if_pos h7]; exact ret2T s h hf h7 _ rfl hh
  · rw [if_neg (by omega), if_neg (by omega), if_pos hf]
    rcases hk (by omega) with h7 | h7
    · rw [if_neg (by omega)]; exact ret3U s h hf h7 _ rfl hh
    · rw [if_pos h7]; exact ret3T s h hf h7 _ rfl hh
  · rw [if_neg (by omega), if_neg (by omega), if_neg (by omega), if_pos hf]
    rcases hk (by omega) with h7 | h7
    · rw [if_neg (by omega), h7]; exact ret4U s h hf h7 hh _ rfl
    · rw [if_pos h7, h7]; exact ret4T s h hf h7 hh _ rfl
  · rw [if_neg (by omega), if_neg (by omega), if_neg (by omega), if_neg (by omega), if_pos hf]
    exact ret5 s h hf hh _ rfl
  · rw [if_neg (by omega), if_neg (by omega), if_neg (by omega), if_neg (by omega), if_neg (by omega)]
    exact ret6 s h hf hh _ rfl
end Go.Proofs.Ytnlpjbedkdhlbaa
