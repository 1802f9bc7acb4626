import Derived.Test.YtnlpjbedkdhlbaaFmt22
namespace Go.Proofs.Ytnlpjbedkdhlbaa
open Go.RowKit
set_option linter.all false
theorem b8_v {v : Int} (h : 0 ≤ v ∧ v ≤ 255) : ((b8 v).toNat : Int) = v := by rw [b8_nat]; omega
theorem m16 {v : Int} (h : 0 ≤ v ∧ v ≤ 65535) : v % 65536 = v := by omega
theorem m32 {v : Int} (h : 0 ≤ v ∧ v ≤ 4294967295) : v % 4294967296 = v := by omega
/-- The first byte behind the context says the format. -/
theorem body_head (s : Sm) (h : s.ok = true) : ∃ c r, bodyL s = c :: r ∧ fmR c = s.f ∧ c.toNat < 224 ∧ (c.toNat = 210 → s.cx = 0) := by
  obtain ⟨h1, h2, h3⟩ := s.of h
  rcases h3 with ⟨h3, h4, h5, -, -⟩ | ⟨h3 | h3, -⟩ | ⟨h3, -, h4, -⟩
  · rcases h3 with hf | hf | hf
    · have a := low1 s hf h4 h2
      have e : ((b8 (8 * s.n + s.ck)).toNat : Int) = 8 * s.n + s.ck := b8_v (by omega)
      exact ⟨_, _, bL1 s hf, by rw [hf]; exact fm1 (by omega), by omega, by omega⟩
    · rcases h5 with hk | hk
      · have a := low2U s hf hk h4 h2
        have e : ((b8 (32 * (4 + s.mr) + s.n)).toNat : Int) = 32 * (4 + s.mr) + s.n := b8_v (by omega)
        exact ⟨_, _, bL2U s hf hk, by rw [hf]; exact fm2 (by omega), by omega, by omega⟩
      · have a := low2T s hf hk h4 h2
        have e : ((b8 (32 * (4 + s.mr) + s.n)).toNat : Int) = 32 * (4 + s.mr) + s.n := b8_v (by omega)
        exact ⟨_, _, bL2T s hf hk, by rw [hf]; exact fm2 (by omega), by omega, by omega⟩
    · rcases h5 with hk | hk
      · have a := low3U s hf hk h4 h2
        have e : ((b8 (192 + s.mr)).toNat : Int) = 192 + s.mr := b8_v (by omega)
        exact ⟨_, _, bL3U s hf hk, by rw [hf]; exact fm3 (by omega), by omega, by omega⟩
      · have a := low3T s hf hk h4 h2
        have e : ((b8 (192 + s.mr)).toNat : Int) = 192 + s.mr := b8_v (by omega)
        exact ⟨_, _, bL3T s hf hk, by rw [hf]; exact fm3 (by omega), by omega, by omega⟩
  · exact ⟨_, _, bL4 s h3, by rw [h3]; rfl, by decide, fun hh => absurd hh (by decide)⟩
  · exact ⟨_, _, bL5 s h3, by rw [h3]; rfl, by decide, fun hh => absurd hh (by decide)⟩
  · exact ⟨_, _, bL6 s h3, by rw [h3]; rfl, by decide, fun _ => h4.1⟩
theorem hdL_s (s : Sm) : hdL s = preL s ++ (bodyL s ++ sumL s) := rfl
theorem pre_pos {s : Sm} (h : 0 < s.cx) : preL s = [b8 (224 + s.cx)] := if_pos h
theorem pre_neg {s : Sm} (h : ¬ 0 < s.cx) : preL s = [] := if_neg h
theorem ret_peek (s : Sm) (h : s.ok = true) (l : List UInt8) : peekR (hdL s ++ l) = (s.cx, s.f, 0) := by
  obtain ⟨c, r, e, hf, hc, h0⟩ := body_head s h
  obtain ⟨h1, -, -⟩ := s.of h
  have h6 : 1 ≤ s.f := by
    obtain ⟨-, -, h3⟩ := s.of h
    omega
  rw [hdL_s, e]
  by_cases hx : 0 < s.cx
  · rw [pre_pos hx]
    have e1 : ((b8 (224 + s.cx)).toNat : Int) = 224 + s.cx := b8_v (by omega)
    show (if 224 ≤ (b8 (224 + s.cx)).toNat ∧ (b8 (224 + s.cx)).toNat < 240 then (if (b8 (224 + s.cx)).toNat = 224 ∨ fmR c = 0 ∨ c.toNat = 210 then ((0, 0, 4) : Int × Int × Int) else (((b8 (224 + s.cx)).toNat : Int) - 224, fmR c, 0)) else if fmR (b8 (224 + s.cx)) = 0 then (0, 0, 4) else (0, fmR (b8 (224 + s.cx)), 0)) = _
    rw [if_pos (by omega), if_neg (by omega), hf, e1]
    rw [show 224 + s.cx - 224 = s.cx by omega]
  · rw [pre_neg hx]
    show (if 224 ≤ c.toNat ∧ c.toNat < 240 then _ else if fmR c = 0 then ((0, 0, 4) : Int × Int × Int) else (0, fmR c, 0)) = _
    rw [if_neg (by omega), if_neg (by omega), hf, show s.cx = 0 by omega]
/-- What is left behind the context. -/
theorem ret_start (s : Sm) (l : List UInt8) (hb : (hdL s ++ l).length ≤ 140737488355328) : ∃ hh, (if 0 < s.cx then rtk 1 (rdr (hdL s ++ l) hb) else rdr (hdL s ++ l) hb) = rdr (bodyL s ++ (sumL s ++ l)) hh := by
  by_cases hx : 0 < s.cx
  · rw [if_pos hx]
    have e : hdL s ++ l = b8 (224 + s.cx) :: (bodyL s ++ (sumL s ++ l)) := by rw [hdL_s, pre_pos hx]; simp
    have key : ∀ (L : List UInt8) (h1 : L.length ≤ 140737488355328) (c : UInt8) (r : List UInt8), L = c :: r → ∃ hh, rtk 1 (rdr L h1) = rdr r hh := by
      intro L h1 c r e; subst e; exact ⟨_, rdr1 c r h1⟩
    exact key _ hb _ _ e
  · rw [if_neg hx]
    have e : hdL s ++ l = bodyL s ++ (sumL s ++ l) := by rw [hdL_s, pre_neg hx]; simp
    have key : ∀ (L : List UInt8) (h1 : L.length ≤ 140737488355328) (r : List UInt8), L = r → ∃ hh, rdr L h1 = rdr r hh := by
      intro L h1 r e; subst e; exact ⟨_, rfl⟩
    exact key _ hb _ e
theorem fin_ret (s s' : Sm) (h : s.ok = true) (hh : s.pl.length ≤ 140737488355328) (hs : { s' with pl := s.pl } = s) : finR (rdr s.pl hh) s' (hdL s ++ s.pl) = .inl s := by
  have e : wpl s' (rdr s.pl hh) = s := by rw [wpl, rL_rdr]; exact hs
  have h1 : encR s = (hdL s ++ s.pl, 0) := if_pos h
  have := fin_k (X := rdr s.pl hh) (s := s') (b := hdL s ++ s.pl) (rE_rdr _ _) (by rw [e, h1]) (by rw [e, h1])
  rw [this, e]
theorem small_ret (s s' : Sm) (h : s.ok = true) (hf : ¬ (s.f = 4 ∨ s.f = 5)) (hh : (sumL s ++ s.pl).length ≤ 140737488355328) (hu : s'.ud = 0) (hs : { s' with ud := s.ud, pl := s.pl } = s) : smallR (decide (s.ud ≠ 0)) (rdr (sumL s ++ s.pl) hh) s' (hdL s ++ s.pl) = .inl s := by
  have hr := sum_rng s h
  have e1 : sumR s = s.ud := by rw [sum_eq, if_neg hf]
  by_cases h0 : s.ud = 0
  · have e2 : sumL s = [] := if_pos (by rw [e1, h0])
    have key : ∀ (L : List UInt8) (h1 : (L ++ s.pl).length ≤ 140737488355328), L = [] → smallR false (rdr (L ++ s.pl) h1) s' (hdL s ++ s.pl) = .inl s := by
      intro L h1 e; subst e
      exact fin_ret s s' h h1 ((show ({ s' with pl := s.pl } : Sm) = { s' with ud := s.ud, pl := s.pl } from by rw [h0, ← hu]).trans hs)
    rw [show decide (s.ud ≠ 0) = false by simp [h0]]
    exact key _ hh e2
  · have e2 : sumL s = putB s.ud 2 := by unfold sumL; rw [e1, if_neg h0]
    have key : ∀ (L : List UInt8) (h1 : (L ++ s.pl).length ≤ 140737488355328), L = putB s.ud 2 → smallR true (rdr (L ++ s.pl) h1) s' (hdL s ++ s.pl) = .inl s := by
      intro L h1 e; subst e
      have ev : rv 2 (rdr (putB s.ud 2 ++ s.pl) h1) = s.ud := by rw [rv2]; omega
      rw [small_t (by rw [rdr2]; exact rE_rdr _ _) (by rw [ev]; exact h0), rdr2, ev]
      exact fin_ret s _ h _ hs
    rw [show decide (s.ud ≠ 0) = true by simp [h0]]
    exact key _ hh e2
end Go.Proofs.Ytnlpjbedkdhlbaa
