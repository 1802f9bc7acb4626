/-
  Contracts of the functions that the laws reach.
-/
import Derived.Test.YtkfpgdckdmlhkaaGreatDoorDq01
import Derived.Test.YtkfpgdckdmlhkaaGreatDoorDq02
import Derived.Test.YtkfpgdckdmlhkaaGreatDoorDq03
import Derived.Test.YtkfpgdckdmlhkaaGreatDoorDq04
import Derived.Test.YtkfpgdckdmlhkaaGreatDoorDq05
import Derived.Test.YtkfpgdckdmlhkaaGreatDoorDq06
import Derived.Test.YtkfpgdckdmlhkaaGreatDoorDq07
import Derived.Test.YtkfpgdckdmlhkaaGreatDoorDq08
import Derived.Test.YtkfpgdckdmlhkaaGreatDoorDq10
import Derived.Test.YtkfpgdckdmlhkaaGreatDoorDq11
import Derived.Test.YtkfpgdckdmlhkaaGreatDoorDq14
import Derived.Test.YtkfpgdckdmlhkaaGreatDoorDq15
import Derived.Test.YtkfpgdckdmlhkaaGreatDoorDq16
import Derived.Test.YtkfpgdckdmlhkaaGreatDoorDq24
set_option maxHeartbeats 8000000
set_option linter.all false
namespace Go.Proofs.YtkfpgdckdmlhkaaGreatDoor
open Go.RowKit
variable {G : Nat → AV}
theorem predR_lw (d : Dy) (h : Hd) (n : Int) : xg d h (lw 16 n) = xg d h n := by
 unfold xg stepR
 rw [sg_low, lw_lw]
theorem lsb16_rng (r k l : Int) : 0 ≤ (xF 16 r k l).1 ∧ (xF 16 r k l).1 < 65536 := by
 unfold xF
 split
 · split
   · exact ⟨by decide, by decide⟩
   · exact wF 16 _
 · exact ⟨by decide, by decide⟩
theorem hdr5 {r : Rc} {s : Sm} {n : Int} (h : s.f = 5) : qS r s n = s.h := by unfold qS; rw [if_pos h]
theorem hdr4 {r : Rc} {s : Sm} {n : Int} (h : s.f = 4) : qS r s n = { s.h with fr := r.la.fr, to := r.la.to, fp := r.la.fp, tp := r.la.tp, sr := r.la.sr } := by unfold qS; rw [if_neg (by omega), if_pos h]
theorem r10hdr_a (r0 : Rc) (s : Sm) (mv : Int) (hf : s.f = 4 ∨ s.f = 5) : LP Tryz.prog G 58 [r0.av, s.av, iAV mv] [] (fun _ => ((qS r0 s (qN r0 s + mv)).av, [])) := by
 refine goW [] Tryz.func58 rfl ?_
 conv => whnf
 repeat' ((first | exact Nm.b 0 | refine T.s ?_ | ((first | apply goB | apply AB.dec | apply AB.gen) <;> intro h <;> try (exfalso; omega)) | refine LQ.mk fun r => ?_ | (show SQ _ _ _ _ _ _ _; first | (refine goD tQ qb 7 [3, 5, 7, 9, 11, 13, 15, 17] [0, 1, 2, 3, 4, 5, 6, 7, 8, 9, 10, 11, 12, 13, 14, 15, 16, 17, 18, 19] [r] (by kernel_rfl) ?_) | (refine goD tQ qb 7 [3, 5, 7, 9, 11, 13, 15, 17] [0, 1, 2, 3, 4, 5, 6, 7, 8, 9, 10, 11, 12, 13, 14, 15, 16, 17, 18, 19] [] (by kernel_rfl) ?_) | (refine goD tQ qb 17 [5, 2] [0, 1, 3, 4, 5, 2, 6, 7, 8, 9, 10] [r] (by kernel_rfl) ?_) | (refine goD tQ qb 17 [5, 2] [0, 1, 3, 4, 5, 2, 6, 7, 8, 9, 10] [] (by kernel_rfl) ?_) | (refine goD tQ qb 18 [1, 3, 7] [0, 1, 2, 3, 4, 5, 6, 7, 8, 9, 10] [r] (by kernel_rfl) ?_) | (refine goD tQ qb 18 [1, 3, 7] [0, 1, 2, 3, 4, 5, 6, 7, 8, 9, 10] [] (by kernel_rfl) ?_) | (refine goD tQ qb 24 [3, 5] [0, 1, 2, 3, 4, 5, 6, 7] [r] (by kernel_rfl) ?_) | (refine goD tQ qb 24 [3, 5] [0, 1, 2, 3, 4, 5, 6, 7] [] (by kernel_rfl) ?_)) | exact T.z | fail) <;> conv => whnf)
 all_goals (try dsimp only)
 all_goals first
   | (exfalso; omega)
   | ((show RL _ _ _; refine goR ?_); rw [hdr5 (by assumption)]; try rfl)
   | ((show RL _ _ _; refine goR ?_); rw [hdr4 (by assumption)]; try rfl)
   | trace_state
theorem numA {r : Rc} {s : Sm} (hn : 0 ≤ s.n ∧ s.n < 65536) : 0 ≤ qN r s ∧ qN r s < 65536 := by
 unfold qN
 split
 · exact hn
 · exact lsb16_rng _ _ _
theorem hdr1 {r : Rc} {s : Sm} {n : Int} (h1 : ¬ s.f = 4) (h2 : ¬ s.f = 5) (h3 : ¬ r.la.k = 2) : qS r s n = { xg r.dy r.la n with ck := s.ud } := by unfold qS; rw [if_neg h2, if_neg h1, if_neg h3]
theorem hdr1t {r : Rc} {s : Sm} {n : Int} (h1 : s.f = 1) (h3 : r.la.k = 2) : qS r s n = { xg r.dy r.la n with ck := s.ud } := by unfold qS; rw [if_neg (by omega), if_neg (by omega), if_pos h3, if_neg (by omega), if_neg (by omega)]
theorem hdr2t {r : Rc} {s : Sm} {n : Int} (h1 : s.f = 2) (h3 : r.la.k = 2) : qS r s n = { xg r.dy r.la n with ck := s.ud, mr := s.mr, tm := (xF 32 r.la.tm 16 s.tm).1 } := by unfold qS; rw [if_neg (by omega), if_neg (by omega), if_pos h3, if_pos h1]
theorem hdr3t {r : Rc} {s : Sm} {n : Int} (h1 : s.f = 3) (h3 : r.la.k = 2) : qS r s n = { xg r.dy r.la n with ck := s.ud, mr := s.mr, tm := s.tm, id := s.id } := by unfold qS; rw [if_neg (by omega), if_neg (by omega), if_pos h3, if_neg (by omega), if_pos h1]
theorem r10hdr_b (r0 : Rc) (s : Sm) (mv : Int) (hm : 0 ≤ mv ∧ mv ≤ 1000) (hf : s.f = 1 ∨ s.f = 2 ∨ s.f = 3) (hk : r0.la.k = 1 ∨ r0.la.k = 2) (hn : 0 ≤ s.n ∧ s.n < 65536) : LP Tryz.prog G 58 [r0.av, s.av, iAV mv] [] (fun _ => ((qS r0 s (qN r0 s + mv)).av, [])) := by
 have hN := numA (r := r0) hn
 have ea : q7 .add .i64 (qN r0 s) mv = qN r0 s + mv := by (exact T.num)
 have hp := predR_lw r0.dy r0.la (qN r0 s + mv)
 rcases hf with hf | hf | hf <;> rcases hk with hk | hk
 · have e : qN r0 s = (xF 16 r0.la.num 4 s.n).1 := by unfold qN; rw [if_neg (by omega)]; simp [wid, hf, hk]
   rw [e] at ea hp
   rw [e, hdr1 (by omega) (by omega) (by omega)]
   refine goW [] Tryz.func58 rfl ?_
   conv => whnf
   repeat' ((first | exact Nm.b 0 | (show LC _ _ _ _ _ _; first | refine LC.pure (qI _) ?_ | refine LC.pure (xx _ _ _ _) ?_ | refine LC.pure (xb 16 _ (by decide) (by decide)) ?_ | refine LC.pure (zW _ _ _) ?_ | refine goE ?_) | refine T.s ?_ | ((first | apply goB | apply AB.dec | apply AB.gen) <;> intro h <;> try (exfalso; omega)) | refine LQ.mk fun r => ?_ | (show SQ _ _ _ _ _ _ _; first | refine gX 7 [3, 5, 7, 9, 11, 13, 15, 17] [0, 1, 2, 3, 4, 5, 6, 7, 8, 9, 10, 11, 12, 13, 14, 15, 16, 17, 18, 19] [r] ?_ | refine gX 17 [5, 2] [0, 1, 3, 4, 5, 2, 6, 7, 8, 9, 10] [r] ?_ | (apply goD tQ qb 18 [1, 3, 7] [0, 1, 2, 3, 4, 5, 6, 7, 8, 9, 10] [_] (by kernel_rfl)) | refine gX 24 [3, 5] [0, 1, 2, 3, 4, 5, 6, 7] [r] ?_) | exact T.z | fail) <;> try (show (_ : Prop); conv => whnf))
   all_goals (try dsimp only)
   all_goals first
     | (exfalso; omega)
     | ((show RL _ _ _; refine goR ?_); rw [ea, hp]; rfl)
     | ((show RL _ _ _; refine goR ?_); rw [ea, hp])
     | trace_state
 · have e : qN r0 s = (xF 16 r0.la.num 4 s.n).1 := by unfold qN; rw [if_neg (by omega)]; simp [wid, hf, hk]
   rw [e] at ea hp
   rw [e, hdr1t hf hk]
   refine goW [] Tryz.func58 rfl ?_
   conv => whnf
   repeat' ((first | exact Nm.b 0 | (show LC _ _ _ _ _ _; first | refine LC.pure (qI _) ?_ | refine LC.pure (xx _ _ _ _) ?_ | refine LC.pure (xb 16 _ (by decide) (by decide)) ?_ | refine LC.pure (zW _ _ _) ?_ | refine goE ?_) | refine T.s ?_ | ((first | apply goB | apply AB.dec | apply AB.gen) <;> intro h <;> try (exfalso; omega)) | refine LQ.mk fun r => ?_ | (show SQ _ _ _ _ _ _ _; first | refine gX 7 [3, 5, 7, 9, 11, 13, 15, 17] [0, 1, 2, 3, 4, 5, 6, 7, 8, 9, 10, 11, 12, 13, 14, 15, 16, 17, 18, 19] [r] ?_ | refine gX 17 [5, 2] [0, 1, 3, 4, 5, 2, 6, 7, 8, 9, 10] [r] ?_ | (apply goD tQ qb 18 [1, 3, 7] [0, 1, 2, 3, 4, 5, 6, 7, 8, 9, 10] [_] (by kernel_rfl)) | refine gX 24 [3, 5] [0, 1, 2, 3, 4, 5, 6, 7] [r] ?_) | exact T.z | fail) <;> try (show (_ : Prop); conv => whnf))
   all_goals (try dsimp only)
   all_goals first
     | (exfalso; omega)
     | ((show RL _ _ _; refine goR ?_); rw [ea, hp]; rfl)
     | ((show RL _ _ _; refine goR ?_); rw [ea, hp])
     | trace_state
 · have e : qN r0 s = (xF 16 r0.la.num 5 s.n).1 := by unfold qN; rw [if_neg (by omega)]; simp [wid, hf, hk]
   rw [e] at ea hp
   rw [e, hdr1 (by omega) (by omega) (by omega)]
   refine goW [] Tryz.func58 rfl ?_
   conv => whnf
   repeat' ((first | exact Nm.b 0 | (show LC _ _ _ _ _ _; first | refine LC.pure (qI _) ?_ | refine LC.pure (xx _ _ _ _) ?_ | refine LC.pure (xb 16 _ (by decide) (by decide)) ?_ | refine LC.pure (zW _ _ _) ?_ | refine goE ?_) | refine T.s ?_ | ((first | apply goB | apply AB.dec | apply AB.gen) <;> intro h <;> try (exfalso; omega)) | refine LQ.mk fun r => ?_ | (show SQ _ _ _ _ _ _ _; first | refine gX 7 [3, 5, 7, 9, 11, 13, 15, 17] [0, 1, 2, 3, 4, 5, 6, 7, 8, 9, 10, 11, 12, 13, 14, 15, 16, 17, 18, 19] [r] ?_ | refine gX 17 [5, 2] [0, 1, 3, 4, 5, 2, 6, 7, 8, 9, 10] [r] ?_ | (apply goD tQ qb 18 [1, 3, 7] [0, 1, 2, 3, 4, 5, 6, 7, 8, 9, 10] [_] (by kernel_rfl)) | refine gX 24 [3, 5] [0, 1, 2, 3, 4, 5, 6, 7] [r] ?_) | exact T.z | fail) <;> try (show (_ : Prop); conv => whnf))
   all_goals (try dsimp only)
   all_goals first
     | (exfalso; omega)
     | ((show RL _ _ _; refine goR ?_); rw [ea, hp]; rfl)
     | ((show RL _ _ _; refine goR ?_); rw [ea, hp])
     | trace_state
 · have e : qN r0 s = (xF 16 r0.la.num 5 s.n).1 := by unfold qN; rw [if_neg (by omega)]; simp [wid, hf, hk]
   rw [e] at ea hp
   rw [e, hdr2t hf hk]
   refine goW [] Tryz.func58 rfl ?_
   conv => whnf
   repeat' ((first | exact Nm.b 0 | (show LC _ _ _ _ _ _; first | refine LC.pure (qI _) ?_ | refine LC.pure (xx _ _ _ _) ?_ | refine LC.pure (xb 16 _ (by decide) (by decide)) ?_ | refine LC.pure (zW _ _ _) ?_ | refine goE ?_) | refine T.s ?_ | ((first | apply goB | apply AB.dec | apply AB.gen) <;> intro h <;> try (exfalso; omega)) | refine LQ.mk fun r => ?_ | (show SQ _ _ _ _ _ _ _; first | refine gX 7 [3, 5, 7, 9, 11, 13, 15, 17] [0, 1, 2, 3, 4, 5, 6, 7, 8, 9, 10, 11, 12, 13, 14, 15, 16, 17, 18, 19] [r] ?_ | refine gX 17 [5, 2] [0, 1, 3, 4, 5, 2, 6, 7, 8, 9, 10] [r] ?_ | (apply goD tQ qb 18 [1, 3, 7] [0, 1, 2, 3, 4, 5, 6, 7, 8, 9, 10] [_] (by kernel_rfl)) | refine gX 24 [3, 5] [0, 1, 2, 3, 4, 5, 6, 7] [r] ?_) | exact T.z | fail) <;> try (show (_ : Prop); conv => whnf))
   all_goals (try dsimp only)
   all_goals first
     | (exfalso; omega)
     | ((show RL _ _ _; refine goR ?_); rw [ea, hp]; rfl)
     | ((show RL _ _ _; refine goR ?_); rw [ea, hp])
     | trace_state
 · have e : qN r0 s = s.n := by unfold qN; rw [if_pos ⟨hf, hk⟩]
   rw [e] at ea hp
   rw [e, hdr1 (by omega) (by omega) (by omega)]
   refine goW [] Tryz.func58 rfl ?_
   conv => whnf
   repeat' ((first | exact Nm.b 0 | (show LC _ _ _ _ _ _; first | refine LC.pure (qI _) ?_ | refine LC.pure (xx _ _ _ _) ?_ | refine LC.pure (xb 16 _ (by decide) (by decide)) ?_ | refine LC.pure (zW _ _ _) ?_ | refine goE ?_) | refine T.s ?_ | ((first | apply goB | apply AB.dec | apply AB.gen) <;> intro h <;> try (exfalso; omega)) | refine LQ.mk fun r => ?_ | (show SQ _ _ _ _ _ _ _; first | refine gX 7 [3, 5, 7, 9, 11, 13, 15, 17] [0, 1, 2, 3, 4, 5, 6, 7, 8, 9, 10, 11, 12, 13, 14, 15, 16, 17, 18, 19] [r] ?_ | refine gX 17 [5, 2] [0, 1, 3, 4, 5, 2, 6, 7, 8, 9, 10] [r] ?_ | (apply goD tQ qb 18 [1, 3, 7] [0, 1, 2, 3, 4, 5, 6, 7, 8, 9, 10] [_] (by kernel_rfl)) | refine gX 24 [3, 5] [0, 1, 2, 3, 4, 5, 6, 7] [r] ?_) | exact T.z | fail) <;> try (show (_ : Prop); conv => whnf))
   all_goals (try dsimp only)
   all_goals first
     | (exfalso; omega)
     | ((show RL _ _ _; refine goR ?_); rw [ea, hp]; rfl)
     | ((show RL _ _ _; refine goR ?_); rw [ea, hp])
     | trace_state
 · have e : qN r0 s = (xF 16 r0.la.num 8 s.n).1 := by unfold qN; rw [if_neg (by omega)]; simp [wid, hf, hk]
   rw [e] at ea hp
   rw [e, hdr3t hf hk]
   refine goW [] Tryz.func58 rfl ?_
   conv => whnf
   repeat' ((first | exact Nm.b 0 | (show LC _ _ _ _ _ _; first | refine LC.pure (qI _) ?_ | refine LC.pure (xx _ _ _ _) ?_ | refine LC.pure (xb 16 _ (by decide) (by decide)) ?_ | refine LC.pure (zW _ _ _) ?_ | refine goE ?_) | refine T.s ?_ | ((first | apply goB | apply AB.dec | apply AB.gen) <;> intro h <;> try (exfalso; omega)) | refine LQ.mk fun r => ?_ | (show SQ _ _ _ _ _ _ _; first | refine gX 7 [3, 5, 7, 9, 11, 13, 15, 17] [0, 1, 2, 3, 4, 5, 6, 7, 8, 9, 10, 11, 12, 13, 14, 15, 16, 17, 18, 19] [r] ?_ | refine gX 17 [5, 2] [0, 1, 3, 4, 5, 2, 6, 7, 8, 9, 10] [r] ?_ | (apply goD tQ qb 18 [1, 3, 7] [0, 1, 2, 3, 4, 5, 6, 7, 8, 9, 10] [_] (by kernel_rfl)) | refine gX 24 [3, 5] [0, 1, 2, 3, 4, 5, 6, 7] [r] ?_) | exact T.z | fail) <;> try (show (_ : Prop); conv => whnf))
   all_goals (try dsimp only)
   all_goals first
     | (exfalso; omega)
     | ((show RL _ _ _; refine goR ?_); rw [ea, hp]; rfl)
     | ((show RL _ _ _; refine goR ?_); rw [ea, hp])
     | trace_state
theorem kH (r0 : Rc) (s : Sm) (mv : Int) (hm : 0 ≤ mv ∧ mv ≤ 1000) (hf : 1 ≤ s.f ∧ s.f ≤ 5) (hk : r0.la.k = 1 ∨ r0.la.k = 2 ∨ 4 ≤ s.f) (hn : 0 ≤ s.n ∧ s.n < 65536) : LP Tryz.prog G 58 [r0.av, s.av, iAV mv] [] (fun _ => ((qS r0 s (qN r0 s + mv)).av, [])) := by
 by_cases h4 : 4 ≤ s.f
 · exact r10hdr_a r0 s mv (by omega)
 · exact r10hdr_b r0 s mv hm (by omega) (by omega) hn
open Go.RowKit
theorem wO (w q : Nm) (hne : w ≠ q) (l : List Rc) (i : Nat) (hi : i < l.length) (m c : Int) (s : Sm) (a : AV) (hd : Hd) : LP Tryz.prog gm 106 [.ptr w 0, hd.av] [(w, ⟨112, wkC m c s a q (i * 19)⟩), (q, ⟨71, l.flatMap Rc.cs⟩)] (fun _ => (.bool (wy s hd), [(w, ⟨112, wkC m c s a q (i * 19)⟩), (q, ⟨71, l.flatMap Rc.cs⟩)])) := by
 have h1 := csum_c (cbR s.f) (qM hd) (by have := headL_le hd; omega)
 have h0 := csum_c (cbR s.f) [] (by decide)
 rw [crcO_cb] at h1 h0
 cases ko : hd.ok with
 | true =>
   have ec : zK s.f hd = vk (cbR s.f) (qM hd) := by unfold zK headO; rw [if_pos ko]
   by_cases k : hd.k = 1
   · have h2 : LP Tryz.prog gm 129 [iAV (cbR s.f), bv ((qM hd ++ List.replicate 12 0).take 28)] [] (fun _ => (.tup [iAV (vk (cbR s.f) (qM hd)), iAV 0], [])) := by
       rw [List.take_left' (by rw [zP, if_neg (by omega)])]
       exact h1
     have hl : (qM hd).length = 28 := by rw [zP, if_neg (by omega)]
     refine goW [] Tryz.func106 rfl ?_
     conv => whnf
     repeat' ((first | exact Nm.b 0 | (show LC _ _ _ _ _ _; first | refine LC.pure (yH _) ?_ | refine LC.own (phead_1 hd ko k) ?_ | refine LC.mk' (h2) [_] ⟨LF.eq rfl, LF.vc (LF.headB InL.here ?_), trivial⟩ ?_ | refine goE ?_) | refine T.s ?_ | ((first | apply goB | apply AB.dec | apply AB.gen) <;> intro h <;> try (exfalso; omega)) | refine LQ.mk fun r => ?_ | (show SQ _ _ _ _ _ _ _; first | refine gX 1 [6, 5] [0, 1, 2, 3, 4, 6, 5, 7, 8, 9, 10, 11, 12, 13] [] ?_) | exact T.z | fail) <;> conv => whnf)
     all_goals (try dsimp only)
     all_goals first | ((show RL _ _ _; refine goR ?_); unfold wy; rw [ec]; rfl) | exact Nat.le_trans (Nat.le_of_eq hl.symm) (by simp) | trace_state
   · have k2 : hd.k = 2 := by
       unfold Hd.ok at ko
       rw [if_neg k] at ko
       by_cases k2 : hd.k = 2
       · exact k2
       · rw [if_neg k2] at ko; cases ko
     have hl2 : (qM hd).length = 40 := by rw [zP, if_pos k2]
     refine goW [] Tryz.func106 rfl ?_
     conv => whnf
     repeat' ((first | exact Nm.b 0 | (show LC _ _ _ _ _ _; first | refine LC.pure (yH _) ?_ | refine LC.own (phead_2 hd ko k2) ?_ | refine LC.mk' (h1) [_] ⟨LF.eq rfl, LF.rowF InL.here ?_, trivial⟩ ?_ | refine goE ?_) | refine T.s ?_ | ((first | apply goB | apply AB.dec | apply AB.gen) <;> intro h <;> try (exfalso; omega)) | refine LQ.mk fun r => ?_ | (show SQ _ _ _ _ _ _ _; first | refine gX 1 [6, 5] [0, 1, 2, 3, 4, 6, 5, 7, 8, 9, 10, 11, 12, 13] [] ?_) | exact T.z | fail) <;> conv => whnf)
     all_goals (try dsimp only)
     all_goals first | ((show RL _ _ _; refine goR ?_); unfold wy; rw [ec]; rfl) | exact hl2.symm | trace_state
 | false =>
   have ec : zK s.f hd = vk (cbR s.f) [] := by unfold zK headO; rw [if_neg (by rw [ko]; decide)]
   refine goW [] Tryz.func106 rfl ?_
   conv => whnf
   repeat' ((first | exact Nm.b 0 | (show LC _ _ _ _ _ _; first | refine LC.pure (yH _) ?_ | refine LC.pure (phead_n hd ko) ?_ | refine LC.mk' (h0) [] ⟨LF.eq rfl, LF.nils rfl rfl, trivial⟩ ?_ | refine goE ?_) | refine T.s ?_ | ((first | apply goB | apply AB.dec | apply AB.gen) <;> intro h <;> try (exfalso; omega)) | refine LQ.mk fun r => ?_ | (show SQ _ _ _ _ _ _ _; first | refine gX 1 [6, 5] [0, 1, 2, 3, 4, 6, 5, 7, 8, 9, 10, 11, 12, 13] [] ?_) | exact T.z | fail) <;> conv => whnf)
   all_goals (try dsimp only)
   all_goals first | ((show RL _ _ _; refine goR ?_); unfold wy; rw [ec]; rfl) | trace_state
theorem whdr_a (w q : Nm) (hne : w ≠ q) (l : List Rc) (i : Nat) (hi : i < l.length) (m c : Int) (s : Sm) (a : AV) (n : Int) (hf : s.f = 4 ∨ s.f = 5) : LP Tryz.prog gm 105 [.ptr w 0, iAV n] [(w, ⟨112, wkC m c s a q (i * 19)⟩), (q, ⟨71, l.flatMap Rc.cs⟩)] (fun _ => ((qS (l.getD i Rc.z) s n).av, [(w, ⟨112, wkC m c s a q (i * 19)⟩), (q, ⟨71, l.flatMap Rc.cs⟩)])) := by
 refine goW [] Tryz.func105 rfl ?_
 conv => whnf
 repeat' ((first | exact Nm.b 0 | (refine And.intro ?_ ?_; (focus (first | exact sub_le Rc.cs_len hi (by decide) | exact T.kx | exact T.side))) | (show AC _ _ _; first | (refine AC.sub Rc.cs_len i 1 Rc.z _ rfl (by decide) hi rfl ?_)) | refine T.s ?_ | ((first | apply goB | apply AB.dec | apply AB.gen) <;> intro h <;> try (exfalso; omega)) | refine LQ.mk fun r => ?_ | (show SQ _ _ _ _ _ _ _; first | refine gX 6 [3, 5, 7, 9, 11, 13, 15, 17] [0, 1, 2, 3, 4, 5, 6, 7, 8, 9, 10, 11, 12, 13, 14, 15, 16, 17, 18, 19] [r] ?_ | refine gX 8 [] [0, 1, 2, 3, 4, 5, 6, 7, 8, 9, 10, 11] [r] ?_ | refine gX 15 [] [0, 1, 2, 3, 4, 5, 6, 7, 8, 9, 10, 11, 12] [r] ?_ | refine gX 17 [9, 14, 16, 18] [0, 1, 2, 3, 4, 5, 6, 7, 8, 9, 10, 11, 12, 13, 14, 15, 16, 17, 18, 19, 20] [r] ?_) | exact T.z | fail) <;> conv => whnf)
 all_goals (try dsimp only)
 all_goals first
   | (exfalso; omega)
   | ((show RL _ _ _; refine goR ?_); rw [hdr5 (by assumption)]; try rfl)
   | ((show RL _ _ _; refine goR ?_); rw [hdr4 (by assumption)]; try rfl)
   | trace_state
theorem whdr_b (w q : Nm) (hne : w ≠ q) (l : List Rc) (i : Nat) (hi : i < l.length) (m c : Int) (s : Sm) (a : AV) (n : Int) (hf : s.f = 1 ∨ s.f = 2 ∨ s.f = 3) : LP Tryz.prog gm 105 [.ptr w 0, iAV n] [(w, ⟨112, wkC m c s a q (i * 19)⟩), (q, ⟨71, l.flatMap Rc.cs⟩)] (fun _ => ((qS (l.getD i Rc.z) s n).av, [(w, ⟨112, wkC m c s a q (i * 19)⟩), (q, ⟨71, l.flatMap Rc.cs⟩)])) := by
 refine goW [] Tryz.func105 rfl ?_
 conv => whnf
 repeat' ((first | exact Nm.b 0 | (refine And.intro ?_ ?_; (focus (first | exact sub_le Rc.cs_len hi (by decide) | exact T.kx | exact T.side))) | (show LC _ _ _ _ _ _; first | refine LC.pure (fpred_c _ _ _) ?_ | refine LC.pure (ldecode_c _ _ _ _) ?_ | refine goE ?_) | (show AC _ _ _; first | (refine AC.sub Rc.cs_len i 1 Rc.z _ rfl (by decide) hi rfl ?_) | (refine AC.sub Rc.cs_len i 16 Rc.z _ rfl (by decide) hi rfl ?_)) | refine T.s ?_ | ((first | apply goB | apply AB.dec | apply AB.gen) <;> intro h <;> try (exfalso; omega)) | refine LQ.mk fun r => ?_ | (show SQ _ _ _ _ _ _ _; first | refine gX 6 [3, 5, 7, 9, 11, 13, 15, 17] [0, 1, 2, 3, 4, 5, 6, 7, 8, 9, 10, 11, 12, 13, 14, 15, 16, 17, 18, 19] [r] ?_ | refine gX 8 [] [0, 1, 2, 3, 4, 5, 6, 7, 8, 9, 10, 11] [r] ?_ | refine gX 15 [] [0, 1, 2, 3, 4, 5, 6, 7, 8, 9, 10, 11, 12] [r] ?_ | refine gX 17 [9, 14, 16, 18] [0, 1, 2, 3, 4, 5, 6, 7, 8, 9, 10, 11, 12, 13, 14, 15, 16, 17, 18, 19, 20] [r] ?_) | exact T.z | fail) <;> conv => whnf)
 all_goals (try dsimp only)
 all_goals first
   | (exfalso; omega)
   | ((show RL _ _ _; refine goR ?_); rw [hdr1 (by omega) (by omega) (by omega)]; rfl)
   | ((show RL _ _ _; refine goR ?_); rw [hdr2t (by omega) (by omega)]; rfl)
   | ((show RL _ _ _; refine goR ?_); rw [hdr3t (by omega) (by omega)]; rfl)
   | ((show RL _ _ _; refine goR ?_); rw [hdr1t (by omega) (by omega)]; rfl)
   | trace_state
open Go.RowKit
theorem whdr_c (w q : Nm) (hne : w ≠ q) (l : List Rc) (i : Nat) (hi : i < l.length) (m c : Int) (s : Sm) (a : AV) (n : Int) (hf : 1 ≤ s.f ∧ s.f ≤ 5) : LP Tryz.prog gm 105 [.ptr w 0, iAV n] [(w, ⟨112, wkC m c s a q (i * 19)⟩), (q, ⟨71, l.flatMap Rc.cs⟩)] (fun _ => ((qS (l.getD i Rc.z) s n).av, [(w, ⟨112, wkC m c s a q (i * 19)⟩), (q, ⟨71, l.flatMap Rc.cs⟩)])) := by
 by_cases h : 4 ≤ s.f
 · exact whdr_a w q hne l i hi m c s a n (by omega)
 · exact whdr_b w q hne l i hi m c s a n (by omega)
theorem add16 (r : Rc) {s : Sm} (hn : 0 ≤ s.n ∧ s.n < 65536) : q7 .add .i64 (qN r s) 16 = qN r s + 16 := by
 have hN := numA (r := r) hn
 generalize qN r s = x at hN ⊢
 (exact T.num)
theorem reb4 {m : Int} {r : Rc} {s : Sm} (h : s.f = 4 ∨ s.f = 5) : js m r s = (qS r s 0, wy s (qS r s 0)) := by unfold js; rw [if_pos h]
theorem reb1 {m : Int} {r : Rc} {s : Sm} (h : ¬ (s.f = 4 ∨ s.f = 5)) (hf : wy s (qS r s (qN r s)) = true) : js m r s = (qS r s (qN r s), true) := by unfold js; rw [if_neg h, if_pos hf]
theorem reb2 {m : Int} {r : Rc} {s : Sm} (h : ¬ (s.f = 4 ∨ s.f = 5)) (hf : wy s (qS r s (qN r s)) = false) (h1 : s.f ≠ 1 ∨ m = 3) : js m r s = (Hd.z, false) := by unfold js; rw [if_neg h, if_neg (by rw [hf]; decide), if_pos h1]
theorem reb3 {m : Int} {r : Rc} {s : Sm} (h : ¬ (s.f = 4 ∨ s.f = 5)) (hf : wy s (qS r s (qN r s)) = false) (h1 : ¬ (s.f ≠ 1 ∨ m = 3)) : js m r s = (qS r s (lw 16 (qN r s + 16)), wy s (qS r s (lw 16 (qN r s + 16)))) := by unfold js; rw [if_neg h, if_neg (by rw [hf]; decide), if_neg h1]
theorem wreb_c (w q : Nm) (hne : w ≠ q) (l : List Rc) (i : Nat) (hi : i < l.length) (m c : Int) (s : Sm) (a : AV) (hf : 1 ≤ s.f ∧ s.f ≤ 5) (hn : 0 ≤ s.n ∧ s.n < 65536) : LP Tryz.prog gm 65 [.ptr w 0] [(w, ⟨112, wkC m c s a q (i * 19)⟩), (q, ⟨71, l.flatMap Rc.cs⟩)] (fun _ => (.tup [(js m (l.getD i Rc.z) s).1.av, .bool (js m (l.getD i Rc.z) s).2], [(w, ⟨112, wkC m c s a q (i * 19)⟩), (q, ⟨71, l.flatMap Rc.cs⟩)])) := by
 have hN := numA (r := l.getD i Rc.z) hn
 have ea := add16 (l.getD i Rc.z) hn
 clear hN
 have hl : LP Tryz.prog gm 108 [iAV 16, iAV (q7 .add .i64 (qN (l.getD i Rc.z) s) 16)] [] (fun _ => (iAV (lw 16 (qN (l.getD i Rc.z) s + 16)), [])) := by rw [ea]; exact yR 16 _ (by decide) (by decide)
 by_cases h4 : s.f = 4 ∨ s.f = 5
 · rw [reb4 h4]
   refine goW [] Tryz.func65 rfl ?_
   conv => whnf
   repeat' ((first | exact Nm.b 0 | (show LC _ _ _ _ _ _; first | (apply LC.twoK (fun hne => whdr_c w q hne l i hi m c s a _ hf); (repeat first | refine goH ?_ | apply LH.here | apply LH.next); refine ⟨rfl, ?_⟩; (repeat first | refine goH ?_ | apply LH.here | apply LH.next); refine ⟨rfl, ?_⟩; (repeat first | refine goH ?_ | apply LH.here | apply LH.next)) | (apply LC.twoK (fun hne => wO w q hne l i hi m c s a _); (repeat first | refine goH ?_ | apply LH.here | apply LH.next); refine ⟨rfl, ?_⟩; (repeat first | refine goH ?_ | apply LH.here | apply LH.next); refine ⟨rfl, ?_⟩; (repeat first | refine goH ?_ | apply LH.here | apply LH.next)) | refine goE ?_) | refine T.s ?_ | ((first | apply goB | apply AB.dec | apply AB.gen) <;> intro h <;> try (exfalso; omega)) | refine LQ.mk fun r => ?_ | (show SQ _ _ _ _ _ _ _; first | refine gX 3 [0, 3] [0, 1, 2, 3, 4, 5] [] ?_ | refine gX 11 [0, 3] [0, 1, 2, 3, 4, 5] [] ?_) | exact T.z | fail) <;> conv => whnf)
   all_goals (try dsimp only)
   all_goals first
     | (exfalso; omega)
     | ((show RL _ _ _; refine goR ?_); try rfl)
     | trace_state
 · cases hfi : wy s (qS (l.getD i Rc.z) s (qN (l.getD i Rc.z) s)) with
   | true =>
     rw [reb1 h4 hfi]
     refine goW [] Tryz.func65 rfl ?_
     conv => whnf
     repeat' ((first | exact Nm.b 0 | (show LC _ _ _ _ _ _; first | (apply LC.twoK (fun hne => wnum_c w q hne l i hi m c s a); (repeat first | refine goH ?_ | apply LH.here | apply LH.next); refine ⟨rfl, ?_⟩; (repeat first | refine goH ?_ | apply LH.here | apply LH.next); refine ⟨rfl, ?_⟩; (repeat first | refine goH ?_ | apply LH.here | apply LH.next)) | (apply LC.twoK (fun hne => whdr_c w q hne l i hi m c s a _ hf); (repeat first | refine goH ?_ | apply LH.here | apply LH.next); refine ⟨rfl, ?_⟩; (repeat first | refine goH ?_ | apply LH.here | apply LH.next); refine ⟨rfl, ?_⟩; (repeat first | refine goH ?_ | apply LH.here | apply LH.next)) | (apply LC.twoK (fun hne => wO w q hne l i hi m c s a _); (repeat first | refine goH ?_ | apply LH.here | apply LH.next); refine ⟨rfl, ?_⟩; (repeat first | refine goH ?_ | apply LH.here | apply LH.next); refine ⟨rfl, ?_⟩; (repeat first | refine goH ?_ | apply LH.here | apply LH.next)) | refine goE ?_) | refine T.s ?_ | ((first | apply goB | apply AB.dec | apply AB.gen) <;> intro h <;> try (exfalso; omega)) | refine LQ.mk fun r => ?_ | (show SQ _ _ _ _ _ _ _; first | refine gX 3 [0, 3] [0, 1, 2, 3, 4, 5] [] ?_ | refine gX 11 [0, 3] [0, 1, 2, 3, 4, 5] [] ?_) | exact T.z | fail) <;> conv => whnf)
     all_goals (try dsimp only)
     all_goals first
       | (exfalso; omega)
       | ((show RL _ _ _; refine goR ?_); try rfl)
       | trace_state
   | false =>
     by_cases h1 : s.f ≠ 1 ∨ m = 3
     · rw [reb2 h4 hfi h1]
       refine goW [] Tryz.func65 rfl ?_
       conv => whnf
       repeat' ((first | exact Nm.b 0 | (show LC _ _ _ _ _ _; first | (apply LC.twoK (fun hne => wnum_c w q hne l i hi m c s a); (repeat first | refine goH ?_ | apply LH.here | apply LH.next); refine ⟨rfl, ?_⟩; (repeat first | refine goH ?_ | apply LH.here | apply LH.next); refine ⟨rfl, ?_⟩; (repeat first | refine goH ?_ | apply LH.here | apply LH.next)) | (apply LC.twoK (fun hne => whdr_c w q hne l i hi m c s a _ hf); (repeat first | refine goH ?_ | apply LH.here | apply LH.next); refine ⟨rfl, ?_⟩; (repeat first | refine goH ?_ | apply LH.here | apply LH.next); refine ⟨rfl, ?_⟩; (repeat first | refine goH ?_ | apply LH.here | apply LH.next)) | (apply LC.twoK (fun hne => wO w q hne l i hi m c s a _); (repeat first | refine goH ?_ | apply LH.here | apply LH.next); refine ⟨rfl, ?_⟩; (repeat first | refine goH ?_ | apply LH.here | apply LH.next); refine ⟨rfl, ?_⟩; (repeat first | refine goH ?_ | apply LH.here | apply LH.next)) | refine goE ?_) | refine T.s ?_ | ((first | apply goB | apply AB.dec | apply AB.gen) <;> intro h <;> try (exfalso; omega)) | refine LQ.mk fun r => ?_ | (show SQ _ _ _ _ _ _ _; first | refine gX 3 [0, 3] [0, 1, 2, 3, 4, 5] [] ?_ | refine gX 11 [0, 3] [0, 1, 2, 3, 4, 5] [] ?_) | exact T.z | fail) <;> conv => whnf)
       all_goals (try dsimp only)
       all_goals first
         | (exfalso; omega)
         | ((show RL _ _ _; refine goR ?_); try rfl)
         | trace_state
     · rw [reb3 h4 hfi h1]
       refine goW [] Tryz.func65 rfl ?_
       conv => whnf
       repeat' ((first | exact Nm.b 0 | (show LC _ _ _ _ _ _; first | (apply LC.twoK (fun hne => wnum_c w q hne l i hi m c s a); (repeat first | refine goH ?_ | apply LH.here | apply LH.next); refine ⟨rfl, ?_⟩; (repeat first | refine goH ?_ | apply LH.here | apply LH.next); refine ⟨rfl, ?_⟩; (repeat first | refine goH ?_ | apply LH.here | apply LH.next)) | (apply LC.twoK (fun hne => whdr_c w q hne l i hi m c s a _ hf); (repeat first | refine goH ?_ | apply LH.here | apply LH.next); refine ⟨rfl, ?_⟩; (repeat first | refine goH ?_ | apply LH.here | apply LH.next); refine ⟨rfl, ?_⟩; (repeat first | refine goH ?_ | apply LH.here | apply LH.next)) | (apply LC.twoK (fun hne => wO w q hne l i hi m c s a _); (repeat first | refine goH ?_ | apply LH.here | apply LH.next); refine ⟨rfl, ?_⟩; (repeat first | refine goH ?_ | apply LH.here | apply LH.next); refine ⟨rfl, ?_⟩; (repeat first | refine goH ?_ | apply LH.here | apply LH.next)) | refine LC.pure (hl) ?_ | refine goE ?_) | refine T.s ?_ | ((first | apply goB | apply AB.dec | apply AB.gen) <;> intro h <;> try (exfalso; omega)) | refine LQ.mk fun r => ?_ | (show SQ _ _ _ _ _ _ _; first | refine gX 3 [0, 3] [0, 1, 2, 3, 4, 5] [] ?_ | refine gX 11 [0, 3] [0, 1, 2, 3, 4, 5] [] ?_) | exact T.z | fail) <;> conv => whnf)
       all_goals (try dsimp only)
       all_goals first
         | (exfalso; omega)
         | ((show RL _ _ _; refine goR ?_); try rfl)
         | trace_state
open Go.RowKit
variable {G : Nat → AV}
section
variable {m c : Int} {r : Rc} {s : Sm} {hd : Hd}
theorem acc_y (h : s.f = 4 ∨ s.f = 5) : yL r s hd = ⟨2, hd, s.d, 0⟩ := by unfold yL; rw [if_pos h]
theorem acc_n (h : ¬ (s.f = 4 ∨ s.f = 5)) : yL r s hd = ⟨2, hd, r.dy, 0⟩ := by unfold yL; rw [if_neg h]
theorem ack_y (h : m = 3 ∨ m = 2 ∧ (s.f = 4 ∨ s.f = 5)) : ackR m c s hd = [⟨c, 0, hd.num⟩] := by unfold ackR; rw [if_pos h]
theorem ack_n (h : ¬ (m = 3 ∨ m = 2 ∧ (s.f = 4 ∨ s.f = 5))) : ackR m c s hd = [] := by unfold ackR; rw [if_neg h]
theorem er1 (he : 0 ≤ r.er ∧ r.er < 3) : q7 .add .i64 r.er 1 = r.er + 1 := by (exact T.num)
theorem st1 (he : 0 ≤ r.st ∧ r.st ≤ 2) : q7 .sub .i64 r.st 1 = r.st - 1 := by (exact T.num)
theorem refR1 (he : 0 ≤ r.er ∧ r.er < 3) (h : q7 .add .i64 r.er 1 < 3) : ku r = { r with er := q7 .add .i64 r.er 1 } := by
 rw [er1 he] at h ⊢; unfold ku; rw [if_pos h]
theorem refR2 (he : 0 ≤ r.er ∧ r.er < 3) (hs : 0 ≤ r.st ∧ r.st ≤ 2) (h : ¬ q7 .add .i64 r.er 1 < 3) (h2 : q7 .sub .i64 r.st 1 ≤ 0) : ku r = Rc.z := by
 rw [er1 he] at h; rw [st1 hs] at h2; unfold ku; rw [if_neg h, if_pos h2]
theorem refR3 (he : 0 ≤ r.er ∧ r.er < 3) (hs : 0 ≤ r.st ∧ r.st ≤ 2) (h : ¬ q7 .add .i64 r.er 1 < 3) (h2 : ¬ q7 .sub .i64 r.st 1 ≤ 0) : ku r = { r with er := 0, st := q7 .sub .i64 r.st 1 } := by
 rw [er1 he] at h; rw [st1 hs] at h2 ⊢; unfold ku; rw [if_neg h, if_neg h2]
end
theorem rcs_er (x : Rc) (v : Int) : Rc.cs { x with er := v } = qo (Rc.cs x) 18 [.int .i64 v] := rfl
theorem rcs_st (x : Rc) (v : Int) : Rc.cs { x with st := v } = qo (Rc.cs x) 0 [.int .i64 v] := rfl
theorem rcs_la (x : Rc) (h : Hd) : Rc.cs { x with la := h } = qo (Rc.cs x) 1 [.int .i64 h.k, .int .i64 h.tos, .int .i64 h.id, .int .i64 h.fx, .int .i64 h.ttl, .int .i64 h.fr, .int .i64 h.to, .int .i64 h.fp, .int .i64 h.tp, .int .i64 h.ck, .int .i64 h.mr, .int .i64 h.ty, .int .i64 h.sq, .int .i64 h.tm, .int .i64 h.sr] := rfl
theorem rcs_dy (x : Rc) (d : Dy) : Rc.cs { x with dy := d } = qo (Rc.cs x) 16 [.int .i64 d.st, .int .i64 d.fo] := rfl
theorem rcs_z (x : Rc) : Rc.cs Rc.z = qo (Rc.cs x) 0 [.int .i64 0, .int .i64 0, .int .i64 0, .int .i64 0, .int .i64 0, .int .i64 0, .int .i64 0, .int .i64 0, .int .i64 0, .int .i64 0, .int .i64 0, .int .i64 0, .int .i64 0, .int .i64 0, .int .i64 0, .int .i64 0, .int .i64 0, .int .i64 0, .int .i64 0] := rfl
theorem wref_c (w q : Nm) (hne : w ≠ q) (l : List Rc) (i : Nat) (hi : i < l.length) (m c : Int) (s : Sm) (a : AV) (x : Rc) (he : 0 ≤ x.er ∧ x.er < 3) (hs : 0 ≤ x.st ∧ x.st ≤ 2) : LP Tryz.prog G 66 [.ptr w 0] [(w, ⟨112, wkC m c s a q (i * 19)⟩), (q, ⟨71, (l.set i x).flatMap Rc.cs⟩)] (fun _ => (.tup [], [(w, ⟨112, wkC m c s a q (i * 19)⟩), (q, ⟨71, (l.set i (ku x)).flatMap Rc.cs⟩)])) := by
 refine goW [] Tryz.func66 rfl ?_
 conv => whnf
 repeat' ((first | (refine And.intro ?_ ?_; (focus (first | (show _ ≤ (List.flatMap Rc.cs _).length; rw [qy Rc.cs_len, List.length_set]; dsimp only; omega) | with_reducible exact wc (j := 18) Rc.cs_len hi (by decide) | with_reducible exact wc (j := 0) Rc.cs_len hi (by decide) | exact T.kx | exact T.side))) | (show AC _ _ _; first | (apply AC.rset Rc.cs_len 18 _ hi; (focus omega); (focus exact Nat.le_of_ble_eq_true rfl); (focus rfl)) | (apply AC.rset Rc.cs_len 0 _ hi; (focus omega); (focus exact Nat.le_of_ble_eq_true rfl); (focus rfl))) | (show AQ _ _; first | (refine AQ.rset Rc.cs_len 18 _ hi ?_ ?_ (rcs_er _ _) ?_; (focus omega); (focus exact Nat.le_of_ble_eq_true rfl)) | (refine AQ.rset Rc.cs_len 0 _ hi ?_ ?_ (rcs_st _ _) ?_; (focus omega); (focus exact Nat.le_of_ble_eq_true rfl)) | (refine AQ.rset Rc.cs_len 0 _ hi ?_ ?_ (rcs_z _) ?_; (focus omega); (focus exact Nat.le_of_ble_eq_true rfl))) | refine T.s ?_ | ((first | apply goB | apply AB.dec | apply AB.gen) <;> intro h <;> try (exfalso; omega)) | refine LQ.mk fun r => ?_ | exact T.z | fail) <;> conv => whnf)
 all_goals (try dsimp only)
 · rw [refR1 he (by assumption)]
   (show RL _ _ _; refine goR ?_)
   rfl
 · rw [refR2 he hs (by assumption) (by assumption)]
   (show RL _ _ _; refine goR ?_)
   rfl
 · rw [refR3 he hs (by assumption) (by assumption)]
   (show RL _ _ _; refine goR ?_)
   rfl
theorem wfb_s (w q : Nm) (hne : w ≠ q) (l : List Rc) (i : Nat) (hi : i < l.length) (m c : Int) (s : Sm) (a : AV) (x : Rc) (k : Int) : LP Tryz.prog G 104 [.ptr w 0, iAV k] [(w, ⟨112, wkC m c s a q (i * 19)⟩), (q, ⟨71, (l.set i x).flatMap Rc.cs⟩)] (fun _ => (fbv [⟨c, k, x.la.num⟩], [(w, ⟨112, wkC m c s a q (i * 19)⟩), (q, ⟨71, (l.set i x).flatMap Rc.cs⟩)])) := by
 have h := wfb_c (G := G) w q hne (l.set i x) i (by simpa using hi) m c s a k
 rwa [set_gt hi] at h
theorem wcomp_s (w q : Nm) (hne : w ≠ q) (l : List Rc) (i : Nat) (hi : i < l.length) (m c : Int) (s : Sm) (a : AV) (x : Rc) : LP Tryz.prog G 64 [.ptr w 0] [(w, ⟨112, wkC m c s a q (i * 19)⟩), (q, ⟨71, (l.set i x).flatMap Rc.cs⟩)] (fun _ => (fbv (xJ m c x), [(w, ⟨112, wkC m c s a q (i * 19)⟩), (q, ⟨71, (l.set i x).flatMap Rc.cs⟩)])) := by
 have h := wcomp_c (G := G) w q hne (l.set i x) i (by simpa using hi) m c s a
 rwa [set_gt hi] at h
theorem wacc_c (w q : Nm) (hne : w ≠ q) (l : List Rc) (i : Nat) (hi : i < l.length) (m c : Int) (s : Sm) (a : AV) (x : Rc) (hd : Hd) : LP Tryz.prog G 68 [.ptr w 0, hd.av] [(w, ⟨112, wkC m c s a q (i * 19)⟩), (q, ⟨71, (l.set i x).flatMap Rc.cs⟩)] (fun _ => (fbv (ackR m c s hd), [(w, ⟨112, wkC m c s a q (i * 19)⟩), (q, ⟨71, (l.set i (yL x s hd)).flatMap Rc.cs⟩)])) := by
 refine goW [] Tryz.func68 rfl ?_
 conv => whnf
 repeat' ((first | exact Nm.b 0 | (refine And.intro ?_ ?_; (focus (first | (show _ ≤ (List.flatMap Rc.cs _).length; rw [qy Rc.cs_len, List.length_set]; dsimp only; omega) | with_reducible exact wc (j := 18) Rc.cs_len hi (by decide) | with_reducible exact wc (j := 0) Rc.cs_len hi (by decide) | with_reducible exact wc (j := 1) Rc.cs_len hi (by decide) | with_reducible exact wc (j := 16) Rc.cs_len hi (by decide) | exact T.kx | exact T.side))) | (show LC _ _ _ _ _ _; first | (apply LC.twoK (fun hne => wfb_s w q hne l i hi m c s a _ _); (repeat first | refine goH ?_ | apply LH.here | apply LH.next); refine ⟨rfl, ?_⟩; (repeat first | refine goH ?_ | apply LH.here | apply LH.next); refine ⟨rfl, ?_⟩; (repeat first | refine goH ?_ | apply LH.here | apply LH.next)) | refine goE ?_) | (show AQ _ _; first | (refine AQ.rset Rc.cs_len 18 _ hi ?_ ?_ (rcs_er _ _) ?_; (focus omega); (focus exact Nat.le_of_ble_eq_true rfl)) | (refine AQ.rset Rc.cs_len 0 _ hi ?_ ?_ (rcs_st _ _) ?_; (focus omega); (focus exact Nat.le_of_ble_eq_true rfl)) | (refine AQ.rset Rc.cs_len 1 _ hi ?_ ?_ (rcs_la _ hd) ?_; (focus omega); (focus exact Nat.le_of_ble_eq_true rfl)) | (refine AQ.rset Rc.cs_len 16 _ hi ?_ ?_ (rcs_dy _ s.d) ?_; (focus omega); (focus exact Nat.le_of_ble_eq_true rfl))) | refine T.s ?_ | ((first | apply goB | apply AB.dec | apply AB.gen) <;> intro h <;> try (exfalso; omega)) | refine LQ.mk fun r => ?_ | (show SQ _ _ _ _ _ _ _; first | refine gX 2 [12, 15] [0, 1, 2, 3, 4, 5, 6, 7, 8, 9, 10, 11, 12, 13, 14, 15, 16, 17, 18, 19, 20, 21] [q] ?_ | refine gX 4 [] [0, 1, 2, 3, 4, 5, 6, 7, 8, 9, 10, 11] [q] ?_) | exact T.z | fail) <;> conv => whnf)
 all_goals (try dsimp only)
 all_goals first
   | (exfalso; omega)
   | (rw [acc_y (by omega), ack_y (by omega)]; (show RL _ _ _; refine goR ?_); rfl)
   | (rw [acc_n (by omega), ack_y (by omega)]; (show RL _ _ _; refine goR ?_); rfl)
   | (rw [acc_y (by omega), ack_n (by omega)]; exact RL.frz [] (LF.nils rfl rfl) T.subs)
   | (rw [acc_n (by omega), ack_n (by omega)]; exact RL.frz [] (LF.nils rfl rfl) T.subs)
   | trace_state
theorem kO (f : Int) : LP Tryz.prog G 63 [iAV f] [] (fun _ => (iAV (zw f), [])) := by
 refine goW [] Tryz.func63 rfl ?_
 conv => whnf
 repeat' ((first | refine T.s ?_ | ((first | apply goB | apply AB.dec | apply AB.gen) <;> intro h <;> try (exfalso; omega)) | refine LQ.mk fun r => ?_ | exact T.z | fail) <;> conv => whnf)
 all_goals (try dsimp only)
 all_goals
   (show RL _ _ _; refine goR ?_)
   unfold zw
   simp only [iAV, *, if_true, if_false]
   try rfl
open Go.RowKit
theorem rdr_app (n : Nat) (a l : List UInt8) (ha : a.length = n) (h : (a ++ l).length ≤ 140737488355328) : rtk n (rdr (a ++ l) h) = rdr l (by simp at h; omega) := by
 refine Subtype.ext ?_
 unfold rtk rdr
 show tkR n (some (a ++ l)) = some l
 have e : tkR n (some (a ++ l)) = some ((a ++ l).drop n) := if_neg (by simp; omega)
 rw [e, ← ha]
 simp
theorem rdr1 (c : UInt8) (l : List UInt8) (h : (c :: l).length ≤ 140737488355328) : rtk 1 (rdr (c :: l) h) = rdr l (by simp at h; omega) := rdr_app 1 [c] l rfl h
theorem b8_nat (v : Int) : ((b8 v).toNat : Int) = v % 256 := by
 have h := qT v
 unfold bAV at h
 have h2 := (AV.int.inj h).2
 rwa [IntKind.wrap_u8] at h2
theorem rE_rdr (l : List UInt8) (h : l.length ≤ 140737488355328) : rE (rdr l h) = false := by unfold rE rdr; rfl
theorem rL_rdr (l : List UInt8) (h : l.length ≤ 140737488355328) : rL (rdr l h) = l := by unfold rL rdr; rfl
def sumL (s : Sm) : List UInt8 := if kc s = 0 then [] else qG (kc s) 2
theorem Sm.low (s : Sm) (h : s.ok = true) (hf : s.f = 1 ∨ s.f = 2 ∨ s.f = 3) : s = { s0 s.cx s.f with n := s.n, tm := s.tm, mr := s.mr, id := s.id, ud := s.ud, h := Hd.mk s.h.k 0 0 0 0 0 0 0 0 0 0 0 0 0 0, ck := s.ck, pl := s.pl } ∧ (s.h.k = 1 ∨ s.h.k = 2) ∧ (0 ≤ s.ud ∧ s.ud ≤ 65535) ∧ zH s = true ∧ qW (cbR s.f) s.ck = true := by
 obtain ⟨h1, h2, h3⟩ := s.of h
 rcases h3 with ⟨h3, h4, h5, h6, h7⟩ | ⟨h3, -⟩ | ⟨h3, -⟩
 · refine ⟨?_, h5, ?_, h4, h2⟩
   · unfold hzR at h6
     unfold dzR at h7
     simp only [decide_eq_true_eq] at h6 h7
     obtain ⟨cx, f, n, tm, mr, id, ud, ⟨k, tos, hid, fx, ttl, fr, to, fp, tp, hck, hmr, ty, sq, htm, sr⟩, ⟨st, fo⟩, ck, pl⟩ := s
     simp only at h6 h7
     obtain ⟨-, rfl, rfl, rfl, rfl, rfl, rfl, rfl, rfl, rfl, rfl, rfl, rfl, rfl, rfl⟩ := h6
     obtain ⟨rfl, rfl⟩ := h7
     rfl
   · unfold zH at h4
     simp only [Bool.and_eq_true] at h4
     have := (xC 16 s.ud).1 h4.2.2.2.2
     omega
 · omega
 · omega
theorem low1 (s : Sm) (hf : s.f = 1) (h : zH s = true) (hc : qW (cbR s.f) s.ck = true) : (0 ≤ s.n ∧ s.n ≤ 15) ∧ s.tm = 0 ∧ s.mr = 0 ∧ s.id = 0 ∧ 0 ≤ s.ck ∧ s.ck ≤ 7 := by
 unfold zH at h
 rw [hf] at h hc
 simp only [Bool.and_eq_true] at h
 have a := (xC 4 s.n).1 h.1
 have b := (xC 0 s.tm).1 h.2.1
 have c := (xC 0 s.mr).1 h.2.2.1
 have d := (xC 0 s.id).1 h.2.2.2.1
 have e := (xC 3 s.ck).1 hc
 omega
theorem low2T (s : Sm) (hf : s.f = 2) (hk : s.h.k = 2) (h : zH s = true) (hc : qW (cbR s.f) s.ck = true) : (0 ≤ s.n ∧ s.n ≤ 31) ∧ (0 ≤ s.tm ∧ s.tm ≤ 65535) ∧ (0 ≤ s.mr ∧ s.mr ≤ 1) ∧ s.id = 0 ∧ 0 ≤ s.ck ∧ s.ck ≤ 127 := by
 unfold zH at h
 rw [hf, hk] at h
 rw [hf] at hc
 simp only [Bool.and_eq_true] at h
 have a := (xC 5 s.n).1 h.1
 have b := (xC 16 s.tm).1 h.2.1
 have c := (xC 1 s.mr).1 h.2.2.1
 have d := (xC 0 s.id).1 h.2.2.2.1
 have e := (xC 7 s.ck).1 hc
 omega
theorem low2U (s : Sm) (hf : s.f = 2) (hk : s.h.k = 1) (h : zH s = true) (hc : qW (cbR s.f) s.ck = true) : (0 ≤ s.n ∧ s.n ≤ 31) ∧ s.tm = 0 ∧ s.mr = 0 ∧ s.id = 0 ∧ 0 ≤ s.ck ∧ s.ck ≤ 127 := by
 unfold zH at h
 rw [hf, hk] at h
 rw [hf] at hc
 simp only [Bool.and_eq_true] at h
 have a := (xC 5 s.n).1 h.1
 have b := (xC 0 s.tm).1 h.2.1
 have c := (xC 0 s.mr).1 h.2.2.1
 have d := (xC 0 s.id).1 h.2.2.2.1
 have e := (xC 7 s.ck).1 hc
 omega
theorem low3T (s : Sm) (hf : s.f = 3) (hk : s.h.k = 2) (h : zH s = true) (hc : qW (cbR s.f) s.ck = true) : (0 ≤ s.n ∧ s.n ≤ 255) ∧ (0 ≤ s.tm ∧ s.tm ≤ 4294967295) ∧ (0 ≤ s.mr ∧ s.mr ≤ 1) ∧ (0 ≤ s.id ∧ s.id ≤ 65535) ∧ 0 ≤ s.ck ∧ s.ck ≤ 255 := by
 unfold zH at h
 rw [hf, hk] at h
 rw [hf] at hc
 simp only [Bool.and_eq_true] at h
 have a := (xC 8 s.n).1 h.1
 have b := (xC 32 s.tm).1 h.2.1
 have c := (xC 1 s.mr).1 h.2.2.1
 have d := (xC 16 s.id).1 h.2.2.2.1
 have e := (xC 8 s.ck).1 hc
 omega
theorem low3U (s : Sm) (hf : s.f = 3) (hk : s.h.k = 1) (h : zH s = true) (hc : qW (cbR s.f) s.ck = true) : (0 ≤ s.n ∧ s.n ≤ 65535) ∧ s.tm = 0 ∧ s.mr = 0 ∧ s.id = 0 ∧ 0 ≤ s.ck ∧ s.ck ≤ 255 := by
 unfold zH at h
 rw [hf, hk] at h
 rw [hf] at hc
 simp only [Bool.and_eq_true] at h
 have a := (xC 16 s.n).1 h.1
 have b := (xC 0 s.tm).1 h.2.1
 have c := (xC 0 s.mr).1 h.2.2.1
 have d := (xC 0 s.id).1 h.2.2.2.1
 have e := (xC 8 s.ck).1 hc
 omega
theorem bL1 (s : Sm) (h : s.f = 1) : qD s = [b8 (8 * s.n + s.ck)] := by unfold qD; rw [if_pos h]
theorem bL2T (s : Sm) (h : s.f = 2) (hk : s.h.k = 2) : qD s = b8 (32 * (4 + s.mr) + s.n) :: (qG s.tm 2 ++ [b8 s.ck]) := by unfold qD; rw [if_neg (by omega), if_pos h, if_pos hk]; rfl
theorem bL2U (s : Sm) (h : s.f = 2) (hk : s.h.k = 1) : qD s = b8 (32 * (4 + s.mr) + s.n) :: [b8 s.ck] := by unfold qD; rw [if_neg (by omega), if_pos h, if_neg (by omega)]; rfl
theorem bL3T (s : Sm) (h : s.f = 3) (hk : s.h.k = 2) : qD s = b8 (192 + s.mr) :: b8 s.n :: (qG s.tm 4 ++ (qG s.id 2 ++ [b8 s.ck])) := by unfold qD; rw [if_neg (by omega), if_neg (by omega), if_pos h, if_pos hk, if_pos hk]; simp
theorem bL3U (s : Sm) (h : s.f = 3) (hk : s.h.k = 1) : qD s = b8 (192 + s.mr) :: (qG s.n 2 ++ [b8 s.ck]) := by unfold qD; rw [if_neg (by omega), if_neg (by omega), if_pos h, if_neg (by omega), if_neg (by omega)]; simp
theorem bL4 (s : Sm) (h : s.f = 4) : qD s = b8 208 :: (wK s.h s.d ++ [b8 s.ck]) := by unfold qD; rw [if_neg (by omega), if_neg (by omega), if_neg (by omega), if_pos h]; rfl
theorem bL5 (s : Sm) (h : s.f = 5) : qD s = b8 209 :: (jO s.h ++ (wK s.h s.d ++ [b8 s.ck])) := by unfold qD; rw [if_neg (by omega), if_neg (by omega), if_neg (by omega), if_neg (by omega), if_pos h]; rfl
theorem bL6 (s : Sm) (h : s.f = 6) : qD s = [b8 210] := by unfold qD; rw [if_neg (by omega), if_neg (by omega), if_neg (by omega), if_neg (by omega), if_neg (by omega)]
open Go.RowKit
theorem b8_v {v : Int} (h : 0 ≤ v ∧ v ≤ 255) : ((b8 v).toNat : Int) = v := by rw [b8_nat]; omega
theorem body_head (s : Sm) (h : s.ok = true) : ∃ c r, qD s = c :: r ∧ fmR c = s.f ∧ c.toNat < 224 ∧ (c.toNat = 210 → s.cx = 0) := by
 obtain ⟨h1, h2, h3⟩ := s.of h
 rcases h3 with ⟨h3, h4, h5, -, -⟩ | ⟨h3 | h3, -⟩ | ⟨h3, -, h4, -⟩
 · rcases h3 with hf | hf | hf
   · have a := low1 s hf h4 h2
     have e : ((b8 (8 * s.n + s.ck)).toNat : Int) = 8 * s.n + s.ck := b8_v (by omega)
     exact ⟨_, _, bL1 s hf, by rw [hf]; exact fm1 (by omega), by omega, by omega⟩
   · rcases h5 with hk | hk
     · have a := low2U s hf hk h4 h2
       have e : ((b8 (32 * (4 + s.mr) + s.n)).toNat : Int) = 32 * (4 + s.mr) + s.n := b8_v (by omega)
       exact ⟨_, _, bL2U s hf hk, by rw [hf]; exact fm2 (by omega), by omega, by omega⟩
     · have a := low2T s hf hk h4 h2
       have e : ((b8 (32 * (4 + s.mr) + s.n)).toNat : Int) = 32 * (4 + s.mr) + s.n := b8_v (by omega)
       exact ⟨_, _, bL2T s hf hk, by rw [hf]; exact fm2 (by omega), by omega, by omega⟩
   · rcases h5 with hk | hk
     · have a := low3U s hf hk h4 h2
       have e : ((b8 (192 + s.mr)).toNat : Int) = 192 + s.mr := b8_v (by omega)
       exact ⟨_, _, bL3U s hf hk, by rw [hf]; exact fm3 (by omega), by omega, by omega⟩
     · have a := low3T s hf hk h4 h2
       have e : ((b8 (192 + s.mr)).toNat : Int) = 192 + s.mr := b8_v (by omega)
       exact ⟨_, _, bL3T s hf hk, by rw [hf]; exact fm3 (by omega), by omega, by omega⟩
 · exact ⟨_, _, bL4 s h3, by rw [h3]; rfl, by decide, fun hh => absurd hh (by decide)⟩
 · exact ⟨_, _, bL5 s h3, by rw [h3]; rfl, by decide, fun hh => absurd hh (by decide)⟩
 · exact ⟨_, _, bL6 s h3, by rw [h3]; rfl, by decide, fun _ => h4.1⟩
theorem hdL_s (s : Sm) : hdL s = xq s ++ (qD s ++ sumL s) := rfl
theorem pre_pos {s : Sm} (h : 0 < s.cx) : xq s = [b8 (224 + s.cx)] := if_pos h
theorem pre_neg {s : Sm} (h : ¬ 0 < s.cx) : xq s = [] := if_neg h
theorem ret_peek (s : Sm) (h : s.ok = true) (l : List UInt8) : ql (hdL s ++ l) = (s.cx, s.f, 0) := by
 obtain ⟨c, r, e, hf, hc, h0⟩ := body_head s h
 obtain ⟨h1, -, -⟩ := s.of h
 have h6 : 1 ≤ s.f := by
   obtain ⟨-, -, h3⟩ := s.of h
   omega
 rw [hdL_s, e]
 by_cases hx : 0 < s.cx
 · rw [pre_pos hx]
   have e1 : ((b8 (224 + s.cx)).toNat : Int) = 224 + s.cx := b8_v (by omega)
   show (if 224 ≤ (b8 (224 + s.cx)).toNat ∧ (b8 (224 + s.cx)).toNat < 240 then (if (b8 (224 + s.cx)).toNat = 224 ∨ fmR c = 0 ∨ c.toNat = 210 then ((0, 0, 4) : Int × Int × Int) else (((b8 (224 + s.cx)).toNat : Int) - 224, fmR c, 0)) else if fmR (b8 (224 + s.cx)) = 0 then (0, 0, 4) else (0, fmR (b8 (224 + s.cx)), 0)) = _
   rw [if_pos (by omega), if_neg (by omega), hf, e1]
   rw [show 224 + s.cx - 224 = s.cx by omega]
 · rw [pre_neg hx]
   show (if 224 ≤ c.toNat ∧ c.toNat < 240 then _ else if fmR c = 0 then ((0, 0, 4) : Int × Int × Int) else (0, fmR c, 0)) = _
   rw [if_neg (by omega), if_neg (by omega), hf, show s.cx = 0 by omega]
open Go.RowKit
theorem Sm.big (s : Sm) (h : s.ok = true) (hf : s.f = 4 ∨ s.f = 5) : (s.n = 0 ∧ s.tm = 0 ∧ s.mr = 0 ∧ s.id = 0 ∧ s.ud = 0) ∧ s.h.ok = true ∧ s.d.ok = true ∧ (s.h.k = 1 → s.d.st = 0 ∧ s.d.fo = 0) ∧ (s.f = 5 ∨ s.h.fr = 0 ∧ s.h.to = 0 ∧ s.h.fp = 0 ∧ s.h.tp = 0 ∧ s.h.sr = 0) ∧ qW (cbR s.f) s.ck = true := by
 obtain ⟨h1, h2, h3⟩ := s.of h
 rcases h3 with ⟨h3, -⟩ | ⟨h3, h4, h5⟩ | ⟨h3, -⟩
 · omega
 · unfold jD at h4
   unfold xP szR dzR at h5
   simp only [Bool.and_eq_true, decide_eq_true_eq, Bool.or_eq_true, Bool.not_eq_true', Bool.and_eq_false_iff, decide_eq_false_iff_not, Bool.not_eq_false', Decidable.not_not] at h4 h5
   refine ⟨h4, h5.1, h5.2.1, fun hk => ?_, h5.2.2.2, h2⟩
   rcases h5.2.2.1 with e | e
   · exact absurd hk e
   · exact e
 · omega
open Go.RowKit
variable {G : Nat → AV}
theorem xQ (t : List Int) (a : Nat) (b : List UInt8) : (zh t a b).length ≤ b.length + 1 := by
 unfold zh
 (repeat' split) <;> simp <;> omega
theorem enc_ok {s : Sm} (h : s.ok = true) : zu s = (hdL s ++ s.pl, 0) := if_pos h
end Go.Proofs.YtkfpgdckdmlhkaaGreatDoor
