import Derived.Test.YtkfpgdckdmlhkaaGreatDoorDp31
import Derived.Test.YtkfpgdckdmlhkaaGreatDoorDp20
import Derived.Test.YtkfpgdckdmlhkaaGreatDoorDp18
set_option maxHeartbeats 4000000
namespace Go.Proofs.YtkfpgdckdmlhkaaGreatDoor
open Go.RowKit
set_option linter.all false
variable {G : Nat → AV}
theorem lsb16_rng (r k l : Int) : 0 ≤ (lsbR 16 r k l).1 ∧ (lsbR 16 r k l).1 < 65536 := by
 unfold lsbR
 split
 · split
   · exact ⟨by decide, by decide⟩
   · exact lw_rng 16 _
 · exact ⟨by decide, by decide⟩
theorem hdr5 {r : Rc} {s : Sm} {n : Int} (h : s.f = 5) : hdrD r s n = s.h := by unfold hdrD; rw [if_pos h]
theorem hdr4 {r : Rc} {s : Sm} {n : Int} (h : s.f = 4) : hdrD r s n = { s.h with fr := r.la.fr, to := r.la.to, fp := r.la.fp, tp := r.la.tp, sr := r.la.sr } := by unfold hdrD; rw [if_neg (by omega), if_pos h]
theorem numA {r : Rc} {s : Sm} (hn : 0 ≤ s.n ∧ s.n < 65536) : 0 ≤ numD r s ∧ numD r s < 65536 := by
 unfold numD
 split
 · exact hn
 · exact lsb16_rng _ _ _
theorem hdr1 {r : Rc} {s : Sm} {n : Int} (h1 : ¬ s.f = 4) (h2 : ¬ s.f = 5) (h3 : ¬ r.la.k = 2) : hdrD r s n = { predR r.dy r.la n with ck := s.ud } := by unfold hdrD; rw [if_neg h2, if_neg h1, if_neg h3]
theorem hdr1t {r : Rc} {s : Sm} {n : Int} (h1 : s.f = 1) (h3 : r.la.k = 2) : hdrD r s n = { predR r.dy r.la n with ck := s.ud } := by unfold hdrD; rw [if_neg (by omega), if_neg (by omega), if_pos h3, if_neg (by omega), if_neg (by omega)]
theorem hdr2t {r : Rc} {s : Sm} {n : Int} (h1 : s.f = 2) (h3 : r.la.k = 2) : hdrD r s n = { predR r.dy r.la n with ck := s.ud, mr := s.mr, tm := (lsbR 32 r.la.tm 16 s.tm).1 } := by unfold hdrD; rw [if_neg (by omega), if_neg (by omega), if_pos h3, if_pos h1]
theorem hdr3t {r : Rc} {s : Sm} {n : Int} (h1 : s.f = 3) (h3 : r.la.k = 2) : hdrD r s n = { predR r.dy r.la n with ck := s.ud, mr := s.mr, tm := s.tm, id := s.id } := by unfold hdrD; rw [if_neg (by omega), if_neg (by omega), if_pos h3, if_neg (by omega), if_pos h1]
open Go.RowKit
theorem wright_c (w q : Nm) (hne : w ≠ q) (l : List Rc) (i : Nat) (hi : i < l.length) (m c : Int) (s : Sm) (a : AV) (hd : Hd) : LP Tryz.prog gm 106 [.ptr w 0, hd.av] [(w, ⟨112, wkC m c s a q (i * 19)⟩), (q, ⟨71, l.flatMap Rc.cs⟩)] (fun _ => (.bool (fitD s hd), [(w, ⟨112, wkC m c s a q (i * 19)⟩), (q, ⟨71, l.flatMap Rc.cs⟩)])) := by
 have h1 := csum_c (cbR s.f) (headL hd) (by have := headL_le hd; omega)
 have h0 := csum_c (cbR s.f) [] (by decide)
 rw [crcO_cb] at h1 h0
 cases ko : hd.ok with
 | true =>
   have ec : crcH s.f hd = crcS (cbR s.f) (headL hd) := by unfold crcH headO; rw [if_pos ko]
   by_cases k : hd.k = 1
   · have h2 : LP Tryz.prog gm 129 [iAV (cbR s.f), bv ((headL hd ++ List.replicate 12 0).take 28)] [] (fun _ => (.tup [iAV (crcS (cbR s.f) (headL hd)), iAV 0], [])) := by
       rw [List.take_left' (by rw [headL_len, if_neg (by omega)])]
       exact h1
     have hl : (headL hd).length = 28 := by rw [headL_len, if_neg (by omega)]
     refine goW [] Tryz.func106 rfl ?_
     conv => whnf
     repeat' ((first
       | exact Nm.b 0
       | (show LC _ _ _ _ _ _; first | refine LC.pure (cbits_c8 _) ?_ | refine LC.own (phead_1 hd ko k) ?_ | refine LC.mk' (h2) [_] ⟨LF.eq rfl, LF.vc (LF.headB InL.here ?_), trivial⟩ ?_ | refine goE ?_)
       | refine T.s ?_
       | ((first | refine goB (fun h => ?_) (fun h => ?_) | refine AB.dec (fun h => ?_) (fun h => ?_) | refine AB.gen (fun h => ?_) (fun h => ?_)) <;> try (exfalso; omega))
       | refine LFresh.mk fun r => ?_
       | (show SQ _ _ _ _ _ _ _; first | refine gX 1 [6, 5] [0, 1, 2, 3, 4, 6, 5, 7, 8, 9, 10, 11, 12, 13] [] ?_)
       | exact T.z
       | fail) <;> conv => whnf)
     all_goals (try dsimp only)
     all_goals first | ((show RL _ _ _; refine goR ?_); unfold fitD; rw [ec]; rfl) | exact Nat.le_trans (Nat.le_of_eq hl.symm) (by simp) | trace_state
   · have k2 : hd.k = 2 := by
       unfold Hd.ok at ko
       rw [if_neg k] at ko
       by_cases k2 : hd.k = 2
       · exact k2
       · rw [if_neg k2] at ko; cases ko
     have hl2 : (headL hd).length = 40 := by rw [headL_len, if_pos k2]
     refine goW [] Tryz.func106 rfl ?_
     conv => whnf
     repeat' ((first
       | exact Nm.b 0
       | (show LC _ _ _ _ _ _; first | refine LC.pure (cbits_c8 _) ?_ | refine LC.own (phead_2 hd ko k2) ?_ | refine LC.mk' (h1) [_] ⟨LF.eq rfl, LF.rowF InL.here ?_, trivial⟩ ?_ | refine goE ?_)
       | refine T.s ?_
       | ((first | refine goB (fun h => ?_) (fun h => ?_) | refine AB.dec (fun h => ?_) (fun h => ?_) | refine AB.gen (fun h => ?_) (fun h => ?_)) <;> try (exfalso; omega))
       | refine LFresh.mk fun r => ?_
       | (show SQ _ _ _ _ _ _ _; first | refine gX 1 [6, 5] [0, 1, 2, 3, 4, 6, 5, 7, 8, 9, 10, 11, 12, 13] [] ?_)
       | exact T.z
       | fail) <;> conv => whnf)
     all_goals (try dsimp only)
     all_goals first | ((show RL _ _ _; refine goR ?_); unfold fitD; rw [ec]; rfl) | exact hl2.symm | trace_state
 | false =>
   have ec : crcH s.f hd = crcS (cbR s.f) [] := by unfold crcH headO; rw [if_neg (by rw [ko]; decide)]
   refine goW [] Tryz.func106 rfl ?_
   conv => whnf
   repeat' ((first
     | exact Nm.b 0
     | (show LC _ _ _ _ _ _; first | refine LC.pure (cbits_c8 _) ?_ | refine LC.pure (phead_n hd ko) ?_ | refine LC.mk' (h0) [] ⟨LF.eq rfl, LF.nils rfl rfl, trivial⟩ ?_ | refine goE ?_)
     | refine T.s ?_
     | ((first | refine goB (fun h => ?_) (fun h => ?_) | refine AB.dec (fun h => ?_) (fun h => ?_) | refine AB.gen (fun h => ?_) (fun h => ?_)) <;> try (exfalso; omega))
     | refine LFresh.mk fun r => ?_
     | (show SQ _ _ _ _ _ _ _; first | refine gX 1 [6, 5] [0, 1, 2, 3, 4, 6, 5, 7, 8, 9, 10, 11, 12, 13] [] ?_)
     | exact T.z
     | fail) <;> conv => whnf)
   all_goals (try dsimp only)
   all_goals first | ((show RL _ _ _; refine goR ?_); unfold fitD; rw [ec]; rfl) | trace_state
theorem whdr_a (w q : Nm) (hne : w ≠ q) (l : List Rc) (i : Nat) (hi : i < l.length) (m c : Int) (s : Sm) (a : AV) (n : Int) (hf : s.f = 4 ∨ s.f = 5) : LP Tryz.prog gm 105 [.ptr w 0, iAV n] [(w, ⟨112, wkC m c s a q (i * 19)⟩), (q, ⟨71, l.flatMap Rc.cs⟩)] (fun _ => ((hdrD (l.getD i Rc.z) s n).av, [(w, ⟨112, wkC m c s a q (i * 19)⟩), (q, ⟨71, l.flatMap Rc.cs⟩)])) := by
 refine goW [] Tryz.func105 rfl ?_
 conv => whnf
 repeat' ((first
   | exact Nm.b 0
   | (refine And.intro ?_ ?_; (focus (first | exact sub_le Rc.cs_len hi (by decide) | exact T.kx | exact T.side)))
   | (show AC _ _ _; first | (refine AC.sub Rc.cs_len i 1 Rc.z _ rfl (by decide) hi rfl ?_))
   | refine T.s ?_
   | ((first | refine goB (fun h => ?_) (fun h => ?_) | refine AB.dec (fun h => ?_) (fun h => ?_) | refine AB.gen (fun h => ?_) (fun h => ?_)) <;> try (exfalso; omega))
   | refine LFresh.mk fun r => ?_
   | (show SQ _ _ _ _ _ _ _; first | refine gX 6 [3, 5, 7, 9, 11, 13, 15, 17] [0, 1, 2, 3, 4, 5, 6, 7, 8, 9, 10, 11, 12, 13, 14, 15, 16, 17, 18, 19] [r] ?_ | refine gX 8 [] [0, 1, 2, 3, 4, 5, 6, 7, 8, 9, 10, 11] [r] ?_ | refine gX 15 [] [0, 1, 2, 3, 4, 5, 6, 7, 8, 9, 10, 11, 12] [r] ?_ | refine gX 17 [9, 14, 16, 18] [0, 1, 2, 3, 4, 5, 6, 7, 8, 9, 10, 11, 12, 13, 14, 15, 16, 17, 18, 19, 20] [r] ?_)
   | exact T.z
   | fail) <;> conv => whnf)
 all_goals (try dsimp only)
 all_goals first
   | (exfalso; omega)
   | ((show RL _ _ _; refine goR ?_); rw [hdr5 (by assumption)]; try rfl)
   | ((show RL _ _ _; refine goR ?_); rw [hdr4 (by assumption)]; try rfl)
   | trace_state
theorem whdr_b (w q : Nm) (hne : w ≠ q) (l : List Rc) (i : Nat) (hi : i < l.length) (m c : Int) (s : Sm) (a : AV) (n : Int) (hf : s.f = 1 ∨ s.f = 2 ∨ s.f = 3) : LP Tryz.prog gm 105 [.ptr w 0, iAV n] [(w, ⟨112, wkC m c s a q (i * 19)⟩), (q, ⟨71, l.flatMap Rc.cs⟩)] (fun _ => ((hdrD (l.getD i Rc.z) s n).av, [(w, ⟨112, wkC m c s a q (i * 19)⟩), (q, ⟨71, l.flatMap Rc.cs⟩)])) := by
 refine goW [] Tryz.func105 rfl ?_
 conv => whnf
 repeat' ((first
   | exact Nm.b 0
   | (refine And.intro ?_ ?_; (focus (first | exact sub_le Rc.cs_len hi (by decide) | exact T.kx | exact T.side)))
   | (show LC _ _ _ _ _ _; first | refine LC.pure (fpred_c _ _ _) ?_ | refine LC.pure (ldecode_c _ _ _ _) ?_ | refine goE ?_)
   | (show AC _ _ _; first | (refine AC.sub Rc.cs_len i 1 Rc.z _ rfl (by decide) hi rfl ?_) | (refine AC.sub Rc.cs_len i 16 Rc.z _ rfl (by decide) hi rfl ?_))
   | refine T.s ?_
   | ((first | refine goB (fun h => ?_) (fun h => ?_) | refine AB.dec (fun h => ?_) (fun h => ?_) | refine AB.gen (fun h => ?_) (fun h => ?_)) <;> try (exfalso; omega))
   | refine LFresh.mk fun r => ?_
   | (show SQ _ _ _ _ _ _ _; first | refine gX 6 [3, 5, 7, 9, 11, 13, 15, 17] [0, 1, 2, 3, 4, 5, 6, 7, 8, 9, 10, 11, 12, 13, 14, 15, 16, 17, 18, 19] [r] ?_ | refine gX 8 [] [0, 1, 2, 3, 4, 5, 6, 7, 8, 9, 10, 11] [r] ?_ | refine gX 15 [] [0, 1, 2, 3, 4, 5, 6, 7, 8, 9, 10, 11, 12] [r] ?_ | refine gX 17 [9, 14, 16, 18] [0, 1, 2, 3, 4, 5, 6, 7, 8, 9, 10, 11, 12, 13, 14, 15, 16, 17, 18, 19, 20] [r] ?_)
   | exact T.z
   | fail) <;> conv => whnf)
 all_goals (try dsimp only)
 all_goals first
   | (exfalso; omega)
   | ((show RL _ _ _; refine goR ?_); rw [hdr1 (by omega) (by omega) (by omega)]; rfl)
   | ((show RL _ _ _; refine goR ?_); rw [hdr2t (by omega) (by omega)]; rfl)
   | ((show RL _ _ _; refine goR ?_); rw [hdr3t (by omega) (by omega)]; rfl)
   | ((show RL _ _ _; refine goR ?_); rw [hdr1t (by omega) (by omega)]; rfl)
   | trace_state
open Go.RowKit
theorem whdr_c (w q : Nm) (hne : w ≠ q) (l : List Rc) (i : Nat) (hi : i < l.length) (m c : Int) (s : Sm) (a : AV) (n : Int) (hf : 1 ≤ s.f ∧ s.f ≤ 5) : LP Tryz.prog gm 105 [.ptr w 0, iAV n] [(w, ⟨112, wkC m c s a q (i * 19)⟩), (q, ⟨71, l.flatMap Rc.cs⟩)] (fun _ => ((hdrD (l.getD i Rc.z) s n).av, [(w, ⟨112, wkC m c s a q (i * 19)⟩), (q, ⟨71, l.flatMap Rc.cs⟩)])) := by
 by_cases h : 4 ≤ s.f
 · exact whdr_a w q hne l i hi m c s a n (by omega)
 · exact whdr_b w q hne l i hi m c s a n (by omega)
theorem add16 (r : Rc) {s : Sm} (hn : 0 ≤ s.n ∧ s.n < 65536) : iarith .add .i64 (numD r s) 16 = numD r s + 16 := by
 have hN := numA (r := r) hn
 generalize numD r s = x at hN ⊢
 (exact T.num)
theorem reb4 {m : Int} {r : Rc} {s : Sm} (h : s.f = 4 ∨ s.f = 5) : rebR m r s = (hdrD r s 0, fitD s (hdrD r s 0)) := by unfold rebR; rw [if_pos h]
theorem reb1 {m : Int} {r : Rc} {s : Sm} (h : ¬ (s.f = 4 ∨ s.f = 5)) (hf : fitD s (hdrD r s (numD r s)) = true) : rebR m r s = (hdrD r s (numD r s), true) := by unfold rebR; rw [if_neg h, if_pos hf]
theorem reb2 {m : Int} {r : Rc} {s : Sm} (h : ¬ (s.f = 4 ∨ s.f = 5)) (hf : fitD s (hdrD r s (numD r s)) = false) (h1 : s.f ≠ 1 ∨ m = 3) : rebR m r s = (Hd.z, false) := by unfold rebR; rw [if_neg h, if_neg (by rw [hf]; decide), if_pos h1]
theorem reb3 {m : Int} {r : Rc} {s : Sm} (h : ¬ (s.f = 4 ∨ s.f = 5)) (hf : fitD s (hdrD r s (numD r s)) = false) (h1 : ¬ (s.f ≠ 1 ∨ m = 3)) : rebR m r s = (hdrD r s (lw 16 (numD r s + 16)), fitD s (hdrD r s (lw 16 (numD r s + 16)))) := by unfold rebR; rw [if_neg h, if_neg (by rw [hf]; decide), if_neg h1]
theorem wreb_c (w q : Nm) (hne : w ≠ q) (l : List Rc) (i : Nat) (hi : i < l.length) (m c : Int) (s : Sm) (a : AV) (hf : 1 ≤ s.f ∧ s.f ≤ 5) (hn : 0 ≤ s.n ∧ s.n < 65536) : LP Tryz.prog gm 65 [.ptr w 0] [(w, ⟨112, wkC m c s a q (i * 19)⟩), (q, ⟨71, l.flatMap Rc.cs⟩)] (fun _ => (.tup [(rebR m (l.getD i Rc.z) s).1.av, .bool (rebR m (l.getD i Rc.z) s).2], [(w, ⟨112, wkC m c s a q (i * 19)⟩), (q, ⟨71, l.flatMap Rc.cs⟩)])) := by
 have hN := numA (r := l.getD i Rc.z) hn
 have ea := add16 (l.getD i Rc.z) hn
 clear hN
 have hl : LP Tryz.prog gm 108 [iAV 16, iAV (iarith .add .i64 (numD (l.getD i Rc.z) s) 16)] [] (fun _ => (iAV (lw 16 (numD (l.getD i Rc.z) s + 16)), [])) := by rw [ea]; exact slow_c 16 _ (by decide) (by decide)
 by_cases h4 : s.f = 4 ∨ s.f = 5
 · rw [reb4 h4]
   refine goW [] Tryz.func65 rfl ?_
   conv => whnf
   repeat' ((first
     | exact Nm.b 0
     | (show LC _ _ _ _ _ _; first | (apply LC.twoK (fun hne => whdr_c w q hne l i hi m c s a _ hf); (repeat first | refine goH ?_ | apply LH.here | apply LH.next); refine ⟨rfl, ?_⟩; (repeat first | refine goH ?_ | apply LH.here | apply LH.next); refine ⟨rfl, ?_⟩; (repeat first | refine goH ?_ | apply LH.here | apply LH.next)) | (apply LC.twoK (fun hne => wright_c w q hne l i hi m c s a _); (repeat first | refine goH ?_ | apply LH.here | apply LH.next); refine ⟨rfl, ?_⟩; (repeat first | refine goH ?_ | apply LH.here | apply LH.next); refine ⟨rfl, ?_⟩; (repeat first | refine goH ?_ | apply LH.here | apply LH.next)) | refine goE ?_)
     | refine T.s ?_
     | ((first | refine goB (fun h => ?_) (fun h => ?_) | refine AB.dec (fun h => ?_) (fun h => ?_) | refine AB.gen (fun h => ?_) (fun h => ?_)) <;> try (exfalso; omega))
     | refine LFresh.mk fun r => ?_
     | (show SQ _ _ _ _ _ _ _; first | refine gX 3 [0, 3] [0, 1, 2, 3, 4, 5] [] ?_ | refine gX 11 [0, 3] [0, 1, 2, 3, 4, 5] [] ?_)
     | exact T.z
     | fail) <;> conv => whnf)
   all_goals (try dsimp only)
   all_goals first
     | (exfalso; omega)
     | ((show RL _ _ _; refine goR ?_); try rfl)
     | trace_state
 · cases hfi : fitD s (hdrD (l.getD i Rc.z) s (numD (l.getD i Rc.z) s)) with
   | true =>
     rw [reb1 h4 hfi]
     refine goW [] Tryz.func65 rfl ?_
     conv => whnf
     repeat' ((first
       | exact Nm.b 0
       | (show LC _ _ _ _ _ _; first | (apply LC.twoK (fun hne => wnum_c w q hne l i hi m c s a); (repeat first | refine goH ?_ | apply LH.here | apply LH.next); refine ⟨rfl, ?_⟩; (repeat first | refine goH ?_ | apply LH.here | apply LH.next); refine ⟨rfl, ?_⟩; (repeat first | refine goH ?_ | apply LH.here | apply LH.next)) | (apply LC.twoK (fun hne => whdr_c w q hne l i hi m c s a _ hf); (repeat first | refine goH ?_ | apply LH.here | apply LH.next); refine ⟨rfl, ?_⟩; (repeat first | refine goH ?_ | apply LH.here | apply LH.next); refine ⟨rfl, ?_⟩; (repeat first | refine goH ?_ | apply LH.here | apply LH.next)) | (apply LC.twoK (fun hne => wright_c w q hne l i hi m c s a _); (repeat first | refine goH ?_ | apply LH.here | apply LH.next); refine ⟨rfl, ?_⟩; (repeat first | refine goH ?_ | apply LH.here | apply LH.next); refine ⟨rfl, ?_⟩; (repeat first | refine goH ?_ | apply LH.here | apply LH.next)) | refine goE ?_)
       | refine T.s ?_
       | ((first | refine goB (fun h => ?_) (fun h => ?_) | refine AB.dec (fun h => ?_) (fun h => ?_) | refine AB.gen (fun h => ?_) (fun h => ?_)) <;> try (exfalso; omega))
       | refine LFresh.mk fun r => ?_
       | (show SQ _ _ _ _ _ _ _; first | refine gX 3 [0, 3] [0, 1, 2, 3, 4, 5] [] ?_ | refine gX 11 [0, 3] [0, 1, 2, 3, 4, 5] [] ?_)
       | exact T.z
       | fail) <;> conv => whnf)
     all_goals (try dsimp only)
     all_goals first
       | (exfalso; omega)
       | ((show RL _ _ _; refine goR ?_); try rfl)
       | trace_state
   | false =>
     by_cases h1 : s.f ≠ 1 ∨ m = 3
     · rw [reb2 h4 hfi h1]
       refine goW [] Tryz.func65 rfl ?_
       conv => whnf
       repeat' ((first
         | exact Nm.b 0
         | (show LC _ _ _ _ _ _; first | (apply LC.twoK (fun hne => wnum_c w q hne l i hi m c s a); (repeat first | refine goH ?_ | apply LH.here | apply LH.next); refine ⟨rfl, ?_⟩; (repeat first | refine goH ?_ | apply LH.here | apply LH.next); refine ⟨rfl, ?_⟩; (repeat first | refine goH ?_ | apply LH.here | apply LH.next)) | (apply LC.twoK (fun hne => whdr_c w q hne l i hi m c s a _ hf); (repeat first | refine goH ?_ | apply LH.here | apply LH.next); refine ⟨rfl, ?_⟩; (repeat first | refine goH ?_ | apply LH.here | apply LH.next); refine ⟨rfl, ?_⟩; (repeat first | refine goH ?_ | apply LH.here | apply LH.next)) | (apply LC.twoK (fun hne => wright_c w q hne l i hi m c s a _); (repeat first | refine goH ?_ | apply LH.here | apply LH.next); refine ⟨rfl, ?_⟩; (repeat first | refine goH ?_ | apply LH.here | apply LH.next); refine ⟨rfl, ?_⟩; (repeat first | refine goH ?_ | apply LH.here | apply LH.next)) | refine goE ?_)
         | refine T.s ?_
         | ((first | refine goB (fun h => ?_) (fun h => ?_) | refine AB.dec (fun h => ?_) (fun h => ?_) | refine AB.gen (fun h => ?_) (fun h => ?_)) <;> try (exfalso; omega))
         | refine LFresh.mk fun r => ?_
         | (show SQ _ _ _ _ _ _ _; first | refine gX 3 [0, 3] [0, 1, 2, 3, 4, 5] [] ?_ | refine gX 11 [0, 3] [0, 1, 2, 3, 4, 5] [] ?_)
         | exact T.z
         | fail) <;> conv => whnf)
       all_goals (try dsimp only)
       all_goals first
         | (exfalso; omega)
         | ((show RL _ _ _; refine goR ?_); try rfl)
         | trace_state
     · rw [reb3 h4 hfi h1]
       refine goW [] Tryz.func65 rfl ?_
       conv => whnf
       repeat' ((first
         | exact Nm.b 0
         | (show LC _ _ _ _ _ _; first | (apply LC.twoK (fun hne => wnum_c w q hne l i hi m c s a); (repeat first | refine goH ?_ | apply LH.here | apply LH.next); refine ⟨rfl, ?_⟩; (repeat first | refine goH ?_ | apply LH.here | apply LH.next); refine ⟨rfl, ?_⟩; (repeat first | refine goH ?_ | apply LH.here | apply LH.next)) | (apply LC.twoK (fun hne => whdr_c w q hne l i hi m c s a _ hf); (repeat first | refine goH ?_ | apply LH.here | apply LH.next); refine ⟨rfl, ?_⟩; (repeat first | refine goH ?_ | apply LH.here | apply LH.next); refine ⟨rfl, ?_⟩; (repeat first | refine goH ?_ | apply LH.here | apply LH.next)) | (apply LC.twoK (fun hne => wright_c w q hne l i hi m c s a _); (repeat first | refine goH ?_ | apply LH.here | apply LH.next); refine ⟨rfl, ?_⟩; (repeat first | refine goH ?_ | apply LH.here | apply LH.next); refine ⟨rfl, ?_⟩; (repeat first | refine goH ?_ | apply LH.here | apply LH.next)) | refine LC.pure (hl) ?_ | refine goE ?_)
         | refine T.s ?_
         | ((first | refine goB (fun h => ?_) (fun h => ?_) | refine AB.dec (fun h => ?_) (fun h => ?_) | refine AB.gen (fun h => ?_) (fun h => ?_)) <;> try (exfalso; omega))
         | refine LFresh.mk fun r => ?_
         | (show SQ _ _ _ _ _ _ _; first | refine gX 3 [0, 3] [0, 1, 2, 3, 4, 5] [] ?_ | refine gX 11 [0, 3] [0, 1, 2, 3, 4, 5] [] ?_)
         | exact T.z
         | fail) <;> conv => whnf)
       all_goals (try dsimp only)
       all_goals first
         | (exfalso; omega)
         | ((show RL _ _ _; refine goR ?_); try rfl)
         | trace_state
end Go.Proofs.YtkfpgdckdmlhkaaGreatDoor
