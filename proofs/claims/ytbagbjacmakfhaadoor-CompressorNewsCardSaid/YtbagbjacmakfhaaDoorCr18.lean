/-
  Contracts of the functions that the laws reach.
-/
import Derived.Test.YtbagbjacmakfhaaDoorCr01
import Derived.Test.YtbagbjacmakfhaaDoorCr02
import Derived.Test.YtbagbjacmakfhaaDoorCr03
import Derived.Test.YtbagbjacmakfhaaDoorCr04
import Derived.Test.YtbagbjacmakfhaaDoorCr05
import Derived.Test.YtbagbjacmakfhaaDoorCr06
import Derived.Test.YtbagbjacmakfhaaDoorCr08
import Derived.Test.YtbagbjacmakfhaaDoorCr09
import Derived.Test.YtbagbjacmakfhaaDoorCr11
import Derived.Test.YtbagbjacmakfhaaDoorCr12
import Derived.Test.YtbagbjacmakfhaaDoorCr13
import Derived.Test.YtbagbjacmakfhaaDoorCr15
import Derived.Test.YtbagbjacmakfhaaDoorCr16
import Derived.Test.YtbagbjacmakfhaaDoorCr17
set_option maxHeartbeats 8000000
set_option linter.all false
namespace Go.Proofs.YtbagbjacmakfhaaDoor
open Go.RowKit
variable {G : Nat → AV}
theorem jb (a b : Hd) : LP Tryd.prog G 72 [a.av, b.av] [] (fun _ => ((qZ a b).av, [])) := by
 have va := zt (G := G) a
 have vb := zt (G := G) b
 have hsm := wj (G := G) a b
 by_cases hg : a.ok = true ∧ b.ok = true ∧ a.k = 2 ∧ qo a b = true
 · obtain ⟨h1, h2, h3, h4⟩ := hg
   have hid := ok_id h1
   rw [h1] at va; rw [h2] at vb; rw [h4] at hsm
   rw [show qZ a b = _ from if_pos ⟨h1, h2, h3, h4⟩]
   have hS := sg_rng 16 a.num b.num (by decide) (by decide)
   have hT := sg_rng 32 a.tm b.tm (by decide) (by decide)
   have e1 : qc .add .i64 a.id (sg 16 a.num b.num) = a.id + sg 16 a.num b.num := by (exact T.num)
   have hD := tdiv_rng (s := sg 16 a.num b.num) hT
   have e2 : IntKind.i64.wrap ((sg 32 a.tm b.tm).tdiv (sg 16 a.num b.num)) = (sg 32 a.tm b.tm).tdiv (sg 16 a.num b.num) := by rw [IntKind.wrap_i64]; omega
   have hv := xD (G := G) ⟨IntKind.i64.wrap ((sg 32 a.tm b.tm).tdiv (sg 16 a.num b.num)), 0⟩
   have hv0 := xD (G := G) ⟨0, 0⟩
   obtain ⟨B, hB⟩ : ∃ B, Dy.ok ⟨IntKind.i64.wrap ((sg 32 a.tm b.tm).tdiv (sg 16 a.num b.num)), 0⟩ = B := ⟨_, rfl⟩
   rw [hB] at hv
   rw [show Dy.ok ⟨0, 0⟩ = true by simp [Dy.ok, inR]] at hv0
   refine goW [] Tryd.func72 rfl ?_
   conv => whnf
   repeat' ((first | exact Nm.b 0 | (show LC _ _ _ _ _ _; first | refine LC.pure (va) ?_ | refine LC.pure (vb) ?_ | refine LC.pure (hsm) ?_ | refine LC.pure (hv) ?_ | refine LC.pure (hv0) ?_ | refine LC.pure (ja _) ?_ | refine LC.pure (zI 16 _ _ (by decide) (by decide)) ?_ | refine LC.pure (zI 32 _ _ (by decide) (by decide)) ?_ | refine LC.pure (zZ 16 _ (by decide) (by decide)) ?_ | refine goE ?_) | refine T.s ?_ | ((first | apply goB | apply AB.dec | apply AB.gen) <;> intro h <;> try (exfalso; omega)) | refine LQ.mk fun r => ?_ | (show SQ _ _ _ _ _ _ _; first | refine gX 4 [2, 1] [0, 2, 1, 3, 4, 5] [] ?_ | refine gX 10 [1, 6] [0, 1, 2, 3, 4, 5, 6, 7] [] ?_) | exact T.z | fail) <;> conv => whnf)
   all_goals (try dsimp only)
   all_goals
     (show RL _ _ _; refine goR ?_)
     clear va vb hsm hv hv0
     try rw [e1] at *
     try rw [e2] at *
     simp only [Dy.ok, inR, Bool.and_eq_true, decide_eq_true_eq, decide_eq_false_iff_not] at *
     generalize (sg 32 a.tm b.tm).tdiv (sg 16 a.num b.num) = V at *
     generalize (sg 32 a.tm b.tm).tmod (sg 16 a.num b.num) = W at *
     first | ((repeat first | rw [if_pos (by first | assumption | omega)] | rw [if_neg (by first | assumption | omega)]); rfl) | (have hT : (0 ≤ V ∧ V ≤ 65535) = (B = true) := (propext (by rw [← hB]; simp)); simp only [hT]; clear hB hT; (repeat' split) <;> first | rfl | (exfalso; simp_all; done))
 · rw [learnR_n hg]
   refine goW [] Tryd.func72 rfl ?_
   conv => whnf
   repeat' ((first | exact Nm.b 0 | (show LC _ _ _ _ _ _; first | refine LC.pure (va) ?_ | refine LC.pure (vb) ?_ | refine LC.pure (hsm) ?_ | refine goE ?_) | refine T.s ?_ | ((first | apply goB | apply AB.dec | apply AB.gen) <;> intro h <;> try (exfalso; omega)) | refine LQ.mk fun r => ?_ | (show SQ _ _ _ _ _ _ _; first | refine gX 4 [2, 1] [0, 2, 1, 3, 4, 5] [] ?_ | refine gX 10 [1, 6] [0, 1, 2, 3, 4, 5, 6, 7] [] ?_) | exact T.z | fail) <;> conv => whnf)
   all_goals (try dsimp only)
   all_goals first
     | ((show RL _ _ _; refine goR ?_); rfl)
     | (exfalso; simp_all [qo]; done)
def yg (width k v r : Int) : Bool := j0 width r && decide (lsbV width r k (lw k v) = v)
attribute [irreducible] yg
theorem lfits_c (width : Int) (l : List Int) (k v : Int) (hl : l.length ≤ 100000) : LP Tryd.prog G 91 [iAV width, iv l, iAV k, iAV v] [] (fun _ => (.bool (jc width l k v), [])) := by
 have hw := lknown_c (G := G) width
 have e : jc width l k v = (yh width k v && l.all (yg width k v)) := by unfold jc yh yg; cases jP width <;> simp [Bool.and_assoc]
 rw [e]
 cases h1 : jP width with
 | false =>
   rw [h1] at hw
   have e0 : yh width k v = false := by unfold yh; rw [h1]; rfl
   rw [e0, Bool.false_and]
   refine goW [] Tryd.func91 rfl ?_
   conv => whnf
   repeat' ((first | (show LC _ _ _ _ _ _; first | refine LC.pure (hw) ?_ | refine goE ?_) | refine T.s ?_ | ((first | apply goB | apply AB.dec | apply AB.gen) <;> intro h <;> try (exfalso; omega)) | refine LQ.mk fun r => ?_ | exact T.z | fail) <;> conv => whnf)
   all_goals (try dsimp only)
   all_goals first | ((show RL _ _ _; refine goR ?_); rfl)
 | true =>
   have hn := wide_le h1
   rw [h1] at hw
   have hv := kb (G := G) width
   by_cases h2 : 3 ≤ k ∧ k ≤ width
   · cases h3 : j0 width v with
     | false =>
       have e0 : yh width k v = false := by unfold yh; rw [h1, h3]; simp
       rw [e0, Bool.false_and]
       have hvv := kb (G := G) width v (by omega) (by omega)
       rw [h3] at hvv
       refine goW [] Tryd.func91 rfl ?_
       conv => whnf
       repeat' ((first | (show LC _ _ _ _ _ _; first | refine LC.pure (hw) ?_ | refine LC.pure (hvv) ?_ | refine goE ?_) | refine T.s ?_ | ((first | apply goB | apply AB.dec | apply AB.gen) <;> intro h <;> try (exfalso; omega)) | refine LQ.mk fun r => ?_ | exact T.z | fail) <;> conv => whnf)
       all_goals (try dsimp only)
       all_goals first | ((show RL _ _ _; refine goR ?_); rfl)
     | true =>
       have e0 : yh width k v = true := by unfold yh; rw [h1, h3]; simp [h2]
       rw [e0, Bool.true_and]
       have hvv := kb (G := G) width v (by omega) (by omega)
       rw [h3] at hvv
       have hf : ∀ r, ¬ (0 ≤ r ∧ r < 2 ^ width.toNat) → yg width k v r = false := fun r h => by unfold yg; rw [show j0 width r = false from decide_eq_false h]; rfl
       have hvt : ∀ r, 0 ≤ r ∧ r < 2 ^ width.toNat → j0 width r = true := fun r h => decide_eq_true h
       have hf2 : ∀ r, ¬ lsbV width r k (lw k v) = v → yg width k v r = false := fun r h => by unfold yg; simp [h]
       have hf3 : ∀ r, 0 ≤ r ∧ r < 2 ^ width.toNat → lsbV width r k (lw k v) = v → yg width k v r = true := fun r h h' => by unfold yg; rw [hvt r h, decide_eq_true h']; rfl
       refine goW [] Tryd.func91 rfl ?_
       conv => whnf
       repeat' ((first | (show LC _ _ _ _ _ _; first | refine LC.pure (hw) ?_ | refine LC.pure (hvv) ?_ | refine LC.pure (kb width _ (by omega) (by omega)) ?_ | refine LC.pure (zZ k v (by omega) (by omega)) ?_ | refine LC.pure (ldec_c width _ k _ (by omega) (by omega) (by omega) (hvt _ (by assumption))) ?_ | refine goE ?_) | (show AC _ _ _; first | (refine AC.idx (i) (0) ?_ ?_ ?_; (focus (first | exact rfl | (simp; done) | (simp; omega))); (focus (first | omega | exact T.side)))) | refine T.s ?_ | ((first | apply goB | apply AB.dec | apply AB.gen) <;> intro h <;> try (exfalso; omega)) | refine LQ.mk fun r => ?_ | (show SQ _ _ _ (.loop _) _ _ _; first | (apply goO tQ [] 4 (S := Nat) [0, 2, 3, 29, 30] (fun i => ⟨[(31, .int .i64 i)], [], i ≤ l.length ∧ (l.take i).all (yg width k v) = true, l.length - i⟩) (0) (by rfl); (focus (all_goals (try exact KCA0); done)); rintro i ⟨hk, hok⟩)) | (show AtL _ _ _ _ _ _ _ _ _ _; first | (apply AtL.mk' (id := 4) (S := Nat) (i + 1); all_goals (try exact KCA0); done) | (apply AtL.mk' (id := 4) (S := Nat) (i + 1); all_goals (try exact KCA0))) | exact T.z | fail) <;> conv => whnf)
       all_goals (try dsimp only)
       all_goals first
         | ((show RL _ _ _; refine goR ?_); rw [kw l i 0 (by omega) (hf _ (by assumption))])
         | ((show RL _ _ _; refine goR ?_); rw [kw l i 0 (by omega) (hf2 _ (by assumption))])
         | ((show RL _ _ _; refine goR ?_); rw [xK (by omega) hok])
         | trace_state
   · have e0 : yh width k v = false := by unfold yh; rw [decide_eq_false h2]; simp
     rw [e0, Bool.false_and]
     refine goW [] Tryd.func91 rfl ?_
     conv => whnf
     repeat' ((first | (show LC _ _ _ _ _ _; first | refine LC.pure (hw) ?_ | refine goE ?_) | refine T.s ?_ | ((first | apply goB | apply AB.dec | apply AB.gen) <;> intro h <;> try (exfalso; omega)) | refine LQ.mk fun r => ?_ | (show SQ _ _ _ (.loop _) _ _ _; first | (refine goL tQ [] 4 (S := Nat) [0, 2, 3, 29, 30] (fun i => ⟨[(31, .int .i64 i)], [], False, l.length - i⟩) (0) ?_; rintro i hok; (try dsimp only at hok))) | (show AtL _ _ _ _ _ _ _ _ _ _; first | (show AtL 4 _ _ _ _ _ _ _ _ _; exact goN 4 (S := Nat) (i + 1)) | (apply AtL.mk' (id := 4) (S := Nat) (i + 1); all_goals (try exact KC12))) | exact T.z | fail) <;> conv => whnf)
     all_goals (try dsimp only)
     all_goals first | ((show RL _ _ _; refine goR ?_); rfl)
open Go.RowKit
variable {G : Nat → AV}
section
variable {s : Sn} {h r : Hd} {f : Int}
theorem refB_n1 (h1 : xo r h = 0) (h2 : f = 1) (h3 : qH [((qS s h r).k, h.k), ((qS s h r).tos, h.tos), ((qS s h r).id, h.id), ((qS s h r).fx, h.fx), ((qS s h r).ttl, h.ttl), ((qS s h r).fr, h.fr), ((qS s h r).to, h.to), ((qS s h r).fp, h.fp), ((qS s h r).tp, h.tp), ((qS s h r).ck, h.ck), ((qS s h r).mr, h.mr), ((qS s h r).ty, h.ty), ((qS s h r).sq, h.sq), ((qS s h r).tm, h.tm), ((qS s h r).sr, h.sr)] = false) : zp s h f r = false := by
 subst h2
 rw [refB_1 h1, ← Hd.eqs]; exact h3
theorem wi (h1 : xo r h = 0) (h2 : f = 1) (h3 : qH [((qS s h r).k, h.k), ((qS s h r).tos, h.tos), ((qS s h r).id, h.id), ((qS s h r).fx, h.fx), ((qS s h r).ttl, h.ttl), ((qS s h r).fr, h.fr), ((qS s h r).to, h.to), ((qS s h r).fp, h.fp), ((qS s h r).tp, h.tp), ((qS s h r).ck, h.ck), ((qS s h r).mr, h.mr), ((qS s h r).ty, h.ty), ((qS s h r).sq, h.sq), ((qS s h r).tm, h.tm), ((qS s h r).sr, h.sr)] = true) : zp s h f r = true := by
 subst h2
 rw [refB_1 h1, ← Hd.eqs]; exact h3
theorem wh (h1 : xo r h = 0) (h2 : f = 2) (k : h.k = 2) (h3 : (qS s h r).id = h.id) : zp s h f r = true := by
 subst h2
 rw [refB_2 h1 k]; exact decide_eq_true h3
theorem refB_n2 (h1 : xo r h = 0) (h2 : f = 2) (k : h.k = 2) (h3 : ¬ (qS s h r).id = h.id) : zp s h f r = false := by
 subst h2
 rw [refB_2 h1 k]; exact decide_eq_false h3
theorem possR_tm' (hall : s.rf.all (zp s h f) = true) (h2 : f = 2 ∧ h.k = 2) (hf : jc 32 (s.rf.map (·.tm)) 16 h.tm = false) : qO s h f = false := by
 unfold qO
 rw [hall, hf, decide_eq_false (by omega), decide_eq_false (by simp [h2])]
 simp
theorem possR_te (hall : s.rf.all (zp s h f) = true) (h3 : ¬ (f = 3 ∧ h.k ≠ 2)) (hf : (f = 2 ∧ h.k = 2) → jc 32 (s.rf.map (·.tm)) 16 h.tm = true) : qO s h f = jc 16 (s.rf.map Hd.num) (wid f h.k 0) h.num := by
 unfold qO
 rw [hall, decide_eq_false h3]
 by_cases h2 : f = 2 ∧ h.k = 2
 · rw [hf h2]; simp
 · rw [decide_eq_true h2]; simp
end
theorem cposs_c (s : Sn) (hd : Hd) (f : Int) (hf : f = 1 ∨ f = 2 ∨ f = 3) (hl : s.rf.length ≤ 100000) : LP Tryd.prog G 75 [s.av, hd.av, iAV f] [] (fun _ => (.bool (qO s hd f), [])) := by
 have hT := lfits_c (G := G) 32 (s.rf.map (·.tm)) 16 hd.tm (by simpa using hl)
 have hN := lfits_c (G := G) 16 (s.rf.map Hd.num) (wid f hd.k 0) hd.num (by simpa using hl)
 by_cases k : hd.k = 2
 all_goals
   refine goW [] Tryd.func75 rfl ?_
   conv => whnf
   repeat' ((first | (with_reducible refine And.intro (congrArg (fun z => List.map iAV (List.map (fun x : Hd => x.tm) z)) (List.take_of_length_le (by omega))) (by simp; omega)) | (with_reducible refine And.intro (congrArg (fun z => List.map iAV (List.map Hd.num z)) (List.take_of_length_le (by omega))) (by simp; omega)) | exact Nm.b 0 | (refine And.intro ?_ ?_; (focus (first | exact xt Hd.cs_len (by assumption) | exact InL.here | exact T.kx | exact T.side))) | (show LC _ _ _ _ _ _; first | refine LC.pure (vo _ _) ?_ | refine LC.pure (ja _) ?_ | refine LC.pure (fpred_c s.dy _ _) ?_ | refine LC.pure (v9 _ _) ?_ | refine LC.mk' (hT) [_] ⟨LF.eq rfl, LF.rowF InL.here ?_, LF.eq rfl, LF.eq rfl, trivial⟩ ?_ | refine LC.mk' (hN) [_] ⟨LF.eq rfl, LF.rowF InL.here ?_, LF.eq rfl, LF.eq rfl, trivial⟩ ?_ | refine goE ?_) | (show AC _ _ _; first | (refine AC.recd Hd.cs_len i Hd.z rfl rfl ?_ ?_; (focus omega))) | refine T.s ?_ | ((first | apply goB | apply AB.dec | apply AB.gen) <;> intro h <;> try (exfalso; omega)) | refine LQ.mk fun r => ?_ | (show SQ _ _ _ (.loop _) _ _ _; first | (apply goO tQ [] 4 (S := Nat × Nm × Nm × Nm × Nm) [2, 9, 18, 19] (fun (i, qa, qb, a, b) => ⟨[(20, .int .i64 i), (7, .vw qa 0 i 1), (8, .vw qb 0 i 1), (3, .ptr a 0), (4, .ptr b 0)], [(qa, ⟨3, (((s.rf.take i).map Hd.num).map iAV)⟩), (qb, ⟨3, (((s.rf.take i).map (·.tm)).map iAV)⟩), (a, ⟨55, s.cs⟩), (b, ⟨38, hd.cs⟩)], i ≤ s.rf.length ∧ (s.rf.take i).all (zp s hd f) = true, s.rf.length - i⟩) ((0, _, _, _, _)) (by rfl); (focus ((repeat' first | exact trivial | (refine And.intro ?_ ?_) | exact LB.nil | (with_reducible exact LB.refl) | (apply LB.cons; (repeat first | refine goH ?_ | apply LH.here | apply LH.next); refine And.intro ?_ ?_; (focus (try (first | (with_reducible rfl) | (refine congrArg (Pl.mk _) ?_; (first | (with_reducible rfl) | (simp only [List.map_nil, List.take_zero]; done) | (rw [qh _ _ Hd.z (by omega), List.map_append]; rfl) | rfl)) | rfl | (with_reducible refine congrArg (Pl.mk _) ?_))))) | assumption | ((with_reducible show List.all _ _ = true); rw [zX _ _ Hd.z (by omega), hok]; first | exact wi (by assumption) (by assumption) (by assumption) | exact wh (by assumption) (by assumption) (by assumption) (by assumption) | exact yU (by assumption) (by omega) (by omega)) | (first | (focus (apply Eq.trans; (conv => lhs; whnf); (conv => rhs; whnf); done)) | rfl | ((conv => lhs; whnf); first | rfl | (refine congrArg (AV.int _) ?_; (exact T.num)) | (refine congrArg AV.bool ?_; (exact T.num)) | (refine vwc ?_; first | (exact T.num) | (first | (with_reducible rfl) | (simp only [List.map_nil, List.take_zero]; done) | (rw [qh _ _ Hd.z (by omega), List.map_append]; rfl) | rfl)) | (refine qe ?_ ?_ <;> first | (exact T.num) | (first | (with_reducible rfl) | (simp only [List.map_nil, List.take_zero]; done) | (rw [qh _ _ Hd.z (by omega), List.map_append]; rfl) | rfl)) | (first | (with_reducible rfl) | (simp only [List.map_nil, List.take_zero]; done) | (rw [qh _ _ Hd.z (by omega), List.map_append]; rfl) | rfl))) | (exact T.num) | (dsimp only; (exact T.num)) | (first | (with_reducible rfl) | (simp only [List.map_nil, List.take_zero]; done) | (rw [qh _ _ Hd.z (by omega), List.map_append]; rfl) | rfl)); done)); rintro ⟨i, qa, qb, a, b⟩ ⟨hk, hok⟩)) | (show SQ _ _ _ _ _ _ _; first | refine SQ.adopt 7 1 3 (by rfl) fun q => ?_ | refine SQ.adopt 8 1 3 (by rfl) fun q => ?_ | refine gX 8 [1, 2, 4] [0, 1, 2, 3, 4, 5, 6, 7] [] ?_ | (apply goD tQ qf 14 [7, 2, 4] [0, 1, 5, 6, 7, 2, 3, 4, 8, 9, 10, 11] [_] (by kernel_rfl))) | (show AtL _ _ _ _ _ _ _ _ _ _; first | (apply AtL.mk' (id := 4) (S := Nat × Nm × Nm × Nm × Nm) ((i + 1, _, _, _, _)); (repeat' first | exact trivial | (refine And.intro ?_ ?_) | exact LB.nil | (with_reducible exact LB.refl) | (apply LB.cons; (repeat first | refine goH ?_ | apply LH.here | apply LH.next); refine And.intro ?_ ?_; (focus (try (first | (with_reducible rfl) | (refine congrArg (Pl.mk _) ?_; (first | (with_reducible rfl) | (simp only [List.map_nil, List.take_zero]; done) | (rw [qh _ _ Hd.z (by omega), List.map_append]; rfl) | rfl)) | rfl | (with_reducible refine congrArg (Pl.mk _) ?_))))) | assumption | ((with_reducible show List.all _ _ = true); rw [zX _ _ Hd.z (by omega), hok]; first | exact wi (by assumption) (by assumption) (by assumption) | exact wh (by assumption) (by assumption) (by assumption) (by assumption) | exact yU (by assumption) (by omega) (by omega)) | (first | (focus (apply Eq.trans; (conv => lhs; whnf); (conv => rhs; whnf); done)) | rfl | ((conv => lhs; whnf); first | rfl | (refine congrArg (AV.int _) ?_; (exact T.num)) | (refine congrArg AV.bool ?_; (exact T.num)) | (refine vwc ?_; first | (exact T.num) | (first | (with_reducible rfl) | (simp only [List.map_nil, List.take_zero]; done) | (rw [qh _ _ Hd.z (by omega), List.map_append]; rfl) | rfl)) | (refine qe ?_ ?_ <;> first | (exact T.num) | (first | (with_reducible rfl) | (simp only [List.map_nil, List.take_zero]; done) | (rw [qh _ _ Hd.z (by omega), List.map_append]; rfl) | rfl)) | (first | (with_reducible rfl) | (simp only [List.map_nil, List.take_zero]; done) | (rw [qh _ _ Hd.z (by omega), List.map_append]; rfl) | rfl))) | (exact T.num) | (dsimp only; (exact T.num)) | (first | (with_reducible rfl) | (simp only [List.map_nil, List.take_zero]; done) | (rw [qh _ _ Hd.z (by omega), List.map_append]; rfl) | rfl)); done) | (apply AtL.mk' (id := 4) (S := Nat × Nm × Nm × Nm × Nm) ((i + 1, _, _, _, _)); (repeat' first | exact trivial | (refine And.intro ?_ ?_) | exact LB.nil | (with_reducible exact LB.refl) | (apply LB.cons; (repeat first | refine goH ?_ | apply LH.here | apply LH.next); refine And.intro ?_ ?_; (focus (try (first | (with_reducible rfl) | (refine congrArg (Pl.mk _) ?_; (first | (with_reducible rfl) | (simp only [List.map_nil, List.take_zero]; done) | (rw [qh _ _ Hd.z (by omega), List.map_append]; rfl) | rfl)) | rfl | (with_reducible refine congrArg (Pl.mk _) ?_))))) | assumption | ((with_reducible show List.all _ _ = true); rw [zX _ _ Hd.z (by omega), hok]; first | exact wi (by assumption) (by assumption) (by assumption) | exact wh (by assumption) (by assumption) (by assumption) (by assumption) | exact yU (by assumption) (by omega) (by omega)) | (first | (focus (apply Eq.trans; (conv => lhs; whnf); (conv => rhs; whnf); done)) | rfl | ((conv => lhs; whnf); first | rfl | (refine congrArg (AV.int _) ?_; (exact T.num)) | (refine congrArg AV.bool ?_; (exact T.num)) | (refine vwc ?_; first | (exact T.num) | (first | (with_reducible rfl) | (simp only [List.map_nil, List.take_zero]; done) | (rw [qh _ _ Hd.z (by omega), List.map_append]; rfl) | rfl)) | (refine qe ?_ ?_ <;> first | (exact T.num) | (first | (with_reducible rfl) | (simp only [List.map_nil, List.take_zero]; done) | (rw [qh _ _ Hd.z (by omega), List.map_append]; rfl) | rfl)) | (first | (with_reducible rfl) | (simp only [List.map_nil, List.take_zero]; done) | (rw [qh _ _ Hd.z (by omega), List.map_append]; rfl) | rfl))) | (exact T.num) | (dsimp only; (exact T.num)) | (first | (with_reducible rfl) | (simp only [List.map_nil, List.take_zero]; done) | (rw [qh _ _ Hd.z (by omega), List.map_append]; rfl) | rfl)))) | exact T.z | fail) <;> try (show (_ : Prop); conv => whnf))
   all_goals (try dsimp only)
   all_goals first
     | ((show RL _ _ _; refine goR ?_); rw [kI i (by omega) (refB_c (by assumption))])
     | ((show RL _ _ _; refine goR ?_); rw [kI i (by omega) (refB_n1 (by assumption) (by assumption) (by assumption))])
     | ((show RL _ _ _; refine goR ?_); rw [kI i (by omega) (refB_n2 (by assumption) (by assumption) (by assumption) (by assumption))])
     | ((show RL _ _ _; refine goR ?_); rw [possR_tt (xK (by omega) hok) (.inl ⟨by assumption, by assumption⟩) (by omega)])
     | ((show RL _ _ _; refine goR ?_); rw [possR_tm' (xK (by omega) hok) ⟨by assumption, by assumption⟩ (by assumption)])
     | ((show RL _ _ _; refine goR ?_); rw [possR_te (xK (by omega) hok) (by omega) (fun _ => by first | assumption | (exfalso; omega))])
     | trace_state
open Go.RowKit
def z7 (w : Int) (s : Sn) (f : Int) : Sn := if f = 5 then { s with full := w, refr := 0 } else { s with refr := w, lng := 0 }
def chA (w : Int) (s : Sn) (h : Hd) (b : Bool) : Sn × Bool :=
 if 0 < s.rf.length ∧ (xo s.lst h ≠ 0 ∨ s.lng = 3 ∧ qZ s.lst h ≠ s.dy) then (z7 w s (if 0 < s.full then 5 else 4), true) else (s, b)
def chb (s : Sn) : Bool := decide (s.rf.length = 0 ∨ (0 < s.full ∨ 0 < s.refr) ∧ s.ser = (s.rf.length : Int))
def chB (m w : Int) (x : Sn × Bool) : Sn × Bool := if m = 1 ∧ x.1.sin = 32 ∧ x.1.full = 0 then (z7 w x.1 5, true) else x
def chC (m w : Int) (x : Sn × Bool) : Sn × Bool := if m = 3 ∧ x.1.rf.length = 32 then ({ z7 w x.1 5 with rf := [] }, true) else x
def chL (last h : Hd) (x : Sn) : Sn := { x with ser := x.rf.length, dy := qZ last h }
def chD (last h : Hd) (x : Sn × Bool) : Sn := if x.2 = true then chL last h x.1 else x.1
def chE (w : Int) (last h : Hd) (s : Sn) : Sn × Int :=
 if 0 < s.full then (s, 5) else if 0 < s.refr then (s, 4) else if qO s h 1 = true then (s, 1) else if qO s h 2 = true then (s, 2) else if qO s h 3 = true then (s, 3)
 else (chL last h (z7 w s 4), 4)
def xn (m w : Int) (s : Sn) (h : Hd) : Sn × Int := chE w s.lst h (chD s.lst h (chC m w (chB m w (chA w s h (chb s)))))
def xp (w : Int) (s : Sn) : Sn := if s.act = true then s else { s with act := true, full := w }
theorem learn_z (h : Hd) : qZ Hd.z h = Dy.z := by
 unfold qZ
 rw [if_neg]
 rintro ⟨h1, -⟩
 revert h1
 show Hd.ok _ = true → False
 decide
structure Lk (x y : Sn) : Prop where
 act : x.act = y.act
 full : x.full = y.full
 refr : x.refr = y.refr
 ser : x.ser = y.ser
 sin : x.sin = y.sin
 dy : x.dy = y.dy
 rf : x.rf = y.rf
 lng : x.lng = y.lng ∨ 0 < x.full
theorem Lk.rfl' (x : Sn) : Lk x x := ⟨rfl, rfl, rfl, rfl, rfl, rfl, rfl, .inl rfl⟩
theorem Lk.csF {x y : Sn} {m w : Int} {h : Hd} {f : Int} (k : Lk x y) (h5 : 0 < x.full → f = 5) : csF m w h x f = csF m w h y f := by
 obtain ⟨a1, a2, a3, a4, a5, a6, a7, a8⟩ := k
 unfold Go.Proofs.YtbagbjacmakfhaaDoor.csF
 rw [a1, a2, a3, a4, a5, a6, a7]
 congr 1
 rcases a8 with a8 | a8
 · rw [a8]
 · rw [if_neg (by have := h5 a8; omega), if_neg (by have := h5 a8; omega)]
theorem poss_lk {x y : Sn} {h : Hd} {f : Int} (h1 : x.dy = y.dy) (h2 : x.rf = y.rf) : qO x h f = qO y h f := by
 have e : zp x h f = zp y h f := by
   funext r
   unfold zp qS
   rw [h1]
 unfold qO
 rw [e, h2]
theorem chE_lk {w : Int} {l l' h : Hd} {had : Bool} {x y : Sn} (k : Lk x y) (hl : qZ l h = (if had = true then qZ l' h else Dy.z)) : (chE w l h x).2 = (csE w l' had h y).2 ∧ Lk (chE w l h x).1 (csE w l' had h y).1 ∧ (0 < (chE w l h x).1.full → (chE w l h x).2 = 5) := by
 have p := fun f => poss_lk (h := h) (f := f) k.dy k.rf
 unfold chE csE
 rw [k.full, k.refr, p, p, p]
 by_cases h1 : 0 < y.full
 · rw [if_pos h1, if_pos h1]; exact ⟨rfl, k, fun _ => rfl⟩
 · rw [if_neg h1, if_neg h1]
   have kl : x.lng = y.lng := k.lng.resolve_right (by rw [k.full]; exact h1)
   by_cases h2 : 0 < y.refr
   · rw [if_pos h2, if_pos h2]; exact ⟨rfl, k, fun h => absurd (k.full ▸ h) h1⟩
   · rw [if_neg h2, if_neg h2]
     split
     · exact ⟨rfl, k, fun h => absurd (k.full ▸ h) h1⟩
     · split
       · exact ⟨rfl, k, fun h => absurd (k.full ▸ h) h1⟩
       · split
         · exact ⟨rfl, k, fun h => absurd (k.full ▸ h) h1⟩
         · refine ⟨rfl, ?_, fun h => absurd (k.full ▸ h) h1⟩
           unfold chL z7 we
           rw [if_neg (by decide)]
           exact ⟨k.act, k.full, rfl, by dsimp only; rw [k.rf], k.sin, hl, k.rf, .inl rfl⟩
theorem cho_eq {m w : Int} {s : Sn} {h : Hd} (hw : 1 ≤ w) (hs : s.ok m w = true) :
   (xn m w (xp w s) h).2 = (qX m w s h).2 ∧ Lk (xn m w (xp w s) h).1 (qX m w s h).1 ∧ (0 < (xn m w (xp w s) h).1.full → (xn m w (xp w s) h).2 = 5) := by
 unfold xn qX
 cases ha : s.act with
 | false =>
   obtain ⟨a1, a2, a3, a4, a5, a6, a7⟩ := yO hs ha
   have e0 : xp w s = { s with act := true, full := w } := by unfold xp; rw [if_neg (by rw [ha]; decide)]
   have el : (xp w s).lst = Hd.z := by rw [e0]; unfold Sn.lst; dsimp only; rw [a7]; rfl
   have e1 : chA w (xp w s) h (chb (xp w s)) = (xp w s, true) := by
     unfold chA chb
     rw [if_neg (by rw [e0]; dsimp only; rw [a7]; simp), decide_eq_true (.inl (by rw [e0]; dsimp only; rw [a7]; rfl))]
   have e2 : csA w s h = ({ s with act := true, full := w }, true) := by unfold csA; rw [if_pos ha]
   have e3 : ∀ b, chB m w (xp w s, b) = (xp w s, b) := fun b => by unfold chB; rw [if_neg (by rw [e0]; dsimp only; omega)]
   have e4 : ∀ b, chC m w (xp w s, b) = (xp w s, b) := fun b => by unfold chC; rw [if_neg (by rw [e0]; dsimp only; rw [a7]; simp)]
   have e5 : csB m w ({ s with act := true, full := w }, true) = ({ s with act := true, full := w }, true) := by unfold csB; rw [if_neg (by dsimp only; omega)]
   have e6 : csC m w s.rf.length ({ s with act := true, full := w }, true) = ({ s with act := true, full := w }, true) := by unfold csC; rw [if_neg (by rw [a7]; simp)]
   rw [e1, e3, e4, e2, e5, e6, el]
   refine chE_lk ?_ (by rw [learn_z]; rfl)
   unfold chD csD chL we
   rw [if_pos rfl, if_pos (.inl rfl), learn_z, e0]
   exact Lk.rfl' _
 | true =>
   have e0 : xp w s = s := if_pos ha
   rw [e0]
   have hp := kV hs ha
   have hR := ((Sn.ok_e ha).1 hs).1
   unfold kG at hR
   refine chE_lk ?_ rfl
   have f1 : Lk (chA w s h (chb s)).1 (csA w s h).1 ∧ ((chA w s h (chb s)).2 = true ∧ (csA w s h).2 = true ∨ (chA w s h (chb s)) = (s, chb s) ∧ csA w s h = (s, false)) := by
     unfold chA csA
     rw [if_neg (show ¬ s.act = false by rw [ha]; decide)]
     by_cases hc : xo s.lst h ≠ 0 ∨ s.lng = 3 ∧ qZ s.lst h ≠ s.dy
     · rw [if_pos ⟨hp, hc⟩, if_pos hc]
       refine ⟨?_, .inl ⟨rfl, rfl⟩⟩
       by_cases h5 : 0 < s.full
       · rw [if_pos h5, if_pos h5]
         unfold z7
         rw [if_pos rfl]
         exact ⟨rfl, rfl, by dsimp only; omega, rfl, rfl, rfl, rfl, .inr (by dsimp only; omega)⟩
       · rw [if_neg h5, if_neg h5]
         unfold z7
         rw [if_neg (by decide)]
         exact ⟨rfl, rfl, rfl, rfl, rfl, rfl, rfl, .inl rfl⟩
     · rw [if_neg (fun h => hc h.2), if_neg hc]
       exact ⟨Lk.rfl' _, .inr ⟨rfl, rfl⟩⟩
   generalize hX : chA w s h (chb s) = X at f1
   generalize hY : csA w s h = Y at f1
   have f2 : Lk (chB m w X).1 (csB m w Y).1 ∧ ((chB m w X).2 = true ∧ (csB m w Y).2 = true ∨ chB m w X = (s, chb s) ∧ csB m w Y = (s, false)) := by
     unfold chB csB
     rw [f1.1.sin, f1.1.full]
     split
     · refine ⟨?_, .inl ⟨rfl, rfl⟩⟩
       unfold z7
       rw [if_pos rfl]
       exact ⟨f1.1.act, rfl, rfl, f1.1.ser, f1.1.sin, f1.1.dy, f1.1.rf, .inr (by dsimp only; omega)⟩
     · exact f1
   generalize hX2 : chB m w X = X2 at f2
   generalize hY2 : csB m w Y = Y2 at f2
   have hrf : Y2.1.rf = s.rf := by
     rw [← hY2, ← hY]
     unfold csB csA
     (repeat' split) <;> rfl
   have f3 : Lk (chC m w X2).1 (csC m w s.rf.length Y2).1 ∧ ((chC m w X2).2 = true ∧ (csC m w s.rf.length Y2).2 = true ∨ chC m w X2 = (s, chb s) ∧ csC m w s.rf.length Y2 = (s, false)) := by
     unfold chC csC
     rw [f2.1.rf, hrf]
     split
     · refine ⟨?_, .inl ⟨rfl, rfl⟩⟩
       unfold z7
       rw [if_pos rfl]
       exact ⟨f2.1.act, rfl, rfl, f2.1.ser, f2.1.sin, f2.1.dy, rfl, .inr (by dsimp only; omega)⟩
     · exact f2
   generalize chC m w X2 = X3 at f3
   generalize csC m w s.rf.length Y2 = Y3 at f3
   obtain ⟨g1, g2 | ⟨g2, g3⟩⟩ := f3
   · unfold chD csD
     rw [if_pos g2.1, if_pos (.inl g2.2)]
     unfold chL we
     rw [g1.rf, if_pos rfl]
     exact ⟨g1.act, g1.full, g1.refr, rfl, g1.sin, rfl, rfl, g1.lng⟩
   · rw [g2, g3]
     unfold chD csD chb
     dsimp only
     have e9 : (decide (s.rf.length = 0 ∨ (0 < s.full ∨ 0 < s.refr) ∧ s.ser = (s.rf.length : Int)) = true) ↔ (false = true ∨ s.ser = (s.rf.length : Int) ∧ (0 < s.full ∨ 0 < s.refr)) := by
       rw [decide_eq_true_iff]
       constructor
       · rintro (k | ⟨k1, k2⟩)
         · omega
         · exact .inr ⟨k2, k1⟩
       · rintro (k | ⟨k1, k2⟩)
         · cases k
         · exact .inr ⟨k2, k1⟩
     by_cases hh : false = true ∨ s.ser = (s.rf.length : Int) ∧ (0 < s.full ∨ 0 < s.refr)
     · rw [if_pos hh, if_pos (e9.2 hh)]
       unfold chL we
       rw [if_pos rfl]
       exact Lk.rfl' _
     · rw [if_neg hh, if_neg (fun k => hh (e9.1 k))]
       exact Lk.rfl' _
open Go.RowKit
variable {G : Nat → AV}
@[reducible] def wrV (s : Sn) (R : AV) (m w : Int) (h : Hd) : List AV := [.bool s.act, iAV s.full, iAV s.refr, iAV s.ser, iAV s.sin, iAV s.lng, iAV s.dy.st, iAV s.dy.fo, R, iAV m, iAV w, iAV h.k, iAV h.tos, iAV h.id, iAV h.fx, iAV h.ttl, iAV h.fr, iAV h.to, iAV h.fp, iAV h.tp, iAV h.ck, iAV h.mr, iAV h.ty, iAV h.sq, iAV h.tm, iAV h.sr]
theorem lst_idx {n : Nat} (h : 0 < n) (h2 : n ≤ 100000) : (qc .sub .i64 (n : Int) 1).toNat * 15 = (n - 1) * 15 := by
 congr 1
 (exact T.num)
theorem lst_side {l : List Hd} (h : 0 < l.length) (h2 : l.length ≤ 100000) : 0 + (qc .sub .i64 (l.length : Int) 1).toNat * 15 + 15 ≤ (l.flatMap Hd.cs).length := by
 rw [lst_idx h h2, qJ Hd.cs_len]
 omega
theorem xL (p q : Nm) (hne : p ≠ q) (s : Sn) (m w : Int) (hd : Hd) (hl : s.rf.length ≤ 100000) : LP Tryd.prog G 34 [.ptr p 0] [(p, ⟨75, wrV s (.vw q 0 s.rf.length 15) m w hd⟩), (q, ⟨38, s.rf.flatMap Hd.cs⟩)]
   (fun _ => (.tup [s.lst.av, .bool (decide (0 < s.rf.length))], [(p, ⟨75, wrV s (.vw q 0 s.rf.length 15) m w hd⟩), (q, ⟨38, s.rf.flatMap Hd.cs⟩)])) := by
 by_cases h0 : 0 < s.rf.length
 · rw [decide_eq_true h0]
   refine goW [] Tryd.func34 rfl ?_
   conv => whnf
   repeat' ((first | (refine And.intro ?_ ?_; (focus (first | exact lst_side h0 hl | exact T.kx | exact T.side))) | (show AC _ _ _; first | (refine AC.recd Hd.cs_len (s.rf.length - 1) Hd.z ((Nat.zero_add _).trans (lst_idx h0 hl)) rfl ?_ ?_; (focus omega))) | refine T.s ?_ | ((first | apply goB | apply AB.dec | apply AB.gen) <;> intro h <;> try (exfalso; omega)) | refine LQ.mk fun r => ?_ | exact T.z | fail) <;> conv => whnf)
   all_goals (try dsimp only)
   all_goals
     (show RL _ _ _; refine goR ?_)
     rfl
 · have e : s.rf = [] := List.eq_nil_of_length_eq_zero (by omega)
   have e2 : s.lst = Hd.z := by unfold Sn.lst; rw [e]; rfl
   rw [decide_eq_false h0, e2]
   refine goW [] Tryd.func34 rfl ?_
   conv => whnf
   repeat' ((first | refine T.s ?_ | ((first | apply goB | apply AB.dec | apply AB.gen) <;> intro h <;> try (exfalso; omega)) | refine LQ.mk fun r => ?_ | exact T.z | fail) <;> conv => whnf)
   all_goals (try dsimp only)
   all_goals
     (show RL _ _ _; refine goR ?_)
     rfl
theorem zY (p : Nm) (s : Sn) (R : AV) (m w : Int) (hd : Hd) (f : Int) : LP Tryd.prog G 73 [.ptr p 0, iAV f] [(p, ⟨75, wrV s R m w hd⟩)] (fun _ => (.tup [], [(p, ⟨75, wrV (z7 w s f) R m w hd⟩)])) := by
 by_cases hf : f = 5
 · rw [show z7 w s f = { s with full := w, refr := 0 } from if_pos hf]
   refine goW [] Tryd.func73 rfl ?_
   conv => whnf
   repeat' ((first | refine T.s ?_ | ((first | apply goB | apply AB.dec | apply AB.gen) <;> intro h <;> try (exfalso; omega)) | refine LQ.mk fun r => ?_ | exact T.z | fail) <;> conv => whnf)
   all_goals (try dsimp only)
   all_goals
     (show RL _ _ _; refine goR ?_)
     rfl
 · rw [show z7 w s f = { s with refr := w, lng := 0 } from if_neg hf]
   refine goW [] Tryd.func73 rfl ?_
   conv => whnf
   repeat' ((first | refine T.s ?_ | ((first | apply goB | apply AB.dec | apply AB.gen) <;> intro h <;> try (exfalso; omega)) | refine LQ.mk fun r => ?_ | exact T.z | fail) <;> conv => whnf)
   all_goals (try dsimp only)
   all_goals
     (show RL _ _ _; refine goR ?_)
     rfl
section
variable {P : Program} {l : LS}
theorem LC.many {f : FuncId} {args : List AV} {ps : LS} {post : Nm → AV × LS} {K : AV → LS → Prop} (hs : (ps.map (·.1)).Nodup → LP P G f args ps post) (h : LTake l ps fun r => LQ fun q => K (post q).1 ((post q).2 ++ r)) : LC P G f args l K := ⟨fun φ hsp => by
 obtain ⟨r, -, -, -, h4, -⟩ := LTake.sound h hsp
 exact (LC.mk' (hs h4) [] (.refl _) h).run φ hsp⟩
end
theorem jO (a b p q : Nm) (s : Sn) (n : Nat) (hs : s.rf.length = n) (m w : Int) (last hd : Hd) (hn : [a, b, p].Nodup) : LP Tryd.prog G 74 [.ptr a 0, .ptr b 0] [(a, ⟨73, [.ptr p 0]⟩), (b, ⟨38, last.cs⟩), (p, ⟨75, wrV s (.vw q 0 n 15) m w hd⟩)]
   (fun _ => (.tup [], [(a, ⟨73, [.ptr p 0]⟩), (b, ⟨38, last.cs⟩), (p, ⟨75, wrV (chL last hd s) (.vw q 0 n 15) m w hd⟩)])) := by
 subst hs
 refine goW [] Tryd.func74 rfl ?_
 conv => whnf
 repeat' ((first | exact Nm.b 0 | (show LC _ _ _ _ _ _; first | refine LC.pure (jb _ _) ?_ | refine goE ?_) | refine T.s ?_ | ((first | apply goB | apply AB.dec | apply AB.gen) <;> intro h <;> try (exfalso; omega)) | refine LQ.mk fun r => ?_ | (show SQ _ _ _ _ _ _ _; first | refine gX 0 [] [0, 1, 2, 3, 4, 5, 6, 7, 8, 9, 10] [p] ?_ | refine gX 1 [0, 6] [0, 1, 2, 3, 4, 5, 6, 7, 8, 9, 10] [p] ?_) | exact T.z | fail) <;> conv => whnf)
 all_goals (try dsimp only)
 all_goals
   (show RL _ _ _; refine goR ?_)
   rfl
theorem wlearn_n (a b p : Nm) (s : Sn) (hs : s.rf = []) (m w : Int) (last hd : Hd) (hn : [a, b, p].Nodup) : LP Tryd.prog G 74 [.ptr a 0, .ptr b 0] [(a, ⟨73, [.ptr p 0]⟩), (b, ⟨38, last.cs⟩), (p, ⟨75, wrV s .nils m w hd⟩)]
   (fun _ => (.tup [], [(a, ⟨73, [.ptr p 0]⟩), (b, ⟨38, last.cs⟩), (p, ⟨75, wrV (chL last hd s) .nils m w hd⟩)])) := by
 unfold chL
 rw [hs]
 refine goW [] Tryd.func74 rfl ?_
 conv => whnf
 repeat' ((first | exact Nm.b 0 | (show LC _ _ _ _ _ _; first | refine LC.pure (jb _ _) ?_ | refine goE ?_) | refine T.s ?_ | ((first | apply goB | apply AB.dec | apply AB.gen) <;> intro h <;> try (exfalso; omega)) | refine LQ.mk fun r => ?_ | (show SQ _ _ _ _ _ _ _; first | refine gX 0 [] [0, 1, 2, 3, 4, 5, 6, 7, 8, 9, 10] [p] ?_ | refine gX 1 [0, 6] [0, 1, 2, 3, 4, 5, 6, 7, 8, 9, 10] [p] ?_) | exact T.z | fail) <;> conv => whnf)
 all_goals (try dsimp only)
 all_goals
   (show RL _ _ _; refine goR ?_)
   rfl
end Go.Proofs.YtbagbjacmakfhaaDoor
