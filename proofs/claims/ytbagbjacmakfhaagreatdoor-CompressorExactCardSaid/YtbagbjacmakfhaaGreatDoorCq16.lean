/-
  Contracts of the functions that the laws reach.
-/
import Derived.Test.YtbagbjacmakfhaaGreatDoorCq01
import Derived.Test.YtbagbjacmakfhaaGreatDoorCq02
import Derived.Test.YtbagbjacmakfhaaGreatDoorCq03
import Derived.Test.YtbagbjacmakfhaaGreatDoorCq04
import Derived.Test.YtbagbjacmakfhaaGreatDoorCq05
import Derived.Test.YtbagbjacmakfhaaGreatDoorCq06
import Derived.Test.YtbagbjacmakfhaaGreatDoorCq08
import Derived.Test.YtbagbjacmakfhaaGreatDoorCq09
import Derived.Test.YtbagbjacmakfhaaGreatDoorCq10
import Derived.Test.YtbagbjacmakfhaaGreatDoorCq13
import Derived.Test.YtbagbjacmakfhaaGreatDoorCq14
import Derived.Test.YtbagbjacmakfhaaGreatDoorCq15
set_option maxHeartbeats 4000000
set_option linter.all false
namespace Go.Proofs.YtbagbjacmakfhaaGreatDoor
open Go.RowKit
variable {G : Nat → AV}
theorem q8 {α β : Type} {f : α → β} (l : List α) (i : Nat) (d : α) (h : i < l.length) : (l.take (i + 1)).map f = (l.take i).map f ++ [f (l.getD i d)] := by
 rw [List.take_succ_eq_append_getElem h, List.map_append]
 simp [List.getD_eq_getElem?_getD, h]
theorem zx {α : Type} {f : α → List AV} {n i : Nat} {l : List α} (hf : ∀ x, (f x).length = n) (h : (i : Int) < (l.length : Int)) : n ≤ (List.drop ((i : Int).toNat * n) (l.flatMap f)).length := by
 rw [List.length_drop, qr hf, ← Nat.sub_mul]
 exact Nat.le_mul_of_pos_left _ (by omega)
theorem kd (s : Sn) (hd : Hd) (k : Int) (hl : s.rf.length ≤ 100000) : LP Tryz.prog G 108 [s.av, hd.av, iAV k] [] (fun _ => (.bool (xD 16 (s.rf.map Hd.num) k hd.num), [])) := by
 have hF := r7fits_c (G := G) 16 (s.rf.map Hd.num) k hd.num (by simpa using hl)
 refine goW [] Tryz.func108 rfl ?_
 conv => whnf
 repeat' ((first | (with_reducible refine And.intro (congrArg (fun z => List.map iAV (List.map Hd.num z)) (List.take_of_length_le (by omega))) (by simp; omega)) | (refine And.intro ?_ ?_; (focus (first | exact zx Hd.cs_len (by assumption) | exact T.kx | exact T.side))) | (show LC _ _ _ _ _ _; first | refine LC.pure (za _) ?_ | refine LC.mk' (hF) [_] ⟨LF.eq rfl, LF.rowF InL.here ?_, LF.eq rfl, LF.eq rfl, trivial⟩ ?_ | refine goE ?_) | (show AC _ _ _; first | (refine AC.recd Hd.cs_len i Hd.z rfl rfl ?_ ?_; (focus omega))) | refine T.s ?_ | ((first | apply goB | apply AB.dec | apply AB.gen) <;> intro h <;> try (exfalso; omega)) | refine LQ.mk fun r => ?_ | (show SQ _ _ _ (.loop _) _ _ _; first | (apply goO tQ [] 3 (S := Nat × Nm × Nm × Nm) [2] (fun (i, q, a, b) => ⟨[(8, .int .i64 i), (7, .vw q 0 i 1), (3, .ptr a 0), (4, .ptr b 0)], [(q, ⟨3, (((s.rf.take i).map Hd.num).map iAV)⟩), (a, ⟨61, s.cs⟩), (b, ⟨50, hd.cs⟩)], i ≤ s.rf.length, s.rf.length - i⟩) ((0, _, _, _)) (by rfl); (focus ((repeat' first | exact trivial | (refine And.intro ?_ ?_) | exact LB.nil | (with_reducible exact LB.refl) | (apply LB.cons; (repeat first | refine goH ?_ | apply LH.here | apply LH.next); refine And.intro ?_ ?_; (focus (try (first | (with_reducible rfl) | (refine congrArg (Pl.mk _) ?_; (first | (with_reducible rfl) | (simp only [List.map_nil, List.take_zero]; done) | (rw [q8 _ _ Hd.z (by omega), List.map_append]; rfl) | rfl)) | rfl | (with_reducible refine congrArg (Pl.mk _) ?_))))) | assumption | (first | (focus (apply Eq.trans; (conv => lhs; whnf); (conv => rhs; whnf); done)) | rfl | ((conv => lhs; whnf); first | rfl | (refine congrArg (AV.int _) ?_; (exact T.num)) | (refine congrArg AV.bool ?_; (exact T.num)) | (refine vwc ?_; first | (exact T.num) | (first | (with_reducible rfl) | (simp only [List.map_nil, List.take_zero]; done) | (rw [q8 _ _ Hd.z (by omega), List.map_append]; rfl) | rfl)) | (refine qc ?_ ?_ <;> first | (exact T.num) | (first | (with_reducible rfl) | (simp only [List.map_nil, List.take_zero]; done) | (rw [q8 _ _ Hd.z (by omega), List.map_append]; rfl) | rfl)) | (first | (with_reducible rfl) | (simp only [List.map_nil, List.take_zero]; done) | (rw [q8 _ _ Hd.z (by omega), List.map_append]; rfl) | rfl))) | (exact T.num) | (dsimp only; (exact T.num)) | (first | (with_reducible rfl) | (simp only [List.map_nil, List.take_zero]; done) | (rw [q8 _ _ Hd.z (by omega), List.map_append]; rfl) | rfl)); done)); rintro ⟨i, q, a, b⟩ hok; (try dsimp only at hok))) | (show SQ _ _ _ _ _ _ _; first | refine SQ.adopt 7 1 3 (by rfl) fun q => ?_) | (show AtL _ _ _ _ _ _ _ _ _ _; first | (apply AtL.mk' (id := 3) (S := Nat × Nm × Nm × Nm) ((i + 1, _, _, _)); (repeat' first | exact trivial | (refine And.intro ?_ ?_) | exact LB.nil | (with_reducible exact LB.refl) | (apply LB.cons; (repeat first | refine goH ?_ | apply LH.here | apply LH.next); refine And.intro ?_ ?_; (focus (try (first | (with_reducible rfl) | (refine congrArg (Pl.mk _) ?_; (first | (with_reducible rfl) | (simp only [List.map_nil, List.take_zero]; done) | (rw [q8 _ _ Hd.z (by omega), List.map_append]; rfl) | rfl)) | rfl | (with_reducible refine congrArg (Pl.mk _) ?_))))) | assumption | (first | (focus (apply Eq.trans; (conv => lhs; whnf); (conv => rhs; whnf); done)) | rfl | ((conv => lhs; whnf); first | rfl | (refine congrArg (AV.int _) ?_; (exact T.num)) | (refine congrArg AV.bool ?_; (exact T.num)) | (refine vwc ?_; first | (exact T.num) | (first | (with_reducible rfl) | (simp only [List.map_nil, List.take_zero]; done) | (rw [q8 _ _ Hd.z (by omega), List.map_append]; rfl) | rfl)) | (refine qc ?_ ?_ <;> first | (exact T.num) | (first | (with_reducible rfl) | (simp only [List.map_nil, List.take_zero]; done) | (rw [q8 _ _ Hd.z (by omega), List.map_append]; rfl) | rfl)) | (first | (with_reducible rfl) | (simp only [List.map_nil, List.take_zero]; done) | (rw [q8 _ _ Hd.z (by omega), List.map_append]; rfl) | rfl))) | (exact T.num) | (dsimp only; (exact T.num)) | (first | (with_reducible rfl) | (simp only [List.map_nil, List.take_zero]; done) | (rw [q8 _ _ Hd.z (by omega), List.map_append]; rfl) | rfl)); done) | (apply AtL.mk' (id := 3) (S := Nat × Nm × Nm × Nm) ((i + 1, _, _, _)); (repeat' first | exact trivial | (refine And.intro ?_ ?_) | exact LB.nil | (with_reducible exact LB.refl) | (apply LB.cons; (repeat first | refine goH ?_ | apply LH.here | apply LH.next); refine And.intro ?_ ?_; (focus (try (first | (with_reducible rfl) | (refine congrArg (Pl.mk _) ?_; (first | (with_reducible rfl) | (simp only [List.map_nil, List.take_zero]; done) | (rw [q8 _ _ Hd.z (by omega), List.map_append]; rfl) | rfl)) | rfl | (with_reducible refine congrArg (Pl.mk _) ?_))))) | assumption | (first | (focus (apply Eq.trans; (conv => lhs; whnf); (conv => rhs; whnf); done)) | rfl | ((conv => lhs; whnf); first | rfl | (refine congrArg (AV.int _) ?_; (exact T.num)) | (refine congrArg AV.bool ?_; (exact T.num)) | (refine vwc ?_; first | (exact T.num) | (first | (with_reducible rfl) | (simp only [List.map_nil, List.take_zero]; done) | (rw [q8 _ _ Hd.z (by omega), List.map_append]; rfl) | rfl)) | (refine qc ?_ ?_ <;> first | (exact T.num) | (first | (with_reducible rfl) | (simp only [List.map_nil, List.take_zero]; done) | (rw [q8 _ _ Hd.z (by omega), List.map_append]; rfl) | rfl)) | (first | (with_reducible rfl) | (simp only [List.map_nil, List.take_zero]; done) | (rw [q8 _ _ Hd.z (by omega), List.map_append]; rfl) | rfl))) | (exact T.num) | (dsimp only; (exact T.num)) | (first | (with_reducible rfl) | (simp only [List.map_nil, List.take_zero]; done) | (rw [q8 _ _ Hd.z (by omega), List.map_append]; rfl) | rfl)))) | exact T.z | fail) <;> conv => whnf)
 all_goals (try dsimp only)
 all_goals
   (show RL _ _ _; refine goR ?_)
   rfl
section
variable {s : Sn} {h : Hd} {f : Int}
theorem wC (h3 : ¬ (f = 3 ∧ h.k ≠ 2)) (hf : xD 16 (s.rf.map Hd.num) (wid f h.k 0) h.num = false) : qU s h f = false := by
 unfold qU
 rw [hf, decide_eq_false h3]
 simp
theorem zw (i : Nat) (hi : i < s.rf.length) (hb : xm s h f (s.rf.getD i Hd.z) = false) : qU s h f = false := by
 unfold qU
 rw [jJ s.rf i Hd.z hi hb]
 rfl
theorem kk (hall : s.rf.all (xm s h f) = true) (hf : f = 3 ∧ h.k ≠ 2 ∨ xD 16 (s.rf.map Hd.num) (wid f h.k 0) h.num = true) (h2 : ¬ (f = 2 ∧ h.k = 2)) : qU s h f = true := by
 unfold qU
 rw [hall, decide_eq_true h2]
 rcases hf with hf | hf
 · rw [decide_eq_true hf]; rfl
 · rw [hf]; simp
theorem possR_tm (hall : s.rf.all (xm s h f) = true) (hf : xD 16 (s.rf.map Hd.num) (wid f h.k 0) h.num = true) (h2 : f = 2 ∧ h.k = 2) : qU s h f = xD 32 (s.rf.map (·.tm)) 16 h.tm := by
 unfold qU
 rw [hall, hf, decide_eq_false (by omega), decide_eq_false (by simp [h2])]
 simp
theorem yh {r : Hd} (h1 : ¬ xN r h = 0) : xm s h f r = false := by unfold xm; rw [decide_eq_false h1]; rfl
end
theorem Hd.eqs (a b : Hd) : qJ [(a.k, b.k), (a.tos, b.tos), (a.id, b.id), (a.fx, b.fx), (a.ttl, b.ttl), (a.fr, b.fr), (a.to, b.to), (a.fp, b.fp), (a.tp, b.tp), (a.ck, b.ck), (a.mr, b.mr), (a.ty, b.ty), (a.sq, b.sq), (a.tm, b.tm), (a.sr, b.sr)] = decide (a = b) := by
 rw [Bool.eq_iff_iff]
 obtain ⟨a1, a2, a3, a4, a5, a6, a7, a8, a9, a10, a11, a12, a13, a14, a15⟩ := a
 obtain ⟨b1, b2, b3, b4, b5, b6, b7, b8, b9, b10, b11, b12, b13, b14, b15⟩ := b
 simp [qJ]
theorem w8 {s : Sn} {h r : Hd} (h1 : xN r h = 0) : xm s h 1 r = decide (zy s h r = h) := by unfold xm; rw [decide_eq_true h1]; simp
theorem w7 {s : Sn} {h r : Hd} (h1 : xN r h = 0) (h2 : h.k = 2) : xm s h 2 r = decide ((zy s h r).id = h.id) := by unfold xm; rw [decide_eq_true h1]; simp [h2]
theorem xV {s : Sn} {h r : Hd} {f : Int} (h1 : xN r h = 0) (h2 : f ≠ 1) (h3 : ¬ (f = 2 ∧ h.k = 2)) : xm s h f r = true := by unfold xm; rw [decide_eq_true h1]; simp [h2]; by_cases h4 : f = 2 <;> by_cases h5 : h.k = 2 <;> simp_all
theorem r9poss_1 (s : Sn) (hd : Hd) (hl : s.rf.length ≤ 100000) : LP Tryz.prog G 60 [s.av, hd.av, iAV 1] [] (fun _ => (.bool (qU s hd 1), [])) := by
 have hF := kd (G := G) s hd 4 hl
 have hW : wid 1 hd.k 0 = 4 := by simp [wid]
 refine goW [] Tryz.func60 rfl ?_
 conv => whnf
 repeat' ((first | exact Nm.b 0 | (refine And.intro ?_ ?_; (focus (first | exact zx Hd.cs_len (by assumption) | exact InL.here | exact InL.next InL.here | exact InL.next (InL.next InL.here) | exact T.kx | exact T.side))) | (show LC _ _ _ _ _ _; first | refine LC.pure (hF) ?_ | refine LC.pure (za _) ?_ | refine LC.pure (jd _ _) ?_ | refine LC.pure (ke s.dy _ _) ?_ | refine goE ?_) | (show AC _ _ _; first | (refine AC.recd Hd.cs_len i Hd.z rfl rfl ?_ ?_; (focus omega))) | refine T.s ?_ | ((first | apply goB | apply AB.dec | apply AB.gen) <;> intro h <;> try (exfalso; omega)) | refine LQ.mk fun r => ?_ | (show SQ _ _ _ (.loop _) _ _ _; first | (apply goO tQ [] 11 (S := Nat × Nm × Nm × Nm) [2, 7] (fun (i, q, a, b) => ⟨[(10, .int .i64 i), (9, .vw q 0 i 1), (3, .ptr a 0), (4, .ptr b 0)], [(q, ⟨3, (((s.rf.take i).map (·.tm)).map iAV)⟩), (a, ⟨61, s.cs⟩), (b, ⟨50, hd.cs⟩)], i ≤ s.rf.length ∧ (s.rf.take i).all (xm s hd 1) = true, s.rf.length - i⟩) ((0, _, _, _)) (by rfl); (focus ((repeat' first | exact trivial | (refine And.intro ?_ ?_) | exact LB.nil | (with_reducible exact LB.refl) | (apply LB.cons; (repeat first | refine goH ?_ | apply LH.here | apply LH.next); refine And.intro ?_ ?_; (focus (try (first | (with_reducible rfl) | (refine congrArg (Pl.mk _) ?_; (first | (with_reducible rfl) | (simp only [List.map_nil, List.take_zero]; done) | (rw [q8 _ _ Hd.z (by omega), List.map_append]; rfl) | rfl)) | rfl | (with_reducible refine congrArg (Pl.mk _) ?_))))) | assumption | (rw [qA _ _ Hd.z (by omega), hok, w8 (by assumption), ← Hd.eqs]; exact h) | (first | (focus (apply Eq.trans; (conv => lhs; whnf); (conv => rhs; whnf); done)) | rfl | ((conv => lhs; whnf); first | rfl | (refine congrArg (AV.int _) ?_; (exact T.num)) | (refine congrArg AV.bool ?_; (exact T.num)) | (refine vwc ?_; first | (exact T.num) | (first | (with_reducible rfl) | (simp only [List.map_nil, List.take_zero]; done) | (rw [q8 _ _ Hd.z (by omega), List.map_append]; rfl) | rfl)) | (refine qc ?_ ?_ <;> first | (exact T.num) | (first | (with_reducible rfl) | (simp only [List.map_nil, List.take_zero]; done) | (rw [q8 _ _ Hd.z (by omega), List.map_append]; rfl) | rfl)) | (first | (with_reducible rfl) | (simp only [List.map_nil, List.take_zero]; done) | (rw [q8 _ _ Hd.z (by omega), List.map_append]; rfl) | rfl))) | (exact T.num) | (dsimp only; (exact T.num)) | (first | (with_reducible rfl) | (simp only [List.map_nil, List.take_zero]; done) | (rw [q8 _ _ Hd.z (by omega), List.map_append]; rfl) | rfl)); done)); rintro ⟨i, q, a, b⟩ ⟨hk, hok⟩)) | (show SQ _ _ _ _ _ _ _; first | refine SQ.adopt 9 1 3 (by rfl) fun q => ?_ | (apply goD tQ qd 17 [1, 2, 4] [0, 1, 2, 3, 4, 5, 6, 7] [a, b, _] (by kernel_rfl))) | (show AtL _ _ _ _ _ _ _ _ _ _; first | (apply AtL.mk' (id := 11) (S := Nat × Nm × Nm × Nm) ((i + 1, _, _, _)); (repeat' first | exact trivial | (refine And.intro ?_ ?_) | exact LB.nil | (with_reducible exact LB.refl) | (apply LB.cons; (repeat first | refine goH ?_ | apply LH.here | apply LH.next); refine And.intro ?_ ?_; (focus (try (first | (with_reducible rfl) | (refine congrArg (Pl.mk _) ?_; (first | (with_reducible rfl) | (simp only [List.map_nil, List.take_zero]; done) | (rw [q8 _ _ Hd.z (by omega), List.map_append]; rfl) | rfl)) | rfl | (with_reducible refine congrArg (Pl.mk _) ?_))))) | assumption | (rw [qA _ _ Hd.z (by omega), hok, w8 (by assumption), ← Hd.eqs]; exact h) | (first | (focus (apply Eq.trans; (conv => lhs; whnf); (conv => rhs; whnf); done)) | rfl | ((conv => lhs; whnf); first | rfl | (refine congrArg (AV.int _) ?_; (exact T.num)) | (refine congrArg AV.bool ?_; (exact T.num)) | (refine vwc ?_; first | (exact T.num) | (first | (with_reducible rfl) | (simp only [List.map_nil, List.take_zero]; done) | (rw [q8 _ _ Hd.z (by omega), List.map_append]; rfl) | rfl)) | (refine qc ?_ ?_ <;> first | (exact T.num) | (first | (with_reducible rfl) | (simp only [List.map_nil, List.take_zero]; done) | (rw [q8 _ _ Hd.z (by omega), List.map_append]; rfl) | rfl)) | (first | (with_reducible rfl) | (simp only [List.map_nil, List.take_zero]; done) | (rw [q8 _ _ Hd.z (by omega), List.map_append]; rfl) | rfl))) | (exact T.num) | (dsimp only; (exact T.num)) | (first | (with_reducible rfl) | (simp only [List.map_nil, List.take_zero]; done) | (rw [q8 _ _ Hd.z (by omega), List.map_append]; rfl) | rfl)); done) | (apply AtL.mk' (id := 11) (S := Nat × Nm × Nm × Nm) ((i + 1, _, _, _)); (repeat' first | exact trivial | (refine And.intro ?_ ?_) | exact LB.nil | (with_reducible exact LB.refl) | (apply LB.cons; (repeat first | refine goH ?_ | apply LH.here | apply LH.next); refine And.intro ?_ ?_; (focus (try (first | (with_reducible rfl) | (refine congrArg (Pl.mk _) ?_; (first | (with_reducible rfl) | (simp only [List.map_nil, List.take_zero]; done) | (rw [q8 _ _ Hd.z (by omega), List.map_append]; rfl) | rfl)) | rfl | (with_reducible refine congrArg (Pl.mk _) ?_))))) | assumption | (rw [qA _ _ Hd.z (by omega), hok, w8 (by assumption), ← Hd.eqs]; exact h) | (first | (focus (apply Eq.trans; (conv => lhs; whnf); (conv => rhs; whnf); done)) | rfl | ((conv => lhs; whnf); first | rfl | (refine congrArg (AV.int _) ?_; (exact T.num)) | (refine congrArg AV.bool ?_; (exact T.num)) | (refine vwc ?_; first | (exact T.num) | (first | (with_reducible rfl) | (simp only [List.map_nil, List.take_zero]; done) | (rw [q8 _ _ Hd.z (by omega), List.map_append]; rfl) | rfl)) | (refine qc ?_ ?_ <;> first | (exact T.num) | (first | (with_reducible rfl) | (simp only [List.map_nil, List.take_zero]; done) | (rw [q8 _ _ Hd.z (by omega), List.map_append]; rfl) | rfl)) | (first | (with_reducible rfl) | (simp only [List.map_nil, List.take_zero]; done) | (rw [q8 _ _ Hd.z (by omega), List.map_append]; rfl) | rfl))) | (exact T.num) | (dsimp only; (exact T.num)) | (first | (with_reducible rfl) | (simp only [List.map_nil, List.take_zero]; done) | (rw [q8 _ _ Hd.z (by omega), List.map_append]; rfl) | rfl)))) | exact T.z | fail) <;> try (show (_ : Prop); conv => whnf))
 all_goals (try dsimp only)
 all_goals first
   | ((show RL _ _ _; refine goR ?_); rw [zw i (by omega) (yh (by assumption))])
   | ((show RL _ _ _; refine goR ?_); rw [zw i (by omega) (by rw [w8 (by assumption), ← Hd.eqs]; exact h)])
   | ((show RL _ _ _; refine goR ?_); rw [wC (by omega) (by rw [hW]; exact h)])
   | ((show RL _ _ _; refine goR ?_); rw [kk (zm (by omega) hok) (.inr (by rw [hW]; assumption)) (by omega)])
   | trace_state
theorem r9poss_2t (s : Sn) (hd : Hd) (k : hd.k = 2) (hl : s.rf.length ≤ 100000) : LP Tryz.prog G 60 [s.av, hd.av, iAV 2] [] (fun _ => (.bool (qU s hd 2), [])) := by
 have hT := r7fits_c (G := G) 32 (s.rf.map (·.tm)) 16 hd.tm (by simpa using hl)
 have hF := kd (G := G) s hd 5 hl
 have hW : wid 2 hd.k 0 = 5 := by simp [wid, k]
 refine goW [] Tryz.func60 rfl ?_
 conv => whnf
 repeat' ((first | (with_reducible refine And.intro (congrArg (fun z => List.map iAV (List.map (fun x : Hd => x.tm) z)) (List.take_of_length_le (by omega))) (by simp; omega)) | exact Nm.b 0 | (refine And.intro ?_ ?_; (focus (first | exact zx Hd.cs_len (by assumption) | exact InL.here | exact InL.next InL.here | exact InL.next (InL.next InL.here) | exact T.kx | exact T.side))) | (show LC _ _ _ _ _ _; first | refine LC.pure (hF) ?_ | refine LC.pure (za _) ?_ | refine LC.pure (jd _ _) ?_ | refine LC.pure (ke s.dy _ _) ?_ | refine LC.mk' (hT) [_] ⟨LF.eq rfl, LF.rowF InL.here ?_, LF.eq rfl, LF.eq rfl, trivial⟩ ?_ | refine goE ?_) | (show AC _ _ _; first | (refine AC.recd Hd.cs_len i Hd.z rfl rfl ?_ ?_; (focus omega))) | refine T.s ?_ | ((first | apply goB | apply AB.dec | apply AB.gen) <;> intro h <;> try (exfalso; omega)) | refine LQ.mk fun r => ?_ | (show SQ _ _ _ (.loop _) _ _ _; first | (apply goO tQ [] 11 (S := Nat × Nm × Nm × Nm) [2, 7] (fun (i, q, a, b) => ⟨[(10, .int .i64 i), (9, .vw q 0 i 1), (3, .ptr a 0), (4, .ptr b 0)], [(q, ⟨3, (((s.rf.take i).map (·.tm)).map iAV)⟩), (a, ⟨61, s.cs⟩), (b, ⟨50, hd.cs⟩)], i ≤ s.rf.length ∧ (s.rf.take i).all (xm s hd 2) = true, s.rf.length - i⟩) ((0, _, _, _)) (by rfl); (focus ((repeat' first | exact trivial | (refine And.intro ?_ ?_) | exact LB.nil | (with_reducible exact LB.refl) | (apply LB.cons; (repeat first | refine goH ?_ | apply LH.here | apply LH.next); refine And.intro ?_ ?_; (focus (try (first | (with_reducible rfl) | (refine congrArg (Pl.mk _) ?_; (first | (with_reducible rfl) | (simp only [List.map_nil, List.take_zero]; done) | (rw [q8 _ _ Hd.z (by omega), List.map_append]; rfl) | rfl)) | rfl | (with_reducible refine congrArg (Pl.mk _) ?_))))) | assumption | (rw [qA _ _ Hd.z (by omega), hok, w7 (by assumption) k]; exact decide_eq_true (by assumption)) | (first | (focus (apply Eq.trans; (conv => lhs; whnf); (conv => rhs; whnf); done)) | rfl | ((conv => lhs; whnf); first | rfl | (refine congrArg (AV.int _) ?_; (exact T.num)) | (refine congrArg AV.bool ?_; (exact T.num)) | (refine vwc ?_; first | (exact T.num) | (first | (with_reducible rfl) | (simp only [List.map_nil, List.take_zero]; done) | (rw [q8 _ _ Hd.z (by omega), List.map_append]; rfl) | rfl)) | (refine qc ?_ ?_ <;> first | (exact T.num) | (first | (with_reducible rfl) | (simp only [List.map_nil, List.take_zero]; done) | (rw [q8 _ _ Hd.z (by omega), List.map_append]; rfl) | rfl)) | (first | (with_reducible rfl) | (simp only [List.map_nil, List.take_zero]; done) | (rw [q8 _ _ Hd.z (by omega), List.map_append]; rfl) | rfl))) | (exact T.num) | (dsimp only; (exact T.num)) | (first | (with_reducible rfl) | (simp only [List.map_nil, List.take_zero]; done) | (rw [q8 _ _ Hd.z (by omega), List.map_append]; rfl) | rfl)); done)); rintro ⟨i, q, a, b⟩ ⟨hk, hok⟩)) | (show SQ _ _ _ _ _ _ _; first | refine SQ.adopt 9 1 3 (by rfl) fun q => ?_ | (apply goD tQ qd 17 [1, 2, 4] [0, 1, 2, 3, 4, 5, 6, 7] [a, b, _] (by kernel_rfl))) | (show AtL _ _ _ _ _ _ _ _ _ _; first | (apply AtL.mk' (id := 11) (S := Nat × Nm × Nm × Nm) ((i + 1, _, _, _)); (repeat' first | exact trivial | (refine And.intro ?_ ?_) | exact LB.nil | (with_reducible exact LB.refl) | (apply LB.cons; (repeat first | refine goH ?_ | apply LH.here | apply LH.next); refine And.intro ?_ ?_; (focus (try (first | (with_reducible rfl) | (refine congrArg (Pl.mk _) ?_; (first | (with_reducible rfl) | (simp only [List.map_nil, List.take_zero]; done) | (rw [q8 _ _ Hd.z (by omega), List.map_append]; rfl) | rfl)) | rfl | (with_reducible refine congrArg (Pl.mk _) ?_))))) | assumption | (rw [qA _ _ Hd.z (by omega), hok, w7 (by assumption) k]; exact decide_eq_true (by assumption)) | (first | (focus (apply Eq.trans; (conv => lhs; whnf); (conv => rhs; whnf); done)) | rfl | ((conv => lhs; whnf); first | rfl | (refine congrArg (AV.int _) ?_; (exact T.num)) | (refine congrArg AV.bool ?_; (exact T.num)) | (refine vwc ?_; first | (exact T.num) | (first | (with_reducible rfl) | (simp only [List.map_nil, List.take_zero]; done) | (rw [q8 _ _ Hd.z (by omega), List.map_append]; rfl) | rfl)) | (refine qc ?_ ?_ <;> first | (exact T.num) | (first | (with_reducible rfl) | (simp only [List.map_nil, List.take_zero]; done) | (rw [q8 _ _ Hd.z (by omega), List.map_append]; rfl) | rfl)) | (first | (with_reducible rfl) | (simp only [List.map_nil, List.take_zero]; done) | (rw [q8 _ _ Hd.z (by omega), List.map_append]; rfl) | rfl))) | (exact T.num) | (dsimp only; (exact T.num)) | (first | (with_reducible rfl) | (simp only [List.map_nil, List.take_zero]; done) | (rw [q8 _ _ Hd.z (by omega), List.map_append]; rfl) | rfl)); done) | (apply AtL.mk' (id := 11) (S := Nat × Nm × Nm × Nm) ((i + 1, _, _, _)); (repeat' first | exact trivial | (refine And.intro ?_ ?_) | exact LB.nil | (with_reducible exact LB.refl) | (apply LB.cons; (repeat first | refine goH ?_ | apply LH.here | apply LH.next); refine And.intro ?_ ?_; (focus (try (first | (with_reducible rfl) | (refine congrArg (Pl.mk _) ?_; (first | (with_reducible rfl) | (simp only [List.map_nil, List.take_zero]; done) | (rw [q8 _ _ Hd.z (by omega), List.map_append]; rfl) | rfl)) | rfl | (with_reducible refine congrArg (Pl.mk _) ?_))))) | assumption | (rw [qA _ _ Hd.z (by omega), hok, w7 (by assumption) k]; exact decide_eq_true (by assumption)) | (first | (focus (apply Eq.trans; (conv => lhs; whnf); (conv => rhs; whnf); done)) | rfl | ((conv => lhs; whnf); first | rfl | (refine congrArg (AV.int _) ?_; (exact T.num)) | (refine congrArg AV.bool ?_; (exact T.num)) | (refine vwc ?_; first | (exact T.num) | (first | (with_reducible rfl) | (simp only [List.map_nil, List.take_zero]; done) | (rw [q8 _ _ Hd.z (by omega), List.map_append]; rfl) | rfl)) | (refine qc ?_ ?_ <;> first | (exact T.num) | (first | (with_reducible rfl) | (simp only [List.map_nil, List.take_zero]; done) | (rw [q8 _ _ Hd.z (by omega), List.map_append]; rfl) | rfl)) | (first | (with_reducible rfl) | (simp only [List.map_nil, List.take_zero]; done) | (rw [q8 _ _ Hd.z (by omega), List.map_append]; rfl) | rfl))) | (exact T.num) | (dsimp only; (exact T.num)) | (first | (with_reducible rfl) | (simp only [List.map_nil, List.take_zero]; done) | (rw [q8 _ _ Hd.z (by omega), List.map_append]; rfl) | rfl)))) | exact T.z | fail) <;> try (show (_ : Prop); conv => whnf))
 all_goals (try dsimp only)
 all_goals first
   | ((show RL _ _ _; refine goR ?_); rw [zw i (by omega) (yh (by assumption))])
   | ((show RL _ _ _; refine goR ?_); rw [zw i (by omega) (by rw [w7 (by assumption) k]; exact decide_eq_false (by assumption))])
   | ((show RL _ _ _; refine goR ?_); rw [wC (by omega) (by rw [hW]; exact h)])
   | ((show RL _ _ _; refine goR ?_); rw [possR_tm (zm (by omega) hok) (by rw [hW]; assumption) ⟨rfl, k⟩])
   | ((show RL _ _ _; refine goR ?_); rw [possR_tm (zm (by omega) hok) (by rw [hW]; assumption) ⟨rfl, k⟩, h])
   | trace_state
theorem r9poss_2u (s : Sn) (hd : Hd) (k : ¬ hd.k = 2) (hl : s.rf.length ≤ 100000) : LP Tryz.prog G 60 [s.av, hd.av, iAV 2] [] (fun _ => (.bool (qU s hd 2), [])) := by
 have hF := kd (G := G) s hd 5 hl
 have hW : wid 2 hd.k 0 = 5 := by simp [wid, k]
 refine goW [] Tryz.func60 rfl ?_
 conv => whnf
 repeat' ((first | exact Nm.b 0 | (refine And.intro ?_ ?_; (focus (first | exact zx Hd.cs_len (by assumption) | exact InL.here | exact InL.next InL.here | exact InL.next (InL.next InL.here) | exact T.kx | exact T.side))) | (show LC _ _ _ _ _ _; first | refine LC.pure (hF) ?_ | refine LC.pure (za _) ?_ | refine LC.pure (jd _ _) ?_ | refine LC.pure (ke s.dy _ _) ?_ | refine goE ?_) | (show AC _ _ _; first | (refine AC.recd Hd.cs_len i Hd.z rfl rfl ?_ ?_; (focus omega))) | refine T.s ?_ | ((first | apply goB | apply AB.dec | apply AB.gen) <;> intro h <;> try (exfalso; omega)) | refine LQ.mk fun r => ?_ | (show SQ _ _ _ (.loop _) _ _ _; first | (apply goO tQ [] 11 (S := Nat × Nm × Nm × Nm) [2, 7] (fun (i, q, a, b) => ⟨[(10, .int .i64 i), (9, .vw q 0 i 1), (3, .ptr a 0), (4, .ptr b 0)], [(q, ⟨3, (((s.rf.take i).map (·.tm)).map iAV)⟩), (a, ⟨61, s.cs⟩), (b, ⟨50, hd.cs⟩)], i ≤ s.rf.length ∧ (s.rf.take i).all (xm s hd 2) = true, s.rf.length - i⟩) ((0, _, _, _)) (by rfl); (focus ((repeat' first | exact trivial | (refine And.intro ?_ ?_) | exact LB.nil | (with_reducible exact LB.refl) | (apply LB.cons; (repeat first | refine goH ?_ | apply LH.here | apply LH.next); refine And.intro ?_ ?_; (focus (try (first | (with_reducible rfl) | (refine congrArg (Pl.mk _) ?_; (first | (with_reducible rfl) | (simp only [List.map_nil, List.take_zero]; done) | (rw [q8 _ _ Hd.z (by omega), List.map_append]; rfl) | rfl)) | rfl | (with_reducible refine congrArg (Pl.mk _) ?_))))) | assumption | (rw [qA _ _ Hd.z (by omega), hok, xV (by assumption) (by decide) (by omega)]; rfl) | (first | (focus (apply Eq.trans; (conv => lhs; whnf); (conv => rhs; whnf); done)) | rfl | ((conv => lhs; whnf); first | rfl | (refine congrArg (AV.int _) ?_; (exact T.num)) | (refine congrArg AV.bool ?_; (exact T.num)) | (refine vwc ?_; first | (exact T.num) | (first | (with_reducible rfl) | (simp only [List.map_nil, List.take_zero]; done) | (rw [q8 _ _ Hd.z (by omega), List.map_append]; rfl) | rfl)) | (refine qc ?_ ?_ <;> first | (exact T.num) | (first | (with_reducible rfl) | (simp only [List.map_nil, List.take_zero]; done) | (rw [q8 _ _ Hd.z (by omega), List.map_append]; rfl) | rfl)) | (first | (with_reducible rfl) | (simp only [List.map_nil, List.take_zero]; done) | (rw [q8 _ _ Hd.z (by omega), List.map_append]; rfl) | rfl))) | (exact T.num) | (dsimp only; (exact T.num)) | (first | (with_reducible rfl) | (simp only [List.map_nil, List.take_zero]; done) | (rw [q8 _ _ Hd.z (by omega), List.map_append]; rfl) | rfl)); done)); rintro ⟨i, q, a, b⟩ ⟨hk, hok⟩)) | (show SQ _ _ _ _ _ _ _; first | refine SQ.adopt 9 1 3 (by rfl) fun q => ?_ | (apply goD tQ qd 17 [1, 2, 4] [0, 1, 2, 3, 4, 5, 6, 7] [a, b, _] (by kernel_rfl))) | (show AtL _ _ _ _ _ _ _ _ _ _; first | (apply AtL.mk' (id := 11) (S := Nat × Nm × Nm × Nm) ((i + 1, _, _, _)); (repeat' first | exact trivial | (refine And.intro ?_ ?_) | exact LB.nil | (with_reducible exact LB.refl) | (apply LB.cons; (repeat first | refine goH ?_ | apply LH.here | apply LH.next); refine And.intro ?_ ?_; (focus (try (first | (with_reducible rfl) | (refine congrArg (Pl.mk _) ?_; (first | (with_reducible rfl) | (simp only [List.map_nil, List.take_zero]; done) | (rw [q8 _ _ Hd.z (by omega), List.map_append]; rfl) | rfl)) | rfl | (with_reducible refine congrArg (Pl.mk _) ?_))))) | assumption | (rw [qA _ _ Hd.z (by omega), hok, xV (by assumption) (by decide) (by omega)]; rfl) | (first | (focus (apply Eq.trans; (conv => lhs; whnf); (conv => rhs; whnf); done)) | rfl | ((conv => lhs; whnf); first | rfl | (refine congrArg (AV.int _) ?_; (exact T.num)) | (refine congrArg AV.bool ?_; (exact T.num)) | (refine vwc ?_; first | (exact T.num) | (first | (with_reducible rfl) | (simp only [List.map_nil, List.take_zero]; done) | (rw [q8 _ _ Hd.z (by omega), List.map_append]; rfl) | rfl)) | (refine qc ?_ ?_ <;> first | (exact T.num) | (first | (with_reducible rfl) | (simp only [List.map_nil, List.take_zero]; done) | (rw [q8 _ _ Hd.z (by omega), List.map_append]; rfl) | rfl)) | (first | (with_reducible rfl) | (simp only [List.map_nil, List.take_zero]; done) | (rw [q8 _ _ Hd.z (by omega), List.map_append]; rfl) | rfl))) | (exact T.num) | (dsimp only; (exact T.num)) | (first | (with_reducible rfl) | (simp only [List.map_nil, List.take_zero]; done) | (rw [q8 _ _ Hd.z (by omega), List.map_append]; rfl) | rfl)); done) | (apply AtL.mk' (id := 11) (S := Nat × Nm × Nm × Nm) ((i + 1, _, _, _)); (repeat' first | exact trivial | (refine And.intro ?_ ?_) | exact LB.nil | (with_reducible exact LB.refl) | (apply LB.cons; (repeat first | refine goH ?_ | apply LH.here | apply LH.next); refine And.intro ?_ ?_; (focus (try (first | (with_reducible rfl) | (refine congrArg (Pl.mk _) ?_; (first | (with_reducible rfl) | (simp only [List.map_nil, List.take_zero]; done) | (rw [q8 _ _ Hd.z (by omega), List.map_append]; rfl) | rfl)) | rfl | (with_reducible refine congrArg (Pl.mk _) ?_))))) | assumption | (rw [qA _ _ Hd.z (by omega), hok, xV (by assumption) (by decide) (by omega)]; rfl) | (first | (focus (apply Eq.trans; (conv => lhs; whnf); (conv => rhs; whnf); done)) | rfl | ((conv => lhs; whnf); first | rfl | (refine congrArg (AV.int _) ?_; (exact T.num)) | (refine congrArg AV.bool ?_; (exact T.num)) | (refine vwc ?_; first | (exact T.num) | (first | (with_reducible rfl) | (simp only [List.map_nil, List.take_zero]; done) | (rw [q8 _ _ Hd.z (by omega), List.map_append]; rfl) | rfl)) | (refine qc ?_ ?_ <;> first | (exact T.num) | (first | (with_reducible rfl) | (simp only [List.map_nil, List.take_zero]; done) | (rw [q8 _ _ Hd.z (by omega), List.map_append]; rfl) | rfl)) | (first | (with_reducible rfl) | (simp only [List.map_nil, List.take_zero]; done) | (rw [q8 _ _ Hd.z (by omega), List.map_append]; rfl) | rfl))) | (exact T.num) | (dsimp only; (exact T.num)) | (first | (with_reducible rfl) | (simp only [List.map_nil, List.take_zero]; done) | (rw [q8 _ _ Hd.z (by omega), List.map_append]; rfl) | rfl)))) | exact T.z | fail) <;> try (show (_ : Prop); conv => whnf))
 all_goals (try dsimp only)
 all_goals first
   | ((show RL _ _ _; refine goR ?_); rw [zw i (by omega) (yh (by assumption))])
   | ((show RL _ _ _; refine goR ?_); rw [wC (by omega) (by rw [hW]; exact h)])
   | ((show RL _ _ _; refine goR ?_); rw [kk (zm (by omega) hok) (.inr (by rw [hW]; assumption)) (by omega)])
   | trace_state
theorem r9poss_3t (s : Sn) (hd : Hd) (k : hd.k = 2) (hl : s.rf.length ≤ 100000) : LP Tryz.prog G 60 [s.av, hd.av, iAV 3] [] (fun _ => (.bool (qU s hd 3), [])) := by
 have hF := kd (G := G) s hd 8 hl
 have hW : wid 3 hd.k 0 = 8 := by simp [wid, k]
 refine goW [] Tryz.func60 rfl ?_
 conv => whnf
 repeat' ((first | exact Nm.b 0 | (refine And.intro ?_ ?_; (focus (first | exact zx Hd.cs_len (by assumption) | exact InL.here | exact InL.next InL.here | exact InL.next (InL.next InL.here) | exact T.kx | exact T.side))) | (show LC _ _ _ _ _ _; first | refine LC.pure (hF) ?_ | refine LC.pure (za _) ?_ | refine LC.pure (jd _ _) ?_ | refine LC.pure (ke s.dy _ _) ?_ | refine goE ?_) | (show AC _ _ _; first | (refine AC.recd Hd.cs_len i Hd.z rfl rfl ?_ ?_; (focus omega))) | refine T.s ?_ | ((first | apply goB | apply AB.dec | apply AB.gen) <;> intro h <;> try (exfalso; omega)) | refine LQ.mk fun r => ?_ | (show SQ _ _ _ (.loop _) _ _ _; first | (apply goO tQ [] 11 (S := Nat × Nm × Nm × Nm) [2, 7] (fun (i, q, a, b) => ⟨[(10, .int .i64 i), (9, .vw q 0 i 1), (3, .ptr a 0), (4, .ptr b 0)], [(q, ⟨3, (((s.rf.take i).map (·.tm)).map iAV)⟩), (a, ⟨61, s.cs⟩), (b, ⟨50, hd.cs⟩)], i ≤ s.rf.length ∧ (s.rf.take i).all (xm s hd 3) = true, s.rf.length - i⟩) ((0, _, _, _)) (by rfl); (focus ((repeat' first | exact trivial | (refine And.intro ?_ ?_) | exact LB.nil | (with_reducible exact LB.refl) | (apply LB.cons; (repeat first | refine goH ?_ | apply LH.here | apply LH.next); refine And.intro ?_ ?_; (focus (try (first | (with_reducible rfl) | (refine congrArg (Pl.mk _) ?_; (first | (with_reducible rfl) | (simp only [List.map_nil, List.take_zero]; done) | (rw [q8 _ _ Hd.z (by omega), List.map_append]; rfl) | rfl)) | rfl | (with_reducible refine congrArg (Pl.mk _) ?_))))) | assumption | (rw [qA _ _ Hd.z (by omega), hok, xV (by assumption) (by decide) (by omega)]; rfl) | (first | (focus (apply Eq.trans; (conv => lhs; whnf); (conv => rhs; whnf); done)) | rfl | ((conv => lhs; whnf); first | rfl | (refine congrArg (AV.int _) ?_; (exact T.num)) | (refine congrArg AV.bool ?_; (exact T.num)) | (refine vwc ?_; first | (exact T.num) | (first | (with_reducible rfl) | (simp only [List.map_nil, List.take_zero]; done) | (rw [q8 _ _ Hd.z (by omega), List.map_append]; rfl) | rfl)) | (refine qc ?_ ?_ <;> first | (exact T.num) | (first | (with_reducible rfl) | (simp only [List.map_nil, List.take_zero]; done) | (rw [q8 _ _ Hd.z (by omega), List.map_append]; rfl) | rfl)) | (first | (with_reducible rfl) | (simp only [List.map_nil, List.take_zero]; done) | (rw [q8 _ _ Hd.z (by omega), List.map_append]; rfl) | rfl))) | (exact T.num) | (dsimp only; (exact T.num)) | (first | (with_reducible rfl) | (simp only [List.map_nil, List.take_zero]; done) | (rw [q8 _ _ Hd.z (by omega), List.map_append]; rfl) | rfl)); done)); rintro ⟨i, q, a, b⟩ ⟨hk, hok⟩)) | (show SQ _ _ _ _ _ _ _; first | refine SQ.adopt 9 1 3 (by rfl) fun q => ?_ | (apply goD tQ qd 17 [1, 2, 4] [0, 1, 2, 3, 4, 5, 6, 7] [a, b, _] (by kernel_rfl))) | (show AtL _ _ _ _ _ _ _ _ _ _; first | (apply AtL.mk' (id := 11) (S := Nat × Nm × Nm × Nm) ((i + 1, _, _, _)); (repeat' first | exact trivial | (refine And.intro ?_ ?_) | exact LB.nil | (with_reducible exact LB.refl) | (apply LB.cons; (repeat first | refine goH ?_ | apply LH.here | apply LH.next); refine And.intro ?_ ?_; (focus (try (first | (with_reducible rfl) | (refine congrArg (Pl.mk _) ?_; (first | (with_reducible rfl) | (simp only [List.map_nil, List.take_zero]; done) | (rw [q8 _ _ Hd.z (by omega), List.map_append]; rfl) | rfl)) | rfl | (with_reducible refine congrArg (Pl.mk _) ?_))))) | assumption | (rw [qA _ _ Hd.z (by omega), hok, xV (by assumption) (by decide) (by omega)]; rfl) | (first | (focus (apply Eq.trans; (conv => lhs; whnf); (conv => rhs; whnf); done)) | rfl | ((conv => lhs; whnf); first | rfl | (refine congrArg (AV.int _) ?_; (exact T.num)) | (refine congrArg AV.bool ?_; (exact T.num)) | (refine vwc ?_; first | (exact T.num) | (first | (with_reducible rfl) | (simp only [List.map_nil, List.take_zero]; done) | (rw [q8 _ _ Hd.z (by omega), List.map_append]; rfl) | rfl)) | (refine qc ?_ ?_ <;> first | (exact T.num) | (first | (with_reducible rfl) | (simp only [List.map_nil, List.take_zero]; done) | (rw [q8 _ _ Hd.z (by omega), List.map_append]; rfl) | rfl)) | (first | (with_reducible rfl) | (simp only [List.map_nil, List.take_zero]; done) | (rw [q8 _ _ Hd.z (by omega), List.map_append]; rfl) | rfl))) | (exact T.num) | (dsimp only; (exact T.num)) | (first | (with_reducible rfl) | (simp only [List.map_nil, List.take_zero]; done) | (rw [q8 _ _ Hd.z (by omega), List.map_append]; rfl) | rfl)); done) | (apply AtL.mk' (id := 11) (S := Nat × Nm × Nm × Nm) ((i + 1, _, _, _)); (repeat' first | exact trivial | (refine And.intro ?_ ?_) | exact LB.nil | (with_reducible exact LB.refl) | (apply LB.cons; (repeat first | refine goH ?_ | apply LH.here | apply LH.next); refine And.intro ?_ ?_; (focus (try (first | (with_reducible rfl) | (refine congrArg (Pl.mk _) ?_; (first | (with_reducible rfl) | (simp only [List.map_nil, List.take_zero]; done) | (rw [q8 _ _ Hd.z (by omega), List.map_append]; rfl) | rfl)) | rfl | (with_reducible refine congrArg (Pl.mk _) ?_))))) | assumption | (rw [qA _ _ Hd.z (by omega), hok, xV (by assumption) (by decide) (by omega)]; rfl) | (first | (focus (apply Eq.trans; (conv => lhs; whnf); (conv => rhs; whnf); done)) | rfl | ((conv => lhs; whnf); first | rfl | (refine congrArg (AV.int _) ?_; (exact T.num)) | (refine congrArg AV.bool ?_; (exact T.num)) | (refine vwc ?_; first | (exact T.num) | (first | (with_reducible rfl) | (simp only [List.map_nil, List.take_zero]; done) | (rw [q8 _ _ Hd.z (by omega), List.map_append]; rfl) | rfl)) | (refine qc ?_ ?_ <;> first | (exact T.num) | (first | (with_reducible rfl) | (simp only [List.map_nil, List.take_zero]; done) | (rw [q8 _ _ Hd.z (by omega), List.map_append]; rfl) | rfl)) | (first | (with_reducible rfl) | (simp only [List.map_nil, List.take_zero]; done) | (rw [q8 _ _ Hd.z (by omega), List.map_append]; rfl) | rfl))) | (exact T.num) | (dsimp only; (exact T.num)) | (first | (with_reducible rfl) | (simp only [List.map_nil, List.take_zero]; done) | (rw [q8 _ _ Hd.z (by omega), List.map_append]; rfl) | rfl)))) | exact T.z | fail) <;> try (show (_ : Prop); conv => whnf))
 all_goals (try dsimp only)
 all_goals first
   | ((show RL _ _ _; refine goR ?_); rw [zw i (by omega) (yh (by assumption))])
   | ((show RL _ _ _; refine goR ?_); rw [wC (by omega) (by rw [hW]; exact h)])
   | ((show RL _ _ _; refine goR ?_); rw [kk (zm (by omega) hok) (.inr (by rw [hW]; assumption)) (by omega)])
   | trace_state
theorem r9poss_3u (s : Sn) (hd : Hd) (k : ¬ hd.k = 2) (hl : s.rf.length ≤ 100000) : LP Tryz.prog G 60 [s.av, hd.av, iAV 3] [] (fun _ => (.bool (qU s hd 3), [])) := by
 have hF := kd (G := G) s hd 16 hl
 have hW : wid 3 hd.k 0 = 16 := by simp [wid, k]
 refine goW [] Tryz.func60 rfl ?_
 conv => whnf
 repeat' ((first | exact Nm.b 0 | (refine And.intro ?_ ?_; (focus (first | exact zx Hd.cs_len (by assumption) | exact InL.here | exact InL.next InL.here | exact InL.next (InL.next InL.here) | exact T.kx | exact T.side))) | (show LC _ _ _ _ _ _; first | refine LC.pure (hF) ?_ | refine LC.pure (za _) ?_ | refine LC.pure (jd _ _) ?_ | refine LC.pure (ke s.dy _ _) ?_ | refine goE ?_) | (show AC _ _ _; first | (refine AC.recd Hd.cs_len i Hd.z rfl rfl ?_ ?_; (focus omega))) | refine T.s ?_ | ((first | apply goB | apply AB.dec | apply AB.gen) <;> intro h <;> try (exfalso; omega)) | refine LQ.mk fun r => ?_ | (show SQ _ _ _ (.loop _) _ _ _; first | (apply goO tQ [] 11 (S := Nat × Nm × Nm × Nm) [2, 7] (fun (i, q, a, b) => ⟨[(10, .int .i64 i), (9, .vw q 0 i 1), (3, .ptr a 0), (4, .ptr b 0)], [(q, ⟨3, (((s.rf.take i).map (·.tm)).map iAV)⟩), (a, ⟨61, s.cs⟩), (b, ⟨50, hd.cs⟩)], i ≤ s.rf.length ∧ (s.rf.take i).all (xm s hd 3) = true, s.rf.length - i⟩) ((0, _, _, _)) (by rfl); (focus ((repeat' first | exact trivial | (refine And.intro ?_ ?_) | exact LB.nil | (with_reducible exact LB.refl) | (apply LB.cons; (repeat first | refine goH ?_ | apply LH.here | apply LH.next); refine And.intro ?_ ?_; (focus (try (first | (with_reducible rfl) | (refine congrArg (Pl.mk _) ?_; (first | (with_reducible rfl) | (simp only [List.map_nil, List.take_zero]; done) | (rw [q8 _ _ Hd.z (by omega), List.map_append]; rfl) | rfl)) | rfl | (with_reducible refine congrArg (Pl.mk _) ?_))))) | assumption | (rw [qA _ _ Hd.z (by omega), hok, xV (by assumption) (by decide) (by omega)]; rfl) | (first | (focus (apply Eq.trans; (conv => lhs; whnf); (conv => rhs; whnf); done)) | rfl | ((conv => lhs; whnf); first | rfl | (refine congrArg (AV.int _) ?_; (exact T.num)) | (refine congrArg AV.bool ?_; (exact T.num)) | (refine vwc ?_; first | (exact T.num) | (first | (with_reducible rfl) | (simp only [List.map_nil, List.take_zero]; done) | (rw [q8 _ _ Hd.z (by omega), List.map_append]; rfl) | rfl)) | (refine qc ?_ ?_ <;> first | (exact T.num) | (first | (with_reducible rfl) | (simp only [List.map_nil, List.take_zero]; done) | (rw [q8 _ _ Hd.z (by omega), List.map_append]; rfl) | rfl)) | (first | (with_reducible rfl) | (simp only [List.map_nil, List.take_zero]; done) | (rw [q8 _ _ Hd.z (by omega), List.map_append]; rfl) | rfl))) | (exact T.num) | (dsimp only; (exact T.num)) | (first | (with_reducible rfl) | (simp only [List.map_nil, List.take_zero]; done) | (rw [q8 _ _ Hd.z (by omega), List.map_append]; rfl) | rfl)); done)); rintro ⟨i, q, a, b⟩ ⟨hk, hok⟩)) | (show SQ _ _ _ _ _ _ _; first | refine SQ.adopt 9 1 3 (by rfl) fun q => ?_ | (apply goD tQ qd 17 [1, 2, 4] [0, 1, 2, 3, 4, 5, 6, 7] [a, b, _] (by kernel_rfl))) | (show AtL _ _ _ _ _ _ _ _ _ _; first | (apply AtL.mk' (id := 11) (S := Nat × Nm × Nm × Nm) ((i + 1, _, _, _)); (repeat' first | exact trivial | (refine And.intro ?_ ?_) | exact LB.nil | (with_reducible exact LB.refl) | (apply LB.cons; (repeat first | refine goH ?_ | apply LH.here | apply LH.next); refine And.intro ?_ ?_; (focus (try (first | (with_reducible rfl) | (refine congrArg (Pl.mk _) ?_; (first | (with_reducible rfl) | (simp only [List.map_nil, List.take_zero]; done) | (rw [q8 _ _ Hd.z (by omega), List.map_append]; rfl) | rfl)) | rfl | (with_reducible refine congrArg (Pl.mk _) ?_))))) | assumption | (rw [qA _ _ Hd.z (by omega), hok, xV (by assumption) (by decide) (by omega)]; rfl) | (first | (focus (apply Eq.trans; (conv => lhs; whnf); (conv => rhs; whnf); done)) | rfl | ((conv => lhs; whnf); first | rfl | (refine congrArg (AV.int _) ?_; (exact T.num)) | (refine congrArg AV.bool ?_; (exact T.num)) | (refine vwc ?_; first | (exact T.num) | (first | (with_reducible rfl) | (simp only [List.map_nil, List.take_zero]; done) | (rw [q8 _ _ Hd.z (by omega), List.map_append]; rfl) | rfl)) | (refine qc ?_ ?_ <;> first | (exact T.num) | (first | (with_reducible rfl) | (simp only [List.map_nil, List.take_zero]; done) | (rw [q8 _ _ Hd.z (by omega), List.map_append]; rfl) | rfl)) | (first | (with_reducible rfl) | (simp only [List.map_nil, List.take_zero]; done) | (rw [q8 _ _ Hd.z (by omega), List.map_append]; rfl) | rfl))) | (exact T.num) | (dsimp only; (exact T.num)) | (first | (with_reducible rfl) | (simp only [List.map_nil, List.take_zero]; done) | (rw [q8 _ _ Hd.z (by omega), List.map_append]; rfl) | rfl)); done) | (apply AtL.mk' (id := 11) (S := Nat × Nm × Nm × Nm) ((i + 1, _, _, _)); (repeat' first | exact trivial | (refine And.intro ?_ ?_) | exact LB.nil | (with_reducible exact LB.refl) | (apply LB.cons; (repeat first | refine goH ?_ | apply LH.here | apply LH.next); refine And.intro ?_ ?_; (focus (try (first | (with_reducible rfl) | (refine congrArg (Pl.mk _) ?_; (first | (with_reducible rfl) | (simp only [List.map_nil, List.take_zero]; done) | (rw [q8 _ _ Hd.z (by omega), List.map_append]; rfl) | rfl)) | rfl | (with_reducible refine congrArg (Pl.mk _) ?_))))) | assumption | (rw [qA _ _ Hd.z (by omega), hok, xV (by assumption) (by decide) (by omega)]; rfl) | (first | (focus (apply Eq.trans; (conv => lhs; whnf); (conv => rhs; whnf); done)) | rfl | ((conv => lhs; whnf); first | rfl | (refine congrArg (AV.int _) ?_; (exact T.num)) | (refine congrArg AV.bool ?_; (exact T.num)) | (refine vwc ?_; first | (exact T.num) | (first | (with_reducible rfl) | (simp only [List.map_nil, List.take_zero]; done) | (rw [q8 _ _ Hd.z (by omega), List.map_append]; rfl) | rfl)) | (refine qc ?_ ?_ <;> first | (exact T.num) | (first | (with_reducible rfl) | (simp only [List.map_nil, List.take_zero]; done) | (rw [q8 _ _ Hd.z (by omega), List.map_append]; rfl) | rfl)) | (first | (with_reducible rfl) | (simp only [List.map_nil, List.take_zero]; done) | (rw [q8 _ _ Hd.z (by omega), List.map_append]; rfl) | rfl))) | (exact T.num) | (dsimp only; (exact T.num)) | (first | (with_reducible rfl) | (simp only [List.map_nil, List.take_zero]; done) | (rw [q8 _ _ Hd.z (by omega), List.map_append]; rfl) | rfl)))) | exact T.z | fail) <;> try (show (_ : Prop); conv => whnf))
 all_goals (try dsimp only)
 all_goals first
   | ((show RL _ _ _; refine goR ?_); rw [zw i (by omega) (yh (by assumption))])
   | ((show RL _ _ _; refine goR ?_); rw [kk (zm (by omega) hok) (.inl ⟨rfl, k⟩) (by omega)])
   | trace_state
theorem r9poss_c (s : Sn) (hd : Hd) (f : Int) (hf : f = 1 ∨ f = 2 ∨ f = 3) (hl : s.rf.length ≤ 100000) : LP Tryz.prog G 60 [s.av, hd.av, iAV f] [] (fun _ => (.bool (qU s hd f), [])) := by
 rcases hf with rfl | rfl | rfl
 · exact r9poss_1 s hd hl
 · by_cases k : hd.k = 2
   · exact r9poss_2t s hd k hl
   · exact r9poss_2u s hd k hl
 · by_cases k : hd.k = 2
   · exact r9poss_3t s hd k hl
   · exact r9poss_3u s hd k hl
open Go.RowKit
variable {G : Nat → AV}
@[reducible] def Sn.cv (s : Sn) (R : AV) : List AV := [.bool s.act, iAV s.full, iAV s.refr, iAV s.ser, iAV s.sin, iAV s.lng, iAV s.dy.st, iAV s.dy.fo, R]
def xi (last : Hd) (had : Bool) (h : Hd) : Dy := if had = true then qN last h else Dy.z
theorem wt (s : Sn) (last hd : Hd) (had : Bool) (q : Nm) (n : Nat) (cs : List AV) (hn : n ≤ 100000) : LP Tryz.prog G 59 [.agg (s.cv (.vw q 0 n 15)), last.av, .bool had, hd.av] [(q, ⟨50, cs⟩)] (fun _ => (.agg (({ s with ser := n, dy := xi last had hd } : Sn).cv (.vw q 0 n 15)), [(q, ⟨50, cs⟩)])) := by
 cases had with
 | true =>
   refine goW [] Tryz.func59 rfl ?_
   conv => whnf
   repeat' ((first | (show LC _ _ _ _ _ _; first | refine LC.pure (ju _ _) ?_ | refine goE ?_) | refine T.s ?_ | ((first | apply goB | apply AB.dec | apply AB.gen) <;> intro h <;> try (exfalso; omega)) | refine LQ.mk fun r => ?_ | exact T.z | fail) <;> conv => whnf)
   all_goals (try dsimp only)
   all_goals
     (show RL _ _ _; refine goR ?_)
     rfl
 | false =>
   refine goW [] Tryz.func59 rfl ?_
   conv => whnf
   repeat' ((first | refine T.s ?_ | ((first | apply goB | apply AB.dec | apply AB.gen) <;> intro h <;> try (exfalso; omega)) | refine LQ.mk fun r => ?_ | exact T.z | fail) <;> conv => whnf)
   all_goals (try dsimp only)
   all_goals
     (show RL _ _ _; refine goR ?_)
     rfl
theorem r9beg_n (s : Sn) (last hd : Hd) (had : Bool) : LP Tryz.prog G 59 [.agg (s.cv .nils), last.av, .bool had, hd.av] [] (fun _ => (.agg (({ s with ser := 0, dy := xi last had hd } : Sn).cv .nils), [])) := by
 cases had with
 | true =>
   refine goW [] Tryz.func59 rfl ?_
   conv => whnf
   repeat' ((first | (show LC _ _ _ _ _ _; first | refine LC.pure (ju _ _) ?_ | refine goE ?_) | refine T.s ?_ | ((first | apply goB | apply AB.dec | apply AB.gen) <;> intro h <;> try (exfalso; omega)) | refine LQ.mk fun r => ?_ | exact T.z | fail) <;> conv => whnf)
   all_goals (try dsimp only)
   all_goals
     (show RL _ _ _; refine goR ?_)
     rfl
 | false =>
   refine goW [] Tryz.func59 rfl ?_
   conv => whnf
   repeat' ((first | refine T.s ?_ | ((first | apply goB | apply AB.dec | apply AB.gen) <;> intro h <;> try (exfalso; omega)) | refine LQ.mk fun r => ?_ | exact T.z | fail) <;> conv => whnf)
   all_goals (try dsimp only)
   all_goals
     (show RL _ _ _; refine goR ?_)
     rfl
theorem v8 (b : List UInt8) : LP Tryz.prog G 54 [bv b] [] (fun _ => (bv (zd (xy b)).1, [])) := by
 refine goW [] Tryz.func54 rfl ?_
 conv => whnf
 repeat' ((first | (show LC _ _ _ _ _ _; first | refine LC.pure (jq (xy b)) ?_ | refine goE ?_) | refine T.s ?_ | ((first | apply goB | apply AB.dec | apply AB.gen) <;> intro h <;> try (exfalso; omega)) | refine LQ.mk fun r => ?_ | exact T.z | fail) <;> conv => whnf)
 all_goals (try dsimp only)
 all_goals
   (show RL _ _ _; refine goR ?_)
   rfl
theorem and_lw (x : Int) (n : Nat) (h : n ≤ 32) : qu .and .i64 x (2 ^ n - 1) = lw n x := by
 rw [y6 x n h]
 unfold lw
 simp
theorem lowb4 (x : Int) : qu .and .i64 x 15 = lw 4 x := and_lw x 4 (by decide)
theorem lowb5 (x : Int) : qu .and .i64 x 31 = lw 5 x := and_lw x 5 (by decide)
theorem lowb8 (x : Int) : qu .and .i64 x 255 = lw 8 x := and_lw x 8 (by decide)
theorem lowb16 (x : Int) : qu .and .i64 x 65535 = lw 16 x := and_lw x 16 (by decide)
theorem js (s : Sn) (hd : Hd) (c f : Int) (pl : List UInt8) (hf : 1 ≤ f ∧ f ≤ 5) (q : Nm) (off n : Nat) (cs : List AV) : LP Tryz.prog G 62 [.agg (s.cv (.vw q off n 15)), iAV c, iAV f, hd.av, bv pl] [(q, ⟨50, cs⟩)] (fun _ => ((qz s.dy c f hd pl).av, [(q, ⟨50, cs⟩)])) := by
 have h5 : f = 1 ∨ f = 2 ∨ f = 3 ∨ f = 4 ∨ f = 5 := by omega
 rcases h5 with rfl | rfl | rfl | rfl | rfl
 · refine goW [] Tryz.func62 rfl ?_
   conv => whnf
   repeat' ((first | exact Nm.b 0 | (show LC _ _ _ _ _ _; first | refine LC.pure (jr _ _) ?_ | refine LC.pure (za _) ?_ | refine goE ?_) | refine T.s ?_ | ((first | apply goB | apply AB.dec | apply AB.gen) <;> intro h <;> try (exfalso; omega)) | refine LQ.mk fun r => ?_ | (show SQ _ _ _ _ _ _ _; first | refine gX 3 [2, 4] [0, 1, 2, 3, 4, 5, 6] [r] ?_ | refine gX 7 [3, 6] [0, 1, 2, 3, 4, 5, 6, 7, 8] [r] ?_ | refine gX 19 [3, 6] [0, 1, 2, 3, 4, 5, 6, 7, 8] [r] ?_ | refine gX 13 [3, 5, 7, 9, 11, 13] [0, 1, 2, 3, 4, 5, 6, 7, 8, 9, 10, 11, 12, 13, 14, 15] [r] ?_) | exact T.z | fail) <;> conv => whnf)
   all_goals (try dsimp only)
   all_goals
     (show RL _ _ _; refine goR ?_)
     rw [lowb4]
     rfl
 · refine goW [] Tryz.func62 rfl ?_
   conv => whnf
   repeat' ((first | exact Nm.b 0 | (show LC _ _ _ _ _ _; first | refine LC.pure (jr _ _) ?_ | refine LC.pure (za _) ?_ | refine goE ?_) | refine T.s ?_ | ((first | apply goB | apply AB.dec | apply AB.gen) <;> intro h <;> try (exfalso; omega)) | refine LQ.mk fun r => ?_ | (show SQ _ _ _ _ _ _ _; first | refine gX 3 [2, 4] [0, 1, 2, 3, 4, 5, 6] [r] ?_ | refine gX 7 [3, 6] [0, 1, 2, 3, 4, 5, 6, 7, 8] [r] ?_ | refine gX 19 [3, 6] [0, 1, 2, 3, 4, 5, 6, 7, 8] [r] ?_ | refine gX 13 [3, 5, 7, 9, 11, 13] [0, 1, 2, 3, 4, 5, 6, 7, 8, 9, 10, 11, 12, 13, 14, 15] [r] ?_) | exact T.z | fail) <;> conv => whnf)
   all_goals (try dsimp only)
   all_goals
     (show RL _ _ _; refine goR ?_)
     unfold qz
     (try rw [lowb5])
     (try rw [lowb16])
     (repeat first | rw [if_pos (by first | assumption | omega)] | rw [if_neg (by first | assumption | omega)])
     rfl
 · refine goW [] Tryz.func62 rfl ?_
   conv => whnf
   repeat' ((first | exact Nm.b 0 | (show LC _ _ _ _ _ _; first | refine LC.pure (jr _ _) ?_ | refine LC.pure (za _) ?_ | refine goE ?_) | refine T.s ?_ | ((first | apply goB | apply AB.dec | apply AB.gen) <;> intro h <;> try (exfalso; omega)) | refine LQ.mk fun r => ?_ | (show SQ _ _ _ _ _ _ _; first | refine gX 3 [2, 4] [0, 1, 2, 3, 4, 5, 6] [r] ?_ | refine gX 7 [3, 6] [0, 1, 2, 3, 4, 5, 6, 7, 8] [r] ?_ | refine gX 19 [3, 6] [0, 1, 2, 3, 4, 5, 6, 7, 8] [r] ?_ | refine gX 13 [3, 5, 7, 9, 11, 13] [0, 1, 2, 3, 4, 5, 6, 7, 8, 9, 10, 11, 12, 13, 14, 15] [r] ?_) | exact T.z | fail) <;> conv => whnf)
   all_goals (try dsimp only)
   all_goals
     (show RL _ _ _; refine goR ?_)
     unfold qz
     (try rw [lowb8])
     (repeat first | rw [if_pos (by first | assumption | omega)] | rw [if_neg (by first | assumption | omega)])
     rfl
 · refine goW [] Tryz.func62 rfl ?_
   conv => whnf
   repeat' ((first | exact Nm.b 0 | (show LC _ _ _ _ _ _; first | refine LC.pure (jr _ _) ?_ | refine goE ?_) | refine T.s ?_ | ((first | apply goB | apply AB.dec | apply AB.gen) <;> intro h <;> try (exfalso; omega)) | refine LQ.mk fun r => ?_ | (show SQ _ _ _ _ _ _ _; first | refine gX 3 [2, 4] [0, 1, 2, 3, 4, 5, 6] [r] ?_ | refine gX 7 [3, 6] [0, 1, 2, 3, 4, 5, 6, 7, 8] [r] ?_ | refine gX 19 [3, 6] [0, 1, 2, 3, 4, 5, 6, 7, 8] [r] ?_ | refine gX 13 [3, 5, 7, 9, 11, 13] [0, 1, 2, 3, 4, 5, 6, 7, 8, 9, 10, 11, 12, 13, 14, 15] [r] ?_) | exact T.z | fail) <;> conv => whnf)
   all_goals (try dsimp only)
   all_goals
     (show RL _ _ _; refine goR ?_)
     rfl
 · refine goW [] Tryz.func62 rfl ?_
   conv => whnf
   repeat' ((first | exact Nm.b 0 | (show LC _ _ _ _ _ _; first | refine LC.pure (jr _ _) ?_ | refine goE ?_) | refine T.s ?_ | ((first | apply goB | apply AB.dec | apply AB.gen) <;> intro h <;> try (exfalso; omega)) | refine LQ.mk fun r => ?_ | (show SQ _ _ _ _ _ _ _; first | refine gX 3 [2, 4] [0, 1, 2, 3, 4, 5, 6] [r] ?_ | refine gX 7 [3, 6] [0, 1, 2, 3, 4, 5, 6, 7, 8] [r] ?_ | refine gX 19 [3, 6] [0, 1, 2, 3, 4, 5, 6, 7, 8] [r] ?_ | refine gX 13 [3, 5, 7, 9, 11, 13] [0, 1, 2, 3, 4, 5, 6, 7, 8, 9, 10, 11, 12, 13, 14, 15] [r] ?_) | exact T.z | fail) <;> conv => whnf)
   all_goals (try dsimp only)
   all_goals
     (show RL _ _ _; refine goR ?_)
     rfl
open Go.RowKit
variable {G : Nat → AV}
def jl (h : Hd) (s : Sn) : Bool := s.act && qt s.fst h
theorem jD {p : Sn → Bool} (l : List Sn) (i : Nat) (h : i < l.length) : (l.take (i + 1)).findIdx? p = ((l.take i).findIdx? p).or (if p (l.getD i Sn.z) = true then some i else none) := by
 rw [List.take_succ_eq_append_getElem h, List.findIdx?_append]
 have e : l[i] = l.getD i Sn.z := by simp [List.getD_eq_getElem?_getD, h]
 rw [e, List.findIdx?_singleton]
 congr 1
 split
 · simp; omega
 · rfl
theorem fidx_hit {p : Sn → Bool} (l : List Sn) (i : Nat) (h : i < l.length) (h0 : (l.take i).findIdx? p = none) (hp : p (l.getD i Sn.z) = true) : l.findIdx? p = some i := by
 have e : l = l.take (i + 1) ++ l.drop (i + 1) := (List.take_append_drop _ _).symm
 rw [e, List.findIdx?_append, jD l i h, h0, if_pos hp]
 rfl
theorem fidx_end {p : Sn → Bool} {l : List Sn} {i : Nat} (h : l.length ≤ i) : (l.take i).findIdx? p = l.findIdx? p := by rw [List.take_of_length_le h]
def wF : Option Nat → Int
 | some i => i
 | none => -1
def jj (l : List Sn) : Int := wF (wO l)
theorem freeV_t {l : List Sn} {i : Nat} (h : i < l.length) (hf : jj (l.take i) < 0) (ha : (l.getD i Sn.z).act = false) : jj (l.take (i + 1)) = i := by
 unfold jj wO at *
 rw [jD l i h, if_pos (by rw [ha]; rfl)]
 cases hc : (l.take i).findIdx? fun s => !s.act with
 | none => rfl
 | some j => rw [hc] at hf; simp [wF] at hf; omega
theorem freeV_k {l : List Sn} {i : Nat} (h : i < l.length) (hf : ¬ jj (l.take i) < 0) : jj (l.take (i + 1)) = jj (l.take i) := by
 unfold jj wO at *
 rw [jD l i h]
 cases hc : (l.take i).findIdx? fun s => !s.act with
 | none => rw [hc] at hf; exact absurd (by decide) hf
 | some j => rfl
theorem freeV_a {l : List Sn} {i : Nat} (h : i < l.length) (ha : (l.getD i Sn.z).act = true) : jj (l.take (i + 1)) = jj (l.take i) := by
 unfold jj wO at *
 rw [jD l i h, if_neg (by rw [ha]; decide)]
 cases (l.take i).findIdx? fun s => !s.act <;> rfl
theorem freeV_0 (l : List Sn) : jj (l.take 0) = -1 := rfl
theorem freeV_e {l : List Sn} {i : Nat} (h : l.length ≤ i) : jj (l.take i) = jj l := by rw [List.take_of_length_le h]
def j3 (o : Option Nat) : AV := .tup [iAV (wF o), .bool o.isSome]
theorem own_n {l : List Sn} {i : Nat} {hd : Hd} (h : i < l.length) (h0 : (l.take i).findIdx? (jl hd) = none) (hp : jl hd (l.getD i Sn.z) = false) : (l.take (i + 1)).findIdx? (jl hd) = none := by
 rw [jD l i h, h0, if_neg (by rw [hp]; decide)]; rfl
theorem findR_hit {l : List Sn} {i : Nat} {hd : Hd} (h : i < l.length) (h0 : (l.take i).findIdx? (jl hd) = none) (hp : jl hd (l.getD i Sn.z) = true) : qP l hd = some i := by
 have := fidx_hit l i h h0 hp
 unfold qP ownI
 unfold jl at this
 rw [this]
theorem findR_end {l : List Sn} {i : Nat} {hd : Hd} (h : l.length ≤ i) (h0 : (l.take i).findIdx? (jl hd) = none) : qP l hd = wO l := by
 rw [fidx_end h] at h0
 unfold qP ownI
 unfold jl at h0
 rw [h0]
theorem fld_le {α : Type} {f : α → List AV} {n i j : Nat} {l : List α} (hf : ∀ x, (f x).length = n) (h : (i : Int) < (l.length : Int)) (hj : j < n) : 1 ≤ (List.drop j (List.drop ((i : Int).toNat * n) (l.flatMap f))).length := by
 rw [List.length_drop, List.length_drop, qr hf, ← Nat.sub_mul]
 have := Nat.le_mul_of_pos_left n (show 0 < l.length - (i : Int).toNat by omega)
 omega
theorem AC.fld2 {α : Type} {f : α → List AV} {n : Nat} {l : List α} {o m : Nat} {K : AV → Prop} (hf : ∀ x, (f x).length = n) (i j : Nat) (d : α) (v : AV) (ho : o = i * n) (hj : j + m ≤ n) (h : i < l.length) (hv : mkv false (((f (l.getD i d)).drop j).take m) = v) (k : K v) : AC false ((List.drop j (List.drop o (l.flatMap f))).take m) K := by
 rw [List.drop_drop, ho]
 exact AC.fld hf i j d v rfl hj h hv k
theorem ownP_n {hd : Hd} {s : Sn} (h : s.act = false) : jl hd s = false := by unfold jl; rw [h]; rfl
theorem ownP_s {hd : Hd} {s : Sn} (h : qt s.fst hd = false) : jl hd s = false := by unfold jl; rw [h]; simp
theorem ownP_y {hd : Hd} {s : Sn} (h : s.act = true) (h2 : qt s.fst hd = true) : jl hd s = true := by unfold jl; rw [h, h2]; rfl
theorem jc {l : List Hd} (h : 0 < l.length) : 15 ≤ (List.drop (Int.toNat 0 * 15) (l.flatMap Hd.cs)).length := zx (i := 0) Hd.cs_len (by omega)
attribute [local irreducible] qt
theorem fndV_e (o : Option Nat) : AV.tup [.int .i64 (wF o), .bool (qo .geq (wF o) 0)] = j3 o := by
 cases o with
 | none => rfl
 | some j => simp [j3, wF, qo, iAV]
theorem r9find_c (c : Co) (hd : Hd) (hn : c.cx.length ≤ 1000) (ha : ∀ i, i < c.cx.length → (c.at i).act = true → 0 < (c.at i).rf.length) : LP Tryz.prog G 55 [c.av, hd.av] [] (fun _ => (j3 (qP c.cx hd), [])) := by
 have hb : ∀ i : Nat, (i : Int) < (c.cx.length : Int) → (c.cx.getD i Sn.z).act = true → 0 < (c.cx.getD i Sn.z).rf.length := fun i h1 h2 => ha i (by omega) h2
 have hs : ∀ i : Nat, LP Tryz.prog G 43 [((c.cx.getD i Sn.z).rf.getD 0 Hd.z).av, hd.av] [] (fun _ => (.bool (qt (c.cx.getD i Sn.z).fst hd), [])) := fun i => wv _ _
 refine goW [] Tryz.func55 rfl ?_
 conv => whnf
 repeat' ((first | exact Nm.b 0 | (refine And.intro ?_ ?_; (focus (first | exact zx Sn.cs_len (by assumption) | exact fld_le Sn.cs_len (by assumption) (by decide) | exact jc (hb i (by assumption) (by assumption)) | (have := hb i (by assumption) (by assumption); omega) | exact T.kx | exact T.side))) | (show LC _ _ _ _ _ _; first | refine LC.pure (hs i) ?_ | refine goE ?_) | (show AC _ _ _; first | (refine AC.fld Sn.cs_len i 0 Sn.z _ (by first | rfl | (simp; done)) (by decide) (by omega) rfl ?_) | (refine AC.fld2 Sn.cs_len i 8 Sn.z _ rfl (by decide) (by omega) rfl ?_) | (refine AC.recd Hd.cs_len 0 Hd.z rfl rfl (hb i (by assumption) (by assumption)) ?_)) | refine T.s ?_ | ((first | apply goB | apply AB.dec | apply AB.gen) <;> intro h <;> try (exfalso; omega)) | refine LQ.mk fun r => ?_ | (show SQ _ _ _ (.loop _) _ _ _; first | (apply goO tQ [] 3 (S := Nat × Nm × Nm) [] (fun (i, a, b) => ⟨[(7, .int .i64 i), (6, .int .i64 (jj (c.cx.take i))), (2, .ptr a 0), (3, .ptr b 0)], [(a, ⟨34, [iAV c.m, iAV c.w, snv c.cx]⟩), (b, ⟨50, hd.cs⟩)], i ≤ c.cx.length ∧ (c.cx.take i).findIdx? (jl hd) = none, c.cx.length - i⟩) ((0, _, _)) (by rfl); (focus (all_goals (try exact KB11); done)); rintro ⟨i, a, b⟩ ⟨hk, hok⟩)) | (show SQ _ _ _ _ _ _ _; first | refine gX 6 [] [0, 1, 2, 3, 4, 5, 6, 7, 8, 9] [] ?_) | (show AtL _ _ _ _ _ _ _ _ _ _; first | (apply AtL.mk' (id := 3) (S := Nat × Nm × Nm) ((i + 1, _, _)); all_goals (try exact KB11); done) | (apply AtL.mk' (id := 3) (S := Nat × Nm × Nm) ((i + 1, _, _)); all_goals (try exact KB11))) | exact T.z | fail) <;> conv => whnf)
 all_goals (try dsimp only)
 all_goals first
   | ((show RL _ _ _; refine goR ?_); rw [findR_hit (by omega) hok (ownP_y (by assumption) (by assumption))]; rfl)
   | ((show RL _ _ _; refine goR ?_); rw [findR_end (by omega) hok, freeV_e (by omega)]; exact fndV_e _)
   | trace_state
end Go.Proofs.YtbagbjacmakfhaaGreatDoor
