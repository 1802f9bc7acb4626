/-
  Contracts of the functions that the laws reach.
-/
import Derived.Test.YtbagbjacmakfhaaGreatDoorCq01
import Derived.Test.YtbagbjacmakfhaaGreatDoorCq02
import Derived.Test.YtbagbjacmakfhaaGreatDoorCq03
import Derived.Test.YtbagbjacmakfhaaGreatDoorCq04
import Derived.Test.YtbagbjacmakfhaaGreatDoorCq05
import Derived.Test.YtbagbjacmakfhaaGreatDoorCq06
import Derived.Test.YtbagbjacmakfhaaGreatDoorCq09
import Derived.Test.YtbagbjacmakfhaaGreatDoorCq10
import Derived.Test.YtbagbjacmakfhaaGreatDoorCq12
import Derived.Test.YtbagbjacmakfhaaGreatDoorCq13
import Derived.Test.YtbagbjacmakfhaaGreatDoorCq14
import Derived.Test.YtbagbjacmakfhaaGreatDoorCq15
import Derived.Test.YtbagbjacmakfhaaGreatDoorCq18
import Derived.Test.YtbagbjacmakfhaaGreatDoorCq22
import Derived.Test.YtbagbjacmakfhaaGreatDoorCq23
import Derived.Test.YtbagbjacmakfhaaGreatDoorCq29
import Derived.Test.YtbagbjacmakfhaaGreatDoorCq34
set_option maxHeartbeats 4000000
set_option linter.all false
namespace Go.Proofs.YtbagbjacmakfhaaGreatDoor
open Go.RowKit
theorem sz_ne {b : List UInt8} (hb : zt b) : ¬ (b = [] ∨ 1500 < b.length) := by
 rintro (k | k)
 · exact hb.1 k
 · have := hb.2; omega
theorem yz {c : Co} {b : List UInt8} (hc : c.ok = true) (hb : zt b) : (qf c b).1.1.ok = true := (kz hc (sz_ne hb)).1
theorem cst_c (c : Co) (b : List UInt8) (hc : c.ok = true) (hb : zt b) : LP Tryz.prog gm 18 [c.av, bv b] [] (fun _ => (.tup [(qf c b).1.1.av, bv (qf c b).1.2, iAV 0], [])) := by
 have h := jS c b
 have h1 := (kz hc (sz_ne hb)).2.1
 unfold cpr at h
 rwa [h1] at h
theorem rst_c (c : Co) (b : List UInt8) (hc : c.ok = true) (hb : zt b) : LP Tryz.prog gm 19 [c.av, bv b] [] (fun _ => (.tup [(qf c b).1.1.av, bv (qf c b).1.2, iAV 0], [])) := by
 have h := comp_dat (G := gm) c b
 have h1 := (kz hc (sz_ne hb)).2.1
 unfold cpr at h
 rwa [h1] at h
theorem same9_c (c : Co) (hc : c.ok = true) : LP Tryz.prog gm 21 [c.av, c.av] [] (fun _ => (.bool true, [])) :=
 r9same_c c (by rw [qY hc]; decide) (fun i hi => Nat.le_trans (co_rf hc i hi) (by decide))
attribute [local irreducible] qf Co.ok
theorem EClw2_1 {p : Prop} (h : p := by (repeat' first | exact trivial | (refine And.intro ?_ ?_) | exact LB.nil | (with_reducible exact LB.refl) | (apply LB.cons; (repeat first | refine goH ?_ | apply LH.here | apply LH.next); refine And.intro ?_ ?_; (focus (try (first | (with_reducible rfl) | (refine congrArg (Pl.mk _) ?_; (first | rfl | (simp; done))) | rfl | (with_reducible refine congrArg (Pl.mk _) ?_))))) | (with_reducible assumption) | (exact yz (by assumption) (xw hZ (by assumption))) | (show (_ : AV) = _; (first | (focus (apply Eq.trans; (conv => lhs; whnf); (conv => rhs; whnf); done)) | rfl | ((conv => lhs; whnf); first | rfl | (refine congrArg (AV.int _) ?_; (exact T.num)) | (refine congrArg AV.bool ?_; (exact T.num)) | (refine vwc ?_; first | (exact T.num) | (first | rfl | (simp; done))) | (refine qc ?_ ?_ <;> first | (exact T.num) | (first | rfl | (simp; done))) | (first | rfl | (simp; done))))) | ((with_reducible first | (show (_ : Int) ≤ _) | (show (_ : Int) < _) | (show (_ : Nat) ≤ _) | (show (_ : Nat) < _) | (show (_ : Int) = _) | (show (_ : Nat) = _)); (exact T.num)) | (first | rfl | (simp; done))); first | done | fail) : p := h
theorem runs9_t (t : List Int) (mode width : Int) (ht : t.length ≤ 400) : LP Tryz.prog gm 4 [iv t, iAV mode, iAV width] [] (fun _ => (.bool true, [])) := by
 have hl := kN (G := gm) t
 rw [decide_eq_true ht] at hl
 have m1 := wJ mode 3 (by decide) (by decide)
 have m2 := wJ width 8 (by decide) (by decide)
 obtain ⟨m, hm⟩ : ∃ m, q7 .add .i64 1 (xC mode 3) = m := ⟨_, rfl⟩
 obtain ⟨w, hw⟩ : ∃ w, q7 .add .i64 1 (xC width 8) = w := ⟨_, rfl⟩
 have hm2 : 1 ≤ m ∧ m ≤ 3 := by rw [← hm]; (exact T.num)
 have hw2 : 1 ≤ w ∧ w ≤ 8 := by rw [← hw]; (exact T.num)
 have n1 := qQ t 0 3 (by decide) (by decide)
 have hf : 1 ≤ q7 .add .i64 1 (qi t 0 3) ∧ q7 .add .i64 1 (qi t 0 3) ≤ 10 := by (exact T.num)
 have hN := cnewc_c (G := gm) m w
 have hM := r9new_c (G := gm) m w
 rw [wi ⟨hm2.1, hm2.2, hw2.1, hw2.2⟩] at hM hN
 have hP := fun p => kK (G := gm) t (qe t (qe t 0)) _ 60 (zG t (qe t 0) 2) hf.1 hf.2 (by decide) (by decide) ht p
 have hZ := ym t (qe t (qe t 0)) (q7 .add .i64 1 (qi t 0 3)).toNat 60 (zG t (qe t 0) 2)
 have hY := v9 t (qe t (qe t 0)) (q7 .add .i64 1 (qi t 0 3)).toNat 60 (zG t (qe t 0) 2) (by decide) (by decide)
 generalize (jw t (qe t (qe t 0)) (q7 .add .i64 1 (qi t 0 3)).toNat 60 (zG t (qe t 0) 2)) = K at hP hZ hY
 obtain ⟨Kh, L, Ka⟩ := K
 dsimp only at hP hZ hY
 have hI := vn hm2 hw2
 refine goW [] Tryz.func4 rfl ?_
 conv => whnf
 repeat' ((first | (show LC _ _ 24 _ _ _; (try rw [hm, hw]); refine LC.pure hM ?_) | (show LC _ _ 23 _ _ _; (try rw [hm, hw]); refine LC.pure hN ?_) | (show LC _ _ 16 _ _ _; have hv := zl (G := gm) (qf c (L.getD i [])).1.1; rw [yz (by assumption) (xw hZ (by assumption))] at hv; refine LC.pure hv ?_) | exact Nm.b 0 | (show LC _ _ _ _ _ _; first | refine LC.pure (hl) ?_ | refine LC.own (roll_c t) ?_ | refine LC.pure (mod_c _ _) ?_ | (apply LC.upd (zZ t _ _ ht _); (repeat first | refine goH ?_ | apply LH.here | apply LH.next); refine ⟨rfl, ?_⟩) | (apply LC.upd (vH t _ _ ht _); (repeat first | refine goH ?_ | apply LH.here | apply LH.next); refine ⟨rfl, ?_⟩) | (apply LC.upd (hP _); (repeat first | refine goH ?_ | apply LH.here | apply LH.next); refine ⟨rfl, ?_⟩) | refine LC.pure (jI) ?_ | refine LC.pure (cst_c c (L.getD i []) (by assumption) (xw hZ (by assumption))) ?_ | refine LC.pure (rst_c c (L.getD i []) (by assumption) (xw hZ (by assumption))) ?_ | refine LC.pure (sameT_c (qf c (L.getD i [])).1.2) ?_ | refine LC.pure (same9_c c (by assumption)) ?_ | refine goE ?_) | (show AC _ _ _; first | (refine AC.idx (f := bv) (l := L) i [] (by (try dsimp only); omega) ?_ ?_; (focus (have : (i : Int) < (L.length : Int) := (by assumption); omega)))) | refine T.s ?_ | ((first | apply goB | apply AB.dec | apply AB.gen) <;> intro h) | refine LQ.mk fun r => ?_ | (show SQ _ _ _ (.loop _) _ _ _; first | (apply goO tQ [] 11 (S := Nat × Co × Nm × Nm) [10] (fun (i, c, a, b) => ⟨[(15, .int .i64 i), (11, .ptr a 0), (13, .ptr b 0)], [(a, ⟨34, [iAV c.m, iAV c.w, snv c.cx]⟩), (b, ⟨34, [iAV c.m, iAV c.w, snv c.cx]⟩)], i ≤ L.length ∧ L.length ≤ 202 ∧ c.ok = true, L.length - i⟩) ((0, ⟨m, w, List.replicate 16 Sn.z⟩, _, _)) (by rfl); (focus (all_goals (try exact KD66); done)); rintro ⟨i, c, a, b⟩ ⟨hk, hk, hok⟩)) | (show SQ _ _ _ _ _ _ _; first | refine gX 14 [] [0, 1, 2, 3, 4, 5, 6, 7, 8, 9, 10, 11, 12] [a] ?_ | (skip; refine gX 15 [] [0, 1, 2, 3, 4, 5, 6, 7, 8, 9, 10, 11] [b] ?_)) | (show AtL 11 _ _ _ _ _ _ _ _ _; first | (apply AtL.mk' (id := 11) (S := Nat × Co × Nm × Nm) ((i + 1, (qf c (L.getD i [])).1.1, _, _)); focus (refine T.a5 ?_ ?_ ?_ ?_ <;> exact EClw2_1))) | exact T.z | fail) <;> conv => whnf)
 all_goals (try dsimp only)
 all_goals first
   | ((show RL _ _ _; refine goR ?_); rfl)
   | trace_state
theorem runs9_c (t : List Int) (mode width : Int) : LP Tryz.prog gm 4 [iv t, iAV mode, iAV width] [] (fun _ => (.bool true, [])) := by
 by_cases ht : t.length ≤ 400
 · exact runs9_t t mode width ht
 · have hl := kN (G := gm) t
   rw [decide_eq_false ht] at hl
   refine goW [] Tryz.func4 rfl ?_
   conv => whnf
   repeat' ((first | exact Nm.b 0 | (show LC _ _ _ _ _ _; first | refine LC.pure (hl) ?_ | refine LC.pure (jI) ?_ | refine goE ?_) | refine T.s ?_ | ((first | apply goB | apply AB.dec | apply AB.gen) <;> intro h <;> try (exfalso; omega)) | refine LQ.mk fun r => ?_ | (show SQ _ _ _ _ _ _ _; first | (refine goD tQ qd 14 [] [0, 1, 2, 3, 4, 5, 6, 7, 8, 9, 10, 11, 12] [] (by kernel_rfl) ?_) | (refine goD tQ qd 15 [] [0, 1, 2, 3, 4, 5, 6, 7, 8, 9, 10, 11] [] (by kernel_rfl) ?_)) | exact T.z | fail) <;> conv => whnf)
   all_goals (try dsimp only)
   all_goals first | ((show RL _ _ _; refine goR ?_); rfl) | ((show RL _ _ _; refine goR ?_); simp; done) | (exfalso; simp_all; done) | trace_state
end Go.Proofs.YtbagbjacmakfhaaGreatDoor
namespace Go.Proofs.YtbagbjacmakfhaaGreatDoor
open Go.RowKit
theorem AQ.fset {α : Type} {f : α → List AV} {n : Nat} (hf : ∀ x, (f x).length = n) {l : List α} {o : Nat} {xs : List AV} {K : List AV → Prop} (i j : Nat) (d y : α) (h : i < l.length) (ho : o = i * n + j) (hj : j + xs.length ≤ n) (hy : f y = ql (f (l.getD i d)) j xs) (k : K ((l.set i y).flatMap f)) : AQ (ql (l.flatMap f) o xs) K := ⟨by
 subst ho
 rw [yd hf l i j d y xs h hj hy]
 exact k⟩
def Co.rest (c : Co) : Co := c.set 0 { c.at 0 with full := 0, refr := 0 }
end Go.Proofs.YtbagbjacmakfhaaGreatDoor
