/-
  Contracts of the functions that the laws reach.
-/
import Derived.Test.YtkfpgdckdmlhkaaGreatDoorDq01
import Derived.Test.YtkfpgdckdmlhkaaGreatDoorDq02
import Derived.Test.YtkfpgdckdmlhkaaGreatDoorDq03
import Derived.Test.YtkfpgdckdmlhkaaGreatDoorDq04
import Derived.Test.YtkfpgdckdmlhkaaGreatDoorDq05
import Derived.Test.YtkfpgdckdmlhkaaGreatDoorDq06
import Derived.Test.YtkfpgdckdmlhkaaGreatDoorDq07
import Derived.Test.YtkfpgdckdmlhkaaGreatDoorDq08
set_option maxHeartbeats 4000000
set_option linter.all false
namespace Go.Proofs.YtkfpgdckdmlhkaaGreatDoor
open Go.RowKit
variable {G : Nat → AV}
theorem fdec4T_c (b : List UInt8) (hb : b.length ≤ 140737488355328) (ck : Bool) (c : Int) (X : Rdr) (hp : ql b = (c, 4, 0)) (hc : (0 < c ∧ X = rtk 1 (rdr b hb)) ∨ (¬ 0 < c ∧ X = rdr b hb)) : LP Tryz.prog G 62 [bv b, iAV 2, .bool ck] [] (fun _ => (de (ka (qq (rtk 1 X)) (jg (rtk 1 X) (hdk (s0 c 4) 2)) (jl (rtk 1 X)) b), [])):= by
 rcases hc with ⟨hc, rfl⟩ | ⟨hc, rfl⟩
 all_goals
   refine goW [] Tryz.func62 rfl ?_
   conv => whnf
   repeat' ((first | (rw [qi (X := rtk 2 (rtk 1 (qq (rtk 1 (rtk 1 (rdr b hb)))))) (by assumption)]; conv => whnf) | (rw [qi (X := rtk 1 (qq (rtk 1 (rtk 1 (rdr b hb))))) (by assumption)]; conv => whnf) | (rw [qi (X := rtk 2 (rtk 1 (qq (rtk 1 (rdr b hb))))) (by assumption)]; conv => whnf) | (rw [qi (X := rtk 1 (qq (rtk 1 (rdr b hb)))) (by assumption)]; conv => whnf) | (show LC _ _ _ _ _ _; first | refine LC.pure (fpk hp) ?_ | (apply LC.upd (jU _ b hb); (repeat first | refine goH ?_ | apply LH.here | apply LH.next); refine ⟨rfl, ?_⟩) | (apply LC.upd (zZ _ _); (repeat first | refine goH ?_ | apply LH.here | apply LH.next); refine ⟨rfl, ?_⟩) | (apply LC.upd (xi _ _); (repeat first | refine goH ?_ | apply LH.here | apply LH.next); refine ⟨rfl, ?_⟩) | (apply LC.upd (xh _ _); (repeat first | refine goH ?_ | apply LH.here | apply LH.next); refine ⟨rfl, ?_⟩) | (refine LC.two (fun hne => fdynT_c _ _ (rtk 1 (rtk 1 (rdr b hb))) (hdk (s0 c 4) 2) hne rfl) ?_; (repeat first | refine goH ?_ | apply LH.here | apply LH.next); refine ⟨rfl, ?_⟩; (repeat first | refine goH ?_ | apply LH.here | apply LH.next); refine ⟨rfl, ?_⟩) | (refine LC.two (fun hne => fdynT_c _ _ (rtk 1 (rdr b hb)) (hdk (s0 c 4) 2) hne rfl) ?_; (repeat first | refine goH ?_ | apply LH.here | apply LH.next); refine ⟨rfl, ?_⟩; (repeat first | refine goH ?_ | apply LH.here | apply LH.next); refine ⟨rfl, ?_⟩) | refine LC.pure (qr (rL (rtk 2 (rtk 1 (qq (rtk 1 (rtk 1 (rdr b hb))))))) (qC _)) ?_ | refine LC.pure (qm (wpl (whc (wck (jg (rtk 1 (rtk 1 (rdr b hb))) (hdk (s0 c 4) 2)) (rv 1 (qq (rtk 1 (rtk 1 (rdr b hb)))))) (rv 2 (rtk 1 (qq (rtk 1 (rtk 1 (rdr b hb))))))) (rtk 2 (rtk 1 (qq (rtk 1 (rtk 1 (rdr b hb)))))))) ?_ | refine LC.pure (qr (rL (rtk 1 (qq (rtk 1 (rtk 1 (rdr b hb)))))) (qC _)) ?_ | refine LC.pure (qm (wpl (wck (jg (rtk 1 (rtk 1 (rdr b hb))) (hdk (s0 c 4) 2)) (rv 1 (qq (rtk 1 (rtk 1 (rdr b hb)))))) (rtk 1 (qq (rtk 1 (rtk 1 (rdr b hb))))))) ?_ | refine LC.pure (qr (rL (rtk 2 (rtk 1 (qq (rtk 1 (rdr b hb)))))) (qC _)) ?_ | refine LC.pure (qm (wpl (whc (wck (jg (rtk 1 (rdr b hb)) (hdk (s0 c 4) 2)) (rv 1 (qq (rtk 1 (rdr b hb))))) (rv 2 (rtk 1 (qq (rtk 1 (rdr b hb)))))) (rtk 2 (rtk 1 (qq (rtk 1 (rdr b hb))))))) ?_ | refine LC.pure (qr (rL (rtk 1 (qq (rtk 1 (rdr b hb))))) (qC _)) ?_ | refine LC.pure (qm (wpl (wck (jg (rtk 1 (rdr b hb)) (hdk (s0 c 4) 2)) (rv 1 (qq (rtk 1 (rdr b hb))))) (rtk 1 (qq (rtk 1 (rdr b hb)))))) ?_ | refine LC.pure (zN _ _) ?_ | refine goE ?_) | refine T.s ?_ | ((first | apply goB | apply AB.dec | apply AB.gen) <;> intro h <;> try (exfalso; omega)) | refine LQ.mk fun r => ?_ | exact T.z | fail) <;> conv => whnf)
   all_goals (try dsimp only)
   all_goals (show RL _ _ _; refine goR ?_)
   all_goals (first | rewrite [ks (by assumption)] | rewrite [kt (by assumption)] | skip)
   all_goals first
     | (exact congrArg de (zM (by assumption)).symm)
     | (exact congrArg de (z5 (by assumption) (by assumption)).symm)
     | (exact congrArg de (zb (by assumption) (by assumption)).symm)
     | (exact congrArg de (zV (by assumption) (by assumption) (by assumption)).symm)
     | (exfalso; simp_all; done)
     | trace_state
theorem fdec4U_c (b : List UInt8) (hb : b.length ≤ 140737488355328) (ck : Bool) (c : Int) (X : Rdr) (hp : ql b = (c, 4, 0)) (hc : (0 < c ∧ X = rtk 1 (rdr b hb)) ∨ (¬ 0 < c ∧ X = rdr b hb)) : LP Tryz.prog G 62 [bv b, iAV 1, .bool ck] [] (fun _ => (de (ka (qp (rtk 1 X)) (jf (rtk 1 X) (hdk (s0 c 4) 1)) (jl (rtk 1 X)) b), [])):= by
 rcases hc with ⟨hc, rfl⟩ | ⟨hc, rfl⟩
 all_goals
   refine goW [] Tryz.func62 rfl ?_
   conv => whnf
   repeat' ((first | (rw [qi (X := rtk 2 (rtk 1 (qp (rtk 1 (rtk 1 (rdr b hb)))))) (by assumption)]; conv => whnf) | (rw [qi (X := rtk 1 (qp (rtk 1 (rtk 1 (rdr b hb))))) (by assumption)]; conv => whnf) | (rw [qi (X := rtk 2 (rtk 1 (qp (rtk 1 (rdr b hb))))) (by assumption)]; conv => whnf) | (rw [qi (X := rtk 1 (qp (rtk 1 (rdr b hb)))) (by assumption)]; conv => whnf) | (show LC _ _ _ _ _ _; first | refine LC.pure (fpk hp) ?_ | (apply LC.upd (jU _ b hb); (repeat first | refine goH ?_ | apply LH.here | apply LH.next); refine ⟨rfl, ?_⟩) | (apply LC.upd (zZ _ _); (repeat first | refine goH ?_ | apply LH.here | apply LH.next); refine ⟨rfl, ?_⟩) | (apply LC.upd (xi _ _); (repeat first | refine goH ?_ | apply LH.here | apply LH.next); refine ⟨rfl, ?_⟩) | (apply LC.upd (xh _ _); (repeat first | refine goH ?_ | apply LH.here | apply LH.next); refine ⟨rfl, ?_⟩) | (refine LC.two (fun hne => wo _ _ (rtk 1 (rtk 1 (rdr b hb))) (hdk (s0 c 4) 1) hne (show (1 : Int) ≠ 2 by decide)) ?_; (repeat first | refine goH ?_ | apply LH.here | apply LH.next); refine ⟨rfl, ?_⟩; (repeat first | refine goH ?_ | apply LH.here | apply LH.next); refine ⟨rfl, ?_⟩) | (refine LC.two (fun hne => wo _ _ (rtk 1 (rdr b hb)) (hdk (s0 c 4) 1) hne (show (1 : Int) ≠ 2 by decide)) ?_; (repeat first | refine goH ?_ | apply LH.here | apply LH.next); refine ⟨rfl, ?_⟩; (repeat first | refine goH ?_ | apply LH.here | apply LH.next); refine ⟨rfl, ?_⟩) | refine LC.pure (qr (rL (rtk 2 (rtk 1 (qp (rtk 1 (rtk 1 (rdr b hb))))))) (qC _)) ?_ | refine LC.pure (qm (wpl (whc (wck (jf (rtk 1 (rtk 1 (rdr b hb))) (hdk (s0 c 4) 1)) (rv 1 (qp (rtk 1 (rtk 1 (rdr b hb)))))) (rv 2 (rtk 1 (qp (rtk 1 (rtk 1 (rdr b hb))))))) (rtk 2 (rtk 1 (qp (rtk 1 (rtk 1 (rdr b hb)))))))) ?_ | refine LC.pure (qr (rL (rtk 1 (qp (rtk 1 (rtk 1 (rdr b hb)))))) (qC _)) ?_ | refine LC.pure (qm (wpl (wck (jf (rtk 1 (rtk 1 (rdr b hb))) (hdk (s0 c 4) 1)) (rv 1 (qp (rtk 1 (rtk 1 (rdr b hb)))))) (rtk 1 (qp (rtk 1 (rtk 1 (rdr b hb))))))) ?_ | refine LC.pure (qr (rL (rtk 2 (rtk 1 (qp (rtk 1 (rdr b hb)))))) (qC _)) ?_ | refine LC.pure (qm (wpl (whc (wck (jf (rtk 1 (rdr b hb)) (hdk (s0 c 4) 1)) (rv 1 (qp (rtk 1 (rdr b hb))))) (rv 2 (rtk 1 (qp (rtk 1 (rdr b hb)))))) (rtk 2 (rtk 1 (qp (rtk 1 (rdr b hb))))))) ?_ | refine LC.pure (qr (rL (rtk 1 (qp (rtk 1 (rdr b hb))))) (qC _)) ?_ | refine LC.pure (qm (wpl (wck (jf (rtk 1 (rdr b hb)) (hdk (s0 c 4) 1)) (rv 1 (qp (rtk 1 (rdr b hb))))) (rtk 1 (qp (rtk 1 (rdr b hb)))))) ?_ | refine LC.pure (zN _ _) ?_ | refine goE ?_) | refine T.s ?_ | ((first | apply goB | apply AB.dec | apply AB.gen) <;> intro h <;> try (exfalso; omega)) | refine LQ.mk fun r => ?_ | exact T.z | fail) <;> conv => whnf)
   all_goals (try dsimp only)
   all_goals (show RL _ _ _; refine goR ?_)
   all_goals (first | rewrite [ks (by assumption)] | rewrite [kt (by assumption)] | skip)
   all_goals first
     | (exact congrArg de (zM (by assumption)).symm)
     | (exact congrArg de (z5 (by assumption) (by assumption)).symm)
     | (exact congrArg de (zb (by assumption) (by assumption)).symm)
     | (exact congrArg de (zV (by assumption) (by assumption) (by assumption)).symm)
     | (exfalso; simp_all; done)
     | trace_state
theorem fdec5E_c (b : List UInt8) (hb : b.length ≤ 140737488355328) (k : Int) (ck : Bool) (c : Int) (X : Rdr) (hp : ql b = (c, 5, 0)) (he : rE (rtk 1 (rtk 1 X)) = true) (hc : (0 < c ∧ X = rtk 1 (rdr b hb)) ∨ (¬ 0 < c ∧ X = rdr b hb)) : LP Tryz.prog G 62 [bv b, iAV k, .bool ck] [] (fun _ => (de (.inr 5), [])):= by
 have hk0 : rv 1 (rtk 1 X) = 0 := rv_end _ _ he
 have hE1 : rE (rtk 2 (rtk 1 (qp (stX (rtk 1 X))))) = true := by repeat first | exact he | apply rE_take
 have hE2 : rE (rtk 1 (qp (stX (rtk 1 X)))) = true := by repeat first | exact he | apply rE_take
 rcases hc with ⟨hc, rfl⟩ | ⟨hc, rfl⟩
 all_goals
   refine goW [] Tryz.func62 rfl ?_
   conv => whnf
   repeat' ((first | (show LC _ _ _ _ _ _; first | refine LC.pure (fpk hp) ?_ | (apply LC.upd (jU _ b hb); (repeat first | refine goH ?_ | apply LH.here | apply LH.next); refine ⟨rfl, ?_⟩) | (apply LC.upd (zZ _ _); (repeat first | refine goH ?_ | apply LH.here | apply LH.next); refine ⟨rfl, ?_⟩) | (apply LC.upd (xi _ _); (repeat first | refine goH ?_ | apply LH.here | apply LH.next); refine ⟨rfl, ?_⟩) | (apply LC.upd (xh _ _); (repeat first | refine goH ?_ | apply LH.here | apply LH.next); refine ⟨rfl, ?_⟩) | (refine LC.two (fun hne => yr _ _ (rtk 1 (rtk 1 (rdr b hb))) (hdk (s0 c 5) k) hne (by omega) (Or.inl he)) ?_; (repeat first | refine goH ?_ | apply LH.here | apply LH.next); refine ⟨rfl, ?_⟩; (repeat first | refine goH ?_ | apply LH.here | apply LH.next); refine ⟨rfl, ?_⟩) | (refine LC.two (fun hne => wo _ _ (stX (rtk 1 (rtk 1 (rdr b hb)))) (stH (rtk 1 (rtk 1 (rdr b hb))) (s0 c 5)) hne (show rv 1 (rtk 1 (rtk 1 (rdr b hb))) ≠ 2 by omega)) ?_; (repeat first | refine goH ?_ | apply LH.here | apply LH.next); refine ⟨rfl, ?_⟩; (repeat first | refine goH ?_ | apply LH.here | apply LH.next); refine ⟨rfl, ?_⟩) | (refine LC.two (fun hne => yr _ _ (rtk 1 (rdr b hb)) (hdk (s0 c 5) k) hne (by omega) (Or.inl he)) ?_; (repeat first | refine goH ?_ | apply LH.here | apply LH.next); refine ⟨rfl, ?_⟩; (repeat first | refine goH ?_ | apply LH.here | apply LH.next); refine ⟨rfl, ?_⟩) | (refine LC.two (fun hne => wo _ _ (stX (rtk 1 (rdr b hb))) (stH (rtk 1 (rdr b hb)) (s0 c 5)) hne (show rv 1 (rtk 1 (rdr b hb)) ≠ 2 by omega)) ?_; (repeat first | refine goH ?_ | apply LH.here | apply LH.next); refine ⟨rfl, ?_⟩; (repeat first | refine goH ?_ | apply LH.here | apply LH.next); refine ⟨rfl, ?_⟩) | refine LC.pure (zN _ _) ?_ | refine goE ?_) | refine T.s ?_ | ((first | apply goB | apply AB.dec | apply AB.gen) <;> intro h <;> try (exfalso; omega)) | refine LQ.mk fun r => ?_ | exact T.z | fail) <;> conv => whnf)
   all_goals (try dsimp only)
   all_goals (show RL _ _ _; refine goR ?_)
   all_goals (first | rewrite [ks (by assumption)] | rewrite [kt (by assumption)] | skip)
   all_goals first
     | rfl
     | (exact congrArg de (zM (by assumption)).symm)
     | (exact congrArg de (z5 (by assumption) (by assumption)).symm)
     | (exact congrArg de (zb (by assumption) (by assumption)).symm)
     | (exact congrArg de (zV (by assumption) (by assumption) (by assumption)).symm)
     | (exfalso; simp_all; done)
     | trace_state
theorem fdec5T_c (b : List UInt8) (hb : b.length ≤ 140737488355328) (k : Int) (ck : Bool) (c : Int) (X : Rdr) (hp : ql b = (c, 5, 0)) (he : rE (rtk 1 (rtk 1 X)) = false) (hk : rv 1 (rtk 1 X) = 2) (hc : (0 < c ∧ X = rtk 1 (rdr b hb)) ∨ (¬ 0 < c ∧ X = rdr b hb)) : LP Tryz.prog G 62 [bv b, iAV k, .bool ck] [] (fun _ => (de (ka (qq (rtk 4 (stX (rtk 1 X)))) (jg (rtk 4 (stX (rtk 1 X))) (stT (rtk 1 X) (s0 c 5))) (jl (rtk 4 (stX (rtk 1 X)))) b), [])):= by
 rcases hc with ⟨hc, rfl⟩ | ⟨hc, rfl⟩
 all_goals
   refine goW [] Tryz.func62 rfl ?_
   conv => whnf
   repeat' ((first | (rw [qi (X := rtk 2 (rtk 1 (qq (rtk 4 (stX (rtk 1 (rtk 1 (rdr b hb)))))))) (by assumption)]; conv => whnf) | (rw [qi (X := rtk 1 (qq (rtk 4 (stX (rtk 1 (rtk 1 (rdr b hb))))))) (by assumption)]; conv => whnf) | (rw [qi (X := rtk 2 (rtk 1 (qq (rtk 4 (stX (rtk 1 (rdr b hb))))))) (by assumption)]; conv => whnf) | (rw [qi (X := rtk 1 (qq (rtk 4 (stX (rtk 1 (rdr b hb)))))) (by assumption)]; conv => whnf) | (show LC _ _ _ _ _ _; first | refine LC.pure (fpk hp) ?_ | (apply LC.upd (jU _ b hb); (repeat first | refine goH ?_ | apply LH.here | apply LH.next); refine ⟨rfl, ?_⟩) | (apply LC.upd (zZ _ _); (repeat first | refine goH ?_ | apply LH.here | apply LH.next); refine ⟨rfl, ?_⟩) | (apply LC.upd (xi _ _); (repeat first | refine goH ?_ | apply LH.here | apply LH.next); refine ⟨rfl, ?_⟩) | (apply LC.upd (xh _ _); (repeat first | refine goH ?_ | apply LH.here | apply LH.next); refine ⟨rfl, ?_⟩) | (refine LC.two (fun hne => fstatT_c _ _ (rtk 1 (rtk 1 (rdr b hb))) (hdk (s0 c 5) k) hne hk) ?_; (repeat first | refine goH ?_ | apply LH.here | apply LH.next); refine ⟨rfl, ?_⟩; (repeat first | refine goH ?_ | apply LH.here | apply LH.next); refine ⟨rfl, ?_⟩) | (refine LC.two (fun hne => fdynT_c _ _ (rtk 4 (stX (rtk 1 (rtk 1 (rdr b hb))))) (stT (rtk 1 (rtk 1 (rdr b hb))) (s0 c 5)) hne hk) ?_; (repeat first | refine goH ?_ | apply LH.here | apply LH.next); refine ⟨rfl, ?_⟩; (repeat first | refine goH ?_ | apply LH.here | apply LH.next); refine ⟨rfl, ?_⟩) | (refine LC.two (fun hne => fstatT_c _ _ (rtk 1 (rdr b hb)) (hdk (s0 c 5) k) hne hk) ?_; (repeat first | refine goH ?_ | apply LH.here | apply LH.next); refine ⟨rfl, ?_⟩; (repeat first | refine goH ?_ | apply LH.here | apply LH.next); refine ⟨rfl, ?_⟩) | (refine LC.two (fun hne => fdynT_c _ _ (rtk 4 (stX (rtk 1 (rdr b hb)))) (stT (rtk 1 (rdr b hb)) (s0 c 5)) hne hk) ?_; (repeat first | refine goH ?_ | apply LH.here | apply LH.next); refine ⟨rfl, ?_⟩; (repeat first | refine goH ?_ | apply LH.here | apply LH.next); refine ⟨rfl, ?_⟩) | refine LC.pure (qr (rL (rtk 2 (rtk 1 (qq (rtk 4 (stX (rtk 1 (rtk 1 (rdr b hb))))))))) (qC _)) ?_ | refine LC.pure (qm (wpl (whc (wck (jg (rtk 4 (stX (rtk 1 (rtk 1 (rdr b hb))))) (stT (rtk 1 (rtk 1 (rdr b hb))) (s0 c 5))) (rv 1 (qq (rtk 4 (stX (rtk 1 (rtk 1 (rdr b hb)))))))) (rv 2 (rtk 1 (qq (rtk 4 (stX (rtk 1 (rtk 1 (rdr b hb))))))))) (rtk 2 (rtk 1 (qq (rtk 4 (stX (rtk 1 (rtk 1 (rdr b hb)))))))))) ?_ | refine LC.pure (qr (rL (rtk 1 (qq (rtk 4 (stX (rtk 1 (rtk 1 (rdr b hb)))))))) (qC _)) ?_ | refine LC.pure (qm (wpl (wck (jg (rtk 4 (stX (rtk 1 (rtk 1 (rdr b hb))))) (stT (rtk 1 (rtk 1 (rdr b hb))) (s0 c 5))) (rv 1 (qq (rtk 4 (stX (rtk 1 (rtk 1 (rdr b hb)))))))) (rtk 1 (qq (rtk 4 (stX (rtk 1 (rtk 1 (rdr b hb))))))))) ?_ | refine LC.pure (qr (rL (rtk 2 (rtk 1 (qq (rtk 4 (stX (rtk 1 (rdr b hb)))))))) (qC _)) ?_ | refine LC.pure (qm (wpl (whc (wck (jg (rtk 4 (stX (rtk 1 (rdr b hb)))) (stT (rtk 1 (rdr b hb)) (s0 c 5))) (rv 1 (qq (rtk 4 (stX (rtk 1 (rdr b hb))))))) (rv 2 (rtk 1 (qq (rtk 4 (stX (rtk 1 (rdr b hb)))))))) (rtk 2 (rtk 1 (qq (rtk 4 (stX (rtk 1 (rdr b hb))))))))) ?_ | refine LC.pure (qr (rL (rtk 1 (qq (rtk 4 (stX (rtk 1 (rdr b hb))))))) (qC _)) ?_ | refine LC.pure (qm (wpl (wck (jg (rtk 4 (stX (rtk 1 (rdr b hb)))) (stT (rtk 1 (rdr b hb)) (s0 c 5))) (rv 1 (qq (rtk 4 (stX (rtk 1 (rdr b hb))))))) (rtk 1 (qq (rtk 4 (stX (rtk 1 (rdr b hb)))))))) ?_ | refine LC.pure (zN _ _) ?_ | refine goE ?_) | refine T.s ?_ | ((first | apply goB | apply AB.dec | apply AB.gen) <;> intro h <;> try (exfalso; omega)) | refine LQ.mk fun r => ?_ | exact T.z | fail) <;> conv => whnf)
   all_goals (try dsimp only)
   all_goals (show RL _ _ _; refine goR ?_)
   all_goals (first | rewrite [ks (by assumption)] | rewrite [kt (by assumption)] | skip)
   all_goals first
     | (exact congrArg de (zM (by assumption)).symm)
     | (exact congrArg de (z5 (by assumption) (by assumption)).symm)
     | (exact congrArg de (zb (by assumption) (by assumption)).symm)
     | (exact congrArg de (zV (by assumption) (by assumption) (by assumption)).symm)
     | (exfalso; simp_all; done)
     | trace_state
theorem fdec5U_c (b : List UInt8) (hb : b.length ≤ 140737488355328) (k : Int) (ck : Bool) (c : Int) (X : Rdr) (hp : ql b = (c, 5, 0)) (he : rE (rtk 1 (rtk 1 X)) = false) (hk : rv 1 (rtk 1 X) = 1) (hc : (0 < c ∧ X = rtk 1 (rdr b hb)) ∨ (¬ 0 < c ∧ X = rdr b hb)) : LP Tryz.prog G 62 [bv b, iAV k, .bool ck] [] (fun _ => (de (ka (qp (stX (rtk 1 X))) (jf (stX (rtk 1 X)) (stH (rtk 1 X) (s0 c 5))) (jl (stX (rtk 1 X))) b), [])):= by
 rcases hc with ⟨hc, rfl⟩ | ⟨hc, rfl⟩
 all_goals
   refine goW [] Tryz.func62 rfl ?_
   conv => whnf
   repeat' ((first | (rw [qi (X := rtk 2 (rtk 1 (qp (stX (rtk 1 (rtk 1 (rdr b hb))))))) (by assumption)]; conv => whnf) | (rw [qi (X := rtk 1 (qp (stX (rtk 1 (rtk 1 (rdr b hb)))))) (by assumption)]; conv => whnf) | (rw [qi (X := rtk 2 (rtk 1 (qp (stX (rtk 1 (rdr b hb)))))) (by assumption)]; conv => whnf) | (rw [qi (X := rtk 1 (qp (stX (rtk 1 (rdr b hb))))) (by assumption)]; conv => whnf) | (show LC _ _ _ _ _ _; first | refine LC.pure (fpk hp) ?_ | (apply LC.upd (jU _ b hb); (repeat first | refine goH ?_ | apply LH.here | apply LH.next); refine ⟨rfl, ?_⟩) | (apply LC.upd (zZ _ _); (repeat first | refine goH ?_ | apply LH.here | apply LH.next); refine ⟨rfl, ?_⟩) | (apply LC.upd (xi _ _); (repeat first | refine goH ?_ | apply LH.here | apply LH.next); refine ⟨rfl, ?_⟩) | (apply LC.upd (xh _ _); (repeat first | refine goH ?_ | apply LH.here | apply LH.next); refine ⟨rfl, ?_⟩) | (refine LC.two (fun hne => yr _ _ (rtk 1 (rtk 1 (rdr b hb))) (hdk (s0 c 5) k) hne (by omega) (Or.inr hk)) ?_; (repeat first | refine goH ?_ | apply LH.here | apply LH.next); refine ⟨rfl, ?_⟩; (repeat first | refine goH ?_ | apply LH.here | apply LH.next); refine ⟨rfl, ?_⟩) | (refine LC.two (fun hne => wo _ _ (stX (rtk 1 (rtk 1 (rdr b hb)))) (stH (rtk 1 (rtk 1 (rdr b hb))) (s0 c 5)) hne (show rv 1 (rtk 1 (rtk 1 (rdr b hb))) ≠ 2 by omega)) ?_; (repeat first | refine goH ?_ | apply LH.here | apply LH.next); refine ⟨rfl, ?_⟩; (repeat first | refine goH ?_ | apply LH.here | apply LH.next); refine ⟨rfl, ?_⟩) | (refine LC.two (fun hne => yr _ _ (rtk 1 (rdr b hb)) (hdk (s0 c 5) k) hne (by omega) (Or.inr hk)) ?_; (repeat first | refine goH ?_ | apply LH.here | apply LH.next); refine ⟨rfl, ?_⟩; (repeat first | refine goH ?_ | apply LH.here | apply LH.next); refine ⟨rfl, ?_⟩) | (refine LC.two (fun hne => wo _ _ (stX (rtk 1 (rdr b hb))) (stH (rtk 1 (rdr b hb)) (s0 c 5)) hne (show rv 1 (rtk 1 (rdr b hb)) ≠ 2 by omega)) ?_; (repeat first | refine goH ?_ | apply LH.here | apply LH.next); refine ⟨rfl, ?_⟩; (repeat first | refine goH ?_ | apply LH.here | apply LH.next); refine ⟨rfl, ?_⟩) | refine LC.pure (qr (rL (rtk 2 (rtk 1 (qp (stX (rtk 1 (rtk 1 (rdr b hb)))))))) (qC _)) ?_ | refine LC.pure (qm (wpl (whc (wck (jf (stX (rtk 1 (rtk 1 (rdr b hb)))) (stH (rtk 1 (rtk 1 (rdr b hb))) (s0 c 5))) (rv 1 (qp (stX (rtk 1 (rtk 1 (rdr b hb))))))) (rv 2 (rtk 1 (qp (stX (rtk 1 (rtk 1 (rdr b hb)))))))) (rtk 2 (rtk 1 (qp (stX (rtk 1 (rtk 1 (rdr b hb))))))))) ?_ | refine LC.pure (qr (rL (rtk 1 (qp (stX (rtk 1 (rtk 1 (rdr b hb))))))) (qC _)) ?_ | refine LC.pure (qm (wpl (wck (jf (stX (rtk 1 (rtk 1 (rdr b hb)))) (stH (rtk 1 (rtk 1 (rdr b hb))) (s0 c 5))) (rv 1 (qp (stX (rtk 1 (rtk 1 (rdr b hb))))))) (rtk 1 (qp (stX (rtk 1 (rtk 1 (rdr b hb)))))))) ?_ | refine LC.pure (qr (rL (rtk 2 (rtk 1 (qp (stX (rtk 1 (rdr b hb))))))) (qC _)) ?_ | refine LC.pure (qm (wpl (whc (wck (jf (stX (rtk 1 (rdr b hb))) (stH (rtk 1 (rdr b hb)) (s0 c 5))) (rv 1 (qp (stX (rtk 1 (rdr b hb)))))) (rv 2 (rtk 1 (qp (stX (rtk 1 (rdr b hb))))))) (rtk 2 (rtk 1 (qp (stX (rtk 1 (rdr b hb)))))))) ?_ | refine LC.pure (qr (rL (rtk 1 (qp (stX (rtk 1 (rdr b hb)))))) (qC _)) ?_ | refine LC.pure (qm (wpl (wck (jf (stX (rtk 1 (rdr b hb))) (stH (rtk 1 (rdr b hb)) (s0 c 5))) (rv 1 (qp (stX (rtk 1 (rdr b hb)))))) (rtk 1 (qp (stX (rtk 1 (rdr b hb))))))) ?_ | refine LC.pure (zN _ _) ?_ | refine goE ?_) | refine T.s ?_ | ((first | apply goB | apply AB.dec | apply AB.gen) <;> intro h <;> try (exfalso; omega)) | refine LQ.mk fun r => ?_ | exact T.z | fail) <;> conv => whnf)
   all_goals (try dsimp only)
   all_goals (show RL _ _ _; refine goR ?_)
   all_goals (first | rewrite [ks (by assumption)] | rewrite [kt (by assumption)] | skip)
   all_goals first
     | (exact congrArg de (zM (by assumption)).symm)
     | (exact congrArg de (z5 (by assumption) (by assumption)).symm)
     | (exact congrArg de (zb (by assumption) (by assumption)).symm)
     | (exact congrArg de (zV (by assumption) (by assumption) (by assumption)).symm)
     | (exfalso; simp_all; done)
     | trace_state
theorem fdec5F_c (b : List UInt8) (hb : b.length ≤ 140737488355328) (k : Int) (ck : Bool) (c : Int) (X : Rdr) (hp : ql b = (c, 5, 0)) (he : rE (rtk 1 (rtk 1 X)) = false) (h1 : rv 1 (rtk 1 X) ≠ 1) (h2 : rv 1 (rtk 1 X) ≠ 2) (hc : (0 < c ∧ X = rtk 1 (rdr b hb)) ∨ (¬ 0 < c ∧ X = rdr b hb)) : LP Tryz.prog G 62 [bv b, iAV k, .bool ck] [] (fun _ => (de (.inr 4), [])):= by
 rcases hc with ⟨hc, rfl⟩ | ⟨hc, rfl⟩
 all_goals
   refine goW [] Tryz.func62 rfl ?_
   conv => whnf
   repeat' ((first | (show LC _ _ _ _ _ _; first | refine LC.pure (fpk hp) ?_ | (apply LC.upd (jU _ b hb); (repeat first | refine goH ?_ | apply LH.here | apply LH.next); refine ⟨rfl, ?_⟩) | (apply LC.upd (zZ _ _); (repeat first | refine goH ?_ | apply LH.here | apply LH.next); refine ⟨rfl, ?_⟩) | (apply LC.upd (xi _ _); (repeat first | refine goH ?_ | apply LH.here | apply LH.next); refine ⟨rfl, ?_⟩) | (apply LC.upd (xh _ _); (repeat first | refine goH ?_ | apply LH.here | apply LH.next); refine ⟨rfl, ?_⟩) | (refine LC.two (fun hne => fstatF_c _ _ (rtk 1 (rtk 1 (rdr b hb))) (hdk (s0 c 5) k) hne he h1 h2) ?_; (repeat first | refine goH ?_ | apply LH.here | apply LH.next); refine ⟨rfl, ?_⟩; (repeat first | refine goH ?_ | apply LH.here | apply LH.next); refine ⟨rfl, ?_⟩) | (refine LC.two (fun hne => fstatF_c _ _ (rtk 1 (rdr b hb)) (hdk (s0 c 5) k) hne he h1 h2) ?_; (repeat first | refine goH ?_ | apply LH.here | apply LH.next); refine ⟨rfl, ?_⟩; (repeat first | refine goH ?_ | apply LH.here | apply LH.next); refine ⟨rfl, ?_⟩) | refine LC.pure (zN _ _) ?_ | refine goE ?_) | refine T.s ?_ | ((first | apply goB | apply AB.dec | apply AB.gen) <;> intro h <;> try (exfalso; omega)) | refine LQ.mk fun r => ?_ | exact T.z | fail) <;> conv => whnf)
   all_goals (try dsimp only)
   all_goals (show RL _ _ _; refine goR ?_)
   all_goals (first | rewrite [ks (by assumption)] | rewrite [kt (by assumption)] | skip)
   all_goals first
     | rfl
     | (exact congrArg de (zM (by assumption)).symm)
     | (exact congrArg de (z5 (by assumption) (by assumption)).symm)
     | (exact congrArg de (zb (by assumption) (by assumption)).symm)
     | (exact congrArg de (zV (by assumption) (by assumption) (by assumption)).symm)
     | (exfalso; simp_all; done)
     | trace_state
theorem fdec6_c (b : List UInt8) (hb : b.length ≤ 140737488355328) (k : Int) (ck : Bool) (c : Int) (X : Rdr) (hp : ql b = (c, 6, 0)) (hc : (0 < c ∧ X = rtk 1 (rdr b hb)) ∨ (¬ 0 < c ∧ X = rdr b hb)) : LP Tryz.prog G 62 [bv b, iAV k, .bool ck] [] (fun _ => (de (xW (rtk 1 X) (s0 c 6) b), [])):= by
 rcases hc with ⟨hc, rfl⟩ | ⟨hc, rfl⟩
 all_goals
   refine goW [] Tryz.func62 rfl ?_
   conv => whnf
   repeat' ((first | (rw [qi (X := rtk 1 (rtk 1 (rdr b hb))) (by assumption)]; conv => whnf) | (rw [qi (X := rtk 1 (rdr b hb)) (by assumption)]; conv => whnf) | (show LC _ _ _ _ _ _; first | refine LC.pure (fpk hp) ?_ | (apply LC.upd (jU _ b hb); (repeat first | refine goH ?_ | apply LH.here | apply LH.next); refine ⟨rfl, ?_⟩) | (apply LC.upd (zZ _ _); (repeat first | refine goH ?_ | apply LH.here | apply LH.next); refine ⟨rfl, ?_⟩) | (apply LC.upd (xi _ _); (repeat first | refine goH ?_ | apply LH.here | apply LH.next); refine ⟨rfl, ?_⟩) | (apply LC.upd (xh _ _); (repeat first | refine goH ?_ | apply LH.here | apply LH.next); refine ⟨rfl, ?_⟩) | refine LC.pure (qr (rL (rtk 1 (rtk 1 (rdr b hb)))) (qC _)) ?_ | refine LC.pure (qm (wpl (s0 c 6) (rtk 1 (rtk 1 (rdr b hb))))) ?_ | refine LC.pure (qr (rL (rtk 1 (rdr b hb))) (qC _)) ?_ | refine LC.pure (qm (wpl (s0 c 6) (rtk 1 (rdr b hb)))) ?_ | refine LC.pure (zN _ _) ?_ | refine goE ?_) | refine T.s ?_ | ((first | apply goB | apply AB.dec | apply AB.gen) <;> intro h <;> try (exfalso; omega)) | refine LQ.mk fun r => ?_ | exact T.z | fail) <;> conv => whnf)
   all_goals (try dsimp only)
   all_goals (show RL _ _ _; refine goR ?_)
   all_goals first
     | (exact congrArg de (zM (by assumption)).symm)
     | (exact congrArg de (z5 (by assumption) (by assumption)).symm)
     | (exact congrArg de (zb (by assumption) (by assumption)).symm)
     | (exact congrArg de (zV (by assumption) (by assumption) (by assumption)).symm)
     | (exfalso; simp_all; done)
     | trace_state
open Go.RowKit
section
variable {P : Program} {T : Tys} {G : Nat → AV} {N : Nat} {e : Env} {l : LS}
structure Halt (G : Nat → AV) (N : Nat) (K : Env → LS → Prop) (e : Env) (l : LS) : Prop where
 run : WksL G N e l K
theorem Halt.go {K : Env → LS → Prop} (h : K e l) : Halt G N K e l := ⟨⟨fun φ hs => ⟨fun σ0 w0 a w hr => ⟨e, _, ⟨l, rfl, hs, h⟩, hr⟩⟩⟩⟩
theorem CutL.halt (hT : TOk P T) (C : List Nat) (id : Nat) {x y : Code} {Q : Exit → Env → LS → Prop} (_hid : zY x = some id)
   (h : AWpL P T G N C x (kb (Halt G N (AWpL P T G N C y Q)) Q) e l) : CutL P G N x y Q e l := ⟨by
 refine SQ.seq ((AWpL.sound hT C _ _ _ _ h).mono ?_)
 intro z e' l' hq
 cases z <;> first
   | (obtain ⟨hq⟩ := hq
      refine SQ.weak ⟨fun φ hs => ⟨fun σ0 w0 a w hr => ?_⟩⟩
      obtain ⟨e1, σ1, ⟨l1, h1, h2, h3⟩, h4⟩ := (WksL.go hq φ hs).go σ0 w0 a w hr
      exact ⟨e1, σ1, ⟨l1, h1, h2, AWpL.sound hT C _ _ _ _ h3⟩, h4⟩)
   | exact hq⟩
theorem Halt.frz {K : Env → LS → Prop} {q p : Nm} (t : TypeId) {c0 : Pl} {rest : LS} {cs' : List AV} (h : LH rest p fun c s _ => c.ty = t ∧ LFs ((q, c0) :: rest) [q] c.cs cs' ∧ K e (s ⟨c.ty, cs'⟩)) : Halt G N K e ((q, c0) :: rest) := by
 obtain ⟨l1, c, l2, rfl, -, h1, h2⟩ := h.ex
 refine ⟨⟨fun φ hs => ⟨fun σ0 w0 a w hr => ?_⟩⟩⟩
 have hs1 : Sep φ (l1 ++ (p, c) :: l2) := ⟨(List.nodup_cons.1 hs.nd).2, fun x hx => hs.fr x (List.mem_cons_of_mem _ hx)⟩
 have hfz := (h1.frz hs).all
 have he : eraN (pQ φ ((q, c0) :: (l1 ++ (p, c) :: l2))) [q] = pQ φ (l1 ++ (p, c) :: l2) := Sep.era' (l1 := []) hs
 have hsub : Sub (pQ φ (l1 ++ (p, c) :: l2)) (pQ φ ((q, c0) :: (l1 ++ (p, c) :: l2))) := fun b d hb => j8 _ [q] b d (by rw [he]; exact hb)
 have hr1 := hr.sub hsub
 have hset : pQ φ (l1 ++ (p, ⟨c.ty, cs'⟩) :: l2) = upd (pQ φ (l1 ++ (p, c) :: l2)) p ⟨c.ty, cs'⟩ := (Sep.set' hs1 _).symm
 have hst : Stp (pQ φ (l1 ++ (p, c) :: l2)) w (pQ φ (l1 ++ (p, ⟨c.ty, cs'⟩) :: l2)) w := Stp.forget _ _ w fun b hb => by
   rw [hset, qj]
   · exact hb
   · intro hbp
     subst hbp
     rw [hs1.get] at hb
     cases hb
 have hcs : ∀ {v : Value} (i : Nat), i < c.cs.length → Rd (pQ φ ((q, c0) :: (l1 ++ (p, c) :: l2))) w (c.cs.getD i .any) v → Rd (pQ φ (l1 ++ (p, ⟨c.ty, cs'⟩) :: l2)) w (cs'.getD i .any) v := fun i hi hv => by
   have h3 := (hfz.2 i hi).sound hr.mem hv
   rw [he] at h3
   exact h3.mono hst
 have hp0 : pQ φ ((q, c0) :: (l1 ++ (p, c) :: l2)) p = some c := hsub _ _ hs1.get
 refine ⟨e, _, ⟨_, rfl, hs1.set, h2⟩, hr1.n, hr1.d, fun x => (hr1.env x).mono hst, ⟨fun b d hb => ?_, fun k d hk => ?_, ?_⟩, hr1.st.trans hst, hr1.glob.mono hst⟩
 · rw [hset] at hb
   by_cases hbp : Nm.b b = p
   · subst hbp
     rw [qE] at hb; cases hb
     obtain ⟨cur, k1, k2, k3⟩ := hr.mem.pl b c hp0
     have hl : cs'.length = c.cs.length := hfz.1.symm
     exact ⟨cur, k1, by show cs'.length ≤ _; omega, fun i hi => hcs i (by have hi : i < cs'.length := hi; omega) (k3 i (by have hi : i < cs'.length := hi; omega))⟩
   · rw [qj _ _ hbp] at hb
     obtain ⟨cur, k1, k2, k3⟩ := hr1.mem.pl b d hb
     exact ⟨cur, k1, k2, fun i hi => (k3 i hi).mono hst⟩
 · rw [hset] at hk
   by_cases hkp : Nm.v k = p
   · subst hkp
     rw [qE] at hk; cases hk
     have hl : cs'.length = c.cs.length := hfz.1.symm
     rw [hr.mem.vl k c hp0] at hl
     exact List.eq_nil_of_length_eq_zero hl
   · rw [qj _ _ hkp] at hk
     exact hr1.mem.vl k d hk
 · rw [hset]; exact jH hr1.mem.fin _ _
theorem LFs.cons {F : List Nm} {x y : AV} {xs ys : List AV} (h : LF l F x y) (k : LFs l F xs ys) : LFs l F (x :: xs) (y :: ys) := ⟨h, k⟩
theorem LFs.nil {F : List Nm} : LFs l F [] [] := trivial
end
end Go.Proofs.YtkfpgdckdmlhkaaGreatDoor
