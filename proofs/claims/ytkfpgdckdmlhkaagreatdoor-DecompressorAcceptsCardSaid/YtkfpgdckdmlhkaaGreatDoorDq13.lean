/-
  Contracts of the functions that the laws reach.
-/
import Derived.Test.YtkfpgdckdmlhkaaGreatDoorDq01
import Derived.Test.YtkfpgdckdmlhkaaGreatDoorDq02
import Derived.Test.YtkfpgdckdmlhkaaGreatDoorDq03
import Derived.Test.YtkfpgdckdmlhkaaGreatDoorDq04
import Derived.Test.YtkfpgdckdmlhkaaGreatDoorDq05
import Derived.Test.YtkfpgdckdmlhkaaGreatDoorDq06
import Derived.Test.YtkfpgdckdmlhkaaGreatDoorDq07
import Derived.Test.YtkfpgdckdmlhkaaGreatDoorDq08
import Derived.Test.YtkfpgdckdmlhkaaGreatDoorDq10
import Derived.Test.YtkfpgdckdmlhkaaGreatDoorDq11
set_option maxHeartbeats 4000000
set_option linter.all false
namespace Go.Proofs.YtkfpgdckdmlhkaaGreatDoor
open Go.RowKit
variable {G : Nat → AV}
theorem rdec4T_c (b : List UInt8) (hb : b.length ≤ 140737488355328) (ck : Bool) (c : Int) (X : Rdr) (hp : ql b = (c, 4, 0)) (hc : (0 < c ∧ X = rtk 1 (rdr b hb)) ∨ (¬ 0 < c ∧ X = rdr b hb)) : LP Tryz.prog G 28 [bv b, iAV 2, .bool ck] [] (fun _ => (de (ka (qq (rtk 1 X)) (jg (rtk 1 X) (hdk (s0 c 4) 2)) (jl (rtk 1 X)) b), [])):= by
 have hle0 := qC (rtk 2 (rtk 1 (qq (rtk 1 X))))
 have hle1 := qC (rtk 1 (qq (rtk 1 X)))
 rcases hc with ⟨hc, rfl⟩ | ⟨hc, rfl⟩
 all_goals
   refine goW [51] Tryz.func28 rfl ?_
   conv => whnf
   repeat' ((first | (rw [qi (X := rtk 2 (rtk 1 (qq (rtk 1 (rtk 1 (rdr b hb)))))) (by assumption)]; conv => whnf) | (rw [qi (X := rtk 1 (qq (rtk 1 (rtk 1 (rdr b hb))))) (by assumption)]; conv => whnf) | (rw [qi (X := rtk 2 (rtk 1 (qq (rtk 1 (rdr b hb))))) (by assumption)]; conv => whnf) | (rw [qi (X := rtk 1 (qq (rtk 1 (rdr b hb)))) (by assumption)]; conv => whnf) | (show LC _ _ _ _ _ _; first | refine LC.pure (rpk hp) ?_ | (apply LC.upd (kr _ b hb); (repeat first | refine goH ?_ | apply LH.here | apply LH.next); refine ⟨rfl, ?_⟩) | (apply LC.upd (jr _ _); (repeat first | refine goH ?_ | apply LH.here | apply LH.next); refine ⟨rfl, ?_⟩) | (apply LC.upd (jB _ _); (repeat first | refine goH ?_ | apply LH.here | apply LH.next); refine ⟨rfl, ?_⟩) | (apply LC.upd (jA _ _); (repeat first | refine goH ?_ | apply LH.here | apply LH.next); refine ⟨rfl, ?_⟩) | (refine LC.two (fun hne => jm _ _ (rtk 1 (rtk 1 (rdr b hb))) (hdk (s0 c 4) 2) hne (show (2 : Int) ≠ 1 by decide)) ?_; (repeat first | refine goH ?_ | apply LH.here | apply LH.next); refine ⟨rfl, ?_⟩; (repeat first | refine goH ?_ | apply LH.here | apply LH.next); refine ⟨rfl, ?_⟩) | (refine LC.two (fun hne => jm _ _ (rtk 1 (rdr b hb)) (hdk (s0 c 4) 2) hne (show (2 : Int) ≠ 1 by decide)) ?_; (repeat first | refine goH ?_ | apply LH.here | apply LH.next); refine ⟨rfl, ?_⟩; (repeat first | refine goH ?_ | apply LH.here | apply LH.next); refine ⟨rfl, ?_⟩) | refine LC.pure (qh (wpl (whc (wck (jg (rtk 1 (rtk 1 (rdr b hb))) (hdk (s0 c 4) 2)) (rv 1 (qq (rtk 1 (rtk 1 (rdr b hb)))))) (rv 2 (rtk 1 (qq (rtk 1 (rtk 1 (rdr b hb))))))) (rtk 2 (rtk 1 (qq (rtk 1 (rtk 1 (rdr b hb)))))))) ?_ | refine LC.pure (qh (wpl (wck (jg (rtk 1 (rtk 1 (rdr b hb))) (hdk (s0 c 4) 2)) (rv 1 (qq (rtk 1 (rtk 1 (rdr b hb)))))) (rtk 1 (qq (rtk 1 (rtk 1 (rdr b hb))))))) ?_ | refine LC.pure (qh (wpl (whc (wck (jg (rtk 1 (rdr b hb)) (hdk (s0 c 4) 2)) (rv 1 (qq (rtk 1 (rdr b hb))))) (rv 2 (rtk 1 (qq (rtk 1 (rdr b hb)))))) (rtk 2 (rtk 1 (qq (rtk 1 (rdr b hb))))))) ?_ | refine LC.pure (qh (wpl (wck (jg (rtk 1 (rdr b hb)) (hdk (s0 c 4) 2)) (rv 1 (qq (rtk 1 (rdr b hb))))) (rtk 1 (qq (rtk 1 (rdr b hb)))))) ?_ | refine LC.pure (xw _ _) ?_ | refine goE ?_) | refine T.s ?_ | ((first | apply goB | apply AB.dec | apply AB.gen) <;> intro h <;> try (exfalso; omega)) | refine LQ.mk fun r => ?_ | (show CutL _ _ _ _ _ _ _ _; first | refine CutL.halt tQ [51] 51 (by rfl) ?_ | refine CutL.go tQ [51] ?_) | (show Halt _ _ _ _ _; apply Halt.frz 67; (first | (apply LH.here; refine And.intro (by rfl) ?_) | (apply LH.next; apply LH.here; refine And.intro (by rfl) ?_) | (apply LH.next; apply LH.next; apply LH.here; refine And.intro (by rfl) ?_)); refine And.intro ?_ ?_; (focus (repeat first | exact LFs.nil | apply LFs.cons | exact LF.rowF InL.here (by (repeat first | refine goH ?_ | apply LH.here | apply LH.next); exact ⟨rfl, rfl⟩) | exact LF.eq rfl))) | exact T.z | fail) <;> conv => whnf)
   all_goals (try dsimp only)
   all_goals (show RL _ _ _; refine goR ?_)
   all_goals (first | rewrite [ks (by assumption)] | rewrite [kt (by assumption)] | skip)
   all_goals first
     | (exact congrArg de (zM (by assumption)).symm)
     | (exact congrArg de (z5 (by assumption) (by assumption)).symm)
     | (exact congrArg de (zb (by assumption) (by assumption)).symm)
     | (exact congrArg de (zV (by assumption) (by assumption) (by assumption)).symm)
     | (exfalso; simp_all; done)
     | trace_state
theorem rdec4U_c (b : List UInt8) (hb : b.length ≤ 140737488355328) (ck : Bool) (c : Int) (X : Rdr) (hp : ql b = (c, 4, 0)) (hc : (0 < c ∧ X = rtk 1 (rdr b hb)) ∨ (¬ 0 < c ∧ X = rdr b hb)) : LP Tryz.prog G 28 [bv b, iAV 1, .bool ck] [] (fun _ => (de (ka (qp (rtk 1 X)) (jf (rtk 1 X) (hdk (s0 c 4) 1)) (jl (rtk 1 X)) b), [])):= by
 have hle0 := qC (rtk 2 (rtk 1 (qp (rtk 1 X))))
 have hle1 := qC (rtk 1 (qp (rtk 1 X)))
 rcases hc with ⟨hc, rfl⟩ | ⟨hc, rfl⟩
 all_goals
   refine goW [51] Tryz.func28 rfl ?_
   conv => whnf
   repeat' ((first | (rw [qi (X := rtk 2 (rtk 1 (qp (rtk 1 (rtk 1 (rdr b hb)))))) (by assumption)]; conv => whnf) | (rw [qi (X := rtk 1 (qp (rtk 1 (rtk 1 (rdr b hb))))) (by assumption)]; conv => whnf) | (rw [qi (X := rtk 2 (rtk 1 (qp (rtk 1 (rdr b hb))))) (by assumption)]; conv => whnf) | (rw [qi (X := rtk 1 (qp (rtk 1 (rdr b hb)))) (by assumption)]; conv => whnf) | (show LC _ _ _ _ _ _; first | refine LC.pure (rpk hp) ?_ | (apply LC.upd (kr _ b hb); (repeat first | refine goH ?_ | apply LH.here | apply LH.next); refine ⟨rfl, ?_⟩) | (apply LC.upd (jr _ _); (repeat first | refine goH ?_ | apply LH.here | apply LH.next); refine ⟨rfl, ?_⟩) | (apply LC.upd (jB _ _); (repeat first | refine goH ?_ | apply LH.here | apply LH.next); refine ⟨rfl, ?_⟩) | (apply LC.upd (jA _ _); (repeat first | refine goH ?_ | apply LH.here | apply LH.next); refine ⟨rfl, ?_⟩) | (refine LC.two (fun hne => wb _ _ (rtk 1 (rtk 1 (rdr b hb))) (hdk (s0 c 4) 1) hne rfl) ?_; (repeat first | refine goH ?_ | apply LH.here | apply LH.next); refine ⟨rfl, ?_⟩; (repeat first | refine goH ?_ | apply LH.here | apply LH.next); refine ⟨rfl, ?_⟩) | (refine LC.two (fun hne => wb _ _ (rtk 1 (rdr b hb)) (hdk (s0 c 4) 1) hne rfl) ?_; (repeat first | refine goH ?_ | apply LH.here | apply LH.next); refine ⟨rfl, ?_⟩; (repeat first | refine goH ?_ | apply LH.here | apply LH.next); refine ⟨rfl, ?_⟩) | refine LC.pure (qh (wpl (whc (wck (jf (rtk 1 (rtk 1 (rdr b hb))) (hdk (s0 c 4) 1)) (rv 1 (qp (rtk 1 (rtk 1 (rdr b hb)))))) (rv 2 (rtk 1 (qp (rtk 1 (rtk 1 (rdr b hb))))))) (rtk 2 (rtk 1 (qp (rtk 1 (rtk 1 (rdr b hb)))))))) ?_ | refine LC.pure (qh (wpl (wck (jf (rtk 1 (rtk 1 (rdr b hb))) (hdk (s0 c 4) 1)) (rv 1 (qp (rtk 1 (rtk 1 (rdr b hb)))))) (rtk 1 (qp (rtk 1 (rtk 1 (rdr b hb))))))) ?_ | refine LC.pure (qh (wpl (whc (wck (jf (rtk 1 (rdr b hb)) (hdk (s0 c 4) 1)) (rv 1 (qp (rtk 1 (rdr b hb))))) (rv 2 (rtk 1 (qp (rtk 1 (rdr b hb)))))) (rtk 2 (rtk 1 (qp (rtk 1 (rdr b hb))))))) ?_ | refine LC.pure (qh (wpl (wck (jf (rtk 1 (rdr b hb)) (hdk (s0 c 4) 1)) (rv 1 (qp (rtk 1 (rdr b hb))))) (rtk 1 (qp (rtk 1 (rdr b hb)))))) ?_ | refine LC.pure (xw _ _) ?_ | refine goE ?_) | refine T.s ?_ | ((first | apply goB | apply AB.dec | apply AB.gen) <;> intro h <;> try (exfalso; omega)) | refine LQ.mk fun r => ?_ | (show CutL _ _ _ _ _ _ _ _; first | refine CutL.halt tQ [51] 51 (by rfl) ?_ | refine CutL.go tQ [51] ?_) | (show Halt _ _ _ _ _; apply Halt.frz 67; (first | (apply LH.here; refine And.intro (by rfl) ?_) | (apply LH.next; apply LH.here; refine And.intro (by rfl) ?_) | (apply LH.next; apply LH.next; apply LH.here; refine And.intro (by rfl) ?_)); refine And.intro ?_ ?_; (focus (repeat first | exact LFs.nil | apply LFs.cons | exact LF.rowF InL.here (by (repeat first | refine goH ?_ | apply LH.here | apply LH.next); exact ⟨rfl, rfl⟩) | exact LF.eq rfl))) | exact T.z | fail) <;> conv => whnf)
   all_goals (try dsimp only)
   all_goals (show RL _ _ _; refine goR ?_)
   all_goals (first | rewrite [ks (by assumption)] | rewrite [kt (by assumption)] | skip)
   all_goals first
     | (exact congrArg de (zM (by assumption)).symm)
     | (exact congrArg de (z5 (by assumption) (by assumption)).symm)
     | (exact congrArg de (zb (by assumption) (by assumption)).symm)
     | (exact congrArg de (zV (by assumption) (by assumption) (by assumption)).symm)
     | (exfalso; simp_all; done)
     | trace_state
theorem rdec5E_c (b : List UInt8) (hb : b.length ≤ 140737488355328) (k : Int) (ck : Bool) (c : Int) (X : Rdr) (hp : ql b = (c, 5, 0)) (he : rE (rtk 1 (rtk 1 X)) = true) (hc : (0 < c ∧ X = rtk 1 (rdr b hb)) ∨ (¬ 0 < c ∧ X = rdr b hb)) : LP Tryz.prog G 28 [bv b, iAV k, .bool ck] [] (fun _ => (de (.inr 5), [])):= by
 have hk0 : rv 1 (rtk 1 X) = 0 := rv_end _ _ he
 have hE1 : rE (rtk 2 (rtk 1 (qq (stX (rtk 1 X))))) = true := by repeat first | exact he | apply rE_take
 have hE2 : rE (rtk 1 (qq (stX (rtk 1 X)))) = true := by repeat first | exact he | apply rE_take
 rcases hc with ⟨hc, rfl⟩ | ⟨hc, rfl⟩
 all_goals
   refine goW [] Tryz.func28 rfl ?_
   conv => whnf
   repeat' ((first | (show LC _ _ _ _ _ _; first | refine LC.pure (rpk hp) ?_ | (apply LC.upd (kr _ b hb); (repeat first | refine goH ?_ | apply LH.here | apply LH.next); refine ⟨rfl, ?_⟩) | (apply LC.upd (jr _ _); (repeat first | refine goH ?_ | apply LH.here | apply LH.next); refine ⟨rfl, ?_⟩) | (apply LC.upd (jB _ _); (repeat first | refine goH ?_ | apply LH.here | apply LH.next); refine ⟨rfl, ?_⟩) | (apply LC.upd (jA _ _); (repeat first | refine goH ?_ | apply LH.here | apply LH.next); refine ⟨rfl, ?_⟩) | (refine LC.two (fun hne => jm _ _ (stX (rtk 1 (rtk 1 (rdr b hb)))) (stH (rtk 1 (rtk 1 (rdr b hb))) (s0 c 5)) hne (show rv 1 (rtk 1 (rtk 1 (rdr b hb))) ≠ 1 by omega)) ?_; (repeat first | refine goH ?_ | apply LH.here | apply LH.next); refine ⟨rfl, ?_⟩; (repeat first | refine goH ?_ | apply LH.here | apply LH.next); refine ⟨rfl, ?_⟩) | (refine LC.two (fun hne => jm _ _ (stX (rtk 1 (rdr b hb))) (stH (rtk 1 (rdr b hb)) (s0 c 5)) hne (show rv 1 (rtk 1 (rdr b hb)) ≠ 1 by omega)) ?_; (repeat first | refine goH ?_ | apply LH.here | apply LH.next); refine ⟨rfl, ?_⟩; (repeat first | refine goH ?_ | apply LH.here | apply LH.next); refine ⟨rfl, ?_⟩) | refine LC.pure (xw _ _) ?_ | refine goE ?_) | refine T.s ?_ | ((first | apply goB | apply AB.dec | apply AB.gen) <;> intro h <;> try (exfalso; omega)) | refine LQ.mk fun r => ?_ | exact T.z | fail) <;> conv => whnf)
   all_goals (try dsimp only)
   all_goals (show RL _ _ _; refine goR ?_)
   all_goals (first | rewrite [ks (by assumption)] | rewrite [kt (by assumption)] | skip)
   all_goals first
     | rfl
     | (exact congrArg de (zM (by assumption)).symm)
     | (exact congrArg de (z5 (by assumption) (by assumption)).symm)
     | (exact congrArg de (zb (by assumption) (by assumption)).symm)
     | (exact congrArg de (zV (by assumption) (by assumption) (by assumption)).symm)
     | (exfalso; simp_all; done)
     | trace_state
theorem rdec5T_c (b : List UInt8) (hb : b.length ≤ 140737488355328) (k : Int) (ck : Bool) (c : Int) (X : Rdr) (hp : ql b = (c, 5, 0)) (he : rE (rtk 1 (rtk 1 X)) = false) (hk : rv 1 (rtk 1 X) = 2) (hc : (0 < c ∧ X = rtk 1 (rdr b hb)) ∨ (¬ 0 < c ∧ X = rdr b hb)) : LP Tryz.prog G 28 [bv b, iAV k, .bool ck] [] (fun _ => (de (ka (qq (rtk 4 (stX (rtk 1 X)))) (jg (rtk 4 (stX (rtk 1 X))) (stT (rtk 1 X) (s0 c 5))) (jl (rtk 4 (stX (rtk 1 X)))) b), [])):= by
 have hle0 := qC (rtk 2 (rtk 1 (qq (rtk 4 (stX (rtk 1 X))))))
 have hle1 := qC (rtk 1 (qq (rtk 4 (stX (rtk 1 X)))))
 rcases hc with ⟨hc, rfl⟩ | ⟨hc, rfl⟩
 all_goals
   refine goW [51] Tryz.func28 rfl ?_
   conv => whnf
   repeat' ((first | (rw [qi (X := rtk 2 (rtk 1 (qq (rtk 4 (stX (rtk 1 (rtk 1 (rdr b hb)))))))) (by assumption)]; conv => whnf) | (rw [qi (X := rtk 1 (qq (rtk 4 (stX (rtk 1 (rtk 1 (rdr b hb))))))) (by assumption)]; conv => whnf) | (rw [qi (X := rtk 2 (rtk 1 (qq (rtk 4 (stX (rtk 1 (rdr b hb))))))) (by assumption)]; conv => whnf) | (rw [qi (X := rtk 1 (qq (rtk 4 (stX (rtk 1 (rdr b hb)))))) (by assumption)]; conv => whnf) | (show LC _ _ _ _ _ _; first | refine LC.pure (rpk hp) ?_ | (apply LC.upd (kr _ b hb); (repeat first | refine goH ?_ | apply LH.here | apply LH.next); refine ⟨rfl, ?_⟩) | (apply LC.upd (jr _ _); (repeat first | refine goH ?_ | apply LH.here | apply LH.next); refine ⟨rfl, ?_⟩) | (apply LC.upd (jB _ _); (repeat first | refine goH ?_ | apply LH.here | apply LH.next); refine ⟨rfl, ?_⟩) | (apply LC.upd (jA _ _); (repeat first | refine goH ?_ | apply LH.here | apply LH.next); refine ⟨rfl, ?_⟩) | (refine LC.two (fun hne => jm _ _ (rtk 4 (stX (rtk 1 (rtk 1 (rdr b hb))))) (stT (rtk 1 (rtk 1 (rdr b hb))) (s0 c 5)) hne (show rv 1 (rtk 1 (rtk 1 (rdr b hb))) ≠ 1 by omega)) ?_; (repeat first | refine goH ?_ | apply LH.here | apply LH.next); refine ⟨rfl, ?_⟩; (repeat first | refine goH ?_ | apply LH.here | apply LH.next); refine ⟨rfl, ?_⟩) | (refine LC.two (fun hne => jm _ _ (rtk 4 (stX (rtk 1 (rdr b hb)))) (stT (rtk 1 (rdr b hb)) (s0 c 5)) hne (show rv 1 (rtk 1 (rdr b hb)) ≠ 1 by omega)) ?_; (repeat first | refine goH ?_ | apply LH.here | apply LH.next); refine ⟨rfl, ?_⟩; (repeat first | refine goH ?_ | apply LH.here | apply LH.next); refine ⟨rfl, ?_⟩) | refine LC.pure (qh (wpl (whc (wck (jg (rtk 4 (stX (rtk 1 (rtk 1 (rdr b hb))))) (stT (rtk 1 (rtk 1 (rdr b hb))) (s0 c 5))) (rv 1 (qq (rtk 4 (stX (rtk 1 (rtk 1 (rdr b hb)))))))) (rv 2 (rtk 1 (qq (rtk 4 (stX (rtk 1 (rtk 1 (rdr b hb))))))))) (rtk 2 (rtk 1 (qq (rtk 4 (stX (rtk 1 (rtk 1 (rdr b hb)))))))))) ?_ | refine LC.pure (qh (wpl (wck (jg (rtk 4 (stX (rtk 1 (rtk 1 (rdr b hb))))) (stT (rtk 1 (rtk 1 (rdr b hb))) (s0 c 5))) (rv 1 (qq (rtk 4 (stX (rtk 1 (rtk 1 (rdr b hb)))))))) (rtk 1 (qq (rtk 4 (stX (rtk 1 (rtk 1 (rdr b hb))))))))) ?_ | refine LC.pure (qh (wpl (whc (wck (jg (rtk 4 (stX (rtk 1 (rdr b hb)))) (stT (rtk 1 (rdr b hb)) (s0 c 5))) (rv 1 (qq (rtk 4 (stX (rtk 1 (rdr b hb))))))) (rv 2 (rtk 1 (qq (rtk 4 (stX (rtk 1 (rdr b hb)))))))) (rtk 2 (rtk 1 (qq (rtk 4 (stX (rtk 1 (rdr b hb))))))))) ?_ | refine LC.pure (qh (wpl (wck (jg (rtk 4 (stX (rtk 1 (rdr b hb)))) (stT (rtk 1 (rdr b hb)) (s0 c 5))) (rv 1 (qq (rtk 4 (stX (rtk 1 (rdr b hb))))))) (rtk 1 (qq (rtk 4 (stX (rtk 1 (rdr b hb)))))))) ?_ | refine LC.pure (xw _ _) ?_ | refine goE ?_) | refine T.s ?_ | ((first | apply goB | apply AB.dec | apply AB.gen) <;> intro h <;> try (exfalso; omega)) | refine LQ.mk fun r => ?_ | (show CutL _ _ _ _ _ _ _ _; first | refine CutL.halt tQ [51] 51 (by rfl) ?_ | refine CutL.go tQ [51] ?_) | (show Halt _ _ _ _ _; apply Halt.frz 67; (first | (apply LH.here; refine And.intro (by rfl) ?_) | (apply LH.next; apply LH.here; refine And.intro (by rfl) ?_) | (apply LH.next; apply LH.next; apply LH.here; refine And.intro (by rfl) ?_)); refine And.intro ?_ ?_; (focus (repeat first | exact LFs.nil | apply LFs.cons | exact LF.rowF InL.here (by (repeat first | refine goH ?_ | apply LH.here | apply LH.next); exact ⟨rfl, rfl⟩) | exact LF.eq rfl))) | exact T.z | fail) <;> conv => whnf)
   all_goals (try dsimp only)
   all_goals (show RL _ _ _; refine goR ?_)
   all_goals (first | rewrite [ks (by assumption)] | rewrite [kt (by assumption)] | skip)
   all_goals first
     | (exact congrArg de (zM (by assumption)).symm)
     | (exact congrArg de (z5 (by assumption) (by assumption)).symm)
     | (exact congrArg de (zb (by assumption) (by assumption)).symm)
     | (exact congrArg de (zV (by assumption) (by assumption) (by assumption)).symm)
     | (exfalso; simp_all; done)
     | trace_state
theorem rdec5U_c (b : List UInt8) (hb : b.length ≤ 140737488355328) (k : Int) (ck : Bool) (c : Int) (X : Rdr) (hp : ql b = (c, 5, 0)) (he : rE (rtk 1 (rtk 1 X)) = false) (hk : rv 1 (rtk 1 X) = 1) (hc : (0 < c ∧ X = rtk 1 (rdr b hb)) ∨ (¬ 0 < c ∧ X = rdr b hb)) : LP Tryz.prog G 28 [bv b, iAV k, .bool ck] [] (fun _ => (de (ka (qp (stX (rtk 1 X))) (jf (stX (rtk 1 X)) (stH (rtk 1 X) (s0 c 5))) (jl (stX (rtk 1 X))) b), [])):= by
 have hle0 := qC (rtk 2 (rtk 1 (qp (stX (rtk 1 X)))))
 have hle1 := qC (rtk 1 (qp (stX (rtk 1 X))))
 rcases hc with ⟨hc, rfl⟩ | ⟨hc, rfl⟩
 all_goals
   refine goW [51] Tryz.func28 rfl ?_
   conv => whnf
   repeat' ((first | (rw [qi (X := rtk 2 (rtk 1 (qp (stX (rtk 1 (rtk 1 (rdr b hb))))))) (by assumption)]; conv => whnf) | (rw [qi (X := rtk 1 (qp (stX (rtk 1 (rtk 1 (rdr b hb)))))) (by assumption)]; conv => whnf) | (rw [qi (X := rtk 2 (rtk 1 (qp (stX (rtk 1 (rdr b hb)))))) (by assumption)]; conv => whnf) | (rw [qi (X := rtk 1 (qp (stX (rtk 1 (rdr b hb))))) (by assumption)]; conv => whnf) | (show LC _ _ _ _ _ _; first | refine LC.pure (rpk hp) ?_ | (apply LC.upd (kr _ b hb); (repeat first | refine goH ?_ | apply LH.here | apply LH.next); refine ⟨rfl, ?_⟩) | (apply LC.upd (jr _ _); (repeat first | refine goH ?_ | apply LH.here | apply LH.next); refine ⟨rfl, ?_⟩) | (apply LC.upd (jB _ _); (repeat first | refine goH ?_ | apply LH.here | apply LH.next); refine ⟨rfl, ?_⟩) | (apply LC.upd (jA _ _); (repeat first | refine goH ?_ | apply LH.here | apply LH.next); refine ⟨rfl, ?_⟩) | (refine LC.two (fun hne => wb _ _ (stX (rtk 1 (rtk 1 (rdr b hb)))) (stH (rtk 1 (rtk 1 (rdr b hb))) (s0 c 5)) hne hk) ?_; (repeat first | refine goH ?_ | apply LH.here | apply LH.next); refine ⟨rfl, ?_⟩; (repeat first | refine goH ?_ | apply LH.here | apply LH.next); refine ⟨rfl, ?_⟩) | (refine LC.two (fun hne => wb _ _ (stX (rtk 1 (rdr b hb))) (stH (rtk 1 (rdr b hb)) (s0 c 5)) hne hk) ?_; (repeat first | refine goH ?_ | apply LH.here | apply LH.next); refine ⟨rfl, ?_⟩; (repeat first | refine goH ?_ | apply LH.here | apply LH.next); refine ⟨rfl, ?_⟩) | refine LC.pure (qh (wpl (whc (wck (jf (stX (rtk 1 (rtk 1 (rdr b hb)))) (stH (rtk 1 (rtk 1 (rdr b hb))) (s0 c 5))) (rv 1 (qp (stX (rtk 1 (rtk 1 (rdr b hb))))))) (rv 2 (rtk 1 (qp (stX (rtk 1 (rtk 1 (rdr b hb)))))))) (rtk 2 (rtk 1 (qp (stX (rtk 1 (rtk 1 (rdr b hb))))))))) ?_ | refine LC.pure (qh (wpl (wck (jf (stX (rtk 1 (rtk 1 (rdr b hb)))) (stH (rtk 1 (rtk 1 (rdr b hb))) (s0 c 5))) (rv 1 (qp (stX (rtk 1 (rtk 1 (rdr b hb))))))) (rtk 1 (qp (stX (rtk 1 (rtk 1 (rdr b hb)))))))) ?_ | refine LC.pure (qh (wpl (whc (wck (jf (stX (rtk 1 (rdr b hb))) (stH (rtk 1 (rdr b hb)) (s0 c 5))) (rv 1 (qp (stX (rtk 1 (rdr b hb)))))) (rv 2 (rtk 1 (qp (stX (rtk 1 (rdr b hb))))))) (rtk 2 (rtk 1 (qp (stX (rtk 1 (rdr b hb)))))))) ?_ | refine LC.pure (qh (wpl (wck (jf (stX (rtk 1 (rdr b hb))) (stH (rtk 1 (rdr b hb)) (s0 c 5))) (rv 1 (qp (stX (rtk 1 (rdr b hb)))))) (rtk 1 (qp (stX (rtk 1 (rdr b hb))))))) ?_ | refine LC.pure (xw _ _) ?_ | refine goE ?_) | refine T.s ?_ | ((first | apply goB | apply AB.dec | apply AB.gen) <;> intro h <;> try (exfalso; omega)) | refine LQ.mk fun r => ?_ | (show CutL _ _ _ _ _ _ _ _; first | refine CutL.halt tQ [51] 51 (by rfl) ?_ | refine CutL.go tQ [51] ?_) | (show Halt _ _ _ _ _; apply Halt.frz 67; (first | (apply LH.here; refine And.intro (by rfl) ?_) | (apply LH.next; apply LH.here; refine And.intro (by rfl) ?_) | (apply LH.next; apply LH.next; apply LH.here; refine And.intro (by rfl) ?_)); refine And.intro ?_ ?_; (focus (repeat first | exact LFs.nil | apply LFs.cons | exact LF.rowF InL.here (by (repeat first | refine goH ?_ | apply LH.here | apply LH.next); exact ⟨rfl, rfl⟩) | exact LF.eq rfl))) | exact T.z | fail) <;> conv => whnf)
   all_goals (try dsimp only)
   all_goals (show RL _ _ _; refine goR ?_)
   all_goals (first | rewrite [ks (by assumption)] | rewrite [kt (by assumption)] | skip)
   all_goals first
     | (exact congrArg de (zM (by assumption)).symm)
     | (exact congrArg de (z5 (by assumption) (by assumption)).symm)
     | (exact congrArg de (zb (by assumption) (by assumption)).symm)
     | (exact congrArg de (zV (by assumption) (by assumption) (by assumption)).symm)
     | (exfalso; simp_all; done)
     | trace_state
theorem rdec5F_c (b : List UInt8) (hb : b.length ≤ 140737488355328) (k : Int) (ck : Bool) (c : Int) (X : Rdr) (hp : ql b = (c, 5, 0)) (he : rE (rtk 1 (rtk 1 X)) = false) (h1 : rv 1 (rtk 1 X) ≠ 1) (h2 : rv 1 (rtk 1 X) ≠ 2) (hc : (0 < c ∧ X = rtk 1 (rdr b hb)) ∨ (¬ 0 < c ∧ X = rdr b hb)) : LP Tryz.prog G 28 [bv b, iAV k, .bool ck] [] (fun _ => (de (.inr 4), [])):= by
 rcases hc with ⟨hc, rfl⟩ | ⟨hc, rfl⟩
 all_goals
   refine goW [] Tryz.func28 rfl ?_
   conv => whnf
   repeat' ((first | (show LC _ _ _ _ _ _; first | refine LC.pure (rpk hp) ?_ | (apply LC.upd (kr _ b hb); (repeat first | refine goH ?_ | apply LH.here | apply LH.next); refine ⟨rfl, ?_⟩) | (apply LC.upd (jr _ _); (repeat first | refine goH ?_ | apply LH.here | apply LH.next); refine ⟨rfl, ?_⟩) | (apply LC.upd (jB _ _); (repeat first | refine goH ?_ | apply LH.here | apply LH.next); refine ⟨rfl, ?_⟩) | (apply LC.upd (jA _ _); (repeat first | refine goH ?_ | apply LH.here | apply LH.next); refine ⟨rfl, ?_⟩) | refine LC.pure (xw _ _) ?_ | refine goE ?_) | refine T.s ?_ | ((first | apply goB | apply AB.dec | apply AB.gen) <;> intro h <;> try (exfalso; omega)) | refine LQ.mk fun r => ?_ | exact T.z | fail) <;> conv => whnf)
   all_goals (try dsimp only)
   all_goals (show RL _ _ _; refine goR ?_)
   all_goals (first | rewrite [ks (by assumption)] | rewrite [kt (by assumption)] | skip)
   all_goals first
     | rfl
     | (exact congrArg de (zM (by assumption)).symm)
     | (exact congrArg de (z5 (by assumption) (by assumption)).symm)
     | (exact congrArg de (zb (by assumption) (by assumption)).symm)
     | (exact congrArg de (zV (by assumption) (by assumption) (by assumption)).symm)
     | (exfalso; simp_all; done)
     | trace_state
theorem rdec6_c (b : List UInt8) (hb : b.length ≤ 140737488355328) (k : Int) (ck : Bool) (c : Int) (X : Rdr) (hp : ql b = (c, 6, 0)) (hc : (0 < c ∧ X = rtk 1 (rdr b hb)) ∨ (¬ 0 < c ∧ X = rdr b hb)) : LP Tryz.prog G 28 [bv b, iAV k, .bool ck] [] (fun _ => (de (xW (rtk 1 X) (s0 c 6) b), [])):= by
 have hle0 := qC (rtk 1 X)
 rcases hc with ⟨hc, rfl⟩ | ⟨hc, rfl⟩
 all_goals
   refine goW [51] Tryz.func28 rfl ?_
   conv => whnf
   repeat' ((first | (rw [qi (X := rtk 1 (rtk 1 (rdr b hb))) (by assumption)]; conv => whnf) | (rw [qi (X := rtk 1 (rdr b hb)) (by assumption)]; conv => whnf) | (show LC _ _ _ _ _ _; first | refine LC.pure (rpk hp) ?_ | (apply LC.upd (kr _ b hb); (repeat first | refine goH ?_ | apply LH.here | apply LH.next); refine ⟨rfl, ?_⟩) | (apply LC.upd (jr _ _); (repeat first | refine goH ?_ | apply LH.here | apply LH.next); refine ⟨rfl, ?_⟩) | (apply LC.upd (jB _ _); (repeat first | refine goH ?_ | apply LH.here | apply LH.next); refine ⟨rfl, ?_⟩) | (apply LC.upd (jA _ _); (repeat first | refine goH ?_ | apply LH.here | apply LH.next); refine ⟨rfl, ?_⟩) | refine LC.pure (qh (wpl (s0 c 6) (rtk 1 (rtk 1 (rdr b hb))))) ?_ | refine LC.pure (qh (wpl (s0 c 6) (rtk 1 (rdr b hb)))) ?_ | refine LC.pure (xw _ _) ?_ | refine goE ?_) | refine T.s ?_ | ((first | apply goB | apply AB.dec | apply AB.gen) <;> intro h <;> try (exfalso; omega)) | refine LQ.mk fun r => ?_ | (show CutL _ _ _ _ _ _ _ _; first | refine CutL.halt tQ [51] 51 (by rfl) ?_ | refine CutL.go tQ [51] ?_) | (show Halt _ _ _ _ _; apply Halt.frz 67; (first | (apply LH.here; refine And.intro (by rfl) ?_) | (apply LH.next; apply LH.here; refine And.intro (by rfl) ?_) | (apply LH.next; apply LH.next; apply LH.here; refine And.intro (by rfl) ?_)); refine And.intro ?_ ?_; (focus (repeat first | exact LFs.nil | apply LFs.cons | exact LF.rowF InL.here (by (repeat first | refine goH ?_ | apply LH.here | apply LH.next); exact ⟨rfl, rfl⟩) | exact LF.eq rfl))) | exact T.z | fail) <;> conv => whnf)
   all_goals (try dsimp only)
   all_goals (show RL _ _ _; refine goR ?_)
   all_goals first
     | (exact congrArg de (zM (by assumption)).symm)
     | (exact congrArg de (z5 (by assumption) (by assumption)).symm)
     | (exact congrArg de (zb (by assumption) (by assumption)).symm)
     | (exact congrArg de (zV (by assumption) (by assumption) (by assumption)).symm)
     | (exfalso; simp_all; done)
     | trace_state
end Go.Proofs.YtkfpgdckdmlhkaaGreatDoor
