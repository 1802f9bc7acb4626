/-
  Contracts of the functions that the laws reach.
-/
import Derived.Test.YtkfpgdckdmlhkaaGreatDoorDq01
import Derived.Test.YtkfpgdckdmlhkaaGreatDoorDq02
import Derived.Test.YtkfpgdckdmlhkaaGreatDoorDq03
import Derived.Test.YtkfpgdckdmlhkaaGreatDoorDq04
import Derived.Test.YtkfpgdckdmlhkaaGreatDoorDq05
import Derived.Test.YtkfpgdckdmlhkaaGreatDoorDq07
import Derived.Test.YtkfpgdckdmlhkaaGreatDoorDq08
set_option maxHeartbeats 4000000
set_option linter.all false
namespace Go.Proofs.YtkfpgdckdmlhkaaGreatDoor
open Go.RowKit
variable {G : Nat → AV}
theorem fdec1_c (b : List UInt8) (hb : b.length ≤ 140737488355328) (k : Int) (ck : Bool) (c : Int) (X : Rdr) (hp : ql b = (c, 1, 0)) (hk : k = 1 ∨ k = 2) (hc : (0 < c ∧ X = rtk 1 (rdr b hb)) ∨ (¬ 0 < c ∧ X = rdr b hb)) : LP Tryz.prog G 62 [bv b, iAV k, .bool ck] [] (fun _ => (de (jq ck (xr X) (lw1 X k (s0 c 1)) b), [])):= by
 rcases hc with ⟨hc, rfl⟩ | ⟨hc, rfl⟩ <;> cases ck
 all_goals
   refine goW [] Tryz.func62 rfl ?_
   conv => whnf
   repeat' ((first | (rw [qi (X := xr (rtk 1 (rdr b hb))) (by assumption)]; conv => whnf) | (rw [qi (X := rtk 2 (xr (rtk 1 (rdr b hb)))) (by assumption)]; conv => whnf) | (rw [qi (X := xr (rdr b hb)) (by assumption)]; conv => whnf) | (rw [qi (X := rtk 2 (xr (rdr b hb))) (by assumption)]; conv => whnf) | (show LC _ _ _ _ _ _; first | refine LC.pure (fpk hp) ?_ | (apply LC.upd (jU _ b hb); (repeat first | refine goH ?_ | apply LH.here | apply LH.next); refine ⟨rfl, ?_⟩) | (apply LC.upd (zZ _ _); (repeat first | refine goH ?_ | apply LH.here | apply LH.next); refine ⟨rfl, ?_⟩) | (apply LC.upd (xi _ _); (repeat first | refine goH ?_ | apply LH.here | apply LH.next); refine ⟨rfl, ?_⟩) | (apply LC.upd (xh _ _); (repeat first | refine goH ?_ | apply LH.here | apply LH.next); refine ⟨rfl, ?_⟩) | (refine LC.two (fun hne => flow1_c _ _ (rtk 1 (rdr b hb)) _ rfl k (s0 c 1) hne rfl) ?_; (repeat first | refine goH ?_ | apply LH.here | apply LH.next); refine ⟨rfl, ?_⟩; (repeat first | refine goH ?_ | apply LH.here | apply LH.next); refine ⟨rfl, ?_⟩) | (refine LC.two (fun hne => flow1_c _ _ (rdr b hb) _ (wW b hb).symm k (s0 c 1) hne rfl) ?_; (repeat first | refine goH ?_ | apply LH.here | apply LH.next); refine ⟨rfl, ?_⟩; (repeat first | refine goH ?_ | apply LH.here | apply LH.next); refine ⟨rfl, ?_⟩) | refine LC.pure (qr (rL (xr (rtk 1 (rdr b hb)))) (qC _)) ?_ | refine LC.pure (qm (wpl (lw1 (rtk 1 (rdr b hb)) k (s0 c 1)) (xr (rtk 1 (rdr b hb))))) ?_ | refine LC.pure (qr (rL (rtk 2 (xr (rtk 1 (rdr b hb))))) (qC _)) ?_ | refine LC.pure (qm (wpl (wud (lw1 (rtk 1 (rdr b hb)) k (s0 c 1)) (rv 2 (xr (rtk 1 (rdr b hb))))) (rtk 2 (xr (rtk 1 (rdr b hb)))))) ?_ | refine LC.pure (qr (rL (xr (rdr b hb))) (qC _)) ?_ | refine LC.pure (qm (wpl (lw1 (rdr b hb) k (s0 c 1)) (xr (rdr b hb)))) ?_ | refine LC.pure (qr (rL (rtk 2 (xr (rdr b hb)))) (qC _)) ?_ | refine LC.pure (qm (wpl (wud (lw1 (rdr b hb) k (s0 c 1)) (rv 2 (xr (rdr b hb)))) (rtk 2 (xr (rdr b hb))))) ?_ | refine LC.pure (zN _ _) ?_ | refine goE ?_) | refine T.s ?_ | ((first | apply goB | apply AB.dec | apply AB.gen) <;> intro h <;> try (exfalso; omega)) | refine LQ.mk fun r => ?_ | exact T.z | fail) <;> conv => whnf)
   all_goals (try dsimp only)
   all_goals (show RL _ _ _; refine goR ?_)
   all_goals first
     | (exact congrArg de (zM (by assumption)).symm)
     | (exact congrArg de (z5 (by assumption) (by assumption)).symm)
     | (exact congrArg de (zb (by assumption) (by assumption)).symm)
     | (exact congrArg de (zV (by assumption) (by assumption) (by assumption)).symm)
     | (exfalso; simp_all; done)
     | trace_state
theorem fdec2T_c (b : List UInt8) (hb : b.length ≤ 140737488355328) (ck : Bool) (c : Int) (X : Rdr) (hp : ql b = (c, 2, 0)) (hc : (0 < c ∧ X = rtk 1 (rdr b hb)) ∨ (¬ 0 < c ∧ X = rdr b hb)) : LP Tryz.prog G 62 [bv b, iAV 2, .bool ck] [] (fun _ => (de (jq ck (zf X) (yn X 2 (s0 c 2)) b), [])):= by
 rcases hc with ⟨hc, rfl⟩ | ⟨hc, rfl⟩ <;> cases ck
 all_goals
   refine goW [] Tryz.func62 rfl ?_
   conv => whnf
   repeat' ((first | (rw [qi (X := zf (rtk 1 (rdr b hb))) (by assumption)]; conv => whnf) | (rw [qi (X := rtk 2 (zf (rtk 1 (rdr b hb)))) (by assumption)]; conv => whnf) | (rw [qi (X := zf (rdr b hb)) (by assumption)]; conv => whnf) | (rw [qi (X := rtk 2 (zf (rdr b hb))) (by assumption)]; conv => whnf) | (show LC _ _ _ _ _ _; first | refine LC.pure (fpk hp) ?_ | (apply LC.upd (jU _ b hb); (repeat first | refine goH ?_ | apply LH.here | apply LH.next); refine ⟨rfl, ?_⟩) | (apply LC.upd (zZ _ _); (repeat first | refine goH ?_ | apply LH.here | apply LH.next); refine ⟨rfl, ?_⟩) | (apply LC.upd (xi _ _); (repeat first | refine goH ?_ | apply LH.here | apply LH.next); refine ⟨rfl, ?_⟩) | (apply LC.upd (xh _ _); (repeat first | refine goH ?_ | apply LH.here | apply LH.next); refine ⟨rfl, ?_⟩) | (refine LC.two (fun hne => flow2T_c _ _ (rtk 1 (rdr b hb)) _ rfl 2 (s0 c 2) hne rfl rfl) ?_; (repeat first | refine goH ?_ | apply LH.here | apply LH.next); refine ⟨rfl, ?_⟩; (repeat first | refine goH ?_ | apply LH.here | apply LH.next); refine ⟨rfl, ?_⟩) | (refine LC.two (fun hne => flow2T_c _ _ (rdr b hb) _ (wW b hb).symm 2 (s0 c 2) hne rfl rfl) ?_; (repeat first | refine goH ?_ | apply LH.here | apply LH.next); refine ⟨rfl, ?_⟩; (repeat first | refine goH ?_ | apply LH.here | apply LH.next); refine ⟨rfl, ?_⟩) | refine LC.pure (qr (rL (zf (rtk 1 (rdr b hb)))) (qC _)) ?_ | refine LC.pure (qm (wpl (yn (rtk 1 (rdr b hb)) 2 (s0 c 2)) (zf (rtk 1 (rdr b hb))))) ?_ | refine LC.pure (qr (rL (rtk 2 (zf (rtk 1 (rdr b hb))))) (qC _)) ?_ | refine LC.pure (qm (wpl (wud (yn (rtk 1 (rdr b hb)) 2 (s0 c 2)) (rv 2 (zf (rtk 1 (rdr b hb))))) (rtk 2 (zf (rtk 1 (rdr b hb)))))) ?_ | refine LC.pure (qr (rL (zf (rdr b hb))) (qC _)) ?_ | refine LC.pure (qm (wpl (yn (rdr b hb) 2 (s0 c 2)) (zf (rdr b hb)))) ?_ | refine LC.pure (qr (rL (rtk 2 (zf (rdr b hb)))) (qC _)) ?_ | refine LC.pure (qm (wpl (wud (yn (rdr b hb) 2 (s0 c 2)) (rv 2 (zf (rdr b hb)))) (rtk 2 (zf (rdr b hb))))) ?_ | refine LC.pure (zN _ _) ?_ | refine goE ?_) | refine T.s ?_ | ((first | apply goB | apply AB.dec | apply AB.gen) <;> intro h <;> try (exfalso; omega)) | refine LQ.mk fun r => ?_ | exact T.z | fail) <;> conv => whnf)
   all_goals (try dsimp only)
   all_goals (show RL _ _ _; refine goR ?_)
   all_goals first
     | (exact congrArg de (zM (by assumption)).symm)
     | (exact congrArg de (z5 (by assumption) (by assumption)).symm)
     | (exact congrArg de (zb (by assumption) (by assumption)).symm)
     | (exact congrArg de (zV (by assumption) (by assumption) (by assumption)).symm)
     | (exfalso; simp_all; done)
     | trace_state
theorem fdec2U_c (b : List UInt8) (hb : b.length ≤ 140737488355328) (ck : Bool) (c : Int) (X : Rdr) (hp : ql b = (c, 2, 0)) (hc : (0 < c ∧ X = rtk 1 (rdr b hb)) ∨ (¬ 0 < c ∧ X = rdr b hb)) : LP Tryz.prog G 62 [bv b, iAV 1, .bool ck] [] (fun _ => (de (jq ck (ze X) (ym X 1 (s0 c 2)) b), [])):= by
 rcases hc with ⟨hc, rfl⟩ | ⟨hc, rfl⟩ <;> cases ck
 all_goals
   refine goW [] Tryz.func62 rfl ?_
   conv => whnf
   repeat' ((first | (rw [qi (X := ze (rtk 1 (rdr b hb))) (by assumption)]; conv => whnf) | (rw [qi (X := rtk 2 (ze (rtk 1 (rdr b hb)))) (by assumption)]; conv => whnf) | (rw [qi (X := ze (rdr b hb)) (by assumption)]; conv => whnf) | (rw [qi (X := rtk 2 (ze (rdr b hb))) (by assumption)]; conv => whnf) | (show LC _ _ _ _ _ _; first | refine LC.pure (fpk hp) ?_ | (apply LC.upd (jU _ b hb); (repeat first | refine goH ?_ | apply LH.here | apply LH.next); refine ⟨rfl, ?_⟩) | (apply LC.upd (zZ _ _); (repeat first | refine goH ?_ | apply LH.here | apply LH.next); refine ⟨rfl, ?_⟩) | (apply LC.upd (xi _ _); (repeat first | refine goH ?_ | apply LH.here | apply LH.next); refine ⟨rfl, ?_⟩) | (apply LC.upd (xh _ _); (repeat first | refine goH ?_ | apply LH.here | apply LH.next); refine ⟨rfl, ?_⟩) | (refine LC.two (fun hne => flow2U_c _ _ (rtk 1 (rdr b hb)) _ rfl 1 (s0 c 2) hne rfl (by decide)) ?_; (repeat first | refine goH ?_ | apply LH.here | apply LH.next); refine ⟨rfl, ?_⟩; (repeat first | refine goH ?_ | apply LH.here | apply LH.next); refine ⟨rfl, ?_⟩) | (refine LC.two (fun hne => flow2U_c _ _ (rdr b hb) _ (wW b hb).symm 1 (s0 c 2) hne rfl (by decide)) ?_; (repeat first | refine goH ?_ | apply LH.here | apply LH.next); refine ⟨rfl, ?_⟩; (repeat first | refine goH ?_ | apply LH.here | apply LH.next); refine ⟨rfl, ?_⟩) | refine LC.pure (qr (rL (ze (rtk 1 (rdr b hb)))) (qC _)) ?_ | refine LC.pure (qm (wpl (ym (rtk 1 (rdr b hb)) 1 (s0 c 2)) (ze (rtk 1 (rdr b hb))))) ?_ | refine LC.pure (qr (rL (rtk 2 (ze (rtk 1 (rdr b hb))))) (qC _)) ?_ | refine LC.pure (qm (wpl (wud (ym (rtk 1 (rdr b hb)) 1 (s0 c 2)) (rv 2 (ze (rtk 1 (rdr b hb))))) (rtk 2 (ze (rtk 1 (rdr b hb)))))) ?_ | refine LC.pure (qr (rL (ze (rdr b hb))) (qC _)) ?_ | refine LC.pure (qm (wpl (ym (rdr b hb) 1 (s0 c 2)) (ze (rdr b hb)))) ?_ | refine LC.pure (qr (rL (rtk 2 (ze (rdr b hb)))) (qC _)) ?_ | refine LC.pure (qm (wpl (wud (ym (rdr b hb) 1 (s0 c 2)) (rv 2 (ze (rdr b hb)))) (rtk 2 (ze (rdr b hb))))) ?_ | refine LC.pure (zN _ _) ?_ | refine goE ?_) | refine T.s ?_ | ((first | apply goB | apply AB.dec | apply AB.gen) <;> intro h <;> try (exfalso; omega)) | refine LQ.mk fun r => ?_ | exact T.z | fail) <;> conv => whnf)
   all_goals (try dsimp only)
   all_goals (show RL _ _ _; refine goR ?_)
   all_goals first
     | (exact congrArg de (zM (by assumption)).symm)
     | (exact congrArg de (z5 (by assumption) (by assumption)).symm)
     | (exact congrArg de (zb (by assumption) (by assumption)).symm)
     | (exact congrArg de (zV (by assumption) (by assumption) (by assumption)).symm)
     | (exfalso; simp_all; done)
     | trace_state
theorem fdec3T_c (b : List UInt8) (hb : b.length ≤ 140737488355328) (ck : Bool) (c : Int) (X : Rdr) (hp : ql b = (c, 3, 0)) (hc : (0 < c ∧ X = rtk 1 (rdr b hb)) ∨ (¬ 0 < c ∧ X = rdr b hb)) : LP Tryz.prog G 62 [bv b, iAV 2, .bool ck] [] (fun _ => (de (jq ck (zd X) (yl X 2 (s0 c 3)) b), [])):= by
 rcases hc with ⟨hc, rfl⟩ | ⟨hc, rfl⟩ <;> cases ck
 all_goals
   refine goW [] Tryz.func62 rfl ?_
   conv => whnf
   repeat' ((first | (rw [qi (X := zd (rtk 1 (rdr b hb))) (by assumption)]; conv => whnf) | (rw [qi (X := rtk 2 (zd (rtk 1 (rdr b hb)))) (by assumption)]; conv => whnf) | (rw [qi (X := zd (rdr b hb)) (by assumption)]; conv => whnf) | (rw [qi (X := rtk 2 (zd (rdr b hb))) (by assumption)]; conv => whnf) | (show LC _ _ _ _ _ _; first | refine LC.pure (fpk hp) ?_ | (apply LC.upd (jU _ b hb); (repeat first | refine goH ?_ | apply LH.here | apply LH.next); refine ⟨rfl, ?_⟩) | (apply LC.upd (zZ _ _); (repeat first | refine goH ?_ | apply LH.here | apply LH.next); refine ⟨rfl, ?_⟩) | (apply LC.upd (xi _ _); (repeat first | refine goH ?_ | apply LH.here | apply LH.next); refine ⟨rfl, ?_⟩) | (apply LC.upd (xh _ _); (repeat first | refine goH ?_ | apply LH.here | apply LH.next); refine ⟨rfl, ?_⟩) | (refine LC.two (fun hne => flow3T_c _ _ (rtk 1 (rdr b hb)) _ rfl 2 (s0 c 3) hne rfl rfl) ?_; (repeat first | refine goH ?_ | apply LH.here | apply LH.next); refine ⟨rfl, ?_⟩; (repeat first | refine goH ?_ | apply LH.here | apply LH.next); refine ⟨rfl, ?_⟩) | (refine LC.two (fun hne => flow3T_c _ _ (rdr b hb) _ (wW b hb).symm 2 (s0 c 3) hne rfl rfl) ?_; (repeat first | refine goH ?_ | apply LH.here | apply LH.next); refine ⟨rfl, ?_⟩; (repeat first | refine goH ?_ | apply LH.here | apply LH.next); refine ⟨rfl, ?_⟩) | refine LC.pure (qr (rL (zd (rtk 1 (rdr b hb)))) (qC _)) ?_ | refine LC.pure (qm (wpl (yl (rtk 1 (rdr b hb)) 2 (s0 c 3)) (zd (rtk 1 (rdr b hb))))) ?_ | refine LC.pure (qr (rL (rtk 2 (zd (rtk 1 (rdr b hb))))) (qC _)) ?_ | refine LC.pure (qm (wpl (wud (yl (rtk 1 (rdr b hb)) 2 (s0 c 3)) (rv 2 (zd (rtk 1 (rdr b hb))))) (rtk 2 (zd (rtk 1 (rdr b hb)))))) ?_ | refine LC.pure (qr (rL (zd (rdr b hb))) (qC _)) ?_ | refine LC.pure (qm (wpl (yl (rdr b hb) 2 (s0 c 3)) (zd (rdr b hb)))) ?_ | refine LC.pure (qr (rL (rtk 2 (zd (rdr b hb)))) (qC _)) ?_ | refine LC.pure (qm (wpl (wud (yl (rdr b hb) 2 (s0 c 3)) (rv 2 (zd (rdr b hb)))) (rtk 2 (zd (rdr b hb))))) ?_ | refine LC.pure (zN _ _) ?_ | refine goE ?_) | refine T.s ?_ | ((first | apply goB | apply AB.dec | apply AB.gen) <;> intro h <;> try (exfalso; omega)) | refine LQ.mk fun r => ?_ | exact T.z | fail) <;> conv => whnf)
   all_goals (try dsimp only)
   all_goals (show RL _ _ _; refine goR ?_)
   all_goals first
     | (exact congrArg de (zM (by assumption)).symm)
     | (exact congrArg de (z5 (by assumption) (by assumption)).symm)
     | (exact congrArg de (zb (by assumption) (by assumption)).symm)
     | (exact congrArg de (zV (by assumption) (by assumption) (by assumption)).symm)
     | (exfalso; simp_all; done)
     | trace_state
theorem fdec3U_c (b : List UInt8) (hb : b.length ≤ 140737488355328) (ck : Bool) (c : Int) (X : Rdr) (hp : ql b = (c, 3, 0)) (hc : (0 < c ∧ X = rtk 1 (rdr b hb)) ∨ (¬ 0 < c ∧ X = rdr b hb)) : LP Tryz.prog G 62 [bv b, iAV 1, .bool ck] [] (fun _ => (de (jq ck (zc X) (yk X 1 (s0 c 3)) b), [])):= by
 rcases hc with ⟨hc, rfl⟩ | ⟨hc, rfl⟩ <;> cases ck
 all_goals
   refine goW [] Tryz.func62 rfl ?_
   conv => whnf
   repeat' ((first | (rw [qi (X := zc (rtk 1 (rdr b hb))) (by assumption)]; conv => whnf) | (rw [qi (X := rtk 2 (zc (rtk 1 (rdr b hb)))) (by assumption)]; conv => whnf) | (rw [qi (X := zc (rdr b hb)) (by assumption)]; conv => whnf) | (rw [qi (X := rtk 2 (zc (rdr b hb))) (by assumption)]; conv => whnf) | (show LC _ _ _ _ _ _; first | refine LC.pure (fpk hp) ?_ | (apply LC.upd (jU _ b hb); (repeat first | refine goH ?_ | apply LH.here | apply LH.next); refine ⟨rfl, ?_⟩) | (apply LC.upd (zZ _ _); (repeat first | refine goH ?_ | apply LH.here | apply LH.next); refine ⟨rfl, ?_⟩) | (apply LC.upd (xi _ _); (repeat first | refine goH ?_ | apply LH.here | apply LH.next); refine ⟨rfl, ?_⟩) | (apply LC.upd (xh _ _); (repeat first | refine goH ?_ | apply LH.here | apply LH.next); refine ⟨rfl, ?_⟩) | (refine LC.two (fun hne => flow3U_c _ _ (rtk 1 (rdr b hb)) _ rfl 1 (s0 c 3) hne rfl (by decide)) ?_; (repeat first | refine goH ?_ | apply LH.here | apply LH.next); refine ⟨rfl, ?_⟩; (repeat first | refine goH ?_ | apply LH.here | apply LH.next); refine ⟨rfl, ?_⟩) | (refine LC.two (fun hne => flow3U_c _ _ (rdr b hb) _ (wW b hb).symm 1 (s0 c 3) hne rfl (by decide)) ?_; (repeat first | refine goH ?_ | apply LH.here | apply LH.next); refine ⟨rfl, ?_⟩; (repeat first | refine goH ?_ | apply LH.here | apply LH.next); refine ⟨rfl, ?_⟩) | refine LC.pure (qr (rL (zc (rtk 1 (rdr b hb)))) (qC _)) ?_ | refine LC.pure (qm (wpl (yk (rtk 1 (rdr b hb)) 1 (s0 c 3)) (zc (rtk 1 (rdr b hb))))) ?_ | refine LC.pure (qr (rL (rtk 2 (zc (rtk 1 (rdr b hb))))) (qC _)) ?_ | refine LC.pure (qm (wpl (wud (yk (rtk 1 (rdr b hb)) 1 (s0 c 3)) (rv 2 (zc (rtk 1 (rdr b hb))))) (rtk 2 (zc (rtk 1 (rdr b hb)))))) ?_ | refine LC.pure (qr (rL (zc (rdr b hb))) (qC _)) ?_ | refine LC.pure (qm (wpl (yk (rdr b hb) 1 (s0 c 3)) (zc (rdr b hb)))) ?_ | refine LC.pure (qr (rL (rtk 2 (zc (rdr b hb)))) (qC _)) ?_ | refine LC.pure (qm (wpl (wud (yk (rdr b hb) 1 (s0 c 3)) (rv 2 (zc (rdr b hb)))) (rtk 2 (zc (rdr b hb))))) ?_ | refine LC.pure (zN _ _) ?_ | refine goE ?_) | refine T.s ?_ | ((first | apply goB | apply AB.dec | apply AB.gen) <;> intro h <;> try (exfalso; omega)) | refine LQ.mk fun r => ?_ | exact T.z | fail) <;> conv => whnf)
   all_goals (try dsimp only)
   all_goals (show RL _ _ _; refine goR ?_)
   all_goals first
     | (exact congrArg de (zM (by assumption)).symm)
     | (exact congrArg de (z5 (by assumption) (by assumption)).symm)
     | (exact congrArg de (zb (by assumption) (by assumption)).symm)
     | (exact congrArg de (zV (by assumption) (by assumption) (by assumption)).symm)
     | (exfalso; simp_all; done)
     | trace_state
end Go.Proofs.YtkfpgdckdmlhkaaGreatDoor
