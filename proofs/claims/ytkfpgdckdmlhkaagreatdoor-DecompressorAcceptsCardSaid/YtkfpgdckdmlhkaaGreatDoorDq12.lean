/-
  Contracts of the functions that the laws reach.
-/
import Derived.Test.YtkfpgdckdmlhkaaGreatDoorDq01
import Derived.Test.YtkfpgdckdmlhkaaGreatDoorDq02
import Derived.Test.YtkfpgdckdmlhkaaGreatDoorDq03
import Derived.Test.YtkfpgdckdmlhkaaGreatDoorDq04
import Derived.Test.YtkfpgdckdmlhkaaGreatDoorDq05
import Derived.Test.YtkfpgdckdmlhkaaGreatDoorDq06
import Derived.Test.YtkfpgdckdmlhkaaGreatDoorDq07
import Derived.Test.YtkfpgdckdmlhkaaGreatDoorDq08
import Derived.Test.YtkfpgdckdmlhkaaGreatDoorDq10
import Derived.Test.YtkfpgdckdmlhkaaGreatDoorDq11
set_option maxHeartbeats 4000000
set_option linter.all false
namespace Go.Proofs.YtkfpgdckdmlhkaaGreatDoor
open Go.RowKit
variable {G : Nat → AV}
theorem rdec1_c (b : List UInt8) (hb : b.length ≤ 140737488355328) (k : Int) (ck : Bool) (c : Int) (X : Rdr) (hp : ql b = (c, 1, 0)) (hk : k = 1 ∨ k = 2) (hc : (0 < c ∧ X = rtk 1 (rdr b hb)) ∨ (¬ 0 < c ∧ X = rdr b hb)) : LP Tryz.prog G 28 [bv b, iAV k, .bool ck] [] (fun _ => (de (zi ck (xr X) (lw1 X k (s0 c 1)) b), [])):= by
 have hle0 := qC (xr X)
 have hle1 := qC (rtk 2 (xr X))
 rcases hc with ⟨hc, rfl⟩ | ⟨hc, rfl⟩ <;> cases ck
 all_goals
   refine goW [51] Tryz.func28 rfl ?_
   conv => whnf
   repeat' ((first | (rw [qi (X := xr (rtk 1 (rdr b hb))) (by assumption)]; conv => whnf) | (rw [qi (X := rtk 2 (xr (rtk 1 (rdr b hb)))) (by assumption)]; conv => whnf) | (rw [qi (X := xr (rdr b hb)) (by assumption)]; conv => whnf) | (rw [qi (X := rtk 2 (xr (rdr b hb))) (by assumption)]; conv => whnf) | (show LC _ _ _ _ _ _; first | refine LC.pure (rpk hp) ?_ | (apply LC.upd (kr _ b hb); (repeat first | refine goH ?_ | apply LH.here | apply LH.next); refine ⟨rfl, ?_⟩) | (apply LC.upd (jr _ _); (repeat first | refine goH ?_ | apply LH.here | apply LH.next); refine ⟨rfl, ?_⟩) | (apply LC.upd (jB _ _); (repeat first | refine goH ?_ | apply LH.here | apply LH.next); refine ⟨rfl, ?_⟩) | (apply LC.upd (jA _ _); (repeat first | refine goH ?_ | apply LH.here | apply LH.next); refine ⟨rfl, ?_⟩) | refine LC.pure (qh (wpl (lw1 (rtk 1 (rdr b hb)) k (s0 c 1)) (xr (rtk 1 (rdr b hb))))) ?_ | refine LC.pure (qh (wpl (wud (lw1 (rtk 1 (rdr b hb)) k (s0 c 1)) (rv 2 (xr (rtk 1 (rdr b hb))))) (rtk 2 (xr (rtk 1 (rdr b hb)))))) ?_ | refine LC.pure (qh (wpl (lw1 (rdr b hb) k (s0 c 1)) (xr (rdr b hb)))) ?_ | refine LC.pure (qh (wpl (wud (lw1 (rdr b hb) k (s0 c 1)) (rv 2 (xr (rdr b hb)))) (rtk 2 (xr (rdr b hb))))) ?_ | refine LC.pure (xw _ _) ?_ | refine goE ?_) | refine T.s ?_ | ((first | apply goB | apply AB.dec | apply AB.gen) <;> intro h <;> try (exfalso; omega)) | refine LQ.mk fun r => ?_ | (show CutL _ _ _ _ _ _ _ _; first | refine CutL.halt tQ [51] 51 (by rfl) ?_ | refine CutL.go tQ [51] ?_) | (show Halt _ _ _ _ _; apply Halt.frz 67; (first | (apply LH.here; refine And.intro (by rfl) ?_) | (apply LH.next; apply LH.here; refine And.intro (by rfl) ?_) | (apply LH.next; apply LH.next; apply LH.here; refine And.intro (by rfl) ?_)); refine And.intro ?_ ?_; (focus (repeat first | exact LFs.nil | apply LFs.cons | exact LF.rowF InL.here (by (repeat first | refine goH ?_ | apply LH.here | apply LH.next); exact ⟨rfl, rfl⟩) | exact LF.eq rfl))) | exact T.z | fail) <;> conv => whnf)
   all_goals (try dsimp only)
   all_goals (show RL _ _ _; refine goR ?_)
   all_goals (first | rewrite [w6 (by assumption) (by assumption)] | skip)
   all_goals first
     | (exact congrArg de (w7 (by assumption)).symm)
     | (exact congrArg de (w8 (by assumption) (by assumption)).symm)
     | (exact congrArg de (zM (by assumption)).symm)
     | (exact congrArg de (z5 (by assumption) (by assumption)).symm)
     | (exact congrArg de (zb (by assumption) (by assumption)).symm)
     | (exact congrArg de (zV (by assumption) (by assumption) (by assumption)).symm)
     | (exfalso; simp_all; done)
     | trace_state
theorem rdec2T_c (b : List UInt8) (hb : b.length ≤ 140737488355328) (ck : Bool) (c : Int) (X : Rdr) (hp : ql b = (c, 2, 0)) (hc : (0 < c ∧ X = rtk 1 (rdr b hb)) ∨ (¬ 0 < c ∧ X = rdr b hb)) : LP Tryz.prog G 28 [bv b, iAV 2, .bool ck] [] (fun _ => (de (zi ck (zf X) (yn X 2 (s0 c 2)) b), [])):= by
 have hle0 := qC (zf X)
 have hle1 := qC (rtk 2 (zf X))
 rcases hc with ⟨hc, rfl⟩ | ⟨hc, rfl⟩ <;> cases ck
 all_goals
   refine goW [51] Tryz.func28 rfl ?_
   conv => whnf
   repeat' ((first | (rw [qi (X := zf (rtk 1 (rdr b hb))) (by assumption)]; conv => whnf) | (rw [qi (X := rtk 2 (zf (rtk 1 (rdr b hb)))) (by assumption)]; conv => whnf) | (rw [qi (X := zf (rdr b hb)) (by assumption)]; conv => whnf) | (rw [qi (X := rtk 2 (zf (rdr b hb))) (by assumption)]; conv => whnf) | (show LC _ _ _ _ _ _; first | refine LC.pure (rpk hp) ?_ | (apply LC.upd (kr _ b hb); (repeat first | refine goH ?_ | apply LH.here | apply LH.next); refine ⟨rfl, ?_⟩) | (apply LC.upd (jr _ _); (repeat first | refine goH ?_ | apply LH.here | apply LH.next); refine ⟨rfl, ?_⟩) | (apply LC.upd (jB _ _); (repeat first | refine goH ?_ | apply LH.here | apply LH.next); refine ⟨rfl, ?_⟩) | (apply LC.upd (jA _ _); (repeat first | refine goH ?_ | apply LH.here | apply LH.next); refine ⟨rfl, ?_⟩) | refine LC.pure (qh (wpl (yn (rtk 1 (rdr b hb)) 2 (s0 c 2)) (zf (rtk 1 (rdr b hb))))) ?_ | refine LC.pure (qh (wpl (wud (yn (rtk 1 (rdr b hb)) 2 (s0 c 2)) (rv 2 (zf (rtk 1 (rdr b hb))))) (rtk 2 (zf (rtk 1 (rdr b hb)))))) ?_ | refine LC.pure (qh (wpl (yn (rdr b hb) 2 (s0 c 2)) (zf (rdr b hb)))) ?_ | refine LC.pure (qh (wpl (wud (yn (rdr b hb) 2 (s0 c 2)) (rv 2 (zf (rdr b hb)))) (rtk 2 (zf (rdr b hb))))) ?_ | refine LC.pure (xw _ _) ?_ | refine goE ?_) | refine T.s ?_ | ((first | apply goB | apply AB.dec | apply AB.gen) <;> intro h <;> try (exfalso; omega)) | refine LQ.mk fun r => ?_ | (show CutL _ _ _ _ _ _ _ _; first | refine CutL.halt tQ [51] 51 (by rfl) ?_ | refine CutL.go tQ [51] ?_) | (show Halt _ _ _ _ _; apply Halt.frz 67; (first | (apply LH.here; refine And.intro (by rfl) ?_) | (apply LH.next; apply LH.here; refine And.intro (by rfl) ?_) | (apply LH.next; apply LH.next; apply LH.here; refine And.intro (by rfl) ?_)); refine And.intro ?_ ?_; (focus (repeat first | exact LFs.nil | apply LFs.cons | exact LF.rowF InL.here (by (repeat first | refine goH ?_ | apply LH.here | apply LH.next); exact ⟨rfl, rfl⟩) | exact LF.eq rfl))) | exact T.z | fail) <;> conv => whnf)
   all_goals (try dsimp only)
   all_goals (show RL _ _ _; refine goR ?_)
   all_goals (first | rewrite [w6 (by assumption) (by assumption)] | skip)
   all_goals first
     | (exact congrArg de (w7 (by assumption)).symm)
     | (exact congrArg de (w8 (by assumption) (by assumption)).symm)
     | (exact congrArg de (zM (by assumption)).symm)
     | (exact congrArg de (z5 (by assumption) (by assumption)).symm)
     | (exact congrArg de (zb (by assumption) (by assumption)).symm)
     | (exact congrArg de (zV (by assumption) (by assumption) (by assumption)).symm)
     | (exfalso; simp_all; done)
     | trace_state
theorem rdec2U_c (b : List UInt8) (hb : b.length ≤ 140737488355328) (ck : Bool) (c : Int) (X : Rdr) (hp : ql b = (c, 2, 0)) (hc : (0 < c ∧ X = rtk 1 (rdr b hb)) ∨ (¬ 0 < c ∧ X = rdr b hb)) : LP Tryz.prog G 28 [bv b, iAV 1, .bool ck] [] (fun _ => (de (zi ck (ze X) (ym X 1 (s0 c 2)) b), [])):= by
 have hle0 := qC (ze X)
 have hle1 := qC (rtk 2 (ze X))
 rcases hc with ⟨hc, rfl⟩ | ⟨hc, rfl⟩ <;> cases ck
 all_goals
   refine goW [51] Tryz.func28 rfl ?_
   conv => whnf
   repeat' ((first | (rw [qi (X := ze (rtk 1 (rdr b hb))) (by assumption)]; conv => whnf) | (rw [qi (X := rtk 2 (ze (rtk 1 (rdr b hb)))) (by assumption)]; conv => whnf) | (rw [qi (X := ze (rdr b hb)) (by assumption)]; conv => whnf) | (rw [qi (X := rtk 2 (ze (rdr b hb))) (by assumption)]; conv => whnf) | (show LC _ _ _ _ _ _; first | refine LC.pure (rpk hp) ?_ | (apply LC.upd (kr _ b hb); (repeat first | refine goH ?_ | apply LH.here | apply LH.next); refine ⟨rfl, ?_⟩) | (apply LC.upd (jr _ _); (repeat first | refine goH ?_ | apply LH.here | apply LH.next); refine ⟨rfl, ?_⟩) | (apply LC.upd (jB _ _); (repeat first | refine goH ?_ | apply LH.here | apply LH.next); refine ⟨rfl, ?_⟩) | (apply LC.upd (jA _ _); (repeat first | refine goH ?_ | apply LH.here | apply LH.next); refine ⟨rfl, ?_⟩) | refine LC.pure (qh (wpl (ym (rtk 1 (rdr b hb)) 1 (s0 c 2)) (ze (rtk 1 (rdr b hb))))) ?_ | refine LC.pure (qh (wpl (wud (ym (rtk 1 (rdr b hb)) 1 (s0 c 2)) (rv 2 (ze (rtk 1 (rdr b hb))))) (rtk 2 (ze (rtk 1 (rdr b hb)))))) ?_ | refine LC.pure (qh (wpl (ym (rdr b hb) 1 (s0 c 2)) (ze (rdr b hb)))) ?_ | refine LC.pure (qh (wpl (wud (ym (rdr b hb) 1 (s0 c 2)) (rv 2 (ze (rdr b hb)))) (rtk 2 (ze (rdr b hb))))) ?_ | refine LC.pure (xw _ _) ?_ | refine goE ?_) | refine T.s ?_ | ((first | apply goB | apply AB.dec | apply AB.gen) <;> intro h <;> try (exfalso; omega)) | refine LQ.mk fun r => ?_ | (show CutL _ _ _ _ _ _ _ _; first | refine CutL.halt tQ [51] 51 (by rfl) ?_ | refine CutL.go tQ [51] ?_) | (show Halt _ _ _ _ _; apply Halt.frz 67; (first | (apply LH.here; refine And.intro (by rfl) ?_) | (apply LH.next; apply LH.here; refine And.intro (by rfl) ?_) | (apply LH.next; apply LH.next; apply LH.here; refine And.intro (by rfl) ?_)); refine And.intro ?_ ?_; (focus (repeat first | exact LFs.nil | apply LFs.cons | exact LF.rowF InL.here (by (repeat first | refine goH ?_ | apply LH.here | apply LH.next); exact ⟨rfl, rfl⟩) | exact LF.eq rfl))) | exact T.z | fail) <;> conv => whnf)
   all_goals (try dsimp only)
   all_goals (show RL _ _ _; refine goR ?_)
   all_goals (first | rewrite [w6 (by assumption) (by assumption)] | skip)
   all_goals first
     | (exact congrArg de (w7 (by assumption)).symm)
     | (exact congrArg de (w8 (by assumption) (by assumption)).symm)
     | (exact congrArg de (zM (by assumption)).symm)
     | (exact congrArg de (z5 (by assumption) (by assumption)).symm)
     | (exact congrArg de (zb (by assumption) (by assumption)).symm)
     | (exact congrArg de (zV (by assumption) (by assumption) (by assumption)).symm)
     | (exfalso; simp_all; done)
     | trace_state
theorem rdec3T_c (b : List UInt8) (hb : b.length ≤ 140737488355328) (ck : Bool) (c : Int) (X : Rdr) (hp : ql b = (c, 3, 0)) (hc : (0 < c ∧ X = rtk 1 (rdr b hb)) ∨ (¬ 0 < c ∧ X = rdr b hb)) : LP Tryz.prog G 28 [bv b, iAV 2, .bool ck] [] (fun _ => (de (zi ck (zd X) (yl X 2 (s0 c 3)) b), [])):= by
 have hle0 := qC (zd X)
 have hle1 := qC (rtk 2 (zd X))
 rcases hc with ⟨hc, rfl⟩ | ⟨hc, rfl⟩ <;> cases ck
 all_goals
   refine goW [51] Tryz.func28 rfl ?_
   conv => whnf
   repeat' ((first | (rw [qi (X := zd (rtk 1 (rdr b hb))) (by assumption)]; conv => whnf) | (rw [qi (X := rtk 2 (zd (rtk 1 (rdr b hb)))) (by assumption)]; conv => whnf) | (rw [qi (X := zd (rdr b hb)) (by assumption)]; conv => whnf) | (rw [qi (X := rtk 2 (zd (rdr b hb))) (by assumption)]; conv => whnf) | (show LC _ _ _ _ _ _; first | refine LC.pure (rpk hp) ?_ | (apply LC.upd (kr _ b hb); (repeat first | refine goH ?_ | apply LH.here | apply LH.next); refine ⟨rfl, ?_⟩) | (apply LC.upd (jr _ _); (repeat first | refine goH ?_ | apply LH.here | apply LH.next); refine ⟨rfl, ?_⟩) | (apply LC.upd (jB _ _); (repeat first | refine goH ?_ | apply LH.here | apply LH.next); refine ⟨rfl, ?_⟩) | (apply LC.upd (jA _ _); (repeat first | refine goH ?_ | apply LH.here | apply LH.next); refine ⟨rfl, ?_⟩) | refine LC.pure (qh (wpl (yl (rtk 1 (rdr b hb)) 2 (s0 c 3)) (zd (rtk 1 (rdr b hb))))) ?_ | refine LC.pure (qh (wpl (wud (yl (rtk 1 (rdr b hb)) 2 (s0 c 3)) (rv 2 (zd (rtk 1 (rdr b hb))))) (rtk 2 (zd (rtk 1 (rdr b hb)))))) ?_ | refine LC.pure (qh (wpl (yl (rdr b hb) 2 (s0 c 3)) (zd (rdr b hb)))) ?_ | refine LC.pure (qh (wpl (wud (yl (rdr b hb) 2 (s0 c 3)) (rv 2 (zd (rdr b hb)))) (rtk 2 (zd (rdr b hb))))) ?_ | refine LC.pure (xw _ _) ?_ | refine goE ?_) | refine T.s ?_ | ((first | apply goB | apply AB.dec | apply AB.gen) <;> intro h <;> try (exfalso; omega)) | refine LQ.mk fun r => ?_ | (show CutL _ _ _ _ _ _ _ _; first | refine CutL.halt tQ [51] 51 (by rfl) ?_ | refine CutL.go tQ [51] ?_) | (show Halt _ _ _ _ _; apply Halt.frz 67; (first | (apply LH.here; refine And.intro (by rfl) ?_) | (apply LH.next; apply LH.here; refine And.intro (by rfl) ?_) | (apply LH.next; apply LH.next; apply LH.here; refine And.intro (by rfl) ?_)); refine And.intro ?_ ?_; (focus (repeat first | exact LFs.nil | apply LFs.cons | exact LF.rowF InL.here (by (repeat first | refine goH ?_ | apply LH.here | apply LH.next); exact ⟨rfl, rfl⟩) | exact LF.eq rfl))) | exact T.z | fail) <;> conv => whnf)
   all_goals (try dsimp only)
   all_goals (show RL _ _ _; refine goR ?_)
   all_goals (first | rewrite [w6 (by assumption) (by assumption)] | skip)
   all_goals first
     | (exact congrArg de (w7 (by assumption)).symm)
     | (exact congrArg de (w8 (by assumption) (by assumption)).symm)
     | (exact congrArg de (zM (by assumption)).symm)
     | (exact congrArg de (z5 (by assumption) (by assumption)).symm)
     | (exact congrArg de (zb (by assumption) (by assumption)).symm)
     | (exact congrArg de (zV (by assumption) (by assumption) (by assumption)).symm)
     | (exfalso; simp_all; done)
     | trace_state
theorem rdec3U_c (b : List UInt8) (hb : b.length ≤ 140737488355328) (ck : Bool) (c : Int) (X : Rdr) (hp : ql b = (c, 3, 0)) (hc : (0 < c ∧ X = rtk 1 (rdr b hb)) ∨ (¬ 0 < c ∧ X = rdr b hb)) : LP Tryz.prog G 28 [bv b, iAV 1, .bool ck] [] (fun _ => (de (zi ck (zc X) (yk X 1 (s0 c 3)) b), [])):= by
 have hle0 := qC (zc X)
 have hle1 := qC (rtk 2 (zc X))
 rcases hc with ⟨hc, rfl⟩ | ⟨hc, rfl⟩ <;> cases ck
 all_goals
   refine goW [51] Tryz.func28 rfl ?_
   conv => whnf
   repeat' ((first | (rw [qi (X := zc (rtk 1 (rdr b hb))) (by assumption)]; conv => whnf) | (rw [qi (X := rtk 2 (zc (rtk 1 (rdr b hb)))) (by assumption)]; conv => whnf) | (rw [qi (X := zc (rdr b hb)) (by assumption)]; conv => whnf) | (rw [qi (X := rtk 2 (zc (rdr b hb))) (by assumption)]; conv => whnf) | (show LC _ _ _ _ _ _; first | refine LC.pure (rpk hp) ?_ | (apply LC.upd (kr _ b hb); (repeat first | refine goH ?_ | apply LH.here | apply LH.next); refine ⟨rfl, ?_⟩) | (apply LC.upd (jr _ _); (repeat first | refine goH ?_ | apply LH.here | apply LH.next); refine ⟨rfl, ?_⟩) | (apply LC.upd (jB _ _); (repeat first | refine goH ?_ | apply LH.here | apply LH.next); refine ⟨rfl, ?_⟩) | (apply LC.upd (jA _ _); (repeat first | refine goH ?_ | apply LH.here | apply LH.next); refine ⟨rfl, ?_⟩) | refine LC.pure (qh (wpl (yk (rtk 1 (rdr b hb)) 1 (s0 c 3)) (zc (rtk 1 (rdr b hb))))) ?_ | refine LC.pure (qh (wpl (wud (yk (rtk 1 (rdr b hb)) 1 (s0 c 3)) (rv 2 (zc (rtk 1 (rdr b hb))))) (rtk 2 (zc (rtk 1 (rdr b hb)))))) ?_ | refine LC.pure (qh (wpl (yk (rdr b hb) 1 (s0 c 3)) (zc (rdr b hb)))) ?_ | refine LC.pure (qh (wpl (wud (yk (rdr b hb) 1 (s0 c 3)) (rv 2 (zc (rdr b hb)))) (rtk 2 (zc (rdr b hb))))) ?_ | refine LC.pure (xw _ _) ?_ | refine goE ?_) | refine T.s ?_ | ((first | apply goB | apply AB.dec | apply AB.gen) <;> intro h <;> try (exfalso; omega)) | refine LQ.mk fun r => ?_ | (show CutL _ _ _ _ _ _ _ _; first | refine CutL.halt tQ [51] 51 (by rfl) ?_ | refine CutL.go tQ [51] ?_) | (show Halt _ _ _ _ _; apply Halt.frz 67; (first | (apply LH.here; refine And.intro (by rfl) ?_) | (apply LH.next; apply LH.here; refine And.intro (by rfl) ?_) | (apply LH.next; apply LH.next; apply LH.here; refine And.intro (by rfl) ?_)); refine And.intro ?_ ?_; (focus (repeat first | exact LFs.nil | apply LFs.cons | exact LF.rowF InL.here (by (repeat first | refine goH ?_ | apply LH.here | apply LH.next); exact ⟨rfl, rfl⟩) | exact LF.eq rfl))) | exact T.z | fail) <;> conv => whnf)
   all_goals (try dsimp only)
   all_goals (show RL _ _ _; refine goR ?_)
   all_goals (first | rewrite [w6 (by assumption) (by assumption)] | skip)
   all_goals first
     | (exact congrArg de (w7 (by assumption)).symm)
     | (exact congrArg de (w8 (by assumption) (by assumption)).symm)
     | (exact congrArg de (zM (by assumption)).symm)
     | (exact congrArg de (z5 (by assumption) (by assumption)).symm)
     | (exact congrArg de (zb (by assumption) (by assumption)).symm)
     | (exact congrArg de (zV (by assumption) (by assumption) (by assumption)).symm)
     | (exfalso; simp_all; done)
     | trace_state
end Go.Proofs.YtkfpgdckdmlhkaaGreatDoor
