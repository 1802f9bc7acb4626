import Derived.Test.YtkfpgdckdmlhkaaGreatDoorDp11
set_option maxHeartbeats 4000000
namespace Go.Proofs.YtkfpgdckdmlhkaaGreatDoor
open Go.RowKit
set_option linter.all false
variable {G : Nat → AV}
theorem fdec1_c (b : List UInt8) (hb : b.length ≤ 140737488355328) (k : Int) (ck : Bool) (c : Int) (X : Rdr) (hp : peekR b = (c, 1, 0)) (hk : k = 1 ∨ k = 2) (hc : (0 < c ∧ X = rtk 1 (rdr b hb)) ∨ (¬ 0 < c ∧ X = rdr b hb)) : LP Tryz.prog G 62 [bv b, iAV k, .bool ck] [] (fun _ => (de (smallP ck (lwX1 X) (lw1 X k (s0 c 1)) b), [])):= by
 rcases hc with ⟨hc, rfl⟩ | ⟨hc, rfl⟩ <;> cases ck
 all_goals
   refine goW [] Tryz.func62 rfl ?_
   conv => whnf
   repeat' ((first
     | (rw [rcs_ok (X := lwX1 (rtk 1 (rdr b hb))) (by assumption)]; conv => whnf)
     | (rw [rcs_ok (X := rtk 2 (lwX1 (rtk 1 (rdr b hb)))) (by assumption)]; conv => whnf)
     | (rw [rcs_ok (X := lwX1 (rdr b hb)) (by assumption)]; conv => whnf)
     | (rw [rcs_ok (X := rtk 2 (lwX1 (rdr b hb))) (by assumption)]; conv => whnf)
     | (show LC _ _ _ _ _ _; first | refine LC.pure (fpk hp) ?_ | (apply LC.upd (ftb_c _ b hb); (repeat first | refine goH ?_ | apply LH.here | apply LH.next); refine ⟨rfl, ?_⟩) | (apply LC.upd (ft1_c _ _); (repeat first | refine goH ?_ | apply LH.here | apply LH.next); refine ⟨rfl, ?_⟩) | (apply LC.upd (ft2_c _ _); (repeat first | refine goH ?_ | apply LH.here | apply LH.next); refine ⟨rfl, ?_⟩) | (apply LC.upd (ft4_c _ _); (repeat first | refine goH ?_ | apply LH.here | apply LH.next); refine ⟨rfl, ?_⟩) | (refine LC.two (fun hne => flow1_c _ _ (rtk 1 (rdr b hb)) _ rfl k (s0 c 1) hne rfl) ?_; (repeat first | refine goH ?_ | apply LH.here | apply LH.next); refine ⟨rfl, ?_⟩; (repeat first | refine goH ?_ | apply LH.here | apply LH.next); refine ⟨rfl, ?_⟩) | (refine LC.two (fun hne => flow1_c _ _ (rdr b hb) _ (rcs_rdr b hb).symm k (s0 c 1) hne rfl) ?_; (repeat first | refine goH ?_ | apply LH.here | apply LH.next); refine ⟨rfl, ?_⟩; (repeat first | refine goH ?_ | apply LH.here | apply LH.next); refine ⟨rfl, ?_⟩) | refine LC.pure (bclone_c (rL (lwX1 (rtk 1 (rdr b hb)))) (rL_le _)) ?_ | refine LC.pure (fencode_c (wpl (lw1 (rtk 1 (rdr b hb)) k (s0 c 1)) (lwX1 (rtk 1 (rdr b hb))))) ?_ | refine LC.pure (bclone_c (rL (rtk 2 (lwX1 (rtk 1 (rdr b hb))))) (rL_le _)) ?_ | refine LC.pure (fencode_c (wpl (wud (lw1 (rtk 1 (rdr b hb)) k (s0 c 1)) (rv 2 (lwX1 (rtk 1 (rdr b hb))))) (rtk 2 (lwX1 (rtk 1 (rdr b hb)))))) ?_ | refine LC.pure (bclone_c (rL (lwX1 (rdr b hb))) (rL_le _)) ?_ | refine LC.pure (fencode_c (wpl (lw1 (rdr b hb) k (s0 c 1)) (lwX1 (rdr b hb)))) ?_ | refine LC.pure (bclone_c (rL (rtk 2 (lwX1 (rdr b hb)))) (rL_le _)) ?_ | refine LC.pure (fencode_c (wpl (wud (lw1 (rdr b hb) k (s0 c 1)) (rv 2 (lwX1 (rdr b hb)))) (rtk 2 (lwX1 (rdr b hb))))) ?_ | refine LC.pure (bequal_c _ _) ?_ | refine goE ?_)
     | refine T.s ?_
     | ((first | refine goB (fun h => ?_) (fun h => ?_) | refine AB.dec (fun h => ?_) (fun h => ?_) | refine AB.gen (fun h => ?_) (fun h => ?_)) <;> try (exfalso; omega))
     | refine LFresh.mk fun r => ?_
     | exact T.z
     | fail) <;> conv => whnf)
   all_goals (try dsimp only)
   all_goals (show RL _ _ _; refine goR ?_)
   all_goals first
     | (exact congrArg de (fin_e (by assumption)).symm)
     | (exact congrArg de (fin_n1 (by assumption) (by assumption)).symm)
     | (exact congrArg de (fin_n2 (by assumption) (by assumption)).symm)
     | (exact congrArg de (fin_k (by assumption) (by assumption) (by assumption)).symm)
     | (exfalso; simp_all; done)
     | trace_state
theorem fdec2T_c (b : List UInt8) (hb : b.length ≤ 140737488355328) (ck : Bool) (c : Int) (X : Rdr) (hp : peekR b = (c, 2, 0)) (hc : (0 < c ∧ X = rtk 1 (rdr b hb)) ∨ (¬ 0 < c ∧ X = rdr b hb)) : LP Tryz.prog G 62 [bv b, iAV 2, .bool ck] [] (fun _ => (de (smallP ck (lwX2T X) (lw2T X 2 (s0 c 2)) b), [])):= by
 rcases hc with ⟨hc, rfl⟩ | ⟨hc, rfl⟩ <;> cases ck
 all_goals
   refine goW [] Tryz.func62 rfl ?_
   conv => whnf
   repeat' ((first
     | (rw [rcs_ok (X := lwX2T (rtk 1 (rdr b hb))) (by assumption)]; conv => whnf)
     | (rw [rcs_ok (X := rtk 2 (lwX2T (rtk 1 (rdr b hb)))) (by assumption)]; conv => whnf)
     | (rw [rcs_ok (X := lwX2T (rdr b hb)) (by assumption)]; conv => whnf)
     | (rw [rcs_ok (X := rtk 2 (lwX2T (rdr b hb))) (by assumption)]; conv => whnf)
     | (show LC _ _ _ _ _ _; first | refine LC.pure (fpk hp) ?_ | (apply LC.upd (ftb_c _ b hb); (repeat first | refine goH ?_ | apply LH.here | apply LH.next); refine ⟨rfl, ?_⟩) | (apply LC.upd (ft1_c _ _); (repeat first | refine goH ?_ | apply LH.here | apply LH.next); refine ⟨rfl, ?_⟩) | (apply LC.upd (ft2_c _ _); (repeat first | refine goH ?_ | apply LH.here | apply LH.next); refine ⟨rfl, ?_⟩) | (apply LC.upd (ft4_c _ _); (repeat first | refine goH ?_ | apply LH.here | apply LH.next); refine ⟨rfl, ?_⟩) | (refine LC.two (fun hne => flow2T_c _ _ (rtk 1 (rdr b hb)) _ rfl 2 (s0 c 2) hne rfl rfl) ?_; (repeat first | refine goH ?_ | apply LH.here | apply LH.next); refine ⟨rfl, ?_⟩; (repeat first | refine goH ?_ | apply LH.here | apply LH.next); refine ⟨rfl, ?_⟩) | (refine LC.two (fun hne => flow2T_c _ _ (rdr b hb) _ (rcs_rdr b hb).symm 2 (s0 c 2) hne rfl rfl) ?_; (repeat first | refine goH ?_ | apply LH.here | apply LH.next); refine ⟨rfl, ?_⟩; (repeat first | refine goH ?_ | apply LH.here | apply LH.next); refine ⟨rfl, ?_⟩) | refine LC.pure (bclone_c (rL (lwX2T (rtk 1 (rdr b hb)))) (rL_le _)) ?_ | refine LC.pure (fencode_c (wpl (lw2T (rtk 1 (rdr b hb)) 2 (s0 c 2)) (lwX2T (rtk 1 (rdr b hb))))) ?_ | refine LC.pure (bclone_c (rL (rtk 2 (lwX2T (rtk 1 (rdr b hb))))) (rL_le _)) ?_ | refine LC.pure (fencode_c (wpl (wud (lw2T (rtk 1 (rdr b hb)) 2 (s0 c 2)) (rv 2 (lwX2T (rtk 1 (rdr b hb))))) (rtk 2 (lwX2T (rtk 1 (rdr b hb)))))) ?_ | refine LC.pure (bclone_c (rL (lwX2T (rdr b hb))) (rL_le _)) ?_ | refine LC.pure (fencode_c (wpl (lw2T (rdr b hb) 2 (s0 c 2)) (lwX2T (rdr b hb)))) ?_ | refine LC.pure (bclone_c (rL (rtk 2 (lwX2T (rdr b hb)))) (rL_le _)) ?_ | refine LC.pure (fencode_c (wpl (wud (lw2T (rdr b hb) 2 (s0 c 2)) (rv 2 (lwX2T (rdr b hb)))) (rtk 2 (lwX2T (rdr b hb))))) ?_ | refine LC.pure (bequal_c _ _) ?_ | refine goE ?_)
     | refine T.s ?_
     | ((first | refine goB (fun h => ?_) (fun h => ?_) | refine AB.dec (fun h => ?_) (fun h => ?_) | refine AB.gen (fun h => ?_) (fun h => ?_)) <;> try (exfalso; omega))
     | refine LFresh.mk fun r => ?_
     | exact T.z
     | fail) <;> conv => whnf)
   all_goals (try dsimp only)
   all_goals (show RL _ _ _; refine goR ?_)
   all_goals first
     | (exact congrArg de (fin_e (by assumption)).symm)
     | (exact congrArg de (fin_n1 (by assumption) (by assumption)).symm)
     | (exact congrArg de (fin_n2 (by assumption) (by assumption)).symm)
     | (exact congrArg de (fin_k (by assumption) (by assumption) (by assumption)).symm)
     | (exfalso; simp_all; done)
     | trace_state
theorem fdec2U_c (b : List UInt8) (hb : b.length ≤ 140737488355328) (ck : Bool) (c : Int) (X : Rdr) (hp : peekR b = (c, 2, 0)) (hc : (0 < c ∧ X = rtk 1 (rdr b hb)) ∨ (¬ 0 < c ∧ X = rdr b hb)) : LP Tryz.prog G 62 [bv b, iAV 1, .bool ck] [] (fun _ => (de (smallP ck (lwX2U X) (lw2U X 1 (s0 c 2)) b), [])):= by
 rcases hc with ⟨hc, rfl⟩ | ⟨hc, rfl⟩ <;> cases ck
 all_goals
   refine goW [] Tryz.func62 rfl ?_
   conv => whnf
   repeat' ((first
     | (rw [rcs_ok (X := lwX2U (rtk 1 (rdr b hb))) (by assumption)]; conv => whnf)
     | (rw [rcs_ok (X := rtk 2 (lwX2U (rtk 1 (rdr b hb)))) (by assumption)]; conv => whnf)
     | (rw [rcs_ok (X := lwX2U (rdr b hb)) (by assumption)]; conv => whnf)
     | (rw [rcs_ok (X := rtk 2 (lwX2U (rdr b hb))) (by assumption)]; conv => whnf)
     | (show LC _ _ _ _ _ _; first | refine LC.pure (fpk hp) ?_ | (apply LC.upd (ftb_c _ b hb); (repeat first | refine goH ?_ | apply LH.here | apply LH.next); refine ⟨rfl, ?_⟩) | (apply LC.upd (ft1_c _ _); (repeat first | refine goH ?_ | apply LH.here | apply LH.next); refine ⟨rfl, ?_⟩) | (apply LC.upd (ft2_c _ _); (repeat first | refine goH ?_ | apply LH.here | apply LH.next); refine ⟨rfl, ?_⟩) | (apply LC.upd (ft4_c _ _); (repeat first | refine goH ?_ | apply LH.here | apply LH.next); refine ⟨rfl, ?_⟩) | (refine LC.two (fun hne => flow2U_c _ _ (rtk 1 (rdr b hb)) _ rfl 1 (s0 c 2) hne rfl (by decide)) ?_; (repeat first | refine goH ?_ | apply LH.here | apply LH.next); refine ⟨rfl, ?_⟩; (repeat first | refine goH ?_ | apply LH.here | apply LH.next); refine ⟨rfl, ?_⟩) | (refine LC.two (fun hne => flow2U_c _ _ (rdr b hb) _ (rcs_rdr b hb).symm 1 (s0 c 2) hne rfl (by decide)) ?_; (repeat first | refine goH ?_ | apply LH.here | apply LH.next); refine ⟨rfl, ?_⟩; (repeat first | refine goH ?_ | apply LH.here | apply LH.next); refine ⟨rfl, ?_⟩) | refine LC.pure (bclone_c (rL (lwX2U (rtk 1 (rdr b hb)))) (rL_le _)) ?_ | refine LC.pure (fencode_c (wpl (lw2U (rtk 1 (rdr b hb)) 1 (s0 c 2)) (lwX2U (rtk 1 (rdr b hb))))) ?_ | refine LC.pure (bclone_c (rL (rtk 2 (lwX2U (rtk 1 (rdr b hb))))) (rL_le _)) ?_ | refine LC.pure (fencode_c (wpl (wud (lw2U (rtk 1 (rdr b hb)) 1 (s0 c 2)) (rv 2 (lwX2U (rtk 1 (rdr b hb))))) (rtk 2 (lwX2U (rtk 1 (rdr b hb)))))) ?_ | refine LC.pure (bclone_c (rL (lwX2U (rdr b hb))) (rL_le _)) ?_ | refine LC.pure (fencode_c (wpl (lw2U (rdr b hb) 1 (s0 c 2)) (lwX2U (rdr b hb)))) ?_ | refine LC.pure (bclone_c (rL (rtk 2 (lwX2U (rdr b hb)))) (rL_le _)) ?_ | refine LC.pure (fencode_c (wpl (wud (lw2U (rdr b hb) 1 (s0 c 2)) (rv 2 (lwX2U (rdr b hb)))) (rtk 2 (lwX2U (rdr b hb))))) ?_ | refine LC.pure (bequal_c _ _) ?_ | refine goE ?_)
     | refine T.s ?_
     | ((first | refine goB (fun h => ?_) (fun h => ?_) | refine AB.dec (fun h => ?_) (fun h => ?_) | refine AB.gen (fun h => ?_) (fun h => ?_)) <;> try (exfalso; omega))
     | refine LFresh.mk fun r => ?_
     | exact T.z
     | fail) <;> conv => whnf)
   all_goals (try dsimp only)
   all_goals (show RL _ _ _; refine goR ?_)
   all_goals first
     | (exact congrArg de (fin_e (by assumption)).symm)
     | (exact congrArg de (fin_n1 (by assumption) (by assumption)).symm)
     | (exact congrArg de (fin_n2 (by assumption) (by assumption)).symm)
     | (exact congrArg de (fin_k (by assumption) (by assumption) (by assumption)).symm)
     | (exfalso; simp_all; done)
     | trace_state
theorem fdec3T_c (b : List UInt8) (hb : b.length ≤ 140737488355328) (ck : Bool) (c : Int) (X : Rdr) (hp : peekR b = (c, 3, 0)) (hc : (0 < c ∧ X = rtk 1 (rdr b hb)) ∨ (¬ 0 < c ∧ X = rdr b hb)) : LP Tryz.prog G 62 [bv b, iAV 2, .bool ck] [] (fun _ => (de (smallP ck (lwX3T X) (lw3T X 2 (s0 c 3)) b), [])):= by
 rcases hc with ⟨hc, rfl⟩ | ⟨hc, rfl⟩ <;> cases ck
 all_goals
   refine goW [] Tryz.func62 rfl ?_
   conv => whnf
   repeat' ((first
     | (rw [rcs_ok (X := lwX3T (rtk 1 (rdr b hb))) (by assumption)]; conv => whnf)
     | (rw [rcs_ok (X := rtk 2 (lwX3T (rtk 1 (rdr b hb)))) (by assumption)]; conv => whnf)
     | (rw [rcs_ok (X := lwX3T (rdr b hb)) (by assumption)]; conv => whnf)
     | (rw [rcs_ok (X := rtk 2 (lwX3T (rdr b hb))) (by assumption)]; conv => whnf)
     | (show LC _ _ _ _ _ _; first | refine LC.pure (fpk hp) ?_ | (apply LC.upd (ftb_c _ b hb); (repeat first | refine goH ?_ | apply LH.here | apply LH.next); refine ⟨rfl, ?_⟩) | (apply LC.upd (ft1_c _ _); (repeat first | refine goH ?_ | apply LH.here | apply LH.next); refine ⟨rfl, ?_⟩) | (apply LC.upd (ft2_c _ _); (repeat first | refine goH ?_ | apply LH.here | apply LH.next); refine ⟨rfl, ?_⟩) | (apply LC.upd (ft4_c _ _); (repeat first | refine goH ?_ | apply LH.here | apply LH.next); refine ⟨rfl, ?_⟩) | (refine LC.two (fun hne => flow3T_c _ _ (rtk 1 (rdr b hb)) _ rfl 2 (s0 c 3) hne rfl rfl) ?_; (repeat first | refine goH ?_ | apply LH.here | apply LH.next); refine ⟨rfl, ?_⟩; (repeat first | refine goH ?_ | apply LH.here | apply LH.next); refine ⟨rfl, ?_⟩) | (refine LC.two (fun hne => flow3T_c _ _ (rdr b hb) _ (rcs_rdr b hb).symm 2 (s0 c 3) hne rfl rfl) ?_; (repeat first | refine goH ?_ | apply LH.here | apply LH.next); refine ⟨rfl, ?_⟩; (repeat first | refine goH ?_ | apply LH.here | apply LH.next); refine ⟨rfl, ?_⟩) | refine LC.pure (bclone_c (rL (lwX3T (rtk 1 (rdr b hb)))) (rL_le _)) ?_ | refine LC.pure (fencode_c (wpl (lw3T (rtk 1 (rdr b hb)) 2 (s0 c 3)) (lwX3T (rtk 1 (rdr b hb))))) ?_ | refine LC.pure (bclone_c (rL (rtk 2 (lwX3T (rtk 1 (rdr b hb))))) (rL_le _)) ?_ | refine LC.pure (fencode_c (wpl (wud (lw3T (rtk 1 (rdr b hb)) 2 (s0 c 3)) (rv 2 (lwX3T (rtk 1 (rdr b hb))))) (rtk 2 (lwX3T (rtk 1 (rdr b hb)))))) ?_ | refine LC.pure (bclone_c (rL (lwX3T (rdr b hb))) (rL_le _)) ?_ | refine LC.pure (fencode_c (wpl (lw3T (rdr b hb) 2 (s0 c 3)) (lwX3T (rdr b hb)))) ?_ | refine LC.pure (bclone_c (rL (rtk 2 (lwX3T (rdr b hb)))) (rL_le _)) ?_ | refine LC.pure (fencode_c (wpl (wud (lw3T (rdr b hb) 2 (s0 c 3)) (rv 2 (lwX3T (rdr b hb)))) (rtk 2 (lwX3T (rdr b hb))))) ?_ | refine LC.pure (bequal_c _ _) ?_ | refine goE ?_)
     | refine T.s ?_
     | ((first | refine goB (fun h => ?_) (fun h => ?_) | refine AB.dec (fun h => ?_) (fun h => ?_) | refine AB.gen (fun h => ?_) (fun h => ?_)) <;> try (exfalso; omega))
     | refine LFresh.mk fun r => ?_
     | exact T.z
     | fail) <;> conv => whnf)
   all_goals (try dsimp only)
   all_goals (show RL _ _ _; refine goR ?_)
   all_goals first
     | (exact congrArg de (fin_e (by assumption)).symm)
     | (exact congrArg de (fin_n1 (by assumption) (by assumption)).symm)
     | (exact congrArg de (fin_n2 (by assumption) (by assumption)).symm)
     | (exact congrArg de (fin_k (by assumption) (by assumption) (by assumption)).symm)
     | (exfalso; simp_all; done)
     | trace_state
theorem fdec3U_c (b : List UInt8) (hb : b.length ≤ 140737488355328) (ck : Bool) (c : Int) (X : Rdr) (hp : peekR b = (c, 3, 0)) (hc : (0 < c ∧ X = rtk 1 (rdr b hb)) ∨ (¬ 0 < c ∧ X = rdr b hb)) : LP Tryz.prog G 62 [bv b, iAV 1, .bool ck] [] (fun _ => (de (smallP ck (lwX3U X) (lw3U X 1 (s0 c 3)) b), [])):= by
 rcases hc with ⟨hc, rfl⟩ | ⟨hc, rfl⟩ <;> cases ck
 all_goals
   refine goW [] Tryz.func62 rfl ?_
   conv => whnf
   repeat' ((first
     | (rw [rcs_ok (X := lwX3U (rtk 1 (rdr b hb))) (by assumption)]; conv => whnf)
     | (rw [rcs_ok (X := rtk 2 (lwX3U (rtk 1 (rdr b hb)))) (by assumption)]; conv => whnf)
     | (rw [rcs_ok (X := lwX3U (rdr b hb)) (by assumption)]; conv => whnf)
     | (rw [rcs_ok (X := rtk 2 (lwX3U (rdr b hb))) (by assumption)]; conv => whnf)
     | (show LC _ _ _ _ _ _; first | refine LC.pure (fpk hp) ?_ | (apply LC.upd (ftb_c _ b hb); (repeat first | refine goH ?_ | apply LH.here | apply LH.next); refine ⟨rfl, ?_⟩) | (apply LC.upd (ft1_c _ _); (repeat first | refine goH ?_ | apply LH.here | apply LH.next); refine ⟨rfl, ?_⟩) | (apply LC.upd (ft2_c _ _); (repeat first | refine goH ?_ | apply LH.here | apply LH.next); refine ⟨rfl, ?_⟩) | (apply LC.upd (ft4_c _ _); (repeat first | refine goH ?_ | apply LH.here | apply LH.next); refine ⟨rfl, ?_⟩) | (refine LC.two (fun hne => flow3U_c _ _ (rtk 1 (rdr b hb)) _ rfl 1 (s0 c 3) hne rfl (by decide)) ?_; (repeat first | refine goH ?_ | apply LH.here | apply LH.next); refine ⟨rfl, ?_⟩; (repeat first | refine goH ?_ | apply LH.here | apply LH.next); refine ⟨rfl, ?_⟩) | (refine LC.two (fun hne => flow3U_c _ _ (rdr b hb) _ (rcs_rdr b hb).symm 1 (s0 c 3) hne rfl (by decide)) ?_; (repeat first | refine goH ?_ | apply LH.here | apply LH.next); refine ⟨rfl, ?_⟩; (repeat first | refine goH ?_ | apply LH.here | apply LH.next); refine ⟨rfl, ?_⟩) | refine LC.pure (bclone_c (rL (lwX3U (rtk 1 (rdr b hb)))) (rL_le _)) ?_ | refine LC.pure (fencode_c (wpl (lw3U (rtk 1 (rdr b hb)) 1 (s0 c 3)) (lwX3U (rtk 1 (rdr b hb))))) ?_ | refine LC.pure (bclone_c (rL (rtk 2 (lwX3U (rtk 1 (rdr b hb))))) (rL_le _)) ?_ | refine LC.pure (fencode_c (wpl (wud (lw3U (rtk 1 (rdr b hb)) 1 (s0 c 3)) (rv 2 (lwX3U (rtk 1 (rdr b hb))))) (rtk 2 (lwX3U (rtk 1 (rdr b hb)))))) ?_ | refine LC.pure (bclone_c (rL (lwX3U (rdr b hb))) (rL_le _)) ?_ | refine LC.pure (fencode_c (wpl (lw3U (rdr b hb) 1 (s0 c 3)) (lwX3U (rdr b hb)))) ?_ | refine LC.pure (bclone_c (rL (rtk 2 (lwX3U (rdr b hb)))) (rL_le _)) ?_ | refine LC.pure (fencode_c (wpl (wud (lw3U (rdr b hb) 1 (s0 c 3)) (rv 2 (lwX3U (rdr b hb)))) (rtk 2 (lwX3U (rdr b hb))))) ?_ | refine LC.pure (bequal_c _ _) ?_ | refine goE ?_)
     | refine T.s ?_
     | ((first | refine goB (fun h => ?_) (fun h => ?_) | refine AB.dec (fun h => ?_) (fun h => ?_) | refine AB.gen (fun h => ?_) (fun h => ?_)) <;> try (exfalso; omega))
     | refine LFresh.mk fun r => ?_
     | exact T.z
     | fail) <;> conv => whnf)
   all_goals (try dsimp only)
   all_goals (show RL _ _ _; refine goR ?_)
   all_goals first
     | (exact congrArg de (fin_e (by assumption)).symm)
     | (exact congrArg de (fin_n1 (by assumption) (by assumption)).symm)
     | (exact congrArg de (fin_n2 (by assumption) (by assumption)).symm)
     | (exact congrArg de (fin_k (by assumption) (by assumption) (by assumption)).symm)
     | (exfalso; simp_all; done)
     | trace_state
end Go.Proofs.YtkfpgdckdmlhkaaGreatDoor
