import Derived.Test.YtkfpgdckdmlhkaaGreatDoorDp11
set_option maxHeartbeats 4000000
namespace Go.Proofs.YtkfpgdckdmlhkaaGreatDoor
open Go.RowKit
set_option linter.all false
variable {G : Nat → AV}
theorem fdec4T_c (b : List UInt8) (hb : b.length ≤ 140737488355328) (ck : Bool) (c : Int) (X : Rdr) (hp : peekR b = (c, 4, 0)) (hc : (0 < c ∧ X = rtk 1 (rdr b hb)) ∨ (¬ 0 < c ∧ X = rdr b hb)) : LP Tryz.prog G 62 [bv b, iAV 2, .bool ck] [] (fun _ => (de (bigR (dynTX (rtk 1 X)) (dynT (rtk 1 X) (hdk (s0 c 4) 2)) (dynF (rtk 1 X)) b), [])):= by
 rcases hc with ⟨hc, rfl⟩ | ⟨hc, rfl⟩
 all_goals
   refine goW [] Tryz.func62 rfl ?_
   conv => whnf
   repeat' ((first
     | (rw [rcs_ok (X := rtk 2 (rtk 1 (dynTX (rtk 1 (rtk 1 (rdr b hb)))))) (by assumption)]; conv => whnf)
     | (rw [rcs_ok (X := rtk 1 (dynTX (rtk 1 (rtk 1 (rdr b hb))))) (by assumption)]; conv => whnf)
     | (rw [rcs_ok (X := rtk 2 (rtk 1 (dynTX (rtk 1 (rdr b hb))))) (by assumption)]; conv => whnf)
     | (rw [rcs_ok (X := rtk 1 (dynTX (rtk 1 (rdr b hb)))) (by assumption)]; conv => whnf)
     | (show LC _ _ _ _ _ _; first | refine LC.pure (fpk hp) ?_ | (apply LC.upd (ftb_c _ b hb); (repeat first | refine goH ?_ | apply LH.here | apply LH.next); refine ⟨rfl, ?_⟩) | (apply LC.upd (ft1_c _ _); (repeat first | refine goH ?_ | apply LH.here | apply LH.next); refine ⟨rfl, ?_⟩) | (apply LC.upd (ft2_c _ _); (repeat first | refine goH ?_ | apply LH.here | apply LH.next); refine ⟨rfl, ?_⟩) | (apply LC.upd (ft4_c _ _); (repeat first | refine goH ?_ | apply LH.here | apply LH.next); refine ⟨rfl, ?_⟩) | (refine LC.two (fun hne => fdynT_c _ _ (rtk 1 (rtk 1 (rdr b hb))) (hdk (s0 c 4) 2) hne rfl) ?_; (repeat first | refine goH ?_ | apply LH.here | apply LH.next); refine ⟨rfl, ?_⟩; (repeat first | refine goH ?_ | apply LH.here | apply LH.next); refine ⟨rfl, ?_⟩) | (refine LC.two (fun hne => fdynT_c _ _ (rtk 1 (rdr b hb)) (hdk (s0 c 4) 2) hne rfl) ?_; (repeat first | refine goH ?_ | apply LH.here | apply LH.next); refine ⟨rfl, ?_⟩; (repeat first | refine goH ?_ | apply LH.here | apply LH.next); refine ⟨rfl, ?_⟩) | refine LC.pure (bclone_c (rL (rtk 2 (rtk 1 (dynTX (rtk 1 (rtk 1 (rdr b hb))))))) (rL_le _)) ?_ | refine LC.pure (fencode_c (wpl (whc (wck (dynT (rtk 1 (rtk 1 (rdr b hb))) (hdk (s0 c 4) 2)) (rv 1 (dynTX (rtk 1 (rtk 1 (rdr b hb)))))) (rv 2 (rtk 1 (dynTX (rtk 1 (rtk 1 (rdr b hb))))))) (rtk 2 (rtk 1 (dynTX (rtk 1 (rtk 1 (rdr b hb)))))))) ?_ | refine LC.pure (bclone_c (rL (rtk 1 (dynTX (rtk 1 (rtk 1 (rdr b hb)))))) (rL_le _)) ?_ | refine LC.pure (fencode_c (wpl (wck (dynT (rtk 1 (rtk 1 (rdr b hb))) (hdk (s0 c 4) 2)) (rv 1 (dynTX (rtk 1 (rtk 1 (rdr b hb)))))) (rtk 1 (dynTX (rtk 1 (rtk 1 (rdr b hb))))))) ?_ | refine LC.pure (bclone_c (rL (rtk 2 (rtk 1 (dynTX (rtk 1 (rdr b hb)))))) (rL_le _)) ?_ | refine LC.pure (fencode_c (wpl (whc (wck (dynT (rtk 1 (rdr b hb)) (hdk (s0 c 4) 2)) (rv 1 (dynTX (rtk 1 (rdr b hb))))) (rv 2 (rtk 1 (dynTX (rtk 1 (rdr b hb)))))) (rtk 2 (rtk 1 (dynTX (rtk 1 (rdr b hb))))))) ?_ | refine LC.pure (bclone_c (rL (rtk 1 (dynTX (rtk 1 (rdr b hb))))) (rL_le _)) ?_ | refine LC.pure (fencode_c (wpl (wck (dynT (rtk 1 (rdr b hb)) (hdk (s0 c 4) 2)) (rv 1 (dynTX (rtk 1 (rdr b hb))))) (rtk 1 (dynTX (rtk 1 (rdr b hb)))))) ?_ | refine LC.pure (bequal_c _ _) ?_ | refine goE ?_)
     | refine T.s ?_
     | ((first | refine goB (fun h => ?_) (fun h => ?_) | refine AB.dec (fun h => ?_) (fun h => ?_) | refine AB.gen (fun h => ?_) (fun h => ?_)) <;> try (exfalso; omega))
     | refine LFresh.mk fun r => ?_
     | exact T.z
     | fail) <;> conv => whnf)
   all_goals (try dsimp only)
   all_goals (show RL _ _ _; refine goR ?_)
   all_goals (first | rewrite [big_t (by assumption)] | rewrite [big_f (by assumption)] | skip)
   all_goals first
     | (exact congrArg de (fin_e (by assumption)).symm)
     | (exact congrArg de (fin_n1 (by assumption) (by assumption)).symm)
     | (exact congrArg de (fin_n2 (by assumption) (by assumption)).symm)
     | (exact congrArg de (fin_k (by assumption) (by assumption) (by assumption)).symm)
     | (exfalso; simp_all; done)
     | trace_state
theorem fdec4U_c (b : List UInt8) (hb : b.length ≤ 140737488355328) (ck : Bool) (c : Int) (X : Rdr) (hp : peekR b = (c, 4, 0)) (hc : (0 < c ∧ X = rtk 1 (rdr b hb)) ∨ (¬ 0 < c ∧ X = rdr b hb)) : LP Tryz.prog G 62 [bv b, iAV 1, .bool ck] [] (fun _ => (de (bigR (dynUX (rtk 1 X)) (dynU (rtk 1 X) (hdk (s0 c 4) 1)) (dynF (rtk 1 X)) b), [])):= by
 rcases hc with ⟨hc, rfl⟩ | ⟨hc, rfl⟩
 all_goals
   refine goW [] Tryz.func62 rfl ?_
   conv => whnf
   repeat' ((first
     | (rw [rcs_ok (X := rtk 2 (rtk 1 (dynUX (rtk 1 (rtk 1 (rdr b hb)))))) (by assumption)]; conv => whnf)
     | (rw [rcs_ok (X := rtk 1 (dynUX (rtk 1 (rtk 1 (rdr b hb))))) (by assumption)]; conv => whnf)
     | (rw [rcs_ok (X := rtk 2 (rtk 1 (dynUX (rtk 1 (rdr b hb))))) (by assumption)]; conv => whnf)
     | (rw [rcs_ok (X := rtk 1 (dynUX (rtk 1 (rdr b hb)))) (by assumption)]; conv => whnf)
     | (show LC _ _ _ _ _ _; first | refine LC.pure (fpk hp) ?_ | (apply LC.upd (ftb_c _ b hb); (repeat first | refine goH ?_ | apply LH.here | apply LH.next); refine ⟨rfl, ?_⟩) | (apply LC.upd (ft1_c _ _); (repeat first | refine goH ?_ | apply LH.here | apply LH.next); refine ⟨rfl, ?_⟩) | (apply LC.upd (ft2_c _ _); (repeat first | refine goH ?_ | apply LH.here | apply LH.next); refine ⟨rfl, ?_⟩) | (apply LC.upd (ft4_c _ _); (repeat first | refine goH ?_ | apply LH.here | apply LH.next); refine ⟨rfl, ?_⟩) | (refine LC.two (fun hne => fdynU_c _ _ (rtk 1 (rtk 1 (rdr b hb))) (hdk (s0 c 4) 1) hne (show (1 : Int) ≠ 2 by decide)) ?_; (repeat first | refine goH ?_ | apply LH.here | apply LH.next); refine ⟨rfl, ?_⟩; (repeat first | refine goH ?_ | apply LH.here | apply LH.next); refine ⟨rfl, ?_⟩) | (refine LC.two (fun hne => fdynU_c _ _ (rtk 1 (rdr b hb)) (hdk (s0 c 4) 1) hne (show (1 : Int) ≠ 2 by decide)) ?_; (repeat first | refine goH ?_ | apply LH.here | apply LH.next); refine ⟨rfl, ?_⟩; (repeat first | refine goH ?_ | apply LH.here | apply LH.next); refine ⟨rfl, ?_⟩) | refine LC.pure (bclone_c (rL (rtk 2 (rtk 1 (dynUX (rtk 1 (rtk 1 (rdr b hb))))))) (rL_le _)) ?_ | refine LC.pure (fencode_c (wpl (whc (wck (dynU (rtk 1 (rtk 1 (rdr b hb))) (hdk (s0 c 4) 1)) (rv 1 (dynUX (rtk 1 (rtk 1 (rdr b hb)))))) (rv 2 (rtk 1 (dynUX (rtk 1 (rtk 1 (rdr b hb))))))) (rtk 2 (rtk 1 (dynUX (rtk 1 (rtk 1 (rdr b hb)))))))) ?_ | refine LC.pure (bclone_c (rL (rtk 1 (dynUX (rtk 1 (rtk 1 (rdr b hb)))))) (rL_le _)) ?_ | refine LC.pure (fencode_c (wpl (wck (dynU (rtk 1 (rtk 1 (rdr b hb))) (hdk (s0 c 4) 1)) (rv 1 (dynUX (rtk 1 (rtk 1 (rdr b hb)))))) (rtk 1 (dynUX (rtk 1 (rtk 1 (rdr b hb))))))) ?_ | refine LC.pure (bclone_c (rL (rtk 2 (rtk 1 (dynUX (rtk 1 (rdr b hb)))))) (rL_le _)) ?_ | refine LC.pure (fencode_c (wpl (whc (wck (dynU (rtk 1 (rdr b hb)) (hdk (s0 c 4) 1)) (rv 1 (dynUX (rtk 1 (rdr b hb))))) (rv 2 (rtk 1 (dynUX (rtk 1 (rdr b hb)))))) (rtk 2 (rtk 1 (dynUX (rtk 1 (rdr b hb))))))) ?_ | refine LC.pure (bclone_c (rL (rtk 1 (dynUX (rtk 1 (rdr b hb))))) (rL_le _)) ?_ | refine LC.pure (fencode_c (wpl (wck (dynU (rtk 1 (rdr b hb)) (hdk (s0 c 4) 1)) (rv 1 (dynUX (rtk 1 (rdr b hb))))) (rtk 1 (dynUX (rtk 1 (rdr b hb)))))) ?_ | refine LC.pure (bequal_c _ _) ?_ | refine goE ?_)
     | refine T.s ?_
     | ((first | refine goB (fun h => ?_) (fun h => ?_) | refine AB.dec (fun h => ?_) (fun h => ?_) | refine AB.gen (fun h => ?_) (fun h => ?_)) <;> try (exfalso; omega))
     | refine LFresh.mk fun r => ?_
     | exact T.z
     | fail) <;> conv => whnf)
   all_goals (try dsimp only)
   all_goals (show RL _ _ _; refine goR ?_)
   all_goals (first | rewrite [big_t (by assumption)] | rewrite [big_f (by assumption)] | skip)
   all_goals first
     | (exact congrArg de (fin_e (by assumption)).symm)
     | (exact congrArg de (fin_n1 (by assumption) (by assumption)).symm)
     | (exact congrArg de (fin_n2 (by assumption) (by assumption)).symm)
     | (exact congrArg de (fin_k (by assumption) (by assumption) (by assumption)).symm)
     | (exfalso; simp_all; done)
     | trace_state
theorem fdec5E_c (b : List UInt8) (hb : b.length ≤ 140737488355328) (k : Int) (ck : Bool) (c : Int) (X : Rdr) (hp : peekR b = (c, 5, 0)) (he : rE (rtk 1 (rtk 1 X)) = true) (hc : (0 < c ∧ X = rtk 1 (rdr b hb)) ∨ (¬ 0 < c ∧ X = rdr b hb)) : LP Tryz.prog G 62 [bv b, iAV k, .bool ck] [] (fun _ => (de (.inr 5), [])):= by
 have hk0 : rv 1 (rtk 1 X) = 0 := rv_end _ _ he
 have hE1 : rE (rtk 2 (rtk 1 (dynUX (stX (rtk 1 X))))) = true := by repeat first | exact he | apply rE_take
 have hE2 : rE (rtk 1 (dynUX (stX (rtk 1 X)))) = true := by repeat first | exact he | apply rE_take
 rcases hc with ⟨hc, rfl⟩ | ⟨hc, rfl⟩
 all_goals
   refine goW [] Tryz.func62 rfl ?_
   conv => whnf
   repeat' ((first
     | (show LC _ _ _ _ _ _; first | refine LC.pure (fpk hp) ?_ | (apply LC.upd (ftb_c _ b hb); (repeat first | refine goH ?_ | apply LH.here | apply LH.next); refine ⟨rfl, ?_⟩) | (apply LC.upd (ft1_c _ _); (repeat first | refine goH ?_ | apply LH.here | apply LH.next); refine ⟨rfl, ?_⟩) | (apply LC.upd (ft2_c _ _); (repeat first | refine goH ?_ | apply LH.here | apply LH.next); refine ⟨rfl, ?_⟩) | (apply LC.upd (ft4_c _ _); (repeat first | refine goH ?_ | apply LH.here | apply LH.next); refine ⟨rfl, ?_⟩) | (refine LC.two (fun hne => fstatU_c _ _ (rtk 1 (rtk 1 (rdr b hb))) (hdk (s0 c 5) k) hne (by omega) (Or.inl he)) ?_; (repeat first | refine goH ?_ | apply LH.here | apply LH.next); refine ⟨rfl, ?_⟩; (repeat first | refine goH ?_ | apply LH.here | apply LH.next); refine ⟨rfl, ?_⟩) | (refine LC.two (fun hne => fdynU_c _ _ (stX (rtk 1 (rtk 1 (rdr b hb)))) (stH (rtk 1 (rtk 1 (rdr b hb))) (s0 c 5)) hne (show rv 1 (rtk 1 (rtk 1 (rdr b hb))) ≠ 2 by omega)) ?_; (repeat first | refine goH ?_ | apply LH.here | apply LH.next); refine ⟨rfl, ?_⟩; (repeat first | refine goH ?_ | apply LH.here | apply LH.next); refine ⟨rfl, ?_⟩) | (refine LC.two (fun hne => fstatU_c _ _ (rtk 1 (rdr b hb)) (hdk (s0 c 5) k) hne (by omega) (Or.inl he)) ?_; (repeat first | refine goH ?_ | apply LH.here | apply LH.next); refine ⟨rfl, ?_⟩; (repeat first | refine goH ?_ | apply LH.here | apply LH.next); refine ⟨rfl, ?_⟩) | (refine LC.two (fun hne => fdynU_c _ _ (stX (rtk 1 (rdr b hb))) (stH (rtk 1 (rdr b hb)) (s0 c 5)) hne (show rv 1 (rtk 1 (rdr b hb)) ≠ 2 by omega)) ?_; (repeat first | refine goH ?_ | apply LH.here | apply LH.next); refine ⟨rfl, ?_⟩; (repeat first | refine goH ?_ | apply LH.here | apply LH.next); refine ⟨rfl, ?_⟩) | refine LC.pure (bequal_c _ _) ?_ | refine goE ?_)
     | refine T.s ?_
     | ((first | refine goB (fun h => ?_) (fun h => ?_) | refine AB.dec (fun h => ?_) (fun h => ?_) | refine AB.gen (fun h => ?_) (fun h => ?_)) <;> try (exfalso; omega))
     | refine LFresh.mk fun r => ?_
     | exact T.z
     | fail) <;> conv => whnf)
   all_goals (try dsimp only)
   all_goals (show RL _ _ _; refine goR ?_)
   all_goals (first | rewrite [big_t (by assumption)] | rewrite [big_f (by assumption)] | skip)
   all_goals first
     | rfl
     | (exact congrArg de (fin_e (by assumption)).symm)
     | (exact congrArg de (fin_n1 (by assumption) (by assumption)).symm)
     | (exact congrArg de (fin_n2 (by assumption) (by assumption)).symm)
     | (exact congrArg de (fin_k (by assumption) (by assumption) (by assumption)).symm)
     | (exfalso; simp_all; done)
     | trace_state
theorem fdec5T_c (b : List UInt8) (hb : b.length ≤ 140737488355328) (k : Int) (ck : Bool) (c : Int) (X : Rdr) (hp : peekR b = (c, 5, 0)) (he : rE (rtk 1 (rtk 1 X)) = false) (hk : rv 1 (rtk 1 X) = 2) (hc : (0 < c ∧ X = rtk 1 (rdr b hb)) ∨ (¬ 0 < c ∧ X = rdr b hb)) : LP Tryz.prog G 62 [bv b, iAV k, .bool ck] [] (fun _ => (de (bigR (dynTX (rtk 4 (stX (rtk 1 X)))) (dynT (rtk 4 (stX (rtk 1 X))) (stT (rtk 1 X) (s0 c 5))) (dynF (rtk 4 (stX (rtk 1 X)))) b), [])):= by
 rcases hc with ⟨hc, rfl⟩ | ⟨hc, rfl⟩
 all_goals
   refine goW [] Tryz.func62 rfl ?_
   conv => whnf
   repeat' ((first
     | (rw [rcs_ok (X := rtk 2 (rtk 1 (dynTX (rtk 4 (stX (rtk 1 (rtk 1 (rdr b hb)))))))) (by assumption)]; conv => whnf)
     | (rw [rcs_ok (X := rtk 1 (dynTX (rtk 4 (stX (rtk 1 (rtk 1 (rdr b hb))))))) (by assumption)]; conv => whnf)
     | (rw [rcs_ok (X := rtk 2 (rtk 1 (dynTX (rtk 4 (stX (rtk 1 (rdr b hb))))))) (by assumption)]; conv => whnf)
     | (rw [rcs_ok (X := rtk 1 (dynTX (rtk 4 (stX (rtk 1 (rdr b hb)))))) (by assumption)]; conv => whnf)
     | (show LC _ _ _ _ _ _; first | refine LC.pure (fpk hp) ?_ | (apply LC.upd (ftb_c _ b hb); (repeat first | refine goH ?_ | apply LH.here | apply LH.next); refine ⟨rfl, ?_⟩) | (apply LC.upd (ft1_c _ _); (repeat first | refine goH ?_ | apply LH.here | apply LH.next); refine ⟨rfl, ?_⟩) | (apply LC.upd (ft2_c _ _); (repeat first | refine goH ?_ | apply LH.here | apply LH.next); refine ⟨rfl, ?_⟩) | (apply LC.upd (ft4_c _ _); (repeat first | refine goH ?_ | apply LH.here | apply LH.next); refine ⟨rfl, ?_⟩) | (refine LC.two (fun hne => fstatT_c _ _ (rtk 1 (rtk 1 (rdr b hb))) (hdk (s0 c 5) k) hne hk) ?_; (repeat first | refine goH ?_ | apply LH.here | apply LH.next); refine ⟨rfl, ?_⟩; (repeat first | refine goH ?_ | apply LH.here | apply LH.next); refine ⟨rfl, ?_⟩) | (refine LC.two (fun hne => fdynT_c _ _ (rtk 4 (stX (rtk 1 (rtk 1 (rdr b hb))))) (stT (rtk 1 (rtk 1 (rdr b hb))) (s0 c 5)) hne hk) ?_; (repeat first | refine goH ?_ | apply LH.here | apply LH.next); refine ⟨rfl, ?_⟩; (repeat first | refine goH ?_ | apply LH.here | apply LH.next); refine ⟨rfl, ?_⟩) | (refine LC.two (fun hne => fstatT_c _ _ (rtk 1 (rdr b hb)) (hdk (s0 c 5) k) hne hk) ?_; (repeat first | refine goH ?_ | apply LH.here | apply LH.next); refine ⟨rfl, ?_⟩; (repeat first | refine goH ?_ | apply LH.here | apply LH.next); refine ⟨rfl, ?_⟩) | (refine LC.two (fun hne => fdynT_c _ _ (rtk 4 (stX (rtk 1 (rdr b hb)))) (stT (rtk 1 (rdr b hb)) (s0 c 5)) hne hk) ?_; (repeat first | refine goH ?_ | apply LH.here | apply LH.next); refine ⟨rfl, ?_⟩; (repeat first | refine goH ?_ | apply LH.here | apply LH.next); refine ⟨rfl, ?_⟩) | refine LC.pure (bclone_c (rL (rtk 2 (rtk 1 (dynTX (rtk 4 (stX (rtk 1 (rtk 1 (rdr b hb))))))))) (rL_le _)) ?_ | refine LC.pure (fencode_c (wpl (whc (wck (dynT (rtk 4 (stX (rtk 1 (rtk 1 (rdr b hb))))) (stT (rtk 1 (rtk 1 (rdr b hb))) (s0 c 5))) (rv 1 (dynTX (rtk 4 (stX (rtk 1 (rtk 1 (rdr b hb)))))))) (rv 2 (rtk 1 (dynTX (rtk 4 (stX (rtk 1 (rtk 1 (rdr b hb))))))))) (rtk 2 (rtk 1 (dynTX (rtk 4 (stX (rtk 1 (rtk 1 (rdr b hb)))))))))) ?_ | refine LC.pure (bclone_c (rL (rtk 1 (dynTX (rtk 4 (stX (rtk 1 (rtk 1 (rdr b hb)))))))) (rL_le _)) ?_ | refine LC.pure (fencode_c (wpl (wck (dynT (rtk 4 (stX (rtk 1 (rtk 1 (rdr b hb))))) (stT (rtk 1 (rtk 1 (rdr b hb))) (s0 c 5))) (rv 1 (dynTX (rtk 4 (stX (rtk 1 (rtk 1 (rdr b hb)))))))) (rtk 1 (dynTX (rtk 4 (stX (rtk 1 (rtk 1 (rdr b hb))))))))) ?_ | refine LC.pure (bclone_c (rL (rtk 2 (rtk 1 (dynTX (rtk 4 (stX (rtk 1 (rdr b hb)))))))) (rL_le _)) ?_ | refine LC.pure (fencode_c (wpl (whc (wck (dynT (rtk 4 (stX (rtk 1 (rdr b hb)))) (stT (rtk 1 (rdr b hb)) (s0 c 5))) (rv 1 (dynTX (rtk 4 (stX (rtk 1 (rdr b hb))))))) (rv 2 (rtk 1 (dynTX (rtk 4 (stX (rtk 1 (rdr b hb)))))))) (rtk 2 (rtk 1 (dynTX (rtk 4 (stX (rtk 1 (rdr b hb))))))))) ?_ | refine LC.pure (bclone_c (rL (rtk 1 (dynTX (rtk 4 (stX (rtk 1 (rdr b hb))))))) (rL_le _)) ?_ | refine LC.pure (fencode_c (wpl (wck (dynT (rtk 4 (stX (rtk 1 (rdr b hb)))) (stT (rtk 1 (rdr b hb)) (s0 c 5))) (rv 1 (dynTX (rtk 4 (stX (rtk 1 (rdr b hb))))))) (rtk 1 (dynTX (rtk 4 (stX (rtk 1 (rdr b hb)))))))) ?_ | refine LC.pure (bequal_c _ _) ?_ | refine goE ?_)
     | refine T.s ?_
     | ((first | refine goB (fun h => ?_) (fun h => ?_) | refine AB.dec (fun h => ?_) (fun h => ?_) | refine AB.gen (fun h => ?_) (fun h => ?_)) <;> try (exfalso; omega))
     | refine LFresh.mk fun r => ?_
     | exact T.z
     | fail) <;> conv => whnf)
   all_goals (try dsimp only)
   all_goals (show RL _ _ _; refine goR ?_)
   all_goals (first | rewrite [big_t (by assumption)] | rewrite [big_f (by assumption)] | skip)
   all_goals first
     | (exact congrArg de (fin_e (by assumption)).symm)
     | (exact congrArg de (fin_n1 (by assumption) (by assumption)).symm)
     | (exact congrArg de (fin_n2 (by assumption) (by assumption)).symm)
     | (exact congrArg de (fin_k (by assumption) (by assumption) (by assumption)).symm)
     | (exfalso; simp_all; done)
     | trace_state
theorem fdec5U_c (b : List UInt8) (hb : b.length ≤ 140737488355328) (k : Int) (ck : Bool) (c : Int) (X : Rdr) (hp : peekR b = (c, 5, 0)) (he : rE (rtk 1 (rtk 1 X)) = false) (hk : rv 1 (rtk 1 X) = 1) (hc : (0 < c ∧ X = rtk 1 (rdr b hb)) ∨ (¬ 0 < c ∧ X = rdr b hb)) : LP Tryz.prog G 62 [bv b, iAV k, .bool ck] [] (fun _ => (de (bigR (dynUX (stX (rtk 1 X))) (dynU (stX (rtk 1 X)) (stH (rtk 1 X) (s0 c 5))) (dynF (stX (rtk 1 X))) b), [])):= by
 rcases hc with ⟨hc, rfl⟩ | ⟨hc, rfl⟩
 all_goals
   refine goW [] Tryz.func62 rfl ?_
   conv => whnf
   repeat' ((first
     | (rw [rcs_ok (X := rtk 2 (rtk 1 (dynUX (stX (rtk 1 (rtk 1 (rdr b hb))))))) (by assumption)]; conv => whnf)
     | (rw [rcs_ok (X := rtk 1 (dynUX (stX (rtk 1 (rtk 1 (rdr b hb)))))) (by assumption)]; conv => whnf)
     | (rw [rcs_ok (X := rtk 2 (rtk 1 (dynUX (stX (rtk 1 (rdr b hb)))))) (by assumption)]; conv => whnf)
     | (rw [rcs_ok (X := rtk 1 (dynUX (stX (rtk 1 (rdr b hb))))) (by assumption)]; conv => whnf)
     | (show LC _ _ _ _ _ _; first | refine LC.pure (fpk hp) ?_ | (apply LC.upd (ftb_c _ b hb); (repeat first | refine goH ?_ | apply LH.here | apply LH.next); refine ⟨rfl, ?_⟩) | (apply LC.upd (ft1_c _ _); (repeat first | refine goH ?_ | apply LH.here | apply LH.next); refine ⟨rfl, ?_⟩) | (apply LC.upd (ft2_c _ _); (repeat first | refine goH ?_ | apply LH.here | apply LH.next); refine ⟨rfl, ?_⟩) | (apply LC.upd (ft4_c _ _); (repeat first | refine goH ?_ | apply LH.here | apply LH.next); refine ⟨rfl, ?_⟩) | (refine LC.two (fun hne => fstatU_c _ _ (rtk 1 (rtk 1 (rdr b hb))) (hdk (s0 c 5) k) hne (by omega) (Or.inr hk)) ?_; (repeat first | refine goH ?_ | apply LH.here | apply LH.next); refine ⟨rfl, ?_⟩; (repeat first | refine goH ?_ | apply LH.here | apply LH.next); refine ⟨rfl, ?_⟩) | (refine LC.two (fun hne => fdynU_c _ _ (stX (rtk 1 (rtk 1 (rdr b hb)))) (stH (rtk 1 (rtk 1 (rdr b hb))) (s0 c 5)) hne (show rv 1 (rtk 1 (rtk 1 (rdr b hb))) ≠ 2 by omega)) ?_; (repeat first | refine goH ?_ | apply LH.here | apply LH.next); refine ⟨rfl, ?_⟩; (repeat first | refine goH ?_ | apply LH.here | apply LH.next); refine ⟨rfl, ?_⟩) | (refine LC.two (fun hne => fstatU_c _ _ (rtk 1 (rdr b hb)) (hdk (s0 c 5) k) hne (by omega) (Or.inr hk)) ?_; (repeat first | refine goH ?_ | apply LH.here | apply LH.next); refine ⟨rfl, ?_⟩; (repeat first | refine goH ?_ | apply LH.here | apply LH.next); refine ⟨rfl, ?_⟩) | (refine LC.two (fun hne => fdynU_c _ _ (stX (rtk 1 (rdr b hb))) (stH (rtk 1 (rdr b hb)) (s0 c 5)) hne (show rv 1 (rtk 1 (rdr b hb)) ≠ 2 by omega)) ?_; (repeat first | refine goH ?_ | apply LH.here | apply LH.next); refine ⟨rfl, ?_⟩; (repeat first | refine goH ?_ | apply LH.here | apply LH.next); refine ⟨rfl, ?_⟩) | refine LC.pure (bclone_c (rL (rtk 2 (rtk 1 (dynUX (stX (rtk 1 (rtk 1 (rdr b hb)))))))) (rL_le _)) ?_ | refine LC.pure (fencode_c (wpl (whc (wck (dynU (stX (rtk 1 (rtk 1 (rdr b hb)))) (stH (rtk 1 (rtk 1 (rdr b hb))) (s0 c 5))) (rv 1 (dynUX (stX (rtk 1 (rtk 1 (rdr b hb))))))) (rv 2 (rtk 1 (dynUX (stX (rtk 1 (rtk 1 (rdr b hb)))))))) (rtk 2 (rtk 1 (dynUX (stX (rtk 1 (rtk 1 (rdr b hb))))))))) ?_ | refine LC.pure (bclone_c (rL (rtk 1 (dynUX (stX (rtk 1 (rtk 1 (rdr b hb))))))) (rL_le _)) ?_ | refine LC.pure (fencode_c (wpl (wck (dynU (stX (rtk 1 (rtk 1 (rdr b hb)))) (stH (rtk 1 (rtk 1 (rdr b hb))) (s0 c 5))) (rv 1 (dynUX (stX (rtk 1 (rtk 1 (rdr b hb))))))) (rtk 1 (dynUX (stX (rtk 1 (rtk 1 (rdr b hb)))))))) ?_ | refine LC.pure (bclone_c (rL (rtk 2 (rtk 1 (dynUX (stX (rtk 1 (rdr b hb))))))) (rL_le _)) ?_ | refine LC.pure (fencode_c (wpl (whc (wck (dynU (stX (rtk 1 (rdr b hb))) (stH (rtk 1 (rdr b hb)) (s0 c 5))) (rv 1 (dynUX (stX (rtk 1 (rdr b hb)))))) (rv 2 (rtk 1 (dynUX (stX (rtk 1 (rdr b hb))))))) (rtk 2 (rtk 1 (dynUX (stX (rtk 1 (rdr b hb)))))))) ?_ | refine LC.pure (bclone_c (rL (rtk 1 (dynUX (stX (rtk 1 (rdr b hb)))))) (rL_le _)) ?_ | refine LC.pure (fencode_c (wpl (wck (dynU (stX (rtk 1 (rdr b hb))) (stH (rtk 1 (rdr b hb)) (s0 c 5))) (rv 1 (dynUX (stX (rtk 1 (rdr b hb)))))) (rtk 1 (dynUX (stX (rtk 1 (rdr b hb))))))) ?_ | refine LC.pure (bequal_c _ _) ?_ | refine goE ?_)
     | refine T.s ?_
     | ((first | refine goB (fun h => ?_) (fun h => ?_) | refine AB.dec (fun h => ?_) (fun h => ?_) | refine AB.gen (fun h => ?_) (fun h => ?_)) <;> try (exfalso; omega))
     | refine LFresh.mk fun r => ?_
     | exact T.z
     | fail) <;> conv => whnf)
   all_goals (try dsimp only)
   all_goals (show RL _ _ _; refine goR ?_)
   all_goals (first | rewrite [big_t (by assumption)] | rewrite [big_f (by assumption)] | skip)
   all_goals first
     | (exact congrArg de (fin_e (by assumption)).symm)
     | (exact congrArg de (fin_n1 (by assumption) (by assumption)).symm)
     | (exact congrArg de (fin_n2 (by assumption) (by assumption)).symm)
     | (exact congrArg de (fin_k (by assumption) (by assumption) (by assumption)).symm)
     | (exfalso; simp_all; done)
     | trace_state
theorem fdec5F_c (b : List UInt8) (hb : b.length ≤ 140737488355328) (k : Int) (ck : Bool) (c : Int) (X : Rdr) (hp : peekR b = (c, 5, 0)) (he : rE (rtk 1 (rtk 1 X)) = false) (h1 : rv 1 (rtk 1 X) ≠ 1) (h2 : rv 1 (rtk 1 X) ≠ 2) (hc : (0 < c ∧ X = rtk 1 (rdr b hb)) ∨ (¬ 0 < c ∧ X = rdr b hb)) : LP Tryz.prog G 62 [bv b, iAV k, .bool ck] [] (fun _ => (de (.inr 4), [])):= by
 rcases hc with ⟨hc, rfl⟩ | ⟨hc, rfl⟩
 all_goals
   refine goW [] Tryz.func62 rfl ?_
   conv => whnf
   repeat' ((first
     | (show LC _ _ _ _ _ _; first | refine LC.pure (fpk hp) ?_ | (apply LC.upd (ftb_c _ b hb); (repeat first | refine goH ?_ | apply LH.here | apply LH.next); refine ⟨rfl, ?_⟩) | (apply LC.upd (ft1_c _ _); (repeat first | refine goH ?_ | apply LH.here | apply LH.next); refine ⟨rfl, ?_⟩) | (apply LC.upd (ft2_c _ _); (repeat first | refine goH ?_ | apply LH.here | apply LH.next); refine ⟨rfl, ?_⟩) | (apply LC.upd (ft4_c _ _); (repeat first | refine goH ?_ | apply LH.here | apply LH.next); refine ⟨rfl, ?_⟩) | (refine LC.two (fun hne => fstatF_c _ _ (rtk 1 (rtk 1 (rdr b hb))) (hdk (s0 c 5) k) hne he h1 h2) ?_; (repeat first | refine goH ?_ | apply LH.here | apply LH.next); refine ⟨rfl, ?_⟩; (repeat first | refine goH ?_ | apply LH.here | apply LH.next); refine ⟨rfl, ?_⟩) | (refine LC.two (fun hne => fstatF_c _ _ (rtk 1 (rdr b hb)) (hdk (s0 c 5) k) hne he h1 h2) ?_; (repeat first | refine goH ?_ | apply LH.here | apply LH.next); refine ⟨rfl, ?_⟩; (repeat first | refine goH ?_ | apply LH.here | apply LH.next); refine ⟨rfl, ?_⟩) | refine LC.pure (bequal_c _ _) ?_ | refine goE ?_)
     | refine T.s ?_
     | ((first | refine goB (fun h => ?_) (fun h => ?_) | refine AB.dec (fun h => ?_) (fun h => ?_) | refine AB.gen (fun h => ?_) (fun h => ?_)) <;> try (exfalso; omega))
     | refine LFresh.mk fun r => ?_
     | exact T.z
     | fail) <;> conv => whnf)
   all_goals (try dsimp only)
   all_goals (show RL _ _ _; refine goR ?_)
   all_goals (first | rewrite [big_t (by assumption)] | rewrite [big_f (by assumption)] | skip)
   all_goals first
     | rfl
     | (exact congrArg de (fin_e (by assumption)).symm)
     | (exact congrArg de (fin_n1 (by assumption) (by assumption)).symm)
     | (exact congrArg de (fin_n2 (by assumption) (by assumption)).symm)
     | (exact congrArg de (fin_k (by assumption) (by assumption) (by assumption)).symm)
     | (exfalso; simp_all; done)
     | trace_state
theorem fdec6_c (b : List UInt8) (hb : b.length ≤ 140737488355328) (k : Int) (ck : Bool) (c : Int) (X : Rdr) (hp : peekR b = (c, 6, 0)) (hc : (0 < c ∧ X = rtk 1 (rdr b hb)) ∨ (¬ 0 < c ∧ X = rdr b hb)) : LP Tryz.prog G 62 [bv b, iAV k, .bool ck] [] (fun _ => (de (finR (rtk 1 X) (s0 c 6) b), [])):= by
 rcases hc with ⟨hc, rfl⟩ | ⟨hc, rfl⟩
 all_goals
   refine goW [] Tryz.func62 rfl ?_
   conv => whnf
   repeat' ((first
     | (rw [rcs_ok (X := rtk 1 (rtk 1 (rdr b hb))) (by assumption)]; conv => whnf)
     | (rw [rcs_ok (X := rtk 1 (rdr b hb)) (by assumption)]; conv => whnf)
     | (show LC _ _ _ _ _ _; first | refine LC.pure (fpk hp) ?_ | (apply LC.upd (ftb_c _ b hb); (repeat first | refine goH ?_ | apply LH.here | apply LH.next); refine ⟨rfl, ?_⟩) | (apply LC.upd (ft1_c _ _); (repeat first | refine goH ?_ | apply LH.here | apply LH.next); refine ⟨rfl, ?_⟩) | (apply LC.upd (ft2_c _ _); (repeat first | refine goH ?_ | apply LH.here | apply LH.next); refine ⟨rfl, ?_⟩) | (apply LC.upd (ft4_c _ _); (repeat first | refine goH ?_ | apply LH.here | apply LH.next); refine ⟨rfl, ?_⟩) | refine LC.pure (bclone_c (rL (rtk 1 (rtk 1 (rdr b hb)))) (rL_le _)) ?_ | refine LC.pure (fencode_c (wpl (s0 c 6) (rtk 1 (rtk 1 (rdr b hb))))) ?_ | refine LC.pure (bclone_c (rL (rtk 1 (rdr b hb))) (rL_le _)) ?_ | refine LC.pure (fencode_c (wpl (s0 c 6) (rtk 1 (rdr b hb)))) ?_ | refine LC.pure (bequal_c _ _) ?_ | refine goE ?_)
     | refine T.s ?_
     | ((first | refine goB (fun h => ?_) (fun h => ?_) | refine AB.dec (fun h => ?_) (fun h => ?_) | refine AB.gen (fun h => ?_) (fun h => ?_)) <;> try (exfalso; omega))
     | refine LFresh.mk fun r => ?_
     | exact T.z
     | fail) <;> conv => whnf)
   all_goals (try dsimp only)
   all_goals (show RL _ _ _; refine goR ?_)
   all_goals first
     | (exact congrArg de (fin_e (by assumption)).symm)
     | (exact congrArg de (fin_n1 (by assumption) (by assumption)).symm)
     | (exact congrArg de (fin_n2 (by assumption) (by assumption)).symm)
     | (exact congrArg de (fin_k (by assumption) (by assumption) (by assumption)).symm)
     | (exfalso; simp_all; done)
     | trace_state
end Go.Proofs.YtkfpgdckdmlhkaaGreatDoor
