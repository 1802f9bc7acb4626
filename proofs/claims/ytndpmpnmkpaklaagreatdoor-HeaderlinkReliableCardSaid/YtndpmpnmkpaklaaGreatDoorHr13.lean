/-
  Contracts of the functions that the laws reach.
-/
import Derived.Test.YtndpmpnmkpaklaaGreatDoorHr11
set_option maxHeartbeats 4000000
set_option linter.all false
namespace Go.Proofs.YtndpmpnmkpaklaaGreatDoor
open Go.RowKit
variable {G:Nat→AV}
theorem fdec4T_c(b:List UInt8)(hb:b.length≤140737488355328)(ck:Bool)(c:Int)(X:Rdr)(hp:qp b=(c,4,0))(hc:(0<c∧X=rtk 1 (rdr b hb))∨(¬0<c∧X=rdr b hb)):LP Tryz.prog G 126 [bv b,iAV 2,.bool ck] [] (fun _=>(de (ku (qK (rtk 1 X)) (wa (rtk 1 X) (hdk (s0 c 4) 2)) (xO (rtk 1 X)) b),[])):= by
 rcases hc with ⟨hc,rfl⟩|⟨hc,rfl⟩
 all_goals
   refine goW [] Tryz.func126 rfl ?_
   conv=>whnf
   repeat'((first|(rw[qC (X:=rtk 2 (rtk 1 (qK (rtk 1 (rtk 1 (rdr b hb)))))) (by assumption)];conv=>whnf)|(rw[qC (X:=rtk 1 (qK (rtk 1 (rtk 1 (rdr b hb))))) (by assumption)];conv=>whnf)|(rw[qC (X:=rtk 2 (rtk 1 (qK (rtk 1 (rdr b hb))))) (by assumption)];conv=>whnf)|(rw[qC (X:=rtk 1 (qK (rtk 1 (rdr b hb)))) (by assumption)];conv=>whnf)|(show LC _ _ _ _ _ _;first|refine LC.pure (fpk hp) ?_|(apply LC.upd (jT _ b hb);(repeat first|refine goH ?_|apply LH.here|apply LH.next);refine⟨rfl,?_⟩)|(apply LC.upd (zN _ _);(repeat first|refine goH ?_|apply LH.here|apply LH.next);refine⟨rfl,?_⟩)|(apply LC.upd (x8 _ _);(repeat first|refine goH ?_|apply LH.here|apply LH.next);refine⟨rfl,?_⟩)|(apply LC.upd (zZ _ _);(repeat first|refine goH ?_|apply LH.here|apply LH.next);refine⟨rfl,?_⟩)|(refine LC.two (fun hne=>fdynT_c _ _ (rtk 1 (rtk 1 (rdr b hb))) (hdk (s0 c 4) 2) hne rfl) ?_;(repeat first|refine goH ?_|apply LH.here|apply LH.next);refine⟨rfl,?_⟩;(repeat first|refine goH ?_|apply LH.here|apply LH.next);refine⟨rfl,?_⟩)|(refine LC.two (fun hne=>fdynT_c _ _ (rtk 1 (rdr b hb)) (hdk (s0 c 4) 2) hne rfl) ?_;(repeat first|refine goH ?_|apply LH.here|apply LH.next);refine⟨rfl,?_⟩;(repeat first|refine goH ?_|apply LH.here|apply LH.next);refine⟨rfl,?_⟩)|refine LC.pure (qh (rL (rtk 2 (rtk 1 (qK (rtk 1 (rtk 1 (rdr b hb))))))) (qT _)) ?_|refine LC.pure (qd (wpl (whc (wck (wa (rtk 1 (rtk 1 (rdr b hb))) (hdk (s0 c 4) 2)) (rv 1 (qK (rtk 1 (rtk 1 (rdr b hb)))))) (rv 2 (rtk 1 (qK (rtk 1 (rtk 1 (rdr b hb))))))) (rtk 2 (rtk 1 (qK (rtk 1 (rtk 1 (rdr b hb)))))))) ?_|refine LC.pure (qh (rL (rtk 1 (qK (rtk 1 (rtk 1 (rdr b hb)))))) (qT _)) ?_|refine LC.pure (qd (wpl (wck (wa (rtk 1 (rtk 1 (rdr b hb))) (hdk (s0 c 4) 2)) (rv 1 (qK (rtk 1 (rtk 1 (rdr b hb)))))) (rtk 1 (qK (rtk 1 (rtk 1 (rdr b hb))))))) ?_|refine LC.pure (qh (rL (rtk 2 (rtk 1 (qK (rtk 1 (rdr b hb)))))) (qT _)) ?_|refine LC.pure (qd (wpl (whc (wck (wa (rtk 1 (rdr b hb)) (hdk (s0 c 4) 2)) (rv 1 (qK (rtk 1 (rdr b hb))))) (rv 2 (rtk 1 (qK (rtk 1 (rdr b hb)))))) (rtk 2 (rtk 1 (qK (rtk 1 (rdr b hb))))))) ?_|refine LC.pure (qh (rL (rtk 1 (qK (rtk 1 (rdr b hb))))) (qT _)) ?_|refine LC.pure (qd (wpl (wck (wa (rtk 1 (rdr b hb)) (hdk (s0 c 4) 2)) (rv 1 (qK (rtk 1 (rdr b hb))))) (rtk 1 (qK (rtk 1 (rdr b hb)))))) ?_|refine LC.pure (ze _ _) ?_|refine goE ?_)|refine T.s ?_|((first|apply goB|apply AB.dec|apply AB.gen)<;>intro h<;>try(exfalso;omega))|refine LQ.mk fun r=>?_|exact T.z|fail)<;>conv=>whnf)
   all_goals(try dsimp only)
   all_goals(show RL _ _ _;refine goR ?_)
   all_goals(first|rewrite[big_t (by assumption)]|rewrite[big_f (by assumption)]|skip)
   all_goals first
     | (exact congrArg de (jW (by assumption)).symm)
     | (exact congrArg de (xJ (by assumption) (by assumption)).symm)
     | (exact congrArg de (xU (by assumption) (by assumption)).symm)
     | (exact congrArg de (jV (by assumption) (by assumption) (by assumption)).symm)
     | (exfalso;simp_all;done)
     | trace_state
theorem fdec4U_c(b:List UInt8)(hb:b.length≤140737488355328)(ck:Bool)(c:Int)(X:Rdr)(hp:qp b=(c,4,0))(hc:(0<c∧X=rtk 1 (rdr b hb))∨(¬0<c∧X=rdr b hb)):LP Tryz.prog G 126 [bv b,iAV 1,.bool ck] [] (fun _=>(de (ku (qI (rtk 1 X)) (w9 (rtk 1 X) (hdk (s0 c 4) 1)) (xO (rtk 1 X)) b),[])):= by
 rcases hc with ⟨hc,rfl⟩|⟨hc,rfl⟩
 all_goals
   refine goW [] Tryz.func126 rfl ?_
   conv=>whnf
   repeat'((first|(rw[qC (X:=rtk 2 (rtk 1 (qI (rtk 1 (rtk 1 (rdr b hb)))))) (by assumption)];conv=>whnf)|(rw[qC (X:=rtk 1 (qI (rtk 1 (rtk 1 (rdr b hb))))) (by assumption)];conv=>whnf)|(rw[qC (X:=rtk 2 (rtk 1 (qI (rtk 1 (rdr b hb))))) (by assumption)];conv=>whnf)|(rw[qC (X:=rtk 1 (qI (rtk 1 (rdr b hb)))) (by assumption)];conv=>whnf)|(show LC _ _ _ _ _ _;first|refine LC.pure (fpk hp) ?_|(apply LC.upd (jT _ b hb);(repeat first|refine goH ?_|apply LH.here|apply LH.next);refine⟨rfl,?_⟩)|(apply LC.upd (zN _ _);(repeat first|refine goH ?_|apply LH.here|apply LH.next);refine⟨rfl,?_⟩)|(apply LC.upd (x8 _ _);(repeat first|refine goH ?_|apply LH.here|apply LH.next);refine⟨rfl,?_⟩)|(apply LC.upd (zZ _ _);(repeat first|refine goH ?_|apply LH.here|apply LH.next);refine⟨rfl,?_⟩)|(refine LC.two (fun hne=>wC _ _ (rtk 1 (rtk 1 (rdr b hb))) (hdk (s0 c 4) 1) hne (show(1:Int)≠2 by decide)) ?_;(repeat first|refine goH ?_|apply LH.here|apply LH.next);refine⟨rfl,?_⟩;(repeat first|refine goH ?_|apply LH.here|apply LH.next);refine⟨rfl,?_⟩)|(refine LC.two (fun hne=>wC _ _ (rtk 1 (rdr b hb)) (hdk (s0 c 4) 1) hne (show(1:Int)≠2 by decide)) ?_;(repeat first|refine goH ?_|apply LH.here|apply LH.next);refine⟨rfl,?_⟩;(repeat first|refine goH ?_|apply LH.here|apply LH.next);refine⟨rfl,?_⟩)|refine LC.pure (qh (rL (rtk 2 (rtk 1 (qI (rtk 1 (rtk 1 (rdr b hb))))))) (qT _)) ?_|refine LC.pure (qd (wpl (whc (wck (w9 (rtk 1 (rtk 1 (rdr b hb))) (hdk (s0 c 4) 1)) (rv 1 (qI (rtk 1 (rtk 1 (rdr b hb)))))) (rv 2 (rtk 1 (qI (rtk 1 (rtk 1 (rdr b hb))))))) (rtk 2 (rtk 1 (qI (rtk 1 (rtk 1 (rdr b hb)))))))) ?_|refine LC.pure (qh (rL (rtk 1 (qI (rtk 1 (rtk 1 (rdr b hb)))))) (qT _)) ?_|refine LC.pure (qd (wpl (wck (w9 (rtk 1 (rtk 1 (rdr b hb))) (hdk (s0 c 4) 1)) (rv 1 (qI (rtk 1 (rtk 1 (rdr b hb)))))) (rtk 1 (qI (rtk 1 (rtk 1 (rdr b hb))))))) ?_|refine LC.pure (qh (rL (rtk 2 (rtk 1 (qI (rtk 1 (rdr b hb)))))) (qT _)) ?_|refine LC.pure (qd (wpl (whc (wck (w9 (rtk 1 (rdr b hb)) (hdk (s0 c 4) 1)) (rv 1 (qI (rtk 1 (rdr b hb))))) (rv 2 (rtk 1 (qI (rtk 1 (rdr b hb)))))) (rtk 2 (rtk 1 (qI (rtk 1 (rdr b hb))))))) ?_|refine LC.pure (qh (rL (rtk 1 (qI (rtk 1 (rdr b hb))))) (qT _)) ?_|refine LC.pure (qd (wpl (wck (w9 (rtk 1 (rdr b hb)) (hdk (s0 c 4) 1)) (rv 1 (qI (rtk 1 (rdr b hb))))) (rtk 1 (qI (rtk 1 (rdr b hb)))))) ?_|refine LC.pure (ze _ _) ?_|refine goE ?_)|refine T.s ?_|((first|apply goB|apply AB.dec|apply AB.gen)<;>intro h<;>try(exfalso;omega))|refine LQ.mk fun r=>?_|exact T.z|fail)<;>conv=>whnf)
   all_goals(try dsimp only)
   all_goals(show RL _ _ _;refine goR ?_)
   all_goals(first|rewrite[big_t (by assumption)]|rewrite[big_f (by assumption)]|skip)
   all_goals first
     | (exact congrArg de (jW (by assumption)).symm)
     | (exact congrArg de (xJ (by assumption) (by assumption)).symm)
     | (exact congrArg de (xU (by assumption) (by assumption)).symm)
     | (exact congrArg de (jV (by assumption) (by assumption) (by assumption)).symm)
     | (exfalso;simp_all;done)
     | trace_state
theorem fdec5E_c(b:List UInt8)(hb:b.length≤140737488355328)(k:Int)(ck:Bool)(c:Int)(X:Rdr)(hp:qp b=(c,5,0))(he:rE (rtk 1 (rtk 1 X))=true)(hc:(0<c∧X=rtk 1 (rdr b hb))∨(¬0<c∧X=rdr b hb)):LP Tryz.prog G 126 [bv b,iAV k,.bool ck] [] (fun _=>(de (.inr 5),[])):= by
 have hk0:rv 1 (rtk 1 X)=0:=rv_end _ _ he
 have hE1:rE (rtk 2 (rtk 1 (qI (stX (rtk 1 X)))))=true:=by repeat first|exact he|apply rE_take
 have hE2:rE (rtk 1 (qI (stX (rtk 1 X))))=true:=by repeat first|exact he|apply rE_take
 rcases hc with ⟨hc,rfl⟩|⟨hc,rfl⟩
 all_goals
   refine goW [] Tryz.func126 rfl ?_
   conv=>whnf
   repeat'((first|(show LC _ _ _ _ _ _;first|refine LC.pure (fpk hp) ?_|(apply LC.upd (jT _ b hb);(repeat first|refine goH ?_|apply LH.here|apply LH.next);refine⟨rfl,?_⟩)|(apply LC.upd (zN _ _);(repeat first|refine goH ?_|apply LH.here|apply LH.next);refine⟨rfl,?_⟩)|(apply LC.upd (x8 _ _);(repeat first|refine goH ?_|apply LH.here|apply LH.next);refine⟨rfl,?_⟩)|(apply LC.upd (zZ _ _);(repeat first|refine goH ?_|apply LH.here|apply LH.next);refine⟨rfl,?_⟩)|(refine LC.two (fun hne=>yA _ _ (rtk 1 (rtk 1 (rdr b hb))) (hdk (s0 c 5) k) hne (by omega) (Or.inl he)) ?_;(repeat first|refine goH ?_|apply LH.here|apply LH.next);refine⟨rfl,?_⟩;(repeat first|refine goH ?_|apply LH.here|apply LH.next);refine⟨rfl,?_⟩)|(refine LC.two (fun hne=>wC _ _ (stX (rtk 1 (rtk 1 (rdr b hb)))) (stH (rtk 1 (rtk 1 (rdr b hb))) (s0 c 5)) hne (show rv 1 (rtk 1 (rtk 1 (rdr b hb)))≠2 by omega)) ?_;(repeat first|refine goH ?_|apply LH.here|apply LH.next);refine⟨rfl,?_⟩;(repeat first|refine goH ?_|apply LH.here|apply LH.next);refine⟨rfl,?_⟩)|(refine LC.two (fun hne=>yA _ _ (rtk 1 (rdr b hb)) (hdk (s0 c 5) k) hne (by omega) (Or.inl he)) ?_;(repeat first|refine goH ?_|apply LH.here|apply LH.next);refine⟨rfl,?_⟩;(repeat first|refine goH ?_|apply LH.here|apply LH.next);refine⟨rfl,?_⟩)|(refine LC.two (fun hne=>wC _ _ (stX (rtk 1 (rdr b hb))) (stH (rtk 1 (rdr b hb)) (s0 c 5)) hne (show rv 1 (rtk 1 (rdr b hb))≠2 by omega)) ?_;(repeat first|refine goH ?_|apply LH.here|apply LH.next);refine⟨rfl,?_⟩;(repeat first|refine goH ?_|apply LH.here|apply LH.next);refine⟨rfl,?_⟩)|refine LC.pure (ze _ _) ?_|refine goE ?_)|refine T.s ?_|((first|apply goB|apply AB.dec|apply AB.gen)<;>intro h<;>try(exfalso;omega))|refine LQ.mk fun r=>?_|exact T.z|fail)<;>conv=>whnf)
   all_goals(try dsimp only)
   all_goals(show RL _ _ _;refine goR ?_)
   all_goals(first|rewrite[big_t (by assumption)]|rewrite[big_f (by assumption)]|skip)
   all_goals first
     | rfl
     | (exact congrArg de (jW (by assumption)).symm)
     | (exact congrArg de (xJ (by assumption) (by assumption)).symm)
     | (exact congrArg de (xU (by assumption) (by assumption)).symm)
     | (exact congrArg de (jV (by assumption) (by assumption) (by assumption)).symm)
     | (exfalso;simp_all;done)
     | trace_state
theorem fdec5T_c(b:List UInt8)(hb:b.length≤140737488355328)(k:Int)(ck:Bool)(c:Int)(X:Rdr)(hp:qp b=(c,5,0))(he:rE (rtk 1 (rtk 1 X))=false)(hk:rv 1 (rtk 1 X)=2)(hc:(0<c∧X=rtk 1 (rdr b hb))∨(¬0<c∧X=rdr b hb)):LP Tryz.prog G 126 [bv b,iAV k,.bool ck] [] (fun _=>(de (ku (qK (rtk 4 (stX (rtk 1 X)))) (wa (rtk 4 (stX (rtk 1 X))) (stT (rtk 1 X) (s0 c 5))) (xO (rtk 4 (stX (rtk 1 X)))) b),[])):= by
 rcases hc with ⟨hc,rfl⟩|⟨hc,rfl⟩
 all_goals
   refine goW [] Tryz.func126 rfl ?_
   conv=>whnf
   repeat'((first|(rw[qC (X:=rtk 2 (rtk 1 (qK (rtk 4 (stX (rtk 1 (rtk 1 (rdr b hb)))))))) (by assumption)];conv=>whnf)|(rw[qC (X:=rtk 1 (qK (rtk 4 (stX (rtk 1 (rtk 1 (rdr b hb))))))) (by assumption)];conv=>whnf)|(rw[qC (X:=rtk 2 (rtk 1 (qK (rtk 4 (stX (rtk 1 (rdr b hb))))))) (by assumption)];conv=>whnf)|(rw[qC (X:=rtk 1 (qK (rtk 4 (stX (rtk 1 (rdr b hb)))))) (by assumption)];conv=>whnf)|(show LC _ _ _ _ _ _;first|refine LC.pure (fpk hp) ?_|(apply LC.upd (jT _ b hb);(repeat first|refine goH ?_|apply LH.here|apply LH.next);refine⟨rfl,?_⟩)|(apply LC.upd (zN _ _);(repeat first|refine goH ?_|apply LH.here|apply LH.next);refine⟨rfl,?_⟩)|(apply LC.upd (x8 _ _);(repeat first|refine goH ?_|apply LH.here|apply LH.next);refine⟨rfl,?_⟩)|(apply LC.upd (zZ _ _);(repeat first|refine goH ?_|apply LH.here|apply LH.next);refine⟨rfl,?_⟩)|(refine LC.two (fun hne=>fstatT_c _ _ (rtk 1 (rtk 1 (rdr b hb))) (hdk (s0 c 5) k) hne hk) ?_;(repeat first|refine goH ?_|apply LH.here|apply LH.next);refine⟨rfl,?_⟩;(repeat first|refine goH ?_|apply LH.here|apply LH.next);refine⟨rfl,?_⟩)|(refine LC.two (fun hne=>fdynT_c _ _ (rtk 4 (stX (rtk 1 (rtk 1 (rdr b hb))))) (stT (rtk 1 (rtk 1 (rdr b hb))) (s0 c 5)) hne hk) ?_;(repeat first|refine goH ?_|apply LH.here|apply LH.next);refine⟨rfl,?_⟩;(repeat first|refine goH ?_|apply LH.here|apply LH.next);refine⟨rfl,?_⟩)|(refine LC.two (fun hne=>fstatT_c _ _ (rtk 1 (rdr b hb)) (hdk (s0 c 5) k) hne hk) ?_;(repeat first|refine goH ?_|apply LH.here|apply LH.next);refine⟨rfl,?_⟩;(repeat first|refine goH ?_|apply LH.here|apply LH.next);refine⟨rfl,?_⟩)|(refine LC.two (fun hne=>fdynT_c _ _ (rtk 4 (stX (rtk 1 (rdr b hb)))) (stT (rtk 1 (rdr b hb)) (s0 c 5)) hne hk) ?_;(repeat first|refine goH ?_|apply LH.here|apply LH.next);refine⟨rfl,?_⟩;(repeat first|refine goH ?_|apply LH.here|apply LH.next);refine⟨rfl,?_⟩)|refine LC.pure (qh (rL (rtk 2 (rtk 1 (qK (rtk 4 (stX (rtk 1 (rtk 1 (rdr b hb))))))))) (qT _)) ?_|refine LC.pure (qd (wpl (whc (wck (wa (rtk 4 (stX (rtk 1 (rtk 1 (rdr b hb))))) (stT (rtk 1 (rtk 1 (rdr b hb))) (s0 c 5))) (rv 1 (qK (rtk 4 (stX (rtk 1 (rtk 1 (rdr b hb)))))))) (rv 2 (rtk 1 (qK (rtk 4 (stX (rtk 1 (rtk 1 (rdr b hb))))))))) (rtk 2 (rtk 1 (qK (rtk 4 (stX (rtk 1 (rtk 1 (rdr b hb)))))))))) ?_|refine LC.pure (qh (rL (rtk 1 (qK (rtk 4 (stX (rtk 1 (rtk 1 (rdr b hb)))))))) (qT _)) ?_|refine LC.pure (qd (wpl (wck (wa (rtk 4 (stX (rtk 1 (rtk 1 (rdr b hb))))) (stT (rtk 1 (rtk 1 (rdr b hb))) (s0 c 5))) (rv 1 (qK (rtk 4 (stX (rtk 1 (rtk 1 (rdr b hb)))))))) (rtk 1 (qK (rtk 4 (stX (rtk 1 (rtk 1 (rdr b hb))))))))) ?_|refine LC.pure (qh (rL (rtk 2 (rtk 1 (qK (rtk 4 (stX (rtk 1 (rdr b hb)))))))) (qT _)) ?_|refine LC.pure (qd (wpl (whc (wck (wa (rtk 4 (stX (rtk 1 (rdr b hb)))) (stT (rtk 1 (rdr b hb)) (s0 c 5))) (rv 1 (qK (rtk 4 (stX (rtk 1 (rdr b hb))))))) (rv 2 (rtk 1 (qK (rtk 4 (stX (rtk 1 (rdr b hb)))))))) (rtk 2 (rtk 1 (qK (rtk 4 (stX (rtk 1 (rdr b hb))))))))) ?_|refine LC.pure (qh (rL (rtk 1 (qK (rtk 4 (stX (rtk 1 (rdr b hb))))))) (qT _)) ?_|refine LC.pure (qd (wpl (wck (wa (rtk 4 (stX (rtk 1 (rdr b hb)))) (stT (rtk 1 (rdr b hb)) (s0 c 5))) (rv 1 (qK (rtk 4 (stX (rtk 1 (rdr b hb))))))) (rtk 1 (qK (rtk 4 (stX (rtk 1 (rdr b hb)))))))) ?_|refine LC.pure (ze _ _) ?_|refine goE ?_)|refine T.s ?_|((first|apply goB|apply AB.dec|apply AB.gen)<;>intro h<;>try(exfalso;omega))|refine LQ.mk fun r=>?_|exact T.z|fail)<;>conv=>whnf)
   all_goals(try dsimp only)
   all_goals(show RL _ _ _;refine goR ?_)
   all_goals(first|rewrite[big_t (by assumption)]|rewrite[big_f (by assumption)]|skip)
   all_goals first
     | (exact congrArg de (jW (by assumption)).symm)
     | (exact congrArg de (xJ (by assumption) (by assumption)).symm)
     | (exact congrArg de (xU (by assumption) (by assumption)).symm)
     | (exact congrArg de (jV (by assumption) (by assumption) (by assumption)).symm)
     | (exfalso;simp_all;done)
     | trace_state
theorem fdec5U_c(b:List UInt8)(hb:b.length≤140737488355328)(k:Int)(ck:Bool)(c:Int)(X:Rdr)(hp:qp b=(c,5,0))(he:rE (rtk 1 (rtk 1 X))=false)(hk:rv 1 (rtk 1 X)=1)(hc:(0<c∧X=rtk 1 (rdr b hb))∨(¬0<c∧X=rdr b hb)):LP Tryz.prog G 126 [bv b,iAV k,.bool ck] [] (fun _=>(de (ku (qI (stX (rtk 1 X))) (w9 (stX (rtk 1 X)) (stH (rtk 1 X) (s0 c 5))) (xO (stX (rtk 1 X))) b),[])):= by
 rcases hc with ⟨hc,rfl⟩|⟨hc,rfl⟩
 all_goals
   refine goW [] Tryz.func126 rfl ?_
   conv=>whnf
   repeat'((first|(rw[qC (X:=rtk 2 (rtk 1 (qI (stX (rtk 1 (rtk 1 (rdr b hb))))))) (by assumption)];conv=>whnf)|(rw[qC (X:=rtk 1 (qI (stX (rtk 1 (rtk 1 (rdr b hb)))))) (by assumption)];conv=>whnf)|(rw[qC (X:=rtk 2 (rtk 1 (qI (stX (rtk 1 (rdr b hb)))))) (by assumption)];conv=>whnf)|(rw[qC (X:=rtk 1 (qI (stX (rtk 1 (rdr b hb))))) (by assumption)];conv=>whnf)|(show LC _ _ _ _ _ _;first|refine LC.pure (fpk hp) ?_|(apply LC.upd (jT _ b hb);(repeat first|refine goH ?_|apply LH.here|apply LH.next);refine⟨rfl,?_⟩)|(apply LC.upd (zN _ _);(repeat first|refine goH ?_|apply LH.here|apply LH.next);refine⟨rfl,?_⟩)|(apply LC.upd (x8 _ _);(repeat first|refine goH ?_|apply LH.here|apply LH.next);refine⟨rfl,?_⟩)|(apply LC.upd (zZ _ _);(repeat first|refine goH ?_|apply LH.here|apply LH.next);refine⟨rfl,?_⟩)|(refine LC.two (fun hne=>yA _ _ (rtk 1 (rtk 1 (rdr b hb))) (hdk (s0 c 5) k) hne (by omega) (Or.inr hk)) ?_;(repeat first|refine goH ?_|apply LH.here|apply LH.next);refine⟨rfl,?_⟩;(repeat first|refine goH ?_|apply LH.here|apply LH.next);refine⟨rfl,?_⟩)|(refine LC.two (fun hne=>wC _ _ (stX (rtk 1 (rtk 1 (rdr b hb)))) (stH (rtk 1 (rtk 1 (rdr b hb))) (s0 c 5)) hne (show rv 1 (rtk 1 (rtk 1 (rdr b hb)))≠2 by omega)) ?_;(repeat first|refine goH ?_|apply LH.here|apply LH.next);refine⟨rfl,?_⟩;(repeat first|refine goH ?_|apply LH.here|apply LH.next);refine⟨rfl,?_⟩)|(refine LC.two (fun hne=>yA _ _ (rtk 1 (rdr b hb)) (hdk (s0 c 5) k) hne (by omega) (Or.inr hk)) ?_;(repeat first|refine goH ?_|apply LH.here|apply LH.next);refine⟨rfl,?_⟩;(repeat first|refine goH ?_|apply LH.here|apply LH.next);refine⟨rfl,?_⟩)|(refine LC.two (fun hne=>wC _ _ (stX (rtk 1 (rdr b hb))) (stH (rtk 1 (rdr b hb)) (s0 c 5)) hne (show rv 1 (rtk 1 (rdr b hb))≠2 by omega)) ?_;(repeat first|refine goH ?_|apply LH.here|apply LH.next);refine⟨rfl,?_⟩;(repeat first|refine goH ?_|apply LH.here|apply LH.next);refine⟨rfl,?_⟩)|refine LC.pure (qh (rL (rtk 2 (rtk 1 (qI (stX (rtk 1 (rtk 1 (rdr b hb)))))))) (qT _)) ?_|refine LC.pure (qd (wpl (whc (wck (w9 (stX (rtk 1 (rtk 1 (rdr b hb)))) (stH (rtk 1 (rtk 1 (rdr b hb))) (s0 c 5))) (rv 1 (qI (stX (rtk 1 (rtk 1 (rdr b hb))))))) (rv 2 (rtk 1 (qI (stX (rtk 1 (rtk 1 (rdr b hb)))))))) (rtk 2 (rtk 1 (qI (stX (rtk 1 (rtk 1 (rdr b hb))))))))) ?_|refine LC.pure (qh (rL (rtk 1 (qI (stX (rtk 1 (rtk 1 (rdr b hb))))))) (qT _)) ?_|refine LC.pure (qd (wpl (wck (w9 (stX (rtk 1 (rtk 1 (rdr b hb)))) (stH (rtk 1 (rtk 1 (rdr b hb))) (s0 c 5))) (rv 1 (qI (stX (rtk 1 (rtk 1 (rdr b hb))))))) (rtk 1 (qI (stX (rtk 1 (rtk 1 (rdr b hb)))))))) ?_|refine LC.pure (qh (rL (rtk 2 (rtk 1 (qI (stX (rtk 1 (rdr b hb))))))) (qT _)) ?_|refine LC.pure (qd (wpl (whc (wck (w9 (stX (rtk 1 (rdr b hb))) (stH (rtk 1 (rdr b hb)) (s0 c 5))) (rv 1 (qI (stX (rtk 1 (rdr b hb)))))) (rv 2 (rtk 1 (qI (stX (rtk 1 (rdr b hb))))))) (rtk 2 (rtk 1 (qI (stX (rtk 1 (rdr b hb)))))))) ?_|refine LC.pure (qh (rL (rtk 1 (qI (stX (rtk 1 (rdr b hb)))))) (qT _)) ?_|refine LC.pure (qd (wpl (wck (w9 (stX (rtk 1 (rdr b hb))) (stH (rtk 1 (rdr b hb)) (s0 c 5))) (rv 1 (qI (stX (rtk 1 (rdr b hb)))))) (rtk 1 (qI (stX (rtk 1 (rdr b hb))))))) ?_|refine LC.pure (ze _ _) ?_|refine goE ?_)|refine T.s ?_|((first|apply goB|apply AB.dec|apply AB.gen)<;>intro h<;>try(exfalso;omega))|refine LQ.mk fun r=>?_|exact T.z|fail)<;>conv=>whnf)
   all_goals(try dsimp only)
   all_goals(show RL _ _ _;refine goR ?_)
   all_goals(first|rewrite[big_t (by assumption)]|rewrite[big_f (by assumption)]|skip)
   all_goals first
     | (exact congrArg de (jW (by assumption)).symm)
     | (exact congrArg de (xJ (by assumption) (by assumption)).symm)
     | (exact congrArg de (xU (by assumption) (by assumption)).symm)
     | (exact congrArg de (jV (by assumption) (by assumption) (by assumption)).symm)
     | (exfalso;simp_all;done)
     | trace_state
theorem fdec5F_c(b:List UInt8)(hb:b.length≤140737488355328)(k:Int)(ck:Bool)(c:Int)(X:Rdr)(hp:qp b=(c,5,0))(he:rE (rtk 1 (rtk 1 X))=false)(h1:rv 1 (rtk 1 X)≠1)(h2:rv 1 (rtk 1 X)≠2)(hc:(0<c∧X=rtk 1 (rdr b hb))∨(¬0<c∧X=rdr b hb)):LP Tryz.prog G 126 [bv b,iAV k,.bool ck] [] (fun _=>(de (.inr 4),[])):= by
 rcases hc with ⟨hc,rfl⟩|⟨hc,rfl⟩
 all_goals
   refine goW [] Tryz.func126 rfl ?_
   conv=>whnf
   repeat'((first|(show LC _ _ _ _ _ _;first|refine LC.pure (fpk hp) ?_|(apply LC.upd (jT _ b hb);(repeat first|refine goH ?_|apply LH.here|apply LH.next);refine⟨rfl,?_⟩)|(apply LC.upd (zN _ _);(repeat first|refine goH ?_|apply LH.here|apply LH.next);refine⟨rfl,?_⟩)|(apply LC.upd (x8 _ _);(repeat first|refine goH ?_|apply LH.here|apply LH.next);refine⟨rfl,?_⟩)|(apply LC.upd (zZ _ _);(repeat first|refine goH ?_|apply LH.here|apply LH.next);refine⟨rfl,?_⟩)|(refine LC.two (fun hne=>fstatF_c _ _ (rtk 1 (rtk 1 (rdr b hb))) (hdk (s0 c 5) k) hne he h1 h2) ?_;(repeat first|refine goH ?_|apply LH.here|apply LH.next);refine⟨rfl,?_⟩;(repeat first|refine goH ?_|apply LH.here|apply LH.next);refine⟨rfl,?_⟩)|(refine LC.two (fun hne=>fstatF_c _ _ (rtk 1 (rdr b hb)) (hdk (s0 c 5) k) hne he h1 h2) ?_;(repeat first|refine goH ?_|apply LH.here|apply LH.next);refine⟨rfl,?_⟩;(repeat first|refine goH ?_|apply LH.here|apply LH.next);refine⟨rfl,?_⟩)|refine LC.pure (ze _ _) ?_|refine goE ?_)|refine T.s ?_|((first|apply goB|apply AB.dec|apply AB.gen)<;>intro h<;>try(exfalso;omega))|refine LQ.mk fun r=>?_|exact T.z|fail)<;>conv=>whnf)
   all_goals(try dsimp only)
   all_goals(show RL _ _ _;refine goR ?_)
   all_goals(first|rewrite[big_t (by assumption)]|rewrite[big_f (by assumption)]|skip)
   all_goals first
     | rfl
     | (exact congrArg de (jW (by assumption)).symm)
     | (exact congrArg de (xJ (by assumption) (by assumption)).symm)
     | (exact congrArg de (xU (by assumption) (by assumption)).symm)
     | (exact congrArg de (jV (by assumption) (by assumption) (by assumption)).symm)
     | (exfalso;simp_all;done)
     | trace_state
theorem fdec6_c(b:List UInt8)(hb:b.length≤140737488355328)(k:Int)(ck:Bool)(c:Int)(X:Rdr)(hp:qp b=(c,6,0))(hc:(0<c∧X=rtk 1 (rdr b hb))∨(¬0<c∧X=rdr b hb)):LP Tryz.prog G 126 [bv b,iAV k,.bool ck] [] (fun _=>(de (xw (rtk 1 X) (s0 c 6) b),[])):= by
 rcases hc with ⟨hc,rfl⟩|⟨hc,rfl⟩
 all_goals
   refine goW [] Tryz.func126 rfl ?_
   conv=>whnf
   repeat'((first|(rw[qC (X:=rtk 1 (rtk 1 (rdr b hb))) (by assumption)];conv=>whnf)|(rw[qC (X:=rtk 1 (rdr b hb)) (by assumption)];conv=>whnf)|(show LC _ _ _ _ _ _;first|refine LC.pure (fpk hp) ?_|(apply LC.upd (jT _ b hb);(repeat first|refine goH ?_|apply LH.here|apply LH.next);refine⟨rfl,?_⟩)|(apply LC.upd (zN _ _);(repeat first|refine goH ?_|apply LH.here|apply LH.next);refine⟨rfl,?_⟩)|(apply LC.upd (x8 _ _);(repeat first|refine goH ?_|apply LH.here|apply LH.next);refine⟨rfl,?_⟩)|(apply LC.upd (zZ _ _);(repeat first|refine goH ?_|apply LH.here|apply LH.next);refine⟨rfl,?_⟩)|refine LC.pure (qh (rL (rtk 1 (rtk 1 (rdr b hb)))) (qT _)) ?_|refine LC.pure (qd (wpl (s0 c 6) (rtk 1 (rtk 1 (rdr b hb))))) ?_|refine LC.pure (qh (rL (rtk 1 (rdr b hb))) (qT _)) ?_|refine LC.pure (qd (wpl (s0 c 6) (rtk 1 (rdr b hb)))) ?_|refine LC.pure (ze _ _) ?_|refine goE ?_)|refine T.s ?_|((first|apply goB|apply AB.dec|apply AB.gen)<;>intro h<;>try(exfalso;omega))|refine LQ.mk fun r=>?_|exact T.z|fail)<;>conv=>whnf)
   all_goals(try dsimp only)
   all_goals(show RL _ _ _;refine goR ?_)
   all_goals first
     | (exact congrArg de (jW (by assumption)).symm)
     | (exact congrArg de (xJ (by assumption) (by assumption)).symm)
     | (exact congrArg de (xU (by assumption) (by assumption)).symm)
     | (exact congrArg de (jV (by assumption) (by assumption) (by assumption)).symm)
     | (exfalso;simp_all;done)
     | trace_state
end Go.Proofs.YtndpmpnmkpaklaaGreatDoor
