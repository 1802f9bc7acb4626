/-
  Contracts of the functions that the laws reach.
-/
import Derived.Test.YtndpmpnmkpaklaaGreatDoorHr11
set_option maxHeartbeats 4000000
set_option linter.all false
namespace Go.Proofs.YtndpmpnmkpaklaaGreatDoor
open Go.RowKit
variable {G:Nat→AV}
theorem fdec1_c(b:List UInt8)(hb:b.length≤140737488355328)(k:Int)(ck:Bool)(c:Int)(X:Rdr)(hp:qp b=(c,1,0))(hk:k=1∨k=2)(hc:(0<c∧X=rtk 1 (rdr b hb))∨(¬0<c∧X=rdr b hb)):LP Tryz.prog G 126 [bv b,iAV k,.bool ck] [] (fun _=>(de (je ck (jy X) (lw1 X k (s0 c 1)) b),[])):= by
 rcases hc with ⟨hc,rfl⟩|⟨hc,rfl⟩<;>cases ck
 all_goals
   refine goW [] Tryz.func126 rfl ?_
   conv=>whnf
   repeat'((first|(rw[qC (X:=jy (rtk 1 (rdr b hb))) (by assumption)];conv=>whnf)|(rw[qC (X:=rtk 2 (jy (rtk 1 (rdr b hb)))) (by assumption)];conv=>whnf)|(rw[qC (X:=jy (rdr b hb)) (by assumption)];conv=>whnf)|(rw[qC (X:=rtk 2 (jy (rdr b hb))) (by assumption)];conv=>whnf)|(show LC _ _ _ _ _ _;first|refine LC.pure (fpk hp) ?_|(apply LC.upd (jT _ b hb);(repeat first|refine goH ?_|apply LH.here|apply LH.next);refine⟨rfl,?_⟩)|(apply LC.upd (zN _ _);(repeat first|refine goH ?_|apply LH.here|apply LH.next);refine⟨rfl,?_⟩)|(apply LC.upd (x8 _ _);(repeat first|refine goH ?_|apply LH.here|apply LH.next);refine⟨rfl,?_⟩)|(apply LC.upd (zZ _ _);(repeat first|refine goH ?_|apply LH.here|apply LH.next);refine⟨rfl,?_⟩)|(refine LC.two (fun hne=>flow1_c _ _ (rtk 1 (rdr b hb)) _ rfl k (s0 c 1) hne rfl) ?_;(repeat first|refine goH ?_|apply LH.here|apply LH.next);refine⟨rfl,?_⟩;(repeat first|refine goH ?_|apply LH.here|apply LH.next);refine⟨rfl,?_⟩)|(refine LC.two (fun hne=>flow1_c _ _ (rdr b hb) _ (yn b hb).symm k (s0 c 1) hne rfl) ?_;(repeat first|refine goH ?_|apply LH.here|apply LH.next);refine⟨rfl,?_⟩;(repeat first|refine goH ?_|apply LH.here|apply LH.next);refine⟨rfl,?_⟩)|refine LC.pure (qh (rL (jy (rtk 1 (rdr b hb)))) (qT _)) ?_|refine LC.pure (qd (wpl (lw1 (rtk 1 (rdr b hb)) k (s0 c 1)) (jy (rtk 1 (rdr b hb))))) ?_|refine LC.pure (qh (rL (rtk 2 (jy (rtk 1 (rdr b hb))))) (qT _)) ?_|refine LC.pure (qd (wpl (wud (lw1 (rtk 1 (rdr b hb)) k (s0 c 1)) (rv 2 (jy (rtk 1 (rdr b hb))))) (rtk 2 (jy (rtk 1 (rdr b hb)))))) ?_|refine LC.pure (qh (rL (jy (rdr b hb))) (qT _)) ?_|refine LC.pure (qd (wpl (lw1 (rdr b hb) k (s0 c 1)) (jy (rdr b hb)))) ?_|refine LC.pure (qh (rL (rtk 2 (jy (rdr b hb)))) (qT _)) ?_|refine LC.pure (qd (wpl (wud (lw1 (rdr b hb) k (s0 c 1)) (rv 2 (jy (rdr b hb)))) (rtk 2 (jy (rdr b hb))))) ?_|refine LC.pure (ze _ _) ?_|refine goE ?_)|refine T.s ?_|((first|apply goB|apply AB.dec|apply AB.gen)<;>intro h<;>try(exfalso;omega))|refine LQ.mk fun r=>?_|exact T.z|fail)<;>conv=>whnf)
   all_goals(try dsimp only)
   all_goals(show RL _ _ _;refine goR ?_)
   all_goals first
     | (exact congrArg de (jW (by assumption)).symm)
     | (exact congrArg de (xJ (by assumption) (by assumption)).symm)
     | (exact congrArg de (xU (by assumption) (by assumption)).symm)
     | (exact congrArg de (jV (by assumption) (by assumption) (by assumption)).symm)
     | (exfalso;simp_all;done)
     | trace_state
theorem fdec2T_c(b:List UInt8)(hb:b.length≤140737488355328)(ck:Bool)(c:Int)(X:Rdr)(hp:qp b=(c,2,0))(hc:(0<c∧X=rtk 1 (rdr b hb))∨(¬0<c∧X=rdr b hb)):LP Tryz.prog G 126 [bv b,iAV 2,.bool ck] [] (fun _=>(de (je ck (zY X) (vL X 2 (s0 c 2)) b),[])):= by
 rcases hc with ⟨hc,rfl⟩|⟨hc,rfl⟩<;>cases ck
 all_goals
   refine goW [] Tryz.func126 rfl ?_
   conv=>whnf
   repeat'((first|(rw[qC (X:=zY (rtk 1 (rdr b hb))) (by assumption)];conv=>whnf)|(rw[qC (X:=rtk 2 (zY (rtk 1 (rdr b hb)))) (by assumption)];conv=>whnf)|(rw[qC (X:=zY (rdr b hb)) (by assumption)];conv=>whnf)|(rw[qC (X:=rtk 2 (zY (rdr b hb))) (by assumption)];conv=>whnf)|(show LC _ _ _ _ _ _;first|refine LC.pure (fpk hp) ?_|(apply LC.upd (jT _ b hb);(repeat first|refine goH ?_|apply LH.here|apply LH.next);refine⟨rfl,?_⟩)|(apply LC.upd (zN _ _);(repeat first|refine goH ?_|apply LH.here|apply LH.next);refine⟨rfl,?_⟩)|(apply LC.upd (x8 _ _);(repeat first|refine goH ?_|apply LH.here|apply LH.next);refine⟨rfl,?_⟩)|(apply LC.upd (zZ _ _);(repeat first|refine goH ?_|apply LH.here|apply LH.next);refine⟨rfl,?_⟩)|(refine LC.two (fun hne=>flow2T_c _ _ (rtk 1 (rdr b hb)) _ rfl 2 (s0 c 2) hne rfl rfl) ?_;(repeat first|refine goH ?_|apply LH.here|apply LH.next);refine⟨rfl,?_⟩;(repeat first|refine goH ?_|apply LH.here|apply LH.next);refine⟨rfl,?_⟩)|(refine LC.two (fun hne=>flow2T_c _ _ (rdr b hb) _ (yn b hb).symm 2 (s0 c 2) hne rfl rfl) ?_;(repeat first|refine goH ?_|apply LH.here|apply LH.next);refine⟨rfl,?_⟩;(repeat first|refine goH ?_|apply LH.here|apply LH.next);refine⟨rfl,?_⟩)|refine LC.pure (qh (rL (zY (rtk 1 (rdr b hb)))) (qT _)) ?_|refine LC.pure (qd (wpl (vL (rtk 1 (rdr b hb)) 2 (s0 c 2)) (zY (rtk 1 (rdr b hb))))) ?_|refine LC.pure (qh (rL (rtk 2 (zY (rtk 1 (rdr b hb))))) (qT _)) ?_|refine LC.pure (qd (wpl (wud (vL (rtk 1 (rdr b hb)) 2 (s0 c 2)) (rv 2 (zY (rtk 1 (rdr b hb))))) (rtk 2 (zY (rtk 1 (rdr b hb)))))) ?_|refine LC.pure (qh (rL (zY (rdr b hb))) (qT _)) ?_|refine LC.pure (qd (wpl (vL (rdr b hb) 2 (s0 c 2)) (zY (rdr b hb)))) ?_|refine LC.pure (qh (rL (rtk 2 (zY (rdr b hb)))) (qT _)) ?_|refine LC.pure (qd (wpl (wud (vL (rdr b hb) 2 (s0 c 2)) (rv 2 (zY (rdr b hb)))) (rtk 2 (zY (rdr b hb))))) ?_|refine LC.pure (ze _ _) ?_|refine goE ?_)|refine T.s ?_|((first|apply goB|apply AB.dec|apply AB.gen)<;>intro h<;>try(exfalso;omega))|refine LQ.mk fun r=>?_|exact T.z|fail)<;>conv=>whnf)
   all_goals(try dsimp only)
   all_goals(show RL _ _ _;refine goR ?_)
   all_goals first
     | (exact congrArg de (jW (by assumption)).symm)
     | (exact congrArg de (xJ (by assumption) (by assumption)).symm)
     | (exact congrArg de (xU (by assumption) (by assumption)).symm)
     | (exact congrArg de (jV (by assumption) (by assumption) (by assumption)).symm)
     | (exfalso;simp_all;done)
     | trace_state
theorem fdec2U_c(b:List UInt8)(hb:b.length≤140737488355328)(ck:Bool)(c:Int)(X:Rdr)(hp:qp b=(c,2,0))(hc:(0<c∧X=rtk 1 (rdr b hb))∨(¬0<c∧X=rdr b hb)):LP Tryz.prog G 126 [bv b,iAV 1,.bool ck] [] (fun _=>(de (je ck (zX X) (vK X 1 (s0 c 2)) b),[])):= by
 rcases hc with ⟨hc,rfl⟩|⟨hc,rfl⟩<;>cases ck
 all_goals
   refine goW [] Tryz.func126 rfl ?_
   conv=>whnf
   repeat'((first|(rw[qC (X:=zX (rtk 1 (rdr b hb))) (by assumption)];conv=>whnf)|(rw[qC (X:=rtk 2 (zX (rtk 1 (rdr b hb)))) (by assumption)];conv=>whnf)|(rw[qC (X:=zX (rdr b hb)) (by assumption)];conv=>whnf)|(rw[qC (X:=rtk 2 (zX (rdr b hb))) (by assumption)];conv=>whnf)|(show LC _ _ _ _ _ _;first|refine LC.pure (fpk hp) ?_|(apply LC.upd (jT _ b hb);(repeat first|refine goH ?_|apply LH.here|apply LH.next);refine⟨rfl,?_⟩)|(apply LC.upd (zN _ _);(repeat first|refine goH ?_|apply LH.here|apply LH.next);refine⟨rfl,?_⟩)|(apply LC.upd (x8 _ _);(repeat first|refine goH ?_|apply LH.here|apply LH.next);refine⟨rfl,?_⟩)|(apply LC.upd (zZ _ _);(repeat first|refine goH ?_|apply LH.here|apply LH.next);refine⟨rfl,?_⟩)|(refine LC.two (fun hne=>flow2U_c _ _ (rtk 1 (rdr b hb)) _ rfl 1 (s0 c 2) hne rfl (by decide)) ?_;(repeat first|refine goH ?_|apply LH.here|apply LH.next);refine⟨rfl,?_⟩;(repeat first|refine goH ?_|apply LH.here|apply LH.next);refine⟨rfl,?_⟩)|(refine LC.two (fun hne=>flow2U_c _ _ (rdr b hb) _ (yn b hb).symm 1 (s0 c 2) hne rfl (by decide)) ?_;(repeat first|refine goH ?_|apply LH.here|apply LH.next);refine⟨rfl,?_⟩;(repeat first|refine goH ?_|apply LH.here|apply LH.next);refine⟨rfl,?_⟩)|refine LC.pure (qh (rL (zX (rtk 1 (rdr b hb)))) (qT _)) ?_|refine LC.pure (qd (wpl (vK (rtk 1 (rdr b hb)) 1 (s0 c 2)) (zX (rtk 1 (rdr b hb))))) ?_|refine LC.pure (qh (rL (rtk 2 (zX (rtk 1 (rdr b hb))))) (qT _)) ?_|refine LC.pure (qd (wpl (wud (vK (rtk 1 (rdr b hb)) 1 (s0 c 2)) (rv 2 (zX (rtk 1 (rdr b hb))))) (rtk 2 (zX (rtk 1 (rdr b hb)))))) ?_|refine LC.pure (qh (rL (zX (rdr b hb))) (qT _)) ?_|refine LC.pure (qd (wpl (vK (rdr b hb) 1 (s0 c 2)) (zX (rdr b hb)))) ?_|refine LC.pure (qh (rL (rtk 2 (zX (rdr b hb)))) (qT _)) ?_|refine LC.pure (qd (wpl (wud (vK (rdr b hb) 1 (s0 c 2)) (rv 2 (zX (rdr b hb)))) (rtk 2 (zX (rdr b hb))))) ?_|refine LC.pure (ze _ _) ?_|refine goE ?_)|refine T.s ?_|((first|apply goB|apply AB.dec|apply AB.gen)<;>intro h<;>try(exfalso;omega))|refine LQ.mk fun r=>?_|exact T.z|fail)<;>conv=>whnf)
   all_goals(try dsimp only)
   all_goals(show RL _ _ _;refine goR ?_)
   all_goals first
     | (exact congrArg de (jW (by assumption)).symm)
     | (exact congrArg de (xJ (by assumption) (by assumption)).symm)
     | (exact congrArg de (xU (by assumption) (by assumption)).symm)
     | (exact congrArg de (jV (by assumption) (by assumption) (by assumption)).symm)
     | (exfalso;simp_all;done)
     | trace_state
theorem fdec3T_c(b:List UInt8)(hb:b.length≤140737488355328)(ck:Bool)(c:Int)(X:Rdr)(hp:qp b=(c,3,0))(hc:(0<c∧X=rtk 1 (rdr b hb))∨(¬0<c∧X=rdr b hb)):LP Tryz.prog G 126 [bv b,iAV 2,.bool ck] [] (fun _=>(de (je ck (zW X) (vJ X 2 (s0 c 3)) b),[])):= by
 rcases hc with ⟨hc,rfl⟩|⟨hc,rfl⟩<;>cases ck
 all_goals
   refine goW [] Tryz.func126 rfl ?_
   conv=>whnf
   repeat'((first|(rw[qC (X:=zW (rtk 1 (rdr b hb))) (by assumption)];conv=>whnf)|(rw[qC (X:=rtk 2 (zW (rtk 1 (rdr b hb)))) (by assumption)];conv=>whnf)|(rw[qC (X:=zW (rdr b hb)) (by assumption)];conv=>whnf)|(rw[qC (X:=rtk 2 (zW (rdr b hb))) (by assumption)];conv=>whnf)|(show LC _ _ _ _ _ _;first|refine LC.pure (fpk hp) ?_|(apply LC.upd (jT _ b hb);(repeat first|refine goH ?_|apply LH.here|apply LH.next);refine⟨rfl,?_⟩)|(apply LC.upd (zN _ _);(repeat first|refine goH ?_|apply LH.here|apply LH.next);refine⟨rfl,?_⟩)|(apply LC.upd (x8 _ _);(repeat first|refine goH ?_|apply LH.here|apply LH.next);refine⟨rfl,?_⟩)|(apply LC.upd (zZ _ _);(repeat first|refine goH ?_|apply LH.here|apply LH.next);refine⟨rfl,?_⟩)|(refine LC.two (fun hne=>flow3T_c _ _ (rtk 1 (rdr b hb)) _ rfl 2 (s0 c 3) hne rfl rfl) ?_;(repeat first|refine goH ?_|apply LH.here|apply LH.next);refine⟨rfl,?_⟩;(repeat first|refine goH ?_|apply LH.here|apply LH.next);refine⟨rfl,?_⟩)|(refine LC.two (fun hne=>flow3T_c _ _ (rdr b hb) _ (yn b hb).symm 2 (s0 c 3) hne rfl rfl) ?_;(repeat first|refine goH ?_|apply LH.here|apply LH.next);refine⟨rfl,?_⟩;(repeat first|refine goH ?_|apply LH.here|apply LH.next);refine⟨rfl,?_⟩)|refine LC.pure (qh (rL (zW (rtk 1 (rdr b hb)))) (qT _)) ?_|refine LC.pure (qd (wpl (vJ (rtk 1 (rdr b hb)) 2 (s0 c 3)) (zW (rtk 1 (rdr b hb))))) ?_|refine LC.pure (qh (rL (rtk 2 (zW (rtk 1 (rdr b hb))))) (qT _)) ?_|refine LC.pure (qd (wpl (wud (vJ (rtk 1 (rdr b hb)) 2 (s0 c 3)) (rv 2 (zW (rtk 1 (rdr b hb))))) (rtk 2 (zW (rtk 1 (rdr b hb)))))) ?_|refine LC.pure (qh (rL (zW (rdr b hb))) (qT _)) ?_|refine LC.pure (qd (wpl (vJ (rdr b hb) 2 (s0 c 3)) (zW (rdr b hb)))) ?_|refine LC.pure (qh (rL (rtk 2 (zW (rdr b hb)))) (qT _)) ?_|refine LC.pure (qd (wpl (wud (vJ (rdr b hb) 2 (s0 c 3)) (rv 2 (zW (rdr b hb)))) (rtk 2 (zW (rdr b hb))))) ?_|refine LC.pure (ze _ _) ?_|refine goE ?_)|refine T.s ?_|((first|apply goB|apply AB.dec|apply AB.gen)<;>intro h<;>try(exfalso;omega))|refine LQ.mk fun r=>?_|exact T.z|fail)<;>conv=>whnf)
   all_goals(try dsimp only)
   all_goals(show RL _ _ _;refine goR ?_)
   all_goals first
     | (exact congrArg de (jW (by assumption)).symm)
     | (exact congrArg de (xJ (by assumption) (by assumption)).symm)
     | (exact congrArg de (xU (by assumption) (by assumption)).symm)
     | (exact congrArg de (jV (by assumption) (by assumption) (by assumption)).symm)
     | (exfalso;simp_all;done)
     | trace_state
theorem fdec3U_c(b:List UInt8)(hb:b.length≤140737488355328)(ck:Bool)(c:Int)(X:Rdr)(hp:qp b=(c,3,0))(hc:(0<c∧X=rtk 1 (rdr b hb))∨(¬0<c∧X=rdr b hb)):LP Tryz.prog G 126 [bv b,iAV 1,.bool ck] [] (fun _=>(de (je ck (zV X) (vI X 1 (s0 c 3)) b),[])):= by
 rcases hc with ⟨hc,rfl⟩|⟨hc,rfl⟩<;>cases ck
 all_goals
   refine goW [] Tryz.func126 rfl ?_
   conv=>whnf
   repeat'((first|(rw[qC (X:=zV (rtk 1 (rdr b hb))) (by assumption)];conv=>whnf)|(rw[qC (X:=rtk 2 (zV (rtk 1 (rdr b hb)))) (by assumption)];conv=>whnf)|(rw[qC (X:=zV (rdr b hb)) (by assumption)];conv=>whnf)|(rw[qC (X:=rtk 2 (zV (rdr b hb))) (by assumption)];conv=>whnf)|(show LC _ _ _ _ _ _;first|refine LC.pure (fpk hp) ?_|(apply LC.upd (jT _ b hb);(repeat first|refine goH ?_|apply LH.here|apply LH.next);refine⟨rfl,?_⟩)|(apply LC.upd (zN _ _);(repeat first|refine goH ?_|apply LH.here|apply LH.next);refine⟨rfl,?_⟩)|(apply LC.upd (x8 _ _);(repeat first|refine goH ?_|apply LH.here|apply LH.next);refine⟨rfl,?_⟩)|(apply LC.upd (zZ _ _);(repeat first|refine goH ?_|apply LH.here|apply LH.next);refine⟨rfl,?_⟩)|(refine LC.two (fun hne=>flow3U_c _ _ (rtk 1 (rdr b hb)) _ rfl 1 (s0 c 3) hne rfl (by decide)) ?_;(repeat first|refine goH ?_|apply LH.here|apply LH.next);refine⟨rfl,?_⟩;(repeat first|refine goH ?_|apply LH.here|apply LH.next);refine⟨rfl,?_⟩)|(refine LC.two (fun hne=>flow3U_c _ _ (rdr b hb) _ (yn b hb).symm 1 (s0 c 3) hne rfl (by decide)) ?_;(repeat first|refine goH ?_|apply LH.here|apply LH.next);refine⟨rfl,?_⟩;(repeat first|refine goH ?_|apply LH.here|apply LH.next);refine⟨rfl,?_⟩)|refine LC.pure (qh (rL (zV (rtk 1 (rdr b hb)))) (qT _)) ?_|refine LC.pure (qd (wpl (vI (rtk 1 (rdr b hb)) 1 (s0 c 3)) (zV (rtk 1 (rdr b hb))))) ?_|refine LC.pure (qh (rL (rtk 2 (zV (rtk 1 (rdr b hb))))) (qT _)) ?_|refine LC.pure (qd (wpl (wud (vI (rtk 1 (rdr b hb)) 1 (s0 c 3)) (rv 2 (zV (rtk 1 (rdr b hb))))) (rtk 2 (zV (rtk 1 (rdr b hb)))))) ?_|refine LC.pure (qh (rL (zV (rdr b hb))) (qT _)) ?_|refine LC.pure (qd (wpl (vI (rdr b hb) 1 (s0 c 3)) (zV (rdr b hb)))) ?_|refine LC.pure (qh (rL (rtk 2 (zV (rdr b hb)))) (qT _)) ?_|refine LC.pure (qd (wpl (wud (vI (rdr b hb) 1 (s0 c 3)) (rv 2 (zV (rdr b hb)))) (rtk 2 (zV (rdr b hb))))) ?_|refine LC.pure (ze _ _) ?_|refine goE ?_)|refine T.s ?_|((first|apply goB|apply AB.dec|apply AB.gen)<;>intro h<;>try(exfalso;omega))|refine LQ.mk fun r=>?_|exact T.z|fail)<;>conv=>whnf)
   all_goals(try dsimp only)
   all_goals(show RL _ _ _;refine goR ?_)
   all_goals first
     | (exact congrArg de (jW (by assumption)).symm)
     | (exact congrArg de (xJ (by assumption) (by assumption)).symm)
     | (exact congrArg de (xU (by assumption) (by assumption)).symm)
     | (exact congrArg de (jV (by assumption) (by assumption) (by assumption)).symm)
     | (exfalso;simp_all;done)
     | trace_state
end Go.Proofs.YtndpmpnmkpaklaaGreatDoor
