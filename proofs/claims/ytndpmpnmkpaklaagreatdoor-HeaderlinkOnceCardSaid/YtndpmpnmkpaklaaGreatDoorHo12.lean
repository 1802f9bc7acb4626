/-
  Contracts of the functions that the laws reach.
-/
import Derived.Test.YtndpmpnmkpaklaaGreatDoorHo11
set_option maxHeartbeats 4000000
set_option linter.all false
namespace Go.Proofs.YtndpmpnmkpaklaaGreatDoor
open Go.RowKit
variable {G:Nat→AV}
theorem fdec1_c(b:List UInt8)(hb:b.length≤140737488355328)(k:Int)(ck:Bool)(c:Int)(X:Rdr)(hp:qq b=(c,1,0))(hk:k=1∨k=2)(hc:(0<c∧X=rtk 1 (rdr b hb))∨(¬0<c∧X=rdr b hb)):LP Tryz.prog G 126 [bv b,iAV k,.bool ck] [] (fun _=>(de (jl ck (jD X) (lw1 X k (s0 c 1)) b),[])):= by
 rcases hc with ⟨hc,rfl⟩|⟨hc,rfl⟩<;>cases ck
 all_goals
   refine goW [] Tryz.func126 rfl ?_
   conv=>whnf
   repeat'((first|(rw[qF (X:=jD (rtk 1 (rdr b hb))) (by assumption)];conv=>whnf)|(rw[qF (X:=rtk 2 (jD (rtk 1 (rdr b hb)))) (by assumption)];conv=>whnf)|(rw[qF (X:=jD (rdr b hb)) (by assumption)];conv=>whnf)|(rw[qF (X:=rtk 2 (jD (rdr b hb))) (by assumption)];conv=>whnf)|(show LC _ _ _ _ _ _;first|refine LC.pure (fpk hp) ?_|(apply LC.upd (jX _ b hb);(repeat first|refine goH ?_|apply LH.here|apply LH.next);refine⟨rfl,?_⟩)|(apply LC.upd (zR _ _);(repeat first|refine goH ?_|apply LH.here|apply LH.next);refine⟨rfl,?_⟩)|(apply LC.upd (x9 _ _);(repeat first|refine goH ?_|apply LH.here|apply LH.next);refine⟨rfl,?_⟩)|(apply LC.upd (x8 _ _);(repeat first|refine goH ?_|apply LH.here|apply LH.next);refine⟨rfl,?_⟩)|(refine LC.two (fun hne=>flow1_c _ _ (rtk 1 (rdr b hb)) _ rfl k (s0 c 1) hne rfl) ?_;(repeat first|refine goH ?_|apply LH.here|apply LH.next);refine⟨rfl,?_⟩;(repeat first|refine goH ?_|apply LH.here|apply LH.next);refine⟨rfl,?_⟩)|(refine LC.two (fun hne=>flow1_c _ _ (rdr b hb) _ (yo b hb).symm k (s0 c 1) hne rfl) ?_;(repeat first|refine goH ?_|apply LH.here|apply LH.next);refine⟨rfl,?_⟩;(repeat first|refine goH ?_|apply LH.here|apply LH.next);refine⟨rfl,?_⟩)|refine LC.pure (qk (rL (jD (rtk 1 (rdr b hb)))) (qW _)) ?_|refine LC.pure (qe (wpl (lw1 (rtk 1 (rdr b hb)) k (s0 c 1)) (jD (rtk 1 (rdr b hb))))) ?_|refine LC.pure (qk (rL (rtk 2 (jD (rtk 1 (rdr b hb))))) (qW _)) ?_|refine LC.pure (qe (wpl (wud (lw1 (rtk 1 (rdr b hb)) k (s0 c 1)) (rv 2 (jD (rtk 1 (rdr b hb))))) (rtk 2 (jD (rtk 1 (rdr b hb)))))) ?_|refine LC.pure (qk (rL (jD (rdr b hb))) (qW _)) ?_|refine LC.pure (qe (wpl (lw1 (rdr b hb) k (s0 c 1)) (jD (rdr b hb)))) ?_|refine LC.pure (qk (rL (rtk 2 (jD (rdr b hb)))) (qW _)) ?_|refine LC.pure (qe (wpl (wud (lw1 (rdr b hb) k (s0 c 1)) (rv 2 (jD (rdr b hb)))) (rtk 2 (jD (rdr b hb))))) ?_|refine LC.pure (zg _ _) ?_|refine goE ?_)|refine T.s ?_|((first|apply goB|apply AB.dec|apply AB.gen)<;>intro h<;>try(exfalso;omega))|refine LQ.mk fun r=>?_|exact T.z|fail)<;>conv=>whnf)
   all_goals(try dsimp only)
   all_goals(show RL _ _ _;refine goR ?_)
   all_goals first
     | (exact congrArg de (jZ (by assumption)).symm)
     | (exact congrArg de (xI (by assumption) (by assumption)).symm)
     | (exact congrArg de (xX (by assumption) (by assumption)).symm)
     | (exact congrArg de (jY (by assumption) (by assumption) (by assumption)).symm)
     | (exfalso;simp_all;done)
     | trace_state
theorem fdec2T_c(b:List UInt8)(hb:b.length≤140737488355328)(ck:Bool)(c:Int)(X:Rdr)(hp:qq b=(c,2,0))(hc:(0<c∧X=rtk 1 (rdr b hb))∨(¬0<c∧X=rdr b hb)):LP Tryz.prog G 126 [bv b,iAV 2,.bool ck] [] (fun _=>(de (jl ck (zZ X) (vR X 2 (s0 c 2)) b),[])):= by
 rcases hc with ⟨hc,rfl⟩|⟨hc,rfl⟩<;>cases ck
 all_goals
   refine goW [] Tryz.func126 rfl ?_
   conv=>whnf
   repeat'((first|(rw[qF (X:=zZ (rtk 1 (rdr b hb))) (by assumption)];conv=>whnf)|(rw[qF (X:=rtk 2 (zZ (rtk 1 (rdr b hb)))) (by assumption)];conv=>whnf)|(rw[qF (X:=zZ (rdr b hb)) (by assumption)];conv=>whnf)|(rw[qF (X:=rtk 2 (zZ (rdr b hb))) (by assumption)];conv=>whnf)|(show LC _ _ _ _ _ _;first|refine LC.pure (fpk hp) ?_|(apply LC.upd (jX _ b hb);(repeat first|refine goH ?_|apply LH.here|apply LH.next);refine⟨rfl,?_⟩)|(apply LC.upd (zR _ _);(repeat first|refine goH ?_|apply LH.here|apply LH.next);refine⟨rfl,?_⟩)|(apply LC.upd (x9 _ _);(repeat first|refine goH ?_|apply LH.here|apply LH.next);refine⟨rfl,?_⟩)|(apply LC.upd (x8 _ _);(repeat first|refine goH ?_|apply LH.here|apply LH.next);refine⟨rfl,?_⟩)|(refine LC.two (fun hne=>flow2T_c _ _ (rtk 1 (rdr b hb)) _ rfl 2 (s0 c 2) hne rfl rfl) ?_;(repeat first|refine goH ?_|apply LH.here|apply LH.next);refine⟨rfl,?_⟩;(repeat first|refine goH ?_|apply LH.here|apply LH.next);refine⟨rfl,?_⟩)|(refine LC.two (fun hne=>flow2T_c _ _ (rdr b hb) _ (yo b hb).symm 2 (s0 c 2) hne rfl rfl) ?_;(repeat first|refine goH ?_|apply LH.here|apply LH.next);refine⟨rfl,?_⟩;(repeat first|refine goH ?_|apply LH.here|apply LH.next);refine⟨rfl,?_⟩)|refine LC.pure (qk (rL (zZ (rtk 1 (rdr b hb)))) (qW _)) ?_|refine LC.pure (qe (wpl (vR (rtk 1 (rdr b hb)) 2 (s0 c 2)) (zZ (rtk 1 (rdr b hb))))) ?_|refine LC.pure (qk (rL (rtk 2 (zZ (rtk 1 (rdr b hb))))) (qW _)) ?_|refine LC.pure (qe (wpl (wud (vR (rtk 1 (rdr b hb)) 2 (s0 c 2)) (rv 2 (zZ (rtk 1 (rdr b hb))))) (rtk 2 (zZ (rtk 1 (rdr b hb)))))) ?_|refine LC.pure (qk (rL (zZ (rdr b hb))) (qW _)) ?_|refine LC.pure (qe (wpl (vR (rdr b hb) 2 (s0 c 2)) (zZ (rdr b hb)))) ?_|refine LC.pure (qk (rL (rtk 2 (zZ (rdr b hb)))) (qW _)) ?_|refine LC.pure (qe (wpl (wud (vR (rdr b hb) 2 (s0 c 2)) (rv 2 (zZ (rdr b hb)))) (rtk 2 (zZ (rdr b hb))))) ?_|refine LC.pure (zg _ _) ?_|refine goE ?_)|refine T.s ?_|((first|apply goB|apply AB.dec|apply AB.gen)<;>intro h<;>try(exfalso;omega))|refine LQ.mk fun r=>?_|exact T.z|fail)<;>conv=>whnf)
   all_goals(try dsimp only)
   all_goals(show RL _ _ _;refine goR ?_)
   all_goals first
     | (exact congrArg de (jZ (by assumption)).symm)
     | (exact congrArg de (xI (by assumption) (by assumption)).symm)
     | (exact congrArg de (xX (by assumption) (by assumption)).symm)
     | (exact congrArg de (jY (by assumption) (by assumption) (by assumption)).symm)
     | (exfalso;simp_all;done)
     | trace_state
theorem fdec2U_c(b:List UInt8)(hb:b.length≤140737488355328)(ck:Bool)(c:Int)(X:Rdr)(hp:qq b=(c,2,0))(hc:(0<c∧X=rtk 1 (rdr b hb))∨(¬0<c∧X=rdr b hb)):LP Tryz.prog G 126 [bv b,iAV 1,.bool ck] [] (fun _=>(de (jl ck (zY X) (vQ X 1 (s0 c 2)) b),[])):= by
 rcases hc with ⟨hc,rfl⟩|⟨hc,rfl⟩<;>cases ck
 all_goals
   refine goW [] Tryz.func126 rfl ?_
   conv=>whnf
   repeat'((first|(rw[qF (X:=zY (rtk 1 (rdr b hb))) (by assumption)];conv=>whnf)|(rw[qF (X:=rtk 2 (zY (rtk 1 (rdr b hb)))) (by assumption)];conv=>whnf)|(rw[qF (X:=zY (rdr b hb)) (by assumption)];conv=>whnf)|(rw[qF (X:=rtk 2 (zY (rdr b hb))) (by assumption)];conv=>whnf)|(show LC _ _ _ _ _ _;first|refine LC.pure (fpk hp) ?_|(apply LC.upd (jX _ b hb);(repeat first|refine goH ?_|apply LH.here|apply LH.next);refine⟨rfl,?_⟩)|(apply LC.upd (zR _ _);(repeat first|refine goH ?_|apply LH.here|apply LH.next);refine⟨rfl,?_⟩)|(apply LC.upd (x9 _ _);(repeat first|refine goH ?_|apply LH.here|apply LH.next);refine⟨rfl,?_⟩)|(apply LC.upd (x8 _ _);(repeat first|refine goH ?_|apply LH.here|apply LH.next);refine⟨rfl,?_⟩)|(refine LC.two (fun hne=>flow2U_c _ _ (rtk 1 (rdr b hb)) _ rfl 1 (s0 c 2) hne rfl (by decide)) ?_;(repeat first|refine goH ?_|apply LH.here|apply LH.next);refine⟨rfl,?_⟩;(repeat first|refine goH ?_|apply LH.here|apply LH.next);refine⟨rfl,?_⟩)|(refine LC.two (fun hne=>flow2U_c _ _ (rdr b hb) _ (yo b hb).symm 1 (s0 c 2) hne rfl (by decide)) ?_;(repeat first|refine goH ?_|apply LH.here|apply LH.next);refine⟨rfl,?_⟩;(repeat first|refine goH ?_|apply LH.here|apply LH.next);refine⟨rfl,?_⟩)|refine LC.pure (qk (rL (zY (rtk 1 (rdr b hb)))) (qW _)) ?_|refine LC.pure (qe (wpl (vQ (rtk 1 (rdr b hb)) 1 (s0 c 2)) (zY (rtk 1 (rdr b hb))))) ?_|refine LC.pure (qk (rL (rtk 2 (zY (rtk 1 (rdr b hb))))) (qW _)) ?_|refine LC.pure (qe (wpl (wud (vQ (rtk 1 (rdr b hb)) 1 (s0 c 2)) (rv 2 (zY (rtk 1 (rdr b hb))))) (rtk 2 (zY (rtk 1 (rdr b hb)))))) ?_|refine LC.pure (qk (rL (zY (rdr b hb))) (qW _)) ?_|refine LC.pure (qe (wpl (vQ (rdr b hb) 1 (s0 c 2)) (zY (rdr b hb)))) ?_|refine LC.pure (qk (rL (rtk 2 (zY (rdr b hb)))) (qW _)) ?_|refine LC.pure (qe (wpl (wud (vQ (rdr b hb) 1 (s0 c 2)) (rv 2 (zY (rdr b hb)))) (rtk 2 (zY (rdr b hb))))) ?_|refine LC.pure (zg _ _) ?_|refine goE ?_)|refine T.s ?_|((first|apply goB|apply AB.dec|apply AB.gen)<;>intro h<;>try(exfalso;omega))|refine LQ.mk fun r=>?_|exact T.z|fail)<;>conv=>whnf)
   all_goals(try dsimp only)
   all_goals(show RL _ _ _;refine goR ?_)
   all_goals first
     | (exact congrArg de (jZ (by assumption)).symm)
     | (exact congrArg de (xI (by assumption) (by assumption)).symm)
     | (exact congrArg de (xX (by assumption) (by assumption)).symm)
     | (exact congrArg de (jY (by assumption) (by assumption) (by assumption)).symm)
     | (exfalso;simp_all;done)
     | trace_state
theorem fdec3T_c(b:List UInt8)(hb:b.length≤140737488355328)(ck:Bool)(c:Int)(X:Rdr)(hp:qq b=(c,3,0))(hc:(0<c∧X=rtk 1 (rdr b hb))∨(¬0<c∧X=rdr b hb)):LP Tryz.prog G 126 [bv b,iAV 2,.bool ck] [] (fun _=>(de (jl ck (zX X) (vP X 2 (s0 c 3)) b),[])):= by
 rcases hc with ⟨hc,rfl⟩|⟨hc,rfl⟩<;>cases ck
 all_goals
   refine goW [] Tryz.func126 rfl ?_
   conv=>whnf
   repeat'((first|(rw[qF (X:=zX (rtk 1 (rdr b hb))) (by assumption)];conv=>whnf)|(rw[qF (X:=rtk 2 (zX (rtk 1 (rdr b hb)))) (by assumption)];conv=>whnf)|(rw[qF (X:=zX (rdr b hb)) (by assumption)];conv=>whnf)|(rw[qF (X:=rtk 2 (zX (rdr b hb))) (by assumption)];conv=>whnf)|(show LC _ _ _ _ _ _;first|refine LC.pure (fpk hp) ?_|(apply LC.upd (jX _ b hb);(repeat first|refine goH ?_|apply LH.here|apply LH.next);refine⟨rfl,?_⟩)|(apply LC.upd (zR _ _);(repeat first|refine goH ?_|apply LH.here|apply LH.next);refine⟨rfl,?_⟩)|(apply LC.upd (x9 _ _);(repeat first|refine goH ?_|apply LH.here|apply LH.next);refine⟨rfl,?_⟩)|(apply LC.upd (x8 _ _);(repeat first|refine goH ?_|apply LH.here|apply LH.next);refine⟨rfl,?_⟩)|(refine LC.two (fun hne=>flow3T_c _ _ (rtk 1 (rdr b hb)) _ rfl 2 (s0 c 3) hne rfl rfl) ?_;(repeat first|refine goH ?_|apply LH.here|apply LH.next);refine⟨rfl,?_⟩;(repeat first|refine goH ?_|apply LH.here|apply LH.next);refine⟨rfl,?_⟩)|(refine LC.two (fun hne=>flow3T_c _ _ (rdr b hb) _ (yo b hb).symm 2 (s0 c 3) hne rfl rfl) ?_;(repeat first|refine goH ?_|apply LH.here|apply LH.next);refine⟨rfl,?_⟩;(repeat first|refine goH ?_|apply LH.here|apply LH.next);refine⟨rfl,?_⟩)|refine LC.pure (qk (rL (zX (rtk 1 (rdr b hb)))) (qW _)) ?_|refine LC.pure (qe (wpl (vP (rtk 1 (rdr b hb)) 2 (s0 c 3)) (zX (rtk 1 (rdr b hb))))) ?_|refine LC.pure (qk (rL (rtk 2 (zX (rtk 1 (rdr b hb))))) (qW _)) ?_|refine LC.pure (qe (wpl (wud (vP (rtk 1 (rdr b hb)) 2 (s0 c 3)) (rv 2 (zX (rtk 1 (rdr b hb))))) (rtk 2 (zX (rtk 1 (rdr b hb)))))) ?_|refine LC.pure (qk (rL (zX (rdr b hb))) (qW _)) ?_|refine LC.pure (qe (wpl (vP (rdr b hb) 2 (s0 c 3)) (zX (rdr b hb)))) ?_|refine LC.pure (qk (rL (rtk 2 (zX (rdr b hb)))) (qW _)) ?_|refine LC.pure (qe (wpl (wud (vP (rdr b hb) 2 (s0 c 3)) (rv 2 (zX (rdr b hb)))) (rtk 2 (zX (rdr b hb))))) ?_|refine LC.pure (zg _ _) ?_|refine goE ?_)|refine T.s ?_|((first|apply goB|apply AB.dec|apply AB.gen)<;>intro h<;>try(exfalso;omega))|refine LQ.mk fun r=>?_|exact T.z|fail)<;>conv=>whnf)
   all_goals(try dsimp only)
   all_goals(show RL _ _ _;refine goR ?_)
   all_goals first
     | (exact congrArg de (jZ (by assumption)).symm)
     | (exact congrArg de (xI (by assumption) (by assumption)).symm)
     | (exact congrArg de (xX (by assumption) (by assumption)).symm)
     | (exact congrArg de (jY (by assumption) (by assumption) (by assumption)).symm)
     | (exfalso;simp_all;done)
     | trace_state
theorem fdec3U_c(b:List UInt8)(hb:b.length≤140737488355328)(ck:Bool)(c:Int)(X:Rdr)(hp:qq b=(c,3,0))(hc:(0<c∧X=rtk 1 (rdr b hb))∨(¬0<c∧X=rdr b hb)):LP Tryz.prog G 126 [bv b,iAV 1,.bool ck] [] (fun _=>(de (jl ck (zW X) (vO X 1 (s0 c 3)) b),[])):= by
 rcases hc with ⟨hc,rfl⟩|⟨hc,rfl⟩<;>cases ck
 all_goals
   refine goW [] Tryz.func126 rfl ?_
   conv=>whnf
   repeat'((first|(rw[qF (X:=zW (rtk 1 (rdr b hb))) (by assumption)];conv=>whnf)|(rw[qF (X:=rtk 2 (zW (rtk 1 (rdr b hb)))) (by assumption)];conv=>whnf)|(rw[qF (X:=zW (rdr b hb)) (by assumption)];conv=>whnf)|(rw[qF (X:=rtk 2 (zW (rdr b hb))) (by assumption)];conv=>whnf)|(show LC _ _ _ _ _ _;first|refine LC.pure (fpk hp) ?_|(apply LC.upd (jX _ b hb);(repeat first|refine goH ?_|apply LH.here|apply LH.next);refine⟨rfl,?_⟩)|(apply LC.upd (zR _ _);(repeat first|refine goH ?_|apply LH.here|apply LH.next);refine⟨rfl,?_⟩)|(apply LC.upd (x9 _ _);(repeat first|refine goH ?_|apply LH.here|apply LH.next);refine⟨rfl,?_⟩)|(apply LC.upd (x8 _ _);(repeat first|refine goH ?_|apply LH.here|apply LH.next);refine⟨rfl,?_⟩)|(refine LC.two (fun hne=>flow3U_c _ _ (rtk 1 (rdr b hb)) _ rfl 1 (s0 c 3) hne rfl (by decide)) ?_;(repeat first|refine goH ?_|apply LH.here|apply LH.next);refine⟨rfl,?_⟩;(repeat first|refine goH ?_|apply LH.here|apply LH.next);refine⟨rfl,?_⟩)|(refine LC.two (fun hne=>flow3U_c _ _ (rdr b hb) _ (yo b hb).symm 1 (s0 c 3) hne rfl (by decide)) ?_;(repeat first|refine goH ?_|apply LH.here|apply LH.next);refine⟨rfl,?_⟩;(repeat first|refine goH ?_|apply LH.here|apply LH.next);refine⟨rfl,?_⟩)|refine LC.pure (qk (rL (zW (rtk 1 (rdr b hb)))) (qW _)) ?_|refine LC.pure (qe (wpl (vO (rtk 1 (rdr b hb)) 1 (s0 c 3)) (zW (rtk 1 (rdr b hb))))) ?_|refine LC.pure (qk (rL (rtk 2 (zW (rtk 1 (rdr b hb))))) (qW _)) ?_|refine LC.pure (qe (wpl (wud (vO (rtk 1 (rdr b hb)) 1 (s0 c 3)) (rv 2 (zW (rtk 1 (rdr b hb))))) (rtk 2 (zW (rtk 1 (rdr b hb)))))) ?_|refine LC.pure (qk (rL (zW (rdr b hb))) (qW _)) ?_|refine LC.pure (qe (wpl (vO (rdr b hb) 1 (s0 c 3)) (zW (rdr b hb)))) ?_|refine LC.pure (qk (rL (rtk 2 (zW (rdr b hb)))) (qW _)) ?_|refine LC.pure (qe (wpl (wud (vO (rdr b hb) 1 (s0 c 3)) (rv 2 (zW (rdr b hb)))) (rtk 2 (zW (rdr b hb))))) ?_|refine LC.pure (zg _ _) ?_|refine goE ?_)|refine T.s ?_|((first|apply goB|apply AB.dec|apply AB.gen)<;>intro h<;>try(exfalso;omega))|refine LQ.mk fun r=>?_|exact T.z|fail)<;>conv=>whnf)
   all_goals(try dsimp only)
   all_goals(show RL _ _ _;refine goR ?_)
   all_goals first
     | (exact congrArg de (jZ (by assumption)).symm)
     | (exact congrArg de (xI (by assumption) (by assumption)).symm)
     | (exact congrArg de (xX (by assumption) (by assumption)).symm)
     | (exact congrArg de (jY (by assumption) (by assumption) (by assumption)).symm)
     | (exfalso;simp_all;done)
     | trace_state
end Go.Proofs.YtndpmpnmkpaklaaGreatDoor
