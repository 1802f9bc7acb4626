/-
  Contracts of the functions that the laws reach.
-/
import Derived.Test.YtndpmpnmkpaklaaGreatDoorHr31
set_option maxHeartbeats 4000000
set_option linter.all false
namespace Go.Proofs.YtndpmpnmkpaklaaGreatDoor
open Go.RowKit
variable {G:Nat→AV}
theorem orShl(x c:Int)(hx:0≤x∧x<16777216)(hc:0≤c∧c<256):qk .or .i64 (IntKind.i64.wrap (x*2^min (Int.toNat 8) IntKind.i64.bits)) c=256*x+c:=by
 obtain⟨a,rfl⟩:=Int.eq_ofNat_of_zero_le hx.1
 obtain⟨b,rfl⟩:=Int.eq_ofNat_of_zero_le hc.1
 have e1:IntKind.i64.wrap ((a:Int)*2^min (Int.toNat 8) IntKind.i64.bits)=((2^8*a:Nat):Int):=by
   show IntKind.i64.wrap ((a:Int)*256)=_
   rw[IntKind.wrap_i64]
   omega
 rw[e1]
 show IntKind.i64.wrap ((BitVec.ofInt 64 ((2^8*a:Nat):Int) ||| BitVec.ofInt 64 (b:Int)).toNat:Int)=_
 have e:(BitVec.ofInt 64 ((2^8*a:Nat):Int) ||| BitVec.ofInt 64 (b:Int)).toNat=2^8*a+b:=by
   rw[BitVec.toNat_or,BitVec.ofInt_natCast,BitVec.ofInt_natCast,BitVec.toNat_ofNat,BitVec.toNat_ofNat,Nat.mod_eq_of_lt (show 2^8*a<2^64 by omega),Nat.mod_eq_of_lt (show b<2^64 by omega),Nat.two_pow_add_eq_or_of_lt (by omega)]
 rw[e,IntKind.wrap_i64]
 omega
theorem qE(b:List UInt8)(a n:Nat)(h4:n≤4)(ha:a+n≤b.length)(hl:b.length≤100000):LP Tryz.prog G 155 [bv b,iAV a,iAV n] [] (fun _=>(iAV (gB b a n),[])):=by
 have hr:∀i,i<n→0≤gB b a i∧gB b a i<16777216:=fun i hi=>by
   have h:=beN_rng ((b.drop a).take i)
   have hk:((b.drop a).take i).length=i:=by simp;omega
   rw[hk] at h
   unfold gB
   have:i=0∨i=1∨i=2∨i=3:=by omega
   rcases this with rfl|rfl|rfl|rfl<;>omega
 have hz:gB b a 0=0:=by unfold gB;simp[beN]
 have hor:∀i,i<n→qk .or .i64 (IntKind.i64.wrap (gB b a i*2^min (Int.toNat 8) IntKind.i64.bits)) (IntKind.i64.wrap ((((b.drop a).take n).getD i 0).toNat:Int))=gB b a (i+1):=fun i hi=>by
   have hg:((b.drop a).take n).getD i 0=b.getD (a+i) 0:=by simp[List.getD_eq_getElem?_getD,List.getElem?_take,hi]
   have:=(b.getD (a+i) 0).toNat_lt
   have hw:IntKind.i64.wrap ((b.getD (a+i) 0).toNat:Int)=((b.getD (a+i) 0).toNat:Int):=by rw[IntKind.wrap_i64];omega
   have e1:gB b a (i+1)=256*gB b a i+((b.getD (a+i) 0).toNat:Int):=by
     unfold gB
     rw[List.take_succ_eq_append_getElem (by simp;omega),beN_app]
     simp[List.getD_eq_getElem?_getD,show a+i<b.length by omega]
   rw[hg,hw,orShl _ _ (hr i hi) (by omega),e1]
 have es:∀i:Nat,(i:Int)<(((q7 .add .i64 (a:Int) (n:Int)).toNat-(a:Int).toNat:Nat):Int)→i<n:=fun i h=>by simp only[q7,IntKind.wrap_i64] at h;omega
 refine goW [] Tryz.func155 rfl ?_
 conv=>whnf
 repeat'((first|(show AC _ _ _;first|(refine AC.idx (i) (0) ?_ ?_ ?_;(focus(first|exact rfl|(simp;done)|(simp;omega)));(focus(first|omega|exact T.side))))|(show AQ _ _;first|(refine AQ.subE a n ?_ ?_ ?_;(focus(first|exact rfl|((simp only[q7,IntKind.wrap_i64];omega))|(simp;omega)));(focus(first|exact rfl|((simp only[q7,IntKind.wrap_i64];omega))|(simp;omega)))))|refine T.s ?_|((first|apply goB|apply AB.dec|apply AB.gen)<;>intro h<;>try(exfalso;omega))|refine LQ.mk fun r=>?_|(show SWpL _ _ _ (.loop _) _ _ _;first|(apply goO tQ [] 3 (S:=Nat) [15,16] (fun i=>⟨[(17,.int .i64 i),(7,.int .i64 (gB b a i))],[],i≤n,n-i⟩) (0) (by rfl);(focus((repeat' first|exact trivial|(refine And.intro ?_ ?_)|exact LB.nil|(with_reducible exact LB.refl)|(apply LB.cons;(repeat first|refine goH ?_|apply LH.here|apply LH.next);refine And.intro ?_ ?_;(focus(try(first|(with_reducible rfl)|(refine congrArg (Pl.mk _) ?_;(first|rfl|(simp;done)))|rfl|(with_reducible refine congrArg (Pl.mk _) ?_)))))|assumption|((conv=>lhs;whnf);first|(with_reducible exact congrArg (AV.int .i64) (hor i (es i (by assumption))))|(with_reducible exact congrArg (AV.int .i64) hz.symm))|(first|(focus(apply Eq.trans;(conv=>lhs;whnf);(conv=>rhs;whnf);done))|rfl|((conv=>lhs;whnf);first|rfl|(refine congrArg (AV.int _) ?_;(exact T.num))|(refine congrArg AV.bool ?_;(exact T.num))|(refine vwc ?_;first|(exact T.num)|(first|rfl|(simp;done)))|(refine q9 ?_ ?_<;>first|(exact T.num)|(first|rfl|(simp;done)))|(first|rfl|(simp;done))))|(exact T.num)|(dsimp only;(exact T.num))|(first|rfl|(simp;done)));done));rintro i hok;(try dsimp only at hok)))|(show AtL _ _ _ _ _ _ _ _ _ _;first|(apply AtL.mk' (id:=3) (S:=Nat) (i+1);(repeat' first|exact trivial|(refine And.intro ?_ ?_)|exact LB.nil|(with_reducible exact LB.refl)|(apply LB.cons;(repeat first|refine goH ?_|apply LH.here|apply LH.next);refine And.intro ?_ ?_;(focus(try(first|(with_reducible rfl)|(refine congrArg (Pl.mk _) ?_;(first|rfl|(simp;done)))|rfl|(with_reducible refine congrArg (Pl.mk _) ?_)))))|assumption|((conv=>lhs;whnf);first|(with_reducible exact congrArg (AV.int .i64) (hor i (es i (by assumption))))|(with_reducible exact congrArg (AV.int .i64) hz.symm))|(first|(focus(apply Eq.trans;(conv=>lhs;whnf);(conv=>rhs;whnf);done))|rfl|((conv=>lhs;whnf);first|rfl|(refine congrArg (AV.int _) ?_;(exact T.num))|(refine congrArg AV.bool ?_;(exact T.num))|(refine vwc ?_;first|(exact T.num)|(first|rfl|(simp;done)))|(refine q9 ?_ ?_<;>first|(exact T.num)|(first|rfl|(simp;done)))|(first|rfl|(simp;done))))|(exact T.num)|(dsimp only;(exact T.num))|(first|rfl|(simp;done)));done)|(apply AtL.mk' (id:=3) (S:=Nat) (i+1);(repeat' first|exact trivial|(refine And.intro ?_ ?_)|exact LB.nil|(with_reducible exact LB.refl)|(apply LB.cons;(repeat first|refine goH ?_|apply LH.here|apply LH.next);refine And.intro ?_ ?_;(focus(try(first|(with_reducible rfl)|(refine congrArg (Pl.mk _) ?_;(first|rfl|(simp;done)))|rfl|(with_reducible refine congrArg (Pl.mk _) ?_)))))|assumption|((conv=>lhs;whnf);first|(with_reducible exact congrArg (AV.int .i64) (hor i (es i (by assumption))))|(with_reducible exact congrArg (AV.int .i64) hz.symm))|(first|(focus(apply Eq.trans;(conv=>lhs;whnf);(conv=>rhs;whnf);done))|rfl|((conv=>lhs;whnf);first|rfl|(refine congrArg (AV.int _) ?_;(exact T.num))|(refine congrArg AV.bool ?_;(exact T.num))|(refine vwc ?_;first|(exact T.num)|(first|rfl|(simp;done)))|(refine q9 ?_ ?_<;>first|(exact T.num)|(first|rfl|(simp;done)))|(first|rfl|(simp;done))))|(exact T.num)|(dsimp only;(exact T.num))|(first|rfl|(simp;done)))))|(show(_→_)∧(¬_→_);first|refine T.y ?_|refine qv (fun h=>?_) (fun h=>?_))|exact T.z|refine⟨_,rfl,rfl,?_⟩|fail)<;>conv=>whnf)
 all_goals(try dsimp only)
 all_goals(obtain rfl:i=n:=(by first|(simp at h;omega)|(simp only[q7,IntKind.wrap_i64] at h;omega)|(have hh:=h;(conv at hh=>whnf);simp only[q7,IntKind.wrap_i64] at hh;omega)|(trace_state;fail)))
 all_goals(show RL _ _ _;refine goR ?_)
 all_goals rfl
theorem qh6:∀x:Nat,x<256→qk .and .i64 ((IntKind.i64.wrap (x:Int)).fdiv (2^min (6:Int).toNat IntKind.i64.bits)) 1=((x / 64%2:Nat):Int):=by decide +kernel
theorem qh7:∀x:Nat,x<256→(IntKind.i64.wrap (x:Int)).fdiv (2^min (7:Int).toNat IntKind.i64.bits)=((x / 128:Nat):Int):=by decide +kernel
theorem qn7:∀x:Nat,x<256→qk .and .i64 (IntKind.i64.wrap (x:Int)) 127=((x%128:Nat):Int):=by decide +kernel
theorem bld_z{h:Hd}{p b:List UInt8}(h28:28≤b.length)(e:(zh h p).1=b):(zh h p).2=0:=by
 subst e
 revert h28
 unfold zh
 (repeat' split)<;>intro h28<;>first|rfl|(simp at h28)
theorem pparse_u(b:List UInt8)(h28:28≤b.length)(hl:b.length≤1500)(hr:isRtp b=false):LP Tryz.prog G 115 [bv b] [] (fun _=>(.tup [(qu b).1.1.av,bv (qu b).1.2,iAV (qu b).2],[])):=by
 have hX:(⟨1,IntKind.i64.wrap ((b.getD 1 0).toNat:Int),gB b 4 2,qk .and .i64 ((IntKind.i64.wrap ((b.getD 6 0).toNat:Int)).fdiv (2^min (6:Int).toNat IntKind.i64.bits)) 1,IntKind.i64.wrap ((b.getD 8 0).toNat:Int),gB b 12 4,gB b 16 4,gB b 20 2,gB b 22 2,gB b 26 2,0,0,0,0,0⟩:Hd)=kd b:=by
   unfold kd
   rw[hr,qh6 _ (b.getD 6 0).toNat_lt,wr8 _ (b.getD 1 0).toNat_lt,wr8 _ (b.getD 8 0).toNat_lt]
   rfl
 have hN:prsN b=28:=by unfold prsN;rw[hr];rfl
 have hl:b.length≤100000:=by omega
 have hB:=pbuild_c (G:=G) (kd b) (b.drop 28) (by simp;omega)
 have hS:=ze (G:=G) (zh (kd b) (b.drop 28)).1 b
 have hZ:(zh (kd b) (b.drop 28)).1=b→(zh (kd b) (b.drop 28)).2=0:=bld_z h28
 rw[parsR_u b (by omega) (by omega),hN]
 simp only[isRtp,Bool.and_eq_true,Bool.and_eq_false_iff,decide_eq_true_eq,decide_eq_false_iff_not,n128] at hr
 by_cases hc:zh (kd b) (b.drop 28)=(b,0)
 · rw[if_pos hc]
   rw[hc] at hB hS
   rw[decide_eq_true rfl] at hS
   rw[←hX] at hB ⊢
   refine goW [] Tryz.func115 rfl ?_
   conv=>whnf
   repeat'((first|exact Nm.b 0|(show LC _ _ _ _ _ _;first|refine LC.pure (qE b 4 2 (by decide) (by omega) hl) ?_|refine LC.pure (qE b 12 4 (by decide) (by omega) hl) ?_|refine LC.pure (qE b 16 4 (by decide) (by omega) hl) ?_|refine LC.pure (qE b 20 2 (by decide) (by omega) hl) ?_|refine LC.pure (qE b 22 2 (by decide) (by omega) hl) ?_|refine LC.pure (qE b 26 2 (by decide) (by omega) hl) ?_|refine LC.pure (qE b 30 2 (by decide) (by omega) hl) ?_|refine LC.pure (qE b 32 4 (by decide) (by omega) hl) ?_|refine LC.pure (qE b 36 4 (by decide) (by omega) hl) ?_|refine LC.pure (hB) ?_|refine LC.pure (hS) ?_|refine LC.pure (qh (b.drop 28) (by simp;omega)) ?_|refine goE ?_)|(show AC _ _ _;first|(refine AC.idx 1 0 rfl ?_ ?_;(focus omega))|(refine AC.idx 6 0 rfl ?_ ?_;(focus omega))|(refine AC.idx 8 0 rfl ?_ ?_;(focus omega))|(refine AC.idx 28 0 rfl ?_ ?_;(focus omega))|(refine AC.idx 29 0 rfl ?_ ?_;(focus omega)))|(show AQ _ _;first|(refine AQ.tailE 28 rfl ?_ ?_;(focus(simp;omega))))|refine T.s ?_|((first|apply goB|apply AB.dec|apply AB.gen)<;>intro h<;>try(exfalso;omega))|refine LQ.mk fun r=>?_|(show SWpL _ _ _ _ _ _ _;first|(refine goD tQ qc 3 [2,8,14,5,17,19,21,23,25] [0,1,2,3,4,6,7,8,9,10,11,12,13,14,15,16,18,20,22,24,5,17,19,21,23,25,26,27] [r] (by kernel_rfl) ?_)|(refine goD tQ qc 3 [2,8,14,5,17,19,21,23,25] [0,1,2,3,4,6,7,8,9,10,11,12,13,14,15,16,18,20,22,24,5,17,19,21,23,25,26,27] [] (by kernel_rfl) ?_)|(refine goD tQ qc 7 [7,11] [0,1,2,3,4,5,6,7,8,9,10,11,12,13] [] (by kernel_rfl) ?_)|(refine goD tQ qc 9 [] [0,1,2,3,4,5,6,7,8,9] [r] (by kernel_rfl) ?_)|(refine goD tQ qc 9 [] [0,1,2,3,4,5,6,7,8,9] [] (by kernel_rfl) ?_)|(refine goD tQ qc 12 [0,4] [0,1,2,3,4,5,6,7] [r] (by kernel_rfl) ?_)|(refine goD tQ qc 12 [0,4] [0,1,2,3,4,5,6,7] [] (by kernel_rfl) ?_))|(show(_→_)∧(¬_→_);first|refine T.y ?_|refine qv (fun h=>?_) (fun h=>?_))|exact T.z|refine⟨_,rfl,rfl,?_⟩|fail)<;>conv=>whnf)
   all_goals(try dsimp only)
   all_goals
     (show RL _ _ _;refine goR ?_)
     rfl
 · rw[if_neg hc]
   rw[decide_eq_false (fun e=>hc (Prod.ext e (hZ e)))] at hS
   rw[←hX] at hB hS
   refine goW [] Tryz.func115 rfl ?_
   conv=>whnf
   repeat'((first|exact Nm.b 0|(show LC _ _ _ _ _ _;first|refine LC.pure (qE b 4 2 (by decide) (by omega) hl) ?_|refine LC.pure (qE b 12 4 (by decide) (by omega) hl) ?_|refine LC.pure (qE b 16 4 (by decide) (by omega) hl) ?_|refine LC.pure (qE b 20 2 (by decide) (by omega) hl) ?_|refine LC.pure (qE b 22 2 (by decide) (by omega) hl) ?_|refine LC.pure (qE b 26 2 (by decide) (by omega) hl) ?_|refine LC.pure (qE b 30 2 (by decide) (by omega) hl) ?_|refine LC.pure (qE b 32 4 (by decide) (by omega) hl) ?_|refine LC.pure (qE b 36 4 (by decide) (by omega) hl) ?_|refine LC.pure (hB) ?_|refine LC.pure (hS) ?_|refine LC.pure (qh (b.drop 28) (by simp;omega)) ?_|refine goE ?_)|(show AC _ _ _;first|(refine AC.idx 1 0 rfl ?_ ?_;(focus omega))|(refine AC.idx 6 0 rfl ?_ ?_;(focus omega))|(refine AC.idx 8 0 rfl ?_ ?_;(focus omega))|(refine AC.idx 28 0 rfl ?_ ?_;(focus omega))|(refine AC.idx 29 0 rfl ?_ ?_;(focus omega)))|(show AQ _ _;first|(refine AQ.tailE 28 rfl ?_ ?_;(focus(simp;omega))))|refine T.s ?_|((first|apply goB|apply AB.dec|apply AB.gen)<;>intro h<;>try(exfalso;omega))|refine LQ.mk fun r=>?_|(show SWpL _ _ _ _ _ _ _;first|(refine goD tQ qc 3 [2,8,14,5,17,19,21,23,25] [0,1,2,3,4,6,7,8,9,10,11,12,13,14,15,16,18,20,22,24,5,17,19,21,23,25,26,27] [r] (by kernel_rfl) ?_)|(refine goD tQ qc 3 [2,8,14,5,17,19,21,23,25] [0,1,2,3,4,6,7,8,9,10,11,12,13,14,15,16,18,20,22,24,5,17,19,21,23,25,26,27] [] (by kernel_rfl) ?_)|(refine goD tQ qc 7 [7,11] [0,1,2,3,4,5,6,7,8,9,10,11,12,13] [] (by kernel_rfl) ?_)|(refine goD tQ qc 9 [] [0,1,2,3,4,5,6,7,8,9] [r] (by kernel_rfl) ?_)|(refine goD tQ qc 9 [] [0,1,2,3,4,5,6,7,8,9] [] (by kernel_rfl) ?_)|(refine goD tQ qc 12 [0,4] [0,1,2,3,4,5,6,7] [r] (by kernel_rfl) ?_)|(refine goD tQ qc 12 [0,4] [0,1,2,3,4,5,6,7] [] (by kernel_rfl) ?_))|(show(_→_)∧(¬_→_);first|refine T.y ?_|refine qv (fun h=>?_) (fun h=>?_))|exact T.z|refine⟨_,rfl,rfl,?_⟩|fail)<;>conv=>whnf)
   all_goals(try dsimp only)
   all_goals first
     | exact RL.hdn
     | trace_state
theorem pparse_t(b:List UInt8)(h28:28≤b.length)(hl:b.length≤1500)(hr:isRtp b=true):LP Tryz.prog G 115 [bv b] [] (fun _=>(.tup [(qu b).1.1.av,bv (qu b).1.2,iAV (qu b).2],[])):=by
 have hX:(⟨2,IntKind.i64.wrap ((b.getD 1 0).toNat:Int),gB b 4 2,qk .and .i64 ((IntKind.i64.wrap ((b.getD 6 0).toNat:Int)).fdiv (2^min (6:Int).toNat IntKind.i64.bits)) 1,IntKind.i64.wrap ((b.getD 8 0).toNat:Int),gB b 12 4,gB b 16 4,gB b 20 2,gB b 22 2,gB b 26 2,(IntKind.i64.wrap ((b.getD 29 0).toNat:Int)).fdiv (2^min (7:Int).toNat IntKind.i64.bits),qk .and .i64 (IntKind.i64.wrap ((b.getD 29 0).toNat:Int)) 127,gB b 30 2,gB b 32 4,gB b 36 4⟩:Hd)=kd b:=by
   unfold kd
   rw[hr,qh6 _ (b.getD 6 0).toNat_lt,wr8 _ (b.getD 1 0).toNat_lt,wr8 _ (b.getD 8 0).toNat_lt,qh7 _ (b.getD 29 0).toNat_lt,qn7 _ (b.getD 29 0).toNat_lt]
   rfl
 have hN:prsN b=40:=by unfold prsN;rw[hr];rfl
 have hl:b.length≤100000:=by omega
 have hB:=pbuild_c (G:=G) (kd b) (b.drop 40) (by simp;omega)
 have hS:=ze (G:=G) (zh (kd b) (b.drop 40)).1 b
 have hZ:(zh (kd b) (b.drop 40)).1=b→(zh (kd b) (b.drop 40)).2=0:=bld_z h28
 rw[parsR_u b (by omega) (by omega),hN]
 simp only[isRtp,Bool.and_eq_true,Bool.and_eq_false_iff,decide_eq_true_eq,decide_eq_false_iff_not,n128] at hr
 by_cases hc:zh (kd b) (b.drop 40)=(b,0)
 · rw[if_pos hc]
   rw[hc] at hB hS
   rw[decide_eq_true rfl] at hS
   rw[←hX] at hB ⊢
   refine goW [] Tryz.func115 rfl ?_
   conv=>whnf
   repeat'((first|exact Nm.b 0|(show LC _ _ _ _ _ _;first|refine LC.pure (qE b 4 2 (by decide) (by omega) hl) ?_|refine LC.pure (qE b 12 4 (by decide) (by omega) hl) ?_|refine LC.pure (qE b 16 4 (by decide) (by omega) hl) ?_|refine LC.pure (qE b 20 2 (by decide) (by omega) hl) ?_|refine LC.pure (qE b 22 2 (by decide) (by omega) hl) ?_|refine LC.pure (qE b 26 2 (by decide) (by omega) hl) ?_|refine LC.pure (qE b 30 2 (by decide) (by omega) hl) ?_|refine LC.pure (qE b 32 4 (by decide) (by omega) hl) ?_|refine LC.pure (qE b 36 4 (by decide) (by omega) hl) ?_|refine LC.pure (hB) ?_|refine LC.pure (hS) ?_|refine LC.pure (qh (b.drop 40) (by simp;omega)) ?_|refine goE ?_)|(show AC _ _ _;first|(refine AC.idx 1 0 rfl ?_ ?_;(focus omega))|(refine AC.idx 6 0 rfl ?_ ?_;(focus omega))|(refine AC.idx 8 0 rfl ?_ ?_;(focus omega))|(refine AC.idx 28 0 rfl ?_ ?_;(focus omega))|(refine AC.idx 29 0 rfl ?_ ?_;(focus omega)))|(show AQ _ _;first|(refine AQ.tailE 40 rfl ?_ ?_;(focus(simp;omega))))|refine T.s ?_|((first|apply goB|apply AB.dec|apply AB.gen)<;>intro h<;>try(exfalso;omega))|refine LQ.mk fun r=>?_|(show SWpL _ _ _ _ _ _ _;first|(refine goD tQ qc 3 [2,8,14,5,17,19,21,23,25] [0,1,2,3,4,6,7,8,9,10,11,12,13,14,15,16,18,20,22,24,5,17,19,21,23,25,26,27] [r] (by kernel_rfl) ?_)|(refine goD tQ qc 3 [2,8,14,5,17,19,21,23,25] [0,1,2,3,4,6,7,8,9,10,11,12,13,14,15,16,18,20,22,24,5,17,19,21,23,25,26,27] [] (by kernel_rfl) ?_)|(refine goD tQ qc 7 [7,11] [0,1,2,3,4,5,6,7,8,9,10,11,12,13] [] (by kernel_rfl) ?_)|(refine goD tQ qc 9 [] [0,1,2,3,4,5,6,7,8,9] [r] (by kernel_rfl) ?_)|(refine goD tQ qc 9 [] [0,1,2,3,4,5,6,7,8,9] [] (by kernel_rfl) ?_)|(refine goD tQ qc 12 [0,4] [0,1,2,3,4,5,6,7] [r] (by kernel_rfl) ?_)|(refine goD tQ qc 12 [0,4] [0,1,2,3,4,5,6,7] [] (by kernel_rfl) ?_))|(show(_→_)∧(¬_→_);first|refine T.y ?_|refine qv (fun h=>?_) (fun h=>?_))|exact T.z|refine⟨_,rfl,rfl,?_⟩|fail)<;>conv=>whnf)
   all_goals(try dsimp only)
   all_goals
     (show RL _ _ _;refine goR ?_)
     rfl
 · rw[if_neg hc]
   rw[decide_eq_false (fun e=>hc (Prod.ext e (hZ e)))] at hS
   rw[←hX] at hB hS
   refine goW [] Tryz.func115 rfl ?_
   conv=>whnf
   repeat'((first|exact Nm.b 0|(show LC _ _ _ _ _ _;first|refine LC.pure (qE b 4 2 (by decide) (by omega) hl) ?_|refine LC.pure (qE b 12 4 (by decide) (by omega) hl) ?_|refine LC.pure (qE b 16 4 (by decide) (by omega) hl) ?_|refine LC.pure (qE b 20 2 (by decide) (by omega) hl) ?_|refine LC.pure (qE b 22 2 (by decide) (by omega) hl) ?_|refine LC.pure (qE b 26 2 (by decide) (by omega) hl) ?_|refine LC.pure (qE b 30 2 (by decide) (by omega) hl) ?_|refine LC.pure (qE b 32 4 (by decide) (by omega) hl) ?_|refine LC.pure (qE b 36 4 (by decide) (by omega) hl) ?_|refine LC.pure (hB) ?_|refine LC.pure (hS) ?_|refine LC.pure (qh (b.drop 40) (by simp;omega)) ?_|refine goE ?_)|(show AC _ _ _;first|(refine AC.idx 1 0 rfl ?_ ?_;(focus omega))|(refine AC.idx 6 0 rfl ?_ ?_;(focus omega))|(refine AC.idx 8 0 rfl ?_ ?_;(focus omega))|(refine AC.idx 28 0 rfl ?_ ?_;(focus omega))|(refine AC.idx 29 0 rfl ?_ ?_;(focus omega)))|(show AQ _ _;first|(refine AQ.tailE 40 rfl ?_ ?_;(focus(simp;omega))))|refine T.s ?_|((first|apply goB|apply AB.dec|apply AB.gen)<;>intro h<;>try(exfalso;omega))|refine LQ.mk fun r=>?_|(show SWpL _ _ _ _ _ _ _;first|(refine goD tQ qc 3 [2,8,14,5,17,19,21,23,25] [0,1,2,3,4,6,7,8,9,10,11,12,13,14,15,16,18,20,22,24,5,17,19,21,23,25,26,27] [r] (by kernel_rfl) ?_)|(refine goD tQ qc 3 [2,8,14,5,17,19,21,23,25] [0,1,2,3,4,6,7,8,9,10,11,12,13,14,15,16,18,20,22,24,5,17,19,21,23,25,26,27] [] (by kernel_rfl) ?_)|(refine goD tQ qc 7 [7,11] [0,1,2,3,4,5,6,7,8,9,10,11,12,13] [] (by kernel_rfl) ?_)|(refine goD tQ qc 9 [] [0,1,2,3,4,5,6,7,8,9] [r] (by kernel_rfl) ?_)|(refine goD tQ qc 9 [] [0,1,2,3,4,5,6,7,8,9] [] (by kernel_rfl) ?_)|(refine goD tQ qc 12 [0,4] [0,1,2,3,4,5,6,7] [r] (by kernel_rfl) ?_)|(refine goD tQ qc 12 [0,4] [0,1,2,3,4,5,6,7] [] (by kernel_rfl) ?_))|(show(_→_)∧(¬_→_);first|refine T.y ?_|refine qv (fun h=>?_) (fun h=>?_))|exact T.z|refine⟨_,rfl,rfl,?_⟩|fail)<;>conv=>whnf)
   all_goals(try dsimp only)
   all_goals first
     | exact RL.hdn
     | trace_state
theorem jQ(b:List UInt8)(hl:b.length≤100000):LP Tryz.prog G 115 [bv b] [] (fun _=>(.tup [(qu b).1.1.av,bv (qu b).1.2,iAV (qu b).2],[])):=by
 by_cases h:b.length<28∨1500<b.length
 · rw[show qu b=((Hd.z,[]),2) from if_pos h]
   refine goW [] Tryz.func115 rfl ?_
   conv=>whnf
   repeat'((first|exact Nm.b 0|refine T.s ?_|((first|apply goB|apply AB.dec|apply AB.gen)<;>intro h<;>try(exfalso;omega))|refine LQ.mk fun r=>?_|(show SWpL _ _ _ _ _ _ _;first|(refine goD tQ qc 3 [2,8,14,5,17,19,21,23,25] [0,1,2,3,4,6,7,8,9,10,11,12,13,14,15,16,18,20,22,24,5,17,19,21,23,25,26,27] [] (by kernel_rfl) ?_)|(refine goD tQ qc 7 [7,11] [0,1,2,3,4,5,6,7,8,9,10,11,12,13] [] (by kernel_rfl) ?_)|(refine goD tQ qc 9 [] [0,1,2,3,4,5,6,7,8,9] [] (by kernel_rfl) ?_)|(refine goD tQ qc 12 [0,4] [0,1,2,3,4,5,6,7] [] (by kernel_rfl) ?_))|(show(_→_)∧(¬_→_);first|refine T.y ?_|refine qv (fun h=>?_) (fun h=>?_))|exact T.z|refine⟨_,rfl,rfl,?_⟩|fail)<;>conv=>whnf)
   all_goals(try dsimp only)
   all_goals exact RL.hdn
 · cases hr:isRtp b with
   | true=>exact pparse_t b (by omega) (by omega) hr
   | false=>exact pparse_u b (by omega) (by omega) hr
end Go.Proofs.YtndpmpnmkpaklaaGreatDoor
