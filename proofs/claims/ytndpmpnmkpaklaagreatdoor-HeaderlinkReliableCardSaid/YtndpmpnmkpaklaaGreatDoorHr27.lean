/-
  Contracts of the functions that the laws reach.
-/
import Derived.Test.YtndpmpnmkpaklaaGreatDoorHr26
set_option maxHeartbeats 8000000
set_option linter.all false
namespace Go.Proofs.YtndpmpnmkpaklaaGreatDoor
open Go.RowKit
variable {G:Nat→AV}
theorem fsame_c(a b:Hd):LP Tryz.prog G 145 [a.av,b.av] [] (fun _=>(.bool (qy a b),[])):=by
 refine goW [] Tryz.func145 rfl ?_
 conv=>whnf
 repeat'((first|exact Nm.b 0|(show LC _ _ _ _ _ _;first|refine LC.pure (fstatic_c _) ?_|refine goE ?_)|refine T.s ?_|((first|apply goB|apply AB.dec|apply AB.gen)<;>intro h<;>try(exfalso;omega))|refine LQ.mk fun r=>?_|(show SWpL _ _ _ _ _ _ _;first|refine gX 1 [2,1] [0,2,1,3,4,5] [] ?_)|exact T.z|fail)<;>conv=>whnf)
 all_goals(try dsimp only)
 all_goals
   (show RL _ _ _;refine goR ?_)
   refine congrArg AV.bool ?_
   rw[Bool.eq_iff_iff]
   simp[qy,za,Hd.static]
theorem fchg_c(a b:Hd):LP Tryz.prog G 165 [a.av,b.av] [] (fun _=>(iAV (jq a b),[])):=by
 refine goW [] Tryz.func165 rfl ?_
 conv=>whnf
 repeat'((first|refine T.s ?_|((first|apply goB|apply AB.dec|apply AB.gen)<;>intro h<;>try(exfalso;omega))|refine LQ.mk fun r=>?_|(show SWpL _ _ _ _ _ _ _;first|refine SWpL.times 3 6 (by rfl) ?_|refine AtL.step tQ [] ?_)|exact T.z|fail)<;>conv=>whnf)
 all_goals(try dsimp only)
 all_goals
   (show RL _ _ _;refine goR ?_)
   unfold jq
   (repeat first|rw[if_pos (by first|assumption|omega)]|rw[if_neg (by first|assumption|omega)])
   rfl
open Go.RowKit
variable {G:Nat→AV}
theorem any_idx{α:Type}(l:List α)(P:α→Bool):decide (0≤kE (l.findIdx? P))=l.any P:=by
 cases h:l.findIdx? P with
 | none =>
   have:l.any P=false:=by
     rw[List.findIdx?_eq_none_iff] at h
     rw[Bool.eq_false_iff]
     intro hh
     obtain⟨x,hx,hb⟩:=List.any_eq_true.1 hh
     rw[h x hx] at hb
     cases hb
   rw[this];rfl
 | some j =>
   have:l.any P=true:=by
     rw[List.findIdx?_eq_some_iff_getElem] at h
     obtain⟨h1,h2,-⟩:=h
     exact List.any_eq_true.2 ⟨_,List.getElem_mem h1,h2⟩
   rw[this]
   simp[kE]
theorem cbnd_c(x m:Int):LP Tryz.prog G 190 [iAV x,iAV m] [] (fun _=>(.bool (inR x m),[])):=by
 refine goW [] Tryz.func190 rfl ?_
 conv=>whnf
 repeat'((first|refine T.s ?_|((first|apply goB|apply AB.dec|apply AB.gen)<;>intro h<;>try(exfalso;omega))|refine LQ.mk fun r=>?_|exact T.z|fail)<;>conv=>whnf)
 all_goals(try dsimp only)
 all_goals
   (show RL _ _ _;refine goR ?_)
   simp[inR,qr, *]
theorem cshap_c(m w:Int):LP Tryz.prog G 47 [iAV m,iAV w] [] (fun _=>(.bool (xY m w),[])):=by
 refine goW [] Tryz.func47 rfl ?_
 conv=>whnf
 repeat'((first|refine T.s ?_|((first|apply goB|apply AB.dec|apply AB.gen)<;>intro h<;>try(exfalso;omega))|refine LQ.mk fun r=>?_|exact T.z|fail)<;>conv=>whnf)
 all_goals(try dsimp only)
 all_goals
   (show RL _ _ _;refine goR ?_)
   unfold xY
   simp[qr, *]
theorem cnewc_c(m w:Int):LP Tryz.prog G 28 [iAV m,iAV w] [] (fun _=>(.tup [(cnewR m w).1.av,iAV (cnewR m w).2],[])):=by
 have hs:=cshap_c (G:=G) m w
 by_cases h:1≤m∧m≤3∧1≤w∧w≤8
 · rw[shapR_t h]
   rw[show xY m w=true from decide_eq_true h] at hs
   refine goW [] Tryz.func28 rfl ?_
   conv=>whnf
   repeat'((first|(show LC _ _ _ _ _ _;first|refine LC.pure (hs) ?_|refine goE ?_)|(show AQ _ _;first|(refine AQ.eq (cs':=(List.replicate 16 ()).flatMap fun _=>zsn) rfl ?_))|refine T.s ?_|((first|apply goB|apply AB.dec|apply AB.gen)<;>intro h<;>try(exfalso;omega))|refine LQ.mk fun r=>?_|exact T.z|fail)<;>conv=>whnf)
   all_goals(try dsimp only)
   all_goals
     refine RL.frz [r] (LF.tup (xs:=[.agg [.int .i64 m,.int .i64 w,.vw r 0 16 9],.int .i64 0]) (ys:=[Co.av ⟨m,w,List.replicate 16 Sn.z⟩,iAV 0]) ⟨LF.agg (xs:=[.int .i64 m,.int .i64 w,.vw r 0 16 9]) (ys:=[iAV m,iAV w,snv (List.replicate 16 Sn.z)]) ⟨LF.eq rfl,LF.eq rfl,LF.rowN InL.here ?_,trivial⟩,LF.eq rfl,trivial⟩) ?_
     · (repeat first|refine goH ?_|apply LH.here|apply LH.next)
       exact⟨by decide,by kernel_rfl,by simp,by
         rw[show(List.replicate 16 Sn.z).flatMap Sn.cs=(List.replicate 16 ()).flatMap fun _=>Sn.z.cs by kernel_rfl]
         exact LFs.fm (fun _=>zsn_f) _⟩
     · (repeat first|refine goH ?_|apply LH.here|apply LH.next)
       exact LB.nil
 · rw[shapR_f h]
   rw[show xY m w=false from decide_eq_false h] at hs
   refine goW [] Tryz.func28 rfl ?_
   conv=>whnf
   repeat'((first|(show LC _ _ _ _ _ _;first|refine LC.pure (hs) ?_|refine goE ?_)|refine T.s ?_|((first|apply goB|apply AB.dec|apply AB.gen)<;>intro h<;>try(exfalso;omega))|refine LQ.mk fun r=>?_|exact T.z|fail)<;>conv=>whnf)
   all_goals(try dsimp only)
   all_goals exact RL.coz
theorem hidx_c{P:Hd→Bool}(F:Nat)(p:Nm)(pl:Pl)(hp:∀h:Hd,LP Tryz.prog G F [h.av,.ptr p 0] [(p,pl)] (fun _=>(.bool (P h),[(p,pl)])))(l:List Hd)(hl:l.length≤100000):LP Tryz.prog G 208 [hdv l,.clo (.func F) [] [.ptr p 0]] [(p,pl)] (fun _=>(iAV (kE (l.findIdx? P)),[(p,pl)])):=by
 refine goW [] Tryz.func208 rfl ?_
 conv=>whnf
 repeat'((first|(refine And.intro ?_ ?_;(focus(first|exact kc Hd.cs_len (by assumption)|exact T.kx|exact T.side)))|(show LC _ _ _ _ _ _;first|(apply LC.upd (hp (l.getD i Hd.z));(repeat first|refine goH ?_|apply LH.here|apply LH.next);refine⟨rfl,?_⟩)|refine goE ?_)|(show AC _ _ _;first|(refine AC.recd Hd.cs_len i Hd.z rfl rfl ?_ ?_;(focus omega)))|refine T.s ?_|((first|apply goB|apply AB.dec|apply AB.gen)<;>intro h<;>try(exfalso;omega))|refine LQ.mk fun r=>?_|(show SWpL _ _ _ (.loop _) _ _ _;first|(apply goO tQ [] 2 (S:=Nat) [0,1,7] (fun i=>⟨[(8,.int .i64 i)],[(p,pl)],i≤l.length∧(l.take i).findIdx? P=none,l.length-i⟩) (0) (by rfl);(focus((repeat' first|exact trivial|(refine And.intro ?_ ?_)|exact LB.nil|(with_reducible exact LB.refl)|(apply LB.cons;(repeat first|refine goH ?_|apply LH.here|apply LH.next);refine And.intro ?_ ?_;(focus(try(first|(with_reducible rfl)|(refine congrArg (Pl.mk _) ?_;(first|rfl|(simp;done)))|rfl|(with_reducible refine congrArg (Pl.mk _) ?_)))))|assumption|(exact xe Hd.z (by omega) hok (by assumption))|(first|(focus(apply Eq.trans;(conv=>lhs;whnf);(conv=>rhs;whnf);done))|rfl|((conv=>lhs;whnf);first|rfl|(refine congrArg (AV.int _) ?_;(exact T.num))|(refine congrArg AV.bool ?_;(exact T.num))|(refine vwc ?_;first|(exact T.num)|(first|rfl|(simp;done)))|(refine q9 ?_ ?_<;>first|(exact T.num)|(first|rfl|(simp;done)))|(first|rfl|(simp;done))))|(exact T.num)|(dsimp only;(exact T.num))|(first|rfl|(simp;done)));done));rintro i ⟨hk,hok⟩))|(show AtL _ _ _ _ _ _ _ _ _ _;first|(apply AtL.mk' (id:=2) (S:=Nat) (i+1);(repeat' first|exact trivial|(refine And.intro ?_ ?_)|exact LB.nil|(with_reducible exact LB.refl)|(apply LB.cons;(repeat first|refine goH ?_|apply LH.here|apply LH.next);refine And.intro ?_ ?_;(focus(try(first|(with_reducible rfl)|(refine congrArg (Pl.mk _) ?_;(first|rfl|(simp;done)))|rfl|(with_reducible refine congrArg (Pl.mk _) ?_)))))|assumption|(exact xe Hd.z (by omega) hok (by assumption))|(first|(focus(apply Eq.trans;(conv=>lhs;whnf);(conv=>rhs;whnf);done))|rfl|((conv=>lhs;whnf);first|rfl|(refine congrArg (AV.int _) ?_;(exact T.num))|(refine congrArg AV.bool ?_;(exact T.num))|(refine vwc ?_;first|(exact T.num)|(first|rfl|(simp;done)))|(refine q9 ?_ ?_<;>first|(exact T.num)|(first|rfl|(simp;done)))|(first|rfl|(simp;done))))|(exact T.num)|(dsimp only;(exact T.num))|(first|rfl|(simp;done)));done)|(apply AtL.mk' (id:=2) (S:=Nat) (i+1);(repeat' first|exact trivial|(refine And.intro ?_ ?_)|exact LB.nil|(with_reducible exact LB.refl)|(apply LB.cons;(repeat first|refine goH ?_|apply LH.here|apply LH.next);refine And.intro ?_ ?_;(focus(try(first|(with_reducible rfl)|(refine congrArg (Pl.mk _) ?_;(first|rfl|(simp;done)))|rfl|(with_reducible refine congrArg (Pl.mk _) ?_)))))|assumption|(exact xe Hd.z (by omega) hok (by assumption))|(first|(focus(apply Eq.trans;(conv=>lhs;whnf);(conv=>rhs;whnf);done))|rfl|((conv=>lhs;whnf);first|rfl|(refine congrArg (AV.int _) ?_;(exact T.num))|(refine congrArg AV.bool ?_;(exact T.num))|(refine vwc ?_;first|(exact T.num)|(first|rfl|(simp;done)))|(refine q9 ?_ ?_<;>first|(exact T.num)|(first|rfl|(simp;done)))|(first|rfl|(simp;done))))|(exact T.num)|(dsimp only;(exact T.num))|(first|rfl|(simp;done)))))|exact T.z|fail)<;>conv=>whnf)
 all_goals(try dsimp only)
 all_goals first
   | ((show RL _ _ _;refine goR ?_);rw[kZ l i Hd.z (by omega) hok (by assumption)];rfl)
   | ((show RL _ _ _;refine goR ?_);rw[gidx_e (by omega) hok];rfl)
   | trace_state
theorem hcont_c{P:Hd→Bool}(F:Nat)(p:Nm)(pl:Pl)(hp:∀h:Hd,LP Tryz.prog G F [h.av,.ptr p 0] [(p,pl)] (fun _=>(.bool (P h),[(p,pl)])))(l:List Hd)(hl:l.length≤100000):LP Tryz.prog G 194 [hdv l,.clo (.func F) [] [.ptr p 0]] [(p,pl)] (fun _=>(.bool (l.any P),[(p,pl)])):=by
 have e:=any_idx l P
 refine goW [] Tryz.func194 rfl ?_
 conv=>whnf
 repeat'((first|(show LC _ _ _ _ _ _;first|(apply LC.upd (hidx_c F p pl hp l hl);(repeat first|refine goH ?_|apply LH.here|apply LH.next);refine⟨rfl,?_⟩)|refine goE ?_)|refine T.s ?_|((first|apply goB|apply AB.dec|apply AB.gen)<;>intro h<;>try(exfalso;omega))|refine LQ.mk fun r=>?_|exact T.z|fail)<;>conv=>whnf)
 all_goals(try dsimp only)
 all_goals
   (show RL _ _ _;refine goR ?_)
   rw[←e]
   rfl
theorem sidx_c{P:Sn→Bool}(F:Nat)(p:Nm)(pl:Pl)(l:List Sn)(n:Nat)(hn:n=l.length)(hp:∀i:Nat,i<l.length→LP Tryz.prog G F [(l.getD i Sn.z).av,.ptr p 0] [(p,pl)] (fun _=>(.bool (P (l.getD i Sn.z)),[(p,pl)])))(hl:l.length≤100000):LP Tryz.prog G 158 [.sl n (l.flatMap Sn.cs),.clo (.func F) [] [.ptr p 0]] [(p,pl)] (fun _=>(iAV (kE (l.findIdx? P)),[(p,pl)])):=by
 subst hn
 refine goW [] Tryz.func158 rfl ?_
 conv=>whnf
 repeat'((first|(refine And.intro ?_ ?_;(focus(first|exact kc Sn.cs_len (by assumption)|exact T.kx|exact T.side)))|(show LC _ _ _ _ _ _;first|(apply LC.upd (hp i (by omega));(repeat first|refine goH ?_|apply LH.here|apply LH.next);refine⟨rfl,?_⟩)|refine goE ?_)|(show AC _ _ _;first|(refine AC.recd Sn.cs_len i Sn.z rfl rfl ?_ ?_;(focus omega)))|refine T.s ?_|((first|apply goB|apply AB.dec|apply AB.gen)<;>intro h<;>try(exfalso;omega))|refine LQ.mk fun r=>?_|(show SWpL _ _ _ (.loop _) _ _ _;first|(apply goO tQ [] 2 (S:=Nat) [0,1,7] (fun i=>⟨[(8,.int .i64 i)],[(p,pl)],i≤l.length∧(l.take i).findIdx? P=none,l.length-i⟩) (0) (by rfl);(focus((repeat' first|exact trivial|(refine And.intro ?_ ?_)|exact LB.nil|(with_reducible exact LB.refl)|(apply LB.cons;(repeat first|refine goH ?_|apply LH.here|apply LH.next);refine And.intro ?_ ?_;(focus(try(first|(with_reducible rfl)|(refine congrArg (Pl.mk _) ?_;(first|rfl|(simp;done)))|rfl|(with_reducible refine congrArg (Pl.mk _) ?_)))))|assumption|(exact xe Sn.z (by omega) hok (by assumption))|(first|(focus(apply Eq.trans;(conv=>lhs;whnf);(conv=>rhs;whnf);done))|rfl|((conv=>lhs;whnf);first|rfl|(refine congrArg (AV.int _) ?_;(exact T.num))|(refine congrArg AV.bool ?_;(exact T.num))|(refine vwc ?_;first|(exact T.num)|(first|rfl|(simp;done)))|(refine q9 ?_ ?_<;>first|(exact T.num)|(first|rfl|(simp;done)))|(first|rfl|(simp;done))))|(exact T.num)|(dsimp only;(exact T.num))|(first|rfl|(simp;done)));done));rintro i ⟨hk,hok⟩))|(show AtL _ _ _ _ _ _ _ _ _ _;first|(apply AtL.mk' (id:=2) (S:=Nat) (i+1);(repeat' first|exact trivial|(refine And.intro ?_ ?_)|exact LB.nil|(with_reducible exact LB.refl)|(apply LB.cons;(repeat first|refine goH ?_|apply LH.here|apply LH.next);refine And.intro ?_ ?_;(focus(try(first|(with_reducible rfl)|(refine congrArg (Pl.mk _) ?_;(first|rfl|(simp;done)))|rfl|(with_reducible refine congrArg (Pl.mk _) ?_)))))|assumption|(exact xe Sn.z (by omega) hok (by assumption))|(first|(focus(apply Eq.trans;(conv=>lhs;whnf);(conv=>rhs;whnf);done))|rfl|((conv=>lhs;whnf);first|rfl|(refine congrArg (AV.int _) ?_;(exact T.num))|(refine congrArg AV.bool ?_;(exact T.num))|(refine vwc ?_;first|(exact T.num)|(first|rfl|(simp;done)))|(refine q9 ?_ ?_<;>first|(exact T.num)|(first|rfl|(simp;done)))|(first|rfl|(simp;done))))|(exact T.num)|(dsimp only;(exact T.num))|(first|rfl|(simp;done)));done)|(apply AtL.mk' (id:=2) (S:=Nat) (i+1);(repeat' first|exact trivial|(refine And.intro ?_ ?_)|exact LB.nil|(with_reducible exact LB.refl)|(apply LB.cons;(repeat first|refine goH ?_|apply LH.here|apply LH.next);refine And.intro ?_ ?_;(focus(try(first|(with_reducible rfl)|(refine congrArg (Pl.mk _) ?_;(first|rfl|(simp;done)))|rfl|(with_reducible refine congrArg (Pl.mk _) ?_)))))|assumption|(exact xe Sn.z (by omega) hok (by assumption))|(first|(focus(apply Eq.trans;(conv=>lhs;whnf);(conv=>rhs;whnf);done))|rfl|((conv=>lhs;whnf);first|rfl|(refine congrArg (AV.int _) ?_;(exact T.num))|(refine congrArg AV.bool ?_;(exact T.num))|(refine vwc ?_;first|(exact T.num)|(first|rfl|(simp;done)))|(refine q9 ?_ ?_<;>first|(exact T.num)|(first|rfl|(simp;done)))|(first|rfl|(simp;done))))|(exact T.num)|(dsimp only;(exact T.num))|(first|rfl|(simp;done)))))|exact T.z|fail)<;>conv=>whnf)
 all_goals(try dsimp only)
 all_goals first
   | ((show RL _ _ _;refine goR ?_);rw[kZ l i Sn.z (by omega) hok (by assumption)];rfl)
   | ((show RL _ _ _;refine goR ?_);rw[gidx_e (by omega) hok];rfl)
   | trace_state
theorem sidx0_c{P:Sn→Bool}(F:Nat)(hp:∀s:Sn,LP Tryz.prog G F [s.av] [] (fun _=>(.bool (P s),[])))(l:List Sn)(n:Nat)(hn:n=l.length)(hl:l.length≤100000):LP Tryz.prog G 158 [.sl n (l.flatMap Sn.cs),.clo (.func F) [] []] [] (fun _=>(iAV (kE (l.findIdx? P)),[])):=by
 subst hn
 refine goW [] Tryz.func158 rfl ?_
 conv=>whnf
 repeat'((first|(refine And.intro ?_ ?_;(focus(first|exact kc Sn.cs_len (by assumption)|exact T.kx|exact T.side)))|(show LC _ _ _ _ _ _;first|refine LC.pure (hp (l.getD i Sn.z)) ?_|refine goE ?_)|(show AC _ _ _;first|(refine AC.recd Sn.cs_len i Sn.z rfl rfl ?_ ?_;(focus omega)))|refine T.s ?_|((first|apply goB|apply AB.dec|apply AB.gen)<;>intro h<;>try(exfalso;omega))|refine LQ.mk fun r=>?_|(show SWpL _ _ _ (.loop _) _ _ _;first|(apply goO tQ [] 2 (S:=Nat) [0,1,7] (fun i=>⟨[(8,.int .i64 i)],[],i≤l.length∧(l.take i).findIdx? P=none,l.length-i⟩) (0) (by rfl);(focus((repeat' first|exact trivial|(refine And.intro ?_ ?_)|exact LB.nil|(with_reducible exact LB.refl)|(apply LB.cons;(repeat first|refine goH ?_|apply LH.here|apply LH.next);refine And.intro ?_ ?_;(focus(try(first|(with_reducible rfl)|(refine congrArg (Pl.mk _) ?_;(first|rfl|(simp;done)))|rfl|(with_reducible refine congrArg (Pl.mk _) ?_)))))|assumption|(exact xe Sn.z (by omega) hok (by assumption))|(first|(focus(apply Eq.trans;(conv=>lhs;whnf);(conv=>rhs;whnf);done))|rfl|((conv=>lhs;whnf);first|rfl|(refine congrArg (AV.int _) ?_;(exact T.num))|(refine congrArg AV.bool ?_;(exact T.num))|(refine vwc ?_;first|(exact T.num)|(first|rfl|(simp;done)))|(refine q9 ?_ ?_<;>first|(exact T.num)|(first|rfl|(simp;done)))|(first|rfl|(simp;done))))|(exact T.num)|(dsimp only;(exact T.num))|(first|rfl|(simp;done)));done));rintro i ⟨hk,hok⟩))|(show AtL _ _ _ _ _ _ _ _ _ _;first|(apply AtL.mk' (id:=2) (S:=Nat) (i+1);(repeat' first|exact trivial|(refine And.intro ?_ ?_)|exact LB.nil|(with_reducible exact LB.refl)|(apply LB.cons;(repeat first|refine goH ?_|apply LH.here|apply LH.next);refine And.intro ?_ ?_;(focus(try(first|(with_reducible rfl)|(refine congrArg (Pl.mk _) ?_;(first|rfl|(simp;done)))|rfl|(with_reducible refine congrArg (Pl.mk _) ?_)))))|assumption|(exact xe Sn.z (by omega) hok (by assumption))|(first|(focus(apply Eq.trans;(conv=>lhs;whnf);(conv=>rhs;whnf);done))|rfl|((conv=>lhs;whnf);first|rfl|(refine congrArg (AV.int _) ?_;(exact T.num))|(refine congrArg AV.bool ?_;(exact T.num))|(refine vwc ?_;first|(exact T.num)|(first|rfl|(simp;done)))|(refine q9 ?_ ?_<;>first|(exact T.num)|(first|rfl|(simp;done)))|(first|rfl|(simp;done))))|(exact T.num)|(dsimp only;(exact T.num))|(first|rfl|(simp;done)));done)|(apply AtL.mk' (id:=2) (S:=Nat) (i+1);(repeat' first|exact trivial|(refine And.intro ?_ ?_)|exact LB.nil|(with_reducible exact LB.refl)|(apply LB.cons;(repeat first|refine goH ?_|apply LH.here|apply LH.next);refine And.intro ?_ ?_;(focus(try(first|(with_reducible rfl)|(refine congrArg (Pl.mk _) ?_;(first|rfl|(simp;done)))|rfl|(with_reducible refine congrArg (Pl.mk _) ?_)))))|assumption|(exact xe Sn.z (by omega) hok (by assumption))|(first|(focus(apply Eq.trans;(conv=>lhs;whnf);(conv=>rhs;whnf);done))|rfl|((conv=>lhs;whnf);first|rfl|(refine congrArg (AV.int _) ?_;(exact T.num))|(refine congrArg AV.bool ?_;(exact T.num))|(refine vwc ?_;first|(exact T.num)|(first|rfl|(simp;done)))|(refine q9 ?_ ?_<;>first|(exact T.num)|(first|rfl|(simp;done)))|(first|rfl|(simp;done))))|(exact T.num)|(dsimp only;(exact T.num))|(first|rfl|(simp;done)))))|exact T.z|fail)<;>conv=>whnf)
 all_goals(try dsimp only)
 all_goals first
   | ((show RL _ _ _;refine goR ?_);rw[kZ l i Sn.z (by omega) hok (by assumption)];rfl)
   | ((show RL _ _ _;refine goR ?_);rw[gidx_e (by omega) hok];rfl)
   | trace_state
theorem scont_c{P:Sn→Bool}(F:Nat)(p:Nm)(pl:Pl)(l:List Sn)(n:Nat)(hn:n=l.length)(hp:∀i:Nat,i<l.length→LP Tryz.prog G F [(l.getD i Sn.z).av,.ptr p 0] [(p,pl)] (fun _=>(.bool (P (l.getD i Sn.z)),[(p,pl)])))(hl:l.length≤100000):LP Tryz.prog G 146 [.sl n (l.flatMap Sn.cs),.clo (.func F) [] [.ptr p 0]] [(p,pl)] (fun _=>(.bool (l.any P),[(p,pl)])):=by
 have e:=any_idx l P
 refine goW [] Tryz.func146 rfl ?_
 conv=>whnf
 repeat'((first|(show LC _ _ _ _ _ _;first|(apply LC.upd (sidx_c F p pl l n hn hp hl);(repeat first|refine goH ?_|apply LH.here|apply LH.next);refine⟨rfl,?_⟩)|refine goE ?_)|refine T.s ?_|((first|apply goB|apply AB.dec|apply AB.gen)<;>intro h<;>try(exfalso;omega))|refine LQ.mk fun r=>?_|exact T.z|fail)<;>conv=>whnf)
 all_goals(try dsimp only)
 all_goals
   (show RL _ _ _;refine goR ?_)
   rw[←e]
   rfl
open Go.RowKit
variable {G:Nat→AV}
theorem hclone_c(l:List Hd)(hl:l.length≤100000):LP Tryz.prog G 148 [hdv l] [] (fun _=>(hdv l,[])):=by
 by_cases h:0<l.length
 · refine goW [] Tryz.func148 rfl ?_
   conv=>whnf
   repeat'((first|(refine And.intro ?_ ?_;(focus(first|exact qm Hd.cs_len _|exact hds_one _|(rw[qm Hd.cs_len];omega)|omega|exact T.kx|exact T.side)))|refine T.s ?_|((first|apply goB|apply AB.dec|apply AB.gen)<;>intro h<;>try(exfalso;omega))|refine LQ.mk fun r=>?_|exact T.z|fail)<;>conv=>whnf)
   all_goals(try dsimp only)
   all_goals
     refine RL.frz [r] (LF.row InL.here ?_) ?_
     · (repeat first|refine goH ?_|apply LH.here|apply LH.next)
       exact⟨by decide,by simp[qm Hd.cs_len],by simp,by simp⟩
     · (repeat first|refine goH ?_|apply LH.here|apply LH.next)
       exact LB.nil
 · obtain rfl:l=[]:=List.eq_nil_of_length_eq_zero (by omega)
   refine LP.empty ?_ fun a0 cap hc=>?_
   · refine goW [] Tryz.func148 rfl ?_
     conv=>whnf
     repeat'((first|refine T.s ?_|((first|apply goB|apply AB.dec|apply AB.gen)<;>intro h<;>try(exfalso;omega))|refine LQ.mk fun r=>?_|exact T.z|fail)<;>conv=>whnf)
     all_goals(try dsimp only)
     exact RL.frz [] (LF.nils rfl rfl) LB.nil
   · refine goW [] Tryz.func148 rfl ?_
     conv=>whnf
     repeat'((first|refine T.s ?_|((first|apply goB|apply AB.dec|apply AB.gen)<;>intro h<;>try(exfalso;omega))|refine LQ.mk fun r=>?_|exact T.z|fail)<;>conv=>whnf)
     all_goals(try dsimp only)
     refine RL.frz [r] (LF.row InL.here ?_) ?_
     · (repeat first|refine goH ?_|apply LH.here|apply LH.next)
       exact⟨by decide,rfl,rfl,rfl⟩
     · (repeat first|refine goH ?_|apply LH.here|apply LH.next)
       exact LB.nil
section
variable {P:Program}
theorem LP.adopt{f:FuncId}{args:List AV}(t:TypeId)(sz:Nat)(h:LP P G f args [] (fun _=>(.nils,[]))):LP P G f args [] (fun q=>(.vw q 0 0 sz,[(q,⟨t,[]⟩)])):=by
 unfold LP at h ⊢
 refine⟨h.1,fun q=>⟨by simp,by simp⟩,fun τ w vs h1 h2 h3 h4 h5=>(h.2.2 τ w vs h1 h2 h3 h4 h5).mono ?_⟩
 rintro e w' ⟨v,q,k1,-,-,k4,k5,k6⟩
 have k4:Rd τ w' .nils v:=k4
 have k5:Mem τ w':=k5
 have k6:Stp τ w τ w':=k6
 obtain⟨B,hB⟩:=k5.fin
 have hk:=hB B (Nat.le_refl _)
 have hst:Stp τ w' (Go.Proofs.YtndpmpnmkpaklaaGreatDoor.upd τ (.v B) ⟨t,[]⟩) w':=Stp.forget _ _ w' fun b hb=>by rw[qe _ _ (by simp)];exact hb
 refine⟨v,.v B,k1,hk,by simp,?_,?_,k6.trans hst⟩
 · cases k4
   exact .vwnil _ _
 · show Mem (Go.Proofs.YtndpmpnmkpaklaaGreatDoor.upd τ (.v B) ⟨t,[]⟩) w'
   refine⟨fun q c hq=>?_,fun m c hm=>?_,j3 k5.fin _ _⟩
   · rw[qe _ _ (by simp)] at hq
     obtain⟨cur,k1,k2,k3⟩:=k5.pl q c hq
     exact⟨cur,k1,k2,fun i hi=>(k3 i hi).mono hst⟩
   · by_cases hmk:m=B
     · subst hmk;rw[qx] at hm;cases hm;rfl
     · rw[qe _ _ (by simp;exact hmk)] at hm
       exact k5.vl m c hm
end
theorem hclone_o(l:List Hd)(hl:l.length≤100000):LP Tryz.prog G 148 [hdv l] [] (fun q=>(.vw q 0 l.length 15,[(q,⟨54,l.flatMap Hd.cs⟩)])):=by
 by_cases h:0<l.length
 · refine goW [] Tryz.func148 rfl ?_
   conv=>whnf
   repeat'((first|(refine And.intro ?_ ?_;(focus(first|exact qm Hd.cs_len _|exact hds_one _|(rw[qm Hd.cs_len];omega)|omega|exact T.kx|exact T.side)))|refine T.s ?_|((first|apply goB|apply AB.dec|apply AB.gen)<;>intro h<;>try(exfalso;omega))|refine LQ.mk fun r=>?_|exact T.z|fail)<;>conv=>whnf)
   all_goals(try dsimp only)
   all_goals
     refine RL.own r ?_ ?_ ?_
     · rw[Nat.zero_add]
     · (repeat first|refine goH ?_|apply LH.here|apply LH.next);trivial
     · (repeat' first|exact LB.nil|(with_reducible exact LB.refl)|(apply LB.cons;(repeat first|refine goH ?_|apply LH.here|apply LH.next);refine And.intro ?_ ?_;(focus(try(first|(with_reducible rfl)|(refine congrArg (Pl.mk _) ?_;(first|rfl|(simp;done)))|rfl|(with_reducible refine congrArg (Pl.mk _) ?_))))))
 · obtain rfl:l=[]:=List.eq_nil_of_length_eq_zero (by omega)
   refine LP.empty ?_ fun a0 cap hc=>?_
   · refine LP.adopt 54 15 ?_
     refine goW [] Tryz.func148 rfl ?_
     conv=>whnf
     repeat'((first|refine T.s ?_|((first|apply goB|apply AB.dec|apply AB.gen)<;>intro h<;>try(exfalso;omega))|refine LQ.mk fun r=>?_|exact T.z|fail)<;>conv=>whnf)
     all_goals(try dsimp only)
     exact RL.val rfl LB.nil
   · refine goW [] Tryz.func148 rfl ?_
     conv=>whnf
     repeat'((first|refine T.s ?_|((first|apply goB|apply AB.dec|apply AB.gen)<;>intro h<;>try(exfalso;omega))|refine LQ.mk fun r=>?_|exact T.z|fail)<;>conv=>whnf)
     all_goals(try dsimp only)
     refine RL.own r ?_ ?_ ?_
     · rfl
     · (repeat first|refine goH ?_|apply LH.here|apply LH.next);trivial
     · (repeat' first|exact LB.nil|(with_reducible exact LB.refl)|(apply LB.cons;(repeat first|refine goH ?_|apply LH.here|apply LH.next);refine And.intro ?_ ?_;(focus(try(first|(with_reducible rfl)|(refine congrArg (Pl.mk _) ?_;(first|rfl|(simp;done)))|rfl|(with_reducible refine congrArg (Pl.mk _) ?_))))))
theorem sns_one(l:List Sn):((l.flatMap Sn.cs).all AV.one)=true:=by
 induction l with
 | nil=>rfl
 | cons x l ih=>rw[List.flatMap_cons,List.all_append,ih];rfl
theorem sclone_c(l:List Sn)(h:0<l.length)(hl:l.length≤100000):LP Tryz.prog G 147 [snv l] [] (fun q=>(.vw q 0 l.length 9,[(q,⟨122,l.flatMap Sn.cs⟩)])):=by
 refine goW [] Tryz.func147 rfl ?_
 conv=>whnf
 repeat'((first|(refine And.intro ?_ ?_;(focus(first|exact qm Sn.cs_len _|exact sns_one _|(rw[qm Sn.cs_len];omega)|omega|exact T.kx|exact T.side)))|refine T.s ?_|((first|apply goB|apply AB.dec|apply AB.gen)<;>intro h<;>try(exfalso;omega))|refine LQ.mk fun r=>?_|exact T.z|fail)<;>conv=>whnf)
 all_goals(try dsimp only)
 all_goals
   refine RL.own r ?_ ?_ ?_
   · rw[Nat.zero_add]
   · (repeat first|refine goH ?_|apply LH.here|apply LH.next);trivial
   · (repeat' first|exact LB.nil|(with_reducible exact LB.refl)|(apply LB.cons;(repeat first|refine goH ?_|apply LH.here|apply LH.next);refine And.intro ?_ ?_;(focus(try(first|(with_reducible rfl)|(refine congrArg (Pl.mk _) ?_;(first|rfl|(simp;done)))|rfl|(with_reducible refine congrArg (Pl.mk _) ?_))))))
def wrgB(a:Hd)(h:Hd):Bool := !(h.ok&&qy h a)
theorem cwrg_c(p:Nm)(a h:Hd):LP Tryz.prog G 191 [h.av,.ptr p 0] [(p,⟨54,a.cs⟩)] (fun _=>(.bool (wrgB a h),[(p,⟨54,a.cs⟩)])):=by
 refine goW [] Tryz.func191 rfl ?_
 conv=>whnf
 repeat'((first|(show LC _ _ _ _ _ _;first|refine LC.pure (zG h) ?_|refine LC.pure (fsame_c _ _) ?_|refine goE ?_)|refine T.s ?_|((first|apply goB|apply AB.dec|apply AB.gen)<;>intro h<;>try(exfalso;omega))|refine LQ.mk fun r=>?_|exact T.z|fail)<;>conv=>whnf)
 all_goals(try dsimp only)
 all_goals
   (show RL _ _ _;refine goR ?_)
   simp[wrgB, *]
theorem cempty_c(s:Sn):LP Tryz.prog G 189 [s.av] [] (fun _=>(.bool (y9 s),[])):=by
 rw[emptyR_e,Dy.eqz]
 refine goW [] Tryz.func189 rfl ?_
 conv=>whnf
 repeat'((first|refine T.s ?_|((first|apply goB|apply AB.dec|apply AB.gen)<;>intro h<;>try(exfalso;omega))|refine LQ.mk fun r=>?_|exact T.z|fail)<;>conv=>whnf)
 all_goals(try dsimp only)
 all_goals
   (show RL _ _ _;refine goR ?_)
   refine congrArg AV.bool ?_
   simp_all [qr]
   try(rw[Bool.eq_iff_iff];simp)
theorem rfs_all(s:Sn):(s.rf.all fun r=>r.ok&&qy r s.fst) = !(s.rf.any (wrgB (s.rf.getD 0 Hd.z))):=by
 rw[List.any_eq_not_all_not]
 simp[wrgB,Sn.fst]
theorem ok_prog{m w:Int}{s:Sn}(h:s.act=true):s.ok m w=(!decide ((s.rf.length:Int)<1)&&(!decide (kU m w<(s.rf.length:Int))&&(inR s.ser s.rf.length&&(inR s.full w&&(inR s.refr w&&(!(decide (0<s.full)&&decide (0<s.refr)) &&
     (inR s.sin 32&&(inR s.lng 3&&(s.dy.ok&&((decide ((s.rf.getD 0 Hd.z).k=2) || za [(s.dy.st,0),(s.dy.fo,0)])&&!(s.rf.any (wrgB (s.rf.getD 0 Hd.z))))))))))))):=by
 unfold Sn.ok
 rw[if_pos h,rfs_all,←Dy.eqz]
 have e1:decide (1≤s.rf.length∧(s.rf.length:Int)≤kU m w)=(!decide ((s.rf.length:Int)<1)&&!decide (kU m w<(s.rf.length:Int))):=by
   rw[Bool.eq_iff_iff];simp;omega
 have e2:decide (¬(0<s.full∧0<s.refr)) = !(decide (0<s.full)&&decide (0<s.refr)):=by
   rw[Bool.eq_iff_iff];simp
 rw[e1,e2,Bool.decide_or,Bool.and_assoc]
 rfl
theorem cctx_c(s:Sn)(m w:Int)(hw:w≤8):LP Tryz.prog G 143 [s.av,iAV m,iAV w] [] (fun _=>(.bool (s.ok m w),[])):=by
 cases h0:s.act with
 | false =>
   rw[show s.ok m w=y9 s by unfold Sn.ok;rw[if_neg (by rw[h0];decide)]]
   refine goW [] Tryz.func143 rfl ?_
   conv=>whnf
   repeat'((first|(show LC _ _ _ _ _ _;first|refine LC.pure (cempty_c s) ?_|refine goE ?_)|refine T.s ?_|((first|apply goB|apply AB.dec|apply AB.gen)<;>intro h<;>try(exfalso;omega))|refine LQ.mk fun r=>?_|exact T.z|fail)<;>conv=>whnf)
   all_goals(try dsimp only)
   all_goals
     (show RL _ _ _;refine goR ?_)
     rfl
 | true =>
   have hM:(m=3→kU m w=32)∧(¬m=3→kU m w=w):=⟨fun e=>if_pos e,fun e=>if_neg e⟩
   rw[ok_prog h0]
   generalize kU m w=M at hM ⊢
   refine goW [] Tryz.func143 rfl ?_
   conv=>whnf
   repeat'((first|(refine And.intro ?_ ?_;(focus(first|exact rec0_le (by omega)|exact T.kx|exact T.side)))|(show LC _ _ _ _ _ _;first|refine LC.pure (cbnd_c _ _) ?_|refine LC.pure (jl s.dy) ?_|(apply LC.upd (hcont_c 191 _ ⟨54,(s.rf.getD 0 Hd.z).cs⟩ (fun h=>cwrg_c _ _ h) s.rf (by omega));(repeat first|refine goH ?_|apply LH.here|apply LH.next);refine⟨rfl,?_⟩)|refine goE ?_)|(show AC _ _ _;first|(refine AC.recd Hd.cs_len 0 Hd.z rfl rfl ?_ ?_;(focus omega)))|refine T.s ?_|((first|apply goB|apply AB.dec|apply AB.gen)<;>intro h)|refine LQ.mk fun r=>?_|exact T.z|fail)<;>conv=>whnf)
   all_goals(try dsimp only)
   all_goals
     (show RL _ _ _;refine goR ?_)
     refine congrArg AV.bool ?_
     generalize s.rf.getD 0 Hd.z=X at *
     generalize s.rf.any (wrgB X)=Z at *
     first
       | (have e3:m=3:=(by assumption);rw[hM.1 e3];simp[*];done)
       | (have e3:¬m=3:=(by assumption);rw[hM.2 e3];simp[*];done)
       | trace_state
end Go.Proofs.YtndpmpnmkpaklaaGreatDoor
