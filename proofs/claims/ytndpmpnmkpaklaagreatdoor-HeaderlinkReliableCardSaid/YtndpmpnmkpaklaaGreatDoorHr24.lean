/-
  Contracts of the functions that the laws reach.
-/
import Derived.Test.YtndpmpnmkpaklaaGreatDoorHr21
set_option maxHeartbeats 4000000
set_option linter.all false
namespace Go.Proofs.YtndpmpnmkpaklaaGreatDoor
open Go.RowKit
variable {G:Nat→AV}
def foS(t:List Int)(a:Nat)(reg:Bool):Int×Nat :=
 if reg=true then(1,a) else if kF t a 4=true then(q7 .add .i64 1 (qi t (adv t a 1) 20),adv t a 2) else(1,adv t a 1)
def foI(h:Hd)(s:Int):Hd:={ h with id:=j0 (q7 .add .i64 h.id s) 65536 }
def foB(t:List Int)(a:Nat)(h:Hd):Hd×Nat:=if h.ck≠0 then({ h with ck:=q7 .add .i64 1 (qi t a 65535) },adv t a 1) else(h,a)
def foT(s:Int)(h:Hd):Hd:=if h.k=2 then { h with sq:=j0 (q7 .add .i64 h.sq s) 65536,tm:=j0 (q7 .add .i64 h.tm (q7 .mul .i64 160 s)) 4294967296,mr:=0 } else h
def foX(t:List Int)(a:Nat)(h:Hd):Hd×Nat :=
 if qi t a 14=0 then({ h with tos:=qi t (adv t a 1) 4 },adv t a 2)
 else if qi t a 14=1 then({ h with ttl:=q7 .add .i64 60 (qi t (adv t a 1) 4) },adv t a 2)
 else if qi t a 14=2 then(if h.k=2 then { h with mr:=1 } else h,adv t a 1)
 else if qi t a 14=3 then(if h.k=2 then({ h with tm:=j0 (q7 .add .i64 h.tm (qi t (adv t a 1) 1048576)) 4294967296 },adv t a 2) else(h,adv t a 1))
 else if qi t a 14=4 then(if h.k=2 then({ h with id:=qi t (adv t a 1) 65536 },adv t a 2) else(h,adv t a 1))
 else if qi t a 14=5 then(if h.k=2 then({ h with ty:=q7 .add .i64 90 (qi t (adv t a 1) 10) },adv t a 2) else(h,adv t a 1))
 else if qi t a 14=6 then(if h.ck=0 then { h with ck:=5 } else { h with ck:=0 },adv t a 1)
 else(h,adv t a 1)
def jU(t:List Int)(a:Nat)(h:Hd)(reg:Bool):Hd×Nat :=
 if reg=true then(foT (foS t a reg).1 (foB t (foS t a reg).2 (foI h (foS t a reg).1)).1,(foB t (foS t a reg).2 (foI h (foS t a reg).1)).2)
 else foX t (foB t (foS t a reg).2 (foI h (foS t a reg).1)).2 (foT (foS t a reg).1 (foB t (foS t a reg).2 (foI h (foS t a reg).1)).1)
section
variable {t:List Int}{a a1 a2:Nat}{h x y:Hd}{s:Int}
theorem kA(e:qi t a 4=q7 .sub .i64 4 1):(q7 .add .i64 1 (qi t (adv t a 1) 20),adv t a 2)=foS t a false:=by
 unfold foS;rw[if_neg (by decide),if_pos ((jR _ _ _).2 e)]
theorem kB(e:¬qi t a 4=q7 .sub .i64 4 1):(1,adv t a 1)=foS t a false:=by
 unfold foS;rw[if_neg (by decide),if_neg (fun k=>e ((jR _ _ _).1 k))]
theorem xn(e:¬h.ck=0):(({ h with ck:=q7 .add .i64 1 (qi t a 65535) }:Hd),adv t a 1)=foB t a h:=by unfold foB;rw[if_pos e]
theorem xo(e:h.ck=0):(h,a)=foB t a h:=by unfold foB;rw[if_neg (fun k=>k e)]
theorem xl(e:h.k=2):({ h with sq:=j0 (q7 .add .i64 h.sq s) 65536,tm:=j0 (q7 .add .i64 h.tm (q7 .mul .i64 160 s)) 4294967296,mr:=0 }:Hd)=foT s h:=by unfold foT;rw[if_pos e]
theorem xm(e:¬h.k=2):h=foT s h:=by unfold foT;rw[if_neg e]
theorem fol_t(e2:(x,a2)=foB t a (foI h 1))(e3:y=foT 1 x):jU t a h true=(y,a2):=by
 have e1:foS t a true=(1,a):=rfl
 unfold jU
 rw[if_pos rfl,e1]
 simp only[←e2,e3]
theorem fol_f(e1:(s,a1)=foS t a false)(e2:(x,a2)=foB t a1 (foI h s))(e3:y=foT s x):jU t a h false=foX t a2 y:=by
 unfold jU
 rw[if_neg (by decide),←e1]
 simp only[←e2,e3]
end
theorem follow_t(t:List Int)(a:Nat)(hd:Hd)(ht:t.length≤400)(p:Nm):LP Tryz.prog G 27 [.ptr p 0,hd.av,.bool true] [(p,xg t a)] (fun _=>((jU t a hd true).1.av,[(p,xg t (jU t a hd true).2)])):=by
 refine goW [5,7] Tryz.func27 rfl ?_
 conv=>whnf
 repeat'((first|exact Nm.b 0|(show LC _ _ _ _ _ _;first|(apply LC.upd (kS t _ _ ht _);(repeat first|refine goH ?_|apply LH.here|apply LH.next);refine⟨rfl,?_⟩)|(apply LC.upd (one_c t _ _ ht _);(repeat first|refine goH ?_|apply LH.here|apply LH.next);refine⟨rfl,?_⟩)|refine LC.pure (mod_c _ _) ?_|refine goE ?_)|refine T.s ?_|((first|apply goB|apply AB.dec|apply AB.gen)<;>intro h<;>try(exfalso;omega))|refine LQ.mk fun r=>?_|(show SWpL _ _ _ _ _ _ _;first|(refine goD tQ qc 23 [1,3] [0,1,2,3,4,5,6,7] [] (by kernel_rfl) ?_))|(show CutL _ _ _ _ _ _ _ _;first|(refine goK tQ [5,7] 5 (S:=Hd×Nat×Nm×Nm) [0,2,7] (fun(x,a2,b,o)=>⟨[(4,.ptr b 0),(6,.ptr o 0)],[(p,xg t a2),(b,⟨54,x.cs⟩),(o,⟨54,Hd.cs ⟨0,0,0,0,0,0,0,0,0,0,0,0,0,0,0⟩⟩)],(x,a2)=foB t a (foI hd 1),0⟩) ?_ ?_;(rintro⟨x,a2,b,o⟩ hok;(try dsimp only at hok));rotate_left)|(refine goK tQ [5,7] 7 (S:=Hd×Nm×Nm) [0,2] (fun(y,b,o)=>⟨[(4,.ptr b 0),(6,.ptr o 0)],[(p,xg t a2),(b,⟨54,y.cs⟩),(o,⟨54,Hd.cs ⟨0,0,0,0,0,0,0,0,0,0,0,0,0,0,0⟩⟩)],y=foT 1 x,0⟩) ?_ ?_;(rintro⟨y,b,o⟩ hok;(try dsimp only at hok));rotate_left)|refine CutL.go tQ [5,7] ?_)|(show AtC _ _ _ _ _ _ _ _;first|(apply AtC.mk' (id:=5) (S:=Hd×Nat×Nm×Nm) ((foI hd 1,a,_,_));(repeat' first|exact trivial|(refine And.intro ?_ ?_)|exact LB.nil|(with_reducible exact LB.refl)|(apply LB.cons;(repeat first|refine goH ?_|apply LH.here|apply LH.next);refine And.intro ?_ ?_;(focus(try(first|(with_reducible rfl)|(refine congrArg (Pl.mk _) ?_;(first|rfl|(simp;done)))|rfl|(with_reducible refine congrArg (Pl.mk _) ?_)))))|assumption|(show(_,_)=foB _ _ _;first|exact xn (by assumption)|exact xo (by assumption))|(show _=foT _ _;first|exact xl (by assumption)|exact xm (by assumption))|(first|(focus(apply Eq.trans;(conv=>lhs;whnf);(conv=>rhs;whnf);done))|rfl|((conv=>lhs;whnf);first|rfl|(refine congrArg (AV.int _) ?_;(exact T.num))|(refine congrArg AV.bool ?_;(exact T.num))|(refine vwc ?_;first|(exact T.num)|(first|rfl|(simp;done)))|(refine q9 ?_ ?_<;>first|(exact T.num)|(first|rfl|(simp;done)))|(first|rfl|(simp;done))))|(exact T.num)|(dsimp only;(exact T.num))|(first|rfl|(simp;done)));done)|(apply AtC.mk' (id:=5) (S:=Hd×Nat×Nm×Nm) (({ foI hd 1 with ck:=q7 .add .i64 1 (qi t a 65535) },adv t a 1,_,_));(repeat' first|exact trivial|(refine And.intro ?_ ?_)|exact LB.nil|(with_reducible exact LB.refl)|(apply LB.cons;(repeat first|refine goH ?_|apply LH.here|apply LH.next);refine And.intro ?_ ?_;(focus(try(first|(with_reducible rfl)|(refine congrArg (Pl.mk _) ?_;(first|rfl|(simp;done)))|rfl|(with_reducible refine congrArg (Pl.mk _) ?_)))))|assumption|(show(_,_)=foB _ _ _;first|exact xn (by assumption)|exact xo (by assumption))|(show _=foT _ _;first|exact xl (by assumption)|exact xm (by assumption))|(first|(focus(apply Eq.trans;(conv=>lhs;whnf);(conv=>rhs;whnf);done))|rfl|((conv=>lhs;whnf);first|rfl|(refine congrArg (AV.int _) ?_;(exact T.num))|(refine congrArg AV.bool ?_;(exact T.num))|(refine vwc ?_;first|(exact T.num)|(first|rfl|(simp;done)))|(refine q9 ?_ ?_<;>first|(exact T.num)|(first|rfl|(simp;done)))|(first|rfl|(simp;done))))|(exact T.num)|(dsimp only;(exact T.num))|(first|rfl|(simp;done)));done)|(apply AtC.mk' (id:=7) (S:=Hd×Nm×Nm) ((x,_,_));(repeat' first|exact trivial|(refine And.intro ?_ ?_)|exact LB.nil|(with_reducible exact LB.refl)|(apply LB.cons;(repeat first|refine goH ?_|apply LH.here|apply LH.next);refine And.intro ?_ ?_;(focus(try(first|(with_reducible rfl)|(refine congrArg (Pl.mk _) ?_;(first|rfl|(simp;done)))|rfl|(with_reducible refine congrArg (Pl.mk _) ?_)))))|assumption|(show(_,_)=foB _ _ _;first|exact xn (by assumption)|exact xo (by assumption))|(show _=foT _ _;first|exact xl (by assumption)|exact xm (by assumption))|(first|(focus(apply Eq.trans;(conv=>lhs;whnf);(conv=>rhs;whnf);done))|rfl|((conv=>lhs;whnf);first|rfl|(refine congrArg (AV.int _) ?_;(exact T.num))|(refine congrArg AV.bool ?_;(exact T.num))|(refine vwc ?_;first|(exact T.num)|(first|rfl|(simp;done)))|(refine q9 ?_ ?_<;>first|(exact T.num)|(first|rfl|(simp;done)))|(first|rfl|(simp;done))))|(exact T.num)|(dsimp only;(exact T.num))|(first|rfl|(simp;done)));done)|(apply AtC.mk' (id:=7) (S:=Hd×Nm×Nm) (({ x with sq:=j0 (q7 .add .i64 x.sq 1) 65536,tm:=j0 (q7 .add .i64 x.tm (q7 .mul .i64 160 1)) 4294967296,mr:=0 },_,_));(repeat' first|exact trivial|(refine And.intro ?_ ?_)|exact LB.nil|(with_reducible exact LB.refl)|(apply LB.cons;(repeat first|refine goH ?_|apply LH.here|apply LH.next);refine And.intro ?_ ?_;(focus(try(first|(with_reducible rfl)|(refine congrArg (Pl.mk _) ?_;(first|rfl|(simp;done)))|rfl|(with_reducible refine congrArg (Pl.mk _) ?_)))))|assumption|(show(_,_)=foB _ _ _;first|exact xn (by assumption)|exact xo (by assumption))|(show _=foT _ _;first|exact xl (by assumption)|exact xm (by assumption))|(first|(focus(apply Eq.trans;(conv=>lhs;whnf);(conv=>rhs;whnf);done))|rfl|((conv=>lhs;whnf);first|rfl|(refine congrArg (AV.int _) ?_;(exact T.num))|(refine congrArg AV.bool ?_;(exact T.num))|(refine vwc ?_;first|(exact T.num)|(first|rfl|(simp;done)))|(refine q9 ?_ ?_<;>first|(exact T.num)|(first|rfl|(simp;done)))|(first|rfl|(simp;done))))|(exact T.num)|(dsimp only;(exact T.num))|(first|rfl|(simp;done)));done)|(apply AtC.mk' (id:=5) (S:=Hd×Nat×Nm×Nm) ((foI hd 1,a,_,_));(repeat' first|exact trivial|(refine And.intro ?_ ?_)|exact LB.nil|(with_reducible exact LB.refl)|(apply LB.cons;(repeat first|refine goH ?_|apply LH.here|apply LH.next);refine And.intro ?_ ?_;(focus(try(first|(with_reducible rfl)|(refine congrArg (Pl.mk _) ?_;(first|rfl|(simp;done)))|rfl|(with_reducible refine congrArg (Pl.mk _) ?_)))))|assumption|(show(_,_)=foB _ _ _;first|exact xn (by assumption)|exact xo (by assumption))|(show _=foT _ _;first|exact xl (by assumption)|exact xm (by assumption))|(first|(focus(apply Eq.trans;(conv=>lhs;whnf);(conv=>rhs;whnf);done))|rfl|((conv=>lhs;whnf);first|rfl|(refine congrArg (AV.int _) ?_;(exact T.num))|(refine congrArg AV.bool ?_;(exact T.num))|(refine vwc ?_;first|(exact T.num)|(first|rfl|(simp;done)))|(refine q9 ?_ ?_<;>first|(exact T.num)|(first|rfl|(simp;done)))|(first|rfl|(simp;done))))|(exact T.num)|(dsimp only;(exact T.num))|(first|rfl|(simp;done))))|(apply AtC.mk' (id:=5) (S:=Hd×Nat×Nm×Nm) (({ foI hd 1 with ck:=q7 .add .i64 1 (qi t a 65535) },adv t a 1,_,_));(repeat' first|exact trivial|(refine And.intro ?_ ?_)|exact LB.nil|(with_reducible exact LB.refl)|(apply LB.cons;(repeat first|refine goH ?_|apply LH.here|apply LH.next);refine And.intro ?_ ?_;(focus(try(first|(with_reducible rfl)|(refine congrArg (Pl.mk _) ?_;(first|rfl|(simp;done)))|rfl|(with_reducible refine congrArg (Pl.mk _) ?_)))))|assumption|(show(_,_)=foB _ _ _;first|exact xn (by assumption)|exact xo (by assumption))|(show _=foT _ _;first|exact xl (by assumption)|exact xm (by assumption))|(first|(focus(apply Eq.trans;(conv=>lhs;whnf);(conv=>rhs;whnf);done))|rfl|((conv=>lhs;whnf);first|rfl|(refine congrArg (AV.int _) ?_;(exact T.num))|(refine congrArg AV.bool ?_;(exact T.num))|(refine vwc ?_;first|(exact T.num)|(first|rfl|(simp;done)))|(refine q9 ?_ ?_<;>first|(exact T.num)|(first|rfl|(simp;done)))|(first|rfl|(simp;done))))|(exact T.num)|(dsimp only;(exact T.num))|(first|rfl|(simp;done))))|(apply AtC.mk' (id:=7) (S:=Hd×Nm×Nm) ((x,_,_));(repeat' first|exact trivial|(refine And.intro ?_ ?_)|exact LB.nil|(with_reducible exact LB.refl)|(apply LB.cons;(repeat first|refine goH ?_|apply LH.here|apply LH.next);refine And.intro ?_ ?_;(focus(try(first|(with_reducible rfl)|(refine congrArg (Pl.mk _) ?_;(first|rfl|(simp;done)))|rfl|(with_reducible refine congrArg (Pl.mk _) ?_)))))|assumption|(show(_,_)=foB _ _ _;first|exact xn (by assumption)|exact xo (by assumption))|(show _=foT _ _;first|exact xl (by assumption)|exact xm (by assumption))|(first|(focus(apply Eq.trans;(conv=>lhs;whnf);(conv=>rhs;whnf);done))|rfl|((conv=>lhs;whnf);first|rfl|(refine congrArg (AV.int _) ?_;(exact T.num))|(refine congrArg AV.bool ?_;(exact T.num))|(refine vwc ?_;first|(exact T.num)|(first|rfl|(simp;done)))|(refine q9 ?_ ?_<;>first|(exact T.num)|(first|rfl|(simp;done)))|(first|rfl|(simp;done))))|(exact T.num)|(dsimp only;(exact T.num))|(first|rfl|(simp;done))))|(apply AtC.mk' (id:=7) (S:=Hd×Nm×Nm) (({ x with sq:=j0 (q7 .add .i64 x.sq 1) 65536,tm:=j0 (q7 .add .i64 x.tm (q7 .mul .i64 160 1)) 4294967296,mr:=0 },_,_));(repeat' first|exact trivial|(refine And.intro ?_ ?_)|exact LB.nil|(with_reducible exact LB.refl)|(apply LB.cons;(repeat first|refine goH ?_|apply LH.here|apply LH.next);refine And.intro ?_ ?_;(focus(try(first|(with_reducible rfl)|(refine congrArg (Pl.mk _) ?_;(first|rfl|(simp;done)))|rfl|(with_reducible refine congrArg (Pl.mk _) ?_)))))|assumption|(show(_,_)=foB _ _ _;first|exact xn (by assumption)|exact xo (by assumption))|(show _=foT _ _;first|exact xl (by assumption)|exact xm (by assumption))|(first|(focus(apply Eq.trans;(conv=>lhs;whnf);(conv=>rhs;whnf);done))|rfl|((conv=>lhs;whnf);first|rfl|(refine congrArg (AV.int _) ?_;(exact T.num))|(refine congrArg AV.bool ?_;(exact T.num))|(refine vwc ?_;first|(exact T.num)|(first|rfl|(simp;done)))|(refine q9 ?_ ?_<;>first|(exact T.num)|(first|rfl|(simp;done)))|(first|rfl|(simp;done))))|(exact T.num)|(dsimp only;(exact T.num))|(first|rfl|(simp;done)))))|exact T.z|fail)<;>conv=>whnf)
 all_goals(try dsimp only)
 all_goals
   rw[fol_t (x:=x) (a2:=a2) (y:=y) (by assumption) (by assumption)]
   (show RL _ _ _;refine goR ?_)
   rfl
theorem follow_f(t:List Int)(a:Nat)(hd:Hd)(ht:t.length≤400)(p:Nm):LP Tryz.prog G 27 [.ptr p 0,hd.av,.bool false] [(p,xg t a)] (fun _=>((jU t a hd false).1.av,[(p,xg t (jU t a hd false).2)])):=by
 refine goW [2,5,7] Tryz.func27 rfl ?_
 conv=>whnf
 repeat'((first|exact Nm.b 0|(show LC _ _ _ _ _ _;first|(apply LC.upd (kS t _ _ ht _);(repeat first|refine goH ?_|apply LH.here|apply LH.next);refine⟨rfl,?_⟩)|(apply LC.upd (one_c t _ _ ht _);(repeat first|refine goH ?_|apply LH.here|apply LH.next);refine⟨rfl,?_⟩)|refine LC.pure (mod_c _ _) ?_|refine goE ?_)|refine T.s ?_|((first|apply goB|apply AB.dec|apply AB.gen)<;>intro h<;>try(exfalso;omega))|refine LQ.mk fun r=>?_|(show SWpL _ _ _ _ _ _ _;first|refine gX 23 [1,3] [0,1,2,3,4,5,6,7] [p] ?_)|(show CutL _ _ _ _ _ _ _ _;first|(refine goK tQ [2,5,7] 2 (S:=Int×Nat×Nm×Nm) [0,2] (fun(s,a1,b,o)=>⟨[(7,.int .i64 s),(4,.ptr b 0),(6,.ptr o 0)],[(p,xg t a1),(b,⟨54,hd.cs⟩),(o,⟨54,Hd.cs ⟨0,0,0,0,0,0,0,0,0,0,0,0,0,0,0⟩⟩)],(s,a1)=foS t a false,0⟩) ?_ ?_;(rintro⟨s,a1,b,o⟩ hok;(try dsimp only at hok));rotate_left)|(refine goK tQ [2,5,7] 5 (S:=Hd×Nat×Nm×Nm) [0,2,7] (fun(x,a2,b,o)=>⟨[(4,.ptr b 0),(6,.ptr o 0)],[(p,xg t a2),(b,⟨54,x.cs⟩),(o,⟨54,Hd.cs ⟨0,0,0,0,0,0,0,0,0,0,0,0,0,0,0⟩⟩)],(x,a2)=foB t a1 (foI hd s),0⟩) ?_ ?_;(rintro⟨x,a2,b,o⟩ hok;(try dsimp only at hok));rotate_left)|(refine goK tQ [2,5,7] 7 (S:=Hd×Nm×Nm) [0,2] (fun(y,b,o)=>⟨[(4,.ptr b 0),(6,.ptr o 0)],[(p,xg t a2),(b,⟨54,y.cs⟩),(o,⟨54,Hd.cs ⟨0,0,0,0,0,0,0,0,0,0,0,0,0,0,0⟩⟩)],y=foT s x,0⟩) ?_ ?_;(rintro⟨y,b,o⟩ hok;(try dsimp only at hok));rotate_left)|refine CutL.go tQ [2,5,7] ?_)|(show AtC _ _ _ _ _ _ _ _;first|(apply AtC.mk' (id:=2) (S:=Int×Nat×Nm×Nm) ((1,adv t a 1,_,_));(repeat' first|exact trivial|(refine And.intro ?_ ?_)|exact LB.nil|(with_reducible exact LB.refl)|(apply LB.cons;(repeat first|refine goH ?_|apply LH.here|apply LH.next);refine And.intro ?_ ?_;(focus(try(first|(with_reducible rfl)|(refine congrArg (Pl.mk _) ?_;(first|rfl|(simp;done)))|rfl|(with_reducible refine congrArg (Pl.mk _) ?_)))))|assumption|(show(_,_)=foS _ _ _;first|exact kA (by assumption)|exact kB (by assumption))|(show(_,_)=foB _ _ _;first|exact xn (by assumption)|exact xo (by assumption))|(show _=foT _ _;first|exact xl (by assumption)|exact xm (by assumption))|(first|(focus(apply Eq.trans;(conv=>lhs;whnf);(conv=>rhs;whnf);done))|rfl|((conv=>lhs;whnf);first|rfl|(refine congrArg (AV.int _) ?_;(exact T.num))|(refine congrArg AV.bool ?_;(exact T.num))|(refine vwc ?_;first|(exact T.num)|(first|rfl|(simp;done)))|(refine q9 ?_ ?_<;>first|(exact T.num)|(first|rfl|(simp;done)))|(first|rfl|(simp;done))))|(exact T.num)|(dsimp only;(exact T.num))|(first|rfl|(simp;done)));done)|(apply AtC.mk' (id:=2) (S:=Int×Nat×Nm×Nm) ((q7 .add .i64 1 (qi t (adv t a 1) 20),adv t a 2,_,_));(repeat' first|exact trivial|(refine And.intro ?_ ?_)|exact LB.nil|(with_reducible exact LB.refl)|(apply LB.cons;(repeat first|refine goH ?_|apply LH.here|apply LH.next);refine And.intro ?_ ?_;(focus(try(first|(with_reducible rfl)|(refine congrArg (Pl.mk _) ?_;(first|rfl|(simp;done)))|rfl|(with_reducible refine congrArg (Pl.mk _) ?_)))))|assumption|(show(_,_)=foS _ _ _;first|exact kA (by assumption)|exact kB (by assumption))|(show(_,_)=foB _ _ _;first|exact xn (by assumption)|exact xo (by assumption))|(show _=foT _ _;first|exact xl (by assumption)|exact xm (by assumption))|(first|(focus(apply Eq.trans;(conv=>lhs;whnf);(conv=>rhs;whnf);done))|rfl|((conv=>lhs;whnf);first|rfl|(refine congrArg (AV.int _) ?_;(exact T.num))|(refine congrArg AV.bool ?_;(exact T.num))|(refine vwc ?_;first|(exact T.num)|(first|rfl|(simp;done)))|(refine q9 ?_ ?_<;>first|(exact T.num)|(first|rfl|(simp;done)))|(first|rfl|(simp;done))))|(exact T.num)|(dsimp only;(exact T.num))|(first|rfl|(simp;done)));done)|(apply AtC.mk' (id:=5) (S:=Hd×Nat×Nm×Nm) ((foI hd s,a1,_,_));(repeat' first|exact trivial|(refine And.intro ?_ ?_)|exact LB.nil|(with_reducible exact LB.refl)|(apply LB.cons;(repeat first|refine goH ?_|apply LH.here|apply LH.next);refine And.intro ?_ ?_;(focus(try(first|(with_reducible rfl)|(refine congrArg (Pl.mk _) ?_;(first|rfl|(simp;done)))|rfl|(with_reducible refine congrArg (Pl.mk _) ?_)))))|assumption|(show(_,_)=foS _ _ _;first|exact kA (by assumption)|exact kB (by assumption))|(show(_,_)=foB _ _ _;first|exact xn (by assumption)|exact xo (by assumption))|(show _=foT _ _;first|exact xl (by assumption)|exact xm (by assumption))|(first|(focus(apply Eq.trans;(conv=>lhs;whnf);(conv=>rhs;whnf);done))|rfl|((conv=>lhs;whnf);first|rfl|(refine congrArg (AV.int _) ?_;(exact T.num))|(refine congrArg AV.bool ?_;(exact T.num))|(refine vwc ?_;first|(exact T.num)|(first|rfl|(simp;done)))|(refine q9 ?_ ?_<;>first|(exact T.num)|(first|rfl|(simp;done)))|(first|rfl|(simp;done))))|(exact T.num)|(dsimp only;(exact T.num))|(first|rfl|(simp;done)));done)|(apply AtC.mk' (id:=5) (S:=Hd×Nat×Nm×Nm) (({ foI hd s with ck:=q7 .add .i64 1 (qi t a1 65535) },adv t a1 1,_,_));(repeat' first|exact trivial|(refine And.intro ?_ ?_)|exact LB.nil|(with_reducible exact LB.refl)|(apply LB.cons;(repeat first|refine goH ?_|apply LH.here|apply LH.next);refine And.intro ?_ ?_;(focus(try(first|(with_reducible rfl)|(refine congrArg (Pl.mk _) ?_;(first|rfl|(simp;done)))|rfl|(with_reducible refine congrArg (Pl.mk _) ?_)))))|assumption|(show(_,_)=foS _ _ _;first|exact kA (by assumption)|exact kB (by assumption))|(show(_,_)=foB _ _ _;first|exact xn (by assumption)|exact xo (by assumption))|(show _=foT _ _;first|exact xl (by assumption)|exact xm (by assumption))|(first|(focus(apply Eq.trans;(conv=>lhs;whnf);(conv=>rhs;whnf);done))|rfl|((conv=>lhs;whnf);first|rfl|(refine congrArg (AV.int _) ?_;(exact T.num))|(refine congrArg AV.bool ?_;(exact T.num))|(refine vwc ?_;first|(exact T.num)|(first|rfl|(simp;done)))|(refine q9 ?_ ?_<;>first|(exact T.num)|(first|rfl|(simp;done)))|(first|rfl|(simp;done))))|(exact T.num)|(dsimp only;(exact T.num))|(first|rfl|(simp;done)));done)|(apply AtC.mk' (id:=7) (S:=Hd×Nm×Nm) ((x,_,_));(repeat' first|exact trivial|(refine And.intro ?_ ?_)|exact LB.nil|(with_reducible exact LB.refl)|(apply LB.cons;(repeat first|refine goH ?_|apply LH.here|apply LH.next);refine And.intro ?_ ?_;(focus(try(first|(with_reducible rfl)|(refine congrArg (Pl.mk _) ?_;(first|rfl|(simp;done)))|rfl|(with_reducible refine congrArg (Pl.mk _) ?_)))))|assumption|(show(_,_)=foS _ _ _;first|exact kA (by assumption)|exact kB (by assumption))|(show(_,_)=foB _ _ _;first|exact xn (by assumption)|exact xo (by assumption))|(show _=foT _ _;first|exact xl (by assumption)|exact xm (by assumption))|(first|(focus(apply Eq.trans;(conv=>lhs;whnf);(conv=>rhs;whnf);done))|rfl|((conv=>lhs;whnf);first|rfl|(refine congrArg (AV.int _) ?_;(exact T.num))|(refine congrArg AV.bool ?_;(exact T.num))|(refine vwc ?_;first|(exact T.num)|(first|rfl|(simp;done)))|(refine q9 ?_ ?_<;>first|(exact T.num)|(first|rfl|(simp;done)))|(first|rfl|(simp;done))))|(exact T.num)|(dsimp only;(exact T.num))|(first|rfl|(simp;done)));done)|(apply AtC.mk' (id:=7) (S:=Hd×Nm×Nm) (({ x with sq:=j0 (q7 .add .i64 x.sq s) 65536,tm:=j0 (q7 .add .i64 x.tm (q7 .mul .i64 160 s)) 4294967296,mr:=0 },_,_));(repeat' first|exact trivial|(refine And.intro ?_ ?_)|exact LB.nil|(with_reducible exact LB.refl)|(apply LB.cons;(repeat first|refine goH ?_|apply LH.here|apply LH.next);refine And.intro ?_ ?_;(focus(try(first|(with_reducible rfl)|(refine congrArg (Pl.mk _) ?_;(first|rfl|(simp;done)))|rfl|(with_reducible refine congrArg (Pl.mk _) ?_)))))|assumption|(show(_,_)=foS _ _ _;first|exact kA (by assumption)|exact kB (by assumption))|(show(_,_)=foB _ _ _;first|exact xn (by assumption)|exact xo (by assumption))|(show _=foT _ _;first|exact xl (by assumption)|exact xm (by assumption))|(first|(focus(apply Eq.trans;(conv=>lhs;whnf);(conv=>rhs;whnf);done))|rfl|((conv=>lhs;whnf);first|rfl|(refine congrArg (AV.int _) ?_;(exact T.num))|(refine congrArg AV.bool ?_;(exact T.num))|(refine vwc ?_;first|(exact T.num)|(first|rfl|(simp;done)))|(refine q9 ?_ ?_<;>first|(exact T.num)|(first|rfl|(simp;done)))|(first|rfl|(simp;done))))|(exact T.num)|(dsimp only;(exact T.num))|(first|rfl|(simp;done)));done)|(apply AtC.mk' (id:=2) (S:=Int×Nat×Nm×Nm) ((1,adv t a 1,_,_));(repeat' first|exact trivial|(refine And.intro ?_ ?_)|exact LB.nil|(with_reducible exact LB.refl)|(apply LB.cons;(repeat first|refine goH ?_|apply LH.here|apply LH.next);refine And.intro ?_ ?_;(focus(try(first|(with_reducible rfl)|(refine congrArg (Pl.mk _) ?_;(first|rfl|(simp;done)))|rfl|(with_reducible refine congrArg (Pl.mk _) ?_)))))|assumption|(show(_,_)=foS _ _ _;first|exact kA (by assumption)|exact kB (by assumption))|(show(_,_)=foB _ _ _;first|exact xn (by assumption)|exact xo (by assumption))|(show _=foT _ _;first|exact xl (by assumption)|exact xm (by assumption))|(first|(focus(apply Eq.trans;(conv=>lhs;whnf);(conv=>rhs;whnf);done))|rfl|((conv=>lhs;whnf);first|rfl|(refine congrArg (AV.int _) ?_;(exact T.num))|(refine congrArg AV.bool ?_;(exact T.num))|(refine vwc ?_;first|(exact T.num)|(first|rfl|(simp;done)))|(refine q9 ?_ ?_<;>first|(exact T.num)|(first|rfl|(simp;done)))|(first|rfl|(simp;done))))|(exact T.num)|(dsimp only;(exact T.num))|(first|rfl|(simp;done))))|(apply AtC.mk' (id:=2) (S:=Int×Nat×Nm×Nm) ((q7 .add .i64 1 (qi t (adv t a 1) 20),adv t a 2,_,_));(repeat' first|exact trivial|(refine And.intro ?_ ?_)|exact LB.nil|(with_reducible exact LB.refl)|(apply LB.cons;(repeat first|refine goH ?_|apply LH.here|apply LH.next);refine And.intro ?_ ?_;(focus(try(first|(with_reducible rfl)|(refine congrArg (Pl.mk _) ?_;(first|rfl|(simp;done)))|rfl|(with_reducible refine congrArg (Pl.mk _) ?_)))))|assumption|(show(_,_)=foS _ _ _;first|exact kA (by assumption)|exact kB (by assumption))|(show(_,_)=foB _ _ _;first|exact xn (by assumption)|exact xo (by assumption))|(show _=foT _ _;first|exact xl (by assumption)|exact xm (by assumption))|(first|(focus(apply Eq.trans;(conv=>lhs;whnf);(conv=>rhs;whnf);done))|rfl|((conv=>lhs;whnf);first|rfl|(refine congrArg (AV.int _) ?_;(exact T.num))|(refine congrArg AV.bool ?_;(exact T.num))|(refine vwc ?_;first|(exact T.num)|(first|rfl|(simp;done)))|(refine q9 ?_ ?_<;>first|(exact T.num)|(first|rfl|(simp;done)))|(first|rfl|(simp;done))))|(exact T.num)|(dsimp only;(exact T.num))|(first|rfl|(simp;done))))|(apply AtC.mk' (id:=5) (S:=Hd×Nat×Nm×Nm) ((foI hd s,a1,_,_));(repeat' first|exact trivial|(refine And.intro ?_ ?_)|exact LB.nil|(with_reducible exact LB.refl)|(apply LB.cons;(repeat first|refine goH ?_|apply LH.here|apply LH.next);refine And.intro ?_ ?_;(focus(try(first|(with_reducible rfl)|(refine congrArg (Pl.mk _) ?_;(first|rfl|(simp;done)))|rfl|(with_reducible refine congrArg (Pl.mk _) ?_)))))|assumption|(show(_,_)=foS _ _ _;first|exact kA (by assumption)|exact kB (by assumption))|(show(_,_)=foB _ _ _;first|exact xn (by assumption)|exact xo (by assumption))|(show _=foT _ _;first|exact xl (by assumption)|exact xm (by assumption))|(first|(focus(apply Eq.trans;(conv=>lhs;whnf);(conv=>rhs;whnf);done))|rfl|((conv=>lhs;whnf);first|rfl|(refine congrArg (AV.int _) ?_;(exact T.num))|(refine congrArg AV.bool ?_;(exact T.num))|(refine vwc ?_;first|(exact T.num)|(first|rfl|(simp;done)))|(refine q9 ?_ ?_<;>first|(exact T.num)|(first|rfl|(simp;done)))|(first|rfl|(simp;done))))|(exact T.num)|(dsimp only;(exact T.num))|(first|rfl|(simp;done))))|(apply AtC.mk' (id:=5) (S:=Hd×Nat×Nm×Nm) (({ foI hd s with ck:=q7 .add .i64 1 (qi t a1 65535) },adv t a1 1,_,_));(repeat' first|exact trivial|(refine And.intro ?_ ?_)|exact LB.nil|(with_reducible exact LB.refl)|(apply LB.cons;(repeat first|refine goH ?_|apply LH.here|apply LH.next);refine And.intro ?_ ?_;(focus(try(first|(with_reducible rfl)|(refine congrArg (Pl.mk _) ?_;(first|rfl|(simp;done)))|rfl|(with_reducible refine congrArg (Pl.mk _) ?_)))))|assumption|(show(_,_)=foS _ _ _;first|exact kA (by assumption)|exact kB (by assumption))|(show(_,_)=foB _ _ _;first|exact xn (by assumption)|exact xo (by assumption))|(show _=foT _ _;first|exact xl (by assumption)|exact xm (by assumption))|(first|(focus(apply Eq.trans;(conv=>lhs;whnf);(conv=>rhs;whnf);done))|rfl|((conv=>lhs;whnf);first|rfl|(refine congrArg (AV.int _) ?_;(exact T.num))|(refine congrArg AV.bool ?_;(exact T.num))|(refine vwc ?_;first|(exact T.num)|(first|rfl|(simp;done)))|(refine q9 ?_ ?_<;>first|(exact T.num)|(first|rfl|(simp;done)))|(first|rfl|(simp;done))))|(exact T.num)|(dsimp only;(exact T.num))|(first|rfl|(simp;done))))|(apply AtC.mk' (id:=7) (S:=Hd×Nm×Nm) ((x,_,_));(repeat' first|exact trivial|(refine And.intro ?_ ?_)|exact LB.nil|(with_reducible exact LB.refl)|(apply LB.cons;(repeat first|refine goH ?_|apply LH.here|apply LH.next);refine And.intro ?_ ?_;(focus(try(first|(with_reducible rfl)|(refine congrArg (Pl.mk _) ?_;(first|rfl|(simp;done)))|rfl|(with_reducible refine congrArg (Pl.mk _) ?_)))))|assumption|(show(_,_)=foS _ _ _;first|exact kA (by assumption)|exact kB (by assumption))|(show(_,_)=foB _ _ _;first|exact xn (by assumption)|exact xo (by assumption))|(show _=foT _ _;first|exact xl (by assumption)|exact xm (by assumption))|(first|(focus(apply Eq.trans;(conv=>lhs;whnf);(conv=>rhs;whnf);done))|rfl|((conv=>lhs;whnf);first|rfl|(refine congrArg (AV.int _) ?_;(exact T.num))|(refine congrArg AV.bool ?_;(exact T.num))|(refine vwc ?_;first|(exact T.num)|(first|rfl|(simp;done)))|(refine q9 ?_ ?_<;>first|(exact T.num)|(first|rfl|(simp;done)))|(first|rfl|(simp;done))))|(exact T.num)|(dsimp only;(exact T.num))|(first|rfl|(simp;done))))|(apply AtC.mk' (id:=7) (S:=Hd×Nm×Nm) (({ x with sq:=j0 (q7 .add .i64 x.sq s) 65536,tm:=j0 (q7 .add .i64 x.tm (q7 .mul .i64 160 s)) 4294967296,mr:=0 },_,_));(repeat' first|exact trivial|(refine And.intro ?_ ?_)|exact LB.nil|(with_reducible exact LB.refl)|(apply LB.cons;(repeat first|refine goH ?_|apply LH.here|apply LH.next);refine And.intro ?_ ?_;(focus(try(first|(with_reducible rfl)|(refine congrArg (Pl.mk _) ?_;(first|rfl|(simp;done)))|rfl|(with_reducible refine congrArg (Pl.mk _) ?_)))))|assumption|(show(_,_)=foS _ _ _;first|exact kA (by assumption)|exact kB (by assumption))|(show(_,_)=foB _ _ _;first|exact xn (by assumption)|exact xo (by assumption))|(show _=foT _ _;first|exact xl (by assumption)|exact xm (by assumption))|(first|(focus(apply Eq.trans;(conv=>lhs;whnf);(conv=>rhs;whnf);done))|rfl|((conv=>lhs;whnf);first|rfl|(refine congrArg (AV.int _) ?_;(exact T.num))|(refine congrArg AV.bool ?_;(exact T.num))|(refine vwc ?_;first|(exact T.num)|(first|rfl|(simp;done)))|(refine q9 ?_ ?_<;>first|(exact T.num)|(first|rfl|(simp;done)))|(first|rfl|(simp;done))))|(exact T.num)|(dsimp only;(exact T.num))|(first|rfl|(simp;done)))))|exact T.z|fail)<;>conv=>whnf)
 all_goals(try dsimp only)
 all_goals
   rw[fol_f (s:=s) (a1:=a1) (x:=x) (a2:=a2) (y:=y) (by assumption) (by assumption) (by assumption)]
   unfold foX
   (repeat first|rw[if_pos (by first|assumption|omega)]|rw[if_neg (by first|assumption|omega)])
   (show RL _ _ _;refine goR ?_)
   rfl
theorem follow_c(t:List Int)(a:Nat)(hd:Hd)(reg:Bool)(ht:t.length≤400)(p:Nm):LP Tryz.prog G 27 [.ptr p 0,hd.av,.bool reg] [(p,xg t a)] (fun _=>((jU t a hd reg).1.av,[(p,xg t (jU t a hd reg).2)])):=by
 cases reg
 · exact follow_f t a hd ht p
 · exact follow_t t a hd ht p
open Go.RowKit
section
variable {P:Program}{G:Nat→AV}{l:LS}
theorem LC.twoK{f:FuncId}{args:List AV}{x:AV}{r p:Nm}{c d c' d':Pl}{K:AV→LS→Prop}(hs:r≠p→LP P G f args [(r,c),(p,d)] fun _=>(x,[(r,c'),(p,d')]))
   (hk:LH l r fun c1 s rest=>c1=c∧LH rest p fun d1 _ _=>d1=d∧LH (s c') p fun _ s2 _=>K x (s2 d')):LC P G f args l K:=⟨fun φ hsp=>by
 obtain⟨l1,c1,l2,rfl,rfl,ha⟩:=hk.ex
 obtain⟨l3,d1,l4,e,rfl,hb⟩:=ha.ex
 obtain⟨m1,e1,m2,e2,h⟩:=hb.ex
 clear hk ha hb
 have hnd:=jj hsp.nd
 have hp:p∈(l1++l2).map (·.1):=by rw[e];simp
 have hne:r≠p:=fun hh=>by
   subst hh
   rw[List.map_append,List.mem_append] at hp
   exact hp.elim hnd.1 hnd.2.1
 have hpp:pQ φ (l1++(r,c1)::l2) p=some d1:=by
   have h1:=hsp.rest
   rw[e] at h1
   have h2:=h1.get
   rw[←e,←hsp.era',z6 _ (Ne.symm hne)] at h2
   exact h2
 refine⟨.inl ⟨[],args,[(r,c1),(p,d1)],_,rfl,fun _ _=>.refl _,hs hne,fun x hx=>?_,by simp[hne],fun q hq hn=>?_⟩⟩
 · simp only[List.mem_cons,List.not_mem_nil,or_false] at hx
   rcases hx with rfl|rfl
   · exact hsp.get
   · exact hpp
 · have h3:Sep φ (l1++(r,c')::l2):=hsp.set
   have e3:l1++(r,c')::l2=m1++(p,e1)::m2:=e2
   have h4:=h3
   rw[e3] at h4
   refine⟨m1++(p,d')::m2,?_,h4.set,h⟩
   rw[←h4.set' d',←e3,←hsp.set' c']
   have key:∀σ:q8,Go.Proofs.YtndpmpnmkpaklaaGreatDoor.upd (Go.Proofs.YtndpmpnmkpaklaaGreatDoor.upd (era (era σ p) r) p d') r c'=Go.Proofs.YtndpmpnmkpaklaaGreatDoor.upd (Go.Proofs.YtndpmpnmkpaklaaGreatDoor.upd σ r c') p d':=fun σ=>by
    funext y
    by_cases hy:y=r
    · subst hy
      rw[qx,qe _ _ hne,qx]
    · rw[qe _ _ hy]
      by_cases hz:y=p
      · subst hz;rw[qx,qx]
      · rw[qe _ _ hz,qe _ _ hz,qe _ _ hy,z6 _ hy,z6 _ hz]
   exact key _⟩
end
theorem AQ.rset{α:Type}{f:α→List AV}{n:Nat}(hf:∀x,(f x).length=n){l:List α}{o:Nat}{xs:List AV}{K:List AV→Prop}{i:Nat}{x:α}(j:Nat)(y:α)(h:i<l.length)(ho:o=i*n+j)(hj:j+xs.length≤n)(hy:f y=qg (f x) j xs)(k:K ((l.set i y).flatMap f)):AQ (qg ((l.set i x).flatMap f) o xs) K:=⟨by
 subst ho
 have h1:(l.set i x).getD i x=x:=by simp[List.getD_eq_getElem?_getD,h]
 rw[yX hf (l.set i x) i j x y xs (by simpa using h) hj (by rw[h1];exact hy),List.set_set]
 exact k⟩
theorem AC.rset{α:Type}{f:α→List AV}{n:Nat}(hf:∀x,(f x).length=n){agg:Bool}{l:List α}{o m:Nat}{K:AV→Prop}{i:Nat}{x:α}(j:Nat)(v:AV)(h:i<l.length)(ho:o=i*n+j)(hj:j+m≤n)(hv:mkv agg (((f x).drop j).take m)=v)(k:K v):AC agg ((((l.set i x).flatMap f).drop o).take m) K:=⟨by
 subst ho
 have h1:(l.set i x).getD i x=x:=by simp[List.getD_eq_getElem?_getD,h]
 rw[←List.drop_drop,vC hf (l.set i x) i x (by simpa using h),h1,List.drop_append_of_le_length (by rw[hf];omega),List.take_append_of_le_length (by simp[hf];omega),hv]
 exact k⟩
theorem wo{α:Type}{f:α→List AV}{n i j m:Nat}{l:List α}{x:α}(hf:∀x,(f x).length=n)(h:i<l.length)(hj:j+m≤n):i*n+j+m≤((l.set i x).flatMap f).length:=by
 rw[qm hf,List.length_set]
 have:=Nat.mul_le_mul_right n (show i+1≤l.length from h)
 rw[Nat.succ_mul] at this
 omega
theorem set_at{α:Type}{l:List α}{i:Nat}{d:α}(h:i<l.length):l.set i (l.getD i d)=l:=by
 apply List.ext_getElem
 · simp
 · intro k h1 h2
   rw[List.getElem_set]
   split
   · rename_i e;subst e;simp[List.getD_eq_getElem?_getD,h]
   · rfl
theorem set_gt{α:Type}{l:List α}{i:Nat}{x d:α}(h:i<l.length):(l.set i x).getD i d=x:=by simp[List.getD_eq_getElem?_getD,h]
open Go.RowKit
theorem gidx_take{α:Type}{p:α→Bool}(l:List α)(i:Nat)(d:α)(h:i<l.length):(l.take (i+1)).findIdx? p=((l.take i).findIdx? p).or (if p (l.getD i d)=true then some i else none):=by
 rw[List.take_succ_eq_append_getElem h,List.findIdx?_append]
 have e:l[i]=l.getD i d:=by simp[List.getD_eq_getElem?_getD,h]
 rw[e,List.findIdx?_singleton]
 congr 1
 split
 · simp;omega
 · rfl
theorem kZ{α:Type}{p:α→Bool}(l:List α)(i:Nat)(d:α)(h:i<l.length)(h0:(l.take i).findIdx? p=none)(hp:p (l.getD i d)=true):l.findIdx? p=some i:=by
 have e:l=l.take (i+1)++l.drop (i+1):=(List.take_append_drop _ _).symm
 rw[e,List.findIdx?_append,gidx_take l i d h,h0,if_pos hp]
 rfl
theorem xe{α:Type}{p:α→Bool}{l:List α}{i:Nat}(d:α)(h:i<l.length)(h0:(l.take i).findIdx? p=none)(hp:p (l.getD i d)=false):(l.take (i+1)).findIdx? p=none:=by
 rw[gidx_take l i d h,h0,if_neg (by rw[hp];decide)];rfl
theorem gidx_e{α:Type}{p:α→Bool}{l:List α}{i:Nat}(h:l.length≤i)(h0:(l.take i).findIdx? p=none):l.findIdx? p=none:=by rwa [List.take_of_length_le h] at h0
open Go.RowKit
variable {G:Nat→AV}
theorem dknown_c(m:Int):LP Tryz.prog G 48 [iAV m] [] (fun _=>(.bool (jF m),[])):=by
 refine goW [] Tryz.func48 rfl ?_
 conv=>whnf
 repeat'((first|refine T.s ?_|((first|apply goB|apply AB.dec|apply AB.gen)<;>intro h<;>try(exfalso;omega))|refine LQ.mk fun r=>?_|exact T.z|fail)<;>conv=>whnf)
 all_goals(try dsimp only)
 all_goals
   (show RL _ _ _;refine goR ?_)
   refine congrArg AV.bool ?_
   rw[Bool.eq_iff_iff]
   simp[jF,qr, *]
theorem rc_er3{r:Rc}(h:3≤r.er):r.ok=false:=rc_er (.inr (by omega))
theorem rc_so{r:Rc}(h0:¬r.st=0)(h1:¬r.st=1)(h2:¬r.st=2):r.ok=false:=by unfold Rc.ok;rw[if_neg h0,if_neg (by omega)];simp
theorem dctx_c(rc:Rc):LP Tryz.prog G 174 [rc.av] [] (fun _=>(.bool rc.ok,[])):=by
 have hz:=Hd.eqz rc.la
 have hd:=Dy.eqz rc.dy
 refine goW [] Tryz.func174 rfl ?_
 conv=>whnf
 repeat'((first|(show LC _ _ _ _ _ _;first|refine LC.pure (zG rc.la) ?_|refine LC.pure (jl rc.dy) ?_|refine goE ?_)|refine T.s ?_|((first|apply goB|apply AB.dec|apply AB.gen)<;>intro h<;>try(exfalso;omega))|refine LQ.mk fun r=>?_|exact T.z|fail)<;>conv=>whnf)
 all_goals(try dsimp only)
 all_goals first
   | ((show RL _ _ _;refine goR ?_);rw[rc_er (.inl (by assumption))])
   | ((show RL _ _ _;refine goR ?_);rw[rc_er3 (by assumption)])
   | ((show RL _ _ _;refine goR ?_);rw[rc_so (by assumption) (by assumption) (by assumption)])
   | ((show RL _ _ _;refine goR ?_);rw[rc_0 (by omega) (by assumption),←hz,hd];simp_all;done)
   | ((show RL _ _ _;refine goR ?_);rw[rc_1 (by omega) (by omega)];simp_all;done)
   | trace_state
theorem dvc_c(rc:Rc):LP Tryz.prog G 173 [rc.av] [] (fun _=>(.bool (!rc.ok),[])):=by
 refine goW [] Tryz.func173 rfl ?_
 conv=>whnf
 repeat'((first|(show LC _ _ _ _ _ _;first|refine LC.pure (dctx_c rc) ?_|refine goE ?_)|refine T.s ?_|((first|apply goB|apply AB.dec|apply AB.gen)<;>intro h<;>try(exfalso;omega))|refine LQ.mk fun r=>?_|exact T.z|fail)<;>conv=>whnf)
 all_goals(try dsimp only)
 all_goals
   (show RL _ _ _;refine goR ?_)
   rfl
theorem dnew_c(m:Int):LP Tryz.prog G 29 [iAV m] [] (fun _=>(.tup [(newR m).1.av,iAV (newR m).2],[])):=by
 have hk:=dknown_c (G:=G) m
 by_cases h0:1≤m∧m≤3
 · rw[newR_t h0]
   rw[show jF m=true from decide_eq_true h0] at hk
   refine goW [] Tryz.func29 rfl ?_
   conv=>whnf
   repeat'((first|(show LC _ _ _ _ _ _;first|refine LC.pure (hk) ?_|refine goE ?_)|(show AQ _ _;first|(with_reducible show AQ (qB _ _) _;refine AQ.eq (cs':=(List.replicate 16 Rc.z).flatMap Rc.cs) (by kernel_rfl) ?_))|refine T.s ?_|((first|apply goB|apply AB.dec|apply AB.gen)<;>intro h<;>try(exfalso;omega))|refine LQ.mk fun r=>?_|exact T.z|fail)<;>conv=>whnf)
   all_goals(try dsimp only)
   all_goals
     refine RL.de16 ?_
     (repeat first|refine goH ?_|apply LH.here|apply LH.next)
     rfl
 · rw[newR_f h0]
   rw[show jF m=false from decide_eq_false h0] at hk
   refine goW [] Tryz.func29 rfl ?_
   conv=>whnf
   repeat'((first|(show LC _ _ _ _ _ _;first|refine LC.pure (hk) ?_|refine goE ?_)|refine T.s ?_|((first|apply goB|apply AB.dec|apply AB.gen)<;>intro h<;>try(exfalso;omega))|refine LQ.mk fun r=>?_|exact T.z|fail)<;>conv=>whnf)
   all_goals(try dsimp only)
   all_goals exact RL.dez
def yc(r:Rc):Bool := !r.ok
theorem bad_f{r:Rc}(h:r.ok=true):yc r=false:=by unfold yc;rw[h];rfl
theorem bad_t{r:Rc}(h:r.ok=false):yc r=true:=by unfold yc;rw[h];rfl
theorem didx_c(l:List Rc)(hl:l.length≤100000):LP Tryz.prog G 204 [rcv l,.clo (.func 173) [] []] [] (fun _=>(iAV (kE (l.findIdx? yc)),[])):=by
 have hp:∀i:Nat,LP Tryz.prog G 173 [(l.getD i Rc.z).av] [] (fun _=>(.bool (yc (l.getD i Rc.z)),[])):=fun i=>dvc_c _
 refine goW [] Tryz.func204 rfl ?_
 conv=>whnf
 repeat'((first|(refine And.intro ?_ ?_;(focus(first|exact kc Rc.cs_len (by assumption)|exact T.kx|exact T.side)))|(show LC _ _ _ _ _ _;first|refine LC.pure (hp i) ?_|refine goE ?_)|(show AC _ _ _;first|(refine AC.recd Rc.cs_len i Rc.z rfl rfl ?_ ?_;(focus omega)))|refine T.s ?_|((first|apply goB|apply AB.dec|apply AB.gen)<;>intro h<;>try(exfalso;omega))|refine LQ.mk fun r=>?_|(show SWpL _ _ _ (.loop _) _ _ _;first|(apply goO tQ [] 2 (S:=Nat) [0,1,7] (fun i=>⟨[(8,.int .i64 i)],[],i≤l.length∧(l.take i).findIdx? yc=none,l.length-i⟩) (0) (by rfl);(focus((repeat' first|exact trivial|(refine And.intro ?_ ?_)|exact LB.nil|(with_reducible exact LB.refl)|(apply LB.cons;(repeat first|refine goH ?_|apply LH.here|apply LH.next);refine And.intro ?_ ?_;(focus(try(first|(with_reducible rfl)|(refine congrArg (Pl.mk _) ?_;(first|rfl|(simp;done)))|rfl|(with_reducible refine congrArg (Pl.mk _) ?_)))))|assumption|(exact xe Rc.z (by omega) hok (bad_f (by assumption)))|(first|(focus(apply Eq.trans;(conv=>lhs;whnf);(conv=>rhs;whnf);done))|rfl|((conv=>lhs;whnf);first|rfl|(refine congrArg (AV.int _) ?_;(exact T.num))|(refine congrArg AV.bool ?_;(exact T.num))|(refine vwc ?_;first|(exact T.num)|(first|rfl|(simp;done)))|(refine q9 ?_ ?_<;>first|(exact T.num)|(first|rfl|(simp;done)))|(first|rfl|(simp;done))))|(exact T.num)|(dsimp only;(exact T.num))|(first|rfl|(simp;done)));done));rintro i ⟨hk,hok⟩))|(show AtL _ _ _ _ _ _ _ _ _ _;first|(apply AtL.mk' (id:=2) (S:=Nat) (i+1);(repeat' first|exact trivial|(refine And.intro ?_ ?_)|exact LB.nil|(with_reducible exact LB.refl)|(apply LB.cons;(repeat first|refine goH ?_|apply LH.here|apply LH.next);refine And.intro ?_ ?_;(focus(try(first|(with_reducible rfl)|(refine congrArg (Pl.mk _) ?_;(first|rfl|(simp;done)))|rfl|(with_reducible refine congrArg (Pl.mk _) ?_)))))|assumption|(exact xe Rc.z (by omega) hok (bad_f (by assumption)))|(first|(focus(apply Eq.trans;(conv=>lhs;whnf);(conv=>rhs;whnf);done))|rfl|((conv=>lhs;whnf);first|rfl|(refine congrArg (AV.int _) ?_;(exact T.num))|(refine congrArg AV.bool ?_;(exact T.num))|(refine vwc ?_;first|(exact T.num)|(first|rfl|(simp;done)))|(refine q9 ?_ ?_<;>first|(exact T.num)|(first|rfl|(simp;done)))|(first|rfl|(simp;done))))|(exact T.num)|(dsimp only;(exact T.num))|(first|rfl|(simp;done)));done)|(apply AtL.mk' (id:=2) (S:=Nat) (i+1);(repeat' first|exact trivial|(refine And.intro ?_ ?_)|exact LB.nil|(with_reducible exact LB.refl)|(apply LB.cons;(repeat first|refine goH ?_|apply LH.here|apply LH.next);refine And.intro ?_ ?_;(focus(try(first|(with_reducible rfl)|(refine congrArg (Pl.mk _) ?_;(first|rfl|(simp;done)))|rfl|(with_reducible refine congrArg (Pl.mk _) ?_)))))|assumption|(exact xe Rc.z (by omega) hok (bad_f (by assumption)))|(first|(focus(apply Eq.trans;(conv=>lhs;whnf);(conv=>rhs;whnf);done))|rfl|((conv=>lhs;whnf);first|rfl|(refine congrArg (AV.int _) ?_;(exact T.num))|(refine congrArg AV.bool ?_;(exact T.num))|(refine vwc ?_;first|(exact T.num)|(first|rfl|(simp;done)))|(refine q9 ?_ ?_<;>first|(exact T.num)|(first|rfl|(simp;done)))|(first|rfl|(simp;done))))|(exact T.num)|(dsimp only;(exact T.num))|(first|rfl|(simp;done)))))|exact T.z|fail)<;>conv=>whnf)
 all_goals(try dsimp only)
 all_goals first
   | ((show RL _ _ _;refine goR ?_);rw[kZ l i Rc.z (by omega) hok (bad_t (by assumption))];rfl)
   | ((show RL _ _ _;refine goR ?_);rw[gidx_e (by omega) hok];rfl)
   | trace_state
theorem bad_e(l:List Rc):(!decide (0≤kE (l.findIdx? yc)))=l.all Rc.ok:=by
 have e:l.all Rc.ok = !(l.any yc):=by
   rw[Bool.eq_iff_iff]
   simp[yc,List.any_eq_true,List.all_eq_true]
 rw[e]
 cases h:l.findIdx? yc with
 | none =>
   have:l.any yc=false:=by
     rw[List.findIdx?_eq_none_iff] at h
     rw[Bool.eq_false_iff]
     intro hh
     obtain⟨x,hx,hb⟩:=List.any_eq_true.1 hh
     rw[h x hx] at hb
     cases hb
   rw[this];rfl
 | some j =>
   have:l.any yc=true:=by
     rw[List.findIdx?_eq_some_iff_getElem] at h
     obtain⟨h1,h2,-⟩:=h
     exact List.any_eq_true.2 ⟨_,List.getElem_mem h1,h2⟩
   rw[this]
   simp[kE]
theorem dcont_c(l:List Rc)(hl:l.length≤100000):LP Tryz.prog G 172 [rcv l,.clo (.func 173) [] []] [] (fun _=>(.bool (decide (0≤kE (l.findIdx? yc))),[])):=by
 refine goW [] Tryz.func172 rfl ?_
 conv=>whnf
 repeat'((first|(show LC _ _ _ _ _ _;first|refine LC.pure (didx_c l hl) ?_|refine goE ?_)|refine T.s ?_|((first|apply goB|apply AB.dec|apply AB.gen)<;>intro h<;>try(exfalso;omega))|refine LQ.mk fun r=>?_|exact T.z|fail)<;>conv=>whnf)
 all_goals(try dsimp only)
 all_goals
   (show RL _ _ _;refine goR ?_)
   rfl
theorem clo_lit{σ:q8}{w:World}{f:Nat}{x:AV}{vs:Array Value}(h:RdL σ w [x,.lit (.func (.func f) #[] #[])] vs):RdL σ w [x,.clo (.func f) [] []] vs:=⟨h.1,fun i hi=>match i,hi with
 | 0,_=>h.2 0 (by simp)
 | 1,_=>by
   have h1:=h.2 1 (by simp)
   simp only[List.getD_cons_succ,List.getD_cons_zero] at h1 ⊢
   generalize vs.getD 1 undef=u at h1
   cases h1
   exact .clo _ _ _ _ _ rfl rfl (fun i hi=>by simp at hi) (fun i hi=>by simp at hi)⟩
theorem dcont_l(l:List Rc)(hl:l.length≤100000):LP Tryz.prog G 172 [rcv l,.lit (.func (.func 173) #[] #[])] [] (fun _=>(.bool (decide (0≤kE (l.findIdx? yc))),[])):=(dcont_c l hl).warg fun _ _ _ h=>clo_lit h
theorem jX(d:De):LP Tryz.prog G 123 [d.av] [] (fun _=>(.bool d.ok,[])):=by
 have hk:=dknown_c (G:=G) d.m
 by_cases h0:1≤d.m∧d.m≤3
 · rw[show jF d.m=true from decide_eq_true h0] at hk
   by_cases h1:d.cx.length=16
   · rw[deok h0 h1,←bad_e]
     refine goW [] Tryz.func123 rfl ?_
     conv=>whnf
     repeat'((first|(show LC _ _ _ _ _ _;first|refine LC.pure (hk) ?_|refine LC.pure (dcont_l d.cx (by omega)) ?_|refine goE ?_)|refine T.s ?_|((first|apply goB|apply AB.dec|apply AB.gen)<;>intro h<;>try(exfalso;omega))|refine LQ.mk fun r=>?_|exact T.z|fail)<;>conv=>whnf)
     all_goals(try dsimp only)
     all_goals first
       | (exfalso;omega)
       | ((show RL _ _ _;refine goR ?_);rfl)
       | trace_state
   · rw[deok_f fun h=>h1 h.2]
     refine goW [] Tryz.func123 rfl ?_
     conv=>whnf
     repeat'((first|(show LC _ _ _ _ _ _;first|refine LC.pure (hk) ?_|refine goE ?_)|refine T.s ?_|((first|apply goB|apply AB.dec|apply AB.gen)<;>intro h<;>try(exfalso;omega))|refine LQ.mk fun r=>?_|exact T.z|fail)<;>conv=>whnf)
     all_goals(try dsimp only)
     all_goals first
       | ((show RL _ _ _;refine goR ?_);rfl)
       | (exfalso;omega)
       | trace_state
 · rw[show jF d.m=false from decide_eq_false h0] at hk
   rw[deok_f fun h=>h0 h.1]
   refine goW [] Tryz.func123 rfl ?_
   conv=>whnf
   repeat'((first|(show LC _ _ _ _ _ _;first|refine LC.pure (hk) ?_|refine goE ?_)|refine T.s ?_|((first|apply goB|apply AB.dec|apply AB.gen)<;>intro h<;>try(exfalso;omega))|refine LQ.mk fun r=>?_|exact T.z|fail)<;>conv=>whnf)
   all_goals(try dsimp only)
   all_goals
     (show RL _ _ _;refine goR ?_)
     rfl
open Go.RowKit
variable {G:Nat→AV}
theorem AC.sub{agg:Bool}{α:Type}{f:α→List AV}{n:Nat}{l:List α}{o m:Nat}{K:AV→Prop}(hf:∀x,(f x).length=n)(i j:Nat)(d:α)(v:AV)(ho:o=i*n+j)(hj:j+m≤n)(h:i<l.length)(hv:mkv agg (((f (l.getD i d)).drop j).take m)=v)(k:K v):AC agg (((l.flatMap f).drop o).take m) K:=⟨by
 subst ho
 rw[←List.drop_drop,vC hf l i d h,List.drop_append_of_le_length (by rw[hf];omega),List.take_append_of_le_length (by simp[hf];omega),hv]
 exact k⟩
theorem sub_le{α:Type}{f:α→List AV}{n i j m:Nat}{l:List α}(hf:∀x,(f x).length=n)(h:i<l.length)(hj:j+m≤n):i*n+j+m≤(l.flatMap f).length:=by
 rw[qm hf]
 have:=Nat.mul_le_mul_right n (show i+1≤l.length from h)
 rw[Nat.succ_mul] at this
 omega
@[reducible] def wkC(m c:Int)(s:Sm)(a:AV)(q:Nm)(o:Nat):List AV:=[iAV m,iAV c,iAV s.cx,iAV s.f,iAV s.n,iAV s.tm,iAV s.mr,iAV s.id,iAV s.ud,iAV s.h.k,iAV s.h.tos,iAV s.h.id,iAV s.h.fx,iAV s.h.ttl,iAV s.h.fr,iAV s.h.to,iAV s.h.fp,iAV s.h.tp,iAV s.h.ck,iAV s.h.mr,iAV s.h.ty,iAV s.h.sq,iAV s.h.tm,iAV s.h.sr,iAV s.d.st,iAV s.d.fo,iAV s.ck,a,.ptr q o]
theorem wfb_c(w q:Nm)(hne:w≠q)(l:List Rc)(i:Nat)(hi:i<l.length)(m c:Int)(s:Sm)(a:AV)(k:Int):LP Tryz.prog G 180 [.ptr w 0,iAV k] [(w,⟨184,wkC m c s a q (i*19)⟩),(q,⟨138,l.flatMap Rc.cs⟩)] (fun _=>(fbv [⟨c,k,(l.getD i Rc.z).la.num⟩],[(w,⟨184,wkC m c s a q (i*19)⟩),(q,⟨138,l.flatMap Rc.cs⟩)])):=by
 refine goW [] Tryz.func180 rfl ?_
 conv=>whnf
 repeat'((first|exact Nm.b 0|(refine And.intro ?_ ?_;(focus(first|exact sub_le Rc.cs_len hi (by decide)|exact T.kx|exact T.side)))|(show LC _ _ _ _ _ _;first|refine LC.pure (jm _) ?_|refine goE ?_)|(show AC _ _ _;first|(refine AC.sub Rc.cs_len i 1 Rc.z _ rfl (by decide) hi rfl ?_))|refine T.s ?_|((first|apply goB|apply AB.dec|apply AB.gen)<;>intro h<;>try(exfalso;omega))|refine LQ.mk fun r=>?_|(show SWpL _ _ _ _ _ _ _;first|refine gX 1 [3,12] [0,1,2,3,4,5,6,7,8,9,10,11,12,13,14,15] [] ?_)|exact T.z|fail)<;>conv=>whnf)
 all_goals(try dsimp only)
 all_goals exact RL.frz [r] (LF.row InL.here (.here ⟨by decide,rfl,rfl,rfl⟩)) (.here (LB.cons (.here ⟨rfl,LB.cons (.here ⟨rfl,LB.nil⟩)⟩)))
theorem wcomp_c(w q:Nm)(hne:w≠q)(l:List Rc)(i:Nat)(hi:i<l.length)(m c:Int)(s:Sm)(a:AV):LP Tryz.prog G 128 [.ptr w 0] [(w,⟨184,wkC m c s a q (i*19)⟩),(q,⟨138,l.flatMap Rc.cs⟩)] (fun _=>(fbv (we m c (l.getD i Rc.z)),[(w,⟨184,wkC m c s a q (i*19)⟩),(q,⟨138,l.flatMap Rc.cs⟩)])):=by
 refine goW [] Tryz.func128 rfl ?_
 conv=>whnf
 repeat'((first|(refine And.intro ?_ ?_;(focus(first|exact sub_le (j:=0) Rc.cs_len hi (by decide)|exact T.kx|exact T.side)))|(show LC _ _ _ _ _ _;first|(apply LC.twoK (fun hne=>wfb_c w q hne l i hi m c s a _);(repeat first|refine goH ?_|apply LH.here|apply LH.next);refine⟨rfl,?_⟩;(repeat first|refine goH ?_|apply LH.here|apply LH.next);refine⟨rfl,?_⟩;(repeat first|refine goH ?_|apply LH.here|apply LH.next))|refine goE ?_)|(show AC _ _ _;first|(refine AC.sub Rc.cs_len i 0 Rc.z _ rfl (by decide) hi rfl ?_))|refine T.s ?_|((first|apply goB|apply AB.dec|apply AB.gen)<;>intro h<;>try(exfalso;omega))|refine LQ.mk fun r=>?_|exact T.z|fail)<;>conv=>whnf)
 all_goals(try dsimp only)
 · rw[show we m c (l.getD i Rc.z)=[] from if_pos h]
   exact RL.frz [] (LF.nils rfl rfl) (LB.cons (.here ⟨rfl,LB.cons (.here ⟨rfl,LB.nil⟩)⟩))
 · rw[show we m c (l.getD i Rc.z)=[⟨c,2,(l.getD i Rc.z).la.num⟩] from(if_neg (by assumption)).trans (if_pos h)]
   (show RL _ _ _;refine goR ?_)
   all_goals rfl
 · rw[show we m c (l.getD i Rc.z)=[⟨c,1,(l.getD i Rc.z).la.num⟩] from(if_neg (by assumption)).trans (if_neg h)]
   (show RL _ _ _;refine goR ?_)
   all_goals rfl
theorem wnum_c(w q:Nm)(hne:w≠q)(l:List Rc)(i:Nat)(hi:i<l.length)(m c:Int)(s:Sm)(a:AV):LP Tryz.prog G 183 [.ptr w 0] [(w,⟨184,wkC m c s a q (i*19)⟩),(q,⟨138,l.flatMap Rc.cs⟩)] (fun _=>(iAV (zw (l.getD i Rc.z) s),[(w,⟨184,wkC m c s a q (i*19)⟩),(q,⟨138,l.flatMap Rc.cs⟩)])):=by
 refine goW [] Tryz.func183 rfl ?_
 conv=>whnf
 repeat'((first|exact Nm.b 0|(refine And.intro ?_ ?_;(focus(first|exact sub_le Rc.cs_len hi (by decide)|exact T.kx|exact T.side)))|(show LC _ _ _ _ _ _;first|refine LC.pure (jm _) ?_|refine LC.pure (wu _ _) ?_|refine LC.pure (ldecode_c _ _ _ _) ?_|refine goE ?_)|(show AC _ _ _;first|(refine AC.sub Rc.cs_len i 1 Rc.z _ rfl (by decide) hi rfl ?_))|refine T.s ?_|((first|apply goB|apply AB.dec|apply AB.gen)<;>intro h<;>try(exfalso;omega))|refine LQ.mk fun r=>?_|(show SWpL _ _ _ _ _ _ _;first|refine gX 4 [12,19,7,14] [0,1,2,3,4,5,6,8,9,10,11,12,13,15,16,17,18,19,7,14,20,21,22,23,24,25] [] ?_)|exact T.z|fail)<;>conv=>whnf)
 all_goals(try dsimp only)
 · rw[show zw (l.getD i Rc.z) s=s.n from if_pos ⟨by assumption,h⟩]
   (show RL _ _ _;refine goR ?_)
   all_goals rfl
 · rw[show zw (l.getD i Rc.z) s=(kg 16 (l.getD i Rc.z).la.num (wid s.f (l.getD i Rc.z).la.k 0) s.n).1 from if_neg (fun e=>h e.2)]
   (show RL _ _ _;refine goR ?_)
   all_goals rfl
 · rw[show zw (l.getD i Rc.z) s=(kg 16 (l.getD i Rc.z).la.num (wid s.f (l.getD i Rc.z).la.k 0) s.n).1 from if_neg (fun e=>h e.1)]
   (show RL _ _ _;refine goR ?_)
   all_goals rfl
end Go.Proofs.YtndpmpnmkpaklaaGreatDoor
