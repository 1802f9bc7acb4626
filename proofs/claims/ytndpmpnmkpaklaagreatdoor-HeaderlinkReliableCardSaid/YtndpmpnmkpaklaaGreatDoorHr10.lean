/-
  Contracts of the functions that the laws reach.
-/
import Derived.Test.YtndpmpnmkpaklaaGreatDoorHr08
import Derived.Test.YtndpmpnmkpaklaaGreatDoorHr09
set_option maxHeartbeats 4000000
set_option linter.all false
namespace Go.Proofs.YtndpmpnmkpaklaaGreatDoor
open Go.RowKit
variable {G:Nat→AV}
theorem LC.put0{w:Nm}{a b:Int}{l:LS}{K:AV→LS→Prop}(h:LH l w fun c _ r=>c=⟨198,[.nils,.nils]⟩∧∀x y,K (.tup []) (yf w x y [a] [b]++r)):LC Tryz.prog G 150 [.ptr w 0,.int .i64 a,.int .i64 b] l K:=by
 obtain⟨l1,c,l2,rfl,rfl,ha⟩:=h.ex
 refine LC.mkN (put0_c w a b) [] (LFs.refl _) ?_
 exact⟨l1,_,l2,rfl,rfl,LFreshN.two ha⟩
theorem LC.more{f:FuncId}{w:Nm}{al:List AV}{A B:List Int}{l:LS}{K:AV→LS→Prop}(hs:∀(p1 p2:Nm) (ws vs:List Int),0<ws.length→ws.length≤100→0<vs.length→vs.length≤100→LSpecN Tryz.prog G f (.ptr w 0::al) (yf w p1 p2 ws vs) 2 (fun q=>(.tup [],yf w (q0 q) (q1 q) (ws++A) (vs++B))))
   (h:LH l w fun c _ r=>∃(p1 p2:Nm) (n m:Nat),c=⟨198,[.vw p1 0 n 1,.vw p2 0 m 1]⟩∧LH r p1 fun c1 _ r1=>LH r1 p2 fun c2 _ r2=>∃ws vs:List Int,c1=⟨3,ws.map iAV⟩∧c2=⟨3,vs.map iAV⟩∧n=ws.length∧m=vs.length ∧
     (0<ws.length∧ws.length≤100∧0<vs.length∧vs.length≤100)∧∀x y,K (.tup []) (yf w x y (ws++A) (vs++B)++r2)):LC Tryz.prog G f (.ptr w 0::al) l K:=by
 obtain⟨l1,c,l2,rfl,p1,p2,n,m,rfl,ha⟩:=h.ex
 obtain⟨l3,c1,l4,e1,hb⟩:=ha.ex
 obtain⟨l5,c2,l6,e2,ws,vs,rfl,rfl,rfl,rfl,⟨k1,k2,k3,k4⟩,hc⟩:=hb.ex
 refine LC.mkN (hs p1 p2 ws vs k1 k2 k3 k4) [] (LFs.refl _) ?_
 exact⟨l1,_,l2,rfl,rfl,⟨l3,_,l4,e1,rfl,⟨l5,_,l6,e2,rfl,LFreshN.two hc⟩⟩⟩
def jM(s:Sm):Int:=if s.f=4∨s.f=5 then s.h.ck else s.ud
def zI(s:Sm):List Int:=if 0<s.cx then[8] else[]
def zJ(s:Sm):List Int:=if 0<s.cx then[qk .or .i64 224 s.cx] else[]
def qO(s:Sm):List Int :=
 if s.f=1 then[5,3] else if s.f=2 then[3,5]++((if s.h.k=2 then[16] else[])++[8]) else if s.f=3 then[8,wid 3 s.h.k 0]++((if s.h.k=2 then[32,16] else[])++[8])
 else if s.f=4 then[8]++(dyW s.h++[8]) else if s.f=5 then[8]++(stW s.h++(dyW s.h++[8])) else[8]
def qP(s:Sm):List Int :=
 if s.f=1 then[s.n,s.ck] else if s.f=2 then[qk .or .i64 4 s.mr,s.n]++((if s.h.k=2 then[s.tm] else[])++[s.ck]) else if s.f=3 then[qk .or .i64 192 s.mr,s.n]++((if s.h.k=2 then[s.tm,s.id] else[])++[s.ck])
 else if s.f=4 then[208]++(dyV s.h s.d++[s.ck]) else if s.f=5 then[209]++(stV s.h++(dyV s.h s.d++[s.ck])) else[210]
def y8(s:Sm):List Int:=zI s++(qO s++(if jM s=0 then[] else[16]))
def encV(s:Sm):List Int:=zJ s++(qP s++(if jM s=0 then[] else[jM s]))
def headB(s:Sm):List UInt8:=qt (xN (y8 s) (encV s))
attribute [irreducible] jM headB
def be(x:List UInt8×Int):AV:=.tup [bv x.1,iAV x.2]
def encP(s:Sm):List UInt8×Int:=if s.ok then(headB s++s.pl,0) else([],1)
theorem enc_c(s:Sm)(hpk:s.ok=true→LP Tryz.prog G 154 [iv (y8 s),iv (encV s)] [] (fun q=>(.tup [.vw q 0 (headB s).length 1,iAV 0],[(q,⟨5,(headB s).map bAV⟩)])))
   (hhl:s.ok=true→0<(headB s).length∧(headB s).length≤1000) (hpl:s.ok=true→s.pl.length≤1500) (hf:s.ok=true→1≤s.f∧s.f≤6) (hd:(dyW s.h).length≤20∧(dyV s.h s.d).length≤20∧(stW s.h).length≤20∧(stV s.h).length≤20)
   (hs:jM s=if s.f=4∨s.f=5 then s.h.ck else s.ud) (hbl:(0<(zI s++qO s).length∧(zI s++qO s).length≤100)∧0<(zJ s++qP s).length∧(zJ s++qP s).length≤100)
   (hew:jM s=0→y8 s=zI s++qO s∧encV s=zJ s++qP s) (hew2:¬jM s=0→y8 s=zI s++qO s++[16]∧encV s=zJ s++qP s++[jM s]):LP Tryz.prog G 114 [s.av] [] (fun _=>(be (encP s),[])):=by
 cases hok:s.ok with
 | false =>
   have e:encP s=([],1):=by unfold encP;rw[hok];rfl
   rw[e]
   refine goW [] Tryz.func114 rfl ?_
   conv=>whnf
   repeat'((first|exact Nm.b 0|(show LC _ _ _ _ _ _;first|refine LC.pure (hok▸fvalid8_c s) ?_|refine goE ?_)|refine T.s ?_|((first|apply goB|apply AB.dec|apply AB.gen)<;>intro h<;>try(exfalso;omega))|refine LQ.mk fun r=>?_|(show SWpL _ _ _ _ _ _ _;first|(refine goD tQ qc 6 [] [0,1,2,3,4,5,6,7] [] (by kernel_rfl) ?_)|(refine goD tQ qc 19 [8,6] [0,1,2,3,4,5,7,8,6,9] [] (by kernel_rfl) ?_)|(refine goD tQ qc 39 [] [0,1,2,3,4,5,6,7,8,9,10,11,12,13] [] (by kernel_rfl) ?_))|exact T.z|fail)<;>conv=>whnf)
   all_goals(try dsimp only)
   exact RL.frz [] (LF.tup ⟨LF.nils rfl rfl,LF.eq rfl,trivial⟩) LB.nil
 | true =>
   have hpk:=hpk hok
   have hhl:=hhl hok
   have hpl:=hpl hok
   have hf:=hf hok
   have e:encP s=(headB s++s.pl,0):=by unfold encP;rw[hok];rfl
   rw[e]
   refine goW [7,37] Tryz.func114 rfl ?_
   conv=>whnf
   repeat'((first|(show LC _ _ _ _ _ _;refine LC.put0 ?_;(repeat first|refine goH ?_|apply LH.here|apply LH.next);refine⟨rfl,fun r r2=>?_⟩;conv=>whnf)|(show LC _ _ _ _ _ _;refine LC.put ?_;(repeat first|refine goH ?_|apply LH.here|apply LH.next);refine⟨_,_,_,_,rfl,?_⟩;(repeat first|refine goH ?_|apply LH.here|apply LH.next);(repeat first|refine goH ?_|apply LH.here|apply LH.next);refine⟨_,_,rfl,rfl,(by first|exact rfl|assumption),(by first|exact rfl|assumption),?_,fun r r2=>?_⟩;(focus(first|omega|(simp;omega)|(simp;done)));conv=>whnf)|(show LC _ _ _ _ _ _;refine LC.more (fun p1 p2 ws vs=>wstatic_c _ p1 p2 ws vs s.h) ?_;(repeat first|refine goH ?_|apply LH.here|apply LH.next);refine⟨_,_,_,_,rfl,?_⟩;(repeat first|refine goH ?_|apply LH.here|apply LH.next);(repeat first|refine goH ?_|apply LH.here|apply LH.next);refine⟨_,_,rfl,rfl,(by first|exact rfl|assumption),(by first|exact rfl|assumption),?_,fun r r2=>?_⟩;(focus(first|omega|(simp;omega)|(simp;done)));conv=>whnf)|(show LC _ _ _ _ _ _;refine LC.more (fun p1 p2 ws vs=>wdyn_c _ p1 p2 ws vs s.h s.d) ?_;(repeat first|refine goH ?_|apply LH.here|apply LH.next);refine⟨_,_,_,_,rfl,?_⟩;(repeat first|refine goH ?_|apply LH.here|apply LH.next);(repeat first|refine goH ?_|apply LH.here|apply LH.next);refine⟨_,_,rfl,rfl,(by first|exact rfl|assumption),(by first|exact rfl|assumption),?_,fun r r2=>?_⟩;(focus(first|omega|(simp;omega)|(simp;done)));conv=>whnf)|(show LEra _ _ _;conv=>whnf)|exact Nm.b 0|(show LC _ _ _ _ _ _;first|refine LC.pure (hok▸fvalid8_c s) ?_|refine LC.pure (wu _ _) ?_|refine LC.mk' (hpk) [_,_] ⟨LF.rowF InL.here ?_,LF.rowF (InL.next InL.here) ?_,trivial⟩ ?_|refine goE ?_)|refine T.s ?_|((first|apply goB|apply AB.dec|apply AB.gen)<;>intro h<;>try(exfalso;omega))|refine LQ.mk fun r=>?_|(show SWpL _ _ _ _ _ _ _;first|(apply goD tQ qc 6 [] [0,1,2,3,4,5,6,7] [_] (by kernel_rfl))|(refine goD tQ qc 6 [] [0,1,2,3,4,5,6,7] [] (by kernel_rfl) ?_)|(apply goD tQ qc 19 [8,6] [0,1,2,3,4,5,7,8,6,9] [_] (by kernel_rfl))|(refine goD tQ qc 19 [8,6] [0,1,2,3,4,5,7,8,6,9] [] (by kernel_rfl) ?_)|(apply goD tQ qc 39 [] [0,1,2,3,4,5,6,7,8,9,10,11,12,13] [_] (by kernel_rfl))|(refine goD tQ qc 39 [] [0,1,2,3,4,5,6,7,8,9,10,11,12,13] [] (by kernel_rfl) ?_))|(show CutL _ _ _ _ _ _ _ _;first|(refine goK tQ [7,37] 7 (S:=Nm×Nm×Nm×Nm×Nat×Nat) [] (fun(p,w,x,y,n,m)=>⟨[(5,.int .i64 (jM s)),(1,.ptr p 0),(4,.ptr w 0)],[(p,⟨131,s.cs⟩),(w,⟨198,[.vw x 0 n 1,.vw y 0 m 1]⟩),(x,⟨3,(zI s++qO s).map iAV⟩),(y,⟨3,(zJ s++qP s).map iAV⟩)],n=(zI s++qO s).length∧m=(zJ s++qP s).length,0⟩) ?_ ?_;(rintro⟨p,w,x,y,n,m⟩ ⟨hk,hok⟩);rotate_left)|(refine goK tQ [7,37] 37 (S:=Nm×Nm×Nm×Nm×Nat×Nat) [] (fun(p,w,x,y,n,m)=>⟨[(1,.ptr p 0),(4,.ptr w 0)],[(p,⟨131,s.cs⟩),(w,⟨198,[.vw x 0 n 1,.vw y 0 m 1]⟩),(x,⟨3,(y8 s).map iAV⟩),(y,⟨3,(encV s).map iAV⟩)],n=(y8 s).length∧m=(encV s).length,0⟩) ?_ ?_;(rintro⟨p,w,x,y,n,m⟩ ⟨hk,hok⟩);rotate_left)|refine CutL.go tQ [7,37] ?_)|(show AtC _ _ _ _ _ _ _ _;first|(apply AtC.mk' (id:=7) (S:=Nm×Nm×Nm×Nm×Nat×Nat) ((_,_,_,_,_,_));(repeat' first|exact trivial|(refine And.intro ?_ ?_)|exact LB.nil|(with_reducible exact LB.refl)|(apply LB.cons;(repeat first|refine goH ?_|apply LH.here|apply LH.next);refine And.intro ?_ ?_;(focus(try(first|(with_reducible rfl)|(refine congrArg (Pl.mk _) ?_;(first|(with_reducible rfl)|(simp[zI,zJ,qO,qP,iAV, *];done)|(rw[(hew (by assumption)).1];done)|(rw[(hew (by assumption)).2];done)|(rw[(hew2 (by assumption)).1];done)|(rw[(hew2 (by assumption)).2];done)|rfl))|rfl|(with_reducible refine congrArg (Pl.mk _) ?_)))))|assumption|((conv=>lhs;whnf);refine congrArg (AV.int .i64) ?_;simp[*];done)|(show(_:Nat)=_;simp[zI,zJ,qO,qP, *];done)|(rw[(hew (by assumption)).1];assumption)|(rw[(hew (by assumption)).2];assumption)|(rw[(hew2 (by assumption)).1];simp;done)|(rw[(hew2 (by assumption)).2];simp;done)|(first|(focus(apply Eq.trans;(conv=>lhs;whnf);(conv=>rhs;whnf);done))|rfl|((conv=>lhs;whnf);first|rfl|(refine congrArg (AV.int _) ?_;(exact T.num))|(refine congrArg AV.bool ?_;(exact T.num))|(refine vwc ?_;first|(exact T.num)|(first|(with_reducible rfl)|(simp[zI,zJ,qO,qP,iAV, *];done)|(rw[(hew (by assumption)).1];done)|(rw[(hew (by assumption)).2];done)|(rw[(hew2 (by assumption)).1];done)|(rw[(hew2 (by assumption)).2];done)|rfl))|(refine q9 ?_ ?_<;>first|(exact T.num)|(first|(with_reducible rfl)|(simp[zI,zJ,qO,qP,iAV, *];done)|(rw[(hew (by assumption)).1];done)|(rw[(hew (by assumption)).2];done)|(rw[(hew2 (by assumption)).1];done)|(rw[(hew2 (by assumption)).2];done)|rfl))|(first|(with_reducible rfl)|(simp[zI,zJ,qO,qP,iAV, *];done)|(rw[(hew (by assumption)).1];done)|(rw[(hew (by assumption)).2];done)|(rw[(hew2 (by assumption)).1];done)|(rw[(hew2 (by assumption)).2];done)|rfl)))|(exact T.num)|(dsimp only;(exact T.num))|(first|(with_reducible rfl)|(simp[zI,zJ,qO,qP,iAV, *];done)|(rw[(hew (by assumption)).1];done)|(rw[(hew (by assumption)).2];done)|(rw[(hew2 (by assumption)).1];done)|(rw[(hew2 (by assumption)).2];done)|rfl));done)|(apply AtC.mk' (id:=37) (S:=Nm×Nm×Nm×Nm×Nat×Nat) ((_,_,_,_,_,_));(repeat' first|exact trivial|(refine And.intro ?_ ?_)|exact LB.nil|(with_reducible exact LB.refl)|(apply LB.cons;(repeat first|refine goH ?_|apply LH.here|apply LH.next);refine And.intro ?_ ?_;(focus(try(first|(with_reducible rfl)|(refine congrArg (Pl.mk _) ?_;(first|(with_reducible rfl)|(simp[zI,zJ,qO,qP,iAV, *];done)|(rw[(hew (by assumption)).1];done)|(rw[(hew (by assumption)).2];done)|(rw[(hew2 (by assumption)).1];done)|(rw[(hew2 (by assumption)).2];done)|rfl))|rfl|(with_reducible refine congrArg (Pl.mk _) ?_)))))|assumption|((conv=>lhs;whnf);refine congrArg (AV.int .i64) ?_;simp[*];done)|(show(_:Nat)=_;simp[zI,zJ,qO,qP, *];done)|(rw[(hew (by assumption)).1];assumption)|(rw[(hew (by assumption)).2];assumption)|(rw[(hew2 (by assumption)).1];simp;done)|(rw[(hew2 (by assumption)).2];simp;done)|(first|(focus(apply Eq.trans;(conv=>lhs;whnf);(conv=>rhs;whnf);done))|rfl|((conv=>lhs;whnf);first|rfl|(refine congrArg (AV.int _) ?_;(exact T.num))|(refine congrArg AV.bool ?_;(exact T.num))|(refine vwc ?_;first|(exact T.num)|(first|(with_reducible rfl)|(simp[zI,zJ,qO,qP,iAV, *];done)|(rw[(hew (by assumption)).1];done)|(rw[(hew (by assumption)).2];done)|(rw[(hew2 (by assumption)).1];done)|(rw[(hew2 (by assumption)).2];done)|rfl))|(refine q9 ?_ ?_<;>first|(exact T.num)|(first|(with_reducible rfl)|(simp[zI,zJ,qO,qP,iAV, *];done)|(rw[(hew (by assumption)).1];done)|(rw[(hew (by assumption)).2];done)|(rw[(hew2 (by assumption)).1];done)|(rw[(hew2 (by assumption)).2];done)|rfl))|(first|(with_reducible rfl)|(simp[zI,zJ,qO,qP,iAV, *];done)|(rw[(hew (by assumption)).1];done)|(rw[(hew (by assumption)).2];done)|(rw[(hew2 (by assumption)).1];done)|(rw[(hew2 (by assumption)).2];done)|rfl)))|(exact T.num)|(dsimp only;(exact T.num))|(first|(with_reducible rfl)|(simp[zI,zJ,qO,qP,iAV, *];done)|(rw[(hew (by assumption)).1];done)|(rw[(hew (by assumption)).2];done)|(rw[(hew2 (by assumption)).1];done)|(rw[(hew2 (by assumption)).2];done)|rfl));done)|(apply AtC.mk' (id:=7) (S:=Nm×Nm×Nm×Nm×Nat×Nat) ((_,_,_,_,_,_));(repeat' first|exact trivial|(refine And.intro ?_ ?_)|exact LB.nil|(with_reducible exact LB.refl)|(apply LB.cons;(repeat first|refine goH ?_|apply LH.here|apply LH.next);refine And.intro ?_ ?_;(focus(try(first|(with_reducible rfl)|(refine congrArg (Pl.mk _) ?_;(first|(with_reducible rfl)|(simp[zI,zJ,qO,qP,iAV, *];done)|(rw[(hew (by assumption)).1];done)|(rw[(hew (by assumption)).2];done)|(rw[(hew2 (by assumption)).1];done)|(rw[(hew2 (by assumption)).2];done)|rfl))|rfl|(with_reducible refine congrArg (Pl.mk _) ?_)))))|assumption|((conv=>lhs;whnf);refine congrArg (AV.int .i64) ?_;simp[*];done)|(show(_:Nat)=_;simp[zI,zJ,qO,qP, *];done)|(rw[(hew (by assumption)).1];assumption)|(rw[(hew (by assumption)).2];assumption)|(rw[(hew2 (by assumption)).1];simp;done)|(rw[(hew2 (by assumption)).2];simp;done)|(first|(focus(apply Eq.trans;(conv=>lhs;whnf);(conv=>rhs;whnf);done))|rfl|((conv=>lhs;whnf);first|rfl|(refine congrArg (AV.int _) ?_;(exact T.num))|(refine congrArg AV.bool ?_;(exact T.num))|(refine vwc ?_;first|(exact T.num)|(first|(with_reducible rfl)|(simp[zI,zJ,qO,qP,iAV, *];done)|(rw[(hew (by assumption)).1];done)|(rw[(hew (by assumption)).2];done)|(rw[(hew2 (by assumption)).1];done)|(rw[(hew2 (by assumption)).2];done)|rfl))|(refine q9 ?_ ?_<;>first|(exact T.num)|(first|(with_reducible rfl)|(simp[zI,zJ,qO,qP,iAV, *];done)|(rw[(hew (by assumption)).1];done)|(rw[(hew (by assumption)).2];done)|(rw[(hew2 (by assumption)).1];done)|(rw[(hew2 (by assumption)).2];done)|rfl))|(first|(with_reducible rfl)|(simp[zI,zJ,qO,qP,iAV, *];done)|(rw[(hew (by assumption)).1];done)|(rw[(hew (by assumption)).2];done)|(rw[(hew2 (by assumption)).1];done)|(rw[(hew2 (by assumption)).2];done)|rfl)))|(exact T.num)|(dsimp only;(exact T.num))|(first|(with_reducible rfl)|(simp[zI,zJ,qO,qP,iAV, *];done)|(rw[(hew (by assumption)).1];done)|(rw[(hew (by assumption)).2];done)|(rw[(hew2 (by assumption)).1];done)|(rw[(hew2 (by assumption)).2];done)|rfl)))|(apply AtC.mk' (id:=37) (S:=Nm×Nm×Nm×Nm×Nat×Nat) ((_,_,_,_,_,_));(repeat' first|exact trivial|(refine And.intro ?_ ?_)|exact LB.nil|(with_reducible exact LB.refl)|(apply LB.cons;(repeat first|refine goH ?_|apply LH.here|apply LH.next);refine And.intro ?_ ?_;(focus(try(first|(with_reducible rfl)|(refine congrArg (Pl.mk _) ?_;(first|(with_reducible rfl)|(simp[zI,zJ,qO,qP,iAV, *];done)|(rw[(hew (by assumption)).1];done)|(rw[(hew (by assumption)).2];done)|(rw[(hew2 (by assumption)).1];done)|(rw[(hew2 (by assumption)).2];done)|rfl))|rfl|(with_reducible refine congrArg (Pl.mk _) ?_)))))|assumption|((conv=>lhs;whnf);refine congrArg (AV.int .i64) ?_;simp[*];done)|(show(_:Nat)=_;simp[zI,zJ,qO,qP, *];done)|(rw[(hew (by assumption)).1];assumption)|(rw[(hew (by assumption)).2];assumption)|(rw[(hew2 (by assumption)).1];simp;done)|(rw[(hew2 (by assumption)).2];simp;done)|(first|(focus(apply Eq.trans;(conv=>lhs;whnf);(conv=>rhs;whnf);done))|rfl|((conv=>lhs;whnf);first|rfl|(refine congrArg (AV.int _) ?_;(exact T.num))|(refine congrArg AV.bool ?_;(exact T.num))|(refine vwc ?_;first|(exact T.num)|(first|(with_reducible rfl)|(simp[zI,zJ,qO,qP,iAV, *];done)|(rw[(hew (by assumption)).1];done)|(rw[(hew (by assumption)).2];done)|(rw[(hew2 (by assumption)).1];done)|(rw[(hew2 (by assumption)).2];done)|rfl))|(refine q9 ?_ ?_<;>first|(exact T.num)|(first|(with_reducible rfl)|(simp[zI,zJ,qO,qP,iAV, *];done)|(rw[(hew (by assumption)).1];done)|(rw[(hew (by assumption)).2];done)|(rw[(hew2 (by assumption)).1];done)|(rw[(hew2 (by assumption)).2];done)|rfl))|(first|(with_reducible rfl)|(simp[zI,zJ,qO,qP,iAV, *];done)|(rw[(hew (by assumption)).1];done)|(rw[(hew (by assumption)).2];done)|(rw[(hew2 (by assumption)).1];done)|(rw[(hew2 (by assumption)).2];done)|rfl)))|(exact T.num)|(dsimp only;(exact T.num))|(first|(with_reducible rfl)|(simp[zI,zJ,qO,qP,iAV, *];done)|(rw[(hew (by assumption)).1];done)|(rw[(hew (by assumption)).2];done)|(rw[(hew2 (by assumption)).1];done)|(rw[(hew2 (by assumption)).2];done)|rfl))))|exact T.z|fail)<;>try(show(_:Prop);conv=>whnf))
   all_goals(try dsimp only)
   all_goals try assumption
   all_goals
     refine RL.frz [r] ?_ ?_
     · show LF _ _ _ (.tup [.sl (headB s++s.pl).length ((headB s++s.pl).map bAV),iAV 0])
       apply LF.tup
       refine And.intro (LF.rowF InL.here ?_) (And.intro (LF.eq rfl) trivial)
       (repeat first|refine goH ?_|apply LH.here|apply LH.next)
       exact⟨by simp,by simp⟩
     · show LH _ _ _
       (repeat first|refine goH ?_|apply LH.here|apply LH.next)
       exact LB.nil
open Go.RowKit
variable {G:Nat→AV}
theorem xp(l rest:List Bool)(h:l.length=8):qt (l++rest)=xz l::qt rest:=by
 apply List.ext_getElem
 · simp[qt,h]
 · intro j h1 h2
   cases j with
   | zero=>simp[qt,←h]
   | succ j =>
     simp only[qt,List.getElem_map,List.getElem_range,List.getElem_cons_succ]
     rw[show 8*(j+1)=l.length+8*j by omega,List.drop_length_add_append]
theorem bytesB_nil:qt []=[]:=rfl
theorem bitsW8_mod(v:Int)(hv:0≤v):qz 8 v=qz 8 (v%256):=by
 unfold qz
 apply List.map_congr_left
 intro i hi
 have hi:i<8:=by simpa using hi
 have key:v / 1%2=v%256 / 1%2∧v / 2%2=v%256 / 2%2∧v / 4%2=v%256 / 4%2∧v / 8%2=v%256 / 8%2∧v / 16%2=v%256 / 16%2∧v / 32%2=v%256 / 32%2∧v / 64%2=v%256 / 64%2∧v / 128%2=v%256 / 128%2:=by omega
 obtain⟨k0,k1,k2,k3,k4,k5,k6,k7⟩:=key
 have e:v / 2^(8-1-i)%2=v%256 / 2^(8-1-i)%2:=by
   rcases i with _|_|_|_|_|_|_|_|i
   · exact k7
   · exact k6
   · exact k5
   · exact k4
   · exact k3
   · exact k2
   · exact k1
   · exact k0
   · omega
 rw[e]
theorem byte8(v:Int)(hv:0≤v):xz (qz 8 v)=b8 v:=by
 rw[bitsW8_mod v hv]
 have key:∀m:Nat,m<256→xz (qz 8 (m:Int))=b8 (m:Int):=by decide +kernel
 have h1:=key (v%256).toNat (by omega)
 rw[show(((v%256).toNat:Nat):Int)=v%256 by omega] at h1
 rw[h1]
 unfold b8
 congr 2
 omega
theorem vF(a b:Nat)(v:Int)(hv:0≤v):qz (a+b) v=qz a (v / 2^b)++qz b v:=by
 apply List.ext_getElem
 · simp
 · intro i h1 h2
   rw[List.getElem_append]
   have hi:i<a+b:=by simpa using h1
   simp only[qz,List.getElem_map,List.getElem_range,List.length_map,List.length_range]
   split
   · rename_i h
     rw[Int.ediv_ediv_of_nonneg (Int.pow_nonneg (by decide)),←Int.pow_add,show a+b-1-i=b+(a-1-i) by omega]
   · rename_i h
     rw[show a+b-1-i=b-1-(i-a) by omega]
theorem byte53(a b:Int)(ha:0≤a∧a<32)(hb:0≤b∧b<8):xz (qz 5 a++qz 3 b)=b8 (8*a+b):=by
 have key:∀m:Nat,m<32→∀n:Nat,n<8→xz (qz 5 (m:Int)++qz 3 (n:Int))=b8 (8*(m:Int)+(n:Int)):=by decide +kernel
 have:=key a.toNat (by omega) b.toNat (by omega)
 rwa [show((a.toNat:Nat):Int)=a by omega,show((b.toNat:Nat):Int)=b by omega] at this
theorem byte35(a b:Int)(ha:0≤a∧a<8)(hb:0≤b∧b<32):xz (qz 3 a++qz 5 b)=b8 (32*a+b):=by
 have key:∀m:Nat,m<8→∀n:Nat,n<32→xz (qz 3 (m:Int)++qz 5 (n:Int))=b8 (32*(m:Int)+(n:Int)):=by decide +kernel
 have:=key a.toNat (by omega) b.toNat (by omega)
 rwa [show((a.toNat:Nat):Int)=a by omega,show((b.toNat:Nat):Int)=b by omega] at this
theorem byteF(a b c d:Int)(ha:a=0∨a=1)(hb:b=0∨b=1)(hc:c=0∨c=1)(hd:d=0∨d=1):xz (qz 1 a++(qz 1 b++(qz 1 c++(qz 1 d++qz 4 0))))=b8 (128*a+64*b+32*c+16*d):=by
 rcases ha with rfl|rfl<;>rcases hb with rfl|rfl<;>rcases hc with rfl|rfl<;>rcases hd with rfl|rfl<;>decide +kernel
theorem bytes16(v:Int)(hv:0≤v)(rest:List Bool):qt (qz 16 v++rest)=qn v 2++qt rest:=by
 rw[vF 8 8 v hv,List.append_assoc,xp _ _ (by simp),xp _ _ (by simp),byte8 _ (Int.ediv_nonneg hv (by decide)),byte8 _ hv]
 simp only[qn,List.cons_append,List.nil_append]
 rw[Int.fdiv_eq_ediv_of_nonneg _ (by decide),Int.fdiv_eq_ediv_of_nonneg _ (by decide)]
 simp
theorem bytes32(v:Int)(hv:0≤v)(rest:List Bool):qt (qz 32 v++rest)=qn v 4++qt rest:=by
 rw[vF 16 16 v hv,List.append_assoc,bytes16 _ (Int.ediv_nonneg hv (by decide)),bytes16 _ hv]
 simp only[qn,List.cons_append,List.nil_append]
 rw[Int.fdiv_eq_ediv_of_nonneg _ (by decide),Int.fdiv_eq_ediv_of_nonneg _ (by decide),Int.fdiv_eq_ediv_of_nonneg _ (by decide),Int.fdiv_eq_ediv_of_nonneg _ (by decide),Int.fdiv_eq_ediv_of_nonneg _ (by decide),Int.fdiv_eq_ediv_of_nonneg _ (by decide),Int.ediv_ediv_of_nonneg (by decide),Int.ediv_ediv_of_nonneg (by decide)]
 rfl
theorem bytes8(v:Int)(hv:0≤v)(rest:List Bool):qt (qz 8 v++rest)=b8 v::qt rest:=by
 rw[xp _ _ (by simp),byte8 _ hv]
open Go.RowKit
variable {G:Nat→AV}
structure Seg(ws vs:List Int)(bs:List UInt8):Prop where
 len:ws.length=vs.length
 fit:∀i,i<ws.length→(0≤ws.getD i 0∧ws.getD i 0≤32)∧0≤vs.getD i 0∧vs.getD i 0<2^(ws.getD i 0).toNat
 sum:zm ws=8*bs.length
 eq:∀rest,qt (xN ws vs++rest)=bs++qt rest
theorem Seg.nil:Seg [] [] []:=⟨rfl,fun i hi=>by simp at hi,rfl,fun _=>rfl⟩
theorem Seg.app{ws vs ws' vs':List Int}{bs bs':List UInt8}(h:Seg ws vs bs)(k:Seg ws' vs' bs'):Seg (ws++ws') (vs++vs') (bs++bs'):=by
 refine⟨by simp[h.len,k.len],fun i hi=>?_,by have:=h.sum;have:=k.sum;simp[zm] at *;omega,fun rest=>?_⟩
 · by_cases hc:i<ws.length
   · have:=h.fit i hc
     simp only[List.getD_eq_getElem?_getD,List.getElem?_append_left hc,List.getElem?_append_left (show i<vs.length by rw[←h.len];exact hc)] at *
     exact this
   · have:=k.fit (i-ws.length) (by simp at hi;omega)
     simp only[List.getD_eq_getElem?_getD] at *
     rw[List.getElem?_append_right (by omega),List.getElem?_append_right (by rw[←h.len];omega),←h.len]
     exact this
 · rw[vf _ _ _ _ h.len,List.append_assoc,h.eq,k.eq,List.append_assoc]
theorem kJ(v:Int)(h:0≤v∧v<256):Seg [8] [v] [b8 v]:=by
 refine⟨rfl,fun i hi=>?_,rfl,fun rest=>?_⟩
 · obtain rfl:i=0:=by simpa using hi
   exact⟨by decide,h⟩
 · show qt ((qz 8 v++[])++rest)=_
   rw[List.append_nil,bytes8 v h.1];rfl
theorem wM(v:Int)(h:0≤v∧v<65536):Seg [16] [v] (qn v 2):=by
 refine⟨rfl,fun i hi=>?_,rfl,fun rest=>?_⟩
 · obtain rfl:i=0:=by simpa using hi
   exact⟨by decide,h⟩
 · show qt ((qz 16 v++[])++rest)=_
   rw[List.append_nil,bytes16 v h.1]
theorem seg32(v:Int)(h:0≤v∧v<4294967296):Seg [32] [v] (qn v 4):=by
 refine⟨rfl,fun i hi=>?_,rfl,fun rest=>?_⟩
 · obtain rfl:i=0:=by simpa using hi
   exact⟨by decide,h⟩
 · show qt ((qz 32 v++[])++rest)=_
   rw[List.append_nil,bytes32 v h.1]
theorem seg53(a b:Int)(ha:0≤a∧a<32)(hb:0≤b∧b<8):Seg [5,3] [a,b] [b8 (8*a+b)]:=by
 refine⟨rfl,fun i hi=>?_,rfl,fun rest=>?_⟩
 · have hi:i<2:=by simpa using hi
   rcases i with _|_|i
   · exact⟨by decide,ha⟩
   · exact⟨by decide,hb⟩
   · omega
 · show qt ((qz 5 a++(qz 3 b++[]))++rest)=_
   rw[List.append_nil,xp _ _ (by simp),byte53 a b ha hb];rfl
theorem seg35(a b:Int)(ha:0≤a∧a<8)(hb:0≤b∧b<32):Seg [3,5] [a,b] [b8 (32*a+b)]:=by
 refine⟨rfl,fun i hi=>?_,rfl,fun rest=>?_⟩
 · have hi:i<2:=by simpa using hi
   rcases i with _|_|i
   · exact⟨by decide,ha⟩
   · exact⟨by decide,hb⟩
   · omega
 · show qt ((qz 3 a++(qz 5 b++[]))++rest)=_
   rw[List.append_nil,xp _ _ (by simp),byte35 a b ha hb];rfl
theorem segF(a b c d:Int)(ha:a=0∨a=1)(hb:b=0∨b=1)(hc:c=0∨c=1)(hd:d=0∨d=1):Seg [1,1,1,1,4] [a,b,c,d,0] [b8 (128*a+64*b+32*c+16*d)]:=by
 refine⟨rfl,fun i hi=>?_,rfl,fun rest=>?_⟩
 · have hi:i<5:=by simpa using hi
   rcases i with _|_|_|_|_|i
   · exact⟨by decide,by show 0≤a∧a<2;omega⟩
   · exact⟨by decide,by show 0≤b∧b<2;omega⟩
   · exact⟨by decide,by show 0≤c∧c<2;omega⟩
   · exact⟨by decide,by show 0≤d∧d<2;omega⟩
   · exact⟨by decide,by show(0:Int)≤0∧(0:Int)<2^4;decide⟩
   · omega
 · show qt ((qz 1 a++(qz 1 b++(qz 1 c++(qz 1 d++(qz 4 0++[])))))++rest)=_
   rw[List.append_nil,xp _ _ (by simp),byteF a b c d ha hb hc hd];rfl
theorem seg_if{p:Prop}[Decidable p]{ws vs ws' vs':List Int}{bs bs':List UInt8}(h:p→Seg ws vs bs)(k:¬p→Seg ws' vs' bs'):Seg (if p then ws else ws') (if p then vs else vs') (if p then bs else bs'):=by
 by_cases hp:p
 · simp only[if_pos hp];exact h hp
 · simp only[if_neg hp];exact k hp
theorem or224(c:Int)(h:0≤c∧c<16):qk .or .i64 224 c=224+c:=by
 have key:∀m:Nat,m<16→qk .or .i64 224 (m:Int)=224+(m:Int):=by decide +kernel
 have:=key c.toNat (by omega)
 rwa [show((c.toNat:Nat):Int)=c by omega] at this
theorem or4(c:Int)(h:c=0∨c=1):qk .or .i64 4 c=4+c:=by rcases h with rfl|rfl<;>decide +kernel
theorem or192(c:Int)(h:c=0∨c=1):qk .or .i64 192 c=192+c:=by rcases h with rfl|rfl<;>decide +kernel
def vo(h:Hd)(d:Dy):List UInt8:=[b8 h.tos]++([b8 h.ttl]++([b8 (128*h.fx+64*xX h.ck+32*d.fo+16*h.mr)]++(if h.k=2 then[b8 h.ty]++(qn h.sq 2++(qn h.id 2++(qn h.tm 4++qn d.st 2))) else qn h.id 2)))
def yh(h:Hd):List UInt8:=[b8 h.k]++(qn h.fr 4++(qn h.to 4++(qn h.fp 2++(qn h.tp 2++(if h.k=2 then qn h.sr 4 else[])))))
theorem in_iff(n m:Int):inR n m=true↔0≤n∧n≤m:=by simp[inR]
theorem Hd.of(h:Hd)(k:h.ok=true):(h.k=1∨h.k=2)∧(0≤h.tos∧h.tos≤255)∧(0≤h.ttl∧h.ttl≤255)∧(0≤h.id∧h.id≤65535)∧(0≤h.fp∧h.fp≤65535)∧(0≤h.tp∧h.tp≤65535)∧(0≤h.ck∧h.ck≤65535)∧(0≤h.fx∧h.fx≤1)∧(0≤h.fr∧h.fr≤4294967295)∧(0≤h.to∧h.to≤4294967295) ∧
   (0≤h.mr∧h.mr≤1)∧(0≤h.ty∧h.ty≤127)∧(0≤h.sq∧h.sq≤65535)∧(0≤h.tm∧h.tm≤4294967295)∧(0≤h.sr∧h.sr≤4294967295):=by
 unfold Hd.ok at k
 split at k
 · rename_i h1
   simp only[comR,udpR,Bool.and_eq_true,in_iff,decide_eq_true_eq] at k
   omega
 · split at k
   · rename_i h1
     simp only[comR,rtpR,Bool.and_eq_true,in_iff] at k
     omega
   · cases k
theorem Dy.of(d:Dy)(k:d.ok=true):(0≤d.st∧d.st≤65535)∧(d.fo=0∨d.fo=1):=by
 simp only[Dy.ok,Bool.and_eq_true,in_iff,decide_eq_true_eq] at k
 exact k
theorem some01(c:Int)(h:0≤c):xX c=0∨xX c=1:=by unfold xX;split<;>omega
theorem seg_dyn(h:Hd)(d:Dy)(hk:h.ok=true)(dk:d.ok=true):Seg (dyW h) (dyV h d) (vo h d):=by
 have a:=h.of hk
 have b:=d.of dk
 have c:=some01 h.ck (by omega)
 unfold dyW dyV vo
 refine Seg.app (ws:=[8]) (vs:=[h.tos]) (kJ _ (by omega)) ?_
 refine Seg.app (ws:=[8]) (vs:=[h.ttl]) (kJ _ (by omega)) ?_
 refine Seg.app (ws:=[1,1,1,1,4]) (vs:=[h.fx,xX h.ck,d.fo,h.mr,0]) (segF _ _ _ _ (by omega) c b.2 (by omega)) ?_
 refine seg_if (fun _=>?_) fun _=>wM _ (by omega)
 exact Seg.app (ws:=[8]) (vs:=[h.ty]) (kJ _ (by omega)) (Seg.app (ws:=[16]) (vs:=[h.sq]) (wM _ (by omega)) (Seg.app (ws:=[16]) (vs:=[h.id]) (wM _ (by omega)) (Seg.app (ws:=[32]) (vs:=[h.tm]) (seg32 _ (by omega)) (wM _ (by omega)))))
theorem seg_stat(h:Hd)(hk:h.ok=true):Seg (stW h) (stV h) (yh h):=by
 have a:=h.of hk
 unfold stW stV yh
 refine Seg.app (ws:=[8]) (vs:=[h.k]) (kJ _ (by omega)) (Seg.app (ws:=[32]) (vs:=[h.fr]) (seg32 _ (by omega)) (Seg.app (ws:=[32]) (vs:=[h.to]) (seg32 _ (by omega)) (Seg.app (ws:=[16]) (vs:=[h.fp]) (wM _ (by omega)) (Seg.app (ws:=[16]) (vs:=[h.tp]) (wM _ (by omega)) ?_))))
 exact seg_if (fun _=>seg32 _ (by omega)) fun _=>Seg.nil
def ql(s:Sm):List UInt8 :=
 if s.f=1 then[b8 (8*s.n+s.ck)] else if s.f=2 then[b8 (32*(4+s.mr)+s.n)]++((if s.h.k=2 then qn s.tm 2 else[])++[b8 s.ck])
 else if s.f=3 then(if s.h.k=2 then[b8 (192+s.mr)]++[b8 s.n] else[b8 (192+s.mr)]++qn s.n 2)++((if s.h.k=2 then qn s.tm 4++qn s.id 2 else[])++[b8 s.ck])
 else if s.f=4 then[b8 208]++(vo s.h s.d++[b8 s.ck]) else if s.f=5 then[b8 209]++(yh s.h++(vo s.h s.d++[b8 s.ck])) else[b8 210]
def vG(s:Sm):List UInt8:=if 0<s.cx then[b8 (224+s.cx)] else[]
def hdL(s:Sm):List UInt8:=vG s++(ql s++(if jM s=0 then[] else qn (jM s) 2))
theorem Sm.of(s:Sm)(h:s.ok=true):(0≤s.cx∧s.cx<16∧s.pl.length≤1500)∧qW (cbR s.f) s.ck=true ∧
   ((s.f=1∨s.f=2∨s.f=3)∧zL s=true∧(s.h.k=1∨s.h.k=2)∧hzR s.h s.h.k=true∧dzR s.d=true ∨
     (s.f=4∨s.f=5)∧ji s=true∧jL s=true ∨
     s.f=6∧ji s=true∧(s.cx=0∧s.ck=0)∧hzR s.h 0=true∧dzR s.d=true):=by
 unfold Sm.ok topR at h
 simp only[Bool.and_eq_true,decide_eq_true_eq] at h
 obtain⟨⟨h1,h2⟩,h3⟩:=h
 refine⟨h1,h2,?_⟩
 split at h3
 · rename_i hf
   simp only[Bool.and_eq_true,decide_eq_true_eq] at h3
   exact .inl ⟨hf,h3.1,h3.2.1,h3.2.2.1,h3.2.2.2⟩
 · split at h3
   · rename_i hf
     simp only[Bool.and_eq_true] at h3
     exact .inr (.inl ⟨hf,h3.1,h3.2⟩)
   · split at h3
     · rename_i hf
       simp only[Bool.and_eq_true,decide_eq_true_eq] at h3
       exact .inr (.inr ⟨hf,h3.1,h3.2.1,h3.2.2.1,h3.2.2.2⟩)
     · cases h3
theorem fit_iff(n:Nat)(v:Int):qW (n:Int) v=true↔0≤v∧v<2^n:=by
 unfold qW
 rw[Int.toNat_natCast]
 simp
theorem seg_body(s:Sm)(h:s.ok=true):Seg (qO s) (qP s) (ql s):=by
 obtain⟨-,hck,hc⟩:=s.of h
 have g:=fun n v=>(fit_iff n v).1
 rcases hc with ⟨hf,hl,hk,-,-⟩|⟨hf,hn,hw⟩|⟨hf,-,-⟩
 · simp only[zL,Bool.and_eq_true] at hl
   obtain⟨l0,l1,l2,l3,l4⟩:=hl
   rcases hf with hf|hf|hf
   · rw[hf] at l0 hck
     have a:=g 4 _ l0
     have b:=g 3 _ hck
     simp only[qO,qP,ql,if_pos hf]
     exact seg53 _ _ (by omega) (by omega)
   · rw[hf] at l0 l1 l2 hck
     have b:=g 7 _ hck
     have h1:¬s.f=1:=by omega
     simp only[qO,qP,ql,if_neg h1,if_pos hf]
     rcases hk with hk|hk
     · rw[hk] at l0 l1 l2
       have a:=g 5 _ l0
       have c:=g 0 _ l2
       have hk2:¬s.h.k=2:=by omega
       simp only[if_neg hk2,or4 s.mr (by omega)]
       exact(seg35 _ _ (by omega) (by omega)).app (Seg.nil.app (kJ _ (by omega)))
     · rw[hk] at l0 l1 l2
       have a:=g 5 _ l0
       have c:=g 1 _ l2
       have d:=g 16 _ l1
       simp only[if_pos hk,or4 s.mr (by omega)]
       exact(seg35 _ _ (by omega) (by omega)).app ((wM _ (by omega)).app (kJ _ (by omega)))
   · rw[hf] at l0 l1 l2 l3 hck
     have b:=g 8 _ hck
     have h1:¬s.f=1:=by omega
     have h2:¬s.f=2:=by omega
     simp only[qO,qP,ql,if_neg h1,if_neg h2,if_pos hf]
     rcases hk with hk|hk
     · rw[hk] at l0 l1 l2 l3
       have a:=g 16 _ l0
       have c:=g 0 _ l2
       have hk2:¬s.h.k=2:=by omega
       simp only[if_neg hk2,or192 s.mr (by omega),show wid 3 s.h.k 0=16 by rw[hk];rfl]
       exact Seg.app (ws:=[8,16]) (vs:=[192+s.mr,s.n]) (Seg.app (ws:=[8]) (vs:=[192+s.mr]) (kJ _ (by omega)) (wM _ (by omega))) (Seg.nil.app (kJ _ (by omega)))
     · rw[hk] at l0 l1 l2 l3
       have a:=g 8 _ l0
       have c:=g 1 _ l2
       have d:=g 32 _ l1
       have e:=g 16 _ l3
       simp only[if_pos hk,or192 s.mr (by omega),show wid 3 s.h.k 0=8 by rw[hk];rfl]
       exact Seg.app (ws:=[8,8]) (vs:=[192+s.mr,s.n]) (Seg.app (ws:=[8]) (vs:=[192+s.mr]) (kJ _ (by omega)) (kJ _ (by omega))) (Seg.app (ws:=[32,16]) (vs:=[s.tm,s.id]) (Seg.app (ws:=[32]) (vs:=[s.tm]) (seg32 _ (by omega)) (wM _ (by omega))) (kJ _ (by omega)))
 · have b:0≤s.ck∧s.ck<256:=by
     rcases hf with hf|hf<;>(rw[hf] at hck;exact g 8 _ hck)
   simp only[jL,Bool.and_eq_true] at hw
   rcases hf with hf|hf
   · simp only[qO,qP,ql,if_neg (show ¬s.f=1 by omega),if_neg (show ¬s.f=2 by omega),if_neg (show ¬s.f=3 by omega),if_pos hf]
     exact(kJ 208 (by decide)).app ((seg_dyn _ _ hw.1 hw.2.1).app (kJ _ b))
   · simp only[qO,qP,ql,if_neg (show ¬s.f=1 by omega),if_neg (show ¬s.f=2 by omega),if_neg (show ¬s.f=3 by omega),if_neg (show ¬s.f=4 by omega),if_pos hf]
     exact(kJ 209 (by decide)).app ((seg_stat _ hw.1).app ((seg_dyn _ _ hw.1 hw.2.1).app (kJ _ b)))
 · simp only[qO,qP,ql,if_neg (show ¬s.f=1 by omega),if_neg (show ¬s.f=2 by omega),if_neg (show ¬s.f=3 by omega),if_neg (show ¬s.f=4 by omega),if_neg (show ¬s.f=5 by omega)]
   exact kJ 210 (by decide)
open Go.RowKit
variable {G:Nat→AV}
theorem yT(s:Sm):jM s=if s.f=4∨s.f=5 then s.h.ck else s.ud:=by unfold jM;rfl
theorem sum_rng(s:Sm)(h:s.ok=true):0≤jM s∧jM s<65536:=by
 obtain⟨-,-,hc⟩:=s.of h
 rw[yT]
 rcases hc with ⟨hf,hl,-⟩|⟨hf,hn,hw⟩|⟨hf,hn,-⟩
 · rw[if_neg (by omega)]
   simp only[zL,Bool.and_eq_true] at hl
   exact(fit_iff 16 _).1 hl.2.2.2.2
 · rw[if_pos hf]
   simp only[jL,Bool.and_eq_true] at hw
   have:=s.h.of hw.1
   omega
 · rw[if_neg (by omega)]
   simp only[ji,decide_eq_true_eq] at hn
   omega
theorem seg_pre(s:Sm)(h:s.ok=true):Seg (zI s) (zJ s) (vG s):=by
 obtain⟨h1,-⟩:=s.of h
 unfold zI zJ vG
 refine seg_if (fun hp=>?_) fun _=>Seg.nil
 rw[or224 _ (by omega)]
 exact kJ _ (by omega)
theorem seg_enc(s:Sm)(h:s.ok=true):Seg (y8 s) (encV s) (hdL s):=by
 have hs:=sum_rng s h
 exact(seg_pre s h).app ((seg_body s h).app (seg_if (fun _=>Seg.nil) fun _=>wM _ hs))
theorem head_eq(s:Sm)(h:s.ok=true):headB s=hdL s:=by
 have:=(seg_enc s h).eq []
 rw[List.append_nil,bytesB_nil,List.append_nil] at this
 unfold headB
 exact this
theorem dy_len(h:Hd)(d:Dy):(dyW h).length≤12∧(dyV h d).length≤12∧(stW h).length≤6∧(stV h).length≤6:=by
 unfold dyW dyV stW stV
 by_cases hk:h.k=2<;>simp[hk]
theorem body_len(s:Sm):(0<(qO s).length∧(qO s).length≤30)∧0<(qP s).length∧(qP s).length≤30:=by
 have hd:=dy_len s.h s.d
 unfold qO qP
 by_cases hk:s.h.k=2<;>(repeat' split)<;>simp[hk]<;>omega
theorem pre_len(s:Sm):(zI s).length≤1∧(zJ s).length≤1:=by
 unfold zI zJ
 split<;>simp
theorem enc_len(s:Sm):(y8 s).length≤40:=by
 have:=body_len s
 have:=pre_len s
 unfold y8
 simp only[List.length_append]
 split<;>simp<;>omega
theorem hd_len(s:Sm)(h:s.ok=true):0<(hdL s).length∧(hdL s).length≤1000:=by
 have hs:=seg_enc s h
 have hb:=(seg_body s h).sum
 have hw:=body_len s
 have h1:=sumW_le (y8 s) (fun i hi=>(hs.fit i hi).1) (y8 s).length (by omega)
 rw[List.take_of_length_le (by omega),hs.sum] at h1
 have:=enc_len s
 refine⟨?_,by omega⟩
 have:0<(ql s).length:=by
   unfold ql
   (repeat' split)<;>simp
 simp[hdL]
 omega
def zo(s:Sm):List UInt8×Int:=if s.ok then(hdL s++s.pl,0) else([],1)
theorem qd(s:Sm):LP Tryz.prog G 114 [s.av] [] (fun _=>(be (zo s),[])):=by
 have e:encP s=zo s:=by
   unfold encP zo
   split
   · rename_i h;rw[head_eq s h]
   · rfl
 rw[←e]
 have hd:=dy_len s.h s.d
 have hb:=body_len s
 have hp:=pre_len s
 refine enc_c s (fun h=>?_) (fun h=>?_) (fun h=>(s.of h).1.2.2) (fun h=>?_) (by omega) (yT s) (by simp only[List.length_append];omega) (fun h=>?_) (fun h=>?_)
 · have hs:=seg_enc s h
   have hl:=hd_len s h
   have:=pack_c (G:=G) (y8 s) (encV s) hs.len (by have:=enc_len s;omega) (by rw[hs.sum];omega) (by rw[hs.sum];omega) hs.fit
   rw[hs.sum,show 8*(hdL s).length / 8=(hdL s).length by omega,←head_eq s h,show qt (xN (y8 s) (encV s))=headB s by unfold headB;rfl] at this
   exact this
 · rw[head_eq s h];exact hd_len s h
 · obtain⟨-,-,hc⟩:=s.of h
   rcases hc with ⟨hf,-⟩|⟨hf,-⟩|⟨hf,-⟩<;>omega
 · simp[y8,encV,h]
 · simp[y8,encV,h]
open Go.RowKit
variable {G:Nat→AV}
@[simp] theorem putB_ln(n:Int)(k:Nat):(qn n k).length=k:=by
 induction k with
 | zero=>simp[qn]
 | succ k ih=>simp[qn,ih]
theorem CutL.adopt{P:Program}{N:Nat}{e:Env}{l:LS}(x sz:Nat)(t:TypeId){c d:Code}{Q:Exit→Env→LS→Prop}(hx:e x=.nils)(h:∀q,CutL P G N c d Q (put e x (.vw q 0 0 sz)) ((q,⟨t,[]⟩)::l)):CutL P G N c d Q e l:=⟨SWpL.adopt x sz t hx fun q=>(h q).run⟩
open Go.RowKit
variable {G:Nat→AV}
theorem bclone_ne(a:List UInt8)(h0:0<a.length)(ha:a.length≤140737488355328):LP Tryz.prog G 157 [bv a] [] (fun _=>(bv a,[])):=by
 refine goW [] Tryz.func157 rfl ?_
 conv=>whnf
 repeat'((first|refine T.s ?_|((first|apply goB|apply AB.dec|apply AB.gen)<;>intro h<;>try(exfalso;omega))|refine LQ.mk fun r=>?_|exact T.z|fail)<;>conv=>whnf)
 all_goals(try dsimp only)
 all_goals
   (refine RL.rowF ?_;(repeat first|refine goH ?_|apply LH.here|apply LH.next);refine And.intro ?_ (And.intro ?_ ?_);rotate_left;rotate_left;(focus((repeat' first|exact LB.nil|(with_reducible exact LB.refl)|(apply LB.cons;(repeat first|refine goH ?_|apply LH.here|apply LH.next);refine And.intro ?_ ?_;(focus(try(first|(with_reducible rfl)|(refine congrArg (Pl.mk _) ?_;(first|rfl|(simp;done)))|rfl|(with_reducible refine congrArg (Pl.mk _) ?_)))))))))
   · rfl
   · simp
theorem qh(a:List UInt8)(ha:a.length≤140737488355328):LP Tryz.prog G 157 [bv a] [] (fun _=>(bv a,[])):=by
 by_cases h:0<a.length
 · exact bclone_ne a h ha
 · obtain rfl:a=[]:=List.eq_nil_of_length_eq_zero (by omega)
   refine LP.empty ?_ fun a0 cap hc=>?_
   · refine goW [] Tryz.func157 rfl ?_
     conv=>whnf
     repeat'((first|refine T.s ?_|((first|apply goB|apply AB.dec|apply AB.gen)<;>intro h<;>try(exfalso;omega))|refine LQ.mk fun r=>?_|exact T.z|fail)<;>conv=>whnf)
     all_goals(try dsimp only)
     exact RL.frz [] (LF.nils rfl rfl) LB.nil
   · refine goW [] Tryz.func157 rfl ?_
     conv=>whnf
     repeat'((first|refine T.s ?_|((first|apply goB|apply AB.dec|apply AB.gen)<;>intro h<;>try(exfalso;omega))|refine LQ.mk fun r=>?_|exact T.z|fail)<;>conv=>whnf)
     all_goals(try dsimp only)
     refine RL.rowF (b:=([]:List UInt8)) (f:=bAV) ?_
     (repeat first|refine goH ?_|apply LH.here|apply LH.next)
     exact⟨rfl,rfl,LB.nil⟩
open Go.RowKit
variable {G:Nat→AV}
def beN(l:List UInt8):Int:=l.foldl (fun a c=>256*a+(c.toNat:Int)) 0
theorem beN_app(l:List UInt8)(c:UInt8):beN (l++[c])=256*beN l+(c.toNat:Int):=by simp[beN]
theorem beN_take(l:List UInt8)(i:Nat)(h:i<l.length):beN (l.take (i+1))=256*beN (l.take i)+((l.getD i 0).toNat:Int):=by
 rw[List.take_succ_eq_append_getElem h,beN_app]
 simp[List.getD_eq_getElem?_getD,h]
theorem beN_rng:∀(l:List UInt8),0≤beN l∧beN l<256^l.length:=by
 intro l
 have key:∀n (l:List UInt8),l.length=n→0≤beN l∧beN l<256^n:=by
   intro n
   induction n with
   | zero=>intro l h;obtain rfl:=List.eq_nil_of_length_eq_zero h;exact⟨by decide,by decide⟩
   | succ n ih =>
     intro l h
     have h1:=ih (l.take n) (by simp;omega)
     have h2:=beN_take l n (by omega)
     rw[List.take_of_length_le (show l.length≤n+1 by omega)] at h2
     have h3:=(l.getD n 0).toNat_lt
     have h4:(256:Int)^(n+1)=256*256^n:=by rw[Int.pow_succ];omega
     omega
 exact key _ l rfl
theorem or_shl(x c:Int)(hx:0≤x∧x<16777216)(hc:0≤c∧c<256):qk .or .i64 (IntKind.i64.wrap (x*2^min (Int.toNat 8) IntKind.i64.bits)) c=256*x+c:=by
 obtain⟨a,rfl⟩:=Int.eq_ofNat_of_zero_le hx.1
 obtain⟨b,rfl⟩:=Int.eq_ofNat_of_zero_le hc.1
 have e1:IntKind.i64.wrap ((a:Int)*2^min (Int.toNat 8) IntKind.i64.bits)=((2^8*a:Nat):Int):=by
   show IntKind.i64.wrap ((a:Int)*256)=_
   rw[IntKind.wrap_i64]
   omega
 rw[e1]
 show IntKind.i64.wrap ((BitVec.ofInt 64 ((2^8*a:Nat):Int) ||| BitVec.ofInt 64 (b:Int)).toNat:Int)=_
 have e:(BitVec.ofInt 64 ((2^8*a:Nat):Int) ||| BitVec.ofInt 64 (b:Int)).toNat=2^8*a+b:=by
   rw[BitVec.toNat_or,BitVec.ofInt_natCast,BitVec.ofInt_natCast,BitVec.toNat_ofNat,BitVec.toNat_ofNat,Nat.mod_eq_of_lt (show 2^8*a<2^64 by omega),Nat.mod_eq_of_lt (show b<2^64 by omega),Nat.two_pow_add_eq_or_of_lt (by omega)]
 rw[e,IntKind.wrap_i64]
 omega
def tkV(n:Nat):Option (List UInt8)→Int
 | none=>0
 | some l=>if l.length<n then 0 else beN (l.take n)
def tkR(n:Nat):Option (List UInt8)→Option (List UInt8)
 | none=>none
 | some l=>if l.length<n then none else some (l.drop n)
def rdCs:Option (List UInt8)→List AV
 | none=>[.nils,.bool true]
 | some l=>[bv l,.bool false]
theorem ftake_s(r:Nm)(n:Nat)(l:List UInt8)(h1:1≤n)(h4:n≤4)(hl:l.length≤140737488355328):LP Tryz.prog G 176 [.ptr r 0,iAV n] [(r,⟨209,[bv l,.bool false]⟩)] (fun _=>(iAV (tkV n (some l)),[(r,⟨209,rdCs (tkR n (some l))⟩)])):=by
 by_cases h:l.length<n
 · have e1:tkV n (some l)=0:=if_pos h
   have e2:tkR n (some l)=none:=if_pos h
   rw[e1,e2]
   refine goW [] Tryz.func176 rfl ?_
   conv=>whnf
   repeat'((first|refine T.s ?_|((first|apply goB|apply AB.dec|apply AB.gen)<;>intro h<;>try(exfalso;omega))|refine LQ.mk fun r=>?_|(show(_→_)∧(¬_→_);first|refine T.y ?_|refine qv (fun h=>?_) (fun h=>?_))|exact T.z|refine⟨_,rfl,rfl,?_⟩|fail)<;>conv=>whnf)
   all_goals(try dsimp only)
   (show RL _ _ _;refine goR ?_)
   rfl
 · have e1:tkV n (some l)=beN (l.take n):=if_neg h
   have e2:tkR n (some l)=some (l.drop n):=if_neg h
   rw[e1,e2]
   have hr:∀i,i<n→0≤beN (l.take i)∧beN (l.take i)<16777216:=fun i hi=>by
     have h:=beN_rng (l.take i)
     have hk:(l.take i).length=0∨(l.take i).length=1∨(l.take i).length=2∨(l.take i).length=3:=by rw[List.length_take];omega
     rcases hk with e|e|e|e<;>(rw[e] at h;omega)
   have hor:∀i,i<n→qk .or .i64 (IntKind.i64.wrap (beN (l.take i)*2^min (Int.toNat 8) IntKind.i64.bits)) (IntKind.i64.wrap (((l.take n).getD i 0).toNat:Int))=beN (l.take (i+1)):=fun i hi=>by
     have hg:(l.take n).getD i 0=l.getD i 0:=by simp[List.getD_eq_getElem?_getD,List.getElem?_take,hi]
     have:=(l.getD i 0).toNat_lt
     have hw:IntKind.i64.wrap ((l.getD i 0).toNat:Int)=((l.getD i 0).toNat:Int):=by rw[IntKind.wrap_i64];omega
     rw[hg,hw,or_shl _ _ (hr i hi) (by omega),beN_take l i (by omega)]
   refine goW [] Tryz.func176 rfl ?_
   conv=>whnf
   repeat'((first|(show AC _ _ _;first|(refine AC.idx (i) (0) ?_ ?_ ?_;(focus(first|exact rfl|(simp;done)|(simp;omega)));(focus(first|omega|exact T.side))))|(show AQ _ _;first|(refine AQ.headE n ?_ ?_ ?_;(focus(first|exact rfl|(simp;done)|(simp;omega)));(focus(first|exact rfl|(simp;done)|(simp;omega))))|(refine AQ.tailE n ?_ ?_ ?_;(focus(first|exact rfl|(simp;done)|(simp;omega)));(focus(first|exact rfl|(simp;done)|(simp;omega)))))|refine T.s ?_|((first|apply goB|apply AB.dec|apply AB.gen)<;>intro h<;>try(exfalso;omega))|refine LQ.mk fun r=>?_|(show SWpL _ _ _ (.loop _) _ _ _;first|(apply goO tQ [] 6 (S:=Nat) [0,1,26,27] (fun i=>⟨[(28,.int .i64 i),(5,.int .i64 (beN (l.take i)))],[(r,⟨209,[bv l,.bool false]⟩)],i≤n,n-i⟩) (0) (by rfl);(focus((repeat' first|exact trivial|(refine And.intro ?_ ?_)|exact LB.nil|(with_reducible exact LB.refl)|(apply LB.cons;(repeat first|refine goH ?_|apply LH.here|apply LH.next);refine And.intro ?_ ?_;(focus(try(first|(with_reducible rfl)|(refine congrArg (Pl.mk _) ?_;(first|rfl|(simp;done)))|rfl|(with_reducible refine congrArg (Pl.mk _) ?_)))))|assumption|((conv=>lhs;whnf);with_reducible exact congrArg (AV.int .i64) (hor i (by omega)))|(first|(focus(apply Eq.trans;(conv=>lhs;whnf);(conv=>rhs;whnf);done))|rfl|((conv=>lhs;whnf);first|rfl|(refine congrArg (AV.int _) ?_;(exact T.num))|(refine congrArg AV.bool ?_;(exact T.num))|(refine vwc ?_;first|(exact T.num)|(first|rfl|(simp;done)))|(refine q9 ?_ ?_<;>first|(exact T.num)|(first|rfl|(simp;done)))|(first|rfl|(simp;done))))|(exact T.num)|(dsimp only;(exact T.num))|(first|rfl|(simp;done)));done));rintro i hok;(try dsimp only at hok)))|(show AtL _ _ _ _ _ _ _ _ _ _;first|(apply AtL.mk' (id:=6) (S:=Nat) (i+1);(repeat' first|exact trivial|(refine And.intro ?_ ?_)|exact LB.nil|(with_reducible exact LB.refl)|(apply LB.cons;(repeat first|refine goH ?_|apply LH.here|apply LH.next);refine And.intro ?_ ?_;(focus(try(first|(with_reducible rfl)|(refine congrArg (Pl.mk _) ?_;(first|rfl|(simp;done)))|rfl|(with_reducible refine congrArg (Pl.mk _) ?_)))))|assumption|((conv=>lhs;whnf);with_reducible exact congrArg (AV.int .i64) (hor i (by omega)))|(first|(focus(apply Eq.trans;(conv=>lhs;whnf);(conv=>rhs;whnf);done))|rfl|((conv=>lhs;whnf);first|rfl|(refine congrArg (AV.int _) ?_;(exact T.num))|(refine congrArg AV.bool ?_;(exact T.num))|(refine vwc ?_;first|(exact T.num)|(first|rfl|(simp;done)))|(refine q9 ?_ ?_<;>first|(exact T.num)|(first|rfl|(simp;done)))|(first|rfl|(simp;done))))|(exact T.num)|(dsimp only;(exact T.num))|(first|rfl|(simp;done)));done)|(apply AtL.mk' (id:=6) (S:=Nat) (i+1);(repeat' first|exact trivial|(refine And.intro ?_ ?_)|exact LB.nil|(with_reducible exact LB.refl)|(apply LB.cons;(repeat first|refine goH ?_|apply LH.here|apply LH.next);refine And.intro ?_ ?_;(focus(try(first|(with_reducible rfl)|(refine congrArg (Pl.mk _) ?_;(first|rfl|(simp;done)))|rfl|(with_reducible refine congrArg (Pl.mk _) ?_)))))|assumption|((conv=>lhs;whnf);with_reducible exact congrArg (AV.int .i64) (hor i (by omega)))|(first|(focus(apply Eq.trans;(conv=>lhs;whnf);(conv=>rhs;whnf);done))|rfl|((conv=>lhs;whnf);first|rfl|(refine congrArg (AV.int _) ?_;(exact T.num))|(refine congrArg AV.bool ?_;(exact T.num))|(refine vwc ?_;first|(exact T.num)|(first|rfl|(simp;done)))|(refine q9 ?_ ?_<;>first|(exact T.num)|(first|rfl|(simp;done)))|(first|rfl|(simp;done))))|(exact T.num)|(dsimp only;(exact T.num))|(first|rfl|(simp;done)))))|(show(_→_)∧(¬_→_);first|refine T.y ?_|refine qv (fun h=>?_) (fun h=>?_))|exact T.z|refine⟨_,rfl,rfl,?_⟩|fail)<;>conv=>whnf)
   all_goals(try dsimp only)
   all_goals(obtain rfl:i=n:=(by simp at h;omega))
   all_goals(have e3:(AV.sl ((l.length:Int).toNat-(i:Int).toNat) ((l.drop i).map bAV))=bv (l.drop i):=(by unfold bv;congr 1;simp))
   all_goals rw[e3]
   all_goals(show RL _ _ _;refine goR ?_)
   all_goals rfl
theorem ftake_n(r:Nm)(n:Nat)(h1:1≤n)(h4:n≤4):LP Tryz.prog G 176 [.ptr r 0,iAV n] [(r,⟨209,rdCs none⟩)] (fun _=>(iAV (tkV n none),[(r,⟨209,rdCs (tkR n none)⟩)])):=by
 show LP Tryz.prog G 176 [.ptr r 0,iAV n] [(r,⟨209,[.nils,.bool true]⟩)] (fun _=>(iAV 0,[(r,⟨209,[.nils,.bool true]⟩)]))
 refine goW [] Tryz.func176 rfl ?_
 conv=>whnf
 repeat'((first|refine T.s ?_|((first|apply goB|apply AB.dec|apply AB.gen)<;>intro h<;>try(exfalso;omega))|refine LQ.mk fun r=>?_|(show(_→_)∧(¬_→_);first|refine T.y ?_|refine qv (fun h=>?_) (fun h=>?_))|exact T.z|refine⟨_,rfl,rfl,?_⟩|fail)<;>conv=>whnf)
 all_goals(try dsimp only)
 all_goals(show RL _ _ _;refine goR ?_)
 all_goals rfl
def rdB:Option (List UInt8)→Prop
 | none=>True
 | some l=>l.length≤140737488355328
theorem rdB.take{X:Option (List UInt8)}(h:rdB X)(n:Nat):rdB (tkR n X):=by
 cases X with
 | none=>exact trivial
 | some l =>
   show rdB (if l.length<n then none else some (l.drop n))
   split
   · exact trivial
   · exact Nat.le_trans (by simp) h
theorem ftake_c(r:Nm)(n:Nat)(X:Option (List UInt8))(h:(1≤n∧n≤4)∧rdB X):LP Tryz.prog G 176 [.ptr r 0,iAV n] [(r,⟨209,rdCs X⟩)] (fun _=>(iAV (tkV n X),[(r,⟨209,rdCs (tkR n X)⟩)])):=by
 cases X with
 | none=>exact ftake_n r n h.1.1 h.1.2
 | some l=>exact ftake_s r n l h.1.1 h.1.2 h.2
end Go.Proofs.YtndpmpnmkpaklaaGreatDoor
