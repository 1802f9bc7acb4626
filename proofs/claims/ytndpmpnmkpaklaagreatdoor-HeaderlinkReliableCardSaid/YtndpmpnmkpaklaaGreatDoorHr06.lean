/-
  Contracts of the functions that the laws reach.
-/
import Derived.Test.YtndpmpnmkpaklaaGreatDoorHr05
set_option maxHeartbeats 2000000
set_option linter.all false
namespace Go.Proofs.YtndpmpnmkpaklaaGreatDoor
open Go.RowKit
variable {G:Nat→AV}
structure Hd where
 k:Int
 tos:Int
 id:Int
 fx:Int
 ttl:Int
 fr:Int
 to:Int
 fp:Int
 tp:Int
 ck:Int
 mr:Int
 ty:Int
 sq:Int
 tm:Int
 sr:Int
 deriving DecidableEq
@[reducible] def Hd.av(h:Hd):AV:=.agg [iAV h.k,iAV h.tos,iAV h.id,iAV h.fx,iAV h.ttl,iAV h.fr,iAV h.to,iAV h.fp,iAV h.tp,iAV h.ck,iAV h.mr,iAV h.ty,iAV h.sq,iAV h.tm,iAV h.sr]
def inR(n m:Int):Bool:=decide (0≤n∧n≤m)
theorem inR_t{n m:Int}(h:0≤n∧n≤m):inR n m=true:=decide_eq_true h
theorem inR_f{n m:Int}(h:¬(0≤n∧n≤m)):inR n m=false:=decide_eq_false h
def comR(h:Hd):Bool:=inR h.tos 255&&(inR h.ttl 255&&(inR h.id 65535&&(inR h.fp 65535&&(inR h.tp 65535&&(inR h.ck 65535&&(inR h.fx 1&&(inR h.fr 4294967295&&inR h.to 4294967295)))))))
def udpR(h:Hd):Bool:=decide (h.mr=0∧h.ty=0∧h.sq=0∧h.tm=0∧h.sr=0)
def rtpR(h:Hd):Bool:=inR h.mr 1&&(inR h.ty 127&&(inR h.sq 65535&&(inR h.tm 4294967295&&inR h.sr 4294967295)))
def Hd.ok(h:Hd):Bool:=if h.k=1 then comR h&&udpR h else if h.k=2 then comR h&&rtpR h else false
def jK(g:Int)(l:List Int):Bool:=l.all fun x=>inR x g
theorem kw(g:Int)(l:List Int)(i:Nat)(h:i<l.length):jK g (l.take (i+1))=(jK g (l.take i)&&inR (l.getD i 0) g):=by
 unfold jK
 rw[List.take_succ_eq_append_getElem h,List.all_append]
 simp[List.getD_eq_getElem?_getD,h]
theorem allIn_bad(g:Int)(l:List Int)(i:Nat)(h:i<l.length)(hb:inR (l.getD i 0) g=false):jK g l=false:=by
 have h1:=kw g l i h
 rw[hb,Bool.and_false] at h1
 cases hc:jK g l with
 | false=>rfl
 | true =>
   unfold jK at hc h1
   have h2:((l.take (i+1)).all fun x=>inR x g)=true:=by
     rw[List.all_eq_true] at hc ⊢
     exact fun x hx=>hc x (List.mem_of_mem_take hx)
   rw[h1] at h2
   cases h2
theorem upto_c(g:Int)(l:List Int)(hl:l.length≤1000):LP Tryz.prog G 207 [iAV g,iv l] [] (fun _=>(.bool (jK g l),[])):=by
 refine goW [] Tryz.func207 rfl ?_
 conv=>whnf
 repeat'((first|(show AC _ _ _;first|(refine AC.idx (i) (0) ?_ ?_ ?_;(focus(first|exact rfl|(simp;done)|(simp;omega)));(focus(first|omega|exact T.side))))|refine T.s ?_|((first|apply goB|apply AB.dec|apply AB.gen)<;>intro h<;>try(exfalso;omega))|refine LQ.mk fun r=>?_|(show SWpL _ _ _ (.loop _) _ _ _;first|(apply goO tQ [] 2 (S:=Nat) [0,7,8] (fun i=>⟨[(9,.int .i64 i)],[],i≤l.length∧jK g (l.take i)=true,l.length-i⟩) (0) (by rfl);(focus((repeat' first|exact trivial|(refine And.intro ?_ ?_)|exact LB.nil|(with_reducible exact LB.refl)|(apply LB.cons;(repeat first|refine goH ?_|apply LH.here|apply LH.next);refine And.intro ?_ ?_;(focus(try(first|(with_reducible rfl)|(refine congrArg (Pl.mk _) ?_;(first|rfl|(simp;done)))|rfl|(with_reducible refine congrArg (Pl.mk _) ?_)))))|assumption|(simp[jK];done)|(rw[kw _ _ _ (by omega),hok,inR_t (by omega)];rfl)|(first|(focus(apply Eq.trans;(conv=>lhs;whnf);(conv=>rhs;whnf);done))|rfl|((conv=>lhs;whnf);first|rfl|(refine congrArg (AV.int _) ?_;(exact T.num))|(refine congrArg AV.bool ?_;(exact T.num))|(refine vwc ?_;first|(exact T.num)|(first|rfl|(simp;done)))|(refine q9 ?_ ?_<;>first|(exact T.num)|(first|rfl|(simp;done)))|(first|rfl|(simp;done))))|(exact T.num)|(dsimp only;(exact T.num))|(first|rfl|(simp;done)));done));rintro i ⟨hk,hok⟩))|(show AtL _ _ _ _ _ _ _ _ _ _;first|(apply AtL.mk' (id:=2) (S:=Nat) (i+1);(repeat' first|exact trivial|(refine And.intro ?_ ?_)|exact LB.nil|(with_reducible exact LB.refl)|(apply LB.cons;(repeat first|refine goH ?_|apply LH.here|apply LH.next);refine And.intro ?_ ?_;(focus(try(first|(with_reducible rfl)|(refine congrArg (Pl.mk _) ?_;(first|rfl|(simp;done)))|rfl|(with_reducible refine congrArg (Pl.mk _) ?_)))))|assumption|(simp[jK];done)|(rw[kw _ _ _ (by omega),hok,inR_t (by omega)];rfl)|(first|(focus(apply Eq.trans;(conv=>lhs;whnf);(conv=>rhs;whnf);done))|rfl|((conv=>lhs;whnf);first|rfl|(refine congrArg (AV.int _) ?_;(exact T.num))|(refine congrArg AV.bool ?_;(exact T.num))|(refine vwc ?_;first|(exact T.num)|(first|rfl|(simp;done)))|(refine q9 ?_ ?_<;>first|(exact T.num)|(first|rfl|(simp;done)))|(first|rfl|(simp;done))))|(exact T.num)|(dsimp only;(exact T.num))|(first|rfl|(simp;done)));done)|(apply AtL.mk' (id:=2) (S:=Nat) (i+1);(repeat' first|exact trivial|(refine And.intro ?_ ?_)|exact LB.nil|(with_reducible exact LB.refl)|(apply LB.cons;(repeat first|refine goH ?_|apply LH.here|apply LH.next);refine And.intro ?_ ?_;(focus(try(first|(with_reducible rfl)|(refine congrArg (Pl.mk _) ?_;(first|rfl|(simp;done)))|rfl|(with_reducible refine congrArg (Pl.mk _) ?_)))))|assumption|(simp[jK];done)|(rw[kw _ _ _ (by omega),hok,inR_t (by omega)];rfl)|(first|(focus(apply Eq.trans;(conv=>lhs;whnf);(conv=>rhs;whnf);done))|rfl|((conv=>lhs;whnf);first|rfl|(refine congrArg (AV.int _) ?_;(exact T.num))|(refine congrArg AV.bool ?_;(exact T.num))|(refine vwc ?_;first|(exact T.num)|(first|rfl|(simp;done)))|(refine q9 ?_ ?_<;>first|(exact T.num)|(first|rfl|(simp;done)))|(first|rfl|(simp;done))))|(exact T.num)|(dsimp only;(exact T.num))|(first|rfl|(simp;done)))))|exact T.z|fail)<;>conv=>whnf)
 all_goals(try dsimp only)
 · (show RL _ _ _;refine goR ?_)
   rw[allIn_bad g l i (by omega) (inR_f (by omega))]
 · (show RL _ _ _;refine goR ?_)
   rw[allIn_bad g l i (by omega) (inR_f (by omega))]
 · (show RL _ _ _;refine goR ?_)
   rw[←hok,List.take_of_length_le (by omega)]
structure Dy where
 st:Int
 fo:Int
 deriving DecidableEq
@[reducible] def Dy.av(d:Dy):AV:=.agg [iAV d.st,iAV d.fo]
def Dy.ok(d:Dy):Bool:=inR d.st 65535&&decide (d.fo=0∨d.fo=1)
theorem jl(d:Dy):LP Tryz.prog G 193 [d.av] [] (fun _=>(.bool d.ok,[])):=by
 refine goW [] Tryz.func193 rfl ?_
 conv=>whnf
 repeat'((first|refine T.s ?_|((first|apply goB|apply AB.dec|apply AB.gen)<;>intro h<;>try(exfalso;omega))|refine LQ.mk fun r=>?_|exact T.z|fail)<;>conv=>whnf)
 all_goals(try dsimp only)
 all_goals
   (show RL _ _ _;refine goR ?_)
   refine congrArg AV.bool ?_
   rw[Bool.eq_iff_iff]
   simp[Dy.ok,inR,qr, *]
def Hd.static(h:Hd):Hd:=⟨h.k,0,0,0,0,h.fr,h.to,h.fp,h.tp,0,0,0,0,0,h.sr⟩
theorem fstatic_c(h:Hd):LP Tryz.prog G 195 [h.av] [] (fun _=>(h.static.av,[])):=by
 refine goW [] Tryz.func195 rfl ?_
 conv=>whnf
 repeat'((first|refine T.s ?_|((first|apply goB|apply AB.dec|apply AB.gen)<;>intro h<;>try(exfalso;omega))|refine LQ.mk fun r=>?_|exact T.z|fail)<;>conv=>whnf)
 all_goals(try dsimp only)
 (show RL _ _ _;refine goR ?_)
 rfl
theorem zG(x:Hd):LP Tryz.prog G 192 [x.av] [] (fun _=>(.bool x.ok,[])):=by
 refine goW [1] Tryz.func192 rfl ?_
 conv=>whnf
 repeat'((first|(show LC _ _ _ _ _ _;refine LC.rowI (fun zs hz=>upto_c _ zs (by omega)) ?_;conv=>whnf)|refine T.s ?_|((first|apply goB|apply AB.dec|apply AB.gen)<;>intro h<;>try(exfalso;omega))|refine LQ.mk fun r=>?_|(show CutL _ _ _ _ _ _ _ _;first|(refine goK tQ [1] 1 (S:=Nm) [] (fun p=>⟨[(3,.bool (comR x)),(1,.ptr p 0)],[(p,⟨54,[iAV x.k,iAV x.tos,iAV x.id,iAV x.fx,iAV x.ttl,iAV x.fr,iAV x.to,iAV x.fp,iAV x.tp,iAV x.ck,iAV x.mr,iAV x.ty,iAV x.sq,iAV x.tm,iAV x.sr]⟩)],True,0⟩) ?_ ?_;(rintro p -);rotate_left)|refine CutL.go tQ [1] ?_)|(show AtC _ _ _ _ _ _ _ _;first|(apply AtC.mk' (id:=1) (S:=Nm) (_);(repeat' first|exact trivial|(refine And.intro ?_ ?_)|exact LB.nil|(with_reducible exact LB.refl)|(apply LB.cons;(repeat first|refine goH ?_|apply LH.here|apply LH.next);refine And.intro ?_ ?_;(focus(try(first|(with_reducible rfl)|(refine congrArg (Pl.mk _) ?_;(first|rfl|(simp;done)))|rfl|(with_reducible refine congrArg (Pl.mk _) ?_)))))|assumption|((conv=>lhs;whnf);simp_all [comR,jK,ints];done)|(first|(focus(apply Eq.trans;(conv=>lhs;whnf);(conv=>rhs;whnf);done))|rfl|((conv=>lhs;whnf);first|rfl|(refine congrArg (AV.int _) ?_;(exact T.num))|(refine congrArg AV.bool ?_;(exact T.num))|(refine vwc ?_;first|(exact T.num)|(first|rfl|(simp;done)))|(refine q9 ?_ ?_<;>first|(exact T.num)|(first|rfl|(simp;done)))|(first|rfl|(simp;done))))|(exact T.num)|(dsimp only;(exact T.num))|(first|rfl|(simp;done)));done)|(apply AtC.mk' (id:=1) (S:=Nm) (_);(repeat' first|exact trivial|(refine And.intro ?_ ?_)|exact LB.nil|(with_reducible exact LB.refl)|(apply LB.cons;(repeat first|refine goH ?_|apply LH.here|apply LH.next);refine And.intro ?_ ?_;(focus(try(first|(with_reducible rfl)|(refine congrArg (Pl.mk _) ?_;(first|rfl|(simp;done)))|rfl|(with_reducible refine congrArg (Pl.mk _) ?_)))))|assumption|((conv=>lhs;whnf);simp_all [comR,jK,ints];done)|(first|(focus(apply Eq.trans;(conv=>lhs;whnf);(conv=>rhs;whnf);done))|rfl|((conv=>lhs;whnf);first|rfl|(refine congrArg (AV.int _) ?_;(exact T.num))|(refine congrArg AV.bool ?_;(exact T.num))|(refine vwc ?_;first|(exact T.num)|(first|rfl|(simp;done)))|(refine q9 ?_ ?_<;>first|(exact T.num)|(first|rfl|(simp;done)))|(first|rfl|(simp;done))))|(exact T.num)|(dsimp only;(exact T.num))|(first|rfl|(simp;done)))))|exact T.z|fail)<;>conv=>whnf)
 all_goals(try dsimp only)
 all_goals
   (show RL _ _ _;refine goR ?_)
   refine congrArg AV.bool ?_
   rw[Bool.eq_iff_iff]
   simp_all [Hd.ok,udpR,rtpR,jK,ints,qr]
attribute [irreducible] inR
open Go.RowKit
variable {G:Nat→AV}
def Hd.z:Hd:=⟨0,0,0,0,0,0,0,0,0,0,0,0,0,0,0⟩
def Dy.z:Dy:=⟨0,0⟩
def Hd.num(h:Hd):Int:=if h.k=2 then lw 16 h.sq else lw 16 h.id
theorem jm(h:Hd):LP Tryz.prog G 119 [h.av] [] (fun _=>(iAV h.num,[])):=by
 refine goW [] Tryz.func119 rfl ?_
 conv=>whnf
 repeat'((first|(show LC _ _ _ _ _ _;first|refine LC.pure (xQ 16 _ (by decide) (by decide)) ?_|refine goE ?_)|refine T.s ?_|((first|apply goB|apply AB.dec|apply AB.gen)<;>intro h<;>try(exfalso;omega))|refine LQ.mk fun r=>?_|exact T.z|fail)<;>conv=>whnf)
 all_goals(try dsimp only)
 all_goals
   (show RL _ _ _;refine goR ?_)
   unfold Hd.num
   (repeat first|rw[if_pos (by first|assumption|omega)]|rw[if_neg (by first|assumption|omega)])
   try rfl
def qy(a b:Hd):Bool:=decide (a.k=b.k∧a.fr=b.fr∧a.to=b.to∧a.fp=b.fp∧a.tp=b.tp∧a.sr=b.sr)
def stepR(h:Hd)(n:Int):Int:=sg 16 h.num n
def xk(d:Dy)(h:Hd)(n:Int):Hd :=
 if h.ok=true∧d.ok=true then(if h.k=1 then { h with mr:=0,ck:=0,id:=lw 16 n }
   else { h with mr:=0,ck:=0,sq:=lw 16 n,tm:=lw 32 (h.tm+d.st*stepR h n),id:=lw 16 (h.id+d.fo*stepR h n) })
 else Hd.z
theorem lw_mul{n:Int}(t x y:Int)(h:n≤32):lw n (q7 .add .i64 t (q7 .mul .i64 x y))=lw n (t+x*y):=by
 show lw n (IntKind.i64.wrap (t+IntKind.i64.wrap (x*y)))=_
 rw[yx _ h,←lw_add_r,yx _ h,lw_add_r]
theorem fpred_c(d:Dy)(h:Hd)(n:Int):LP Tryz.prog G 202 [d.av,h.av,iAV n] [] (fun _=>((xk d h n).av,[])):=by
 by_cases h1:h.ok=true
 · by_cases h2:d.ok=true
   · refine goW [] Tryz.func202 rfl ?_
     conv=>whnf
     repeat'((first|(show LC _ _ _ _ _ _;refine LC.pure (zG h) ?_;rw[h1];conv=>whnf)|(show LC _ _ _ _ _ _;refine LC.pure (jl d) ?_;rw[h2];conv=>whnf)|(show LC _ _ _ _ _ _;first|refine LC.pure (jm _) ?_|refine LC.pure (xG 16 _ _ (by decide) (by decide)) ?_|refine LC.pure (xQ 16 _ (by decide) (by decide)) ?_|refine LC.pure (xQ 32 _ (by decide) (by decide)) ?_|refine goE ?_)|refine T.s ?_|((first|apply goB|apply AB.dec|apply AB.gen)<;>intro h<;>try(exfalso;omega))|refine LQ.mk fun r=>?_|exact T.z|fail)<;>conv=>whnf)
     all_goals(try dsimp only)
     all_goals
       (show RL _ _ _;refine goR ?_)
       unfold xk
       rw[if_pos ⟨h1,h2⟩]
       (repeat first|rw[if_pos (by first|assumption|omega)]|rw[if_neg (by first|assumption|omega)])
       try rw[lw_mul _ _ _ (by decide),lw_mul _ _ _ (by decide)]
       rfl
   · have h2':d.ok=false:=by simpa using h2
     refine goW [] Tryz.func202 rfl ?_
     conv=>whnf
     repeat'((first|(show LC _ _ _ _ _ _;refine LC.pure (zG h) ?_;rw[h1];conv=>whnf)|(show LC _ _ _ _ _ _;refine LC.pure (jl d) ?_;rw[h2'];conv=>whnf)|refine T.s ?_|((first|apply goB|apply AB.dec|apply AB.gen)<;>intro h<;>try(exfalso;omega))|refine LQ.mk fun r=>?_|exact T.z|fail)<;>conv=>whnf)
     all_goals(try dsimp only)
     (show RL _ _ _;refine goR ?_)
     unfold xk
     rw[if_neg (by simp[h2'])]
     rfl
 · have h1':h.ok=false:=by simpa using h1
   refine goW [] Tryz.func202 rfl ?_
   conv=>whnf
   repeat'((first|(show LC _ _ _ _ _ _;refine LC.pure (zG h) ?_;rw[h1'];conv=>whnf)|refine T.s ?_|((first|apply goB|apply AB.dec|apply AB.gen)<;>intro h<;>try(exfalso;omega))|refine LQ.mk fun r=>?_|exact T.z|fail)<;>conv=>whnf)
   all_goals(try dsimp only)
   (show RL _ _ _;refine goR ?_)
   unfold xk
   rw[if_neg (by simp[h1'])]
   rfl
theorem ok_id{h:Hd}(h1:h.ok=true):0≤h.id∧h.id<65536:=by
 unfold Hd.ok comR at h1
 have key:∀n m,inR n m=true→0≤n∧n≤m:=fun n m hh=>by
   cases hc:decide (0≤n∧n≤m) with
   | true=>simpa using hc
   | false=>exact absurd hh (by rw[inR_f (by simpa using hc)];decide)
 split at h1
 · simp only[Bool.and_eq_true] at h1
   have:=key _ _ h1.1.2.2.1
   omega
 · split at h1
   · simp only[Bool.and_eq_true] at h1
     have:=key _ _ h1.1.2.2.1
     omega
   · cases h1
theorem ok_k{h:Hd}(h1:h.ok=true):h.k=1∨h.k=2:=by
 unfold Hd.ok at h1
 split at h1
 · exact .inl ‹_›
 · split at h1
   · exact .inr ‹_›
   · cases h1
end Go.Proofs.YtndpmpnmkpaklaaGreatDoor
