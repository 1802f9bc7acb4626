/-
  Contracts of the functions that the laws reach.
-/
import Derived.Test.YtndpmpnmkpaklaaGreatDoorHr28
set_option maxHeartbeats 8000000
set_option linter.all false
namespace Go.Proofs.YtndpmpnmkpaklaaGreatDoor
open Go.RowKit
variable {G:Nat→AV}
section
variable {s:Sn}{h r:Hd}{f:Int}
theorem refB_n1(h1:jq r h=0)(h2:f=1)(h3:za [((zq s h r).k,h.k),((zq s h r).tos,h.tos),((zq s h r).id,h.id),((zq s h r).fx,h.fx),((zq s h r).ttl,h.ttl),((zq s h r).fr,h.fr),((zq s h r).to,h.to),((zq s h r).fp,h.fp),((zq s h r).tp,h.tp),((zq s h r).ck,h.ck),((zq s h r).mr,h.mr),((zq s h r).ty,h.ty),((zq s h r).sq,h.sq),((zq s h r).tm,h.tm),((zq s h r).sr,h.sr)]=false):jf s h f r=false:=by
 subst h2
 rw[refB_1 h1,←Hd.eqs];exact h3
theorem refB_y1(h1:jq r h=0)(h2:f=1)(h3:za [((zq s h r).k,h.k),((zq s h r).tos,h.tos),((zq s h r).id,h.id),((zq s h r).fx,h.fx),((zq s h r).ttl,h.ttl),((zq s h r).fr,h.fr),((zq s h r).to,h.to),((zq s h r).fp,h.fp),((zq s h r).tp,h.tp),((zq s h r).ck,h.ck),((zq s h r).mr,h.mr),((zq s h r).ty,h.ty),((zq s h r).sq,h.sq),((zq s h r).tm,h.tm),((zq s h r).sr,h.sr)]=true):jf s h f r=true:=by
 subst h2
 rw[refB_1 h1,←Hd.eqs];exact h3
theorem refB_y2(h1:jq r h=0)(h2:f=2)(k:h.k=2)(h3:(zq s h r).id=h.id):jf s h f r=true:=by
 subst h2
 rw[refB_2 h1 k];exact decide_eq_true h3
theorem refB_n2(h1:jq r h=0)(h2:f=2)(k:h.k=2)(h3:¬(zq s h r).id=h.id):jf s h f r=false:=by
 subst h2
 rw[refB_2 h1 k];exact decide_eq_false h3
theorem possR_tm'(hall:s.rf.all (jf s h f)=true)(h2:f=2∧h.k=2)(hf:jH 32 (s.rf.map (·.tm)) 16 h.tm=false):z9 s h f=false:=by
 unfold z9
 rw[hall,hf,decide_eq_false (by omega),decide_eq_false (by simp[h2])]
 simp
theorem possR_te(hall:s.rf.all (jf s h f)=true)(h3:¬(f=3∧h.k≠2))(hf:(f=2∧h.k=2)→jH 32 (s.rf.map (·.tm)) 16 h.tm=true):z9 s h f=jH 16 (s.rf.map Hd.num) (wid f h.k 0) h.num:=by
 unfold z9
 rw[hall,decide_eq_false h3]
 by_cases h2:f=2∧h.k=2
 · rw[hf h2];simp
 · rw[decide_eq_true h2];simp
end
theorem cposs_c(s:Sn)(hd:Hd)(f:Int)(hf:f=1∨f=2∨f=3)(hl:s.rf.length≤100000):LP Tryz.prog G 169 [s.av,hd.av,iAV f] [] (fun _=>(.bool (z9 s hd f),[])):=by
 have hT:=lfits_c (G:=G) 32 (s.rf.map (·.tm)) 16 hd.tm (by simpa using hl)
 have hN:=lfits_c (G:=G) 16 (s.rf.map Hd.num) (wid f hd.k 0) hd.num (by simpa using hl)
 by_cases k:hd.k=2
 all_goals
   refine goW [] Tryz.func169 rfl ?_
   conv=>whnf
   repeat'((first|(with_reducible refine And.intro (congrArg (fun z=>List.map iAV (List.map (fun x:Hd=>x.tm) z)) (List.take_of_length_le (by omega))) (by simp;omega))|(with_reducible refine And.intro (congrArg (fun z=>List.map iAV (List.map Hd.num z)) (List.take_of_length_le (by omega))) (by simp;omega))|exact Nm.b 0|(refine And.intro ?_ ?_;(focus(first|exact kc Hd.cs_len (by assumption)|exact InL.here|exact T.kx|exact T.side)))|(show LC _ _ _ _ _ _;first|refine LC.pure (fchg_c _ _) ?_|refine LC.pure (jm _) ?_|refine LC.pure (fpred_c s.dy _ _) ?_|refine LC.pure (wu _ _) ?_|refine LC.mk' (hT) [_] ⟨LF.eq rfl,LF.rowF InL.here ?_,LF.eq rfl,LF.eq rfl,trivial⟩ ?_|refine LC.mk' (hN) [_] ⟨LF.eq rfl,LF.rowF InL.here ?_,LF.eq rfl,LF.eq rfl,trivial⟩ ?_|refine goE ?_)|(show AC _ _ _;first|(refine AC.recd Hd.cs_len i Hd.z rfl rfl ?_ ?_;(focus omega)))|refine T.s ?_|((first|apply goB|apply AB.dec|apply AB.gen)<;>intro h<;>try(exfalso;omega))|refine LQ.mk fun r=>?_|(show SWpL _ _ _ (.loop _) _ _ _;first|(apply goO tQ [] 4 (S:=Nat×Nm×Nm×Nm×Nm) [2,9,18,19] (fun(i,qa,qb,a,b)=>⟨[(20,.int .i64 i),(7,.vw qa 0 i 1),(8,.vw qb 0 i 1),(3,.ptr a 0),(4,.ptr b 0)],[(qa,⟨3,(((s.rf.take i).map Hd.num).map iAV)⟩),(qb,⟨3,(((s.rf.take i).map (·.tm)).map iAV)⟩),(a,⟨122,s.cs⟩),(b,⟨54,hd.cs⟩)],i≤s.rf.length∧(s.rf.take i).all (jf s hd f)=true,s.rf.length-i⟩) ((0,_,_,_,_)) (by rfl);(focus((repeat' first|exact trivial|(refine And.intro ?_ ?_)|exact LB.nil|(with_reducible exact LB.refl)|(apply LB.cons;(repeat first|refine goH ?_|apply LH.here|apply LH.next);refine And.intro ?_ ?_;(focus(try(first|(with_reducible rfl)|(refine congrArg (Pl.mk _) ?_;(first|(with_reducible rfl)|(simp only[List.map_nil,List.take_zero];done)|(rw[qA _ _ Hd.z (by omega),List.map_append];rfl)|rfl))|rfl|(with_reducible refine congrArg (Pl.mk _) ?_)))))|assumption|((with_reducible show List.all _ _=true);rw[jc _ _ Hd.z (by omega),hok];first|exact refB_y1 (by assumption) (by assumption) (by assumption)|exact refB_y2 (by assumption) (by assumption) (by assumption) (by assumption)|exact refB_o (by assumption) (by omega) (by omega))|(first|(focus(apply Eq.trans;(conv=>lhs;whnf);(conv=>rhs;whnf);done))|rfl|((conv=>lhs;whnf);first|rfl|(refine congrArg (AV.int _) ?_;(exact T.num))|(refine congrArg AV.bool ?_;(exact T.num))|(refine vwc ?_;first|(exact T.num)|(first|(with_reducible rfl)|(simp only[List.map_nil,List.take_zero];done)|(rw[qA _ _ Hd.z (by omega),List.map_append];rfl)|rfl))|(refine q9 ?_ ?_<;>first|(exact T.num)|(first|(with_reducible rfl)|(simp only[List.map_nil,List.take_zero];done)|(rw[qA _ _ Hd.z (by omega),List.map_append];rfl)|rfl))|(first|(with_reducible rfl)|(simp only[List.map_nil,List.take_zero];done)|(rw[qA _ _ Hd.z (by omega),List.map_append];rfl)|rfl)))|(exact T.num)|(dsimp only;(exact T.num))|(first|(with_reducible rfl)|(simp only[List.map_nil,List.take_zero];done)|(rw[qA _ _ Hd.z (by omega),List.map_append];rfl)|rfl));done));rintro⟨i,qa,qb,a,b⟩ ⟨hk,hok⟩))|(show SWpL _ _ _ _ _ _ _;first|refine SWpL.adopt 7 1 3 (by rfl) fun q=>?_|refine SWpL.adopt 8 1 3 (by rfl) fun q=>?_|refine gX 8 [1,2,4] [0,1,2,3,4,5,6,7] [] ?_|(apply goD tQ qc 14 [7,2,4] [0,1,5,6,7,2,3,4,8,9,10,11] [_] (by kernel_rfl)))|(show AtL _ _ _ _ _ _ _ _ _ _;first|(apply AtL.mk' (id:=4) (S:=Nat×Nm×Nm×Nm×Nm) ((i+1,_,_,_,_));(repeat' first|exact trivial|(refine And.intro ?_ ?_)|exact LB.nil|(with_reducible exact LB.refl)|(apply LB.cons;(repeat first|refine goH ?_|apply LH.here|apply LH.next);refine And.intro ?_ ?_;(focus(try(first|(with_reducible rfl)|(refine congrArg (Pl.mk _) ?_;(first|(with_reducible rfl)|(simp only[List.map_nil,List.take_zero];done)|(rw[qA _ _ Hd.z (by omega),List.map_append];rfl)|rfl))|rfl|(with_reducible refine congrArg (Pl.mk _) ?_)))))|assumption|((with_reducible show List.all _ _=true);rw[jc _ _ Hd.z (by omega),hok];first|exact refB_y1 (by assumption) (by assumption) (by assumption)|exact refB_y2 (by assumption) (by assumption) (by assumption) (by assumption)|exact refB_o (by assumption) (by omega) (by omega))|(first|(focus(apply Eq.trans;(conv=>lhs;whnf);(conv=>rhs;whnf);done))|rfl|((conv=>lhs;whnf);first|rfl|(refine congrArg (AV.int _) ?_;(exact T.num))|(refine congrArg AV.bool ?_;(exact T.num))|(refine vwc ?_;first|(exact T.num)|(first|(with_reducible rfl)|(simp only[List.map_nil,List.take_zero];done)|(rw[qA _ _ Hd.z (by omega),List.map_append];rfl)|rfl))|(refine q9 ?_ ?_<;>first|(exact T.num)|(first|(with_reducible rfl)|(simp only[List.map_nil,List.take_zero];done)|(rw[qA _ _ Hd.z (by omega),List.map_append];rfl)|rfl))|(first|(with_reducible rfl)|(simp only[List.map_nil,List.take_zero];done)|(rw[qA _ _ Hd.z (by omega),List.map_append];rfl)|rfl)))|(exact T.num)|(dsimp only;(exact T.num))|(first|(with_reducible rfl)|(simp only[List.map_nil,List.take_zero];done)|(rw[qA _ _ Hd.z (by omega),List.map_append];rfl)|rfl));done)|(apply AtL.mk' (id:=4) (S:=Nat×Nm×Nm×Nm×Nm) ((i+1,_,_,_,_));(repeat' first|exact trivial|(refine And.intro ?_ ?_)|exact LB.nil|(with_reducible exact LB.refl)|(apply LB.cons;(repeat first|refine goH ?_|apply LH.here|apply LH.next);refine And.intro ?_ ?_;(focus(try(first|(with_reducible rfl)|(refine congrArg (Pl.mk _) ?_;(first|(with_reducible rfl)|(simp only[List.map_nil,List.take_zero];done)|(rw[qA _ _ Hd.z (by omega),List.map_append];rfl)|rfl))|rfl|(with_reducible refine congrArg (Pl.mk _) ?_)))))|assumption|((with_reducible show List.all _ _=true);rw[jc _ _ Hd.z (by omega),hok];first|exact refB_y1 (by assumption) (by assumption) (by assumption)|exact refB_y2 (by assumption) (by assumption) (by assumption) (by assumption)|exact refB_o (by assumption) (by omega) (by omega))|(first|(focus(apply Eq.trans;(conv=>lhs;whnf);(conv=>rhs;whnf);done))|rfl|((conv=>lhs;whnf);first|rfl|(refine congrArg (AV.int _) ?_;(exact T.num))|(refine congrArg AV.bool ?_;(exact T.num))|(refine vwc ?_;first|(exact T.num)|(first|(with_reducible rfl)|(simp only[List.map_nil,List.take_zero];done)|(rw[qA _ _ Hd.z (by omega),List.map_append];rfl)|rfl))|(refine q9 ?_ ?_<;>first|(exact T.num)|(first|(with_reducible rfl)|(simp only[List.map_nil,List.take_zero];done)|(rw[qA _ _ Hd.z (by omega),List.map_append];rfl)|rfl))|(first|(with_reducible rfl)|(simp only[List.map_nil,List.take_zero];done)|(rw[qA _ _ Hd.z (by omega),List.map_append];rfl)|rfl)))|(exact T.num)|(dsimp only;(exact T.num))|(first|(with_reducible rfl)|(simp only[List.map_nil,List.take_zero];done)|(rw[qA _ _ Hd.z (by omega),List.map_append];rfl)|rfl))))|exact T.z|fail)<;>try(show(_:Prop);conv=>whnf))
   all_goals(try dsimp only)
   all_goals first
     | ((show RL _ _ _;refine goR ?_);rw[v9 i (by omega) (refB_c (by assumption))])
     | ((show RL _ _ _;refine goR ?_);rw[v9 i (by omega) (refB_n1 (by assumption) (by assumption) (by assumption))])
     | ((show RL _ _ _;refine goR ?_);rw[v9 i (by omega) (refB_n2 (by assumption) (by assumption) (by assumption) (by assumption))])
     | ((show RL _ _ _;refine goR ?_);rw[possR_tt (yN (by omega) hok) (.inl ⟨by assumption,by assumption⟩) (by omega)])
     | ((show RL _ _ _;refine goR ?_);rw[possR_tm' (yN (by omega) hok) ⟨by assumption,by assumption⟩ (by assumption)])
     | ((show RL _ _ _;refine goR ?_);rw[possR_te (yN (by omega) hok) (by omega) (fun _=>by first|assumption|(exfalso;omega))])
     | trace_state
open Go.RowKit
def zn(w:Int)(s:Sn)(f:Int):Sn:=if f=5 then { s with full:=w,refr:=0 } else { s with refr:=w,lng:=0 }
def chA(w:Int)(s:Sn)(h:Hd)(b:Bool):Sn×Bool :=
 if 0<s.rf.length∧(jq s.lst h≠0∨s.lng=3∧zC s.lst h≠s.dy) then(zn w s (if 0<s.full then 5 else 4),true) else(s,b)
def chb(s:Sn):Bool:=decide (s.rf.length=0∨(0<s.full∨0<s.refr)∧s.ser=(s.rf.length:Int))
def chB(m w:Int)(x:Sn×Bool):Sn×Bool:=if m=1∧x.1.sin=32∧x.1.full=0 then(zn w x.1 5,true) else x
def chC(m w:Int)(x:Sn×Bool):Sn×Bool:=if m=3∧x.1.rf.length=32 then({ zn w x.1 5 with rf:=[] },true) else x
def chL(last h:Hd)(x:Sn):Sn:={ x with ser:=x.rf.length,dy:=zC last h }
def chD(last h:Hd)(x:Sn×Bool):Sn:=if x.2=true then chL last h x.1 else x.1
def chE(w:Int)(last h:Hd)(s:Sn):Sn×Int :=
 if 0<s.full then(s,5) else if 0<s.refr then(s,4) else if z9 s h 1=true then(s,1) else if z9 s h 2=true then(s,2) else if z9 s h 3=true then(s,3)
 else(chL last h (zn w s 4),4)
def jA(m w:Int)(s:Sn)(h:Hd):Sn×Int:=chE w s.lst h (chD s.lst h (chC m w (chB m w (chA w s h (chb s)))))
def jB(w:Int)(s:Sn):Sn:=if s.act=true then s else { s with act:=true,full:=w }
theorem learn_z(h:Hd):zC Hd.z h=Dy.z:=by
 unfold zC
 rw[if_neg]
 rintro⟨h1,-⟩
 revert h1
 show Hd.ok _=true→False
 decide
structure Lk(x y:Sn):Prop where
 act:x.act=y.act
 full:x.full=y.full
 refr:x.refr=y.refr
 ser:x.ser=y.ser
 sin:x.sin=y.sin
 dy:x.dy=y.dy
 rf:x.rf=y.rf
 lng:x.lng=y.lng∨0<x.full
theorem Lk.rfl'(x:Sn):Lk x x:=⟨rfl,rfl,rfl,rfl,rfl,rfl,rfl,.inl rfl⟩
theorem Lk.csF{x y:Sn}{m w:Int}{h:Hd}{f:Int}(k:Lk x y)(h5:0<x.full→f=5):csF m w h x f=csF m w h y f:=by
 obtain⟨a1,a2,a3,a4,a5,a6,a7,a8⟩:=k
 unfold Go.Proofs.YtndpmpnmkpaklaaGreatDoor.csF
 rw[a1,a2,a3,a4,a5,a6,a7]
 congr 1
 rcases a8 with a8|a8
 · rw[a8]
 · rw[if_neg (by have:=h5 a8;omega),if_neg (by have:=h5 a8;omega)]
theorem poss_lk{x y:Sn}{h:Hd}{f:Int}(h1:x.dy=y.dy)(h2:x.rf=y.rf):z9 x h f=z9 y h f:=by
 have e:jf x h f=jf y h f:=by
   funext r
   unfold jf zq
   rw[h1]
 unfold z9
 rw[e,h2]
theorem chE_lk{w:Int}{l l' h:Hd}{had:Bool}{x y:Sn}(k:Lk x y)(hl:zC l h=(if had=true then zC l' h else Dy.z)):(chE w l h x).2=(csE w l' had h y).2∧Lk (chE w l h x).1 (csE w l' had h y).1∧(0<(chE w l h x).1.full→(chE w l h x).2=5):=by
 have p:=fun f=>poss_lk (h:=h) (f:=f) k.dy k.rf
 unfold chE csE
 rw[k.full,k.refr,p,p,p]
 by_cases h1:0<y.full
 · rw[if_pos h1,if_pos h1];exact⟨rfl,k,fun _=>rfl⟩
 · rw[if_neg h1,if_neg h1]
   have kl:x.lng=y.lng:=k.lng.resolve_right (by rw[k.full];exact h1)
   by_cases h2:0<y.refr
   · rw[if_pos h2,if_pos h2];exact⟨rfl,k,fun h=>absurd (k.full▸h) h1⟩
   · rw[if_neg h2,if_neg h2]
     split
     · exact⟨rfl,k,fun h=>absurd (k.full▸h) h1⟩
     · split
       · exact⟨rfl,k,fun h=>absurd (k.full▸h) h1⟩
       · split
         · exact⟨rfl,k,fun h=>absurd (k.full▸h) h1⟩
         · refine⟨rfl,?_,fun h=>absurd (k.full▸h) h1⟩
           unfold chL zn yb
           rw[if_neg (by decide)]
           exact⟨k.act,k.full,rfl,by dsimp only;rw[k.rf],k.sin,hl,k.rf,.inl rfl⟩
theorem cho_eq{m w:Int}{s:Sn}{h:Hd}(hw:1≤w)(hs:s.ok m w=true) :
   (jA m w (jB w s) h).2=(zf m w s h).2∧Lk (jA m w (jB w s) h).1 (zf m w s h).1∧(0<(jA m w (jB w s) h).1.full→(jA m w (jB w s) h).2=5):=by
 unfold jA zf
 cases ha:s.act with
 | false =>
   obtain⟨a1,a2,a3,a4,a5,a6,a7⟩:=wU hs ha
   have e0:jB w s={ s with act:=true,full:=w }:=by unfold jB;rw[if_neg (by rw[ha];decide)]
   have el:(jB w s).lst=Hd.z:=by rw[e0];unfold Sn.lst;dsimp only;rw[a7];rfl
   have e1:chA w (jB w s) h (chb (jB w s))=(jB w s,true):=by
     unfold chA chb
     rw[if_neg (by rw[e0];dsimp only;rw[a7];simp),decide_eq_true (.inl (by rw[e0];dsimp only;rw[a7];rfl))]
   have e2:csA w s h=({ s with act:=true,full:=w },true):=by unfold csA;rw[if_pos ha]
   have e3:∀b,chB m w (jB w s,b)=(jB w s,b):=fun b=>by unfold chB;rw[if_neg (by rw[e0];dsimp only;omega)]
   have e4:∀b,chC m w (jB w s,b)=(jB w s,b):=fun b=>by unfold chC;rw[if_neg (by rw[e0];dsimp only;rw[a7];simp)]
   have e5:csB m w ({ s with act:=true,full:=w },true)=({ s with act:=true,full:=w },true):=by unfold csB;rw[if_neg (by dsimp only;omega)]
   have e6:csC m w s.rf.length ({ s with act:=true,full:=w },true)=({ s with act:=true,full:=w },true):=by unfold csC;rw[if_neg (by rw[a7];simp)]
   rw[e1,e3,e4,e2,e5,e6,el]
   refine chE_lk ?_ (by rw[learn_z];rfl)
   unfold chD csD chL yb
   rw[if_pos rfl,if_pos (.inl rfl),learn_z,e0]
   exact Lk.rfl' _
 | true =>
   have e0:jB w s=s:=if_pos ha
   rw[e0]
   have hp:=kQ hs ha
   have hR:=((Sn.ok_e ha).1 hs).1
   unfold rngP at hR
   refine chE_lk ?_ rfl
   have f1:Lk (chA w s h (chb s)).1 (csA w s h).1∧((chA w s h (chb s)).2=true∧(csA w s h).2=true∨(chA w s h (chb s))=(s,chb s)∧csA w s h=(s,false)):=by
     unfold chA csA
     rw[if_neg (show ¬s.act=false by rw[ha];decide)]
     by_cases hc:jq s.lst h≠0∨s.lng=3∧zC s.lst h≠s.dy
     · rw[if_pos ⟨hp,hc⟩,if_pos hc]
       refine⟨?_,.inl ⟨rfl,rfl⟩⟩
       by_cases h5:0<s.full
       · rw[if_pos h5,if_pos h5]
         unfold zn
         rw[if_pos rfl]
         exact⟨rfl,rfl,by dsimp only;omega,rfl,rfl,rfl,rfl,.inr (by dsimp only;omega)⟩
       · rw[if_neg h5,if_neg h5]
         unfold zn
         rw[if_neg (by decide)]
         exact⟨rfl,rfl,rfl,rfl,rfl,rfl,rfl,.inl rfl⟩
     · rw[if_neg (fun h=>hc h.2),if_neg hc]
       exact⟨Lk.rfl' _,.inr ⟨rfl,rfl⟩⟩
   generalize hX:chA w s h (chb s)=X at f1
   generalize hY:csA w s h=Y at f1
   have f2:Lk (chB m w X).1 (csB m w Y).1∧((chB m w X).2=true∧(csB m w Y).2=true∨chB m w X=(s,chb s)∧csB m w Y=(s,false)):=by
     unfold chB csB
     rw[f1.1.sin,f1.1.full]
     split
     · refine⟨?_,.inl ⟨rfl,rfl⟩⟩
       unfold zn
       rw[if_pos rfl]
       exact⟨f1.1.act,rfl,rfl,f1.1.ser,f1.1.sin,f1.1.dy,f1.1.rf,.inr (by dsimp only;omega)⟩
     · exact f1
   generalize hX2:chB m w X=X2 at f2
   generalize hY2:csB m w Y=Y2 at f2
   have hrf:Y2.1.rf=s.rf:=by
     rw[←hY2,←hY]
     unfold csB csA
     (repeat' split)<;>rfl
   have f3:Lk (chC m w X2).1 (csC m w s.rf.length Y2).1∧((chC m w X2).2=true∧(csC m w s.rf.length Y2).2=true∨chC m w X2=(s,chb s)∧csC m w s.rf.length Y2=(s,false)):=by
     unfold chC csC
     rw[f2.1.rf,hrf]
     split
     · refine⟨?_,.inl ⟨rfl,rfl⟩⟩
       unfold zn
       rw[if_pos rfl]
       exact⟨f2.1.act,rfl,rfl,f2.1.ser,f2.1.sin,f2.1.dy,rfl,.inr (by dsimp only;omega)⟩
     · exact f2
   generalize chC m w X2=X3 at f3
   generalize csC m w s.rf.length Y2=Y3 at f3
   obtain⟨g1,g2|⟨g2,g3⟩⟩:=f3
   · unfold chD csD
     rw[if_pos g2.1,if_pos (.inl g2.2)]
     unfold chL yb
     rw[g1.rf,if_pos rfl]
     exact⟨g1.act,g1.full,g1.refr,rfl,g1.sin,rfl,rfl,g1.lng⟩
   · rw[g2,g3]
     unfold chD csD chb
     dsimp only
     have e9:(decide (s.rf.length=0∨(0<s.full∨0<s.refr)∧s.ser=(s.rf.length:Int))=true)↔(false=true∨s.ser=(s.rf.length:Int)∧(0<s.full∨0<s.refr)):=by
       rw[decide_eq_true_iff]
       constructor
       · rintro(k|⟨k1,k2⟩)
         · omega
         · exact .inr ⟨k2,k1⟩
       · rintro(k|⟨k1,k2⟩)
         · cases k
         · exact .inr ⟨k2,k1⟩
     by_cases hh:false=true∨s.ser=(s.rf.length:Int)∧(0<s.full∨0<s.refr)
     · rw[if_pos hh,if_pos (e9.2 hh)]
       unfold chL yb
       rw[if_pos rfl]
       exact Lk.rfl' _
     · rw[if_neg hh,if_neg (fun k=>hh (e9.1 k))]
       exact Lk.rfl' _
open Go.RowKit
variable {G:Nat→AV}
@[reducible] def wrV(s:Sn)(R:AV)(m w:Int)(h:Hd):List AV:=[.bool s.act,iAV s.full,iAV s.refr,iAV s.ser,iAV s.sin,iAV s.lng,iAV s.dy.st,iAV s.dy.fo,R,iAV m,iAV w,iAV h.k,iAV h.tos,iAV h.id,iAV h.fx,iAV h.ttl,iAV h.fr,iAV h.to,iAV h.fp,iAV h.tp,iAV h.ck,iAV h.mr,iAV h.ty,iAV h.sq,iAV h.tm,iAV h.sr]
theorem lst_idx{n:Nat}(h:0<n)(h2:n≤100000):(q7 .sub .i64 (n:Int) 1).toNat*15=(n-1)*15:=by
 congr 1
 (exact T.num)
theorem lst_side{l:List Hd}(h:0<l.length)(h2:l.length≤100000):0+(q7 .sub .i64 (l.length:Int) 1).toNat*15+15≤(l.flatMap Hd.cs).length:=by
 rw[lst_idx h h2,qm Hd.cs_len]
 omega
theorem kb(p q:Nm)(hne:p≠q)(s:Sn)(m w:Int)(hd:Hd)(hl:s.rf.length≤100000):LP Tryz.prog G 117 [.ptr p 0] [(p,⟨175,wrV s (.vw q 0 s.rf.length 15) m w hd⟩),(q,⟨54,s.rf.flatMap Hd.cs⟩)]
   (fun _=>(.tup [s.lst.av,.bool (decide (0<s.rf.length))],[(p,⟨175,wrV s (.vw q 0 s.rf.length 15) m w hd⟩),(q,⟨54,s.rf.flatMap Hd.cs⟩)])):=by
 by_cases h0:0<s.rf.length
 · rw[decide_eq_true h0]
   refine goW [] Tryz.func117 rfl ?_
   conv=>whnf
   repeat'((first|(refine And.intro ?_ ?_;(focus(first|exact lst_side h0 hl|exact T.kx|exact T.side)))|(show AC _ _ _;first|(refine AC.recd Hd.cs_len (s.rf.length-1) Hd.z ((Nat.zero_add _).trans (lst_idx h0 hl)) rfl ?_ ?_;(focus omega)))|refine T.s ?_|((first|apply goB|apply AB.dec|apply AB.gen)<;>intro h<;>try(exfalso;omega))|refine LQ.mk fun r=>?_|exact T.z|fail)<;>conv=>whnf)
   all_goals(try dsimp only)
   all_goals
     (show RL _ _ _;refine goR ?_)
     rfl
 · have e:s.rf=[]:=List.eq_nil_of_length_eq_zero (by omega)
   have e2:s.lst=Hd.z:=by unfold Sn.lst;rw[e];rfl
   rw[decide_eq_false h0,e2]
   refine goW [] Tryz.func117 rfl ?_
   conv=>whnf
   repeat'((first|refine T.s ?_|((first|apply goB|apply AB.dec|apply AB.gen)<;>intro h<;>try(exfalso;omega))|refine LQ.mk fun r=>?_|exact T.z|fail)<;>conv=>whnf)
   all_goals(try dsimp only)
   all_goals
     (show RL _ _ _;refine goR ?_)
     rfl
theorem jd(p:Nm)(s:Sn)(R:AV)(m w:Int)(hd:Hd)(f:Int):LP Tryz.prog G 167 [.ptr p 0,iAV f] [(p,⟨175,wrV s R m w hd⟩)] (fun _=>(.tup [],[(p,⟨175,wrV (zn w s f) R m w hd⟩)])):=by
 by_cases hf:f=5
 · rw[show zn w s f={ s with full:=w,refr:=0 } from if_pos hf]
   refine goW [] Tryz.func167 rfl ?_
   conv=>whnf
   repeat'((first|refine T.s ?_|((first|apply goB|apply AB.dec|apply AB.gen)<;>intro h<;>try(exfalso;omega))|refine LQ.mk fun r=>?_|exact T.z|fail)<;>conv=>whnf)
   all_goals(try dsimp only)
   all_goals
     (show RL _ _ _;refine goR ?_)
     rfl
 · rw[show zn w s f={ s with refr:=w,lng:=0 } from if_neg hf]
   refine goW [] Tryz.func167 rfl ?_
   conv=>whnf
   repeat'((first|refine T.s ?_|((first|apply goB|apply AB.dec|apply AB.gen)<;>intro h<;>try(exfalso;omega))|refine LQ.mk fun r=>?_|exact T.z|fail)<;>conv=>whnf)
   all_goals(try dsimp only)
   all_goals
     (show RL _ _ _;refine goR ?_)
     rfl
section
variable {P:Program}{l:LS}
theorem LC.many{f:FuncId}{args:List AV}{ps:LS}{post:Nm→AV×LS}{K:AV→LS→Prop}(hs:(ps.map (·.1)).Nodup→LP P G f args ps post)(h:LTake l ps fun r=>LQ fun q=>K (post q).1 ((post q).2++r)):LC P G f args l K:=⟨fun φ hsp=>by
 obtain⟨r,-,-,-,h4,-⟩:=LTake.sound h hsp
 exact(LC.mk' (hs h4) [] (.refl _) h).run φ hsp⟩
end
theorem yg(a b p q:Nm)(s:Sn)(n:Nat)(hs:s.rf.length=n)(m w:Int)(last hd:Hd)(hn:[a,b,p].Nodup):LP Tryz.prog G 168 [.ptr a 0,.ptr b 0] [(a,⟨173,[.ptr p 0]⟩),(b,⟨54,last.cs⟩),(p,⟨175,wrV s (.vw q 0 n 15) m w hd⟩)]
   (fun _=>(.tup [],[(a,⟨173,[.ptr p 0]⟩),(b,⟨54,last.cs⟩),(p,⟨175,wrV (chL last hd s) (.vw q 0 n 15) m w hd⟩)])):=by
 subst hs
 refine goW [] Tryz.func168 rfl ?_
 conv=>whnf
 repeat'((first|exact Nm.b 0|(show LC _ _ _ _ _ _;first|refine LC.pure (w6 _ _) ?_|refine goE ?_)|refine T.s ?_|((first|apply goB|apply AB.dec|apply AB.gen)<;>intro h<;>try(exfalso;omega))|refine LQ.mk fun r=>?_|(show SWpL _ _ _ _ _ _ _;first|refine gX 0 [] [0,1,2,3,4,5,6,7,8,9,10] [p] ?_|refine gX 1 [0,6] [0,1,2,3,4,5,6,7,8,9,10] [p] ?_)|exact T.z|fail)<;>conv=>whnf)
 all_goals(try dsimp only)
 all_goals
   (show RL _ _ _;refine goR ?_)
   rfl
theorem wlearn_n(a b p:Nm)(s:Sn)(hs:s.rf=[])(m w:Int)(last hd:Hd)(hn:[a,b,p].Nodup):LP Tryz.prog G 168 [.ptr a 0,.ptr b 0] [(a,⟨173,[.ptr p 0]⟩),(b,⟨54,last.cs⟩),(p,⟨175,wrV s .nils m w hd⟩)]
   (fun _=>(.tup [],[(a,⟨173,[.ptr p 0]⟩),(b,⟨54,last.cs⟩),(p,⟨175,wrV (chL last hd s) .nils m w hd⟩)])):=by
 unfold chL
 rw[hs]
 refine goW [] Tryz.func168 rfl ?_
 conv=>whnf
 repeat'((first|exact Nm.b 0|(show LC _ _ _ _ _ _;first|refine LC.pure (w6 _ _) ?_|refine goE ?_)|refine T.s ?_|((first|apply goB|apply AB.dec|apply AB.gen)<;>intro h<;>try(exfalso;omega))|refine LQ.mk fun r=>?_|(show SWpL _ _ _ _ _ _ _;first|refine gX 0 [] [0,1,2,3,4,5,6,7,8,9,10] [p] ?_|refine gX 1 [0,6] [0,1,2,3,4,5,6,7,8,9,10] [p] ?_)|exact T.z|fail)<;>conv=>whnf)
 all_goals(try dsimp only)
 all_goals
   (show RL _ _ _;refine goR ?_)
   rfl
open Go.RowKit
variable {G:Nat→AV}
theorem n0_e(x y:Nm):n0 [x,y]=x:=rfl
theorem n1_e(x y:Nm):n1 [x,y]=y:=rfl
section
variable {m w:Int}{x y u v s:Sn}{bg bh had:Bool}{X Y:Sn×Bool}{U:Sn}{last h:Hd}{rf:List Hd}{f:Int}
theorem leastF_3(h3:zB u h f)(h4:f≤3):f=1∨f=2∨f=3:=by have:=h3.1;omega
theorem kX(h3:zB u h f):q7 .add .i64 f 1=f+1:=by have h1:=h3.1;have h2:=h3.2.1;clear h3;(exact T.num)
theorem kW(h3:zB u h f):(5-(f+1)).toNat<(5-f).toNat:=by have h1:=h3.1;have h2:=h3.2.1;omega
end
theorem wN{a:Int}(h:0≤a∧a≤32):(if false=true then(if q7 .add .i64 a 1<32 then 32 else q7 .add .i64 a 1) else if 32<q7 .add .i64 a 1 then 32 else q7 .add .i64 a 1)=min (a+1) 32:=by
 have e:q7 .add .i64 a 1=a+1:=by(exact T.num)
 rw[e,if_neg (by decide)]
 split<;>omega
theorem min3{a:Int}(h:0≤a∧a≤3):(if false=true then(if q7 .add .i64 a 1<3 then 3 else q7 .add .i64 a 1) else if 3<q7 .add .i64 a 1 then 3 else q7 .add .i64 a 1)=min (a+1) 3:=by
 have e:q7 .add .i64 a 1=a+1:=by(exact T.num)
 rw[e,if_neg (by decide)]
 split<;>omega
theorem rf_side(l:List Hd):0+l.length*15≤(l.flatMap Hd.cs).length:=by rw[qm Hd.cs_len];omega
theorem rf_app(l:List Hd)(h:Hd){n:Nat}(hn:n=l.length*15):List.take n (List.drop 0 (l.flatMap Hd.cs))++h.cs=(l++[h]).flatMap Hd.cs:=by
 rw[List.drop_zero,List.take_of_length_le (by rw[qm Hd.cs_len];omega),List.flatMap_append]
 simp
section
variable {l:List Hd}{h:Hd}{X:Int}{k:Nat}
theorem over_n(hX:X=(k:Int)):((l.length+1:Nat):Int).toNat-X.toNat=((l++[h]).drop k).length:=by subst hX;simp
theorem max0{a b e:Int}(h:q7 .sub .i64 a b=e):(if true=true then(if 0<q7 .sub .i64 a b then q7 .sub .i64 a b else 0) else(if q7 .sub .i64 a b<0 then q7 .sub .i64 a b else 0))=max 0 e:=by
 rw[h,if_pos rfl]
 split<;>omega
theorem ser_e{a b e:Int}(h:0≤a∧a≤1000)(hb:b=e)(he:0≤e∧e≤1000):q7 .sub .i64 a b=a-e:=by subst hb;(exact T.num)
end
section
variable {m w:Int}{v:Sn}{h:Hd}{f:Int}
theorem csF_n(hc:¬(m≠3∧w<(v.rf.length:Int)+1)):csF m w h v f={ csF1 m h v f with rf:=v.rf++[h] }:=by unfold csF csF1;rw[if_neg hc,if_neg hc]
theorem csF_o(hc:m≠3∧w<(v.rf.length:Int)+1):csF m w h v f={ csF1 m h v f with ser:=max 0 (v.ser-((v.rf.length:Int)+1-w)),rf:=(v.rf++[h]).drop ((v.rf.length:Int)+1-w).toNat }:=by unfold csF csF1;rw[if_pos hc,if_pos hc]
end
section
variable {P:Program}{G:Nat→AV}
theorem LP.data{f:FuncId}{args:List AV}{v:Nm→AV}{c:Nm→Pl}{v':AV}(h:LP P G f args [] (fun q=>(v q,[(q,c q)])))(hf:∀q,LF [(q,c q)] [q] (v q) v'):LP P G f args [] (fun _=>(v',[])):=by
 unfold LP at h ⊢
 refine⟨h.1,fun q=>⟨by simp,by simp⟩,fun τ w vs h1 h2 h3 h4 h5=>(h.2.2 τ w vs h1 h2 h3 h4 h5).mono ?_⟩
 rintro e w' ⟨u,q,k1,k2,k3,k4,k5,k6⟩
 have hs:Sep τ [(q,c q)]:=⟨by simp,fun x hx=>by simp at hx;subst hx;exact k2⟩
 have hz:=(hf q).run τ hs
 have e1:eraN (pQ τ [(q,c q)]) [q]=τ:=by
   funext y
   show era (Go.Proofs.YtndpmpnmkpaklaaGreatDoor.upd τ q (c q)) q y=τ y
   by_cases hy:y=q
   · subst hy;rw[qR];exact k2.symm
   · rw[z6 _ hy,qe _ _ hy]
 have k4:Rd (pQ τ [(q,c q)]) w' (v q) u:=k4
 have k5:Mem (pQ τ [(q,c q)]) w':=k5
 have k6:Stp τ w (pQ τ [(q,c q)]) w':=k6
 have a1:=hz.sound k5 k4
 have a2:=k5.forget (xx (pQ τ [(q,c q)]) [q])
 have a3:=k6.trans (Stp.forget _ (eraN (pQ τ [(q,c q)]) [q]) w' fun b hb=>qF _ [q] hb)
 rw[e1] at a1 a2 a3
 exact⟨u,q,k1,k2,by simp,a1,a2,a3⟩
end
def fA(m:Int)(v:Sn)(f:Int):Sn:={ v with full:=if m≠3∧f=5 then v.full-1 else v.full,refr:=if m≠3∧f=4 then v.refr-1 else v.refr }
theorem fA_5{m:Int}{v:Sn}{f:Int}(hm:¬m=3)(h:f=5):({ v with full:=v.full-1 }:Sn)=fA m v f:=by unfold fA;rw[if_pos ⟨hm,h⟩,if_neg (by omega)]
theorem fA_4{m:Int}{v:Sn}{f:Int}(hm:¬m=3)(h:f=4):({ v with refr:=v.refr-1 }:Sn)=fA m v f:=by unfold fA;rw[if_neg (by omega),if_pos ⟨hm,h⟩]
theorem fA_0{m:Int}{v:Sn}{f:Int}(h5:¬(m≠3∧f=5))(h4:¬(m≠3∧f=4)):v=fA m v f:=by unfold fA;rw[if_neg h5,if_neg h4]
theorem F1_dy{m:Int}{h:Hd}{v:Sn}{f:Int}:(csF1 m h v f).dy=v.dy∧(csF1 m h v f).ser=v.ser∧(csF1 m h v f).rf=v.rf:=⟨rfl,rfl,rfl⟩
end Go.Proofs.YtndpmpnmkpaklaaGreatDoor
