/-
  Contracts of the functions that the laws reach.
-/
import Derived.Test.YtndpmpnmkpaklaaGreatDoorHr37
set_option maxHeartbeats 4000000
set_option linter.all false
namespace Go.Proofs.YtndpmpnmkpaklaaGreatDoor
open Go.RowKit
def lstS(x:Nat×Nat)(k:Int):Nat×Nat:=if k=4 then(max x.1 (x.2+1),x.2+1) else if k=3 then(x.1,0) else x
def lstI:List (Int×Int)→Nat×Nat→Nat×Nat
 | [],x=>x
 | s::l,x=>lstI l (lstS x s.1)
def lostR(l:List (Int×Int)):Nat:=(lstI l (0,0)).1
theorem lstI_app:∀(l m:List (Int×Int)) (x:Nat×Nat),lstI (l++m) x=lstI m (lstI l x)
 | [],_,_=>rfl
 | _::l,m,x=>lstI_app l m _
theorem qL{l:List (Int×Int)}{i:Nat}{x y:Nat×Nat}(hi:i<l.length)(h:lstI (l.take i) (0,0)=x)(hy:lstS x (l.getD i (0,0)).1=y):lstI (l.take (i+1)) (0,0)=y:=by
 rw[List.take_succ_eq_append_getElem hi,lstI_app,h,←hy]
 simp[List.getD_eq_getElem?_getD,hi,lstI]
theorem kf{x:Nat×Nat}{k:Int}(h:k=4){y:Nat×Nat}(hy:y=(max x.1 (x.2+1),x.2+1)):lstS x k=y:=by subst hy;exact if_pos h
theorem lst_z{x:Nat×Nat}{k:Int}(h:¬k=4)(h3:k=3):lstS x k=(x.1,0):=(if_neg h).trans (if_pos h3)
theorem lst_s{x:Nat×Nat}{k:Int}(h:¬k=4)(h3:¬k=3):lstS x k=x:=(if_neg h).trans (if_neg h3)
theorem mx_e{a b:Nat}(h:b≤100000):(if(a:Int)<q7 .add .i64 (b:Int) 1 then q7 .add .i64 (b:Int) 1 else(a:Int))=((max a (b+1):Nat):Int):=by
 have h1:q7 .add .i64 (b:Int) 1=(b:Int)+1:=by(exact T.num)
 rw[h1]
 split<;>omega
theorem md_e{b:Nat}(h:b≤100000):q7 .add .i64 (b:Int) 1=((b+1:Nat):Int):=by(exact T.num)
section
variable {G:Nat→AV}
theorem hlost_c(l:List (Int×Int))(hl:l.length≤100000):LP Tryz.prog G 21 [spv l] [] (fun _=>(iAV (lostR l),[])):=by
 refine goW [] Tryz.func21 rfl ?_
 conv=>whnf
 repeat'((first|(refine And.intro ?_ ?_;(focus(first|exact kc kH (by assumption)|exact T.kx|exact T.side)))|(show AC _ _ _;first|(refine AC.recd kH i (0,0) ?_ rfl ?_ ?_;(focus((try dsimp only);omega));(focus omega)))|refine T.s ?_|((first|apply goB|apply AB.dec|apply AB.gen)<;>intro h<;>try(exfalso;omega))|refine LQ.mk fun r=>?_|(show SWpL _ _ _ (.loop _) _ _ _;first|(apply goO tQ [] 3 (S:=Nat×(Nat×Nat)) [7,8] (fun(i,x)=>⟨[(9,.int .i64 i),(3,.int .i64 x.1),(4,.int .i64 x.2)],[],i≤l.length∧x.1≤i∧x.2≤i∧lstI (l.take i) (0,0)=x,l.length-i⟩) ((0,(0,0))) (by rfl);(focus((repeat' first|exact trivial|(refine And.intro ?_ ?_)|exact LB.nil|(with_reducible exact LB.refl)|(apply LB.cons;(repeat first|refine goH ?_|apply LH.here|apply LH.next);refine And.intro ?_ ?_;(focus(try(first|(with_reducible rfl)|(refine congrArg (Pl.mk _) ?_;(first|rfl|(simp;done)))|rfl|(with_reducible refine congrArg (Pl.mk _) ?_)))))|assumption|(exact qL (by omega) hok (kf (by assumption) rfl))|(exact qL (by omega) hok (lst_z (by assumption) (by assumption)))|(exact qL (by omega) hok (lst_s (by assumption) (by assumption)))|((conv=>lhs;whnf);refine congrArg (AV.int _) ?_;first|exact mx_e (by omega)|exact md_e (by omega))|(show max _ _≤_;omega)|(exact Nat.le_succ_of_le (by assumption))|(first|(focus(apply Eq.trans;(conv=>lhs;whnf);(conv=>rhs;whnf);done))|rfl|((conv=>lhs;whnf);first|rfl|(refine congrArg (AV.int _) ?_;(exact T.num))|(refine congrArg AV.bool ?_;(exact T.num))|(refine vwc ?_;first|(exact T.num)|(first|rfl|(simp;done)))|(refine q9 ?_ ?_<;>first|(exact T.num)|(first|rfl|(simp;done)))|(first|rfl|(simp;done))))|(exact T.num)|(dsimp only;(exact T.num))|(first|rfl|(simp;done)));done));rintro⟨i,x⟩ ⟨hk,hk,hk,hok⟩))|(show AtL _ _ _ _ _ _ _ _ _ _;first|(apply AtL.mk' (id:=3) (S:=Nat×(Nat×Nat)) ((i+1,(max x.1 (x.2+1),x.2+1)));(repeat' first|exact trivial|(refine And.intro ?_ ?_)|exact LB.nil|(with_reducible exact LB.refl)|(apply LB.cons;(repeat first|refine goH ?_|apply LH.here|apply LH.next);refine And.intro ?_ ?_;(focus(try(first|(with_reducible rfl)|(refine congrArg (Pl.mk _) ?_;(first|rfl|(simp;done)))|rfl|(with_reducible refine congrArg (Pl.mk _) ?_)))))|assumption|(exact qL (by omega) hok (kf (by assumption) rfl))|(exact qL (by omega) hok (lst_z (by assumption) (by assumption)))|(exact qL (by omega) hok (lst_s (by assumption) (by assumption)))|((conv=>lhs;whnf);refine congrArg (AV.int _) ?_;first|exact mx_e (by omega)|exact md_e (by omega))|(show max _ _≤_;omega)|(exact Nat.le_succ_of_le (by assumption))|(first|(focus(apply Eq.trans;(conv=>lhs;whnf);(conv=>rhs;whnf);done))|rfl|((conv=>lhs;whnf);first|rfl|(refine congrArg (AV.int _) ?_;(exact T.num))|(refine congrArg AV.bool ?_;(exact T.num))|(refine vwc ?_;first|(exact T.num)|(first|rfl|(simp;done)))|(refine q9 ?_ ?_<;>first|(exact T.num)|(first|rfl|(simp;done)))|(first|rfl|(simp;done))))|(exact T.num)|(dsimp only;(exact T.num))|(first|rfl|(simp;done)));done)|(apply AtL.mk' (id:=3) (S:=Nat×(Nat×Nat)) ((i+1,(x.1,0)));(repeat' first|exact trivial|(refine And.intro ?_ ?_)|exact LB.nil|(with_reducible exact LB.refl)|(apply LB.cons;(repeat first|refine goH ?_|apply LH.here|apply LH.next);refine And.intro ?_ ?_;(focus(try(first|(with_reducible rfl)|(refine congrArg (Pl.mk _) ?_;(first|rfl|(simp;done)))|rfl|(with_reducible refine congrArg (Pl.mk _) ?_)))))|assumption|(exact qL (by omega) hok (kf (by assumption) rfl))|(exact qL (by omega) hok (lst_z (by assumption) (by assumption)))|(exact qL (by omega) hok (lst_s (by assumption) (by assumption)))|((conv=>lhs;whnf);refine congrArg (AV.int _) ?_;first|exact mx_e (by omega)|exact md_e (by omega))|(show max _ _≤_;omega)|(exact Nat.le_succ_of_le (by assumption))|(first|(focus(apply Eq.trans;(conv=>lhs;whnf);(conv=>rhs;whnf);done))|rfl|((conv=>lhs;whnf);first|rfl|(refine congrArg (AV.int _) ?_;(exact T.num))|(refine congrArg AV.bool ?_;(exact T.num))|(refine vwc ?_;first|(exact T.num)|(first|rfl|(simp;done)))|(refine q9 ?_ ?_<;>first|(exact T.num)|(first|rfl|(simp;done)))|(first|rfl|(simp;done))))|(exact T.num)|(dsimp only;(exact T.num))|(first|rfl|(simp;done)));done)|(apply AtL.mk' (id:=3) (S:=Nat×(Nat×Nat)) ((i+1,x));(repeat' first|exact trivial|(refine And.intro ?_ ?_)|exact LB.nil|(with_reducible exact LB.refl)|(apply LB.cons;(repeat first|refine goH ?_|apply LH.here|apply LH.next);refine And.intro ?_ ?_;(focus(try(first|(with_reducible rfl)|(refine congrArg (Pl.mk _) ?_;(first|rfl|(simp;done)))|rfl|(with_reducible refine congrArg (Pl.mk _) ?_)))))|assumption|(exact qL (by omega) hok (kf (by assumption) rfl))|(exact qL (by omega) hok (lst_z (by assumption) (by assumption)))|(exact qL (by omega) hok (lst_s (by assumption) (by assumption)))|((conv=>lhs;whnf);refine congrArg (AV.int _) ?_;first|exact mx_e (by omega)|exact md_e (by omega))|(show max _ _≤_;omega)|(exact Nat.le_succ_of_le (by assumption))|(first|(focus(apply Eq.trans;(conv=>lhs;whnf);(conv=>rhs;whnf);done))|rfl|((conv=>lhs;whnf);first|rfl|(refine congrArg (AV.int _) ?_;(exact T.num))|(refine congrArg AV.bool ?_;(exact T.num))|(refine vwc ?_;first|(exact T.num)|(first|rfl|(simp;done)))|(refine q9 ?_ ?_<;>first|(exact T.num)|(first|rfl|(simp;done)))|(first|rfl|(simp;done))))|(exact T.num)|(dsimp only;(exact T.num))|(first|rfl|(simp;done)));done)|(apply AtL.mk' (id:=3) (S:=Nat×(Nat×Nat)) ((i+1,(max x.1 (x.2+1),x.2+1)));(repeat' first|exact trivial|(refine And.intro ?_ ?_)|exact LB.nil|(with_reducible exact LB.refl)|(apply LB.cons;(repeat first|refine goH ?_|apply LH.here|apply LH.next);refine And.intro ?_ ?_;(focus(try(first|(with_reducible rfl)|(refine congrArg (Pl.mk _) ?_;(first|rfl|(simp;done)))|rfl|(with_reducible refine congrArg (Pl.mk _) ?_)))))|assumption|(exact qL (by omega) hok (kf (by assumption) rfl))|(exact qL (by omega) hok (lst_z (by assumption) (by assumption)))|(exact qL (by omega) hok (lst_s (by assumption) (by assumption)))|((conv=>lhs;whnf);refine congrArg (AV.int _) ?_;first|exact mx_e (by omega)|exact md_e (by omega))|(show max _ _≤_;omega)|(exact Nat.le_succ_of_le (by assumption))|(first|(focus(apply Eq.trans;(conv=>lhs;whnf);(conv=>rhs;whnf);done))|rfl|((conv=>lhs;whnf);first|rfl|(refine congrArg (AV.int _) ?_;(exact T.num))|(refine congrArg AV.bool ?_;(exact T.num))|(refine vwc ?_;first|(exact T.num)|(first|rfl|(simp;done)))|(refine q9 ?_ ?_<;>first|(exact T.num)|(first|rfl|(simp;done)))|(first|rfl|(simp;done))))|(exact T.num)|(dsimp only;(exact T.num))|(first|rfl|(simp;done))))|(apply AtL.mk' (id:=3) (S:=Nat×(Nat×Nat)) ((i+1,(x.1,0)));(repeat' first|exact trivial|(refine And.intro ?_ ?_)|exact LB.nil|(with_reducible exact LB.refl)|(apply LB.cons;(repeat first|refine goH ?_|apply LH.here|apply LH.next);refine And.intro ?_ ?_;(focus(try(first|(with_reducible rfl)|(refine congrArg (Pl.mk _) ?_;(first|rfl|(simp;done)))|rfl|(with_reducible refine congrArg (Pl.mk _) ?_)))))|assumption|(exact qL (by omega) hok (kf (by assumption) rfl))|(exact qL (by omega) hok (lst_z (by assumption) (by assumption)))|(exact qL (by omega) hok (lst_s (by assumption) (by assumption)))|((conv=>lhs;whnf);refine congrArg (AV.int _) ?_;first|exact mx_e (by omega)|exact md_e (by omega))|(show max _ _≤_;omega)|(exact Nat.le_succ_of_le (by assumption))|(first|(focus(apply Eq.trans;(conv=>lhs;whnf);(conv=>rhs;whnf);done))|rfl|((conv=>lhs;whnf);first|rfl|(refine congrArg (AV.int _) ?_;(exact T.num))|(refine congrArg AV.bool ?_;(exact T.num))|(refine vwc ?_;first|(exact T.num)|(first|rfl|(simp;done)))|(refine q9 ?_ ?_<;>first|(exact T.num)|(first|rfl|(simp;done)))|(first|rfl|(simp;done))))|(exact T.num)|(dsimp only;(exact T.num))|(first|rfl|(simp;done))))|(apply AtL.mk' (id:=3) (S:=Nat×(Nat×Nat)) ((i+1,x));(repeat' first|exact trivial|(refine And.intro ?_ ?_)|exact LB.nil|(with_reducible exact LB.refl)|(apply LB.cons;(repeat first|refine goH ?_|apply LH.here|apply LH.next);refine And.intro ?_ ?_;(focus(try(first|(with_reducible rfl)|(refine congrArg (Pl.mk _) ?_;(first|rfl|(simp;done)))|rfl|(with_reducible refine congrArg (Pl.mk _) ?_)))))|assumption|(exact qL (by omega) hok (kf (by assumption) rfl))|(exact qL (by omega) hok (lst_z (by assumption) (by assumption)))|(exact qL (by omega) hok (lst_s (by assumption) (by assumption)))|((conv=>lhs;whnf);refine congrArg (AV.int _) ?_;first|exact mx_e (by omega)|exact md_e (by omega))|(show max _ _≤_;omega)|(exact Nat.le_succ_of_le (by assumption))|(first|(focus(apply Eq.trans;(conv=>lhs;whnf);(conv=>rhs;whnf);done))|rfl|((conv=>lhs;whnf);first|rfl|(refine congrArg (AV.int _) ?_;(exact T.num))|(refine congrArg AV.bool ?_;(exact T.num))|(refine vwc ?_;first|(exact T.num)|(first|rfl|(simp;done)))|(refine q9 ?_ ?_<;>first|(exact T.num)|(first|rfl|(simp;done)))|(first|rfl|(simp;done))))|(exact T.num)|(dsimp only;(exact T.num))|(first|rfl|(simp;done)))))|exact T.z|fail)<;>conv=>whnf)
 all_goals(try dsimp only)
 all_goals first
   | (have hi0:i=l.length:=(by omega)
      subst hi0
      rw[List.take_length] at hok
      (show RL _ _ _;refine goR ?_)
      unfold lostR
      rw[hok]
      rfl)
   | trace_state
end
def w12H:Hd:=⟨1,0,5,0,64,0,0,0,0,0,0,0,0,0,0⟩
def w12P:List UInt8:=wH w12H [1]
theorem w12_l:w12P.length=29:=by kernel_rfl
theorem w12_p:qY w12P:=by
 refine⟨fun hh=>?_,?_⟩
 · have h:=w12_l
   rw[hh] at h
   cases h
 · rw[w12_l];decide
theorem w12_c:LP Tryz.prog gm 24 [w12H.av,bv [1]] [] (fun _=>(bv w12P,[])):=mpacket_c w12H [1] (.inl rfl) (by decide)
theorem siz_new{ps:List (List UInt8)}{m w:Int}(hm:1≤m∧m≤3)(hw:1≤w∧w≤8):wL ps 0 (hk0 m w) :=
 ⟨(inv_new hm hw).1,(inv_new hm hw).2.1,Nat.zero_le _,(fun _ h=>nomatch h),(fun _ h=>nomatch h),Nat.le_refl _,Nat.le_refl _,Nat.le_refl _⟩
theorem w12_r:(xR [w12P] [(1,0),(3,0)] (hk0 1 1)).out=[⟨0,w12P,0⟩]:=by
 have h:=two_syn (ps:=[w12P]) (syn_new (ps:=[w12P]) (m:=1) (w:=1) (by decide) (by decide) (inv_new (by decide) (by decide))) (Nat.lt_succ_self 0) (fun b hb=>by
   simp at hb
   subst hb
   exact w12_p)
 exact h.out
attribute [local irreducible] w12P
theorem awake12_c:LP Tryz.prog gm 8 [] [] (fun _=>(.bool true,[])):=by
 have hp:=w12_c
 have hr:=hrun_c 1 1 (by decide) (by decide) [w12P] (fun b hb=>by simp at hb;subst hb;exact w12_p) (by simp) [(1,0),(3,0)] (by decide) (siz_new (by decide) (by decide))
 rw[w12_r] at hr
 have hs:=sameT_c (G:=gm) w12P
 have hlo:=hlost_c (G:=gm) [(4,0),(1,0),(4,0)] (by decide)
 rw[show lostR [(4,0),(1,0),(4,0)]=2 from by decide] at hlo
 generalize w12P=P at *
 refine goW [] Tryz.func8 rfl ?_
 conv=>whnf
 repeat'((first|(show LC _ _ 12 _ _ _;refine LC.mk' hr [_,_] ⟨LF.eq rfl,LF.eq rfl,LF.row (InL.next InL.here) ?_,LF.row InL.here ?_,trivial⟩ ?_)|(show LC _ _ 21 _ _ _;refine LC.mk' hlo [_] ⟨LF.row InL.here ?_,trivial⟩ ?_)|(show LC _ _ _ _ _ _;first|refine LC.mk' (hp) [_] ⟨LF.eq rfl,LF.rowF InL.here ?_,trivial⟩ ?_|refine LC.pure (hs) ?_|refine goE ?_)|refine T.s ?_|((first|apply goB|apply AB.dec|apply AB.gen)<;>intro h)|refine LQ.mk fun r=>?_|exact T.z|fail)<;>conv=>whnf)
 all_goals(try dsimp only)
 all_goals first
   | rfl
   | ((show RL _ _ _;refine goR ?_);rfl)
   | ((show RL _ _ _;refine goR ?_);simp_all [qr];done)
   | trace_state
end Go.Proofs.YtndpmpnmkpaklaaGreatDoor
namespace Go.Proofs.YtndpmpnmkpaklaaGreatDoor
open Go.RowKit
theorem run_siz{ps:List (List UInt8)}(hps:∀b∈ps,qY b):∀(l:List (Int×Int)) {x:Hk} {n:Nat},wL ps n x→wL ps (n+l.length) (xR ps l x)
 | [],_,_,h=>h
 | s::l,x,n,h=>by
   have h1:=run_siz hps l (xL h hps s.1 s.2).1
   rw[List.length_cons,show n+(l.length+1)=n+1+l.length by omega]
   exact h1
attribute [local irreducible] xR
end Go.Proofs.YtndpmpnmkpaklaaGreatDoor
namespace Go.Proofs.YtndpmpnmkpaklaaGreatDoor
open Go.RowKit
section
variable {w:Int}{s:Sn}{h:Hd}
theorem ctx_three(hw:1≤w):(0<s.full→0<(zf 3 w s h).1.full)∧(s.act=false→0<(zf 3 w s h).1.full)∧(zf 3 w s h).1.act=true ∧
   ((zf 3 w s h).1.ser=s.ser∧(zf 3 w s h).1.dy=s.dy∧(zf 3 w s h).1.rf=s.rf∨(zf 3 w s h).1.ser=(zf 3 w s h).1.rf.length∧((zf 3 w s h).1.rf=s.rf∨(zf 3 w s h).1.rf=[])):=by
 have hA:(0<s.full→0<(csA w s h).1.full)∧(s.act=false→0<(csA w s h).1.full)∧(csA w s h).1.act=true∧(csA w s h).1.ser=s.ser∧(csA w s h).1.dy=s.dy∧(csA w s h).1.rf=s.rf:=by
   unfold csA
   cases ha:s.act with
   | false=>rw[if_pos rfl];exact⟨fun _=>(show 0<w by omega),fun _=>(show 0<w by omega),rfl,rfl,rfl,rfl⟩
   | true =>
     rw[if_neg (by decide)]
     split
     · split
       · exact⟨fun _=>(show 0<w by omega),fun k=>Bool.noConfusion k,rfl,rfl,rfl,rfl⟩
       · exact⟨fun k=>k,fun k=>Bool.noConfusion k,rfl,rfl,rfl,rfl⟩
     · exact⟨fun k=>k,fun k=>Bool.noConfusion k,ha,rfl,rfl,rfl⟩
 have hBC:∀y:Sn×Bool,(0<y.1.full→0<(csC 3 w s.rf.length (csB 3 w y)).1.full)∧(csC 3 w s.rf.length (csB 3 w y)).1.act=y.1.act∧(csC 3 w s.rf.length (csB 3 w y)).1.ser=y.1.ser∧(csC 3 w s.rf.length (csB 3 w y)).1.dy=y.1.dy∧((csC 3 w s.rf.length (csB 3 w y)).1.rf=y.1.rf∨(csC 3 w s.rf.length (csB 3 w y)).1.rf=[]∧(csC 3 w s.rf.length (csB 3 w y)).2=true):=fun y=>by
   rw[show csB 3 w y=y from if_neg (fun k=>absurd k.1 (by decide))]
   unfold csC
   split
   · exact⟨fun _=>(show 0<w by omega),rfl,rfl,rfl,.inr ⟨rfl,rfl⟩⟩
   · exact⟨fun k=>k,rfl,rfl,rfl,.inl rfl⟩
 have hD:∀y:Sn×Bool,(0<y.1.full→0<(csD s.lst s.act h y).full)∧(csD s.lst s.act h y).act=y.1.act∧(csD s.lst s.act h y).rf=y.1.rf∧((csD s.lst s.act h y).ser=y.1.ser∧(csD s.lst s.act h y).dy=y.1.dy∧y.2=false∨(csD s.lst s.act h y).ser=y.1.rf.length):=fun y=>by
   unfold csD yb
   split
   · exact⟨fun k=>k,rfl,rfl,.inr rfl⟩
   · rename_i k
     refine⟨fun k=>k,rfl,rfl,.inl ⟨rfl,rfl,?_⟩⟩
     cases hy:y.2 with
     | false=>rfl
     | true=>exact absurd (.inl hy) k
 have hE:∀y:Sn,(0<y.full→0<(csE w s.lst s.act h y).1.full)∧(csE w s.lst s.act h y).1.act=y.act∧(csE w s.lst s.act h y).1.rf=y.rf∧((csE w s.lst s.act h y).1.ser=y.ser∧(csE w s.lst s.act h y).1.dy=y.dy∨(csE w s.lst s.act h y).1.ser=y.rf.length):=fun y=>by
   unfold csE yb
   split
   · exact⟨fun k=>k,rfl,rfl,.inl ⟨rfl,rfl⟩⟩
   · split
     · exact⟨fun k=>k,rfl,rfl,.inl ⟨rfl,rfl⟩⟩
     · split
       · exact⟨fun k=>k,rfl,rfl,.inl ⟨rfl,rfl⟩⟩
       · split
         · exact⟨fun k=>k,rfl,rfl,.inl ⟨rfl,rfl⟩⟩
         · split
           · exact⟨fun k=>k,rfl,rfl,.inl ⟨rfl,rfl⟩⟩
           · exact⟨fun k=>k,rfl,rfl,.inr rfl⟩
 unfold zf
 generalize csA w s h=A at *
 obtain⟨b1,b2,b3,b4,b5⟩:=hBC A
 generalize csC 3 w s.rf.length (csB 3 w A)=C at *
 obtain⟨d1,d2,d3,d4⟩:=hD C
 generalize csD s.lst s.act h C=D at *
 obtain⟨e1,e2,e3,e4⟩:=hE D
 generalize (csE w s.lst s.act h D).1=X at *
 obtain⟨a1,a2,a3,a4,a5,a6⟩:=hA
 refine⟨fun k=>e1 (d1 (b1 (a1 k))),fun k=>e1 (d1 (b1 (a2 k))),by rw[e2,d2,b2,a3],?_⟩
 have hr:X.rf=s.rf∨X.rf=[]:=by
   rw[e3,d3,←a6]
   rcases b5 with k|k
   · exact .inl k
   · exact .inr k.1
 rcases e4 with e4|e4
 · rcases d4 with d4|d4
   · rcases b5 with k|k
     · exact .inl ⟨by rw[e4.1,d4.1,b3,a4],by rw[e4.2,d4.2.1,b4,a5],by rw[e3,d3,k,a6]⟩
     · rw[d4.2.2] at k;exact absurd k.2 (by decide)
   · exact .inr ⟨by rw[e4.1,d4,e3,d3],hr⟩
 · exact .inr ⟨by rw[e4,e3],hr⟩
theorem possR_one{f:Int}{a:Hd}(h1:z9 s h f=true)(h2:a∈s.rf):z9 { s with rf:=[a] } h f=true:=by
 have key:∀(wd k v:Int) (g:Hd→Int),jH wd (s.rf.map g) k v=true→jH wd [g a] k v=true:=fun wd k v g hg=>by
   unfold jH at hg ⊢
   simp only[Bool.and_eq_true,List.all_eq_true] at hg ⊢
   exact⟨hg.1,hg.2.1,hg.2.2.1,fun r hr=>by rw[List.mem_singleton] at hr;subst hr;exact hg.2.2.2 _ (List.mem_map_of_mem h2)⟩
 unfold z9 at h1 ⊢
 simp only[Bool.and_eq_true,Bool.or_eq_true,decide_eq_true_eq,List.all_eq_true] at h1 ⊢
 refine⟨fun r hr=>?_,?_⟩
 · rw[List.mem_singleton] at hr
   subst hr
   exact h1.1 _ h2
 · rcases h1.2 with k|k
   · exact .inl k
   · refine .inr ⟨key _ _ _ _ k.1,?_⟩
     rcases k.2 with k|k
     · exact .inl k
     · exact .inr (key _ _ _ (fun x=>x.tm) k)
theorem possR_chg{f:Int}{a:Hd}(h1:z9 s h f=true)(h2:a∈s.rf):jq a h=0:=by
 unfold z9 at h1
 simp only[Bool.and_eq_true,List.all_eq_true] at h1
 have:=h1.1 a h2
 unfold jf at this
 simp only[Bool.and_eq_true,decide_eq_true_eq] at this
 exact this.1
end
theorem dec_comp{c:Co}{d:De}{b pl:List UInt8}{h:Hd}{i:Nat}{r:Rc}(hc:c.ok=true)(hm3:d.m=3)(hd:d.ok=true)(hp:qu b=((h,pl),0))(hf:x9 c.cx h=some i)(hr:d.cx.getD i Rc.z=r)
   (h4:(zf c.m c.w (c.at i) h).2≠5→r.st=2∧qy r.la h=true) (h3:(zf c.m c.w (c.at i) h).2≤3→r.la∈(c.at i).rf∧r.dy=(c.at i).dy)
   (hb:(zF c i h pl).2.length≤140737488355328):qq d (zF c i h pl).2 hb=⟨d.set i ⟨2,h,(zf c.m c.w (c.at i) h).1.dy,0⟩,b,[⟨i,0,h.num⟩],0⟩:=by
 obtain⟨ho,hbld,-,-,hpl⟩:=xt hp
 obtain⟨hi,hs,hh,hoth⟩:=xu hc hf
 obtain⟨w1,w2,w3,w4⟩:=yI hc
 obtain⟨f,hff⟩:∃f,(zf c.m c.w (c.at i) h).2=f:=⟨_,rfl⟩
 obtain⟨x,hxx⟩:∃x,(zf c.m c.w (c.at i) h).1=x:=⟨_,rfl⟩
 have hm:=ks w3 hs hh
 have hlo:=ctx_lo (m:=c.m) (s:=c.at i) (h:=h) w3
 have hB:(zF c i h pl).2=(zo (qf x.dy i f h pl)).1:=by unfold zF;rw[hff,hxx]
 rw[hff,hxx] at hm hlo
 rw[hff] at h4 h3
 rw[hxx]
 obtain⟨hmid,hf15,hf5,hf4,-⟩:=hm
 have hPok:=kP (dy:=x.dy) (c:=(i:Int)) (pl:=pl) ho hmid.dok hmid.dz ⟨by omega,by omega⟩ hf15 hpl
 obtain⟨p1,p2,p3,p4⟩:=partsR_f (dy:=x.dy) (c:=(i:Int)) (h:=h) (pl:=pl) hf15
 rw[y7 hPok] at hB
 have hB:(zF c i h pl).2=hdL (qf x.dy i f h pl)++(qf x.dy i f h pl).pl:=hB
 obtain⟨-,hdl,hrok⟩:=vq (c:=(i:Int)) hd (by omega) (by omega)
 rw[Int.toNat_natCast,hr] at hrok
 have hpk:=ym (qf x.dy i f h pl) hPok (qf x.dy i f h pl).pl
 rw[p1,p2,←hB] at hpk
 have hretA:∀(B:List UInt8) (_:hdL (qf x.dy i f h pl)++(qf x.dy i f h pl).pl=B) (hb':B.length≤140737488355328),qU B hb' (qf x.dy i f h pl).h.k (decide ((qf x.dy i f h pl).ud≠0))=.inl (qf x.dy i f h pl):=fun B e hb'=>by
   subst e
   exact ret_dec _ hPok hb'
 have hret:=hretA _ hB.symm hb
 have hrc:=rc_ok hrok
 have hdec:qU (zF c i h pl).2 hb r.la.k (decide (r.la.ck≠0))=.inl (qf x.dy i f h pl):=by
   by_cases k5:f=5
   · have hpk5:=hpk
     rw[k5] at hpk5
     rw[decR_k5 hpk5]
     exact hret
   · obtain⟨r1,r2⟩:=h4 k5
     have hk:r.la.k=h.k:=(qV.1 r2).1
     by_cases k4:f=4
     · have hpk4:=hpk
       rw[k4] at hpk4
       have e4:(qf x.dy i f h pl).h.k=h.k:=by rw[k4];rfl
       rw[e4] at hret
       rw[hk,decR_ck hpk4]
       exact hret
     · obtain⟨l1,l2,l3,l4⟩:=hlo (by omega)
       obtain⟨q1,q2⟩:=partsR_lo (dy:=x.dy) (c:=(i:Int)) (f:=f) (h:=h) (pl:=pl) (by omega)
       rw[q1,q2] at hret
       have e:decide (r.la.ck≠0)=decide (h.ck≠0):=by
         have:=(chg_of (possR_chg l4 (h3 (by omega)).1)).2.2.2.2
         simp only[ne_eq,decide_not,this]
       rw[hk,e]
       exact hret
 have hst:¬r.st<xE f:=by
   have:=hrc.2.1
   unfold xE
   split
   · omega
   · rename_i k5
     have:=(h4 k5).1
     split<;>omega
 have hreb:xM d.m r (qf x.dy i f h pl)=(h,true):=by
   by_cases k3:f≤3
   · obtain⟨l1,l2,l3,l4⟩:=hlo k3
     obtain⟨r1,r2⟩:=h3 k3
     obtain⟨r3,r4⟩:=h4 (by omega)
     refine reb_lo (by omega) ?_ (by rw[p1,p4])
     have hla:=(hrc.2.2.2 (by omega)).1
     exact hdr_lo (s:={ c.at i with rf:=[r.la] }) rfl r2 List.mem_cons_self hla (by rw[←r2];exact(hrc.2.2.2 (by omega)).2.1) ho r4 ⟨hf15.1,k3⟩ (possR_one l4 r1)
   · refine reb_hi (by omega) ?_ (by rw[p1,p4])
     by_cases k5:f=5
     · rw[hdr5 (by rw[p1];exact k5),k5]
       rfl
     · have k4:f=4:=by omega
       obtain⟨r1,r2⟩:=h4 k5
       obtain⟨q1,q2,q3,q4,q5,q6⟩:=qV.1 r2
       rw[hdr4 (by rw[p1];exact k4),k4,q2,q3,q4,q5,q6]
       rfl
 rw[dcp_g hd hpk (by omega) (by rw[Int.toNat_natCast];exact hr) hst hdec,decP_g hreb (by rw[p3,hbld]),p3,hbld]
 have hacc:ky r (qf x.dy i f h pl) h=⟨2,h,x.dy,0⟩:=by
   unfold ky
   rw[p1]
   split
   · rename_i k
     rcases k with k|k
     · rw[k];rfl
     · rw[k];rfl
   · obtain⟨l1,l2,l3,l4⟩:=hlo (by omega)
     rw[l3,(h3 (by omega)).2]
 have hack:vv d.m i (qf x.dy i f h pl) h=[⟨i,0,h.num⟩]:=by unfold vv;rw[if_pos (.inl hm3)]
 rw[hacc,hack]
open Go.RowKit
theorem crc8_r(l:List UInt8):0≤jp 8 l∧jp 8 l≤255:=by
 have h:=crc_fit 5 l
 have e:cbR 5=((8:Nat):Int):=by decide
 rw[e] at h
 have:=(xb 8 _).1 h
 exact⟨this.1,this.2⟩
theorem ack_hd:∀c:Nat,c<16→0<c→qk .and .u8 ((b8 (qk .or .i64 224 c)).toNat:Nat) 240=224∧qk .andNot .u8 ((b8 (qk .or .i64 224 c)).toNat:Nat) 240=c:=by decide +kernel
theorem ack_n2(n:Int)(h:0≤n∧n≤65535):((b8 (n.fdiv (2^min (Int.toNat 8) IntKind.i64.bits))).toNat:Int)*256+(b8 n).toNat=n:=by
 have e:(2:Int)^min (Int.toNat 8) IntKind.i64.bits=256:=by decide
 rw[e,kv,kv,Int.fdiv_eq_ediv_of_nonneg _ (by decide)]
 omega
theorem ack_dec(i:Nat)(hi:i<16)(n:Int)(hn:0≤n∧n≤65535):decF (jz ⟨i,0,n⟩).1=(⟨i,0,n⟩,0):=by
 have hok:yF ⟨i,0,n⟩=true:=fbOk_e.2 ⟨⟨by show(0:Int)≤i;omega,by show(i:Int)<16;omega⟩,⟨by show(0:Int)≤0;decide,by show(0:Int)≤2;decide⟩,hn⟩
 have he:(jz ⟨i,0,n⟩).1=xF ⟨i,0,n⟩++[b8 (jp 8 (xF ⟨i,0,n⟩))]:=by unfold jz;rw[if_pos hok]
 rw[he]
 obtain⟨C,hC⟩:∃C,jp 8 (xF ⟨i,0,n⟩)=C:=⟨_,rfl⟩
 have hr:=crc8_r (xF ⟨i,0,n⟩)
 have hn2:=ack_n2 n hn
 have h240:((b8 (qk .or .i64 240 0)).toNat:Int)-240=0:=by decide +kernel
 rcases Nat.eq_zero_or_pos i with h0|h0
 · subst h0
   have hp:xF ⟨(0:Nat),0,n⟩=[b8 (qk .or .i64 240 0),b8 (n.fdiv (2^min (Int.toNat 8) IntKind.i64.bits)),b8 n]:=rfl
   rw[hC] at hr ⊢
   rw[hp] at hC ⊢
   generalize b8 (n.fdiv (2^min (Int.toNat 8) IntKind.i64.bits))=X at *
   generalize b8 n=Y at *
   have hL:zO ([b8 (qk .or .i64 240 0),X,Y]++[b8 C])=0:=by
     show(if qk .and .u8 ((b8 (qk .or .i64 240 0)).toNat:Nat) 240=224 then 1 else 0)=0
     rw[if_neg (by decide +kernel)]
   have hV:yE ([b8 (qk .or .i64 240 0),X,Y]++[b8 C])=⟨(0:Nat),0,n⟩:=by
     unfold yE
     rw[hL]
     show(⟨0,((b8 (qk .or .i64 240 0)).toNat:Int)-240,(X.toNat:Int)*256+Y.toNat⟩:Fb)=_
     rw[h240,hn2]
     rfl
   unfold decF
   rw[if_neg (by simp),hL,hV,if_neg (by simp),if_neg (by rw[hok];simp),if_pos]
   show jp 8 [b8 (qk .or .i64 240 0),X,Y]=((b8 C).toNat:Int)
   rw[hC,xK hr]
 · have hp:xF ⟨i,0,n⟩=[b8 (qk .or .i64 224 i),b8 (qk .or .i64 240 0),b8 (n.fdiv (2^min (Int.toNat 8) IntKind.i64.bits)),b8 n]:=by
     unfold xF
     rw[if_pos (by show(0:Int)<i;omega)]
     rfl
   obtain⟨k1,k2⟩:=ack_hd i hi h0
   rw[hC] at hr ⊢
   rw[hp] at hC ⊢
   generalize b8 (qk .or .i64 224 i)=Z at *
   generalize b8 (n.fdiv (2^min (Int.toNat 8) IntKind.i64.bits))=X at *
   generalize b8 n=Y at *
   have hL:zO ([Z,b8 (qk .or .i64 240 0),X,Y]++[b8 C])=1:=if_pos k1
   have hV:yE ([Z,b8 (qk .or .i64 240 0),X,Y]++[b8 C])=⟨i,0,n⟩:=by
     unfold yE
     rw[hL]
     show(⟨qk .andNot .u8 (Z.toNat:Nat) 240,((b8 (qk .or .i64 240 0)).toNat:Int)-240,(X.toNat:Int)*256+Y.toNat⟩:Fb)=_
     rw[h240,hn2,k2]
   unfold decF
   rw[if_neg (by simp),hL,hV,if_neg (by simp),if_neg (by rw[hok];simp;omega),if_pos]
   show jp 8 [Z,b8 (qk .or .i64 240 0),X,Y]=((b8 C).toNat:Int)
   rw[hC,xK hr]
theorem lastK_no{l:List Hd}{n:Int}:∀{k:Nat},k≤l.length→(∀r∈l,r.num≠n)→xa l n k=0
 | 0,_,_=>rfl
 | k+1,hk,h=>by
   unfold xa
   rw[if_neg,lastK_no (by omega) h]
   have hm:l.getD k Hd.z∈l:=by rw[List.getD_eq_getElem?_getD,List.getElem?_eq_getElem (by omega)];exact List.getElem_mem _
   exact h _ hm
theorem lastK_at{l:List Hd}{n:Int}{p:Nat}(hp:p<l.length)(h1:(l.getD p Hd.z).num=n)(h2:∀q,q<l.length→q≠p→(l.getD q Hd.z).num≠n):∀{k:Nat},p<k→k≤l.length→xa l n k=p+1
 | 0,h,_=>by omega
 | k+1,h,hk=>by
   unfold xa
   by_cases e:k=p
   · subst e;rw[if_pos h1]
   · rw[if_neg (h2 k (by omega) e),lastK_at hp h1 h2 (by omega) (by omega)]
open Go.RowKit
abbrev Cd:Type:=Option (Nat×Dy)
abbrev Cs:Type:=Nat→Cd→Prop
section
variable (ps:List (List UInt8))
def hdP(n:Nat):Hd:=(qu (ps.getD n [])).1.1
def rcP:Cd→Rc
 | none=>Rc.z
 | some (n,dy)=>⟨2,hdP ps n,dy,0⟩
def RawOk(n:Nat)(b:List UInt8):Prop:=∀d:De,d.ok=true→∀hb:b.length≤140737488355328,qq d b hb=⟨d,ps.getD n [],[],0⟩
def MsgOk(n:Nat)(b:List UInt8)(i:Nat)(dy:Dy)(r:Cd):Prop:=∀d:De,d.ok=true→d.m=3→d.cx.getD i Rc.z=rcP ps r→∀hb:b.length≤140737488355328,qq d b hb=⟨d.set i (rcP ps (some (n,dy))),ps.getD n [],[⟨i,0,(hdP ps n).num⟩],0⟩
end
def addC(C:Cs)(i:Nat)(r:Cd):Cs:=fun j q=>C j q∨j=i∧q=r
def WOk(ps:List (List UInt8)):Cs→List (Nat×List UInt8)→List (Option (Nat×Dy))→Prop
 | _,[],[]=>True
 | C,m::l,none::o=>RawOk ps m.1 m.2∧WOk ps C l o
 | C,m::l,some g::o=>(g.1<16∧∀r,C g.1 r→MsgOk ps m.1 m.2 g.1 g.2 r)∧WOk ps (addC C g.1 (some (m.1,g.2))) l o
 | _,_,_=>False
def FinC:Cs→List (Nat×List UInt8)→List (Option (Nat×Dy))→Cs
 | C,m::l,some g::o=>FinC (addC C g.1 (some (m.1,g.2))) l o
 | C,_::l,none::o=>FinC C l o
 | C,_,_=>C
theorem addC_mono{C C':Cs}(h:∀j r,C j r→C' j r){i:Nat}{q:Cd}:∀j r,addC C i q j r→addC C' i q j r:=fun j r k=>k.elim (fun k=>.inl (h j r k)) .inr
theorem WOk.mono{ps:List (List UInt8)}:∀{l:List (Nat×List UInt8)} {o:List (Option (Nat×Dy))} {C C':Cs},(∀j r,C j r→C' j r)→WOk ps C' l o→WOk ps C l o
 | [],[],_,_,_,_=>trivial
 | _::l,none::o,_,_,h,k=>⟨k.1,WOk.mono (l:=l) (o:=o) h k.2⟩
 | _::l,some _::o,_,_,h,k=>⟨⟨k.1.1,fun r hr=>k.1.2 r (h _ r hr)⟩,WOk.mono (l:=l) (o:=o) (addC_mono h) k.2⟩
 | [],_::_,_,_,_,k=>k
 | _::_,[],_,_,_,k=>k
theorem FinC.mono:∀{l:List (Nat×List UInt8)} {o:List (Option (Nat×Dy))} {C C':Cs},(∀j r,C j r→C' j r)→∀j r,FinC C l o j r→FinC C' l o j r
 | [],[],_,_,h,j,r,k=>h j r k
 | _::l,none::o,_,_,h,j,r,k=>FinC.mono (l:=l) (o:=o) h j r k
 | _::l,some _::o,_,_,h,j,r,k=>FinC.mono (l:=l) (o:=o) (addC_mono h) j r k
 | [],_::_,_,_,h,j,r,k=>h j r k
 | _::_,[],_,_,h,j,r,k=>h j r k
theorem FinC.base:∀{l:List (Nat×List UInt8)} {o:List (Option (Nat×Dy))} {C:Cs} {j:Nat} {r:Cd},C j r→FinC C l o j r
 | [],[],_,_,_,k=>k
 | _::l,none::o,C,_,_,k=>FinC.base (l:=l) (o:=o) (C:=C) k
 | m::l,some g::o,C,_,_,k=>FinC.base (l:=l) (o:=o) (C:=addC C g.1 (some (m.1,g.2))) (.inl k)
 | [],_::_,_,_,_,k=>k
 | _::_,[],_,_,_,k=>k
theorem FinC.of:∀{l:List (Nat×List UInt8)} {o:List (Option (Nat×Dy))} {C:Cs} {j:Nat} {r:Cd},FinC C l o j r→C j r∨∃m∈l,∃dy,r=some (m.1,dy)
 | [],[],_,_,_,k=>.inl k
 | _::l,none::o,C,_,_,k=>(FinC.of (l:=l) (o:=o) (C:=C) k).elim .inl fun⟨m,h1,h2⟩=>.inr ⟨m,List.mem_cons_of_mem _ h1,h2⟩
 | m::l,some g::o,C,_,_,k=>(FinC.of (l:=l) (o:=o) (C:=addC C g.1 (some (m.1,g.2))) k).elim (fun k=>k.elim .inl fun k=>.inr ⟨m,List.mem_cons_self,g.2,k.2⟩) fun⟨m,h1,h2⟩=>.inr ⟨m,List.mem_cons_of_mem _ h1,h2⟩
 | [],_::_,_,_,_,k=>.inl k
 | _::_,[],_,_,_,k=>.inl k
theorem WOk.app{ps:List (List UInt8)}{m:Nat×List UInt8}{g:Option (Nat×Dy)}:∀{l:List (Nat×List UInt8)} {o:List (Option (Nat×Dy))} {C:Cs},WOk ps C l o→WOk ps (FinC C l o) [m] [g]→WOk ps C (l++[m]) (o++[g])
 | [],[],_,_,h=>h
 | _::l,none::o,_,k,h=>⟨k.1,WOk.app (l:=l) (o:=o) k.2 h⟩
 | _::l,some _::o,_,k,h=>⟨k.1,WOk.app (l:=l) (o:=o) k.2 h⟩
 | [],_::_,_,k,_=>k.elim
 | _::_,[],_,k,_=>k.elim
theorem FinC.app{ps:List (List UInt8)}{m:Nat×List UInt8}{g:Option (Nat×Dy)}:∀{l:List (Nat×List UInt8)} {o:List (Option (Nat×Dy))} {C:Cs} {j:Nat} {r:Cd},WOk ps C l o→FinC C (l++[m]) (o++[g]) j r→FinC (FinC C l o) [m] [g] j r
 | [],[],_,_,_,_,h=>h
 | _::l,none::o,C,_,_,k,h=>FinC.app (l:=l) (o:=o) (C:=C) k.2 h
 | m'::l,some g'::o,C,_,_,k,h=>FinC.app (l:=l) (o:=o) (C:=addC C g'.1 (some (m'.1,g'.2))) k.2 h
 | [],_::_,_,_,_,k,_=>k.elim
 | _::_,[],_,_,_,k,_=>k.elim
structure Gh where
 gl:List (Option (Nat×Dy))
 dc:Nat→Cd
 en:Nat→Nat
 tt:Nat→Nat
 ba:Nat→Int
 ri:Nat→List Nat
def Gh.C0(g:Gh):Cs:=fun j r=>r=g.dc j
structure CtI(ps:List (List UInt8))(s:Sn)(j:Nat)(en:Nat→Nat)(ri:List Nat):Prop where
 rf:s.rf=ri.map (hdP ps)
 so:ri.Pairwise (·<·)
 mem:∀k∈ri,en k=j+1
 lst:∃l,ri.getLast? = some l∧∀n,en n=j+1→n≤l
 ser:¬0<s.full→¬0<s.refr→s.ser≤0
def CandP(ps:List (List UInt8))(s:Sn)(j:Nat)(en:Nat→Nat)(ri:List Nat):Cd→Prop
 | none=>s.act=true→0<s.full
 | some (n,dy)=>en n=j+1∧s.act=true∧qy (hdP ps n) s.fst=true∧(n∈ri∨∀k∈ri,n<k)∧(n∈ri.drop s.ser.toNat→dy=s.dy)∧(¬0<s.full→¬0<s.refr→n∈ri)
structure js(ps:List (List UInt8))(x:Hk)(g:Gh):Prop where
 c:x.c.ok=true
 m:x.c.m=3
 d:x.d.ok=true
 dm:x.d.m=3
 dc:∀i,i<16→x.d.cx.getD i Rc.z=rcP ps (g.dc i)
 wok:WOk ps g.C0 x.way g.gl
 cnd:∀j,j<16→∀r,FinC g.C0 x.way g.gl j r→CandP ps (x.c.at j) j g.en (g.ri j) r
 ctx:∀j,j<16→(x.c.at j).act=true→CtI ps (x.c.at j) j g.en (g.ri j)
 off:∀j,j<16→(x.c.at j).act=false→g.ri j=[]∧∀n,g.en n≠j+1
 en:∀n,g.en n≠0→n<x.nx∧g.en n≤16∧(hdP ps n).num=(g.ba (g.en n)+g.tt n)%65536∧g.tt n≤255*n
 mono:∀n n',n<n'→g.en n=g.en n'→g.en n≠0→g.tt n<g.tt n'
 nx:x.nx≤ps.length
 wln:∀m∈x.way,m.2.length≤3000
 wlt:∀m∈x.way,m.1<x.nx
 wso:x.way.Pairwise (fun a b=>a.1<b.1)
 dlt:∀j n dy,g.dc j=some (n,dy)→∀m∈x.way,n<m.1
 dnx:∀j n dy,g.dc j=some (n,dy)→n<x.nx
 bk:∀b∈x.back,∃i n,i<16∧g.en n=i+1∧b=(jz ⟨(i:Nat),0,(hdP ps n).num⟩).1∧∃a dy,g.dc i=some (a,dy)∧n≤a
 out:∀v∈x.out,v.i<ps.length∧v.e=0∧v.p=ps.getD v.i []
theorem WOk.tail{ps:List (List UInt8)}{C:Cs}{m:Nat×List UInt8}{l:List (Nat×List UInt8)}{o:List (Option (Nat×Dy))}(h:WOk ps C (m::l) o):WOk ps C l (o.drop 1)∧∀j r,FinC C l (o.drop 1) j r→FinC C (m::l) o j r :=
 match o,h with
 | none::_,h=>⟨h.2,fun _ _ k=>k⟩
 | some _::_,h=>⟨WOk.mono (fun _ _ k=>.inl k) h.2,FinC.mono (fun _ _ k=>.inl k)⟩
theorem rel_los0{x:Hk}(h:x.way=[]):vg x=x:=by
 obtain⟨c,d,n,w,b,o⟩:=x
 dsimp only at h
 subst h
 rfl
theorem rel_los{ps:List (List UInt8)}{x:Hk}{g:Gh}(h:js ps x g):∃g',js ps (vg x) g':=by
 cases hw:x.way with
 | nil=>rw[rel_los0 hw];exact⟨g,h⟩
 | cons m w =>
   have e:vg x={ x with way:=w }:=by unfold vg;rw[hw];rfl
   rw[e]
   have h1:=h.wok
   have h2:=h.cnd
   have h3:=h.wln
   have h4:=h.wlt
   have h5:=h.wso
   have h6:=h.dlt
   rw[hw] at h1 h2 h3 h4 h5 h6
   obtain⟨t1,t2⟩:=h1.tail
   exact⟨{ g with gl:=g.gl.drop 1 },{ h with
     wok:=t1
     cnd:=fun j hj r hr=>h2 j hj r (t2 j r hr)
     wln:=fun m hm=>h3 m (List.mem_cons_of_mem _ hm)
     wlt:=fun m hm=>h4 m (List.mem_cons_of_mem _ hm)
     wso:=(List.pairwise_cons.1 h5).2
     dlt:=fun j n dy hd m hm=>h6 j n dy hd m (List.mem_cons_of_mem _ hm) }⟩
theorem rel_lbk{ps:List (List UInt8)}{x:Hk}{g:Gh}(h:js ps x g):∃g',js ps (lbkR x) g':=⟨g,{ h with bk:=fun b hb=>h.bk b (List.mem_of_mem_drop hb) }⟩
theorem rel_del{ps:List (List UInt8)}{x:Hk}{g:Gh}(h:js ps x g):∃g',js ps (xV x) g':=by
 cases hw:x.way with
 | nil=>exact⟨g,by unfold xV;rw[hw];exact h⟩
 | cons m w =>
   have e:xV x={ x with d:=(dcR x.d m.2).d,out:=x.out++[⟨m.1,(dcR x.d m.2).p,(dcR x.d m.2).e⟩],back:=x.back++(dcR x.d m.2).b.map (fun f=>(jz f).1),way:=w }:=by unfold xV;rw[hw]
   rw[e]
   have hdok:=(dcR_d (b:=m.2) h.d).1
   have h1:=h.wok
   have h2:=h.cnd
   have h3:=h.wln
   have h4:=h.wlt
   have h5:=h.wso
   have h6:=h.dlt
   rw[hw] at h1 h2 h3 h4 h5 h6
   have hl:=h3 m List.mem_cons_self
   have hb:m.2.length≤140737488355328:=by omega
   have hm1:m.1<ps.length:=Nat.lt_of_lt_of_le (h4 m List.mem_cons_self) h.nx
   have hout:∀v∈x.out++[(⟨m.1,ps.getD m.1 [],0⟩:Dv)],v.i<ps.length∧v.e=0∧v.p=ps.getD v.i []:=fun v hv=>by
     rw[List.mem_append,List.mem_singleton] at hv
     rcases hv with hv|rfl
     · exact h.out v hv
     · exact⟨hm1,rfl,rfl⟩
   obtain⟨hp1,hp2⟩:=List.pairwise_cons.1 h5
   generalize hgl:g.gl=o at h1 h2
   match o,h1,h2 with
   | none::o,h1,h2 =>
     have hr:dcR x.d m.2=⟨x.d,ps.getD m.1 [],[],0⟩:=by unfold dcR;rw[dif_pos hb,h1.1 x.d h.d hb]
     rw[hr]
     exact⟨{ g with gl:=o },{ h with
       wok:=h1.2
       cnd:=h2
       wln:=fun m hm=>h3 m (List.mem_cons_of_mem _ hm)
       wlt:=fun m hm=>h4 m (List.mem_cons_of_mem _ hm)
       wso:=hp2
       dlt:=fun j n dy hd m hm=>h6 j n dy hd m (List.mem_cons_of_mem _ hm)
       bk:=fun b hb=>h.bk b (by simpa using hb)
       out:=hout }⟩
   | some (i,dy)::o,h1,h2 =>
     obtain⟨⟨hi,k1⟩,k2⟩:=h1
     have hr:dcR x.d m.2=⟨x.d.set i (rcP ps (some (m.1,dy))),ps.getD m.1 [],[⟨i,0,(hdP ps m.1).num⟩],0⟩:=by unfold dcR;rw[dif_pos hb,k1 _ rfl x.d h.d h.dm (h.dc i hi) hb]
     rw[hr] at hdok ⊢
     have hlen:x.d.cx.length=16:=(vq (c:=0) h.d (by decide) (by decide)).2.1
     have hC:∀j r,(r=(fun k=>if k=i then some (m.1,dy) else g.dc k) j)→addC g.C0 i (some (m.1,dy)) j r:=fun j r hr=>by
       dsimp only at hr
       by_cases e:j=i
       · rw[if_pos e] at hr;exact .inr ⟨e,hr⟩
       · rw[if_neg e] at hr;exact .inl hr
     have hen:=h2 i hi (some (m.1,dy)) (FinC.base (C:=addC g.C0 i (some (m.1,dy))) (l:=w) (o:=o) (.inr ⟨rfl,rfl⟩))
     exact⟨{ g with gl:=o,dc:=fun k=>if k=i then some (m.1,dy) else g.dc k },{ h with
       d:=hdok
       dm:=h.dm
       dc:=fun k hk=>by
         show(x.d.set i _).cx.getD k Rc.z=rcP ps (if k=i then some (m.1,dy) else g.dc k)
         rw[set_getD hlen hi]
         split
         · rfl
         · exact h.dc k hk
       wok:=WOk.mono hC k2
       cnd:=fun j hj r hr=>h2 j hj r (FinC.mono hC j r hr)
       wln:=fun m hm=>h3 m (List.mem_cons_of_mem _ hm)
       wlt:=fun m hm=>h4 m (List.mem_cons_of_mem _ hm)
       wso:=hp2
       dlt:=fun j n dy' hd m' hm'=>by
         have hd:(if j=i then some (m.1,dy) else g.dc j)=some (n,dy'):=hd
         by_cases e:j=i
         · rw[if_pos e] at hd
           obtain⟨rfl,rfl⟩:=Prod.mk.inj (Option.some.inj hd)
           exact hp1 m' hm'
         · rw[if_neg e] at hd
           exact h6 j n dy' hd m' (List.mem_cons_of_mem _ hm')
       dnx:=fun j n dy' hd=>by
         have hd:(if j=i then some (m.1,dy) else g.dc j)=some (n,dy'):=hd
         by_cases e:j=i
         · rw[if_pos e] at hd
           obtain⟨rfl,rfl⟩:=Prod.mk.inj (Option.some.inj hd)
           exact h4 m List.mem_cons_self
         · rw[if_neg e] at hd
           exact h.dnx j n dy' hd
       bk:=fun b hb=>by
         have hb:b∈x.back++[(jz ⟨(i:Nat),0,(hdP ps m.1).num⟩).1]:=hb
         rw[List.mem_append,List.mem_singleton] at hb
         rcases hb with hb|hb
         · obtain⟨i',n,q1,q2,q3,a,dy',q4,q5⟩:=h.bk b hb
           refine⟨i',n,q1,q2,q3,?_⟩
           show ∃a dy',(if i'=i then some (m.1,dy) else g.dc i')=some (a,dy')∧n≤a
           by_cases e:i'=i
           · rw[if_pos e]
             exact⟨m.1,dy,rfl,by have:=h6 i' a dy' q4 m List.mem_cons_self;omega⟩
           · rw[if_neg e]
             exact⟨a,dy',q4,q5⟩
         · refine⟨i,m.1,hi,hen.1,hb,?_⟩
           show ∃a dy',(if i=i then some (m.1,dy) else g.dc i)=some (a,dy')∧m.1≤a
           rw[if_pos rfl]
           exact⟨m.1,dy,rfl,Nat.le_refl _⟩
       out:=hout }⟩
end Go.Proofs.YtndpmpnmkpaklaaGreatDoor
