/-
  Contracts of the functions that the laws reach.
-/
import Derived.Test.YtndpmpnmkpaklaaGreatDoorHr35
set_option maxHeartbeats 4000000
set_option linter.all false
namespace Go.Proofs.YtndpmpnmkpaklaaGreatDoor
open Go.RowKit
theorem yH(b:List UInt8)(L i:Nat):(b.drop L).getD i 0=b.getD (L+i) 0:=by
 simp[List.getD_eq_getElem?_getD]
theorem fbk_e(x:UInt8):q7 .sub .i64 (IntKind.i64.wrap x.toNat) 240=(x.toNat:Int)-240:=by
 have:=x.toNat_lt
 (exact T.num)
theorem fbn_e(x y:UInt8):qk .or .i64 (IntKind.i64.wrap (IntKind.i64.wrap x.toNat*2^min (Int.toNat 8) IntKind.i64.bits)) (IntKind.i64.wrap y.toNat)=(x.toNat:Int)*256+y.toNat:=by
 have hx:=x.toNat_lt
 have hy:=y.toNat_lt
 have e1:IntKind.i64.wrap (x.toNat:Int)=x.toNat:=by(exact T.num)
 have e2:IntKind.i64.wrap (y.toNat:Int)=y.toNat:=by(exact T.num)
 rw[e1,e2,orShl _ _ (by omega) (by omega),Int.mul_comm]
theorem fbc_e(x:UInt8):IntKind.i64.wrap (qk .andNot .u8 x.toNat 240)=qk .andNot .u8 x.toNat 240:=by
 have h:∀y:Nat,y<256→IntKind.i64.wrap (qk .andNot .u8 y 240)=qk .andNot .u8 y 240:=by decide +kernel
 exact h _ x.toNat_lt
theorem fb_cs{V:Fb}{a b c:Int}(h1:V.c=a)(h2:V.k=b)(h3:V.n=c):[AV.int .i64 a,AV.int .i64 b,AV.int .i64 c]=V.cs:=by subst h1 h2 h3;rfl
theorem fb_l1{n m:Nat}(h:¬(n:Int)<m):¬n<m:=by omega
theorem fb_l2{n L:Nat}{K:Bool}{c:Int}(h:¬(4+L<n))(hk:K=true)(hc:¬(L=1∧c=0)):¬(4+L<n∨K=false∨L=1∧c=0):=by
 rintro(k|k|k)
 · exact h k
 · rw[hk] at k;exact absurd k (by decide)
 · exact hc k
theorem fdec_c(b:List UInt8)(hl:b.length≤1000):LP Tryz.prog gm 88 [bv b] [] (fun _=>(.tup [(decF b).1.av,iAV (decF b).2],[])):=by
 by_cases hb0:b=[]
 · subst hb0
   refine goW [] Tryz.func88 rfl ?_
   conv=>whnf
   repeat'((first|exact Nm.b 0|refine T.s ?_|((first|apply goB|apply AB.dec|apply AB.gen)<;>intro h<;>try(exfalso;omega))|refine LQ.mk fun r=>?_|(show SWpL _ _ _ _ _ _ _;first|(refine goD tQ qc 6 [] [0,1,2,3,4,5,6,7] [] (by kernel_rfl) ?_)|(refine goD tQ qc 11 [] [0,1,2,3,4,5,6,7,8,9,10,11] [] (by kernel_rfl) ?_))|(show(_→_)∧(¬_→_);first|refine T.y ?_|refine qv (fun h=>?_) (fun h=>?_))|exact T.z|refine⟨_,rfl,rfl,?_⟩|fail)<;>conv=>whnf)
   all_goals(try dsimp only)
   all_goals first|contradiction|(refine RL.val rfl ?_;(repeat' first|exact LB.nil|(with_reducible exact LB.refl)|(apply LB.cons;(repeat first|refine goH ?_|apply LH.here|apply LH.next);refine And.intro ?_ ?_;(focus(try(first|(with_reducible rfl)|(refine congrArg (Pl.mk _) ?_;(first|rfl|(simp;done)))|rfl|(with_reducible refine congrArg (Pl.mk _) ?_)))))))|trace_state
 · have hb1:0<b.length:=List.length_pos_iff.2 hb0
   have hsum:=vr 8 (b.take (b.length-1)) (by rw[List.length_take];omega)
   rw[crcO_y (by decide +kernel)] at hsum
   have hcs:∃C,jp 8 (b.take (b.length-1))=C:=⟨_,rfl⟩
   obtain⟨C,hC⟩:=hcs
   rw[hC] at hsum
   have hxe:List.take (((q7 BinOp.sub IntKind.i64 (↑b.length) 1).toNat-Int.toNat 0)*1) (List.drop (Int.toNat 0*1) b)=b.take (b.length-1):=by
     have h1:q7 BinOp.sub IntKind.i64 (b.length:Int) 1=(b.length:Int)-1:=by(exact T.num)
     rw[h1]
     have h2:(((b.length:Int)-1).toNat-Int.toNat 0)*1=b.length-1:=by omega
     rw[h2];rfl
   have hl4:∀(x:Int) (m:Nat),¬(b.length:Int)<x→x=4+(m:Int)→¬(b.length:Int)<((4+m:Nat):Int):=fun x m h1 h2=>by omega
   have hn4:∀L:Nat,¬(4:Int)<((b.drop L).length:Int)→¬(4+L<b.length):=fun L h1 h2=>h1 (by rw[List.length_drop];omega)
   have hv:=vn (G:=gm) (yE b)
   have hq:=Classical.em (qk .and .u8 (b.getD 0 0).toNat 240=224)
   obtain⟨V,hV⟩:∃V,yE b=V:=⟨_,rfl⟩
   have hk:V.k=q7 .sub .i64 (IntKind.i64.wrap ((b.drop (zO b)).getD 0 0).toNat) 240:=by rw[fbk_e,yH,←hV];rfl
   have hn:V.n=qk .or .i64 (IntKind.i64.wrap (IntKind.i64.wrap ((b.drop (zO b)).getD 1 0).toNat*2^min (Int.toNat 8) IntKind.i64.bits)) (IntKind.i64.wrap ((b.drop (zO b)).getD 2 0).toNat):=by rw[fbn_e,yH,yH,←hV];rfl
   rcases hq with hq|hq
   · have hL:zO b=1:=if_pos hq
     have hc:V.c=IntKind.i64.wrap (qk .andNot .u8 (b.getD 0 0).toNat 240):=by rw[fbc_e,←hV];show(if zO b=1 then _ else _)=_;rw[if_pos hL]
     rw[hV] at hv
     obtain⟨K,hK⟩:∃K,yF V=K:=⟨_,rfl⟩
     have h4:q7 .add .i64 4 1=4+1:=by decide +kernel
     rw[hK] at hv
     rw[hL] at hk hn
     unfold decF
     rw[hL,hV,hC,hK,if_neg hb0]
     have hw3:IntKind.i64.wrap (((b.drop 1).getD 3 0).toNat:Int)=(b.getD (1+3) 0).toNat:=by rw[yH];have:=(b.getD (1+3) 0).toNat_lt;(exact T.num)
     refine goW [11] Tryz.func88 rfl ?_
     conv=>whnf
     repeat'((first|(show LC _ _ 134 _ _ _;rw[hxe];refine LC.pure hsum ?_)|exact Nm.b 0|(refine And.intro ?_ ?_;(focus(first|((try dsimp only);rw[List.length_drop];omega)|exact T.kx|exact T.side)))|(show LC _ _ _ _ _ _;first|refine LC.pure (hv) ?_|refine goE ?_)|(show AC _ _ _;first|(refine AC.idx (f:=bAV) 3 0 ?_ ?_ ?_;(focus rfl);(focus((try rw[List.length_drop]);omega))))|(show AQ _ _;first|(refine AQ.tailE 1 ?_ ?_ ?_;(focus(first|rfl|((try dsimp only);omega)));(focus((try dsimp only);omega)))|(refine AQ.headE (b.length-1) ?_ ?_ ?_;(focus(first|rfl|((try dsimp only);omega)));(focus(first|rfl|((try dsimp only);omega)))))|refine T.s ?_|((first|apply goB|apply AB.dec|apply AB.gen)<;>intro h<;>try(exfalso;omega))|refine LQ.mk fun r=>?_|(show SWpL _ _ _ _ _ _ _;first|refine gX 6 [] [0,1,2,3,4,5,6,7] [] ?_|refine gX 11 [] [0,1,2,3,4,5,6,7,8,9,10,11] [] ?_)|(show CutL _ _ _ _ _ _ _ _;first|(refine goK tQ [11] 11 (S:=Nm×Nm) [] (fun(z4,z2)=>⟨[(0,bv b),(2,.ptr z2 0),(4,.ptr z4 0),(5,iAV 1),(6,bv (b.drop 1))],[(z4,⟨93,V.cs⟩),(z2,⟨93,Fb.z.cs⟩)],True,0⟩) ?_ ?_;(rintro⟨z4,z2⟩ -);rotate_left)|refine CutL.go tQ [11] ?_)|(show AtC _ _ _ _ _ _ _ _;first|(apply AtC.mk' (id:=11) (S:=Nm×Nm) ((_,_));(repeat' first|exact trivial|(refine And.intro ?_ ?_)|exact LB.nil|(with_reducible exact LB.refl)|(apply LB.cons;(repeat first|refine goH ?_|apply LH.here|apply LH.next);refine And.intro ?_ ?_;(focus(try(first|(with_reducible rfl)|(refine congrArg (Pl.mk _) ?_;(first|rfl|(simp;done)))|rfl|(with_reducible refine congrArg (Pl.mk _) ?_)))))|assumption|(exact fb_cs hc hk hn)|(first|(focus(apply Eq.trans;(conv=>lhs;whnf);(conv=>rhs;whnf);done))|rfl|((conv=>lhs;whnf);first|rfl|(refine congrArg (AV.int _) ?_;(exact T.num))|(refine congrArg AV.bool ?_;(exact T.num))|(refine vwc ?_;first|(exact T.num)|(first|rfl|(simp;done)))|(refine q9 ?_ ?_<;>first|(exact T.num)|(first|rfl|(simp;done)))|(first|rfl|(simp;done))))|(exact T.num)|(dsimp only;(exact T.num))|(first|rfl|(simp;done)));done)|(apply AtC.mk' (id:=11) (S:=Nm×Nm) ((_,_));(repeat' first|exact trivial|(refine And.intro ?_ ?_)|exact LB.nil|(with_reducible exact LB.refl)|(apply LB.cons;(repeat first|refine goH ?_|apply LH.here|apply LH.next);refine And.intro ?_ ?_;(focus(try(first|(with_reducible rfl)|(refine congrArg (Pl.mk _) ?_;(first|rfl|(simp;done)))|rfl|(with_reducible refine congrArg (Pl.mk _) ?_)))))|assumption|(exact fb_cs hc hk hn)|(first|(focus(apply Eq.trans;(conv=>lhs;whnf);(conv=>rhs;whnf);done))|rfl|((conv=>lhs;whnf);first|rfl|(refine congrArg (AV.int _) ?_;(exact T.num))|(refine congrArg AV.bool ?_;(exact T.num))|(refine vwc ?_;first|(exact T.num)|(first|rfl|(simp;done)))|(refine q9 ?_ ?_<;>first|(exact T.num)|(first|rfl|(simp;done)))|(first|rfl|(simp;done))))|(exact T.num)|(dsimp only;(exact T.num))|(first|rfl|(simp;done)))))|(show(_→_)∧(¬_→_);first|refine T.y ?_|refine qv (fun h=>?_) (fun h=>?_))|exact T.z|refine⟨_,rfl,rfl,?_⟩|fail)<;>conv=>whnf)
     all_goals(try dsimp only)
     all_goals first
       | (exact absurd (by assumption) hq)
       | (exact absurd hq (by assumption))
       | (have hx:b.length<4+1:=(by omega)
          rw[if_pos hx]
          refine RL.val rfl ?_
          (repeat' first|exact LB.nil|(with_reducible exact LB.refl)|(apply LB.cons;(repeat first|refine goH ?_|apply LH.here|apply LH.next);refine And.intro ?_ ?_;(focus(try(first|(with_reducible rfl)|(refine congrArg (Pl.mk _) ?_;(first|rfl|(simp;done)))|rfl|(with_reducible refine congrArg (Pl.mk _) ?_)))))))
       | (have hx:4+1<b.length:=(by have hh:=h;rw[List.length_drop] at hh;omega)
          rw[if_neg (Nat.not_lt.2 (Nat.le_of_lt hx)),if_pos (Or.inl hx)]
          refine RL.val rfl ?_
          (repeat' first|exact LB.nil|(with_reducible exact LB.refl)|(apply LB.cons;(repeat first|refine goH ?_|apply LH.here|apply LH.next);refine And.intro ?_ ?_;(focus(try(first|(with_reducible rfl)|(refine congrArg (Pl.mk _) ?_;(first|rfl|(simp;done)))|rfl|(with_reducible refine congrArg (Pl.mk _) ?_)))))))
       | (have ha:K=false:=(by assumption)
          have hx2:¬b.length<4+1:=(by omega)
          rw[if_neg hx2,if_pos (Or.inr (Or.inl ha))]
          refine RL.val rfl ?_
          (repeat' first|exact LB.nil|(with_reducible exact LB.refl)|(apply LB.cons;(repeat first|refine goH ?_|apply LH.here|apply LH.next);refine And.intro ?_ ?_;(focus(try(first|(with_reducible rfl)|(refine congrArg (Pl.mk _) ?_;(first|rfl|(simp;done)))|rfl|(with_reducible refine congrArg (Pl.mk _) ?_)))))))
       | (have ha:V.c=0:=(by assumption)
          have hx2:¬b.length<4+1:=(by omega)
          rw[if_neg hx2,if_pos (Or.inr (Or.inr ⟨rfl,ha⟩))]
          refine RL.val rfl ?_
          (repeat' first|exact LB.nil|(with_reducible exact LB.refl)|(apply LB.cons;(repeat first|refine goH ?_|apply LH.here|apply LH.next);refine And.intro ?_ ?_;(focus(try(first|(with_reducible rfl)|(refine congrArg (Pl.mk _) ?_;(first|rfl|(simp;done)))|rfl|(with_reducible refine congrArg (Pl.mk _) ?_)))))))
       | (have ha:(C,(0:Int)).1=IntKind.i64.wrap (((b.drop 1).getD 3 0).toNat:Int):=(by assumption)
          have hk1:K=true:=(by assumption)
          rw[if_neg (fb_l1 (hl4 _ 1 (by assumption) h4)),if_neg (fb_l2 (hn4 1 (by assumption)) hk1 (fun hh=>absurd hh.2 (by assumption))),if_pos (ha.trans hw3)]
          refine RL.val rfl ?_
          (repeat' first|exact LB.nil|(with_reducible exact LB.refl)|(apply LB.cons;(repeat first|refine goH ?_|apply LH.here|apply LH.next);refine And.intro ?_ ?_;(focus(try(first|(with_reducible rfl)|(refine congrArg (Pl.mk _) ?_;(first|rfl|(simp;done)))|rfl|(with_reducible refine congrArg (Pl.mk _) ?_)))))))
       | (have ha:¬(C,(0:Int)).1=IntKind.i64.wrap (((b.drop 1).getD 3 0).toNat:Int):=(by assumption)
          have hk1:K=true:=(by assumption)
          rw[if_neg (fb_l1 (hl4 _ 1 (by assumption) h4)),if_neg (fb_l2 (hn4 1 (by assumption)) hk1 (fun hh=>absurd hh.2 (by assumption))),if_neg (fun hh=>ha (Eq.trans hh hw3.symm))]
          refine RL.val rfl ?_
          (repeat' first|exact LB.nil|(with_reducible exact LB.refl)|(apply LB.cons;(repeat first|refine goH ?_|apply LH.here|apply LH.next);refine And.intro ?_ ?_;(focus(try(first|(with_reducible rfl)|(refine congrArg (Pl.mk _) ?_;(first|rfl|(simp;done)))|rfl|(with_reducible refine congrArg (Pl.mk _) ?_)))))))
       | trace_state
   · have hL:zO b=0:=if_neg hq
     have hc:V.c=0:=by rw[←hV];show(if zO b=1 then _ else _)=_;rw[hL];rfl
     rw[hV] at hv
     obtain⟨K,hK⟩:∃K,yF V=K:=⟨_,rfl⟩
     have h4:q7 .add .i64 4 0=4+0:=by decide +kernel
     rw[hK] at hv
     rw[hL] at hk hn
     unfold decF
     rw[hL,hV,hC,hK,if_neg hb0]
     have hw3:IntKind.i64.wrap (((b.drop 0).getD 3 0).toNat:Int)=(b.getD (0+3) 0).toNat:=by rw[yH];have:=(b.getD (0+3) 0).toNat_lt;(exact T.num)
     refine goW [11] Tryz.func88 rfl ?_
     conv=>whnf
     repeat'((first|(show LC _ _ 134 _ _ _;rw[hxe];refine LC.pure hsum ?_)|exact Nm.b 0|(refine And.intro ?_ ?_;(focus(first|((try dsimp only);rw[List.length_drop];omega)|exact T.kx|exact T.side)))|(show LC _ _ _ _ _ _;first|refine LC.pure (hv) ?_|refine goE ?_)|(show AC _ _ _;first|(refine AC.idx (f:=bAV) 3 0 ?_ ?_ ?_;(focus rfl);(focus((try rw[List.length_drop]);omega))))|(show AQ _ _;first|(refine AQ.tailE 0 ?_ ?_ ?_;(focus(first|rfl|((try dsimp only);omega)));(focus((try dsimp only);omega)))|(refine AQ.headE (b.length-1) ?_ ?_ ?_;(focus(first|rfl|((try dsimp only);omega)));(focus(first|rfl|((try dsimp only);omega)))))|refine T.s ?_|((first|apply goB|apply AB.dec|apply AB.gen)<;>intro h<;>try(exfalso;omega))|refine LQ.mk fun r=>?_|(show SWpL _ _ _ _ _ _ _;first|refine gX 6 [] [0,1,2,3,4,5,6,7] [] ?_|refine gX 11 [] [0,1,2,3,4,5,6,7,8,9,10,11] [] ?_)|(show CutL _ _ _ _ _ _ _ _;first|(refine goK tQ [11] 11 (S:=Nm×Nm) [] (fun(z4,z2)=>⟨[(0,bv b),(2,.ptr z2 0),(4,.ptr z4 0),(5,iAV 0),(6,bv (b.drop 0))],[(z4,⟨93,V.cs⟩),(z2,⟨93,Fb.z.cs⟩)],True,0⟩) ?_ ?_;(rintro⟨z4,z2⟩ -);rotate_left)|refine CutL.go tQ [11] ?_)|(show AtC _ _ _ _ _ _ _ _;first|(apply AtC.mk' (id:=11) (S:=Nm×Nm) ((_,_));(repeat' first|exact trivial|(refine And.intro ?_ ?_)|exact LB.nil|(with_reducible exact LB.refl)|(apply LB.cons;(repeat first|refine goH ?_|apply LH.here|apply LH.next);refine And.intro ?_ ?_;(focus(try(first|(with_reducible rfl)|(refine congrArg (Pl.mk _) ?_;(first|rfl|(simp;done)))|rfl|(with_reducible refine congrArg (Pl.mk _) ?_)))))|assumption|(exact fb_cs hc hk hn)|(first|(focus(apply Eq.trans;(conv=>lhs;whnf);(conv=>rhs;whnf);done))|rfl|((conv=>lhs;whnf);first|rfl|(refine congrArg (AV.int _) ?_;(exact T.num))|(refine congrArg AV.bool ?_;(exact T.num))|(refine vwc ?_;first|(exact T.num)|(first|rfl|(simp;done)))|(refine q9 ?_ ?_<;>first|(exact T.num)|(first|rfl|(simp;done)))|(first|rfl|(simp;done))))|(exact T.num)|(dsimp only;(exact T.num))|(first|rfl|(simp;done)));done)|(apply AtC.mk' (id:=11) (S:=Nm×Nm) ((_,_));(repeat' first|exact trivial|(refine And.intro ?_ ?_)|exact LB.nil|(with_reducible exact LB.refl)|(apply LB.cons;(repeat first|refine goH ?_|apply LH.here|apply LH.next);refine And.intro ?_ ?_;(focus(try(first|(with_reducible rfl)|(refine congrArg (Pl.mk _) ?_;(first|rfl|(simp;done)))|rfl|(with_reducible refine congrArg (Pl.mk _) ?_)))))|assumption|(exact fb_cs hc hk hn)|(first|(focus(apply Eq.trans;(conv=>lhs;whnf);(conv=>rhs;whnf);done))|rfl|((conv=>lhs;whnf);first|rfl|(refine congrArg (AV.int _) ?_;(exact T.num))|(refine congrArg AV.bool ?_;(exact T.num))|(refine vwc ?_;first|(exact T.num)|(first|rfl|(simp;done)))|(refine q9 ?_ ?_<;>first|(exact T.num)|(first|rfl|(simp;done)))|(first|rfl|(simp;done))))|(exact T.num)|(dsimp only;(exact T.num))|(first|rfl|(simp;done)))))|(show(_→_)∧(¬_→_);first|refine T.y ?_|refine qv (fun h=>?_) (fun h=>?_))|exact T.z|refine⟨_,rfl,rfl,?_⟩|fail)<;>conv=>whnf)
     all_goals(try dsimp only)
     all_goals first
       | (exact absurd (by assumption) hq)
       | (exact absurd hq (by assumption))
       | (have hx:b.length<4+0:=(by omega)
          rw[if_pos hx]
          refine RL.val rfl ?_
          (repeat' first|exact LB.nil|(with_reducible exact LB.refl)|(apply LB.cons;(repeat first|refine goH ?_|apply LH.here|apply LH.next);refine And.intro ?_ ?_;(focus(try(first|(with_reducible rfl)|(refine congrArg (Pl.mk _) ?_;(first|rfl|(simp;done)))|rfl|(with_reducible refine congrArg (Pl.mk _) ?_)))))))
       | (have hx:4+0<b.length:=(by have hh:=h;rw[List.length_drop] at hh;omega)
          rw[if_neg (Nat.not_lt.2 (Nat.le_of_lt hx)),if_pos (Or.inl hx)]
          refine RL.val rfl ?_
          (repeat' first|exact LB.nil|(with_reducible exact LB.refl)|(apply LB.cons;(repeat first|refine goH ?_|apply LH.here|apply LH.next);refine And.intro ?_ ?_;(focus(try(first|(with_reducible rfl)|(refine congrArg (Pl.mk _) ?_;(first|rfl|(simp;done)))|rfl|(with_reducible refine congrArg (Pl.mk _) ?_)))))))
       | (have ha:K=false:=(by assumption)
          have hx2:¬b.length<4+0:=(by omega)
          rw[if_neg hx2,if_pos (Or.inr (Or.inl ha))]
          refine RL.val rfl ?_
          (repeat' first|exact LB.nil|(with_reducible exact LB.refl)|(apply LB.cons;(repeat first|refine goH ?_|apply LH.here|apply LH.next);refine And.intro ?_ ?_;(focus(try(first|(with_reducible rfl)|(refine congrArg (Pl.mk _) ?_;(first|rfl|(simp;done)))|rfl|(with_reducible refine congrArg (Pl.mk _) ?_)))))))
       | (have ha:V.c=0:=(by assumption)
          have hx2:¬b.length<4+0:=(by omega)
          rw[if_neg hx2,if_pos (Or.inr (Or.inr ⟨rfl,ha⟩))]
          refine RL.val rfl ?_
          (repeat' first|exact LB.nil|(with_reducible exact LB.refl)|(apply LB.cons;(repeat first|refine goH ?_|apply LH.here|apply LH.next);refine And.intro ?_ ?_;(focus(try(first|(with_reducible rfl)|(refine congrArg (Pl.mk _) ?_;(first|rfl|(simp;done)))|rfl|(with_reducible refine congrArg (Pl.mk _) ?_)))))))
       | (have ha:(C,(0:Int)).1=IntKind.i64.wrap (((b.drop 0).getD 3 0).toNat:Int):=(by assumption)
          have hk1:K=true:=(by assumption)
          rw[if_neg (fb_l1 (hl4 _ 0 (by assumption) h4)),if_neg (fb_l2 (hn4 0 (by assumption)) hk1 (fun hh=>absurd hh.1 (by decide))),if_pos (ha.trans hw3)]
          refine RL.val rfl ?_
          (repeat' first|exact LB.nil|(with_reducible exact LB.refl)|(apply LB.cons;(repeat first|refine goH ?_|apply LH.here|apply LH.next);refine And.intro ?_ ?_;(focus(try(first|(with_reducible rfl)|(refine congrArg (Pl.mk _) ?_;(first|rfl|(simp;done)))|rfl|(with_reducible refine congrArg (Pl.mk _) ?_)))))))
       | (have ha:¬(C,(0:Int)).1=IntKind.i64.wrap (((b.drop 0).getD 3 0).toNat:Int):=(by assumption)
          have hk1:K=true:=(by assumption)
          rw[if_neg (fb_l1 (hl4 _ 0 (by assumption) h4)),if_neg (fb_l2 (hn4 0 (by assumption)) hk1 (fun hh=>absurd hh.1 (by decide))),if_neg (fun hh=>ha (Eq.trans hh hw3.symm))]
          refine RL.val rfl ?_
          (repeat' first|exact LB.nil|(with_reducible exact LB.refl)|(apply LB.cons;(repeat first|refine goH ?_|apply LH.here|apply LH.next);refine And.intro ?_ ?_;(focus(try(first|(with_reducible rfl)|(refine congrArg (Pl.mk _) ?_;(first|rfl|(simp;done)))|rfl|(with_reducible refine congrArg (Pl.mk _) ?_)))))))
       | trace_state
open Go.RowKit
attribute [local irreducible] yL decF
theorem hbak_c(x:Hk)(ps:List (List UInt8))(ww ov:AV)(L B:Nm)(bl:List (List UInt8))(j:Nat)(hj:j<bl.length)(hb:(bl.getD j []).length≤1000)(hnd:[L,B].Nodup) :
   LP Tryz.prog gm 54 [.ptr L 0] [(L,lkT x ps ww (.vw B j (bl.length-j) 1) ov),(B,bsT bl)]
     (fun _=>(.tup [],[(L,lkT { x with c:=bakC x.c (bl.getD j []) } ps ww (.vw B (j+1) (bl.length-(j+1)) 1) ov),(B,bsT bl)])):=by
 have ht:=qtake_b (G:=gm) x ps ww ov L B bl j hj hnd
 generalize bl.getD j []=b at *
 have hd:=fdec_c b hb
 unfold bakC
 obtain⟨⟨f,e⟩,hfe⟩:∃y,decF b=y:=⟨_,rfl⟩
 rw[hfe] at hd ⊢
 dsimp only at hd ⊢
 have ha:=fapp_c x.c f
 obtain⟨⟨c',e'⟩,hce⟩:∃y,yL x.c f=y:=⟨_,rfl⟩
 rw[hce] at ha ⊢
 dsimp only at ha ⊢
 refine goW [] Tryz.func54 rfl ?_
 conv=>whnf
 repeat'((first|exact Nm.b 0|(show LC _ _ _ _ _ _;first|(refine LC.two (fun hne=>ht) ?_;(repeat first|refine goH ?_|apply LH.here|apply LH.next);refine⟨rfl,?_⟩;(repeat first|refine goH ?_|apply LH.here|apply LH.next);refine⟨rfl,?_⟩)|refine LC.pure (hd) ?_|refine LC.pure (ha) ?_|refine goE ?_)|refine T.s ?_|((first|apply goB|apply AB.dec|apply AB.gen)<;>intro h<;>try(exfalso;omega))|refine LQ.mk fun r=>?_|(show SWpL _ _ _ _ _ _ _;first|refine gX 4 [] [0,1,2,3,4,5,6,7,8,9,10,11] [L] ?_)|exact T.z|fail)<;>conv=>whnf)
 all_goals(try dsimp only)
 all_goals first
   | contradiction
   | (have h1:¬(e=0∧e'=0):=fun hh=>absurd hh.1 (by assumption)
      rw[if_neg h1]
      refine RL.val rfl ?_
      (repeat' first|exact LB.nil|(with_reducible exact LB.refl)|(apply LB.cons;(repeat first|refine goH ?_|apply LH.here|apply LH.next);refine And.intro ?_ ?_;(focus(try(first|(with_reducible rfl)|(refine congrArg (Pl.mk _) ?_;(first|rfl|(simp;done)))|rfl|(with_reducible refine congrArg (Pl.mk _) ?_)))))))
   | (have h1:¬(e=0∧e'=0):=fun hh=>absurd hh.2 (by assumption)
      rw[if_neg h1]
      refine RL.val rfl ?_
      (repeat' first|exact LB.nil|(with_reducible exact LB.refl)|(apply LB.cons;(repeat first|refine goH ?_|apply LH.here|apply LH.next);refine And.intro ?_ ?_;(focus(try(first|(with_reducible rfl)|(refine congrArg (Pl.mk _) ?_;(first|rfl|(simp;done)))|rfl|(with_reducible refine congrArg (Pl.mk _) ?_)))))))
   | (have h1:e=0∧e'=0:=And.intro (by assumption) (by assumption)
      rw[if_pos h1]
      refine RL.val rfl ?_
      (repeat' first|exact LB.nil|(with_reducible exact LB.refl)|(apply LB.cons;(repeat first|refine goH ?_|apply LH.here|apply LH.next);refine And.intro ?_ ?_;(focus(try(first|(with_reducible rfl)|(refine congrArg (Pl.mk _) ?_;(first|rfl|(simp;done)))|rfl|(with_reducible refine congrArg (Pl.mk _) ?_)))))))
   | trace_state
theorem hbak_e(x:Hk)(ps:List (List UInt8))(ww ov:AV)(L B:Nm)(o:Nat) :
   LP Tryz.prog gm 54 [.ptr L 0] [(L,lkT x ps ww (.vw B o 0 1) ov)]
     (fun _=>(.tup [],[(L,lkT x ps ww (.vw B o 0 1) ov)])):=by
 refine goW [] Tryz.func54 rfl ?_
 conv=>whnf
 repeat'((first|exact Nm.b 0|(show LC _ _ _ _ _ _;first|(apply LC.upd (qtake_be x ps _ _ L B o);(repeat first|refine goH ?_|apply LH.here|apply LH.next);refine⟨rfl,?_⟩)|refine goE ?_)|refine T.s ?_|((first|apply goB|apply AB.dec|apply AB.gen)<;>intro h<;>try(exfalso;omega))|refine LQ.mk fun r=>?_|(show SWpL _ _ _ _ _ _ _;first|refine gX 4 [] [0,1,2,3,4,5,6,7,8,9,10,11] [L] ?_)|exact T.z|fail)<;>conv=>whnf)
 all_goals(try dsimp only)
 all_goals first
   | contradiction
   | (refine RL.val rfl ?_
      (repeat' first|exact LB.nil|(with_reducible exact LB.refl)|(apply LB.cons;(repeat first|refine goH ?_|apply LH.here|apply LH.next);refine And.intro ?_ ?_;(focus(try(first|(with_reducible rfl)|(refine congrArg (Pl.mk _) ?_;(first|rfl|(simp;done)))|rfl|(with_reducible refine congrArg (Pl.mk _) ?_)))))))
   | trace_state
end Go.Proofs.YtndpmpnmkpaklaaGreatDoor
namespace Go.Proofs.YtndpmpnmkpaklaaGreatDoor
open Go.RowKit
variable {G:Nat→AV}
theorem LTo.cop{c:Co}{i0:Nat}{R p:Nm}{m l:LS}(hp:LH l p fun cc _ _=>cc.cs=(c.at i0).rf.flatMap Hd.cs)(h:LH l R fun cc s _=>cc.cs=cpR c i0 p c.cx.length∧LEra (s ⟨cc.ty,c.cx.flatMap Sn.cs⟩) [p] (LB m)):LTo m l:=by
 refine LTo.frz R [p] (c.cx.flatMap Sn.cs) (LH.mono h fun cc s _ hh=>⟨?_,hh.2⟩)
 rw[hh.1,←j5]
 exact cpR_frz InL.here hp _
end Go.Proofs.YtndpmpnmkpaklaaGreatDoor
