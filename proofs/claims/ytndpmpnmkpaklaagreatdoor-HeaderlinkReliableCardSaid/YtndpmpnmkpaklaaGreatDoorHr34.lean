/-
  Contracts of the functions that the laws reach.
-/
import Derived.Test.YtndpmpnmkpaklaaGreatDoorHr33
set_option maxHeartbeats 8000000
set_option linter.all false
namespace Go.Proofs.YtndpmpnmkpaklaaGreatDoor
open Go.RowKit
variable {G:Nat→AV}
theorem hd_tail(l:List Hd)(k o m:Nat)(hk:k≤l.length)(ho:o=k*15)(hm:m=(l.length-k)*15):List.take m (List.drop o (l.flatMap Hd.cs))=(l.drop k).flatMap Hd.cs:=by
 subst ho hm
 rw[kj Hd.cs_len,List.take_of_length_le (by rw[qm Hd.cs_len,List.length_drop];omega)]
theorem set_self{α:Type}(l:List α)(i:Nat)(d:α)(h:i<l.length):l.set i (l.getD i d)=l:=by
 rw[List.getD_eq_getElem?_getD,List.getElem?_eq_getElem h]
 exact List.set_getElem_self h
theorem zp(l:List Sn)(j o:Nat)(h:j<l.length)(ho:o=j*9+8):qg (l.flatMap Sn.cs) o [AV.sl (l.getD j Sn.z).rf.length (List.flatMap Hd.cs (l.getD j Sn.z).rf)]=l.flatMap Sn.cs:=by
 subst ho
 rw[yX Sn.cs_len l j 8 Sn.z (l.getD j Sn.z) _ h (Nat.le_of_ble_eq_true rfl) rfl,set_self l j Sn.z h]
theorem cclone_d(c:Co)(h0:0<c.cx.length)(hl:c.cx.length≤100)(hr:∀i,i<c.cx.length→(c.at i).rf.length≤1000):LP Tryz.prog G 113 [c.av] [] (fun q=>(.agg [iAV c.m,iAV c.w,.vw q 0 c.cx.length 9],[(q,⟨122,c.cx.flatMap Sn.cs⟩)])):=by
 have hc:∀i:Nat,(i:Int)<(c.cx.length:Int)→LP Tryz.prog G 148 [hdv (c.cx.getD i Sn.z).rf] [] (fun _=>(hdv (c.cx.getD i Sn.z).rf,[])):=fun i hi=>hclone_c _ (Nat.le_trans (hr i (by omega)) (by decide))
 refine goW [] Tryz.func113 rfl ?_
 conv=>whnf
 repeat'((first|exact Nm.b 0|(refine And.intro ?_ ?_;(focus(first|(show(_:Nat)≤_;dsimp only;rw[qm Sn.cs_len];omega)|(rw[qm Sn.cs_len];(try dsimp only);omega)|exact T.kx|exact T.side)))|(show LC _ _ _ _ _ _;first|refine LC.own (sclone_c c.cx (by omega) (by omega)) ?_|refine LC.pure (hc j (by assumption)) ?_|refine goE ?_)|(show AC _ _ _;first|(refine AC.fld Sn.cs_len j 8 Sn.z (hdv (c.cx.getD j Sn.z).rf) (by rw[Nat.zero_add];rfl) (by decide) (by omega) rfl ?_))|refine T.s ?_|((first|apply goB|apply AB.dec|apply AB.gen)<;>intro h<;>try(exfalso;omega))|refine LQ.mk fun r=>?_|(show SWpL _ _ _ (.loop _) _ _ _;first|(apply goO tQ [] 3 (S:=Nat×Nm×Nm×Nm) [10] (fun(j,a,z,q)=>⟨[(11,.int .i64 j),(1,.ptr a 0),(2,.ptr z 0)],[(a,⟨62,[iAV c.m,iAV c.w,.vw q 0 c.cx.length 9]⟩),(z,⟨62,[iAV 0,iAV 0,.nils]⟩),(q,⟨122,c.cx.flatMap Sn.cs⟩)],j≤c.cx.length,c.cx.length-j⟩) ((0,_,_,_)) (by rfl);(focus((repeat' first|exact trivial|(refine And.intro ?_ ?_)|exact LB.nil|(with_reducible exact LB.refl)|(apply LB.cons;(repeat first|refine goH ?_|apply LH.here|apply LH.next);refine And.intro ?_ ?_;(focus(try(first|(with_reducible rfl)|(refine congrArg (Pl.mk _) ?_;(first|(with_reducible rfl)|exact zp c.cx j _ (by omega) (by rw[Nat.zero_add];rfl)|rfl))|rfl|(with_reducible refine congrArg (Pl.mk _) ?_)))))|assumption|(first|(focus(apply Eq.trans;(conv=>lhs;whnf);(conv=>rhs;whnf);done))|rfl|((conv=>lhs;whnf);first|rfl|(refine congrArg (AV.int _) ?_;(exact T.num))|(refine congrArg AV.bool ?_;(exact T.num))|(refine vwc ?_;first|(exact T.num)|(first|(with_reducible rfl)|exact zp c.cx j _ (by omega) (by rw[Nat.zero_add];rfl)|rfl))|(refine q9 ?_ ?_<;>first|(exact T.num)|(first|(with_reducible rfl)|exact zp c.cx j _ (by omega) (by rw[Nat.zero_add];rfl)|rfl))|(first|(with_reducible rfl)|exact zp c.cx j _ (by omega) (by rw[Nat.zero_add];rfl)|rfl)))|(exact T.num)|(dsimp only;(exact T.num))|(first|(with_reducible rfl)|exact zp c.cx j _ (by omega) (by rw[Nat.zero_add];rfl)|rfl));done));rintro⟨j,a,z,q⟩ hok;(try dsimp only at hok)))|(show SWpL _ _ _ _ _ _ _;first|(refine goD tQ qc 5 [1,9] [0,1,2,3,4,5,6,7,8,9,10,11,12] [a] (by kernel_rfl) ?_))|(show AtL _ _ _ _ _ _ _ _ _ _;first|(apply AtL.mk' (id:=3) (S:=Nat×Nm×Nm×Nm) ((j+1,_,_,_));(repeat' first|exact trivial|(refine And.intro ?_ ?_)|exact LB.nil|(with_reducible exact LB.refl)|(apply LB.cons;(repeat first|refine goH ?_|apply LH.here|apply LH.next);refine And.intro ?_ ?_;(focus(try(first|(with_reducible rfl)|(refine congrArg (Pl.mk _) ?_;(first|(with_reducible rfl)|exact zp c.cx j _ (by omega) (by rw[Nat.zero_add];rfl)|rfl))|rfl|(with_reducible refine congrArg (Pl.mk _) ?_)))))|assumption|(first|(focus(apply Eq.trans;(conv=>lhs;whnf);(conv=>rhs;whnf);done))|rfl|((conv=>lhs;whnf);first|rfl|(refine congrArg (AV.int _) ?_;(exact T.num))|(refine congrArg AV.bool ?_;(exact T.num))|(refine vwc ?_;first|(exact T.num)|(first|(with_reducible rfl)|exact zp c.cx j _ (by omega) (by rw[Nat.zero_add];rfl)|rfl))|(refine q9 ?_ ?_<;>first|(exact T.num)|(first|(with_reducible rfl)|exact zp c.cx j _ (by omega) (by rw[Nat.zero_add];rfl)|rfl))|(first|(with_reducible rfl)|exact zp c.cx j _ (by omega) (by rw[Nat.zero_add];rfl)|rfl)))|(exact T.num)|(dsimp only;(exact T.num))|(first|(with_reducible rfl)|exact zp c.cx j _ (by omega) (by rw[Nat.zero_add];rfl)|rfl));done)|(apply AtL.mk' (id:=3) (S:=Nat×Nm×Nm×Nm) ((j+1,_,_,_));(repeat' first|exact trivial|(refine And.intro ?_ ?_)|exact LB.nil|(with_reducible exact LB.refl)|(apply LB.cons;(repeat first|refine goH ?_|apply LH.here|apply LH.next);refine And.intro ?_ ?_;(focus(try(first|(with_reducible rfl)|(refine congrArg (Pl.mk _) ?_;(first|(with_reducible rfl)|exact zp c.cx j _ (by omega) (by rw[Nat.zero_add];rfl)|rfl))|rfl|(with_reducible refine congrArg (Pl.mk _) ?_)))))|assumption|(first|(focus(apply Eq.trans;(conv=>lhs;whnf);(conv=>rhs;whnf);done))|rfl|((conv=>lhs;whnf);first|rfl|(refine congrArg (AV.int _) ?_;(exact T.num))|(refine congrArg AV.bool ?_;(exact T.num))|(refine vwc ?_;first|(exact T.num)|(first|(with_reducible rfl)|exact zp c.cx j _ (by omega) (by rw[Nat.zero_add];rfl)|rfl))|(refine q9 ?_ ?_<;>first|(exact T.num)|(first|(with_reducible rfl)|exact zp c.cx j _ (by omega) (by rw[Nat.zero_add];rfl)|rfl))|(first|(with_reducible rfl)|exact zp c.cx j _ (by omega) (by rw[Nat.zero_add];rfl)|rfl)))|(exact T.num)|(dsimp only;(exact T.num))|(first|(with_reducible rfl)|exact zp c.cx j _ (by omega) (by rw[Nat.zero_add];rfl)|rfl))))|exact T.z|fail)<;>conv=>whnf)
 all_goals(try dsimp only)
 all_goals first
   | (refine RL.own q rfl ?_ ?_
      · (repeat first|refine goH ?_|apply LH.here|apply LH.next);trivial
      · (repeat' first|exact LB.nil|(with_reducible exact LB.refl)|(apply LB.cons;(repeat first|refine goH ?_|apply LH.here|apply LH.next);refine And.intro ?_ ?_;(focus(try(first|(with_reducible rfl)|(refine congrArg (Pl.mk _) ?_;(first|rfl|(simp;done)))|rfl|(with_reducible refine congrArg (Pl.mk _) ?_)))))))
   | trace_state
theorem fack_n{m n:Int}{s:Sn}(h:xa s.rf n s.rf.length=0):wK m n s=s:=if_pos h
theorem fack_k{m n:Int}{s:Sn}{k:Nat}(h:xa s.rf n s.rf.length=k)(h0:0<k):wK m n s=jC m s (k-1):=by
 unfold wK
 rw[h,if_neg (by omega)]
theorem fsn_rf(s:Sn)(l:List Hd)(n:Nat)(h:n=l.length):Sn.cs { s with rf:=l }=qg (Sn.cs s) 8 [AV.sl n (l.flatMap Hd.cs)]:=by subst h;rfl
theorem lastK_s{l:List Hd}{n:Int}{k:Nat}(h0:0<k)(h:¬(l.getD (k-1) Hd.z).num=n):xa l n k=xa l n (k-1):=by
 obtain⟨j,rfl⟩:∃j,k=j+1:=⟨k-1,by omega⟩
 exact if_neg h
theorem lastK_y{l:List Hd}{n:Int}{k:Nat}(h0:0<k)(h:(l.getD (k-1) Hd.z).num=n):xa l n k=k:=by
 obtain⟨j,rfl⟩:∃j,k=j+1:=⟨k-1,by omega⟩
 exact if_pos h
theorem fser_e{k:Nat}{x:Int}(h:k≤1000)(h0:0<k)(h1:0≤x∧x≤1000):q7 .sub .i64 x ((k:Int)-1)=x-((k-1:Nat):Int):=by(exact T.num)
theorem lastK_0(l:List Hd)(n:Int):xa l n 0=0:=rfl
attribute [local irreducible] xa
theorem fack_c(L:List Sn)(i:Nat)(hi:i<L.length)(hl:(L.getD i Sn.z).rf.length≤100)(h0:0<(L.getD i Sn.z).rf.length)(hs:0≤(L.getD i Sn.z).ser∧(L.getD i Sn.z).ser≤100)(m n:Int)(q:Nm) :
   LP Tryz.prog G 135 [.ptr q (i*9),iAV m,iAV n] [(q,⟨122,L.flatMap Sn.cs⟩)] (fun _=>(.tup [],[(q,⟨122,(L.set i (wK m n (L.getD i Sn.z))).flatMap Sn.cs⟩)])):=by
 have hlen:(L.flatMap Sn.cs).length=L.length*9:=qm Sn.cs_len _
 have hle:i*9+9≤L.length*9:=by omega
 have hself:(L.set i (L.getD i Sn.z))=L:=set_self L i Sn.z hi
 refine goW [] Tryz.func135 rfl ?_
 conv=>whnf
 repeat'((first|((with_reducible show AB (qr .neq _ _) _ _);first|refine AB.neqT (by assumption) ?_|refine AB.neqF (by assumption) ?_|(by_cases hnn:((L.getD i Sn.z).rf.getD (k-1) Hd.z).num=n;(focus(refine AB.neqF hnn ?_));(focus(refine AB.neqT hnn ?_))))|(refine And.intro ?_ ?_;(focus(first|((try dsimp only);rw[hlen];omega)|((try dsimp only);exact Nat.le_of_eq (qm Hd.cs_len _).symm)|((try dsimp only);rw[List.length_drop,qm Hd.cs_len];omega)|(show _≤(List.flatMap Sn.cs _).length;rw[qm Sn.cs_len];(try rw[List.length_set]);(try dsimp only);omega)|exact T.kx|exact T.side)))|(show LC _ _ _ _ _ _;first|refine LC.pure (jm _) ?_|refine goE ?_)|(show AC _ _ _;first|(refine AC.fld Sn.cs_len i 8 Sn.z (hdv (L.getD i Sn.z).rf) rfl (by decide) hi rfl ?_)|(refine AC.fld Sn.cs_len i 3 Sn.z (iAV (L.getD i Sn.z).ser) rfl (by decide) hi rfl ?_)|(refine AC.recd Hd.cs_len (k-1) Hd.z ?_ rfl ?_ ?_;(focus((try dsimp only);omega));(focus omega))|(refine AC.rset Sn.cs_len 8 (hdv (L.getD i Sn.z).rf) hi rfl (by decide) rfl ?_)|(refine AC.rset Sn.cs_len 3 (iAV (L.getD i Sn.z).ser) hi rfl (by decide) rfl ?_))|(show AQ _ _;first|(refine AQ.fset Sn.cs_len i 1 Sn.z ({ L.getD i Sn.z with full:=0 }) hi rfl (by decide) rfl ?_)|(refine AQ.rset Sn.cs_len 2 ({ L.getD i Sn.z with full:=0,refr:=0 }) hi rfl (by decide) rfl ?_)|(refine AQ.fset Sn.cs_len i 8 Sn.z ({ L.getD i Sn.z with rf:=(L.getD i Sn.z).rf.drop (k-1) }) hi rfl (Nat.le_of_ble_eq_true rfl) (fsn_rf _ _ _ ?_) ?_;(focus((try dsimp only);rw[List.length_drop];omega)))|(refine AQ.rset Sn.cs_len 8 ({ L.getD i Sn.z with full:=0,refr:=0,rf:=(L.getD i Sn.z).rf.drop (k-1) }) hi rfl (Nat.le_of_ble_eq_true rfl) (fsn_rf ({ L.getD i Sn.z with full:=0,refr:=0 }) _ _ ?_) ?_;(focus((try dsimp only);rw[List.length_drop];omega)))|(refine AQ.rset Sn.cs_len 3 ({ L.getD i Sn.z with rf:=(L.getD i Sn.z).rf.drop (k-1),ser:=if 0<q7 .sub .i64 (L.getD i Sn.z).ser ((k:Int)-1) then q7 .sub .i64 (L.getD i Sn.z).ser ((k:Int)-1) else 0 }) hi rfl (Nat.le_of_ble_eq_true rfl) rfl ?_)|(refine AQ.rset Sn.cs_len 3 ({ L.getD i Sn.z with full:=0,refr:=0,rf:=(L.getD i Sn.z).rf.drop (k-1),ser:=if 0<q7 .sub .i64 (L.getD i Sn.z).ser ((k:Int)-1) then q7 .sub .i64 (L.getD i Sn.z).ser ((k:Int)-1) else 0 }) hi rfl (Nat.le_of_ble_eq_true rfl) rfl ?_)|(refine AQ.eq (hd_tail (L.getD i Sn.z).rf (k-1) _ _ ?_ ?_ ?_) ?_;(focus omega);(focus((try dsimp only);omega));(focus((try dsimp only);omega))))|refine T.s ?_|((first|apply goB|apply AB.dec|apply AB.gen)<;>intro h<;>try(exfalso;omega))|refine LQ.mk fun r=>?_|(show SWpL _ _ _ (.loop _) _ _ _;first|(apply goO tQ [] 1 (S:=Nat) [0,1,2] (fun k=>⟨[(6,.int .i64 ((k:Int)-1))],[(q,⟨122,L.flatMap Sn.cs⟩)],k≤(L.getD i Sn.z).rf.length∧xa (L.getD i Sn.z).rf n (L.getD i Sn.z).rf.length=xa (L.getD i Sn.z).rf n k,k⟩) ((L.getD i Sn.z).rf.length) (by rfl);(focus((repeat' first|exact trivial|(refine And.intro ?_ ?_)|exact LB.nil|(with_reducible exact LB.refl)|(apply LB.cons;(repeat first|refine goH ?_|apply LH.here|apply LH.next);refine And.intro ?_ ?_;(focus(try(first|(with_reducible rfl)|(refine congrArg (Pl.mk _) ?_;(first|rfl|(simp;done)))|rfl|(with_reducible refine congrArg (Pl.mk _) ?_)))))|assumption|(exact Eq.trans (by assumption) (lastK_s (by omega) (by assumption)))|(first|(focus(apply Eq.trans;(conv=>lhs;whnf);(conv=>rhs;whnf);done))|rfl|((conv=>lhs;whnf);first|rfl|(refine congrArg (AV.int _) ?_;(exact T.num))|(refine congrArg AV.bool ?_;(exact T.num))|(refine vwc ?_;first|(exact T.num)|(first|rfl|(simp;done)))|(refine q9 ?_ ?_<;>first|(exact T.num)|(first|rfl|(simp;done)))|(first|rfl|(simp;done))))|(exact T.num)|(dsimp only;(exact T.num))|(first|rfl|(simp;done)));done));rintro k ⟨hk,hok⟩))|(show AtL _ _ _ _ _ _ _ _ _ _;first|(apply AtL.mk' (id:=1) (S:=Nat) (k-1);(repeat' first|exact trivial|(refine And.intro ?_ ?_)|exact LB.nil|(with_reducible exact LB.refl)|(apply LB.cons;(repeat first|refine goH ?_|apply LH.here|apply LH.next);refine And.intro ?_ ?_;(focus(try(first|(with_reducible rfl)|(refine congrArg (Pl.mk _) ?_;(first|rfl|(simp;done)))|rfl|(with_reducible refine congrArg (Pl.mk _) ?_)))))|assumption|(exact Eq.trans (by assumption) (lastK_s (by omega) (by assumption)))|(first|(focus(apply Eq.trans;(conv=>lhs;whnf);(conv=>rhs;whnf);done))|rfl|((conv=>lhs;whnf);first|rfl|(refine congrArg (AV.int _) ?_;(exact T.num))|(refine congrArg AV.bool ?_;(exact T.num))|(refine vwc ?_;first|(exact T.num)|(first|rfl|(simp;done)))|(refine q9 ?_ ?_<;>first|(exact T.num)|(first|rfl|(simp;done)))|(first|rfl|(simp;done))))|(exact T.num)|(dsimp only;(exact T.num))|(first|rfl|(simp;done)));done)|(apply AtL.mk' (id:=1) (S:=Nat) (k-1);(repeat' first|exact trivial|(refine And.intro ?_ ?_)|exact LB.nil|(with_reducible exact LB.refl)|(apply LB.cons;(repeat first|refine goH ?_|apply LH.here|apply LH.next);refine And.intro ?_ ?_;(focus(try(first|(with_reducible rfl)|(refine congrArg (Pl.mk _) ?_;(first|rfl|(simp;done)))|rfl|(with_reducible refine congrArg (Pl.mk _) ?_)))))|assumption|(exact Eq.trans (by assumption) (lastK_s (by omega) (by assumption)))|(first|(focus(apply Eq.trans;(conv=>lhs;whnf);(conv=>rhs;whnf);done))|rfl|((conv=>lhs;whnf);first|rfl|(refine congrArg (AV.int _) ?_;(exact T.num))|(refine congrArg AV.bool ?_;(exact T.num))|(refine vwc ?_;first|(exact T.num)|(first|rfl|(simp;done)))|(refine q9 ?_ ?_<;>first|(exact T.num)|(first|rfl|(simp;done)))|(first|rfl|(simp;done))))|(exact T.num)|(dsimp only;(exact T.num))|(first|rfl|(simp;done)))))|(show(_→_)∧(¬_→_);first|refine T.y ?_|refine qv (fun h=>?_) (fun h=>?_))|exact T.z|fail)<;>conv=>whnf)
 all_goals(try dsimp only)
 all_goals first
   | (refine RL.val rfl (LB.cons ?_)
      (repeat first|refine goH ?_|apply LH.here|apply LH.next)
      refine And.intro (congrArg (Pl.mk _) (congrArg (List.flatMap Sn.cs) ?_)) LB.nil
      first
        | (have hk0:k=0:=(by omega)
           subst hk0
           rw[fack_n (hok.trans (lastK_0 _ _))];exact hself.symm)
        | (rw[fack_k (k:=k) (hok.trans (lastK_y (by omega) (by assumption))) (by omega)]
           have hse:=fser_e (k:=k) (x:=(L.getD i Sn.z).ser) (by omega) (by omega) (by omega)
           unfold jC
           by_cases hA:(L.getD i Sn.z).ser≤((k-1:Nat):Int)
           · by_cases hB:m=3
             · first
                 | (exfalso;omega)
                 | (simp only[if_pos hA,if_pos hB,hse];done)
             · first
                 | (exfalso;omega)
                 | (simp only[if_pos hA,if_neg hB];done)
           · by_cases hB:m=3
             · first
                 | (exfalso;omega)
                 | (simp only[if_neg hA,if_pos hB,hse];done)
             · first
                 | (exfalso;omega)
                 | (simp only[if_neg hA,if_neg hB];exact hself.symm)))
   | trace_state
theorem api_z{e:Int}{l:LS}:RL (fun _=>(.tup [Co.z.av,iAV e],[])) (.tup [.agg [.int .i64 0,.int .i64 0,.nils],iAV e]) l :=
 RL.frz [] (LF.tup ⟨LF.agg ⟨LF.eq rfl,LF.eq rfl,LF.nils rfl rfl,trivial⟩,LF.eq rfl,trivial⟩) LB.nil
theorem api_q{c:Co}{L:List Sn}{q:Nm}{n:Nat}{e:Int}{l:LS}(hn:n=L.length)(h:LH l q fun cc _ _=>cc.cs=L.flatMap Sn.cs):RL (fun _=>(.tup [(⟨c.m,c.w,L⟩:Co).av,iAV e],[])) (.tup [.agg [iAV c.m,iAV c.w,.vw q 0 n 9],iAV e]) l:=by
 subst hn
 exact RL.frz [q] (LF.tup ⟨LF.agg ⟨LF.eq rfl,LF.eq rfl,LF.row InL.here (LH.mono h fun cc _ _ hc=>⟨by decide,by rw[hc];exact qm Sn.cs_len _,rfl,hc.symm⟩),trivial⟩,LF.eq rfl,trivial⟩) (LH.mono h fun _ _ _ _=>LB.nil)
attribute [local irreducible] Co.ok yF wK
theorem fapp_c(c:Co)(f:Fb):LP Tryz.prog gm 89 [c.av,f.av] [] (fun _=>(.tup [(yL c f).1.av,iAV (yL c f).2],[])):=by
 have hv:=zT (G:=gm) c
 have hf:=vn (G:=gm) f
 unfold yL
 cases hc:c.ok with
 | false =>
   rw[hc] at hv
   rw[if_neg (by simp)]
   refine goW [] Tryz.func89 rfl ?_
   conv=>whnf
   repeat'((first|(show LC _ _ _ _ _ _;first|refine LC.pure (hv) ?_|refine LC.pure (hf) ?_|refine goE ?_)|refine T.s ?_|((first|apply goB|apply AB.dec|apply AB.gen)<;>intro h<;>try(exfalso;omega))|refine LQ.mk fun r=>?_|exact T.z|fail)<;>conv=>whnf)
   all_goals(try dsimp only)
   all_goals first|exact api_z|trace_state
 | true =>
   rw[hc] at hv
   cases hk:yF f with
   | false =>
     rw[hk] at hf
     rw[if_neg (by simp)]
     refine goW [] Tryz.func89 rfl ?_
     conv=>whnf
     repeat'((first|(show LC _ _ _ _ _ _;first|refine LC.pure (hv) ?_|refine LC.pure (hf) ?_|refine goE ?_)|refine T.s ?_|((first|apply goB|apply AB.dec|apply AB.gen)<;>intro h<;>try(exfalso;omega))|refine LQ.mk fun r=>?_|exact T.z|fail)<;>conv=>whnf)
     all_goals(try dsimp only)
     all_goals first|exact api_z|trace_state
   | true =>
     rw[hk] at hf
     rw[if_pos ⟨rfl,rfl⟩]
     have hff:=fbOk_e.1 hk
     obtain⟨g1,g2,g3,g4⟩:=ya.1 hc
     obtain⟨i,hi⟩:∃i:Nat,f.c=(i:Int):=⟨f.c.toNat,by omega⟩
     have hi16:i<16:=by omega
     have hlt:i<c.cx.length:=by omega
     have htn:f.c.toNat=i:=by omega
     rw[htn]
     have hs:=g3 i hi16
     have hM:=fun ha=>wZ hs ha (xj (c.at i).fst)
     have hrl:∀k,k<c.cx.length→(c.at k).rf.length≤1000:=fun k hk2=>by
       have hsk:=g3 k (by omega)
       cases hak:(c.at k).act with
       | false=>rw[(wU hsk hak).2.2.2.2.2.2];exact Nat.zero_le _
       | true =>
         have hMk:=wZ hsk hak (xj (c.at k).fst)
         have:=hMk.len
         by_cases h3:c.m=3
         · have:=this.2 h3;omega
         · have:=this.1 h3;omega
     have hcl:=cclone_d (G:=gm) c (by omega) (by omega) hrl
     have hlen:(c.cx.flatMap Sn.cs).length=c.cx.length*9:=qm Sn.cs_len _
     have hr1:=hrl i hlt
     have hat:c.cx.getD i Sn.z=c.at i:=rfl
     by_cases hm:c.m=1
     · rw[if_pos hm]
       refine goW [] Tryz.func89 rfl ?_
       conv=>whnf
       repeat'((first|(show LC _ _ _ _ _ _;first|refine LC.pure (hv) ?_|refine LC.pure (hf) ?_|refine goE ?_)|refine T.s ?_|((first|apply goB|apply AB.dec|apply AB.gen)<;>intro h<;>try(exfalso;omega))|refine LQ.mk fun r=>?_|exact T.z|fail)<;>conv=>whnf)
       all_goals(try dsimp only)
       all_goals first|contradiction|exact api_z|trace_state
     · rw[if_neg hm]
       cases ha:(c.at i).act with
       | false =>
         rw[if_neg (by decide)]
         refine goW [] Tryz.func89 rfl ?_
         conv=>whnf
         repeat'((first|(refine And.intro ?_ ?_;(focus(first|((try dsimp only);rw[hlen];omega)|exact T.kx|exact T.side)))|(show LC _ _ _ _ _ _;first|refine LC.pure (hv) ?_|refine LC.pure (hf) ?_|refine goE ?_)|(show AC _ _ _;first|(refine AC.fld2 Sn.cs_len i 0 Sn.z (.bool false) (by(try dsimp only);omega) (by decide) hlt (congrArg AV.bool ha) ?_))|refine T.s ?_|((first|apply goB|apply AB.dec|apply AB.gen)<;>intro h<;>try(exfalso;omega))|refine LQ.mk fun r=>?_|exact T.z|fail)<;>conv=>whnf)
         all_goals(try dsimp only)
         all_goals first|contradiction|exact api_z|trace_state
       | true =>
         rw[if_pos rfl]
         have hMM:=hM ha
         have h32:(c.at i).rf.length≤32:=by
           have:=hMM.len
           by_cases h3:c.m=3
           · exact this.2 h3
           · have:=this.1 h3;omega
         have hpos:=kQ hs ha
         have hser:=hMM.ser
         rw[←hat] at hpos h32 hser ⊢
         refine goW [] Tryz.func89 rfl ?_
         conv=>whnf
         repeat'((first|(show LC _ _ 135 [.ptr _ (0+f.c.toNat*9),_,_] _ _;rw[show 0+f.c.toNat*9=i*9 by omega];apply LC.upd (fack_c c.cx i hlt (by omega) hpos (by omega) c.m f.n _);(repeat first|refine goH ?_|apply LH.here|apply LH.next);refine⟨rfl,?_⟩)|(refine And.intro ?_ ?_;(focus(first|((try dsimp only);rw[hlen];omega)|((try dsimp only);show _≤(List.flatMap Sn.cs _).length;rw[qm Sn.cs_len];(try rw[List.length_set]);omega)|exact T.kx|exact T.side)))|(show LC _ _ _ _ _ _;first|refine LC.pure (hv) ?_|refine LC.pure (hf) ?_|refine LC.own (hcl) ?_|refine goE ?_)|(show AC _ _ _;first|(refine AC.fld2 Sn.cs_len i 0 Sn.z (.bool true) (by(try dsimp only);omega) (by decide) hlt (congrArg AV.bool ha) ?_)|(refine AC.fld Sn.cs_len i 1 Sn.z (iAV (c.cx.getD i Sn.z).full) (by(try dsimp only);omega) (by decide) hlt rfl ?_)|(refine AC.rset Sn.cs_len 8 (hdv (c.cx.getD i Sn.z).rf) hlt (by(try dsimp only);omega) (by decide) rfl ?_))|(show AQ _ _;first|(refine AQ.fset Sn.cs_len i 1 Sn.z ({ c.cx.getD i Sn.z with full:=c.w }) hlt (by(try dsimp only);omega) (Nat.le_of_ble_eq_true rfl) rfl ?_)|(refine AQ.fset Sn.cs_len i 2 Sn.z ({ c.cx.getD i Sn.z with refr:=c.w }) hlt (by(try dsimp only);omega) (Nat.le_of_ble_eq_true rfl) rfl ?_)|(refine AQ.rset Sn.cs_len 2 ({ c.cx.getD i Sn.z with full:=c.w,refr:=0 }) hlt (by(try dsimp only);omega) (Nat.le_of_ble_eq_true rfl) rfl ?_)|(refine AQ.rset Sn.cs_len 3 ({ c.cx.getD i Sn.z with full:=c.w,refr:=0,ser:=(c.cx.getD i Sn.z).rf.length }) hlt (by(try dsimp only);omega) (Nat.le_of_ble_eq_true rfl) rfl ?_)|(refine AQ.rset Sn.cs_len 3 ({ c.cx.getD i Sn.z with full:=c.w,ser:=(c.cx.getD i Sn.z).rf.length }) hlt (by(try dsimp only);omega) (Nat.le_of_ble_eq_true rfl) rfl ?_)|(refine AQ.rset Sn.cs_len 3 ({ c.cx.getD i Sn.z with refr:=c.w,ser:=(c.cx.getD i Sn.z).rf.length }) hlt (by(try dsimp only);omega) (Nat.le_of_ble_eq_true rfl) rfl ?_))|refine T.s ?_|((first|apply goB|apply AB.dec|apply AB.gen)<;>intro h<;>try(exfalso;omega))|refine LQ.mk fun r=>?_|exact T.z|fail)<;>conv=>whnf)
         all_goals(try dsimp only)
         all_goals first
           | contradiction
           | (refine api_q (L:=c.cx.set i _) (by rw[List.length_set]) ?_
              (repeat first|refine goH ?_|apply LH.here|apply LH.next)
              refine congrArg (fun s=>(c.cx.set i s).flatMap Sn.cs) ?_
              unfold appS
              first
                | (rw[if_pos (by assumption)];done)
                | (rw[if_neg (by assumption),if_pos (by assumption)];rfl)
                | (rw[if_neg (by assumption),if_neg (by assumption)];unfold nakS;first|(rw[if_pos (by assumption)];done)|(rw[if_neg (by assumption)];done)))
           | trace_state
end Go.Proofs.YtndpmpnmkpaklaaGreatDoor
namespace Go.Proofs.YtndpmpnmkpaklaaGreatDoor
open Go.RowKit
variable {G:Nat→AV}
section
variable {P:Program}{T:Tys}{G:Nat→AV}
theorem LSpecF.introN(hT:TOk P T){ι:Type}(i0:ι)(nm:List Nm→List Nm)(pn:List Nm){f:FuncId}{fn:Func}{c:Code}{args:List AV}{ps:LS}{k:Nat}{post:ι→List Nm→AV×LS}(hf:P.funcs[f]? = some fn)(hb:fn.body=some c)(hname:(fn.name == "runtime.NumGoroutine")=false)(hl:args.length≤fn.ntmps)
   (hnm:∀i qs,(post i qs).2.map (·.1)=nm qs) (hpn:ps.map (·.1)=pn) (h1:∀qs,qs.length=k→(∀n∈nm qs,n∈qs∨n∈pn)∧(qs.Nodup→(∀q∈qs,q∉pn)→(nm qs).Nodup))
   (h:SWpL P G fn.ntmps c (retQL T fn.results.toList (fun r l=>∃i,RetLN k (post i) r l)) (jJ args) ps):LSpecF ι P G f args ps k post :=
 LSpecF.introL hT i0 hf hb hname hl (fun i qs hq=>⟨fun x hx=>by
   rw[hpn]
   exact(h1 qs hq).1 x.1 (by rw[←hnm i qs];exact List.mem_map.2 ⟨x,hx,rfl⟩),fun a b=>by
   rw[hnm]
   exact(h1 qs hq).2 a fun q hq2=>by rw[←hpn];exact b q hq2⟩) h
end
theorem vw_e{p:Nm}{a a' b b' z:Nat}(ha:a=a')(hb:b=b'):AV.vw p a b z=AV.vw p a' b' z:=by rw[ha,hb]
theorem LFreshN.one{K:List Nm→Prop}(h:∀x,K [x]):LFreshN 1 K:=⟨fun qs hq=>match qs,hq with|[x],_=>h x⟩
abbrev Qs{α:Type}(l:List α)(n:Nat):Type:={ s:List α×Nat // s.1.drop s.2=l∧s.2≤s.1.length∧s.1.length≤n }
def Qs.in_{α:Type}{l:List α}{j:Nat}(h:j≤l.length)(x:α):Qs (l.drop j++[x]) (l.length+1):=⟨(l++[x],j),by rw[List.drop_append_of_le_length h],by rw[List.length_append];omega,by rw[List.length_append];exact Nat.le_refl _⟩
def Qs.mv{α:Type}(l:List α)(j:Nat)(x:α):Qs (l.drop j++[x]) (l.length+1):=⟨(l.drop j++[x],0),rfl,Nat.zero_le _,by rw[List.length_append,List.length_drop];simp⟩
@[reducible] def qh0(qs:List Nm):Nm:=qs.getD 0 (.b 0)
@[reducible] def qh1(qs:List Nm):Nm:=qs.getD 1 (.b 0)
@[reducible] def qh2(qs:List Nm):Nm:=qs.getD 2 (.b 0)
theorem nm_1(L W:Nm):∀qs:List Nm,qs.length=1→(∀n∈[L,qh0 qs],n∈qs∨n∈[L,W])∧(qs.Nodup→(∀q∈qs,q∉[L,W])→[L,qh0 qs].Nodup):=fun qs hq=>match qs,hq with
 | [x],_=>⟨by simp,by intro h1 h2;simp at h1 h2 ⊢;simp_all [eq_comm]⟩
theorem nm_2(L W B O:Nm)(h:[L,W,B,O].Nodup):∀qs:List Nm,qs.length=2→(∀n∈[L,W,qh0 qs,qh1 qs],n∈qs∨n∈[L,W,B,O])∧(qs.Nodup→(∀q∈qs,q∉[L,W,B,O])→[L,W,qh0 qs,qh1 qs].Nodup):=fun qs hq=>match qs,hq with
 | [x,y],_=>⟨by simp,by intro h1 h2;simp at h h1 h2 ⊢;simp_all [eq_comm]⟩
theorem nm_3(L W B O:Nm):∀qs:List Nm,qs.length=3→(∀n∈[L,qh0 qs,qh1 qs,qh2 qs],n∈qs∨n∈[L,W,B,O])∧(qs.Nodup→(∀q∈qs,q∉[L,W,B,O])→[L,qh0 qs,qh1 qs,qh2 qs].Nodup):=fun qs hq=>match qs,hq with
 | [x,y,z],_=>⟨by simp,by intro h1 h2;simp at h1 h2 ⊢;simp_all [eq_comm]⟩
theorem ms_len(x:Nat×List UInt8):(msC x).length=2:=rfl
def lkC(x:Hk)(ps:List (List UInt8))(wv bw ov:AV):List AV:=[iAV x.c.m,iAV x.c.w,snv x.c.cx,iAV x.d.m,rcv x.d.cx,bbv ps,.int .i64 x.nx,wv,bw,ov]
theorem yw(l:List (Nat×List UInt8)):(l.flatMap msC).length=l.length*2:=qm ms_len l
theorem ms_app(l:List (Nat×List UInt8))(j o m:Nat)(a:List AV)(v:Nat×List UInt8)(hj:j≤l.length)(ho:o=j*2)(hm:m=(l.length-j)*2)(ha:a=msC v:=by rfl):List.take m (List.drop o (l.flatMap msC))++a=(l.drop j++[v]).flatMap msC:=by
 subst ho hm ha
 rw[kj ms_len,List.take_of_length_le (by rw[yw,List.length_drop];omega),List.flatMap_append,List.flatMap_singleton]
theorem ms_in(l:List (Nat×List UInt8))(j m:Nat)(v:Nat×List UInt8)(hj:j≤l.length)(hm:m=j*2+(l.length-j)*2):List.take m (l.flatMap msC)++msC v=(l++[v]).flatMap msC:=by
 subst hm
 rw[List.take_of_length_le (by rw[yw];omega),List.flatMap_append,List.flatMap_singleton]
theorem hbs_app(l:List (List UInt8))(j o m:Nat)(a:List AV)(v:List UInt8)(hj:j≤l.length)(ho:o=j)(hm:m=l.length-j)(ha:a=[bv v]:=by rfl):List.take m (List.drop o (l.map bv))++a=(l.drop j++[v]).map bv:=by
 subst ho hm ha
 rw[←List.map_drop,List.take_of_length_le (by rw[List.length_map,List.length_drop];exact Nat.le_refl _),List.map_append,List.map_singleton]
theorem bs_in(l:List (List UInt8))(j m:Nat)(v:List UInt8)(hj:j≤l.length)(hm:m=j+(l.length-j)):List.take m (l.map bv)++[bv v]=(l++[v]).map bv:=by
 subst hm
 rw[List.take_of_length_le (by rw[List.length_map];omega),List.map_append,List.map_singleton]
theorem qtake_m(x:Hk)(ps:List (List UInt8))(bw ov:AV)(L W:Nm)(wl:List (Nat×List UInt8))(j:Nat)(hj:j<wl.length)(hn:[L,W].Nodup) :
   LP Tryz.prog G 52 [.ptr L 7] [(L,⟨79,lkC x ps (.vw W (j*2) (wl.length-j) 2) bw ov⟩),(W,⟨106,wl.flatMap msC⟩)]
     (fun _=>(.tup [.agg (msC (wl.getD j (0,[]))),.bool true],[(L,⟨79,lkC x ps (.vw W ((j+1)*2) (wl.length-(j+1)) 2) bw ov⟩),(W,⟨106,wl.flatMap msC⟩)])):=by
 refine goW [1] Tryz.func52 rfl ?_
 conv=>whnf
 repeat'((first|exact Nm.b 0|(refine And.intro ?_ ?_;(focus(first|((try dsimp only);rw[yw];omega)|exact T.kx|exact T.side)))|(show AC _ _ _;first|(refine AC.recd ms_len j (0,[]) ?_ rfl hj ?_;(focus((try dsimp only);omega))))|refine T.s ?_|((first|apply goB|apply AB.dec|apply AB.gen)<;>intro h<;>try(exfalso;omega))|refine LQ.mk fun r=>?_|(show SWpL _ _ _ _ _ _ _;first|refine gX 4 [10,12] [0,1,2,3,4,5,6,7,8,9,10,11,12,13,14,15] [z4] ?_)|(show CutL _ _ _ _ _ _ _ _;first|(refine goK tQ [1] 1 (S:=Nm×Nm) [0] (fun(z4,z2)=>⟨[(4,.ptr z4 0),(2,.ptr z2 0),(3,.bool false)],[(z4,⟨106,[.int .i64 0,.nils]⟩),(z2,⟨106,[.int .i64 0,.nils]⟩),(L,⟨79,lkC x ps (.vw W (j*2) (wl.length-j) 2) bw ov⟩),(W,⟨106,wl.flatMap msC⟩)],True,0⟩) ?_ ?_;(rintro⟨z4,z2⟩ -);rotate_left)|refine CutL.go tQ [1] ?_)|(show AtC _ _ _ _ _ _ _ _;first|(show AtC 1 _ _ _ _ _ _ _;exact goM 1 (S:=Nm×Nm) ((_,_)))|(apply AtC.mk' (id:=1) (S:=Nm×Nm) ((_,_));(repeat' first|exact trivial|(refine And.intro ?_ ?_)|exact LB.nil|(with_reducible exact LB.refl)|(apply LB.cons;(repeat first|refine goH ?_|apply LH.here|apply LH.next);refine And.intro ?_ ?_;(focus(try(first|(with_reducible rfl)|(refine congrArg (Pl.mk _) ?_;(first|rfl|(simp;done)))|rfl|(with_reducible refine congrArg (Pl.mk _) ?_)))))|assumption|(first|(focus(apply Eq.trans;(conv=>lhs;whnf);(conv=>rhs;whnf);done))|rfl|((conv=>lhs;whnf);first|rfl|(refine congrArg (AV.int _) ?_;(exact T.num))|(refine congrArg AV.bool ?_;(exact T.num))|(refine vwc ?_;first|(exact T.num)|(first|rfl|(simp;done)))|(refine q9 ?_ ?_<;>first|(exact T.num)|(first|rfl|(simp;done)))|(first|rfl|(simp;done))))|(exact T.num)|(dsimp only;(exact T.num))|(first|rfl|(simp;done)))))|(show(_→_)∧(¬_→_);first|refine T.y ?_|refine qv (fun h=>?_) (fun h=>?_))|exact T.z|fail)<;>conv=>whnf)
 all_goals(try dsimp only)
 all_goals first
   | (refine RL.val rfl (LB.cons ?_)
      (repeat first|refine goH ?_|apply LH.here|apply LH.next)
      refine And.intro (congrArg (Pl.mk _) (congrArg (fun v=>lkC x ps v bw ov) (vw_e (by omega) (by omega)))) ?_
      (repeat' first|exact LB.nil|(with_reducible exact LB.refl)|(apply LB.cons;(repeat first|refine goH ?_|apply LH.here|apply LH.next);refine And.intro ?_ ?_;(focus(try(first|(with_reducible rfl)|(refine congrArg (Pl.mk _) ?_;(first|rfl|(simp;done)))|rfl|(with_reducible refine congrArg (Pl.mk _) ?_)))))))
   | trace_state
theorem qtake_e(x:Hk)(ps:List (List UInt8))(bw ov:AV)(L W:Nm)(o:Nat) :
   LP Tryz.prog G 52 [.ptr L 7] [(L,⟨79,lkC x ps (.vw W o 0 2) bw ov⟩)]
     (fun _=>(.tup [.agg [.int .i64 0,.nils],.bool false],[(L,⟨79,lkC x ps (.vw W o 0 2) bw ov⟩)])):=by
 refine goW [] Tryz.func52 rfl ?_
 conv=>whnf
 repeat'((first|exact Nm.b 0|refine T.s ?_|((first|apply goB|apply AB.dec|apply AB.gen)<;>intro h<;>try(exfalso;omega))|refine LQ.mk fun r=>?_|(show SWpL _ _ _ _ _ _ _;first|refine gX 4 [10,12] [0,1,2,3,4,5,6,7,8,9,10,11,12,13,14,15] [] ?_)|(show(_→_)∧(¬_→_);first|refine T.y ?_|refine qv (fun h=>?_) (fun h=>?_))|exact T.z|fail)<;>conv=>whnf)
 all_goals(try dsimp only)
 all_goals first
   | ((show RL _ _ _;refine goR ?_)
      rfl)
   | (refine RL.val rfl ?_
      (repeat' first|exact LB.nil|(with_reducible exact LB.refl)|(apply LB.cons;(repeat first|refine goH ?_|apply LH.here|apply LH.next);refine And.intro ?_ ?_;(focus(try(first|(with_reducible rfl)|(refine congrArg (Pl.mk _) ?_;(first|rfl|(simp;done)))|rfl|(with_reducible refine congrArg (Pl.mk _) ?_)))))))
   | trace_state
theorem qput_m(x:Hk)(ps:List (List UInt8))(bw ov:AV)(L W:Nm)(wl:List (Nat×List UInt8))(j:Nat)(hj:j≤wl.length)(hl:wl.length≤100000)(v:Nat×List UInt8) :
   LSpecF (Qs (wl.drop j++[v]) (wl.length+1)) Tryz.prog G 83 [.ptr L 7,.agg (msC v)] [(L,⟨79,lkC x ps (.vw W (j*2) (wl.length-j) 2) bw ov⟩),(W,⟨106,wl.flatMap msC⟩)] 1
     (fun i qs=>(.tup [],[(L,⟨79,lkC x ps (.vw (qh0 qs) (i.1.2*2) (i.1.1.length-i.1.2) 2) bw ov⟩),(qh0 qs,⟨106,i.1.1.flatMap msC⟩)])):=by
 refine LSpecF.introN tQ (Qs.mv wl j v) (fun qs=>[L,qh0 qs]) ([L,W]) Tryz.func83 rfl (by kernel_rfl) (by simp) (fun _ _=>rfl) rfl (nm_1 L W) ?_
 refine AWpL.sound tQ [] _ _ _ _ ?_
 conv=>whnf
 repeat'((first|(show(_≠0→_)∧_;refine And.intro (fun hoff=>?_) ?_)|exact Nm.b 0|(refine And.intro ?_ ?_;(focus(first|((try dsimp only);rw[yw];omega)|exact T.kx|exact T.side)))|(show AQ _ _;first|(refine AQ.eq (ms_app wl j _ _ _ v hj ?_ ?_) ?_;(focus(first|rfl|((try dsimp only);omega)));(focus(first|rfl|((try dsimp only);omega)))))|refine T.s ?_|((first|apply goB|apply AB.dec|apply AB.gen)<;>intro h<;>try(exfalso;omega))|refine LQ.mk fun r=>?_|(show SWpL _ _ _ _ _ _ _;first|refine gX 1 [] [0,1,2,3,4,5,6,7,8,9,10] [] ?_)|exact T.z|fail)<;>conv=>whnf)
 all_goals(try dsimp only)
 · refine⟨Qs.in_ hj v,RetLN.val [W] rfl ?_ rfl (LB.cons ?_)⟩
   · show LH _ _ _
     (repeat first|refine goH ?_|apply LH.here|apply LH.next);trivial
   · (repeat first|refine goH ?_|apply LH.here|apply LH.next)
     refine And.intro (congrArg (Pl.mk _) (congrArg (fun v=>lkC x ps v bw ov) (vw_e rfl ?_))) ?_
     · show _=(wl++[v]).length-j
       rw[List.length_append,List.length_singleton];omega
     · apply LB.cons
       (repeat first|refine goH ?_|apply LH.here|apply LH.next)
       refine And.intro (congrArg (Pl.mk _) ?_) LB.nil
       exact ms_in wl j _ v hj (by omega)
 · refine⟨Qs.mv wl j v,RetLN.val [r] rfl ?_ rfl (LB.cons ?_)⟩
   · show LH _ _ _
     (repeat first|refine goH ?_|apply LH.here|apply LH.next);trivial
   · (repeat first|refine goH ?_|apply LH.here|apply LH.next)
     refine And.intro (congrArg (Pl.mk _) (congrArg (fun v=>lkC x ps v bw ov) (vw_e rfl ?_))) ?_
     · show _=(wl.drop j++[v]).length-0
       rw[List.length_append,List.length_singleton,List.length_drop];omega
     · (repeat' first|exact LB.nil|(with_reducible exact LB.refl)|(apply LB.cons;(repeat first|refine goH ?_|apply LH.here|apply LH.next);refine And.intro ?_ ?_;(focus(try(first|(with_reducible rfl)|(refine congrArg (Pl.mk _) ?_;(first|rfl|(simp;done)))|rfl|(with_reducible refine congrArg (Pl.mk _) ?_))))))
theorem qtake_b(x:Hk)(ps:List (List UInt8))(ww ov:AV)(L B:Nm)(bl:List (List UInt8))(j:Nat)(hj:j<bl.length)(hn:[L,B].Nodup) :
   LP Tryz.prog G 55 [.ptr L 8] [(L,⟨79,lkC x ps ww (.vw B j (bl.length-j) 1) ov⟩),(B,⟨37,bl.map bv⟩)]
     (fun _=>(.tup [bv (bl.getD j []),.bool true],[(L,⟨79,lkC x ps ww (.vw B (j+1) (bl.length-(j+1)) 1) ov⟩),(B,⟨37,bl.map bv⟩)])):=by
 refine goW [] Tryz.func55 rfl ?_
 conv=>whnf
 repeat'((first|exact Nm.b 0|(refine And.intro ?_ ?_;(focus(first|((try dsimp only);rw[List.length_map];omega)|exact T.kx|exact T.side)))|(show AC _ _ _;first|(refine AC.idx (f:=bv) (l:=bl) j [] ?_ ?_ ?_;(focus((try dsimp only);omega));(focus omega)))|refine T.s ?_|((first|apply goB|apply AB.dec|apply AB.gen)<;>intro h<;>try(exfalso;omega))|refine LQ.mk fun r=>?_|(show SWpL _ _ _ _ _ _ _;first|refine gX 4 [] [0,1,2,3,4,5,6,7,8,9,10,11,12,13,14,15] [] ?_)|(show(_→_)∧(¬_→_);first|refine T.y ?_|refine qv (fun h=>?_) (fun h=>?_))|exact T.z|fail)<;>conv=>whnf)
 all_goals(try dsimp only)
 all_goals first
   | (refine RL.val rfl (LB.cons ?_)
      (repeat first|refine goH ?_|apply LH.here|apply LH.next)
      refine And.intro (congrArg (Pl.mk _) (congrArg (fun v=>lkC x ps ww v ov) (vw_e (by omega) (by omega)))) ?_
      (repeat' first|exact LB.nil|(with_reducible exact LB.refl)|(apply LB.cons;(repeat first|refine goH ?_|apply LH.here|apply LH.next);refine And.intro ?_ ?_;(focus(try(first|(with_reducible rfl)|(refine congrArg (Pl.mk _) ?_;(first|rfl|(simp;done)))|rfl|(with_reducible refine congrArg (Pl.mk _) ?_)))))))
   | trace_state
theorem qtake_be(x:Hk)(ps:List (List UInt8))(ww ov:AV)(L B:Nm)(o:Nat) :
   LP Tryz.prog G 55 [.ptr L 8] [(L,⟨79,lkC x ps ww (.vw B o 0 1) ov⟩)]
     (fun _=>(.tup [.nils,.bool false],[(L,⟨79,lkC x ps ww (.vw B o 0 1) ov⟩)])):=by
 refine goW [] Tryz.func55 rfl ?_
 conv=>whnf
 repeat'((first|exact Nm.b 0|refine T.s ?_|((first|apply goB|apply AB.dec|apply AB.gen)<;>intro h<;>try(exfalso;omega))|refine LQ.mk fun r=>?_|(show SWpL _ _ _ _ _ _ _;first|refine gX 4 [] [0,1,2,3,4,5,6,7,8,9,10,11,12,13,14,15] [] ?_)|(show(_→_)∧(¬_→_);first|refine T.y ?_|refine qv (fun h=>?_) (fun h=>?_))|exact T.z|fail)<;>conv=>whnf)
 all_goals(try dsimp only)
 all_goals first
   | (refine RL.val rfl ?_
      (repeat' first|exact LB.nil|(with_reducible exact LB.refl)|(apply LB.cons;(repeat first|refine goH ?_|apply LH.here|apply LH.next);refine And.intro ?_ ?_;(focus(try(first|(with_reducible rfl)|(refine congrArg (Pl.mk _) ?_;(first|rfl|(simp;done)))|rfl|(with_reducible refine congrArg (Pl.mk _) ?_)))))))
   | trace_state
theorem qput_b(x:Hk)(ps:List (List UInt8))(ww ov:AV)(L B:Nm)(bl:List (List UInt8))(j:Nat)(hj:j≤bl.length)(hl:bl.length≤100000)(v:List UInt8) :
   LSpecF (Qs (bl.drop j++[v]) (bl.length+1)) Tryz.prog G 86 [.ptr L 8,bv v] [(L,⟨79,lkC x ps ww (.vw B j (bl.length-j) 1) ov⟩),(B,⟨37,bl.map bv⟩)] 1
     (fun i qs=>(.tup [],[(L,⟨79,lkC x ps ww (.vw (qh0 qs) i.1.2 (i.1.1.length-i.1.2) 1) ov⟩),(qh0 qs,⟨37,i.1.1.map bv⟩)])):=by
 refine LSpecF.introN tQ (Qs.mv bl j v) (fun qs=>[L,qh0 qs]) ([L,B]) Tryz.func86 rfl (by kernel_rfl) (by simp) (fun _ _=>rfl) rfl (nm_1 L B) ?_
 refine AWpL.sound tQ [] _ _ _ _ ?_
 conv=>whnf
 repeat'((first|(show(_≠0→_)∧_;refine And.intro (fun hoff=>?_) ?_)|(refine And.intro ?_ ?_;(focus(first|((try dsimp only);rw[List.length_map];omega)|exact T.kx|exact T.side)))|(show AQ _ _;first|(refine AQ.eq (hbs_app bl j _ _ _ v hj ?_ ?_) ?_;(focus(first|rfl|((try dsimp only);omega)));(focus(first|rfl|((try dsimp only);omega)))))|refine T.s ?_|((first|apply goB|apply AB.dec|apply AB.gen)<;>intro h<;>try(exfalso;omega))|refine LQ.mk fun r=>?_|exact T.z|fail)<;>conv=>whnf)
 all_goals(try dsimp only)
 · refine⟨Qs.in_ hj v,RetLN.val [B] rfl ?_ rfl (LB.cons ?_)⟩
   · show LH _ _ _
     (repeat first|refine goH ?_|apply LH.here|apply LH.next);trivial
   · (repeat first|refine goH ?_|apply LH.here|apply LH.next)
     refine And.intro (congrArg (Pl.mk _) (congrArg (fun v=>lkC x ps ww v ov) (vw_e rfl ?_))) ?_
     · show _=(bl++[v]).length-j
       rw[List.length_append,List.length_singleton];omega
     · apply LB.cons
       (repeat first|refine goH ?_|apply LH.here|apply LH.next)
       refine And.intro (congrArg (Pl.mk _) ?_) LB.nil
       exact bs_in bl j _ v hj (by omega)
 · refine⟨Qs.mv bl j v,RetLN.val [r] rfl ?_ rfl (LB.cons ?_)⟩
   · show LH _ _ _
     (repeat first|refine goH ?_|apply LH.here|apply LH.next);trivial
   · (repeat first|refine goH ?_|apply LH.here|apply LH.next)
     refine And.intro (congrArg (Pl.mk _) (congrArg (fun v=>lkC x ps ww v ov) (vw_e rfl ?_))) ?_
     · show _=(bl.drop j++[v]).length-0
       rw[List.length_append,List.length_singleton,List.length_drop];omega
     · (repeat' first|exact LB.nil|(with_reducible exact LB.refl)|(apply LB.cons;(repeat first|refine goH ?_|apply LH.here|apply LH.next);refine And.intro ?_ ?_;(focus(try(first|(with_reducible rfl)|(refine congrArg (Pl.mk _) ?_;(first|rfl|(simp;done)))|rfl|(with_reducible refine congrArg (Pl.mk _) ?_))))))
end Go.Proofs.YtndpmpnmkpaklaaGreatDoor
