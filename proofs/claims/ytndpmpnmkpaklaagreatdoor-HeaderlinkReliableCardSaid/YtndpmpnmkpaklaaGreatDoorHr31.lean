/-
  Contracts of the functions that the laws reach.
-/
import Derived.Test.YtndpmpnmkpaklaaGreatDoorHr29
set_option maxHeartbeats 8000000
set_option linter.all false
namespace Go.Proofs.YtndpmpnmkpaklaaGreatDoor
open Go.RowKit
variable {G:Nat→AV}
theorem phead_d(h:Hd)(ko:h.ok=true):LP Tryz.prog G 171 [h.av] [] (fun _=>(bv (qJ h),[])):=by
 by_cases k:h.k=1
 · have hl:(qJ h).length=28:=by rw[zS,if_neg (by omega)]
   refine LP.data (phead_1 h ko k) fun q=>LF.vc (LF.part InL.here (.here ⟨by decide,?_,?_,?_⟩))
   · simp;omega
   · exact hl.symm▸rfl
   · show(qJ h).map bAV=_
     rw[List.map_append,List.drop_zero,List.take_left' (by simp;omega)]
 · have k2:h.k=2:=by
     unfold Hd.ok at ko
     rw[if_neg k] at ko
     by_cases k2:h.k=2
     · exact k2
     · rw[if_neg k2] at ko;cases ko
   have hl:(qJ h).length=40:=by rw[zS,if_pos k2]
   refine LP.data (phead_2 h ko k2) fun q=>?_
   have:=LF.rowF (f:=bAV) (b:=qJ h) (q:=q) (n:=40) (l:=[(q,⟨5,(qJ h).map bAV⟩)]) (F:=[q]) InL.here (.here ⟨rfl,hl.symm⟩)
   exact this
theorem csum_h(f:Int)(h:Hd)(ko:h.ok=true):LP Tryz.prog gm 134 [iAV (cbR f),bv (qJ h)] [] (fun _=>(.tup [iAV (j6 f h),iAV 0],[])):=by
 have h1:=vr (cbR f) (qJ h) (by have:=headL_le h;omega)
 rw[crcO_cb] at h1
 have ec:j6 f h=jp (cbR f) (qJ h):=by unfold j6 headO;rw[if_pos ko]
 rw[ec]
 exact h1
theorem wparts_c(p:Nm)(s:Sn)(R:AV)(m w:Int)(hd:Hd)(ko:hd.ok=true)(c f:Int)(pl:List UInt8)(hf:1≤f∧f≤5):LP Tryz.prog gm 121 [.ptr p 0,iAV c,iAV f,bv pl] [(p,⟨175,wrV s R m w hd⟩)] (fun _=>((qf s.dy c f hd pl).av,[(p,⟨175,wrV s R m w hd⟩)])):=by
 have w1:wid 1 hd.k 0=4:=by simp[wid]
 have w2:wid 2 hd.k 0=5:=by simp[wid];split<;>rfl
 have w3t:hd.k=2→wid 3 hd.k 0=8:=fun k=>by simp[wid,k]
 have w3u:hd.k≠2→wid 3 hd.k 0=16:=fun k=>by simp[wid,k]
 have w3:1≤wid 3 hd.k 0∧wid 3 hd.k 0≤32:=by by_cases k:hd.k=2<;>first|(rw[w3t k];decide)|(rw[w3u k];decide)
 have hn:=num_rng ko
 have h5:f=1∨f=2∨f=3∨f=4∨f=5:=by omega
 rcases h5 with rfl|rfl|rfl|rfl|rfl
 all_goals
   refine goW [] Tryz.func121 rfl ?_
   conv=>whnf
   repeat'((first|exact Nm.b 0|(show LC _ _ _ _ _ _;first|refine LC.pure (wg _) ?_|refine LC.pure (phead_d hd ko) ?_|refine LC.pure (csum_h _ hd ko) ?_|refine LC.pure (jm _) ?_|refine LC.pure (wu _ _) ?_|refine LC.pure (xQ (wid 1 hd.k 0) _ (by rw[w1];decide) (by rw[w1];decide)) ?_|refine LC.pure (xQ (wid 2 hd.k 0) _ (by rw[w2];decide) (by rw[w2];decide)) ?_|refine LC.pure (xQ (wid 3 hd.k 0) _ w3.1 w3.2) ?_|refine LC.pure (xQ _ _ (by decide) (by decide)) ?_|refine goE ?_)|refine T.s ?_|((first|apply goB|apply AB.dec|apply AB.gen)<;>intro h<;>try(exfalso;omega))|refine LQ.mk fun r=>?_|(show SWpL _ _ _ _ _ _ _;first|refine gX 2 [5,1] [0,2,3,4,5,1,6,7,8,9,10,11,12] [r] ?_|refine gX 4 [8,10] [0,1,2,3,4,5,6,7,8,9,10,11,12] [r] ?_|refine gX 8 [9,12] [0,1,2,3,4,5,6,7,8,9,10,11,12,13,14] [r] ?_|refine gX 9 [10,6] [0,1,2,3,4,5,7,8,9,10,6,11,12,13,14] [r] ?_|refine gX 14 [4,10] [0,1,2,3,4,5,6,7,8,9,11,10,12,13,14] [r] ?_|refine gX 16 [9,14,16,18] [0,1,2,3,4,5,6,7,8,9,10,11,12,13,14,15,16,17,18,19,20] [r] ?_)|exact T.z|fail)<;>conv=>whnf)
   all_goals(try dsimp only)
   all_goals
     (show RL _ _ _;refine goR ?_)
     unfold qf
     (repeat first|rw[if_pos (by first|assumption|omega)]|rw[if_neg (by first|assumption|omega)])
     (try rw[w1])
     (try rw[w2])
     (try rw[w3t (by assumption)])
     (try rw[w3u (by assumption),lw_small (n:=16) hn.1 (show hd.num<65536 by omega)])
     rfl
theorem LC.clnP{L:List Hd}{k:Nat}{q:Nm}{off n:Nat}{l:LS}{K:AV→LS→Prop}(ho:off=k*15)(hn:n=L.length-k)(hk:k≤L.length)(hl:L.length≤100000)(h:LH l q fun c _ r=>c.cs=L.flatMap Hd.cs∧LQ fun r'=>K (.vw r' 0 n 15) ((r',⟨54,(L.drop k).flatMap Hd.cs⟩)::r)):LC Tryz.prog G 148 [.vw q off n 15] l K:=by
 subst ho hn
 have e:(L.drop k).length=L.length-k:=by simp
 have hc:=hclone_o (G:=G) (L.drop k) (by rw[e];omega)
 rw[e] at hc
 refine LC.mk' hc [q] ⟨LF.part InL.here (LH.mono h fun c _ r hh=>⟨by decide,by rw[hh.1,qm Hd.cs_len,←Nat.add_mul];exact Nat.mul_le_mul_right _ (by omega),e,?_⟩),trivial⟩ (LH.mono h fun c _ r hh=>hh.2)
 rw[hh.1,kj Hd.cs_len,List.take_of_length_le (by rw[qm Hd.cs_len,e];exact Nat.le_refl _)]
theorem jv{p:Prop}(h:p:=by(repeat' first|exact trivial|(refine And.intro ?_ ?_)|exact LB.nil|(with_reducible exact LB.refl)|(apply LB.cons;(repeat first|refine goH ?_|apply LH.here|apply LH.next);refine And.intro ?_ ?_;(focus(try(first|(with_reducible rfl)|(refine congrArg (Pl.mk _) ?_;(first|(with_reducible rfl)|((try rw[wN hs1]);(try rw[min3 hl2]);(try rw[s5 (by assumption)]);(try rw[s4 (by assumption)]);rfl)|rfl))|rfl|(with_reducible refine congrArg (Pl.mk _) ?_)))))|(with_reducible assumption)|((with_reducible show(_:Sn)=fA _ _ _);first|(exact fA_5 hm3 (by assumption))|(exact fA_4 hm3 (by assumption))|(exact fA_0 (by omega) (by omega)))|((with_reducible show(_:Sn)=_);first|(rw[if_pos (by omega)];done)|(rw[if_neg (by omega)];done)|(rw[if_pos ⟨by omega,by assumption⟩];done))|(show(_:AV)=_;(first|(focus(apply Eq.trans;(conv=>lhs;whnf);(conv=>rhs;whnf);done))|rfl|((conv=>lhs;whnf);first|rfl|(refine congrArg (AV.int _) ?_;(exact T.num))|(refine congrArg AV.bool ?_;(exact T.num))|(refine vwc ?_;first|(exact T.num)|(first|(with_reducible rfl)|((try rw[wN hs1]);(try rw[min3 hl2]);(try rw[s5 (by assumption)]);(try rw[s4 (by assumption)]);rfl)|rfl))|(refine q9 ?_ ?_<;>first|(exact T.num)|(first|(with_reducible rfl)|((try rw[wN hs1]);(try rw[min3 hl2]);(try rw[s5 (by assumption)]);(try rw[s4 (by assumption)]);rfl)|rfl))|(first|(with_reducible rfl)|((try rw[wN hs1]);(try rw[min3 hl2]);(try rw[s5 (by assumption)]);(try rw[s4 (by assumption)]);rfl)|rfl))))|((with_reducible first|(show(_:Int)≤_)|(show(_:Int)<_)|(show(_:Nat)≤_)|(show(_:Nat)<_)|(show(_:Int)=_)|(show(_:Nat)=_));(exact T.num))|(first|(with_reducible rfl)|((try rw[wN hs1]);(try rw[min3 hl2]);(try rw[s5 (by assumption)]);(try rw[s4 (by assumption)]);rfl)|rfl));first|done|fail):p:=h
theorem wcount_v(p q:Nm)(hne:p≠q)(v:Sn)(m w:Int)(hd:Hd)(f:Int)(hs:0≤v.sin∧v.sin≤32)(hg:0≤v.lng∧v.lng≤3)(h5:f=5→0<v.full∧v.full≤8)(h4:f=4→0<v.refr∧v.refr≤8)(hq:0≤v.ser∧v.ser≤1000)(hw:1≤w∧w≤8)(hf:1≤f∧f≤5)(hl:v.rf.length≤100) :
   LP Tryz.prog G 122 [.ptr p 0,iAV f] [(p,⟨175,wrV v (.vw q 0 v.rf.length 15) m w hd⟩),(q,⟨54,v.rf.flatMap Hd.cs⟩)] (fun r=>(.tup [],[(r,⟨54,(csF m w hd v f).rf.flatMap Hd.cs⟩),(p,⟨175,wrV (csF m w hd v f) (.vw r 0 (csF m w hd v f).rf.length 15) m w hd⟩)])):=by
 obtain⟨F,hF⟩:∃F,csF1 m hd v f=F:=⟨_,rfl⟩
 have hFr:F.rf=v.rf:=(by rw[←hF];exact F1_dy.2.2)
 have hFs:F.ser=v.ser:=(by rw[←hF];exact F1_dy.2.1)
 have hN:=csF_n (m:=m) (w:=w) (v:=v) (h:=hd) (f:=f)
 have hO:=csF_o (m:=m) (w:=w) (v:=v) (h:=hd) (f:=f)
 rw[hF] at hN hO
 rw[←hFs] at hO
 obtain⟨NS,hNS⟩:∃NS,csF m w hd v f=NS:=⟨_,rfl⟩
 rw[hNS] at hN hO ⊢
 have s5:f=5→q7 .sub .i64 v.full 1=v.full-1:=fun e=>by have:=h5 e;(exact T.num)
 have s4:f=4→q7 .sub .i64 v.refr 1=v.refr-1:=fun e=>by have:=h4 e;(exact T.num)
 have hov:q7 .sub .i64 ((v.rf.length+1:Nat):Int) w=(v.rf.length:Int)+1-w:=by(exact T.num)
 by_cases hm3:m=3
 all_goals
   refine goW [0,7,9] Tryz.func122 rfl ?_
   conv=>whnf
   repeat'((first|((with_reducible show AB (qr .neq m 3) _ _);first|refine AB.neqT hm3 ?_|refine AB.neqF hm3 ?_)|(show LC _ _ 148 _ _ _;refine LC.clnP (L:=v.rf++[hd]) (k:=((v.rf.length:Int)+1-w).toNat) ?_ ?_ (by simp;omega) (by simp;omega) ?_;(focus(rw[hov];omega));(focus(rw[hov];simp only[List.length_append,List.length_cons,List.length_nil];omega));(repeat first|refine goH ?_|apply LH.here|apply LH.next);refine And.intro rfl ?_)|exact Nm.b 0|(refine And.intro ?_ ?_;(focus(first|(with_reducible exact rf_side _)|(with_reducible exact Nat.le_of_eq (qm Hd.cs_len _).symm)|exact InL.here|exact T.kx|exact T.side)))|(show AQ _ _;first|((with_reducible show AQ (_++_) _);refine AQ.eq (rf_app v.rf hd rfl) ?_))|refine T.s ?_|((first|apply goB|apply AB.dec|apply AB.gen)<;>intro h)|refine LQ.mk fun r=>?_|(show SWpL _ _ _ _ _ _ _;first|(apply goD tQ qc 12 [] [0,1,2,3,4,5,6,7,8,9,10,11,12,13,14,15] [_] (by kernel_rfl))|refine gX 13 [] [0,1,2,3,4,5,6,7,8,9,10,11] [p] ?_)|(show CutL _ _ _ _ _ _ _ _;first|(refine goK tQ [0,7,9] 0 (S:=Sn) [0,1] (fun t1=>⟨[],[(p,⟨175,wrV t1 (.vw q 0 v.rf.length 15) m w hd⟩),(q,⟨54,v.rf.flatMap Hd.cs⟩)],t1=fA m v f,0⟩) ?_ ?_;(rintro t1 hok;(try dsimp only at hok);(have q1:=hok;have hs1:0≤t1.sin∧t1.sin≤32:=(by rw[hok];exact hs);have hl1:0≤t1.lng∧t1.lng≤3:=(by rw[hok];exact hg)));rotate_left)|(refine goK tQ [0,7,9] 7 (S:=Sn) [0,1] (fun t2=>⟨[],[(p,⟨175,wrV t2 (.vw q 0 v.rf.length 15) m w hd⟩),(q,⟨54,v.rf.flatMap Hd.cs⟩)],t2={ t1 with sin:=if f=5 then 0 else min (t1.sin+1) 32 },0⟩) ?_ ?_;(rintro t2 hok;(try dsimp only at hok);(have q2:=hok;have hl2:0≤t2.lng∧t2.lng≤3:=(by rw[hok];exact hl1)));rotate_left)|(refine goK tQ [0,7,9] 9 (S:=Sn) [0] (fun t3=>⟨[],[(p,⟨175,wrV t3 (.vw q 0 v.rf.length 15) m w hd⟩),(q,⟨54,v.rf.flatMap Hd.cs⟩)],t3={ t2 with lng:=if(f=2∨f=3)∧hd.k=2 then min (t2.lng+1) 3 else 0 },0⟩) ?_ ?_;(rintro t3 hok;(try dsimp only at hok);(have q3:t3=F:=(by rw[hok,q2,q1,←hF];rfl);have q5:t3.ser=v.ser:=(by rw[q3];exact hFs);have q6:t3.rf=v.rf:=(by rw[q3,hFr]);rw[←q3] at hN hO));rotate_left)|refine CutL.go tQ [0,7,9] ?_)|(show AtC 0 _ _ _ _ _ _ _;first|(apply AtC.mk' (id:=0) (S:=Sn) (v);focus(refine T.a4 ?_ ?_ ?_<;>exact jv))|(apply AtC.mk' (id:=0) (S:=Sn) ({ v with full:=v.full-1 });focus(refine T.a4 ?_ ?_ ?_<;>exact jv))|(apply AtC.mk' (id:=0) (S:=Sn) ({ v with refr:=v.refr-1 });focus(refine T.a4 ?_ ?_ ?_<;>exact jv)))|(show AtC 7 _ _ _ _ _ _ _;first|(apply AtC.mk' (id:=7) (S:=Sn) ({ t1 with sin:=0 });focus(refine T.a4 ?_ ?_ ?_<;>exact jv))|(apply AtC.mk' (id:=7) (S:=Sn) ({ t1 with sin:=min (t1.sin+1) 32 });focus(refine T.a4 ?_ ?_ ?_<;>exact jv)))|(show AtC 9 _ _ _ _ _ _ _;first|(apply AtC.mk' (id:=9) (S:=Sn) ({ t2 with lng:=0 });focus(refine T.a4 ?_ ?_ ?_<;>exact jv))|(apply AtC.mk' (id:=9) (S:=Sn) ({ t2 with lng:=min (t2.lng+1) 3 });focus(refine T.a4 ?_ ?_ ?_<;>exact jv)))|(show(_→_)∧(¬_→_);first|refine T.y ?_|refine qv (fun h=>?_) (fun h=>?_))|exact T.z|fail)<;>try(show(_:Prop);conv=>whnf))
   all_goals(try dsimp only)
   all_goals first
     | (rw[hN (by omega)];refine RL.own r ?_ ?_ ?_;(focus(simp;done));(focus((repeat first|refine goH ?_|apply LH.here|apply LH.next);trivial));(focus(simp only[List.length_append,List.length_cons,List.length_nil];rw[q6];(repeat' first|exact LB.nil|(with_reducible exact LB.refl)|(apply LB.cons;(repeat first|refine goH ?_|apply LH.here|apply LH.next);refine And.intro ?_ ?_;(focus(try(first|(with_reducible rfl)|(refine congrArg (Pl.mk _) ?_;(first|rfl|(simp;done)))|rfl|(with_reducible refine congrArg (Pl.mk _) ?_)))))))))
     | (rw[hov] at h;rw[hN (by omega)];refine RL.own r ?_ ?_ ?_;(focus(simp;done));(focus((repeat first|refine goH ?_|apply LH.here|apply LH.next);trivial));(focus(simp only[List.length_append,List.length_cons,List.length_nil];(repeat' first|exact LB.nil|(with_reducible exact LB.refl)|(apply LB.cons;(repeat first|refine goH ?_|apply LH.here|apply LH.next);refine And.intro ?_ ?_;(focus(try(first|(with_reducible rfl)|(refine congrArg (Pl.mk _) ?_;(first|rfl|(simp;done)))|rfl|(with_reducible refine congrArg (Pl.mk _) ?_)))))))))
     | (rw[hov] at h;rw[hO ⟨hm3,by omega⟩,max0 (ser_e (by omega) hov (by omega)),over_n (l:=v.rf) (h:=hd) (k:=((v.rf.length:Int)+1-w).toNat) (hov.trans (by omega))];refine RL.own r ?_ ?_ ?_;(focus rfl);(focus((repeat first|refine goH ?_|apply LH.here|apply LH.next);trivial));(focus(repeat' first|exact LB.nil|(with_reducible exact LB.refl)|(apply LB.cons;(repeat first|refine goH ?_|apply LH.here|apply LH.next);refine And.intro ?_ ?_;(focus(try(first|(with_reducible rfl)|(refine congrArg (Pl.mk _) ?_;(first|rfl|(simp;done)))|rfl|(with_reducible refine congrArg (Pl.mk _) ?_))))))))
     | trace_state
theorem ju{p:Prop}(h:p:=by(repeat' first|exact trivial|(refine And.intro ?_ ?_)|exact LB.nil|(with_reducible exact LB.refl)|(apply LB.cons;(repeat first|refine goH ?_|apply LH.here|apply LH.next);refine And.intro ?_ ?_;(focus(try(first|(with_reducible rfl)|(refine congrArg (Pl.mk _) ?_;(first|(with_reducible rfl)|((try rw[wN hs1]);(try rw[min3 hl2]);(try rw[s5 (by assumption)]);(try rw[s4 (by assumption)]);rfl)|rfl))|rfl|(with_reducible refine congrArg (Pl.mk _) ?_)))))|(with_reducible assumption)|((with_reducible show(_:Sn)=fA _ _ _);first|(exact fA_5 hm3 (by assumption))|(exact fA_4 hm3 (by assumption))|(exact fA_0 (by omega) (by omega)))|((with_reducible show(_:Sn)=_);first|(rw[if_pos (by omega)];done)|(rw[if_neg (by omega)];done)|(rw[if_pos ⟨by omega,by assumption⟩];done))|(show(_:AV)=_;(first|(focus(apply Eq.trans;(conv=>lhs;whnf);(conv=>rhs;whnf);done))|rfl|((conv=>lhs;whnf);first|rfl|(refine congrArg (AV.int _) ?_;(exact T.num))|(refine congrArg AV.bool ?_;(exact T.num))|(refine vwc ?_;first|(exact T.num)|(first|(with_reducible rfl)|((try rw[wN hs1]);(try rw[min3 hl2]);(try rw[s5 (by assumption)]);(try rw[s4 (by assumption)]);rfl)|rfl))|(refine q9 ?_ ?_<;>first|(exact T.num)|(first|(with_reducible rfl)|((try rw[wN hs1]);(try rw[min3 hl2]);(try rw[s5 (by assumption)]);(try rw[s4 (by assumption)]);rfl)|rfl))|(first|(with_reducible rfl)|((try rw[wN hs1]);(try rw[min3 hl2]);(try rw[s5 (by assumption)]);(try rw[s4 (by assumption)]);rfl)|rfl))))|((with_reducible first|(show(_:Int)≤_)|(show(_:Int)<_)|(show(_:Nat)≤_)|(show(_:Nat)<_)|(show(_:Int)=_)|(show(_:Nat)=_));(exact T.num))|(first|(with_reducible rfl)|((try rw[wN hs1]);(try rw[min3 hl2]);(try rw[s5 (by assumption)]);(try rw[s4 (by assumption)]);rfl)|rfl));first|done|fail):p:=h
theorem wcount_n(p:Nm)(v:Sn)(m w:Int)(hd:Hd)(f:Int)(hs:0≤v.sin∧v.sin≤32)(hg:0≤v.lng∧v.lng≤3)(h5:f=5→0<v.full∧v.full≤8)(h4:f=4→0<v.refr∧v.refr≤8)(hq:0≤v.ser∧v.ser≤1000)(hw:1≤w∧w≤8)(hf:1≤f∧f≤5)(hm3:m=3)(hl:v.rf=[]) :
   LP Tryz.prog G 122 [.ptr p 0,iAV f] [(p,⟨175,wrV v .nils m w hd⟩)] (fun r=>(.tup [],[(r,⟨54,(csF m w hd v f).rf.flatMap Hd.cs⟩),(p,⟨175,wrV (csF m w hd v f) (.vw r 0 (csF m w hd v f).rf.length 15) m w hd⟩)])):=by
 obtain⟨F,hF⟩:∃F,csF1 m hd v f=F:=⟨_,rfl⟩
 have hFr:F.rf=v.rf:=(by rw[←hF];exact F1_dy.2.2)
 have hFs:F.ser=v.ser:=(by rw[←hF];exact F1_dy.2.1)
 have hN:=csF_n (m:=m) (w:=w) (v:=v) (h:=hd) (f:=f)
 have hO:=csF_o (m:=m) (w:=w) (v:=v) (h:=hd) (f:=f)
 rw[hF] at hN hO
 rw[←hFs] at hO
 obtain⟨NS,hNS⟩:∃NS,csF m w hd v f=NS:=⟨_,rfl⟩
 rw[hNS] at hN hO ⊢
 have s5:f=5→q7 .sub .i64 v.full 1=v.full-1:=fun e=>by have:=h5 e;(exact T.num)
 have s4:f=4→q7 .sub .i64 v.refr 1=v.refr-1:=fun e=>by have:=h4 e;(exact T.num)
 rw[hl] at hN hO
 all_goals
   refine goW [0,7,9] Tryz.func122 rfl ?_
   conv=>whnf
   repeat'((first|((with_reducible show AB (qr .neq m 3) _ _);first|refine AB.neqT hm3 ?_|refine AB.neqF hm3 ?_)|exact Nm.b 0|(refine And.intro ?_ ?_;(focus(first|(with_reducible exact rf_side _)|(with_reducible exact Nat.le_of_eq (qm Hd.cs_len _).symm)|exact InL.here|exact T.kx|exact T.side)))|refine T.s ?_|((first|apply goB|apply AB.dec|apply AB.gen)<;>intro h)|refine LQ.mk fun r=>?_|(show SWpL _ _ _ _ _ _ _;first|(apply goD tQ qc 12 [] [0,1,2,3,4,5,6,7,8,9,10,11,12,13,14,15] [_] (by kernel_rfl))|refine gX 13 [] [0,1,2,3,4,5,6,7,8,9,10,11] [p] ?_)|(show CutL _ _ _ _ _ _ _ _;first|(refine goK tQ [0,7,9] 0 (S:=Sn) [0,1] (fun t1=>⟨[],[(p,⟨175,wrV t1 .nils m w hd⟩)],t1=fA m v f,0⟩) ?_ ?_;(rintro t1 hok;(try dsimp only at hok);(have q1:=hok;have hs1:0≤t1.sin∧t1.sin≤32:=(by rw[hok];exact hs);have hl1:0≤t1.lng∧t1.lng≤3:=(by rw[hok];exact hg)));rotate_left)|(refine goK tQ [0,7,9] 7 (S:=Sn) [0,1] (fun t2=>⟨[],[(p,⟨175,wrV t2 .nils m w hd⟩)],t2={ t1 with sin:=if f=5 then 0 else min (t1.sin+1) 32 },0⟩) ?_ ?_;(rintro t2 hok;(try dsimp only at hok);(have q2:=hok;have hl2:0≤t2.lng∧t2.lng≤3:=(by rw[hok];exact hl1)));rotate_left)|(refine goK tQ [0,7,9] 9 (S:=Sn) [0] (fun t3=>⟨[],[(p,⟨175,wrV t3 .nils m w hd⟩)],t3={ t2 with lng:=if(f=2∨f=3)∧hd.k=2 then min (t2.lng+1) 3 else 0 },0⟩) ?_ ?_;(rintro t3 hok;(try dsimp only at hok);(have q3:t3=F:=(by rw[hok,q2,q1,←hF];rfl);have q5:t3.ser=v.ser:=(by rw[q3];exact hFs);rw[←q3] at hN hO));rotate_left)|refine CutL.go tQ [0,7,9] ?_)|(show AtC 0 _ _ _ _ _ _ _;first|(apply AtC.mk' (id:=0) (S:=Sn) (v);focus(refine T.a4 ?_ ?_ ?_<;>exact ju))|(apply AtC.mk' (id:=0) (S:=Sn) ({ v with full:=v.full-1 });focus(refine T.a4 ?_ ?_ ?_<;>exact ju))|(apply AtC.mk' (id:=0) (S:=Sn) ({ v with refr:=v.refr-1 });focus(refine T.a4 ?_ ?_ ?_<;>exact ju)))|(show AtC 7 _ _ _ _ _ _ _;first|(apply AtC.mk' (id:=7) (S:=Sn) ({ t1 with sin:=0 });focus(refine T.a4 ?_ ?_ ?_<;>exact ju))|(apply AtC.mk' (id:=7) (S:=Sn) ({ t1 with sin:=min (t1.sin+1) 32 });focus(refine T.a4 ?_ ?_ ?_<;>exact ju)))|(show AtC 9 _ _ _ _ _ _ _;first|(apply AtC.mk' (id:=9) (S:=Sn) ({ t2 with lng:=0 });focus(refine T.a4 ?_ ?_ ?_<;>exact ju))|(apply AtC.mk' (id:=9) (S:=Sn) ({ t2 with lng:=min (t2.lng+1) 3 });focus(refine T.a4 ?_ ?_ ?_<;>exact ju)))|(show(_→_)∧(¬_→_);first|refine T.y ?_|refine qv (fun h=>?_) (fun h=>?_))|exact T.z|fail)<;>try(show(_:Prop);conv=>whnf))
   all_goals(try dsimp only)
   all_goals first
     | (rw[hN (by omega)];refine RL.own r ?_ ?_ ?_;(focus(simp;done));(focus((repeat first|refine goH ?_|apply LH.here|apply LH.next);trivial));(focus(simp only[List.length_append,List.length_cons,List.length_nil];(repeat' first|exact LB.nil|(with_reducible exact LB.refl)|(apply LB.cons;(repeat first|refine goH ?_|apply LH.here|apply LH.next);refine And.intro ?_ ?_;(focus(try(first|(with_reducible rfl)|(refine congrArg (Pl.mk _) ?_;(first|rfl|(simp;done)))|rfl|(with_reducible refine congrArg (Pl.mk _) ?_)))))))))
     | (rw[hov] at h;rw[hN (by omega)];refine RL.own r ?_ ?_ ?_;(focus(simp;done));(focus((repeat first|refine goH ?_|apply LH.here|apply LH.next);trivial));(focus(simp only[List.length_append,List.length_cons,List.length_nil];(repeat' first|exact LB.nil|(with_reducible exact LB.refl)|(apply LB.cons;(repeat first|refine goH ?_|apply LH.here|apply LH.next);refine And.intro ?_ ?_;(focus(try(first|(with_reducible rfl)|(refine congrArg (Pl.mk _) ?_;(first|rfl|(simp;done)))|rfl|(with_reducible refine congrArg (Pl.mk _) ?_)))))))))
     | (rw[hov] at h;rw[hO ⟨hm3,by omega⟩,max0 (ser_e (by omega) hov (by omega)),show((v.rf.length+1:Nat):Int).toNat-(q7 .sub .i64 ((v.rf.length+1:Nat):Int) w).toNat=((v.rf++[hd]).drop ((v.rf.length:Int)+1-w).toNat).length by rw[hov];simp;omega];refine RL.own r ?_ ?_ ?_;(focus rfl);(focus((repeat first|refine goH ?_|apply LH.here|apply LH.next);trivial));(focus(repeat' first|exact LB.nil|(with_reducible exact LB.refl)|(apply LB.cons;(repeat first|refine goH ?_|apply LH.here|apply LH.next);refine And.intro ?_ ?_;(focus(try(first|(with_reducible rfl)|(refine congrArg (Pl.mk _) ?_;(first|rfl|(simp;done)))|rfl|(with_reducible refine congrArg (Pl.mk _) ?_))))))))
     | trace_state
open Go.RowKit
variable {G:Nat→AV}
end Go.Proofs.YtndpmpnmkpaklaaGreatDoor
