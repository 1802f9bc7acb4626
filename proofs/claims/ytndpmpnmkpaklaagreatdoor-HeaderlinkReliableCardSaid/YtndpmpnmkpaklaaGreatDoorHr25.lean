/-
  Contracts of the functions that the laws reach.
-/
import Derived.Test.YtndpmpnmkpaklaaGreatDoorHr22
import Derived.Test.YtndpmpnmkpaklaaGreatDoorHr24
set_option maxHeartbeats 4000000
set_option linter.all false
namespace Go.Proofs.YtndpmpnmkpaklaaGreatDoor
open Go.RowKit
theorem ye(w q:Nm)(hne:w≠q)(l:List Rc)(i:Nat)(hi:i<l.length)(m c:Int)(s:Sm)(a:AV)(hd:Hd):LP Tryz.prog gm 182 [.ptr w 0,hd.av] [(w,⟨184,wkC m c s a q (i*19)⟩),(q,⟨138,l.flatMap Rc.cs⟩)] (fun _=>(.bool (kk s hd),[(w,⟨184,wkC m c s a q (i*19)⟩),(q,⟨138,l.flatMap Rc.cs⟩)])):=by
 have h1:=vr (cbR s.f) (qJ hd) (by have:=headL_le hd;omega)
 have h0:=vr (cbR s.f) [] (by decide)
 rw[crcO_cb] at h1 h0
 cases ko:hd.ok with
 | true =>
   have ec:j6 s.f hd=jp (cbR s.f) (qJ hd):=by unfold j6 headO;rw[if_pos ko]
   by_cases k:hd.k=1
   · have h2:LP Tryz.prog gm 134 [iAV (cbR s.f),bv ((qJ hd++List.replicate 12 0).take 28)] [] (fun _=>(.tup [iAV (jp (cbR s.f) (qJ hd)),iAV 0],[])):=by
       rw[List.take_left' (by rw[zS,if_neg (by omega)])]
       exact h1
     have hl:(qJ hd).length=28:=by rw[zS,if_neg (by omega)]
     refine goW [] Tryz.func182 rfl ?_
     conv=>whnf
     repeat'((first|exact Nm.b 0|(show LC _ _ _ _ _ _;first|refine LC.pure (wg _) ?_|refine LC.own (phead_1 hd ko k) ?_|refine LC.mk' (h2) [_] ⟨LF.eq rfl,LF.vc (LF.headB InL.here ?_),trivial⟩ ?_|refine goE ?_)|refine T.s ?_|((first|apply goB|apply AB.dec|apply AB.gen)<;>intro h<;>try(exfalso;omega))|refine LQ.mk fun r=>?_|(show SWpL _ _ _ _ _ _ _;first|refine gX 1 [6,5] [0,1,2,3,4,6,5,7,8,9,10,11,12,13] [] ?_)|exact T.z|fail)<;>conv=>whnf)
     all_goals(try dsimp only)
     all_goals first|((show RL _ _ _;refine goR ?_);unfold kk;rw[ec];rfl)|exact Nat.le_trans (Nat.le_of_eq hl.symm) (by simp)|trace_state
   · have k2:hd.k=2:=by
       unfold Hd.ok at ko
       rw[if_neg k] at ko
       by_cases k2:hd.k=2
       · exact k2
       · rw[if_neg k2] at ko;cases ko
     have hl2:(qJ hd).length=40:=by rw[zS,if_pos k2]
     refine goW [] Tryz.func182 rfl ?_
     conv=>whnf
     repeat'((first|exact Nm.b 0|(show LC _ _ _ _ _ _;first|refine LC.pure (wg _) ?_|refine LC.own (phead_2 hd ko k2) ?_|refine LC.mk' (h1) [_] ⟨LF.eq rfl,LF.rowF InL.here ?_,trivial⟩ ?_|refine goE ?_)|refine T.s ?_|((first|apply goB|apply AB.dec|apply AB.gen)<;>intro h<;>try(exfalso;omega))|refine LQ.mk fun r=>?_|(show SWpL _ _ _ _ _ _ _;first|refine gX 1 [6,5] [0,1,2,3,4,6,5,7,8,9,10,11,12,13] [] ?_)|exact T.z|fail)<;>conv=>whnf)
     all_goals(try dsimp only)
     all_goals first|((show RL _ _ _;refine goR ?_);unfold kk;rw[ec];rfl)|exact hl2.symm|trace_state
 | false =>
   have ec:j6 s.f hd=jp (cbR s.f) []:=by unfold j6 headO;rw[if_neg (by rw[ko];decide)]
   refine goW [] Tryz.func182 rfl ?_
   conv=>whnf
   repeat'((first|exact Nm.b 0|(show LC _ _ _ _ _ _;first|refine LC.pure (wg _) ?_|refine LC.pure (phead_n hd ko) ?_|refine LC.mk' (h0) [] ⟨LF.eq rfl,LF.nils rfl rfl,trivial⟩ ?_|refine goE ?_)|refine T.s ?_|((first|apply goB|apply AB.dec|apply AB.gen)<;>intro h<;>try(exfalso;omega))|refine LQ.mk fun r=>?_|(show SWpL _ _ _ _ _ _ _;first|refine gX 1 [6,5] [0,1,2,3,4,6,5,7,8,9,10,11,12,13] [] ?_)|exact T.z|fail)<;>conv=>whnf)
   all_goals(try dsimp only)
   all_goals first|((show RL _ _ _;refine goR ?_);unfold kk;rw[ec];rfl)|trace_state
theorem whdr_a(w q:Nm)(hne:w≠q)(l:List Rc)(i:Nat)(hi:i<l.length)(m c:Int)(s:Sm)(a:AV)(n:Int)(hf:s.f=4∨s.f=5):LP Tryz.prog gm 181 [.ptr w 0,iAV n] [(w,⟨184,wkC m c s a q (i*19)⟩),(q,⟨138,l.flatMap Rc.cs⟩)] (fun _=>((zD (l.getD i Rc.z) s n).av,[(w,⟨184,wkC m c s a q (i*19)⟩),(q,⟨138,l.flatMap Rc.cs⟩)])):=by
 refine goW [] Tryz.func181 rfl ?_
 conv=>whnf
 repeat'((first|exact Nm.b 0|(refine And.intro ?_ ?_;(focus(first|exact sub_le Rc.cs_len hi (by decide)|exact T.kx|exact T.side)))|(show AC _ _ _;first|(refine AC.sub Rc.cs_len i 1 Rc.z _ rfl (by decide) hi rfl ?_))|refine T.s ?_|((first|apply goB|apply AB.dec|apply AB.gen)<;>intro h<;>try(exfalso;omega))|refine LQ.mk fun r=>?_|(show SWpL _ _ _ _ _ _ _;first|refine gX 6 [3,5,7,9,11,13,15,17] [0,1,2,3,4,5,6,7,8,9,10,11,12,13,14,15,16,17,18,19] [r] ?_|refine gX 8 [] [0,1,2,3,4,5,6,7,8,9,10,11] [r] ?_|refine gX 15 [] [0,1,2,3,4,5,6,7,8,9,10,11,12] [r] ?_|refine gX 17 [9,14,16,18] [0,1,2,3,4,5,6,7,8,9,10,11,12,13,14,15,16,17,18,19,20] [r] ?_)|exact T.z|fail)<;>conv=>whnf)
 all_goals(try dsimp only)
 all_goals first
   | (exfalso;omega)
   | ((show RL _ _ _;refine goR ?_);rw[hdr5 (by assumption)];try rfl)
   | ((show RL _ _ _;refine goR ?_);rw[hdr4 (by assumption)];try rfl)
   | trace_state
theorem whdr_b(w q:Nm)(hne:w≠q)(l:List Rc)(i:Nat)(hi:i<l.length)(m c:Int)(s:Sm)(a:AV)(n:Int)(hf:s.f=1∨s.f=2∨s.f=3):LP Tryz.prog gm 181 [.ptr w 0,iAV n] [(w,⟨184,wkC m c s a q (i*19)⟩),(q,⟨138,l.flatMap Rc.cs⟩)] (fun _=>((zD (l.getD i Rc.z) s n).av,[(w,⟨184,wkC m c s a q (i*19)⟩),(q,⟨138,l.flatMap Rc.cs⟩)])):=by
 refine goW [] Tryz.func181 rfl ?_
 conv=>whnf
 repeat'((first|exact Nm.b 0|(refine And.intro ?_ ?_;(focus(first|exact sub_le Rc.cs_len hi (by decide)|exact T.kx|exact T.side)))|(show LC _ _ _ _ _ _;first|refine LC.pure (fpred_c _ _ _) ?_|refine LC.pure (ldecode_c _ _ _ _) ?_|refine goE ?_)|(show AC _ _ _;first|(refine AC.sub Rc.cs_len i 1 Rc.z _ rfl (by decide) hi rfl ?_)|(refine AC.sub Rc.cs_len i 16 Rc.z _ rfl (by decide) hi rfl ?_))|refine T.s ?_|((first|apply goB|apply AB.dec|apply AB.gen)<;>intro h<;>try(exfalso;omega))|refine LQ.mk fun r=>?_|(show SWpL _ _ _ _ _ _ _;first|refine gX 6 [3,5,7,9,11,13,15,17] [0,1,2,3,4,5,6,7,8,9,10,11,12,13,14,15,16,17,18,19] [r] ?_|refine gX 8 [] [0,1,2,3,4,5,6,7,8,9,10,11] [r] ?_|refine gX 15 [] [0,1,2,3,4,5,6,7,8,9,10,11,12] [r] ?_|refine gX 17 [9,14,16,18] [0,1,2,3,4,5,6,7,8,9,10,11,12,13,14,15,16,17,18,19,20] [r] ?_)|exact T.z|fail)<;>conv=>whnf)
 all_goals(try dsimp only)
 all_goals first
   | (exfalso;omega)
   | ((show RL _ _ _;refine goR ?_);rw[hdr1 (by omega) (by omega) (by omega)];rfl)
   | ((show RL _ _ _;refine goR ?_);rw[hdr2t (by omega) (by omega)];rfl)
   | ((show RL _ _ _;refine goR ?_);rw[hdr3t (by omega) (by omega)];rfl)
   | ((show RL _ _ _;refine goR ?_);rw[hdr1t (by omega) (by omega)];rfl)
   | trace_state
open Go.RowKit
theorem whdr_c(w q:Nm)(hne:w≠q)(l:List Rc)(i:Nat)(hi:i<l.length)(m c:Int)(s:Sm)(a:AV)(n:Int)(hf:1≤s.f∧s.f≤5):LP Tryz.prog gm 181 [.ptr w 0,iAV n] [(w,⟨184,wkC m c s a q (i*19)⟩),(q,⟨138,l.flatMap Rc.cs⟩)] (fun _=>((zD (l.getD i Rc.z) s n).av,[(w,⟨184,wkC m c s a q (i*19)⟩),(q,⟨138,l.flatMap Rc.cs⟩)])):=by
 by_cases h:4≤s.f
 · exact whdr_a w q hne l i hi m c s a n (by omega)
 · exact whdr_b w q hne l i hi m c s a n (by omega)
theorem add16(r:Rc){s:Sm}(hn:0≤s.n∧s.n<65536):q7 .add .i64 (zw r s) 16=zw r s+16:=by
 have hN:=numA (r:=r) hn
 generalize zw r s=x at hN ⊢
 (exact T.num)
theorem reb4{m:Int}{r:Rc}{s:Sm}(h:s.f=4∨s.f=5):xM m r s=(zD r s 0,kk s (zD r s 0)):=by unfold xM;rw[if_pos h]
theorem reb1{m:Int}{r:Rc}{s:Sm}(h:¬(s.f=4∨s.f=5))(hf:kk s (zD r s (zw r s))=true):xM m r s=(zD r s (zw r s),true):=by unfold xM;rw[if_neg h,if_pos hf]
theorem reb2{m:Int}{r:Rc}{s:Sm}(h:¬(s.f=4∨s.f=5))(hf:kk s (zD r s (zw r s))=false)(h1:s.f≠1∨m=3):xM m r s=(Hd.z,false):=by unfold xM;rw[if_neg h,if_neg (by rw[hf];decide),if_pos h1]
theorem reb3{m:Int}{r:Rc}{s:Sm}(h:¬(s.f=4∨s.f=5))(hf:kk s (zD r s (zw r s))=false)(h1:¬(s.f≠1∨m=3)):xM m r s=(zD r s (lw 16 (zw r s+16)),kk s (zD r s (lw 16 (zw r s+16)))):=by unfold xM;rw[if_neg h,if_neg (by rw[hf];decide),if_neg h1]
theorem wreb_c(w q:Nm)(hne:w≠q)(l:List Rc)(i:Nat)(hi:i<l.length)(m c:Int)(s:Sm)(a:AV)(hf:1≤s.f∧s.f≤5)(hn:0≤s.n∧s.n<65536):LP Tryz.prog gm 129 [.ptr w 0] [(w,⟨184,wkC m c s a q (i*19)⟩),(q,⟨138,l.flatMap Rc.cs⟩)] (fun _=>(.tup [(xM m (l.getD i Rc.z) s).1.av,.bool (xM m (l.getD i Rc.z) s).2],[(w,⟨184,wkC m c s a q (i*19)⟩),(q,⟨138,l.flatMap Rc.cs⟩)])):=by
 have hN:=numA (r:=l.getD i Rc.z) hn
 have ea:=add16 (l.getD i Rc.z) hn
 clear hN
 have hl:LP Tryz.prog gm 164 [iAV 16,iAV (q7 .add .i64 (zw (l.getD i Rc.z) s) 16)] [] (fun _=>(iAV (lw 16 (zw (l.getD i Rc.z) s+16)),[])):=by rw[ea];exact xQ 16 _ (by decide) (by decide)
 by_cases h4:s.f=4∨s.f=5
 · rw[reb4 h4]
   refine goW [] Tryz.func129 rfl ?_
   conv=>whnf
   repeat'((first|exact Nm.b 0|(show LC _ _ _ _ _ _;first|(apply LC.twoK (fun hne=>whdr_c w q hne l i hi m c s a _ hf);(repeat first|refine goH ?_|apply LH.here|apply LH.next);refine⟨rfl,?_⟩;(repeat first|refine goH ?_|apply LH.here|apply LH.next);refine⟨rfl,?_⟩;(repeat first|refine goH ?_|apply LH.here|apply LH.next))|(apply LC.twoK (fun hne=>ye w q hne l i hi m c s a _);(repeat first|refine goH ?_|apply LH.here|apply LH.next);refine⟨rfl,?_⟩;(repeat first|refine goH ?_|apply LH.here|apply LH.next);refine⟨rfl,?_⟩;(repeat first|refine goH ?_|apply LH.here|apply LH.next))|refine goE ?_)|refine T.s ?_|((first|apply goB|apply AB.dec|apply AB.gen)<;>intro h<;>try(exfalso;omega))|refine LQ.mk fun r=>?_|(show SWpL _ _ _ _ _ _ _;first|refine gX 3 [0,3] [0,1,2,3,4,5] [] ?_|refine gX 11 [0,3] [0,1,2,3,4,5] [] ?_)|exact T.z|fail)<;>conv=>whnf)
   all_goals(try dsimp only)
   all_goals first
     | (exfalso;omega)
     | ((show RL _ _ _;refine goR ?_);try rfl)
     | trace_state
 · cases hfi:kk s (zD (l.getD i Rc.z) s (zw (l.getD i Rc.z) s)) with
   | true =>
     rw[reb1 h4 hfi]
     refine goW [] Tryz.func129 rfl ?_
     conv=>whnf
     repeat'((first|exact Nm.b 0|(show LC _ _ _ _ _ _;first|(apply LC.twoK (fun hne=>wnum_c w q hne l i hi m c s a);(repeat first|refine goH ?_|apply LH.here|apply LH.next);refine⟨rfl,?_⟩;(repeat first|refine goH ?_|apply LH.here|apply LH.next);refine⟨rfl,?_⟩;(repeat first|refine goH ?_|apply LH.here|apply LH.next))|(apply LC.twoK (fun hne=>whdr_c w q hne l i hi m c s a _ hf);(repeat first|refine goH ?_|apply LH.here|apply LH.next);refine⟨rfl,?_⟩;(repeat first|refine goH ?_|apply LH.here|apply LH.next);refine⟨rfl,?_⟩;(repeat first|refine goH ?_|apply LH.here|apply LH.next))|(apply LC.twoK (fun hne=>ye w q hne l i hi m c s a _);(repeat first|refine goH ?_|apply LH.here|apply LH.next);refine⟨rfl,?_⟩;(repeat first|refine goH ?_|apply LH.here|apply LH.next);refine⟨rfl,?_⟩;(repeat first|refine goH ?_|apply LH.here|apply LH.next))|refine goE ?_)|refine T.s ?_|((first|apply goB|apply AB.dec|apply AB.gen)<;>intro h<;>try(exfalso;omega))|refine LQ.mk fun r=>?_|(show SWpL _ _ _ _ _ _ _;first|refine gX 3 [0,3] [0,1,2,3,4,5] [] ?_|refine gX 11 [0,3] [0,1,2,3,4,5] [] ?_)|exact T.z|fail)<;>conv=>whnf)
     all_goals(try dsimp only)
     all_goals first
       | (exfalso;omega)
       | ((show RL _ _ _;refine goR ?_);try rfl)
       | trace_state
   | false =>
     by_cases h1:s.f≠1∨m=3
     · rw[reb2 h4 hfi h1]
       refine goW [] Tryz.func129 rfl ?_
       conv=>whnf
       repeat'((first|exact Nm.b 0|(show LC _ _ _ _ _ _;first|(apply LC.twoK (fun hne=>wnum_c w q hne l i hi m c s a);(repeat first|refine goH ?_|apply LH.here|apply LH.next);refine⟨rfl,?_⟩;(repeat first|refine goH ?_|apply LH.here|apply LH.next);refine⟨rfl,?_⟩;(repeat first|refine goH ?_|apply LH.here|apply LH.next))|(apply LC.twoK (fun hne=>whdr_c w q hne l i hi m c s a _ hf);(repeat first|refine goH ?_|apply LH.here|apply LH.next);refine⟨rfl,?_⟩;(repeat first|refine goH ?_|apply LH.here|apply LH.next);refine⟨rfl,?_⟩;(repeat first|refine goH ?_|apply LH.here|apply LH.next))|(apply LC.twoK (fun hne=>ye w q hne l i hi m c s a _);(repeat first|refine goH ?_|apply LH.here|apply LH.next);refine⟨rfl,?_⟩;(repeat first|refine goH ?_|apply LH.here|apply LH.next);refine⟨rfl,?_⟩;(repeat first|refine goH ?_|apply LH.here|apply LH.next))|refine goE ?_)|refine T.s ?_|((first|apply goB|apply AB.dec|apply AB.gen)<;>intro h<;>try(exfalso;omega))|refine LQ.mk fun r=>?_|(show SWpL _ _ _ _ _ _ _;first|refine gX 3 [0,3] [0,1,2,3,4,5] [] ?_|refine gX 11 [0,3] [0,1,2,3,4,5] [] ?_)|exact T.z|fail)<;>conv=>whnf)
       all_goals(try dsimp only)
       all_goals first
         | (exfalso;omega)
         | ((show RL _ _ _;refine goR ?_);try rfl)
         | trace_state
     · rw[reb3 h4 hfi h1]
       refine goW [] Tryz.func129 rfl ?_
       conv=>whnf
       repeat'((first|exact Nm.b 0|(show LC _ _ _ _ _ _;first|(apply LC.twoK (fun hne=>wnum_c w q hne l i hi m c s a);(repeat first|refine goH ?_|apply LH.here|apply LH.next);refine⟨rfl,?_⟩;(repeat first|refine goH ?_|apply LH.here|apply LH.next);refine⟨rfl,?_⟩;(repeat first|refine goH ?_|apply LH.here|apply LH.next))|(apply LC.twoK (fun hne=>whdr_c w q hne l i hi m c s a _ hf);(repeat first|refine goH ?_|apply LH.here|apply LH.next);refine⟨rfl,?_⟩;(repeat first|refine goH ?_|apply LH.here|apply LH.next);refine⟨rfl,?_⟩;(repeat first|refine goH ?_|apply LH.here|apply LH.next))|(apply LC.twoK (fun hne=>ye w q hne l i hi m c s a _);(repeat first|refine goH ?_|apply LH.here|apply LH.next);refine⟨rfl,?_⟩;(repeat first|refine goH ?_|apply LH.here|apply LH.next);refine⟨rfl,?_⟩;(repeat first|refine goH ?_|apply LH.here|apply LH.next))|refine LC.pure (hl) ?_|refine goE ?_)|refine T.s ?_|((first|apply goB|apply AB.dec|apply AB.gen)<;>intro h<;>try(exfalso;omega))|refine LQ.mk fun r=>?_|(show SWpL _ _ _ _ _ _ _;first|refine gX 3 [0,3] [0,1,2,3,4,5] [] ?_|refine gX 11 [0,3] [0,1,2,3,4,5] [] ?_)|exact T.z|fail)<;>conv=>whnf)
       all_goals(try dsimp only)
       all_goals first
         | (exfalso;omega)
         | ((show RL _ _ _;refine goR ?_);try rfl)
         | trace_state
open Go.RowKit
variable {G:Nat→AV}
section
variable {m c:Int}{r:Rc}{s:Sm}{hd:Hd}
theorem acc_y(h:s.f=4∨s.f=5):ky r s hd=⟨2,hd,s.d,0⟩:=by unfold ky;rw[if_pos h]
theorem acc_n(h:¬(s.f=4∨s.f=5)):ky r s hd=⟨2,hd,r.dy,0⟩:=by unfold ky;rw[if_neg h]
theorem ack_y(h:m=3∨m=2∧(s.f=4∨s.f=5)):vv m c s hd=[⟨c,0,hd.num⟩]:=by unfold vv;rw[if_pos h]
theorem ack_n(h:¬(m=3∨m=2∧(s.f=4∨s.f=5))):vv m c s hd=[]:=by unfold vv;rw[if_neg h]
theorem er1(he:0≤r.er∧r.er<3):q7 .add .i64 r.er 1=r.er+1:=by(exact T.num)
theorem st1(he:0≤r.st∧r.st≤2):q7 .sub .i64 r.st 1=r.st-1:=by(exact T.num)
theorem refR1(he:0≤r.er∧r.er<3)(h:q7 .add .i64 r.er 1<3):wW r={ r with er:=q7 .add .i64 r.er 1 }:=by
 rw[er1 he] at h ⊢;unfold wW;rw[if_pos h]
theorem refR2(he:0≤r.er∧r.er<3)(hs:0≤r.st∧r.st≤2)(h:¬q7 .add .i64 r.er 1<3)(h2:q7 .sub .i64 r.st 1≤0):wW r=Rc.z:=by
 rw[er1 he] at h;rw[st1 hs] at h2;unfold wW;rw[if_neg h,if_pos h2]
theorem refR3(he:0≤r.er∧r.er<3)(hs:0≤r.st∧r.st≤2)(h:¬q7 .add .i64 r.er 1<3)(h2:¬q7 .sub .i64 r.st 1≤0):wW r={ r with er:=0,st:=q7 .sub .i64 r.st 1 }:=by
 rw[er1 he] at h;rw[st1 hs] at h2 ⊢;unfold wW;rw[if_neg h,if_neg h2]
end
theorem rcs_er(x:Rc)(v:Int):Rc.cs { x with er:=v }=qg (Rc.cs x) 18 [.int .i64 v]:=rfl
theorem rcs_st(x:Rc)(v:Int):Rc.cs { x with st:=v }=qg (Rc.cs x) 0 [.int .i64 v]:=rfl
theorem rcs_la(x:Rc)(h:Hd):Rc.cs { x with la:=h }=qg (Rc.cs x) 1 [.int .i64 h.k,.int .i64 h.tos,.int .i64 h.id,.int .i64 h.fx,.int .i64 h.ttl,.int .i64 h.fr,.int .i64 h.to,.int .i64 h.fp,.int .i64 h.tp,.int .i64 h.ck,.int .i64 h.mr,.int .i64 h.ty,.int .i64 h.sq,.int .i64 h.tm,.int .i64 h.sr]:=rfl
theorem rcs_dy(x:Rc)(d:Dy):Rc.cs { x with dy:=d }=qg (Rc.cs x) 16 [.int .i64 d.st,.int .i64 d.fo]:=rfl
theorem rcs_z(x:Rc):Rc.cs Rc.z=qg (Rc.cs x) 0 [.int .i64 0,.int .i64 0,.int .i64 0,.int .i64 0,.int .i64 0,.int .i64 0,.int .i64 0,.int .i64 0,.int .i64 0,.int .i64 0,.int .i64 0,.int .i64 0,.int .i64 0,.int .i64 0,.int .i64 0,.int .i64 0,.int .i64 0,.int .i64 0,.int .i64 0]:=rfl
theorem wref_c(w q:Nm)(hne:w≠q)(l:List Rc)(i:Nat)(hi:i<l.length)(m c:Int)(s:Sm)(a:AV)(x:Rc)(he:0≤x.er∧x.er<3)(hs:0≤x.st∧x.st≤2):LP Tryz.prog G 130 [.ptr w 0] [(w,⟨184,wkC m c s a q (i*19)⟩),(q,⟨138,(l.set i x).flatMap Rc.cs⟩)] (fun _=>(.tup [],[(w,⟨184,wkC m c s a q (i*19)⟩),(q,⟨138,(l.set i (wW x)).flatMap Rc.cs⟩)])):=by
 refine goW [] Tryz.func130 rfl ?_
 conv=>whnf
 repeat'((first|(refine And.intro ?_ ?_;(focus(first|(show _≤(List.flatMap Rc.cs _).length;rw[qm Rc.cs_len,List.length_set];dsimp only;omega)|with_reducible exact wo (j:=18) Rc.cs_len hi (by decide)|with_reducible exact wo (j:=0) Rc.cs_len hi (by decide)|exact T.kx|exact T.side)))|(show AC _ _ _;first|(apply AC.rset Rc.cs_len 18 _ hi;(focus omega);(focus exact Nat.le_of_ble_eq_true rfl);(focus rfl))|(apply AC.rset Rc.cs_len 0 _ hi;(focus omega);(focus exact Nat.le_of_ble_eq_true rfl);(focus rfl)))|(show AQ _ _;first|(refine AQ.rset Rc.cs_len 18 _ hi ?_ ?_ (rcs_er _ _) ?_;(focus omega);(focus exact Nat.le_of_ble_eq_true rfl))|(refine AQ.rset Rc.cs_len 0 _ hi ?_ ?_ (rcs_st _ _) ?_;(focus omega);(focus exact Nat.le_of_ble_eq_true rfl))|(refine AQ.rset Rc.cs_len 0 _ hi ?_ ?_ (rcs_z _) ?_;(focus omega);(focus exact Nat.le_of_ble_eq_true rfl)))|refine T.s ?_|((first|apply goB|apply AB.dec|apply AB.gen)<;>intro h<;>try(exfalso;omega))|refine LQ.mk fun r=>?_|exact T.z|fail)<;>conv=>whnf)
 all_goals(try dsimp only)
 · rw[refR1 he (by assumption)]
   (show RL _ _ _;refine goR ?_)
   rfl
 · rw[refR2 he hs (by assumption) (by assumption)]
   (show RL _ _ _;refine goR ?_)
   rfl
 · rw[refR3 he hs (by assumption) (by assumption)]
   (show RL _ _ _;refine goR ?_)
   rfl
theorem wfb_s(w q:Nm)(hne:w≠q)(l:List Rc)(i:Nat)(hi:i<l.length)(m c:Int)(s:Sm)(a:AV)(x:Rc)(k:Int):LP Tryz.prog G 180 [.ptr w 0,iAV k] [(w,⟨184,wkC m c s a q (i*19)⟩),(q,⟨138,(l.set i x).flatMap Rc.cs⟩)] (fun _=>(fbv [⟨c,k,x.la.num⟩],[(w,⟨184,wkC m c s a q (i*19)⟩),(q,⟨138,(l.set i x).flatMap Rc.cs⟩)])):=by
 have h:=wfb_c (G:=G) w q hne (l.set i x) i (by simpa using hi) m c s a k
 rwa [set_gt hi] at h
theorem wcomp_s(w q:Nm)(hne:w≠q)(l:List Rc)(i:Nat)(hi:i<l.length)(m c:Int)(s:Sm)(a:AV)(x:Rc):LP Tryz.prog G 128 [.ptr w 0] [(w,⟨184,wkC m c s a q (i*19)⟩),(q,⟨138,(l.set i x).flatMap Rc.cs⟩)] (fun _=>(fbv (we m c x),[(w,⟨184,wkC m c s a q (i*19)⟩),(q,⟨138,(l.set i x).flatMap Rc.cs⟩)])):=by
 have h:=wcomp_c (G:=G) w q hne (l.set i x) i (by simpa using hi) m c s a
 rwa [set_gt hi] at h
theorem wacc_c(w q:Nm)(hne:w≠q)(l:List Rc)(i:Nat)(hi:i<l.length)(m c:Int)(s:Sm)(a:AV)(x:Rc)(hd:Hd):LP Tryz.prog G 132 [.ptr w 0,hd.av] [(w,⟨184,wkC m c s a q (i*19)⟩),(q,⟨138,(l.set i x).flatMap Rc.cs⟩)] (fun _=>(fbv (vv m c s hd),[(w,⟨184,wkC m c s a q (i*19)⟩),(q,⟨138,(l.set i (ky x s hd)).flatMap Rc.cs⟩)])):=by
 refine goW [] Tryz.func132 rfl ?_
 conv=>whnf
 repeat'((first|exact Nm.b 0|(refine And.intro ?_ ?_;(focus(first|(show _≤(List.flatMap Rc.cs _).length;rw[qm Rc.cs_len,List.length_set];dsimp only;omega)|with_reducible exact wo (j:=18) Rc.cs_len hi (by decide)|with_reducible exact wo (j:=0) Rc.cs_len hi (by decide)|with_reducible exact wo (j:=1) Rc.cs_len hi (by decide)|with_reducible exact wo (j:=16) Rc.cs_len hi (by decide)|exact T.kx|exact T.side)))|(show LC _ _ _ _ _ _;first|(apply LC.twoK (fun hne=>wfb_s w q hne l i hi m c s a _ _);(repeat first|refine goH ?_|apply LH.here|apply LH.next);refine⟨rfl,?_⟩;(repeat first|refine goH ?_|apply LH.here|apply LH.next);refine⟨rfl,?_⟩;(repeat first|refine goH ?_|apply LH.here|apply LH.next))|refine goE ?_)|(show AQ _ _;first|(refine AQ.rset Rc.cs_len 18 _ hi ?_ ?_ (rcs_er _ _) ?_;(focus omega);(focus exact Nat.le_of_ble_eq_true rfl))|(refine AQ.rset Rc.cs_len 0 _ hi ?_ ?_ (rcs_st _ _) ?_;(focus omega);(focus exact Nat.le_of_ble_eq_true rfl))|(refine AQ.rset Rc.cs_len 1 _ hi ?_ ?_ (rcs_la _ hd) ?_;(focus omega);(focus exact Nat.le_of_ble_eq_true rfl))|(refine AQ.rset Rc.cs_len 16 _ hi ?_ ?_ (rcs_dy _ s.d) ?_;(focus omega);(focus exact Nat.le_of_ble_eq_true rfl)))|refine T.s ?_|((first|apply goB|apply AB.dec|apply AB.gen)<;>intro h<;>try(exfalso;omega))|refine LQ.mk fun r=>?_|(show SWpL _ _ _ _ _ _ _;first|refine gX 2 [12,15] [0,1,2,3,4,5,6,7,8,9,10,11,12,13,14,15,16,17,18,19,20,21] [q] ?_|refine gX 4 [] [0,1,2,3,4,5,6,7,8,9,10,11] [q] ?_)|exact T.z|fail)<;>conv=>whnf)
 all_goals(try dsimp only)
 all_goals first
   | (exfalso;omega)
   | (rw[acc_y (by omega),ack_y (by omega)];(show RL _ _ _;refine goR ?_);rfl)
   | (rw[acc_n (by omega),ack_y (by omega)];(show RL _ _ _;refine goR ?_);rfl)
   | (rw[acc_y (by omega),ack_n (by omega)];exact RL.frz [] (LF.nils rfl rfl) T.subs)
   | (rw[acc_n (by omega),ack_n (by omega)];exact RL.frz [] (LF.nils rfl rfl) T.subs)
   | trace_state
theorem kT(f:Int):LP Tryz.prog G 127 [iAV f] [] (fun _=>(iAV (xE f),[])):=by
 refine goW [] Tryz.func127 rfl ?_
 conv=>whnf
 repeat'((first|refine T.s ?_|((first|apply goB|apply AB.dec|apply AB.gen)<;>intro h<;>try(exfalso;omega))|refine LQ.mk fun r=>?_|exact T.z|fail)<;>conv=>whnf)
 all_goals(try dsimp only)
 all_goals
   (show RL _ _ _;refine goR ?_)
   unfold xE
   simp only[iAV, *,if_true,if_false]
   try rfl
open Go.RowKit
inductive NB:AV→List UInt8→Prop where
 | b (p:List UInt8):NB (bv p) p
 | n:NB .nils []
inductive NF:AV→List Fb→Prop where
 | b (p:List Fb):NF (fbv p) p
 | n:NF .nils []
theorem NB.lf{v:AV}{p:List UInt8}{l:LS}{F:List Nm}(h:NB v p):LF l F v (bv p):=by
 cases h
 · exact LF.eq rfl
 · exact LF.nils rfl rfl
theorem NF.lf{v:AV}{p:List Fb}{l:LS}{F:List Nm}(h:NF v p):LF l F v (fbv p):=by
 cases h
 · exact LF.eq rfl
 · exact LF.nils rfl rfl
theorem RL.dre{m:Int}{cx:List Rc}{n:Nat}{p:List UInt8}{fb:List Fb}{e:Int}{v1 v2:AV}{q:Nm}{l:LS}(h1:NB v1 p)(h2:NF v2 fb)(hn:n=cx.length)(hq:LH l q fun c _ _=>c.cs=cx.flatMap Rc.cs) :
   RL (fun _=>(Go.Proofs.YtndpmpnmkpaklaaGreatDoor.dre ⟨⟨m,cx⟩,p,fb,e⟩,[])) (.tup [.agg [.int .i64 m,.vw q 0 n 19],v1,v2,.int .i64 e]) l:=by
 subst hn
 obtain⟨l1,c,l2,rfl,h3⟩:=hq.ex
 exact RL.frz [q] (LF.tup (xs:=[.agg [.int .i64 m,.vw q 0 cx.length 19],v1,v2,.int .i64 e]) (ys:=[De.av ⟨m,cx⟩,bv p,fbv fb,iAV e])
   ⟨LF.agg (xs:=[.int .i64 m,.vw q 0 cx.length 19]) (ys:=[iAV m,rcv cx]) ⟨LF.eq rfl,LF.row InL.here ⟨l1,c,l2,rfl,by decide,by rw[h3,qm Rc.cs_len],rfl,h3.symm⟩,trivial⟩,h1.lf,h2.lf,LF.eq rfl,trivial⟩) ⟨l1,c,l2,rfl,LB.nil⟩
theorem RL.dre0{e:Int}{l:LS}:RL (fun _=>(Go.Proofs.YtndpmpnmkpaklaaGreatDoor.dre ⟨De.z,[],[],e⟩,[])) (.tup [.agg [.int .i64 0,.nils],.nils,.nils,.int .i64 e]) l :=
 RL.frz [] (LF.tup (xs:=[.agg [.int .i64 0,.nils],.nils,.nils,.int .i64 e]) (ys:=[De.z.av,bv [],fbv [],iAV e]) ⟨LF.agg (xs:=[.int .i64 0,.nils]) (ys:=[iAV 0,rcv []]) ⟨LF.eq rfl,LF.nils rfl rfl,trivial⟩,LF.nils rfl rfl,LF.nils rfl rfl,LF.eq rfl,trivial⟩) LB.nil
theorem xH{G:Nat→AV}(l:List Rc)(h0:0<l.length)(hl:l.length≤1000):LP Tryz.prog G 124 [rcv l] [] (fun q=>(.vw q 0 l.length 19,[(q,⟨138,l.flatMap Rc.cs⟩)])):=by
 refine goW [] Tryz.func124 rfl ?_
 conv=>whnf
 repeat'((first|(refine And.intro ?_ ?_;(focus(first|exact qm Rc.cs_len _|exact rcs_one _|exact Nat.le_trans (Nat.mul_le_mul_right _ hl) (by decide)|exact Nat.le_trans hl (by decide)|exact T.kx|exact T.side)))|refine T.s ?_|((first|apply goB|apply AB.dec|apply AB.gen)<;>intro h<;>try(exfalso;omega))|refine LQ.mk fun r=>?_|exact T.z|fail)<;>conv=>whnf)
 all_goals(try dsimp only)
 all_goals first
   | (refine RL.own r (by simp) ?_ ?_;(focus((repeat first|refine goH ?_|apply LH.here|apply LH.next);trivial));exact LB.cons (.here ⟨by simp,LB.nil⟩))
   | trace_state
theorem neq_ck(x:Int):qr .neq x 0=decide (x≠0):=by
 by_cases h:x=0<;>simp[qr,h]
theorem ix19(i:Nat):0+(i:Int).toNat*19=i*19:=by omega
@[reducible] def wz:Sm:=⟨0,0,0,0,0,0,0,⟨0,0,0,0,0,0,0,0,0,0,0,0,0,0,0⟩,⟨0,0⟩,0,[]⟩
section
variable (d:De)(b:List UInt8)(hb:b.length≤140737488355328)
theorem dcmp_n(h:d.ok=false):LP Tryz.prog gm 84 [d.av,bv b] [] (fun _=>(dre (qq d b hb),[])):=by
 rw[dcp_n h]
 have hv:=jX (G:=gm) d
 rw[h] at hv
 refine goW [] Tryz.func84 rfl ?_
 conv=>whnf
 repeat'((first|exact Nm.b 0|(show LC _ _ _ _ _ _;first|refine LC.pure (hv) ?_|refine goE ?_)|refine T.s ?_|((first|apply goB|apply AB.dec|apply AB.gen)<;>intro h<;>try(exfalso;omega))|refine LQ.mk fun r=>?_|(show SWpL _ _ _ _ _ _ _;first|refine gX 12 [2,3] [0,1,2,3,4,5,6] [] ?_|refine gX 13 [] [0,1,2,3,4,5,6,7,8,9] [] ?_|refine gX 14 [3,6,8] [0,1,2,3,4,5,6,7,8,9] [] ?_|refine gX 15 [0,2] [0,1,2,3,4,5,6] [] ?_|refine gX 16 [] [0,1,2,3,4,5,6,7,8,9,10,11,12,13,14,15,16,17,18,19,20,21,22,23,24,25,26] [] ?_|refine gX 22 [0,2] [0,1,2,3,4,5,6] [] ?_|refine gX 23 [] [0,1,2,3,4,5,6,7,8,9,10,11] [] ?_|refine gX 26 [0,4] [0,1,2,3,4,5,6,7,8] [] ?_)|exact T.z|fail)<;>conv=>whnf)
 all_goals(try dsimp only)
 all_goals exact RL.dre0
theorem dcmp_e(h:d.ok=true)(hl:d.cx.length=16)(c f e:Int)(hp:qp b=(c,f,e))(he:e≠0):LP Tryz.prog gm 84 [d.av,bv b] [] (fun _=>(dre (qq d b hb),[])):=by
 rw[dcp_e h hp he]
 have hv:=jX (G:=gm) d
 rw[h] at hv
 have hq:=wA (G:=gm) b
 rw[hp] at hq
 dsimp only[pe] at hq
 refine goW [] Tryz.func84 rfl ?_
 conv=>whnf
 repeat'((first|exact Nm.b 0|(show LC _ _ _ _ _ _;first|refine LC.pure (hv) ?_|refine LC.own (xH d.cx (by omega) (by omega)) ?_|refine LC.pure (hq) ?_|refine goE ?_)|refine T.s ?_|((first|apply goB|apply AB.dec|apply AB.gen)<;>intro h<;>try(exfalso;omega))|refine LQ.mk fun r=>?_|(show SWpL _ _ _ _ _ _ _;first|refine gX 12 [2,3] [0,1,2,3,4,5,6] [] ?_|refine gX 13 [] [0,1,2,3,4,5,6,7,8,9] [] ?_|refine gX 14 [3,6,8] [0,1,2,3,4,5,6,7,8,9] [] ?_|refine gX 15 [0,2] [0,1,2,3,4,5,6] [] ?_|refine gX 16 [] [0,1,2,3,4,5,6,7,8,9,10,11,12,13,14,15,16,17,18,19,20,21,22,23,24,25,26] [] ?_|refine gX 22 [0,2] [0,1,2,3,4,5,6] [] ?_|refine gX 23 [] [0,1,2,3,4,5,6,7,8,9,10,11] [] ?_|refine gX 26 [0,4] [0,1,2,3,4,5,6,7,8] [] ?_)|exact T.z|fail)<;>conv=>whnf)
 all_goals(try dsimp only)
 all_goals
   refine RL.dre .n .n rfl ?_
   (repeat first|refine goH ?_|apply LH.here|apply LH.next)
   rfl
theorem dcmp_6(h:d.ok=true)(hl:d.cx.length=16)(hp:qp b=(0,6,0)):LP Tryz.prog gm 84 [d.av,bv b] [] (fun _=>(dre (qq d b hb),[])):=by
 have hv:=jX (G:=gm) d
 rw[h] at hv
 have hq:=wA (G:=gm) b
 rw[hp] at hq
 dsimp only[pe] at hq
 have hd:=vk (G:=gm) b hb 0 false
 have k1:=fun h6=>dcp_6y (hb:=hb) h hp h6
 have k2:=fun h6=>dcp_6n (hb:=hb) h hp h6
 generalize dse (qU b hb 0 false)=E at hd k1 k2
 generalize dsm (qU b hb 0 false)=S at hd k1 k2
 refine goW [] Tryz.func84 rfl ?_
 conv=>whnf
 repeat'((first|exact Nm.b 0|(show LC _ _ _ _ _ _;first|refine LC.pure (hv) ?_|refine LC.own (xH d.cx (by omega) (by omega)) ?_|refine LC.pure (hq) ?_|refine LC.pure (hd) ?_|refine goE ?_)|refine T.s ?_|((first|apply goB|apply AB.dec|apply AB.gen)<;>intro h<;>try(exfalso;omega))|refine LQ.mk fun r=>?_|(show SWpL _ _ _ _ _ _ _;first|refine gX 12 [2,3] [0,1,2,3,4,5,6] [] ?_|refine gX 13 [] [0,1,2,3,4,5,6,7,8,9] [] ?_|refine gX 14 [3,6,8] [0,1,2,3,4,5,6,7,8,9] [] ?_|refine gX 15 [0,2] [0,1,2,3,4,5,6] [] ?_|refine gX 16 [] [0,1,2,3,4,5,6,7,8,9,10,11,12,13,14,15,16,17,18,19,20,21,22,23,24,25,26] [] ?_|refine gX 22 [0,2] [0,1,2,3,4,5,6] [] ?_|refine gX 23 [] [0,1,2,3,4,5,6,7,8,9,10,11] [] ?_|refine gX 26 [0,4] [0,1,2,3,4,5,6,7,8] [] ?_)|exact T.z|fail)<;>conv=>whnf)
 all_goals(try dsimp only)
 all_goals first
   | (rw[k1 ⟨by assumption,fun e=>h (by rw[e];rfl)⟩];refine RL.dre (.b _) .n rfl ?_;(repeat first|refine goH ?_|apply LH.here|apply LH.next);rfl)
   | (rw[k2 (fun e=>absurd e.1 (by assumption))];refine RL.dre .n .n rfl ?_;(repeat first|refine goH ?_|apply LH.here|apply LH.next);rfl)
   | (rw[k2 (fun e=>e.2 (List.eq_nil_of_length_eq_zero (by omega)))];refine RL.dre .n .n rfl ?_;(repeat first|refine goH ?_|apply LH.here|apply LH.next);rfl)
   | trace_state
theorem dcmp_c(h:d.ok=true)(hl:d.cx.length=16)(i:Nat)(f:Int)(hp:qp b=((i:Int),f,0))(hi:i<d.cx.length)(h6:f≠6)(hs:(d.cx.getD i Rc.z).st<xE f):LP Tryz.prog gm 84 [d.av,bv b] [] (fun _=>(dre (qq d b hb),[])):=by
 rw[dcp_c (r:=d.cx.getD i Rc.z) h hp h6 rfl hs]
 have hv:=jX (G:=gm) d
 rw[h] at hv
 have hq:=wA (G:=gm) b
 rw[hp] at hq
 dsimp only[pe] at hq
 refine goW [] Tryz.func84 rfl ?_
 conv=>whnf
 repeat'((first|(show LQ _;rw[ix19 i];refine LQ.mk fun r=>?_)|exact Nm.b 0|(refine And.intro ?_ ?_;(focus(first|(show KeepX _ _ _;exact KeepX.refl)|(show _≤(List.flatMap Rc.cs _).length;rw[qm Rc.cs_len];(try dsimp only);omega)|exact T.kx|exact T.side)))|(show LC _ _ _ _ _ _;first|refine LC.pure (hv) ?_|refine LC.own (xH d.cx (by omega) (by omega)) ?_|refine LC.pure (hq) ?_|refine LC.pure (kT _) ?_|(apply LC.twoK (fun hne=>wcomp_c _ _ hne d.cx i hi _ _ wz .nils);(repeat first|refine goH ?_|apply LH.here|apply LH.next);refine⟨rfl,?_⟩;(repeat first|refine goH ?_|apply LH.here|apply LH.next);refine⟨rfl,?_⟩;(repeat first|refine goH ?_|apply LH.here|apply LH.next))|refine goE ?_)|(show AC _ _ _;first|(refine AC.sub Rc.cs_len i 0 Rc.z _ ?_ (by decide) hi rfl ?_;focus omega))|refine T.s ?_|((first|apply goB|apply AB.dec|apply AB.gen)<;>intro h<;>try(exfalso;omega))|refine LQ.mk fun r=>?_|(show SWpL _ _ _ _ _ _ _;first|refine gX 12 [2,3] [0,1,2,3,4,5,6] [] ?_|refine gX 13 [] [0,1,2,3,4,5,6,7,8,9] [] ?_|refine gX 14 [3,6,8] [0,1,2,3,4,5,6,7,8,9] [] ?_|refine gX 15 [0,2] [0,1,2,3,4,5,6] [] ?_|refine gX 16 [] [0,1,2,3,4,5,6,7,8,9,10,11,12,13,14,15,16,17,18,19,20,21,22,23,24,25,26] [] ?_|refine gX 22 [0,2] [0,1,2,3,4,5,6] [] ?_|refine gX 23 [] [0,1,2,3,4,5,6,7,8,9,10,11] [] ?_|refine gX 26 [0,4] [0,1,2,3,4,5,6,7,8] [] ?_)|exact T.z|fail)<;>conv=>whnf)
 all_goals(try dsimp only)
 all_goals
   refine RL.dre .n (.b _) rfl ?_
   (repeat first|refine goH ?_|apply LH.here|apply LH.next)
   rfl
end
end Go.Proofs.YtndpmpnmkpaklaaGreatDoor
