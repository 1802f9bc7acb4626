/-
  Contracts of the functions that the laws reach.
-/
import Derived.Test.YtndpmpnmkpaklaaGreatDoorHr25
import Derived.Test.YtndpmpnmkpaklaaGreatDoorHr34
set_option maxHeartbeats 8000000
set_option linter.all false
namespace Go.Proofs.YtndpmpnmkpaklaaGreatDoor
open Go.RowKit
theorem wref_l(w q:Nm)(hne:w≠q)(l:List Rc)(i:Nat)(hi:i<l.length)(m c:Int)(s:Sm)(a:AV)(hr:(l.getD i Rc.z).ok=true):LP Tryz.prog gm 130 [.ptr w 0] [(w,⟨184,wkC m c s a q (i*19)⟩),(q,⟨138,l.flatMap Rc.cs⟩)] (fun _=>(.tup [],[(w,⟨184,wkC m c s a q (i*19)⟩),(q,⟨138,(l.set i (wW (l.getD i Rc.z))).flatMap Rc.cs⟩)])):=by
 have h:=wref_c (G:=gm) w q hne l i hi m c s a (l.getD i Rc.z) (rc_ok hr).1 (rc_ok hr).2.1
 rwa [set_at hi] at h
theorem wacc_l(w q:Nm)(hne:w≠q)(l:List Rc)(i:Nat)(hi:i<l.length)(m c:Int)(s:Sm)(a:AV)(hd:Hd):LP Tryz.prog gm 132 [.ptr w 0,hd.av] [(w,⟨184,wkC m c s a q (i*19)⟩),(q,⟨138,l.flatMap Rc.cs⟩)] (fun _=>(fbv (vv m c s hd),[(w,⟨184,wkC m c s a q (i*19)⟩),(q,⟨138,(l.set i (ky (l.getD i Rc.z) s hd)).flatMap Rc.cs⟩)])):=by
 have h:=wacc_c (G:=gm) w q hne l i hi m c s a (l.getD i Rc.z) hd
 rwa [set_at hi] at h
section
variable (d:De)(b:List UInt8)(hb:b.length≤140737488355328)
theorem dcmp_d(h:d.ok=true)(hl:d.cx.length=16)(i:Nat)(f:Int)(hp:qp b=((i:Int),f,0))(hi:i<d.cx.length)(h6:f≠6)(hs:¬(d.cx.getD i Rc.z).st<xE f)(hD:dse (qU b hb (d.cx.getD i Rc.z).la.k (decide ((d.cx.getD i Rc.z).la.ck≠0)))≠0):LP Tryz.prog gm 84 [d.av,bv b] [] (fun _=>(dre (qq d b hb),[])):=by
 rw[dcp_d (r:=d.cx.getD i Rc.z) h hp h6 rfl hs hD]
 have hv:=jX (G:=gm) d
 rw[h] at hv
 have hq:=wA (G:=gm) b
 rw[hp] at hq
 dsimp only[pe] at hq
 have hd:=vk (G:=gm) b hb (d.cx.getD i Rc.z).la.k (qr .neq (d.cx.getD i Rc.z).la.ck 0)
 rw[neq_ck] at hd
 rw[←neq_ck] at hd
 have e0:=neq_ck (d.cx.getD i Rc.z).la.ck
 rw[←e0] at hD ⊢
 clear e0
 generalize dse (qU b hb (d.cx.getD i Rc.z).la.k (qr .neq (d.cx.getD i Rc.z).la.ck 0))=E at hd hD ⊢
 generalize dsm (qU b hb (d.cx.getD i Rc.z).la.k (qr .neq (d.cx.getD i Rc.z).la.ck 0))=S at hd
 refine goW [] Tryz.func84 rfl ?_
 conv=>whnf
 repeat'((first|(show LQ _;rw[ix19 i];refine LQ.mk fun r=>?_)|exact Nm.b 0|(refine And.intro ?_ ?_;(focus(first|(show KeepX _ _ _;exact KeepX.refl)|(show _≤(List.flatMap Rc.cs _).length;rw[qm Rc.cs_len];(try dsimp only);omega)|exact T.kx|exact T.side)))|(show LC _ _ _ _ _ _;first|refine LC.pure (hv) ?_|refine LC.own (xH d.cx (by omega) (by omega)) ?_|refine LC.pure (hq) ?_|refine LC.pure (kT _) ?_|refine LC.pure (hd) ?_|refine goE ?_)|(show AC _ _ _;first|(refine AC.sub Rc.cs_len i 0 Rc.z _ ?_ (by decide) hi rfl ?_;focus omega)|(refine AC.sub Rc.cs_len i 1 Rc.z _ ?_ (by decide) hi rfl ?_;focus omega)|(refine AC.sub Rc.cs_len i 10 Rc.z _ ?_ (by decide) hi rfl ?_;focus omega))|refine T.s ?_|((first|apply goB|apply AB.dec|apply AB.gen)<;>intro h<;>try(exfalso;omega))|refine LQ.mk fun r=>?_|(show SWpL _ _ _ _ _ _ _;first|refine gX 12 [2,3] [0,1,2,3,4,5,6] [] ?_|refine gX 13 [] [0,1,2,3,4,5,6,7,8,9] [] ?_|refine gX 14 [3,6,8] [0,1,2,3,4,5,6,7,8,9] [] ?_|refine gX 15 [0,2] [0,1,2,3,4,5,6] [] ?_|refine gX 16 [] [0,1,2,3,4,5,6,7,8,9,10,11,12,13,14,15,16,17,18,19,20,21,22,23,24,25,26] [] ?_|refine gX 22 [0,2] [0,1,2,3,4,5,6] [] ?_|refine gX 23 [] [0,1,2,3,4,5,6,7,8,9,10,11] [] ?_|refine gX 26 [0,4] [0,1,2,3,4,5,6,7,8] [] ?_)|exact T.z|fail)<;>conv=>whnf)
 all_goals(try dsimp only)
 all_goals
   refine RL.dre .n .n rfl ?_
   (repeat first|refine goH ?_|apply LH.here|apply LH.next)
   rfl
theorem dcmp_g(h:d.ok=true)(hl:d.cx.length=16)(i:Nat)(f:Int)(hp:qp b=((i:Int),f,0))(hi:i<d.cx.length)(h6:f≠6)(hs:¬(d.cx.getD i Rc.z).st<xE f)(s:Sm)(hD:qU b hb (d.cx.getD i Rc.z).la.k (decide ((d.cx.getD i Rc.z).la.ck≠0))=.inl s)(hf:1≤s.f∧s.f≤5)(hn:0≤s.n∧s.n<65536)(hpl:s.pl.length≤1500)(hr:(d.cx.getD i Rc.z).ok=true):LP Tryz.prog gm 84 [d.av,bv b] [] (fun _=>(dre (qq d b hb),[])):=by
 rw[dcp_g (r:=d.cx.getD i Rc.z) h hp h6 rfl hs hD]
 have hv:=jX (G:=gm) d
 rw[h] at hv
 have hq:=wA (G:=gm) b
 rw[hp] at hq
 dsimp only[pe] at hq
 have hd:LP Tryz.prog gm 126 [bv b,iAV (d.cx.getD i Rc.z).la.k,.bool (qr .neq (d.cx.getD i Rc.z).la.ck 0)] [] (fun _=>(.tup [s.av,iAV 0],[])):=by
   have:=vk (G:=gm) b hb (d.cx.getD i Rc.z).la.k (qr .neq (d.cx.getD i Rc.z).la.ck 0)
   rw[neq_ck,hD,dsm_inl] at this
   rw[neq_ck]
   exact this
 obtain⟨⟨x,ok⟩,hx⟩:∃y,xM d.m (d.cx.getD i Rc.z) s=y:=⟨_,rfl⟩
 have hreb:∀w q:Nm,w≠q→_:=fun w q hne=>wreb_c w q hne d.cx i hi d.m i s (bv s.pl) hf hn
 simp only[hx] at hreb
 clear hD hp
 cases ok with
 | false =>
   rw[decP_f hx]
   clear hx
   refine goW [] Tryz.func84 rfl ?_
   conv=>whnf
   repeat'((first|(show LQ _;rw[ix19 i];refine LQ.mk fun r=>?_)|exact Nm.b 0|(refine And.intro ?_ ?_;(focus(first|(show KeepX _ _ _;exact KeepX.refl)|(show _≤(List.flatMap Rc.cs _).length;rw[qm Rc.cs_len];(try dsimp only);omega)|exact T.kx|exact T.side)))|(show LC _ _ _ _ _ _;first|refine LC.pure (hv) ?_|refine LC.own (xH d.cx (by omega) (by omega)) ?_|refine LC.pure (hq) ?_|refine LC.pure (kT _) ?_|refine LC.pure (hd) ?_|(apply LC.twoK (fun hne=>hreb _ _ hne);(repeat first|refine goH ?_|apply LH.here|apply LH.next);refine⟨rfl,?_⟩;(repeat first|refine goH ?_|apply LH.here|apply LH.next);refine⟨rfl,?_⟩;(repeat first|refine goH ?_|apply LH.here|apply LH.next))|(apply LC.twoK (fun hne=>wref_l _ _ hne d.cx i hi _ _ s (bv s.pl) hr);(repeat first|refine goH ?_|apply LH.here|apply LH.next);refine⟨rfl,?_⟩;(repeat first|refine goH ?_|apply LH.here|apply LH.next);refine⟨rfl,?_⟩;(repeat first|refine goH ?_|apply LH.here|apply LH.next))|(apply LC.twoK (fun hne=>wcomp_s _ _ hne d.cx i hi _ _ s (bv s.pl) _);(repeat first|refine goH ?_|apply LH.here|apply LH.next);refine⟨rfl,?_⟩;(repeat first|refine goH ?_|apply LH.here|apply LH.next);refine⟨rfl,?_⟩;(repeat first|refine goH ?_|apply LH.here|apply LH.next))|refine goE ?_)|(show AC _ _ _;first|(refine AC.sub Rc.cs_len i 0 Rc.z _ ?_ (by decide) hi rfl ?_;focus omega)|(refine AC.sub Rc.cs_len i 1 Rc.z _ ?_ (by decide) hi rfl ?_;focus omega)|(refine AC.sub Rc.cs_len i 10 Rc.z _ ?_ (by decide) hi rfl ?_;focus omega))|refine T.s ?_|((first|apply goB|apply AB.dec|apply AB.gen)<;>intro h<;>try(exfalso;omega))|refine LQ.mk fun r=>?_|(show SWpL _ _ _ _ _ _ _;first|refine gX 12 [2,3] [0,1,2,3,4,5,6] [] ?_|refine gX 13 [] [0,1,2,3,4,5,6,7,8,9] [] ?_|refine gX 14 [3,6,8] [0,1,2,3,4,5,6,7,8,9] [] ?_|refine gX 15 [0,2] [0,1,2,3,4,5,6] [] ?_|refine gX 16 [] [0,1,2,3,4,5,6,7,8,9,10,11,12,13,14,15,16,17,18,19,20,21,22,23,24,25,26] [] ?_|refine gX 22 [0,2] [0,1,2,3,4,5,6] [] ?_|refine gX 23 [] [0,1,2,3,4,5,6,7,8,9,10,11] [] ?_|refine gX 26 [0,4] [0,1,2,3,4,5,6,7,8] [] ?_)|exact T.z|fail)<;>conv=>whnf)
   all_goals(try dsimp only)
   all_goals
     refine RL.dre .n (.b _) (by simp) ?_
     (repeat first|refine goH ?_|apply LH.here|apply LH.next)
     rfl
 | true =>
   have hB:=pbuild_c (G:=gm) x s.pl (by omega)
   have k1:=fun hz=>decP_g (c:=(i:Int)) hx hz
   have k2:=fun hz=>decP_b (c:=(i:Int)) hx hz
   generalize (zh x s.pl).2=E at hB k1 k2
   generalize (zh x s.pl).1=B at hB k1 k2
   clear hx
   by_cases hE:E=0
   · subst hE
     rw[k1 rfl]
     clear k1 k2
     refine goW [23] Tryz.func84 rfl ?_
     conv=>whnf
     repeat'((first|(show LQ _;rw[ix19 i];refine LQ.mk fun r=>?_)|exact Nm.b 0|(refine And.intro ?_ ?_;(focus(first|(show KeepX _ _ _;exact KeepX.refl)|(show _≤(List.flatMap Rc.cs _).length;rw[qm Rc.cs_len];(try dsimp only);omega)|exact T.kx|exact T.side)))|(show LC _ _ _ _ _ _;first|refine LC.pure (hv) ?_|refine LC.own (xH d.cx (by omega) (by omega)) ?_|refine LC.pure (hq) ?_|refine LC.pure (kT _) ?_|refine LC.pure (hd) ?_|refine LC.pure (hB) ?_|(apply LC.twoK (fun hne=>hreb _ _ hne);(repeat first|refine goH ?_|apply LH.here|apply LH.next);refine⟨rfl,?_⟩;(repeat first|refine goH ?_|apply LH.here|apply LH.next);refine⟨rfl,?_⟩;(repeat first|refine goH ?_|apply LH.here|apply LH.next))|(apply LC.twoK (fun hne=>wacc_l _ _ hne d.cx i hi _ _ s (bv s.pl) x);(repeat first|refine goH ?_|apply LH.here|apply LH.next);refine⟨rfl,?_⟩;(repeat first|refine goH ?_|apply LH.here|apply LH.next);refine⟨rfl,?_⟩;(repeat first|refine goH ?_|apply LH.here|apply LH.next))|refine goE ?_)|(show AC _ _ _;first|(refine AC.sub Rc.cs_len i 0 Rc.z _ ?_ (by decide) hi rfl ?_;focus omega)|(refine AC.sub Rc.cs_len i 1 Rc.z _ ?_ (by decide) hi rfl ?_;focus omega)|(refine AC.sub Rc.cs_len i 10 Rc.z _ ?_ (by decide) hi rfl ?_;focus omega))|refine T.s ?_|((first|apply goB|apply AB.dec|apply AB.gen)<;>intro h<;>try(exfalso;omega))|refine LQ.mk fun r=>?_|(show SWpL _ _ _ _ _ _ _;first|refine gX 12 [2,3] [0,1,2,3,4,5,6] [] ?_|refine gX 13 [] [0,1,2,3,4,5,6,7,8,9] [] ?_|refine gX 14 [3,6,8] [0,1,2,3,4,5,6,7,8,9] [] ?_|refine gX 15 [0,2] [0,1,2,3,4,5,6] [] ?_|refine gX 16 [] [0,1,2,3,4,5,6,7,8,9,10,11,12,13,14,15,16,17,18,19,20,21,22,23,24,25,26] [] ?_|refine gX 22 [0,2] [0,1,2,3,4,5,6] [] ?_|refine gX 23 [] [0,1,2,3,4,5,6,7,8,9,10,11] [] ?_|(refine goD tQ qc 26 [0,4] [0,1,2,3,4,5,6,7,8] [o,g] (by kernel_rfl) ?_))|(show CutL _ _ _ _ _ _ _ _;first|(refine goK tQ [23] 23 (S:=Nm×Nm×Nm×Nm×Nm) [] (fun(a,o,w,g,q)=>⟨[(5,bv B),(7,iAV 0),(2,.ptr a 0),(4,.ptr o 0),(12,.ptr w 0),(13,.ptr g 0)],[(a,⟨67,[iAV d.m,rcv d.cx]⟩),(o,⟨67,[iAV d.m,.vw q 0 d.cx.length 19]⟩),(w,⟨184,wkC d.m i s (bv s.pl) q (i*19)⟩),(g,⟨54,x.cs⟩),(q,⟨138,d.cx.flatMap Rc.cs⟩)],True,0⟩) ?_ ?_;(rintro⟨a,o,w,g,q⟩ -);rotate_left)|refine CutL.go tQ [23] ?_)|(show AtC _ _ _ _ _ _ _ _;first|(show AtC 23 _ _ _ _ _ _ _;exact goM 23 (S:=Nm×Nm×Nm×Nm×Nm) ((_,_,_,_,_)))|(apply AtC.mk' (id:=23) (S:=Nm×Nm×Nm×Nm×Nm) ((_,_,_,_,_));(repeat' first|exact trivial|(refine And.intro ?_ ?_)|exact LB.nil|(with_reducible exact LB.refl)|(apply LB.cons;(repeat first|refine goH ?_|apply LH.here|apply LH.next);refine And.intro ?_ ?_;(focus(try(first|(with_reducible rfl)|(refine congrArg (Pl.mk _) ?_;(first|rfl|(simp;done)))|rfl|(with_reducible refine congrArg (Pl.mk _) ?_)))))|assumption|(first|(focus(apply Eq.trans;(conv=>lhs;whnf);(conv=>rhs;whnf);done))|rfl|((conv=>lhs;whnf);first|rfl|(refine congrArg (AV.int _) ?_;(exact T.num))|(refine congrArg AV.bool ?_;(exact T.num))|(refine vwc ?_;first|(exact T.num)|(first|rfl|(simp;done)))|(refine q9 ?_ ?_<;>first|(exact T.num)|(first|rfl|(simp;done)))|(first|rfl|(simp;done))))|(exact T.num)|(dsimp only;(exact T.num))|(first|rfl|(simp;done)))))|exact T.z|fail)<;>conv=>whnf)
     all_goals(try dsimp only)
     all_goals
       refine RL.dre (.b _) (.b _) (by simp) ?_
       (repeat first|refine goH ?_|apply LH.here|apply LH.next)
       rfl
   · rw[k2 hE]
     clear k1 k2
     refine goW [] Tryz.func84 rfl ?_
     conv=>whnf
     repeat'((first|(show LQ _;rw[ix19 i];refine LQ.mk fun r=>?_)|exact Nm.b 0|(refine And.intro ?_ ?_;(focus(first|(show KeepX _ _ _;exact KeepX.refl)|(show _≤(List.flatMap Rc.cs _).length;rw[qm Rc.cs_len];(try dsimp only);omega)|exact T.kx|exact T.side)))|(show LC _ _ _ _ _ _;first|refine LC.pure (hv) ?_|refine LC.own (xH d.cx (by omega) (by omega)) ?_|refine LC.pure (hq) ?_|refine LC.pure (kT _) ?_|refine LC.pure (hd) ?_|refine LC.pure (hB) ?_|(apply LC.twoK (fun hne=>hreb _ _ hne);(repeat first|refine goH ?_|apply LH.here|apply LH.next);refine⟨rfl,?_⟩;(repeat first|refine goH ?_|apply LH.here|apply LH.next);refine⟨rfl,?_⟩;(repeat first|refine goH ?_|apply LH.here|apply LH.next))|refine goE ?_)|(show AC _ _ _;first|(refine AC.sub Rc.cs_len i 0 Rc.z _ ?_ (by decide) hi rfl ?_;focus omega)|(refine AC.sub Rc.cs_len i 1 Rc.z _ ?_ (by decide) hi rfl ?_;focus omega)|(refine AC.sub Rc.cs_len i 10 Rc.z _ ?_ (by decide) hi rfl ?_;focus omega))|refine T.s ?_|((first|apply goB|apply AB.dec|apply AB.gen)<;>intro h<;>try(exfalso;omega))|refine LQ.mk fun r=>?_|(show SWpL _ _ _ _ _ _ _;first|refine gX 12 [2,3] [0,1,2,3,4,5,6] [] ?_|refine gX 13 [] [0,1,2,3,4,5,6,7,8,9] [] ?_|refine gX 14 [3,6,8] [0,1,2,3,4,5,6,7,8,9] [] ?_|refine gX 15 [0,2] [0,1,2,3,4,5,6] [] ?_|refine gX 16 [] [0,1,2,3,4,5,6,7,8,9,10,11,12,13,14,15,16,17,18,19,20,21,22,23,24,25,26] [] ?_|refine gX 22 [0,2] [0,1,2,3,4,5,6] [] ?_|refine gX 23 [] [0,1,2,3,4,5,6,7,8,9,10,11] [] ?_|refine gX 26 [0,4] [0,1,2,3,4,5,6,7,8] [] ?_)|exact T.z|fail)<;>conv=>whnf)
     all_goals(try dsimp only)
     all_goals
       refine RL.dre .n .n rfl ?_
       (repeat first|refine goH ?_|apply LH.here|apply LH.next)
       rfl
theorem dcmp_c_:LP Tryz.prog gm 84 [d.av,bv b] [] (fun _=>(dre (qq d b hb),[])):=by
 cases h:d.ok with
 | false=>exact dcmp_n d b hb h
 | true =>
   obtain⟨⟨c,f,e⟩,hp⟩:∃y,qp b=y:=⟨_,rfl⟩
   have hl:d.cx.length=16:=(vq (c:=0) h (by decide) (by decide)).2.1
   by_cases he:e=0
   · subst he
     obtain⟨hc,hf⟩:=peek_rng hp
     by_cases h6:f=6
     · subst h6
       obtain⟨r,rfl,rfl⟩:=peek6 hp
       exact dcmp_6 d _ hb h hl hp
     · obtain⟨i,rfl⟩:=Int.eq_ofNat_of_zero_le hc.1
       have hi:i<d.cx.length:=by omega
       by_cases hs:(d.cx.getD i Rc.z).st<xE f
       · exact dcmp_c d b hb h hl i f hp hi h6 hs
       · by_cases hE:dse (qU b hb (d.cx.getD i Rc.z).la.k (decide ((d.cx.getD i Rc.z).la.ck≠0)))=0
         · obtain⟨s,h1,h2,h3,h4⟩:=dec_good hE
           have e6:s.f≠6:=by
             rw[hp] at h4
             have:f=s.f:=congrArg (fun y=>y.2.1) h4
             omega
           obtain⟨k1,k2⟩:=sm_n h2 e6
           exact dcmp_g d b hb h hl i f hp hi h6 hs s h1 k1 k2 (s.of h2).1.2.2 (vq h hc.1 hc.2).2.2
         · exact dcmp_d d b hb h hl i f hp hi h6 hs hE
   · exact dcmp_e d b hb h hl c f e hp he
end
open Go.RowKit
section
variable {P:Program}{T:Tys}{G:Nat→AV}{N:Nat}{e:Env}{l:LS}
theorem Halt.slot{K:Env→LS→Prop}{q:Nm}{c0:Pl}{rest:LS}(d:Nat)(v:AV)(h:LF ((q,c0)::rest) [q] (e d) v)(k:K (put e d v) rest):Halt G N K e ((q,c0)::rest):=by
 refine⟨⟨fun φ hs=>⟨fun σ0 w0 a w hr=>?_⟩⟩⟩
 have he:eraN (pQ φ ((q,c0)::rest)) [q]=pQ φ rest:=Sep.era' (l1:=[]) hs
 have hs1:Sep φ rest:=⟨(List.nodup_cons.1 hs.nd).2,fun x hx=>hs.fr x (List.mem_cons_of_mem _ hx)⟩
 have h2:=hr.frz (d:=d) [q] (h.run φ hs)
 rw[he] at h2
 exact⟨put e d v,_,⟨rest,rfl,hs1,k⟩,h2⟩
end
theorem inc_e{n:Nat}(h:n≤1000000):q7 .add .i64 (n:Int) 1=((n+1:Nat):Int):=by(exact T.num)
@[reducible] def lkT(x:Hk)(ps:List (List UInt8))(wv bw ov:AV):Pl:=⟨79,lkC x ps wv bw ov⟩
@[reducible] def msT(l:List (Nat×List UInt8)):Pl:=⟨106,l.flatMap msC⟩
attribute [local irreducible] qw
theorem hsend_c(x:Hk)(ps:List (List UInt8))(bw ov:AV)(L W:Nm)(wl:List (Nat×List UInt8))(j:Nat)(hw:x.way=wl.drop j)(hj:j≤wl.length)(hl:wl.length≤100000)(hc:x.c.ok=true)(hnx:x.nx≤ps.length)(hps:∀b∈ps,qY b)(hpl:ps.length≤100000) :
   LSpecF (Qs (zU ps x).way (wl.length+1)) Tryz.prog gm 50 [.ptr L 0] [(L,lkT x ps (.vw W (j*2) (wl.length-j) 2) bw ov),(W,msT wl)] 1
     (fun i qs=>(.tup [],[(L,lkT (zU ps x) ps (.vw (qh0 qs) (i.1.2*2) (i.1.1.length-i.1.2) 2) bw ov),(qh0 qs,msT i.1.1)])):=by
 have hcp:=compress_c x.c (ps.getD x.nx [])
 have hinc:=inc_e (n:=x.nx) (by omega)
 by_cases hn:x.nx=ps.length
 · rw[show zU ps x=x from if_pos hn]
   have hn':(x.nx:Int)=(ps.length:Int):=by omega
   refine LSpecF.introN tQ (⟨(wl,j),hw.symm,hj,Nat.le_succ _⟩) (fun qs=>[L,qh0 qs]) ([L,W]) Tryz.func50 rfl (by kernel_rfl) (by simp) (fun _ _=>rfl) rfl (nm_1 L W) ?_
   refine AWpL.sound tQ [] _ _ _ _ ?_
   conv=>whnf
   repeat'((first|exact Nm.b 0|refine T.s ?_|((first|apply goB|apply AB.dec|apply AB.gen)<;>intro h<;>try(exfalso;omega))|refine LQ.mk fun r=>?_|(show SWpL _ _ _ _ _ _ _;first|refine gX 0 [] [0,1,2,3,4,5,6,7,8,9] [] ?_|refine gX 1 [] [0,1,2,3,4,5,6,7,8,9,10,11,12,13,14,15,16,17,18,19,20,21,22] [] ?_|refine gX 4 [] [0,1,2,3,4,5,6,7,8,9] [] ?_)|exact T.z|fail)<;>conv=>whnf)
   all_goals(try dsimp only)
   all_goals first
     | contradiction
     | (exact absurd hn' (by assumption))
     | (refine⟨⟨(wl,j),hw.symm,hj,Nat.le_succ _⟩,RetLN.val [W] rfl ?_ rfl ?_⟩
        · show LH _ _ _
          (repeat first|refine goH ?_|apply LH.here|apply LH.next);trivial
        · (repeat' first|exact LB.nil|(with_reducible exact LB.refl)|(apply LB.cons;(repeat first|refine goH ?_|apply LH.here|apply LH.next);refine And.intro ?_ ?_;(focus(try(first|(with_reducible rfl)|(refine congrArg (Pl.mk _) ?_;(first|rfl|(simp;done)))|rfl|(with_reducible refine congrArg (Pl.mk _) ?_)))))))
     | trace_state
 · have hlt:x.nx<ps.length:=by omega
   have hm:ps.getD x.nx []∈ps:=by rw[List.getD_eq_getElem?_getD,List.getElem?_eq_getElem hlt];exact List.getElem_mem hlt
   obtain⟨g1,g2⟩:=hps _ hm
   have hk:=compr_ok hc (b:=ps.getD x.nx []) (by rintro(k|k);exact g1 k;omega)
   have hn':¬(x.nx:Int)=(ps.length:Int):=by omega
   generalize hb:ps.getD x.nx []=b0 at *
   have hsend:zU ps x=if(qw x.c b0).2=0 then { x with c:=(qw x.c b0).1.1,way:=x.way++[(x.nx,(qw x.c b0).1.2)],nx:=x.nx+1 } else { x with nx:=x.nx+1 }:=by
     unfold zU
     rw[if_neg hn,hb]
   rw[if_pos hk.2.1] at hsend
   rw[hsend]
   obtain⟨⟨⟨c',y⟩,e⟩,hR⟩:∃R,qw x.c b0=R:=⟨_,rfl⟩
   rw[hR] at hcp hk ⊢
   obtain rfl:e=0:=hk.2.1
   dsimp only
   have hw2:x.way++[(x.nx,y)]=wl.drop j++[(x.nx,y)]:=by rw[hw]
   refine LSpecF.introN tQ (⟨(wl.drop j++[(x.nx,y)],0),hw2.symm,Nat.zero_le _,by rw[List.length_append,List.length_drop];simp⟩) (fun qs=>[L,qh0 qs]) ([L,W]) Tryz.func50 rfl (by kernel_rfl) (by simp) (fun _ _=>rfl) rfl (nm_1 L W) ?_
   refine AWpL.sound tQ [] _ _ _ _ ?_
   conv=>whnf
   repeat'((first|(show LC _ _ 83 _ _ _;refine LC.mkF (qput_m { x with c:=c' } ps bw ov L W wl j hj hl (x.nx,y)) [] (.refl _) ?_;show LTake _ _ _;(repeat first|refine goH ?_|apply LH.here|apply LH.next);refine And.intro rfl ?_;(repeat first|refine goH ?_|apply LH.here|apply LH.next);refine And.intro rfl ?_;show ∀i,LFreshN _ _;rintro⟨⟨wl2,j2⟩,h2,h3,h4⟩;refine LFreshN.one fun W2=>?_;(try dsimp only))|exact Nm.b 0|(show LC _ _ _ _ _ _;first|refine LC.pure (hcp) ?_|refine goE ?_)|(show AC _ _ _;first|(refine AC.idx (f:=bv) (l:=ps) x.nx [] (by(try dsimp only);omega) ?_ ?_;(focus omega);rw[hb]))|refine T.s ?_|((first|apply goB|apply AB.dec|apply AB.gen)<;>intro h<;>try(exfalso;omega))|refine LQ.mk fun r=>?_|(show SWpL _ _ _ _ _ _ _;first|refine gX 0 [] [0,1,2,3,4,5,6,7,8,9] [L,W] ?_|refine gX 1 [] [0,1,2,3,4,5,6,7,8,9,10,11,12,13,14,15,16,17,18,19,20,21,22] [L,W] ?_|refine gX 4 [] [0,1,2,3,4,5,6,7,8,9] [L,W] ?_)|exact T.z|fail)<;>conv=>whnf)
   all_goals(try dsimp only)
   all_goals first
     | contradiction
     | (refine⟨⟨(wl2,j2),h2.trans hw2.symm,h3,h4⟩,RetLN.val [W2] rfl ?_ rfl (LB.cons ?_)⟩
        · show LH _ _ _
          (repeat first|refine goH ?_|apply LH.here|apply LH.next);trivial
        · (repeat first|refine goH ?_|apply LH.here|apply LH.next)
          refine And.intro (by rw[hinc];rfl) ?_
          (repeat' first|exact LB.nil|(with_reducible exact LB.refl)|(apply LB.cons;(repeat first|refine goH ?_|apply LH.here|apply LH.next);refine And.intro ?_ ?_;(focus(try(first|(with_reducible rfl)|(refine congrArg (Pl.mk _) ?_;(first|rfl|(simp;done)))|rfl|(with_reducible refine congrArg (Pl.mk _) ?_)))))))
     | trace_state
end Go.Proofs.YtndpmpnmkpaklaaGreatDoor
namespace Go.Proofs.YtndpmpnmkpaklaaGreatDoor
open Go.RowKit
theorem dec_bl{d:De}{b:List UInt8}{hb:b.length≤140737488355328}:(qq d b hb).b.length≤1:=by
 have hc:∀m c r,(we m c r).length≤1:=fun m c r=>by unfold we;(repeat' split)<;>simp
 have ha:∀m c s h,(vv m c s h).length≤1:=fun m c s h=>by unfold vv;(repeat' split)<;>simp
 unfold qq
 split
 · split
   · split
     · split<;>exact Nat.zero_le _
     · split
       · exact hc _ _ _
       · split
         · unfold decP
           split
           · split
             · exact ha _ _ _ _
             · exact Nat.zero_le _
           · exact hc _ _ _
         · exact Nat.zero_le _
   · exact Nat.zero_le _
 · exact Nat.zero_le _
@[reducible] def bsT(l:List (List UInt8)):Pl:=⟨37,l.map bv⟩
@[reducible] def dvT(l:List Dv):Pl:=⟨39,l.flatMap Dv.cs⟩
theorem wb(x:Dv):x.cs.length=3:=rfl
theorem fb_len(x:Fb):x.cs.length=3:=rfl
def delJ(x:Hk)(j:Nat):Nat:=if x.way=[] then j else j+1
theorem dv_app(l:List Dv)(o m:Nat)(v:Dv)(a:List AV)(ho:o=0)(hm:m=l.length*3)(ha:a=v.cs):List.take m (List.drop o (l.flatMap Dv.cs))++a=(l++[v]).flatMap Dv.cs:=by
 subst ho hm ha
 rw[List.drop_zero,List.take_of_length_le (by rw[qm wb];exact Nat.le_refl _),List.flatMap_append,List.flatMap_singleton]
theorem fb_next{l m:List (List UInt8)}{fs:List Fb}{k:Nat}(hk:k<fs.length)(h:m=l++(fs.take k).map (fun f=>(jz f).1)):m++[(jz (fs.getD k Fb.z)).1]=l++(fs.take (k+1)).map (fun f=>(jz f).1):=by
 rw[h,List.take_succ_eq_append_getElem hk,List.map_append,List.append_assoc]
 simp[List.getD_eq_getElem?_getD,hk]
theorem drop_cons{α:Type}{l w:List α}{j:Nat}{m:α}(d:α)(h:m::w=l.drop j):j<l.length∧l.getD j d=m∧w=l.drop (j+1):=by
 have hl:j<l.length:=by
   have:=congrArg List.length h
   rw[List.length_drop] at this
   simp at this;omega
 rw[List.drop_eq_getElem_cons hl] at h
 injection h with h1 h2
 exact⟨hl,by simp[List.getD_eq_getElem?_getD,hl,h1],h2⟩
attribute [local irreducible] qq jz
theorem hdel_c(x:Hk)(ps:List (List UInt8))(L W B O:Nm)(wl:List (Nat×List UInt8))(j:Nat)(hw:x.way=wl.drop j)(hj:j≤wl.length)(bl:List (List UInt8))(jb:Nat)(hb:x.back=bl.drop jb)(hjb:jb≤bl.length)(hbl:bl.length≤90000)(hol:x.out.length≤90000)(hsz:∀m∈x.way,m.2.length≤3000)(hnd:[L,W,B,O].Nodup) :
   LSpecF (Qs (xV x).back (bl.length+1)) Tryz.prog gm 51 [.ptr L 0] [(L,lkT x ps (.vw W (j*2) (wl.length-j) 2) (.vw B jb (bl.length-jb) 1) (.vw O 0 x.out.length 3)),(W,msT wl),(B,bsT bl),(O,dvT x.out)] 2
     (fun i qs=>(.tup [],[(L,lkT (xV x) ps (.vw W (delJ x j*2) (wl.length-delJ x j) 2) (.vw (qh0 qs) i.1.2 (i.1.1.length-i.1.2) 1) (.vw (qh1 qs) 0 (xV x).out.length 3)),(W,msT wl),(qh0 qs,bsT i.1.1),(qh1 qs,dvT (xV x).out)])):=by
 obtain⟨way,hway⟩:∃y,x.way=y:=⟨_,rfl⟩
 cases way with
 | nil =>
   have hj2:wl.length-j=0:=by
     have:=congrArg List.length (hw.symm.trans hway)
     rw[List.length_drop] at this
     simpa using this
   have hd:xV x=x:=by unfold xV;rw[hway]
   have hJ:delJ x j=j:=if_pos hway
   rw[hd,hJ,hj2]
   refine LSpecF.introN tQ (⟨(bl,jb),hb.symm,hjb,Nat.le_succ _⟩) (fun qs=>[L,W,qh0 qs,qh1 qs]) ([L,W,B,O]) Tryz.func51 rfl (by kernel_rfl) (by simp) (fun _ _=>rfl) rfl (nm_2 L W B O hnd) ?_
   refine AWpL.sound tQ [] _ _ _ _ ?_
   conv=>whnf
   repeat'((first|exact Nm.b 0|(show LC _ _ _ _ _ _;first|(apply LC.upd (qtake_e x ps _ _ L W (j*2));(repeat first|refine goH ?_|apply LH.here|apply LH.next);refine⟨rfl,?_⟩)|refine goE ?_)|refine T.s ?_|((first|apply goB|apply AB.dec|apply AB.gen)<;>intro h<;>try(exfalso;omega))|refine LQ.mk fun r=>?_|(show SWpL _ _ _ _ _ _ _;first|(refine goD tQ qc 2 [] [0,1,2,3,4,5,6,7,8,9,10,11,12,13,14,15,16] [] (by kernel_rfl) ?_)|(refine goD tQ qc 4 [] [0,1,2,3,4,5,6,7,8,9,10,11,12,13,14] [] (by kernel_rfl) ?_))|exact T.z|fail)<;>conv=>whnf)
   all_goals(try dsimp only)
   all_goals first
     | (refine⟨⟨(bl,jb),hb.symm,hjb,Nat.le_succ _⟩,RetLN.val [B,O] rfl ?_ rfl ?_⟩
        · show LH _ _ _
          (repeat first|refine goH ?_|apply LH.here|apply LH.next);trivial
        · (repeat' first|exact LB.nil|(with_reducible exact LB.refl)|(apply LB.cons;(repeat first|refine goH ?_|apply LH.here|apply LH.next);refine And.intro ?_ ?_;(focus(try(first|(with_reducible rfl)|(refine congrArg (Pl.mk _) ?_;(first|rfl|(simp;done)))|rfl|(with_reducible refine congrArg (Pl.mk _) ?_)))))))
     | trace_state
 | cons m w =>
   obtain⟨hjl,hm,hw2⟩:=drop_cons (0,[]) (hway.symm.trans hw)
   have hml:m.2.length≤3000:=hsz m (by rw[hway];exact List.mem_cons_self)
   have hnLW:[L,W].Nodup:=by simp at hnd ⊢;exact hnd.1.1
   have ht:=qtake_m (G:=gm) x ps (.vw B jb (bl.length-jb) 1) (.vw O 0 x.out.length 3) L W wl j hjl hnLW
   rw[hm] at ht
   have hbb:m.2.length≤140737488355328:=by omega
   have hdc:=dcmp_c_ (d:=x.d) (b:=m.2) (hb:=hbb)
   have h1:=dec_bl (d:=x.d) (b:=m.2) (hb:=hbb)
   have hdcR:dcR x.d m.2=qq x.d m.2 hbb:=dif_pos hbb
   generalize qq x.d m.2 hbb=rr at *
   have hd:xV x={ x with d:=rr.d,out:=x.out++[⟨m.1,rr.p,rr.e⟩],back:=x.back++rr.b.map (fun f=>(jz f).1),way:=w }:=by
     unfold xV
     rw[hway]
     dsimp only
     rw[hdcR]
   have hJ:delJ x j=j+1:=if_neg (by rw[hway];simp)
   rw[hd,hJ]
   obtain⟨mi,mb⟩:=m
   dsimp only at hd hdc ht ⊢
   have hdl:(x.out.flatMap Dv.cs).length=x.out.length*3:=qm wb _
   refine LSpecF.introN tQ (⟨(x.back++rr.b.map (fun f=>(jz f).1),0),rfl,Nat.zero_le _,by rw[List.length_append,List.length_map,hb,List.length_drop];omega⟩) (fun qs=>[L,W,qh0 qs,qh1 qs]) ([L,W,B,O]) Tryz.func51 rfl (by kernel_rfl) (by simp) (fun _ _=>rfl) rfl (nm_2 L W B O hnd) ?_
   refine AWpL.sound tQ [] _ _ _ _ ?_
   conv=>whnf
   repeat'((first|(show LC _ _ 86 _ _ _;refine LC.mkF (qput_b { x with d:=rr.d } ps (.vw W ((j+1)*2) (wl.length-(j+1)) 2) (.vw O2 0 (x.out.length+1) 3) L B2 s.1 s.2 (by assumption) (by omega) (jz (rr.b.getD k Fb.z)).1) [] (.refl _) ?_;show LTake _ _ _;(repeat first|refine goH ?_|apply LH.here|apply LH.next);refine And.intro rfl ?_;(repeat first|refine goH ?_|apply LH.here|apply LH.next);refine And.intro rfl ?_;show ∀i,LFreshN _ _;rintro⟨⟨bl2,j2⟩,g1,g2,g3⟩;refine LFreshN.one fun B3=>?_;(try dsimp only))|exact Nm.b 0|(refine And.intro ?_ ?_;(focus(first|((try dsimp only);rw[hdl];omega)|((try dsimp only);rw[List.length_drop,qm fb_len];omega)|exact T.kx|exact T.side)))|(show LC _ _ _ _ _ _;first|(refine LC.two (fun hne=>ht) ?_;(repeat first|refine goH ?_|apply LH.here|apply LH.next);refine⟨rfl,?_⟩;(repeat first|refine goH ?_|apply LH.here|apply LH.next);refine⟨rfl,?_⟩)|refine LC.pure (hdc) ?_|refine LC.pure (fbenc_c (rr.b.getD k Fb.z)) ?_|refine goE ?_)|(show AC _ _ _;first|(refine AC.recd fb_len k Fb.z ?_ rfl ?_ ?_;(focus((try dsimp only);omega));(focus omega)))|(show AQ _ _;first|(refine AQ.eq (dv_app x.out _ _ ⟨mi,rr.p,rr.e⟩ _ ?_ ?_ rfl) ?_;(focus exact rfl);(focus(first|rfl|((try dsimp only);omega)))))|refine T.s ?_|((first|apply goB|apply AB.dec|apply AB.gen)<;>intro h<;>try(exfalso;omega))|refine LQ.mk fun r=>?_|(show SWpL _ _ _ (.loop _) _ _ _;first|(apply goO tQ [] 6 (S:=Nat×(List (List UInt8)×Nat)×Nm×Nm) [0,51,52] (fun(k,s,B2,O2)=>⟨[(53,.int .i64 k)],[(L,lkT { x with d:=rr.d } ps (.vw W ((j+1)*2) (wl.length-(j+1)) 2) (.vw B2 s.2 (s.1.length-s.2) 1) (.vw O2 0 (x.out.length+1) 3)),(W,msT wl),(B2,bsT s.1),(O2,dvT (x.out++[⟨mi,rr.p,rr.e⟩]))],k≤rr.b.length∧s.1.drop s.2=x.back++(rr.b.take k).map (fun f=>(jz f).1)∧s.2≤s.1.length∧s.1.length≤bl.length+k,rr.b.length-k⟩) ((0,(bl,jb),_,_)) (by rfl);(focus((repeat' first|exact trivial|(refine And.intro ?_ ?_)|exact LB.nil|(with_reducible exact LB.refl)|(apply LB.cons;(repeat first|refine goH ?_|apply LH.here|apply LH.next);refine And.intro ?_ ?_;(focus(try(first|(with_reducible rfl)|(refine congrArg (Pl.mk _) ?_;(first|rfl|(simp;done)))|rfl|(with_reducible refine congrArg (Pl.mk _) ?_)))))|assumption|(exact hb.symm.trans (List.append_nil _).symm)|(exact g1.trans (fb_next (by omega) (by assumption)))|(first|(focus(apply Eq.trans;(conv=>lhs;whnf);(conv=>rhs;whnf);done))|rfl|((conv=>lhs;whnf);first|rfl|(refine congrArg (AV.int _) ?_;(exact T.num))|(refine congrArg AV.bool ?_;(exact T.num))|(refine vwc ?_;first|(exact T.num)|(first|rfl|(simp;done)))|(refine q9 ?_ ?_<;>first|(exact T.num)|(first|rfl|(simp;done)))|(first|rfl|(simp;done))))|(exact T.num)|(dsimp only;(exact T.num))|(first|rfl|(simp;done)));done));rintro⟨k,s,B2,O2⟩ ⟨hk,hk,hk,hok⟩))|(show SWpL _ _ _ _ _ _ _;first|refine gX 2 [] [0,1,2,3,4,5,6,7,8,9,10,11,12,13,14,15,16] [L] ?_|refine gX 4 [] [0,1,2,3,4,5,6,7,8,9,10,11,12,13,14] [L] ?_)|(show AtL _ _ _ _ _ _ _ _ _ _;first|(apply AtL.mk' (id:=6) (S:=Nat×(List (List UInt8)×Nat)×Nm×Nm) ((k+1,(bl2,j2),_,_));(repeat' first|exact trivial|(refine And.intro ?_ ?_)|exact LB.nil|(with_reducible exact LB.refl)|(apply LB.cons;(repeat first|refine goH ?_|apply LH.here|apply LH.next);refine And.intro ?_ ?_;(focus(try(first|(with_reducible rfl)|(refine congrArg (Pl.mk _) ?_;(first|rfl|(simp;done)))|rfl|(with_reducible refine congrArg (Pl.mk _) ?_)))))|assumption|(exact hb.symm.trans (List.append_nil _).symm)|(exact g1.trans (fb_next (by omega) (by assumption)))|(first|(focus(apply Eq.trans;(conv=>lhs;whnf);(conv=>rhs;whnf);done))|rfl|((conv=>lhs;whnf);first|rfl|(refine congrArg (AV.int _) ?_;(exact T.num))|(refine congrArg AV.bool ?_;(exact T.num))|(refine vwc ?_;first|(exact T.num)|(first|rfl|(simp;done)))|(refine q9 ?_ ?_<;>first|(exact T.num)|(first|rfl|(simp;done)))|(first|rfl|(simp;done))))|(exact T.num)|(dsimp only;(exact T.num))|(first|rfl|(simp;done)));done)|(apply AtL.mk' (id:=6) (S:=Nat×(List (List UInt8)×Nat)×Nm×Nm) ((k+1,(bl2,j2),_,_));(repeat' first|exact trivial|(refine And.intro ?_ ?_)|exact LB.nil|(with_reducible exact LB.refl)|(apply LB.cons;(repeat first|refine goH ?_|apply LH.here|apply LH.next);refine And.intro ?_ ?_;(focus(try(first|(with_reducible rfl)|(refine congrArg (Pl.mk _) ?_;(first|rfl|(simp;done)))|rfl|(with_reducible refine congrArg (Pl.mk _) ?_)))))|assumption|(exact hb.symm.trans (List.append_nil _).symm)|(exact g1.trans (fb_next (by omega) (by assumption)))|(first|(focus(apply Eq.trans;(conv=>lhs;whnf);(conv=>rhs;whnf);done))|rfl|((conv=>lhs;whnf);first|rfl|(refine congrArg (AV.int _) ?_;(exact T.num))|(refine congrArg AV.bool ?_;(exact T.num))|(refine vwc ?_;first|(exact T.num)|(first|rfl|(simp;done)))|(refine q9 ?_ ?_<;>first|(exact T.num)|(first|rfl|(simp;done)))|(first|rfl|(simp;done))))|(exact T.num)|(dsimp only;(exact T.num))|(first|rfl|(simp;done)))))|exact T.z|fail)<;>conv=>whnf)
   all_goals(try dsimp only)
   all_goals first
     | (have hk0:k=rr.b.length:=(by omega)
        subst hk0
        have hfin:s.1.drop s.2=x.back++(rr.b.take rr.b.length).map (fun f=>(jz f).1):=(by assumption)
        rw[List.take_length] at hfin
        refine⟨⟨s,hfin,by assumption,by omega⟩,RetLN.val [B2,O2] rfl ?_ rfl (LB.cons ?_)⟩
        · show LH _ _ _
          (repeat first|refine goH ?_|apply LH.here|apply LH.next);trivial
        · (repeat first|refine goH ?_|apply LH.here|apply LH.next)
          refine And.intro (congrArg (Pl.mk _) (congrArg (fun v=>lkC { x with d:=rr.d } ps _ _ v) (vw_e rfl (by simp)))) ?_
          (repeat' first|exact LB.nil|(with_reducible exact LB.refl)|(apply LB.cons;(repeat first|refine goH ?_|apply LH.here|apply LH.next);refine And.intro ?_ ?_;(focus(try(first|(with_reducible rfl)|(refine congrArg (Pl.mk _) ?_;(first|rfl|(simp;done)))|rfl|(with_reducible refine congrArg (Pl.mk _) ?_)))))))
     | trace_state
end Go.Proofs.YtndpmpnmkpaklaaGreatDoor
namespace Go.Proofs.YtndpmpnmkpaklaaGreatDoor
open Go.RowKit
variable {G:Nat→AV}
theorem bclone_o(l:List UInt8)(h:0<l.length)(hl:l.length≤100000):LP Tryz.prog G 87 [bv l] [] (fun q=>(.vw q 0 l.length 1,[(q,⟨5,l.map bAV⟩)])):=by
 refine goW [] Tryz.func87 rfl ?_
 conv=>whnf
 repeat'((first|refine T.s ?_|((first|apply goB|apply AB.dec|apply AB.gen)<;>intro h<;>try(exfalso;omega))|refine LQ.mk fun r=>?_|exact T.z|fail)<;>conv=>whnf)
 all_goals(try dsimp only)
 all_goals
   refine RL.own r ?_ ?_ ?_
   · rw[Nat.zero_add]
   · (repeat first|refine goH ?_|apply LH.here|apply LH.next);trivial
   · (repeat' first|exact LB.nil|(with_reducible exact LB.refl)|(apply LB.cons;(repeat first|refine goH ?_|apply LH.here|apply LH.next);refine And.intro ?_ ?_;(focus(try(first|(with_reducible rfl)|(refine congrArg (Pl.mk _) ?_;(first|rfl|(simp;done)))|rfl|(with_reducible refine congrArg (Pl.mk _) ?_))))))
theorem flpA_ok{n a:Int}(h0:0<n)(h1:n≤1000000):0≤wJ n a∧wJ n a<n:=by
 unfold wJ
 have h2:a.tmod n<n:=Int.tmod_lt_of_pos a h0
 have h3 : -n<a.tmod n:=by
   have:=Int.tmod_nonneg (-a) (Int.le_of_lt h0)
   have h4:=Int.neg_tmod (a:=a) (b:=n)
   rcases Int.le_total 0 a with k|k
   · have:=Int.tmod_nonneg n k;omega
   · have h5:(-a).tmod n<n:=Int.tmod_lt_of_pos (-a) h0
     rw[Int.neg_tmod] at h5
     omega
 have h6:q7 .add .i64 (a.tmod n) n=a.tmod n+n:=by(exact T.num)
 rw[h6]
 exact⟨Int.tmod_nonneg _ (by omega),Int.tmod_lt_of_pos _ h0⟩
theorem flpB_len(b:List UInt8)(a:Int):(flpB b a).length=b.length:=by unfold flpB;rw[List.length_set]
theorem ms_set{wl:List (Nat×List UInt8)}{j:Nat}(d y:Nat×List UInt8){o:Nat}{xs:List AV}{K:List AV→Prop}(h:j<wl.length)(ho:o=j*2+1)(hy:y.1=(wl.getD j d).1)(hx:xs=[bv y.2])(k:K ((wl.set j y).flatMap msC)):AQ (qg (wl.flatMap msC) o xs) K:=by
 subst hx
 refine AQ.fset ms_len j 1 d y h ho (Nat.le_of_ble_eq_true rfl) ?_ k
 show[AV.int .i64 y.1,bv y.2]=_
 rw[hy];rfl
theorem flpA_e{n a:Int}(h8:q7 .mul .i64 8 n=8*n):wJ (8*n) a=(q7 .add .i64 (a.tmod (q7 .mul .i64 8 n)) (q7 .mul .i64 8 n)).tmod (q7 .mul .i64 8 n):=by rw[h8];rfl
theorem b8_xor(x y:Int):b8 (qk .xor .u8 x y)=b8 (((BitVec.ofInt IntKind.u8.bits x ^^^ BitVec.ofInt IntKind.u8.bits y).toNat:Nat):Int):=by
 show b8 (IntKind.u8.wrap _)=_
 rw[IntKind.wrap_u8]
 have h:∀n:Int,b8 (n%256)=b8 n:=fun n=>by simp[b8]
 exact h _
theorem flp_e{b:List UInt8}{a:Int}{o i:Nat}(ho:o=((wJ (8*b.length) a).tdiv 8).toNat)(hi:i=((wJ (8*b.length) a).tdiv 8).toNat):(flpB b a).map bAV=(b.set o (b8 (qk .xor .u8 (b.getD i 0).toNat (IntKind.u8.wrap (1*2^(min (q7 .sub .i64 7 ((wJ (8*b.length) a).tmod 8)).toNat 8)))))).map bAV:=by
 subst ho hi
 rfl
attribute [local irreducible] wJ
theorem hflip_c(x:Hk)(ps:List (List UInt8))(bw ov:AV)(L W:Nm)(wl:List (Nat×List UInt8))(j:Nat)(hj:j<wl.length)(a:Int)(hb:1≤(wl.getD j (0,[])).2.length∧(wl.getD j (0,[])).2.length≤3000)(hnd:[L,W].Nodup) :
   LP Tryz.prog G 53 [.ptr L 0,iAV a] [(L,lkT x ps (.vw W (j*2) (wl.length-j) 2) bw ov),(W,msT wl)]
     (fun _=>(.tup [],[(L,lkT x ps (.vw W (j*2) (wl.length-j) 2) bw ov),(W,msT (wl.set j ((wl.getD j (0,[])).1,flpB (wl.getD j (0,[])).2 a)))])):=by
 obtain⟨m,hm⟩:∃m,wl.getD j (0,[])=m:=⟨_,rfl⟩
 obtain⟨mi,mb⟩:=m
 rw[hm] at hb ⊢
 dsimp only at hb ⊢
 have hcl:=bclone_o (G:=G) mb (by omega) (by omega)
 have h8:q7 .mul .i64 8 (mb.length:Int)=8*(mb.length:Int):=by(exact T.num)
 have hA:=flpA_ok (n:=8*(mb.length:Int)) (a:=a) (by omega) (by omega)
 have hq:((wJ (8*(mb.length:Int)) a).tdiv 8)=(wJ (8*(mb.length:Int)) a) / 8:=Int.tdiv_eq_ediv_of_nonneg hA.1
 have hlen:(wl.flatMap msC).length=wl.length*2:=yw wl
 have hwi:IntKind.i64.wrap ((wJ (8*(mb.length:Int)) a).tdiv 8)=(wJ (8*(mb.length:Int)) a) / 8:=by rw[hq];(exact T.num)
 have hfe:=flpA_e (n:=(mb.length:Int)) (a:=a) h8
 generalize hA':wJ (8*(mb.length:Int)) a=A at *
 have hfl:=flp_e (b:=mb) (a:=a) (o:=0+(IntKind.i64.wrap (A.tdiv 8)).toNat*1) (i:=(A / 8).toNat) (by rw[hwi,hA',hq];omega) (by rw[hA',hq])
 rw[hA',b8_xor] at hfl
 have h7:0≤q7 .sub .i64 7 (A.tmod 8):=by
   have g1:A.tmod 8=A%8:=Int.tmod_eq_emod_of_nonneg hA.1
   have g2:q7 .sub .i64 7 (A%8)=7-A%8:=by(exact T.num)
   rw[g1,g2];omega
 refine goW [3,4] Tryz.func53 rfl ?_
 conv=>whnf
 repeat'((first|(show Halt _ _ _ _ _;refine Halt.slot 4 (bv (flpB mb a)) (LF.row InL.here (LH.here ⟨by decide,by simp,flpB_len _ _,hfl⟩)) ?_)|exact Nm.b 0|(refine And.intro ?_ ?_;(focus(first|(exact h7)|(rw[hwi];omega)|((try dsimp only);rw[hlen];omega)|exact T.kx|exact T.side)))|(show LC _ _ _ _ _ _;first|refine LC.own (hcl) ?_|refine goE ?_)|(show AC _ _ _;first|(refine AC.fld ms_len j 1 (0,[]) (bv mb) ?_ (by decide) hj (by rw[hm];rfl) ?_;(focus((try dsimp only);omega)))|(refine AC.idx (f:=bAV) (l:=mb) (A / 8).toNat 0 ?_ ?_ ?_;(focus((try dsimp only);rw[hwi];omega));(focus omega)))|(show AQ _ _;first|(refine ms_set (j:=j) (0,[]) (mi,flpB mb a) hj ?_ ?_ ?_ ?_;(focus((try dsimp only);omega));(focus(rw[hm]));(focus exact rfl)))|refine T.s ?_|((first|apply goB|apply AB.dec|apply AB.gen)<;>intro h<;>try(exfalso;omega))|refine LQ.mk fun r=>?_|(show SWpL _ _ _ _ _ _ _;first|refine gX 4 [] [0,1,2,3,4,5,6,7,8,9,10,11] [] ?_)|(show CutL _ _ _ _ _ _ _ _;first|(refine goK tQ [3,4] 3 (S:=Nm) [] (fun q=>⟨[(0,.ptr L 0),(1,iAV A),(4,.vw q 0 mb.length 1)],[(q,⟨5,mb.map bAV⟩),(L,lkT x ps (.vw W (j*2) (wl.length-j) 2) bw ov),(W,msT wl)],True,0⟩) ?_ ?_;(rintro q -);rotate_left)|refine CutL.halt tQ [3,4] 4 (by rfl) ?_|refine CutL.go tQ [3,4] ?_)|(show AtC _ _ _ _ _ _ _ _;first|(show AtC 3 _ _ _ _ _ _ _;exact goM 3 (S:=Nm) (_))|(apply AtC.mk' (id:=3) (S:=Nm) (_);(repeat' first|exact trivial|(refine And.intro ?_ ?_)|exact LB.nil|(with_reducible exact LB.refl)|(apply LB.cons;(repeat first|refine goH ?_|apply LH.here|apply LH.next);refine And.intro ?_ ?_;(focus(try(first|(with_reducible rfl)|(refine congrArg (Pl.mk _) ?_;(first|rfl|(simp;done)))|rfl|(with_reducible refine congrArg (Pl.mk _) ?_)))))|assumption|(first|(focus(apply Eq.trans;(conv=>lhs;whnf);(conv=>rhs;whnf);done))|rfl|((conv=>lhs;whnf);first|rfl|(refine congrArg (AV.int _) ?_;(exact T.num))|(refine congrArg AV.bool ?_;(exact T.num))|(refine vwc ?_;first|(exact T.num)|(first|rfl|(simp;done)))|(refine q9 ?_ ?_<;>first|(exact T.num)|(first|rfl|(simp;done)))|(first|rfl|(simp;done))))|(exact T.num)|(dsimp only;(exact T.num))|(first|rfl|(simp;done)))))|(show Halt _ _ _ _ _;apply Halt.frz 106;(first|(apply LH.here;refine And.intro (by rfl) ?_)|(apply LH.next;apply LH.here;refine And.intro (by rfl) ?_)|(apply LH.next;apply LH.next;apply LH.here;refine And.intro (by rfl) ?_));refine And.intro ?_ ?_;(focus(repeat first|exact LFs.nil|apply LFs.cons|exact LF.rowF InL.here (by(repeat first|refine goH ?_|apply LH.here|apply LH.next);exact⟨rfl,rfl⟩)|exact LF.eq rfl)))|exact T.z|fail)<;>conv=>whnf)
 all_goals(try dsimp only)
 all_goals(refine RL.val rfl ?_;(repeat' first|exact LB.nil|(with_reducible exact LB.refl)|(apply LB.cons;(repeat first|refine goH ?_|apply LH.here|apply LH.next);refine And.intro ?_ ?_;(focus(try(first|(with_reducible rfl)|(refine congrArg (Pl.mk _) ?_;(first|rfl|(simp;done)))|rfl|(with_reducible refine congrArg (Pl.mk _) ?_)))))))
theorem hflip_e(x:Hk)(ps:List (List UInt8))(bw ov:AV)(L W:Nm)(o:Nat)(a:Int) :
   LP Tryz.prog G 53 [.ptr L 0,iAV a] [(L,lkT x ps (.vw W o 0 2) bw ov)]
     (fun _=>(.tup [],[(L,lkT x ps (.vw W o 0 2) bw ov)])):=by
 refine goW [] Tryz.func53 rfl ?_
 conv=>whnf
 repeat'((first|exact Nm.b 0|refine T.s ?_|((first|apply goB|apply AB.dec|apply AB.gen)<;>intro h<;>try(exfalso;omega))|refine LQ.mk fun r=>?_|(show SWpL _ _ _ _ _ _ _;first|refine gX 4 [] [0,1,2,3,4,5,6,7,8,9,10,11] [] ?_)|exact T.z|fail)<;>conv=>whnf)
 all_goals(try dsimp only)
 all_goals first|contradiction|(refine RL.val rfl ?_;(repeat' first|exact LB.nil|(with_reducible exact LB.refl)|(apply LB.cons;(repeat first|refine goH ?_|apply LH.here|apply LH.next);refine And.intro ?_ ?_;(focus(try(first|(with_reducible rfl)|(refine congrArg (Pl.mk _) ?_;(first|rfl|(simp;done)))|rfl|(with_reducible refine congrArg (Pl.mk _) ?_)))))))|trace_state
end Go.Proofs.YtndpmpnmkpaklaaGreatDoor
