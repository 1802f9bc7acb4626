/-
  Contracts of the functions that the laws reach.
-/
import Derived.Test.YtndpmpnmkpaklaaGreatDoorHr30
import Derived.Test.YtndpmpnmkpaklaaGreatDoorHr32
set_option maxHeartbeats 16000000
set_option linter.all false
namespace Go.Proofs.YtndpmpnmkpaklaaGreatDoor
open Go.RowKit
theorem LC.cofL{P:Program}{G:Nat→AV}{F:FuncId}{c:Co}{hd:Hd}{o:Option Nat}(i0:Nat){R:Nm}{l:LS}{K:AV→LS→Prop}(hs:LP P G F [c.av,hd.av] [] (fun _=>(fndV o,[])))(h:LH l R fun cc _ r=>∃p,cc.cs=cpR c i0 p c.cx.length∧LH r p fun cc' _ _=>cc'.cs=(c.at i0).rf.flatMap Hd.cs)(k:K (fndV o) l) :
   LC P G F [.agg [.int .i64 c.m,.int .i64 c.w,.vw R 0 c.cx.length 9],hd.av] l K:=by
 obtain⟨p,h1,-⟩:=cop_row h
 exact LC.lend hs [R,p] ⟨LF.agg (xs:=[.int .i64 c.m,.int .i64 c.w,.vw R 0 c.cx.length 9]) (ys:=[iAV c.m,iAV c.w,snv c.cx]) ⟨.eq rfl,.eq rfl,h1,trivial⟩,.eq rfl,trivial⟩ (Flat.tup (Flat.cons (Flat.int _ _) (Flat.cons (Flat.bool _) Flat.nil))) k
theorem k9{G:Nat→AV}(c:Co)(hc:c.ok=true)(i0:Nat)(hi:i0<16):LSpecN Tryz.prog G 113 [c.av] [] 2 (fun q=>(.agg [iAV c.m,iAV c.w,.vw (n0 q) 0 c.cx.length 9],[(n0 q,⟨122,cpR c i0 (n1 q) c.cx.length⟩),(n1 q,⟨54,(c.at i0).rf.flatMap Hd.cs⟩)])) :=
 cclone_c c i0 (by rw[xy hc];exact hi) (by rw[xy hc];decide) (co_rf hc)
theorem wE{G:Nat→AV}(c:Co)(hc:c.ok=true)(hd:Hd):LP Tryz.prog G 116 [c.av,hd.av] [] (fun _=>(fndV (x9 c.cx hd),[])) :=
 cfind_c c hd (by rw[xy hc];decide) fun i hi ha=>kQ (co_sn hc i hi) ha
theorem ccomp_inv(c:Co)(b:List UInt8)(hc:c.ok=false):LP Tryz.prog gm 82 [c.av,bv b] [] (fun _=>(cpr (qw c b),[])):=by
 have hv:=zT (G:=gm) c
 rw[hc] at hv
 rw[show qw c b=((Co.z,[]),1) by unfold qw;rw[if_neg (by rw[hc];decide)]]
 refine goW [] Tryz.func82 rfl ?_
 conv=>whnf
 repeat'((first|exact Nm.b 0|(show LC _ _ _ _ _ _;first|refine LC.pure (hv) ?_|refine goE ?_)|refine T.s ?_|((first|apply goB|apply AB.dec|apply AB.gen)<;>intro h<;>try(exfalso;omega))|refine LQ.mk fun r=>?_|(show SWpL _ _ _ _ _ _ _;first|(refine goD tQ qc 11 [] [0,1,2,3,4,5,6,7,8,9,10,11,12] [] (by kernel_rfl) ?_)|(refine goD tQ qc 14 [2,1] [0,2,1,3,4,5] [] (by kernel_rfl) ?_)|(refine goD tQ qc 18 [3,7] [0,1,2,3,4,5,6,7,8,9,10,11] [] (by kernel_rfl) ?_)|(refine goD tQ qc 22 [] [0,1,2,3,4,5,6,7,8] [] (by kernel_rfl) ?_))|exact T.z|fail)<;>conv=>whnf)
 all_goals(try dsimp only)
 all_goals exact RL.co3
theorem ccomp_size(c:Co)(b:List UInt8)(hc:c.ok=true)(hb:b=[]∨1500<b.length):LP Tryz.prog gm 82 [c.av,bv b] [] (fun _=>(cpr (qw c b),[])):=by
 have hv:=zT (G:=gm) c
 rw[hc] at hv
 rw[show qw c b=((Co.z,[]),2) by unfold qw;rw[if_pos hc,if_pos hb]]
 have hb2:b.length=0∨1500<b.length:=by
   rcases hb with rfl|hb
   · exact .inl rfl
   · exact .inr hb
 clear hb
 refine goW [] Tryz.func82 rfl ?_
 conv=>whnf
 repeat'((first|exact Nm.b 0|(show LC _ _ _ _ _ _;first|refine LC.pure (hv) ?_|refine goE ?_)|refine T.s ?_|((first|apply goB|apply AB.dec|apply AB.gen)<;>intro h<;>try(exfalso;omega))|refine LQ.mk fun r=>?_|(show SWpL _ _ _ _ _ _ _;first|(refine goD tQ qc 11 [] [0,1,2,3,4,5,6,7,8,9,10,11,12] [] (by kernel_rfl) ?_)|(refine goD tQ qc 14 [2,1] [0,2,1,3,4,5] [] (by kernel_rfl) ?_)|(refine goD tQ qc 18 [3,7] [0,1,2,3,4,5,6,7,8,9,10,11] [] (by kernel_rfl) ?_)|(refine goD tQ qc 22 [] [0,1,2,3,4,5,6,7,8] [] (by kernel_rfl) ?_))|exact T.z|fail)<;>conv=>whnf)
 all_goals(try dsimp only)
 all_goals first
   | exact RL.co3
   | trace_state
theorem ccomp_perr(c:Co)(b:List UInt8)(hc:c.ok=true)(hb:¬(b=[]∨1500<b.length))(hp:¬(qu b).2=0):LP Tryz.prog gm 82 [c.av,bv b] [] (fun _=>(cpr (qw c b),[])):=by
 have hv:=zT (G:=gm) c
 rw[hc] at hv
 rw[show qw c b=((c,(zo (jx b)).1),0) by unfold qw;rw[if_pos hc,if_neg hb,if_neg hp]]
 have hb2:¬b.length=0∧b.length≤1500:=⟨fun h=>hb (.inl (List.eq_nil_of_length_eq_zero h)),by have:=fun h=>hb (.inr h);omega⟩
 have hcp:=k9 (G:=gm) c hc 0 (by decide)
 have hpr:=jQ (G:=gm) b (by omega)
 have hfd:=wE (G:=gm) c hc (qu b).1.1
 generalize x9 c.cx (qu b).1.1=o at hfd
 refine goW [] Tryz.func82 rfl ?_
 conv=>whnf
 repeat'((first|((with_reducible show AB (qr .neq (qu b).2 0) _ _);refine AB.neqT hp ?_)|((with_reducible show AB (qr .eql _ 0) _ _);refine goF ?_ (by omega))|((with_reducible show AB (qr .gtr _ 1500) _ _);refine goF ?_ (by omega))|(show LC _ _ 116 _ _ _;refine LC.cofL (c:=c) (hd:=(qu b).1.1) 0 hfd ?_ ?_;(focus((repeat first|refine goH ?_|apply LH.here|apply LH.next);refine⟨_,rfl,?_⟩;(repeat first|refine goH ?_|apply LH.here|apply LH.next);rfl));conv=>whnf)|exact Nm.b 0|(show LC _ _ _ _ _ _;first|refine LC.pure (hv) ?_|refine LC.mkN (hcp) [] (LFs.refl _) ?_|refine LC.pure (qd (jx b)) ?_|refine LC.pure (hpr) ?_|refine goE ?_)|refine T.s ?_|((first|apply goB|apply AB.dec|apply AB.gen)<;>intro h)|refine LQ.mk fun r=>?_|refine LFreshN.two fun r r2=>?_|refine LFreshN.three fun r r2 r3=>?_|(show SWpL _ _ _ _ _ _ _;first|(refine goD tQ qc 11 [] [0,1,2,3,4,5,6,7,8,9,10,11,12] [] (by kernel_rfl) ?_)|(refine goD tQ qc 14 [2,1] [0,2,1,3,4,5] [] (by kernel_rfl) ?_)|(refine goD tQ qc 18 [3,7] [0,1,2,3,4,5,6,7,8,9,10,11] [] (by kernel_rfl) ?_)|(refine goD tQ qc 22 [] [0,1,2,3,4,5,6,7,8] [] (by kernel_rfl) ?_))|exact T.z|fail)<;>conv=>whnf)
 all_goals(try dsimp only)
 all_goals first
   | (refine RL.cop (c:=c) 0 (x:=(zo (jx b)).1) (e:=0) ?_;(repeat first|refine goH ?_|apply LH.here|apply LH.next);refine⟨_,rfl,?_⟩;(repeat first|refine goH ?_|apply LH.here|apply LH.next);rfl)
   | trace_state
theorem ccomp_none(c:Co)(b:List UInt8)(hc:c.ok=true)(hb:¬(b=[]∨1500<b.length))(hp:(qu b).2=0)(hf:x9 c.cx (qu b).1.1=none):LP Tryz.prog gm 82 [c.av,bv b] [] (fun _=>(cpr (qw c b),[])):=by
 have hv:=zT (G:=gm) c
 rw[hc] at hv
 rw[show qw c b=((c,(zo (jx b)).1),0) by unfold qw;rw[if_pos hc,if_neg hb,if_pos hp,hf]]
 have hb2:¬b.length=0∧b.length≤1500:=⟨fun h=>hb (.inl (List.eq_nil_of_length_eq_zero h)),by have:=fun h=>hb (.inr h);omega⟩
 have hcp:=k9 (G:=gm) c hc 0 (by decide)
 have hpr:=jQ (G:=gm) b (by omega)
 rw[hp] at hpr
 have hfd:=wE (G:=gm) c hc (qu b).1.1
 rw[hf] at hfd
 refine goW [] Tryz.func82 rfl ?_
 conv=>whnf
 repeat'((first|((with_reducible show AB (qr .eql _ 0) _ _);refine goF ?_ (by omega))|((with_reducible show AB (qr .gtr _ 1500) _ _);refine goF ?_ (by omega))|(show LC _ _ 116 _ _ _;refine LC.cofL (c:=c) (hd:=(qu b).1.1) 0 hfd ?_ ?_;(focus((repeat first|refine goH ?_|apply LH.here|apply LH.next);refine⟨_,rfl,?_⟩;(repeat first|refine goH ?_|apply LH.here|apply LH.next);rfl));rw[show fndV none=AV.tup [.int .i64 (-1),.bool false] from rfl];conv=>whnf)|exact Nm.b 0|(show LC _ _ _ _ _ _;first|refine LC.pure (hv) ?_|refine LC.mkN (hcp) [] (LFs.refl _) ?_|refine LC.pure (qd (jx b)) ?_|refine LC.pure (hpr) ?_|refine goE ?_)|refine T.s ?_|((first|apply goB|apply AB.dec|apply AB.gen)<;>intro h)|refine LQ.mk fun r=>?_|refine LFreshN.two fun r r2=>?_|refine LFreshN.three fun r r2 r3=>?_|(show SWpL _ _ _ _ _ _ _;first|(refine goD tQ qc 11 [] [0,1,2,3,4,5,6,7,8,9,10,11,12] [] (by kernel_rfl) ?_)|(refine goD tQ qc 14 [2,1] [0,2,1,3,4,5] [] (by kernel_rfl) ?_)|(refine goD tQ qc 18 [3,7] [0,1,2,3,4,5,6,7,8,9,10,11] [] (by kernel_rfl) ?_)|(refine goD tQ qc 22 [] [0,1,2,3,4,5,6,7,8] [] (by kernel_rfl) ?_))|exact T.z|fail)<;>conv=>whnf)
 all_goals(try dsimp only)
 all_goals first
   | (refine RL.cop (c:=c) 0 (x:=(zo (jx b)).1) (e:=0) ?_;(repeat first|refine goH ?_|apply LH.here|apply LH.next);refine⟨_,rfl,?_⟩;(repeat first|refine goH ?_|apply LH.here|apply LH.next);rfl)
   | trace_state
open Go.RowKit
theorem lng_ok{m w:Int}{s:Sn}{h:Hd}(hs:0≤s.lng∧s.lng≤3):0≤(jA m w s h).1.lng∧(jA m w s h).1.lng≤3:=by
 have hS:∀(x:Sn) (f:Int),(0≤x.lng∧x.lng≤3)→0≤(zn w x f).lng∧(zn w x f).lng≤3:=fun x f hx=>by
   unfold zn;split
   · exact hx
   · exact⟨Int.le_refl 0,(show(0:Int)≤3 by decide)⟩
 have hA:0≤(chA w s h (chb s)).1.lng∧(chA w s h (chb s)).1.lng≤3:=by
   unfold chA;split
   · exact hS _ _ hs
   · exact hs
 unfold jA
 generalize chA w s h (chb s)=X at hA
 have hB:0≤(chB m w X).1.lng∧(chB m w X).1.lng≤3:=by
   unfold chB;split
   · exact hS _ _ hA
   · exact hA
 generalize chB m w X=Y at hB
 have hC:0≤(chC m w Y).1.lng∧(chC m w Y).1.lng≤3:=by
   unfold chC;split
   · exact hS _ _ hB
   · exact hB
 generalize chC m w Y=Z at hC
 have hD:0≤(chD s.lst h Z).lng∧(chD s.lst h Z).lng≤3:=by
   unfold chD;split
   · exact hC
   · exact hC
 generalize chD s.lst h Z=U at hD
 unfold chE
 (repeat' split)<;>first|exact hD|exact hS _ _ hD
theorem rf_cho{m w:Int}{s:Sn}{h:Hd}(h32:¬(m=3∧s.rf.length=32)):(jA m w s h).1.rf=s.rf:=by
 have hE:∀U:Sn,(chE w s.lst h U).1.rf=U.rf:=fun U=>by
   unfold chE
   (repeat' split)<;>first|rfl|exact ser_rf
 unfold jA
 rw[hE,chC_i (by rw[chB_rf,vt];exact h32)]
 exact chD_rf.trans (chB_rf.trans vt)
structure Cho(c:Co)(i0:Nat)(hd:Hd)(pl:List UInt8)(v:Sn)(f:Int):Prop where
 sin:0≤v.sin∧v.sin≤32
 lng:0≤v.lng∧v.lng≤3
 full:f=5→0<v.full∧v.full≤8
 refr:f=4→0<v.refr∧v.refr≤8
 ser:0≤v.ser∧v.ser≤1000
 frm:1≤f∧f≤5
 enc:(zo (qf v.dy i0 f hd pl)).2=0
 eq:zF c i0 hd pl=(c.set i0 (csF c.m c.w hd v f),(zo (qf v.dy i0 f hd pl)).1)
theorem cho_of{c:Co}{i0:Nat}{b:List UInt8}{hd:Hd}{pl:List UInt8}(hc:c.ok=true)(hp:qu b=((hd,pl),0))(hf:x9 c.cx hd=some i0){v:Sn}{f:Int}(he:jA c.m c.w (jB c.w (c.at i0)) hd=(v,f)):Cho c i0 hd pl v f:=by
 obtain⟨hi,hsn,hsm,-⟩:=xu hc hf
 have hW:=yI hc
 obtain⟨h1,h2,h3⟩:=cho_eq (m:=c.m) (h:=hd) hW.2.2.1 hsn
 obtain⟨hM,hf5,hF,hR,-⟩:=ks (m:=c.m) hW.2.2.1 hsn hsm
 have hl:0≤v.lng∧v.lng≤3:=by
   have:=lng_ok (m:=c.m) (w:=c.w) (s:=jB c.w (c.at i0)) (h:=hd) (by
     unfold jB
     split
     · rename_i ha
       have:=((Sn.ok_e ha).1 hsn).1
       exact this.2.2.2.2.2.2.2
     · have:=wU hsn (by simpa using ‹¬(c.at i0).act=true›)
       dsimp only
       rw[this.2.2.2.2.1]
       exact⟨by decide,by decide⟩)
   rw[he] at this
   exact this
 rw[he] at h1 h2 h3
 obtain⟨ho,-,-,-,hpl⟩:=xt hp
 have hPok:=kP (c:=(i0:Int)) (pl:=pl) ho hM.dok hM.dz ⟨by omega,by omega⟩ hf5 hpl
 dsimp only at h1 h2 h3
 rw[←h1,←h2.dy] at hPok
 have hfr:=hM.full
 have hrr:=hM.refr
 have hss:=hM.ser
 have hln:=hM.len
 rw[←h2.ser,←h2.rf] at hss
 rw[←h2.rf] at hln
 rw[←h1] at hf5 hF hR
 rw[←h2.full] at hF hfr
 rw[←h2.refr] at hR hrr
 refine⟨by rw[h2.sin];exact hM.sin,hl,fun e=>⟨hF.1 e,by omega⟩,fun e=>⟨hR.1 e,by omega⟩,⟨hss.1,?_⟩,hf5,by rw[y7 hPok],?_⟩
 · by_cases hm:c.m=3
   · have:=hln.2 hm;omega
   · have:=hln.1 hm;omega
 · unfold zF
   rw[←h1,←h2.dy,Lk.csF h2 h3]
theorem rk_rows{c:Co}{i0:Nat}(h:i0<c.cx.length)(s':Sn)(ys:List AV)(hy:ys.length=9):((List.range i0).flatMap (fun k=>(c.at k).cs)++(ys++frs c (i0+1) c.cx.length)).length=c.cx.length*9:=by
 have h1:=congrArg List.length (set_fm c i0 h s')
 rw[qm Sn.cs_len,List.length_set] at h1
 rw[h1]
 simp only[List.length_append,hy]
 rfl
theorem RL.cmp{c:Co}{i0:Nat}{s':Sn}{R r:Nm}{n:Nat}{y:List UInt8}{ys:List AV}{l:LS}(hi:i0<c.cx.length)(hn:n=s'.rf.length)(hy:ys=s'.cv (.vw r 0 n 15))(hr:LH l r fun cc _ _=>cc.cs=s'.rf.flatMap Hd.cs)(h:LH l R fun cc _ rest=>cc.cs=(List.range i0).flatMap (fun k=>(c.at k).cs)++(ys++frs c (i0+1) c.cx.length)∧LH rest r fun _ _ _=>True):RL (fun _=>(.tup [(c.set i0 s').av,bv y,iAV 0],[])) (.tup [.agg [.int .i64 c.m,.int .i64 c.w,.vw R 0 c.cx.length 9],bv y,.int .i64 0]) l:=by
 subst hn hy
 have hrow:LF l [R,r] (.vw R 0 c.cx.length 9) (snv (c.cx.set i0 s')):=LF.rowN (m:=(c.cx.set i0 s').length) (ds:=(c.cx.set i0 s').flatMap Sn.cs) InL.here (LH.mono h fun cc _ _ hh=>⟨by decide,by rw[hh.1];exact rk_rows hi s' _ rfl,by simp,by
   rw[hh.1,set_fm c i0 hi s']
   exact LFs.app (LFs.same _) (LFs.app ⟨.eq rfl,.eq rfl,.eq rfl,.eq rfl,.eq rfl,.eq rfl,.eq rfl,.eq rfl,LF.row (InL.next InL.here) (LH.mono hr fun c _ _ e=>⟨by decide,by rw[e];exact qm Hd.cs_len _,rfl,e.symm⟩),trivial⟩ (LFs.same _))⟩)
 refine RL.frz [R,r] (LF.tup (xs:=[.agg [.int .i64 c.m,.int .i64 c.w,.vw R 0 c.cx.length 9],bv y,.int .i64 0]) (ys:=[(c.set i0 s').av,bv y,iAV 0]) ⟨LF.agg (xs:=[.int .i64 c.m,.int .i64 c.w,.vw R 0 c.cx.length 9]) (ys:=[iAV c.m,iAV c.w,snv (c.cx.set i0 s')]) ⟨.eq rfl,.eq rfl,hrow,trivial⟩,.eq rfl,.eq rfl,trivial⟩) ?_
 exact LH.mono h fun _ _ _ hh=>LH.mono hh.2 fun _ _ _ _=>LB.nil
theorem comprR_g{c:Co}{b:List UInt8}{hd:Hd}{pl:List UInt8}{i:Nat}(hc:c.ok=true)(hb:¬(b=[]∨1500<b.length))(hp:qu b=((hd,pl),0))(hf:x9 c.cx hd=some i)(ho:¬((c.at i).act=true∧c.m=3∧(sg 16 (c.at i).lst.num hd.num<1∨255<sg 16 (c.at i).lst.num hd.num))):qw c b=(zF c i hd pl,0):=by
 unfold qw
 rw[if_pos hc,if_neg hb,hp]
 dsimp only
 rw[if_pos rfl,hf]
 dsimp only
 rw[if_neg ho]
theorem ECpg13_1{p:Prop}(h:p:=by(repeat' first|exact trivial|(refine And.intro ?_ ?_)|exact LB.nil|(with_reducible exact LB.refl)|(apply LB.cons;(repeat first|refine goH ?_|apply LH.here|apply LH.next);refine And.intro ?_ ?_;(focus(try(first|(with_reducible rfl)|(refine congrArg (Pl.mk _) ?_;(first|rfl|(simp;done)))|rfl|(with_reducible refine congrArg (Pl.mk _) ?_)))))|(with_reducible assumption)|fail|(show(_:AV)=_;(first|(focus(apply Eq.trans;(conv=>lhs;whnf);(conv=>rhs;whnf);done))|rfl|((conv=>lhs;whnf);first|rfl|(refine congrArg (AV.int _) ?_;(exact T.num))|(refine congrArg AV.bool ?_;(exact T.num))|(refine vwc ?_;first|(exact T.num)|(first|rfl|(simp;done)))|(refine q9 ?_ ?_<;>first|(exact T.num)|(first|rfl|(simp;done)))|(first|rfl|(simp;done)))))|((with_reducible first|(show(_:Int)≤_)|(show(_:Int)<_)|(show(_:Nat)≤_)|(show(_:Nat)<_)|(show(_:Int)=_)|(show(_:Nat)=_));(exact T.num))|(first|rfl|(simp;done)));first|done|fail):p:=h
theorem ccomp_v(c:Co)(b:List UInt8)(hd:Hd)(pl:List UInt8)(i0:Nat)(hc:c.ok=true)(hb:¬(b=[]∨1500<b.length))(hp:qu b=((hd,pl),0))(hf:x9 c.cx hd=some i0)(ha:(c.at i0).act=true)(h32:¬(c.m=3∧(c.at i0).rf.length=32))(ho:c.m=3→¬sg 16 (c.at i0).lst.num hd.num<1∧¬255<sg 16 (c.at i0).lst.num hd.num):LP Tryz.prog gm 82 [c.av,bv b] [] (fun _=>(cpr (qw c b),[])):=by
 have hv:=zT (G:=gm) c
 rw[hc] at hv
 have hb2:¬(b.length:Int)=0:=fun h=>hb (.inl (List.eq_nil_of_length_eq_zero (by omega)))
 have hb3:¬1500<(b.length:Int):=fun h=>hb (.inr (by omega))
 obtain⟨hi,hsn,hsm,-⟩:=xu hc hf
 have h16:=xy hc
 have hW:=yI hc
 have hcp:=k9 (G:=gm) c hc i0 (by omega)
 have hi:i0<c.cx.length:=by omega
 have hpr:LP Tryz.prog gm 115 [bv b] [] (fun _=>(.tup [hd.av,bv pl,iAV 0],[])):=by
   have h1:=jQ (G:=gm) b (by omega)
   rwa [hp] at h1
 have hfd:=wE (G:=gm) c hc hd
 have ko:=(xt hp).1
 have hact:jB c.w (c.at i0)=(c.at i0):=if_pos ha
 have hn0:=kQ hsn ha
 have hn1:=sn_rf hsn hW.2.2.2
 have h0:0<(c.at i0).rf.length:=hn0
 obtain⟨⟨v,f⟩,he⟩:∃y,jA c.m c.w (c.at i0) hd=y:=⟨_,rfl⟩
 have hC:Cho c i0 hd pl v f:=cho_of hc hp hf (by rw[hact];exact he)
 have hch:=fun(wk p:Nm) (hne:wk≠p)=>wchoose_v (G:=gm) wk p hne (c.at i0) c.m c.w hd (by omega) (by omega)
 rw[he] at hch
 have hvr:v.rf=(c.at i0).rf:=by
   have h9:=rf_cho (m:=c.m) (w:=c.w) (s:=(c.at i0)) (h:=hd) (by omega)
   rw[he] at h9
   exact h9
 have hct:=fun(wk p:Nm) (hne:wk≠p)=>wcount_v (G:=gm) wk p hne v c.m c.w hd f hC.sin hC.lng hC.full hC.refr hC.ser hW.2.2 hC.frm (by rw[hvr];omega)
 rw[hvr] at hct
 have hPt:=fun(wk:Nm) (R:AV)=>wparts_c wk v R c.m c.w hd ko i0 f pl hC.frm
 have hEn:=qd (G:=gm) (qf v.dy i0 f hd pl)
 have hz:=hC.enc
 rw[comprR_g hc hb hp hf (fun q=>q.2.2.elim (ho q.2.1).1 (ho q.2.1).2),hC.eq]
 obtain⟨NS,hNS⟩:∃NS,csF c.m c.w hd v f=NS:=⟨_,rfl⟩
 rw[hNS] at hct ⊢
 generalize qf v.dy i0 f hd pl=PR at hPt hEn hz ⊢
 generalize zo PR=Y at hEn hz ⊢
 obtain⟨Y,ey⟩:=Y
 dsimp only at hz
 subst hz
 clear hb hp hC hsm hNS
 rcases(show(c.m=3∧¬sg 16 (c.at i0).lst.num hd.num<1∧¬255<sg 16 (c.at i0).lst.num hd.num)∨¬c.m=3 by by_cases hm:c.m=3;exact .inl ⟨hm,ho hm⟩;exact .inr hm) with ⟨hm,ho1,ho2⟩|hm
 all_goals
   refine goW [12] Tryz.func82 rfl ?_
   conv=>whnf
   repeat'((first|(show LFreshN _ _;refine LFreshN.two fun R p=>?_;dsimp only[n0_e,n1_e,List.cons_append,List.nil_append];conv=>whnf)|(show LC _ _ 116 _ _ _;refine LC.cofL (c:=c) (hd:=hd) i0 hfd ?_ ?_;(focus((repeat first|refine goH ?_|apply LH.here|apply LH.next);refine⟨_,rfl,?_⟩;(repeat first|refine goH ?_|apply LH.here|apply LH.next);rfl));rw[hf,show fndV (some i0)=AV.tup [.int .i64 (i0:Int),.bool true] from rfl];conv=>whnf)|((with_reducible show AB (decide (0<(c.at i0).rf.length)) _ _);first|refine goT ?_ h0|refine goF ?_ h0)|((with_reducible show AB (c.at i0).act _ _);first|refine goT' ?_ ha|refine goF' ?_ ha)|(show LC _ _ 122 _ _ _;apply LC.many (fun hn=>hct wk p (by simpa using hn)))|exact Nm.b 0|(refine And.intro ?_ ?_;(focus(first|exact InL.here|exact InL.next InL.here|exact T.kx|exact T.side)))|(show LC _ _ _ _ _ _;first|refine LC.pure (hv) ?_|refine LC.mkN (hcp) [] (LFs.refl _) ?_|refine LC.pure (qd (jx b)) ?_|refine LC.pure (hpr) ?_|(apply LC.twoK (fun hne=>kb _ p hne (c.at i0) c.m c.w hd (by omega));(repeat first|refine goH ?_|apply LH.here|apply LH.next);refine⟨rfl,?_⟩;(repeat first|refine goH ?_|apply LH.here|apply LH.next);refine⟨rfl,?_⟩;(repeat first|refine goH ?_|apply LH.here|apply LH.next))|refine LC.pure (jm _) ?_|refine LC.pure (xG 16 _ _ (by decide) (by decide)) ?_|(apply LC.twoK (fun hne=>hch wk p hne);(repeat first|refine goH ?_|apply LH.here|apply LH.next);refine⟨rfl,?_⟩;(repeat first|refine goH ?_|apply LH.here|apply LH.next);refine⟨rfl,?_⟩;(repeat first|refine goH ?_|apply LH.here|apply LH.next))|(apply LC.upd (hPt wk _);(repeat first|refine goH ?_|apply LH.here|apply LH.next);refine⟨rfl,?_⟩)|refine LC.pure (hEn) ?_|refine goE ?_)|(show AC _ _ _;first|(refine AC.cpA (Nat.zero_add _) rfl hi ?_))|(show AQ _ _;first|((with_reducible show AQ (qg (cpR _ _ _ _) _ _) _);refine AQ.cpS (i0:=i0) (Nat.zero_add _) hi rfl ?_))|refine T.s ?_|((first|apply goB|apply AB.dec|apply AB.gen)<;>intro h)|refine LQ.mk fun r=>?_|refine LFreshN.two fun r r2=>?_|refine LFreshN.three fun r r2 r3=>?_|(show SWpL _ _ _ _ _ _ _;first|refine gX 11 [] [0,1,2,3,4,5,6,7,8,9,10,11,12] [] ?_|refine gX 14 [2,1] [0,2,1,3,4,5] [] ?_|(refine goD tQ qc 18 [3,7] [0,1,2,3,4,5,6,7,8,9,10,11] [a] (by kernel_rfl) ?_)|(refine goD tQ qc 22 [] [0,1,2,3,4,5,6,7,8] [o,wk] (by kernel_rfl) ?_))|(show CutL _ _ _ _ _ _ _ _;first|(refine goK tQ [12] 12 (S:=Nm×Nm×Nm×Nm×Nm×Nm) [8,11,13] (fun(a,z,o,hh,wk,e)=>⟨[(2,.ptr a 0),(4,.ptr z 0),(7,.ptr o 0),(10,.ptr hh 0),(15,.ptr wk 0),(16,.ptr e 0),(17,.bool (decide (0<(c.at i0).rf.length)))],[(a,⟨62,[iAV c.m,iAV c.w,snv c.cx]⟩),(z,⟨62,[iAV 0,iAV 0,.nils]⟩),(o,⟨62,[iAV c.m,iAV c.w,.vw R 0 c.cx.length 9]⟩),(hh,⟨54,hd.cs⟩),(wk,⟨175,wrV (c.at i0) (.vw p 0 (c.at i0).rf.length 15) c.m c.w hd⟩),(e,⟨54,(c.at i0).lst.cs⟩),(R,⟨122,cpR c i0 p c.cx.length⟩),(p,⟨54,(c.at i0).rf.flatMap Hd.cs⟩)],True,0⟩) ?_ ?_;(rintro⟨a,z,o,hh,wk,e⟩ -);rotate_left)|refine CutL.go tQ [12] ?_)|(show AtC 12 _ _ _ _ _ _ _;first|(apply AtC.mk' (id:=12) (S:=Nm×Nm×Nm×Nm×Nm×Nm) ((_,_,_,_,_,_));focus(refine T.a4 ?_ ?_ ?_<;>exact ECpg13_1)))|exact T.z|fail)<;>conv=>whnf)
   all_goals(try dsimp only)
   all_goals first
     | (refine RL.cmp (c:=c) (i0:=i0) (s':=NS) (r:=r) hi rfl rfl ?_ ?_;(focus((repeat first|refine goH ?_|apply LH.here|apply LH.next);rfl));(repeat first|refine goH ?_|apply LH.here|apply LH.next);refine And.intro rfl ?_;(repeat first|refine goH ?_|apply LH.here|apply LH.next);trivial)
     | trace_state
theorem ECpg13_2{p:Prop}(h:p:=by(repeat' first|exact trivial|(refine And.intro ?_ ?_)|exact LB.nil|(with_reducible exact LB.refl)|(apply LB.cons;(repeat first|refine goH ?_|apply LH.here|apply LH.next);refine And.intro ?_ ?_;(focus(try(first|(with_reducible rfl)|(refine congrArg (Pl.mk _) ?_;(first|rfl|(simp;done)))|rfl|(with_reducible refine congrArg (Pl.mk _) ?_)))))|(with_reducible assumption)|fail|(show(_:AV)=_;(first|(focus(apply Eq.trans;(conv=>lhs;whnf);(conv=>rhs;whnf);done))|rfl|((conv=>lhs;whnf);first|rfl|(refine congrArg (AV.int _) ?_;(exact T.num))|(refine congrArg AV.bool ?_;(exact T.num))|(refine vwc ?_;first|(exact T.num)|(first|rfl|(simp;done)))|(refine q9 ?_ ?_<;>first|(exact T.num)|(first|rfl|(simp;done)))|(first|rfl|(simp;done)))))|((with_reducible first|(show(_:Int)≤_)|(show(_:Int)<_)|(show(_:Nat)≤_)|(show(_:Nat)<_)|(show(_:Int)=_)|(show(_:Nat)=_));(exact T.num))|(first|rfl|(simp;done)));first|done|fail):p:=h
theorem ccomp_n(c:Co)(b:List UInt8)(hd:Hd)(pl:List UInt8)(i0:Nat)(hc:c.ok=true)(hb:¬(b=[]∨1500<b.length))(hp:qu b=((hd,pl),0))(hf:x9 c.cx hd=some i0)(ha:(c.at i0).act=false):LP Tryz.prog gm 82 [c.av,bv b] [] (fun _=>(cpr (qw c b),[])):=by
 have hv:=zT (G:=gm) c
 rw[hc] at hv
 have hb2:¬(b.length:Int)=0:=fun h=>hb (.inl (List.eq_nil_of_length_eq_zero (by omega)))
 have hb3:¬1500<(b.length:Int):=fun h=>hb (.inr (by omega))
 obtain⟨hi,hsn,hsm,-⟩:=xu hc hf
 have h16:=xy hc
 have hW:=yI hc
 have hcp:=k9 (G:=gm) c hc i0 (by omega)
 have hi:i0<c.cx.length:=by omega
 have hpr:LP Tryz.prog gm 115 [bv b] [] (fun _=>(.tup [hd.av,bv pl,iAV 0],[])):=by
   have h1:=jQ (G:=gm) b (by omega)
   rwa [hp] at h1
 have hfd:=wE (G:=gm) c hc hd
 have ko:=(xt hp).1
 have hact:jB c.w (c.at i0)={ (c.at i0) with act:=true,full:=c.w }:=if_neg (by rw[ha];decide)
 have hn1:(c.at i0).rf=[]:=(wU hsn ha).2.2.2.2.2.2
 have h0:¬0<(c.at i0).rf.length:=by rw[hn1];decide
 obtain⟨⟨v,f⟩,he⟩:∃y,jA c.m c.w { (c.at i0) with act:=true,full:=c.w } hd=y:=⟨_,rfl⟩
 have hC:Cho c i0 hd pl v f:=cho_of hc hp hf (by rw[hact];exact he)
 have hch:=fun(wk p:Nm) (hne:wk≠p)=>wchoose_v (G:=gm) wk p hne { (c.at i0) with act:=true,full:=c.w } c.m c.w hd (by dsimp only;rw[hn1];decide) (by dsimp only;rw[hn1];simp)
 rw[he] at hch
 have hvr:v.rf=(c.at i0).rf:=by
   have h9:=rf_cho (m:=c.m) (w:=c.w) (s:={ (c.at i0) with act:=true,full:=c.w }) (h:=hd) (by dsimp only;rw[hn1];simp)
   rw[he] at h9
   exact h9
 have hct:=fun(wk p:Nm) (hne:wk≠p)=>wcount_v (G:=gm) wk p hne v c.m c.w hd f hC.sin hC.lng hC.full hC.refr hC.ser hW.2.2 hC.frm (by rw[hvr,hn1];decide)
 rw[hvr] at hct
 have hPt:=fun(wk:Nm) (R:AV)=>wparts_c wk v R c.m c.w hd ko i0 f pl hC.frm
 have hEn:=qd (G:=gm) (qf v.dy i0 f hd pl)
 have hz:=hC.enc
 rw[comprR_g hc hb hp hf (fun q=>by rw[ha] at q;cases q.1),hC.eq]
 obtain⟨NS,hNS⟩:∃NS,csF c.m c.w hd v f=NS:=⟨_,rfl⟩
 rw[hNS] at hct ⊢
 generalize qf v.dy i0 f hd pl=PR at hPt hEn hz ⊢
 generalize zo PR=Y at hEn hz ⊢
 obtain⟨Y,ey⟩:=Y
 dsimp only at hz
 subst hz
 clear hb hp hC hsm hNS
 have hx:True:=trivial
 all_goals
   refine goW [12] Tryz.func82 rfl ?_
   conv=>whnf
   repeat'((first|(show LFreshN _ _;refine LFreshN.two fun R p=>?_;dsimp only[n0_e,n1_e,List.cons_append,List.nil_append];conv=>whnf)|(show LC _ _ 116 _ _ _;refine LC.cofL (c:=c) (hd:=hd) i0 hfd ?_ ?_;(focus((repeat first|refine goH ?_|apply LH.here|apply LH.next);refine⟨_,rfl,?_⟩;(repeat first|refine goH ?_|apply LH.here|apply LH.next);rfl));rw[hf,show fndV (some i0)=AV.tup [.int .i64 (i0:Int),.bool true] from rfl];conv=>whnf)|((with_reducible show AB (decide (0<(c.at i0).rf.length)) _ _);first|refine goT ?_ h0|refine goF ?_ h0)|((with_reducible show AB (c.at i0).act _ _);first|refine goT' ?_ ha|refine goF' ?_ ha)|(show LC _ _ 122 _ _ _;apply LC.many (fun hn=>hct wk p (by simpa using hn)))|exact Nm.b 0|(refine And.intro ?_ ?_;(focus(first|exact InL.here|exact InL.next InL.here|exact T.kx|exact T.side)))|(show LC _ _ _ _ _ _;first|refine LC.pure (hv) ?_|refine LC.mkN (hcp) [] (LFs.refl _) ?_|refine LC.pure (qd (jx b)) ?_|refine LC.pure (hpr) ?_|(apply LC.twoK (fun hne=>kb _ p hne (c.at i0) c.m c.w hd (by rw[hn1];decide));(repeat first|refine goH ?_|apply LH.here|apply LH.next);refine⟨rfl,?_⟩;(repeat first|refine goH ?_|apply LH.here|apply LH.next);refine⟨rfl,?_⟩;(repeat first|refine goH ?_|apply LH.here|apply LH.next))|refine LC.pure (jm _) ?_|refine LC.pure (xG 16 _ _ (by decide) (by decide)) ?_|(apply LC.twoK (fun hne=>hch wk p hne);(repeat first|refine goH ?_|apply LH.here|apply LH.next);refine⟨rfl,?_⟩;(repeat first|refine goH ?_|apply LH.here|apply LH.next);refine⟨rfl,?_⟩;(repeat first|refine goH ?_|apply LH.here|apply LH.next))|(apply LC.upd (hPt wk _);(repeat first|refine goH ?_|apply LH.here|apply LH.next);refine⟨rfl,?_⟩)|refine LC.pure (hEn) ?_|refine goE ?_)|(show AC _ _ _;first|(refine AC.cpA (Nat.zero_add _) rfl hi ?_))|(show AQ _ _;first|((with_reducible show AQ (qg (cpR _ _ _ _) _ _) _);refine AQ.cpS (i0:=i0) (Nat.zero_add _) hi rfl ?_))|refine T.s ?_|((first|apply goB|apply AB.dec|apply AB.gen)<;>intro h)|refine LQ.mk fun r=>?_|refine LFreshN.two fun r r2=>?_|refine LFreshN.three fun r r2 r3=>?_|(show SWpL _ _ _ _ _ _ _;first|refine gX 11 [] [0,1,2,3,4,5,6,7,8,9,10,11,12] [] ?_|refine gX 14 [2,1] [0,2,1,3,4,5] [] ?_|(refine goD tQ qc 18 [3,7] [0,1,2,3,4,5,6,7,8,9,10,11] [a] (by kernel_rfl) ?_)|(refine goD tQ qc 22 [] [0,1,2,3,4,5,6,7,8] [o,wk] (by kernel_rfl) ?_))|(show CutL _ _ _ _ _ _ _ _;first|(refine goK tQ [12] 12 (S:=Nm×Nm×Nm×Nm×Nm×Nm) [8,11,13] (fun(a,z,o,hh,wk,e)=>⟨[(2,.ptr a 0),(4,.ptr z 0),(7,.ptr o 0),(10,.ptr hh 0),(15,.ptr wk 0),(16,.ptr e 0),(17,.bool (decide (0<(c.at i0).rf.length)))],[(a,⟨62,[iAV c.m,iAV c.w,snv c.cx]⟩),(z,⟨62,[iAV 0,iAV 0,.nils]⟩),(o,⟨62,[iAV c.m,iAV c.w,.vw R 0 c.cx.length 9]⟩),(hh,⟨54,hd.cs⟩),(wk,⟨175,wrV (c.at i0) (.vw p 0 (c.at i0).rf.length 15) c.m c.w hd⟩),(e,⟨54,(c.at i0).lst.cs⟩),(R,⟨122,cpR c i0 p c.cx.length⟩),(p,⟨54,(c.at i0).rf.flatMap Hd.cs⟩)],True,0⟩) ?_ ?_;(rintro⟨a,z,o,hh,wk,e⟩ -);rotate_left)|refine CutL.go tQ [12] ?_)|(show AtC 12 _ _ _ _ _ _ _;first|(apply AtC.mk' (id:=12) (S:=Nm×Nm×Nm×Nm×Nm×Nm) ((_,_,_,_,_,_));focus(refine T.a4 ?_ ?_ ?_<;>exact ECpg13_2)))|exact T.z|fail)<;>conv=>whnf)
   all_goals(try dsimp only)
   all_goals first
     | (refine RL.cmp (c:=c) (i0:=i0) (s':=NS) (r:=r) hi rfl rfl ?_ ?_;(focus((repeat first|refine goH ?_|apply LH.here|apply LH.next);rfl));(repeat first|refine goH ?_|apply LH.here|apply LH.next);refine And.intro rfl ?_;(repeat first|refine goH ?_|apply LH.here|apply LH.next);trivial)
     | trace_state
theorem ECpg13_3{p:Prop}(h:p:=by(repeat' first|exact trivial|(refine And.intro ?_ ?_)|exact LB.nil|(with_reducible exact LB.refl)|(apply LB.cons;(repeat first|refine goH ?_|apply LH.here|apply LH.next);refine And.intro ?_ ?_;(focus(try(first|(with_reducible rfl)|(refine congrArg (Pl.mk _) ?_;(first|rfl|(simp;done)))|rfl|(with_reducible refine congrArg (Pl.mk _) ?_)))))|(with_reducible assumption)|fail|(show(_:AV)=_;(first|(focus(apply Eq.trans;(conv=>lhs;whnf);(conv=>rhs;whnf);done))|rfl|((conv=>lhs;whnf);first|rfl|(refine congrArg (AV.int _) ?_;(exact T.num))|(refine congrArg AV.bool ?_;(exact T.num))|(refine vwc ?_;first|(exact T.num)|(first|rfl|(simp;done)))|(refine q9 ?_ ?_<;>first|(exact T.num)|(first|rfl|(simp;done)))|(first|rfl|(simp;done)))))|((with_reducible first|(show(_:Int)≤_)|(show(_:Int)<_)|(show(_:Nat)≤_)|(show(_:Nat)<_)|(show(_:Int)=_)|(show(_:Nat)=_));(exact T.num))|(first|rfl|(simp;done)));first|done|fail):p:=h
theorem ccomp_32(c:Co)(b:List UInt8)(hd:Hd)(pl:List UInt8)(i0:Nat)(hc:c.ok=true)(hb:¬(b=[]∨1500<b.length))(hp:qu b=((hd,pl),0))(hf:x9 c.cx hd=some i0)(ha:(c.at i0).act=true)(hm:c.m=3)(h32:(c.at i0).rf.length=32)(ho:c.m=3→¬sg 16 (c.at i0).lst.num hd.num<1∧¬255<sg 16 (c.at i0).lst.num hd.num):LP Tryz.prog gm 82 [c.av,bv b] [] (fun _=>(cpr (qw c b),[])):=by
 have hv:=zT (G:=gm) c
 rw[hc] at hv
 have hb2:¬(b.length:Int)=0:=fun h=>hb (.inl (List.eq_nil_of_length_eq_zero (by omega)))
 have hb3:¬1500<(b.length:Int):=fun h=>hb (.inr (by omega))
 obtain⟨hi,hsn,hsm,-⟩:=xu hc hf
 have h16:=xy hc
 have hW:=yI hc
 have hcp:=k9 (G:=gm) c hc i0 (by omega)
 have hi:i0<c.cx.length:=by omega
 have hpr:LP Tryz.prog gm 115 [bv b] [] (fun _=>(.tup [hd.av,bv pl,iAV 0],[])):=by
   have h1:=jQ (G:=gm) b (by omega)
   rwa [hp] at h1
 have hfd:=wE (G:=gm) c hc hd
 have ko:=(xt hp).1
 have hact:jB c.w (c.at i0)=(c.at i0):=if_pos ha
 have h0:0<(c.at i0).rf.length:=by omega
 obtain⟨⟨v,f⟩,he⟩:∃y,jA c.m c.w (c.at i0) hd=y:=⟨_,rfl⟩
 have hC:Cho c i0 hd pl v f:=cho_of hc hp hf (by rw[hact];exact he)
 have hch:=fun(wk p:Nm) (hne:wk≠p)=>wchoose_32 (G:=gm) wk p hne (c.at i0) c.m c.w hd hW.2.2.1 hm h32
 rw[he] at hch
 have hf5:f=5∧v.rf=[]:=by
   obtain⟨x,bh,hx⟩:∃x bh,(x,bh)=chA c.w (c.at i0) hd (chb (c.at i0)):=⟨_,_,rfl⟩
   have h9:=cho_32 (hd:=hd) hW.2.2.1 hm h32 hx
   rw[he] at h9
   injection h9 with h8 h9
   exact⟨h9,by rw[h8];rfl⟩
 have hct:=fun(wk:Nm)=>wcount_n (G:=gm) wk v c.m c.w hd f hC.sin hC.lng hC.full hC.refr hC.ser hW.2.2 hC.frm hm hf5.2
 rw[←hf5.1] at hch
 have hPt:=fun(wk:Nm) (R:AV)=>wparts_c wk v R c.m c.w hd ko i0 f pl hC.frm
 have hEn:=qd (G:=gm) (qf v.dy i0 f hd pl)
 have hz:=hC.enc
 rw[comprR_g hc hb hp hf (fun q=>q.2.2.elim (ho hm).1 (ho hm).2),hC.eq]
 obtain⟨NS,hNS⟩:∃NS,csF c.m c.w hd v f=NS:=⟨_,rfl⟩
 rw[hNS] at hct ⊢
 generalize qf v.dy i0 f hd pl=PR at hPt hEn hz ⊢
 generalize zo PR=Y at hEn hz ⊢
 obtain⟨Y,ey⟩:=Y
 dsimp only at hz
 subst hz
 clear hb hp hC hsm hNS
 obtain⟨ho1,ho2⟩:=ho hm
 all_goals
   refine goW [12] Tryz.func82 rfl ?_
   conv=>whnf
   repeat'((first|(show LFreshN _ _;refine LFreshN.two fun R p=>?_;dsimp only[n0_e,n1_e,List.cons_append,List.nil_append];conv=>whnf)|(show LC _ _ 116 _ _ _;refine LC.cofL (c:=c) (hd:=hd) i0 hfd ?_ ?_;(focus((repeat first|refine goH ?_|apply LH.here|apply LH.next);refine⟨_,rfl,?_⟩;(repeat first|refine goH ?_|apply LH.here|apply LH.next);rfl));rw[hf,show fndV (some i0)=AV.tup [.int .i64 (i0:Int),.bool true] from rfl];conv=>whnf)|((with_reducible show AB (decide (0<(c.at i0).rf.length)) _ _);first|refine goT ?_ h0|refine goF ?_ h0)|((with_reducible show AB (c.at i0).act _ _);first|refine goT' ?_ ha|refine goF' ?_ ha)|(show LC _ _ 122 _ _ _;apply LC.many (fun hn=>hct wk))|exact Nm.b 0|(refine And.intro ?_ ?_;(focus(first|exact InL.here|exact InL.next InL.here|exact T.kx|exact T.side)))|(show LC _ _ _ _ _ _;first|refine LC.pure (hv) ?_|refine LC.mkN (hcp) [] (LFs.refl _) ?_|refine LC.pure (qd (jx b)) ?_|refine LC.pure (hpr) ?_|(apply LC.twoK (fun hne=>kb _ p hne (c.at i0) c.m c.w hd (by omega));(repeat first|refine goH ?_|apply LH.here|apply LH.next);refine⟨rfl,?_⟩;(repeat first|refine goH ?_|apply LH.here|apply LH.next);refine⟨rfl,?_⟩;(repeat first|refine goH ?_|apply LH.here|apply LH.next))|refine LC.pure (jm _) ?_|refine LC.pure (xG 16 _ _ (by decide) (by decide)) ?_|(apply LC.twoK (fun hne=>hch wk p hne);(repeat first|refine goH ?_|apply LH.here|apply LH.next);refine⟨rfl,?_⟩;(repeat first|refine goH ?_|apply LH.here|apply LH.next);refine⟨rfl,?_⟩;(repeat first|refine goH ?_|apply LH.here|apply LH.next))|(apply LC.upd (hPt wk _);(repeat first|refine goH ?_|apply LH.here|apply LH.next);refine⟨rfl,?_⟩)|refine LC.pure (hEn) ?_|refine goE ?_)|(show AC _ _ _;first|(refine AC.cpA (Nat.zero_add _) rfl hi ?_))|(show AQ _ _;first|((with_reducible show AQ (qg (cpR _ _ _ _) _ _) _);refine AQ.cpS (i0:=i0) (Nat.zero_add _) hi rfl ?_))|refine T.s ?_|((first|apply goB|apply AB.dec|apply AB.gen)<;>intro h)|refine LQ.mk fun r=>?_|refine LFreshN.two fun r r2=>?_|refine LFreshN.three fun r r2 r3=>?_|(show SWpL _ _ _ _ _ _ _;first|refine gX 11 [] [0,1,2,3,4,5,6,7,8,9,10,11,12] [] ?_|refine gX 14 [2,1] [0,2,1,3,4,5] [] ?_|(refine goD tQ qc 18 [3,7] [0,1,2,3,4,5,6,7,8,9,10,11] [a] (by kernel_rfl) ?_)|(refine goD tQ qc 22 [] [0,1,2,3,4,5,6,7,8] [o,wk] (by kernel_rfl) ?_))|(show CutL _ _ _ _ _ _ _ _;first|(refine goK tQ [12] 12 (S:=Nm×Nm×Nm×Nm×Nm×Nm) [8,11,13] (fun(a,z,o,hh,wk,e)=>⟨[(2,.ptr a 0),(4,.ptr z 0),(7,.ptr o 0),(10,.ptr hh 0),(15,.ptr wk 0),(16,.ptr e 0),(17,.bool (decide (0<(c.at i0).rf.length)))],[(a,⟨62,[iAV c.m,iAV c.w,snv c.cx]⟩),(z,⟨62,[iAV 0,iAV 0,.nils]⟩),(o,⟨62,[iAV c.m,iAV c.w,.vw R 0 c.cx.length 9]⟩),(hh,⟨54,hd.cs⟩),(wk,⟨175,wrV (c.at i0) (.vw p 0 (c.at i0).rf.length 15) c.m c.w hd⟩),(e,⟨54,(c.at i0).lst.cs⟩),(R,⟨122,cpR c i0 p c.cx.length⟩),(p,⟨54,(c.at i0).rf.flatMap Hd.cs⟩)],True,0⟩) ?_ ?_;(rintro⟨a,z,o,hh,wk,e⟩ -);rotate_left)|refine CutL.go tQ [12] ?_)|(show AtC 12 _ _ _ _ _ _ _;first|(apply AtC.mk' (id:=12) (S:=Nm×Nm×Nm×Nm×Nm×Nm) ((_,_,_,_,_,_));focus(refine T.a4 ?_ ?_ ?_<;>exact ECpg13_3)))|exact T.z|fail)<;>conv=>whnf)
   all_goals(try dsimp only)
   all_goals first
     | (refine RL.cmp (c:=c) (i0:=i0) (s':=NS) (r:=r) hi rfl rfl ?_ ?_;(focus((repeat first|refine goH ?_|apply LH.here|apply LH.next);rfl));(repeat first|refine goH ?_|apply LH.here|apply LH.next);refine And.intro rfl ?_;(repeat first|refine goH ?_|apply LH.here|apply LH.next);trivial)
     | trace_state
theorem ccomp_raw(c:Co)(b:List UInt8)(hd:Hd)(pl:List UInt8)(i0:Nat)(hc:c.ok=true)(hb:¬(b=[]∨1500<b.length))(hp:qu b=((hd,pl),0))(hf:x9 c.cx hd=some i0)(ha:(c.at i0).act=true)(hm:c.m=3)(hcr:qw c b=((c,(zo (jx b)).1),0))(ho:sg 16 (c.at i0).lst.num hd.num<1∨¬sg 16 (c.at i0).lst.num hd.num<1∧255<sg 16 (c.at i0).lst.num hd.num):LP Tryz.prog gm 82 [c.av,bv b] [] (fun _=>(cpr (qw c b),[])):=by
 have hv:=zT (G:=gm) c
 rw[hc] at hv
 have hb2:¬(b.length:Int)=0:=fun h=>hb (.inl (List.eq_nil_of_length_eq_zero (by omega)))
 have hb3:¬1500<(b.length:Int):=fun h=>hb (.inr (by omega))
 obtain⟨hi,hsn,hsm,-⟩:=xu hc hf
 have h16:=xy hc
 have hW:=yI hc
 have hcp:=k9 (G:=gm) c hc i0 (by omega)
 have hi:i0<c.cx.length:=by omega
 have hpr:LP Tryz.prog gm 115 [bv b] [] (fun _=>(.tup [hd.av,bv pl,iAV 0],[])):=by
   have h1:=jQ (G:=gm) b (by omega)
   rwa [hp] at h1
 have hfd:=wE (G:=gm) c hc hd
 have ko:=(xt hp).1
 have hact:jB c.w (c.at i0)=(c.at i0):=if_pos ha
 have hn0:=kQ hsn ha
 have hn1:=sn_rf hsn hW.2.2.2
 have h0:0<(c.at i0).rf.length:=hn0
 rw[show qw c b=((c,(zo (jx b)).1),0) from hcr]
 rcases ho with ho1|⟨ho1,ho2⟩
 all_goals
   refine goW [] Tryz.func82 rfl ?_
   conv=>whnf
   repeat'((first|(show LFreshN _ _;refine LFreshN.two fun R p=>?_;dsimp only[n0_e,n1_e,List.cons_append,List.nil_append];conv=>whnf)|(show LC _ _ 116 _ _ _;refine LC.cofL (c:=c) (hd:=hd) i0 hfd ?_ ?_;(focus((repeat first|refine goH ?_|apply LH.here|apply LH.next);refine⟨_,rfl,?_⟩;(repeat first|refine goH ?_|apply LH.here|apply LH.next);rfl));rw[hf,show fndV (some i0)=AV.tup [.int .i64 (i0:Int),.bool true] from rfl];conv=>whnf)|((with_reducible show AB (decide (0<(c.at i0).rf.length)) _ _);first|refine goT ?_ h0|refine goF ?_ h0)|((with_reducible show AB (c.at i0).act _ _);first|refine goT' ?_ ha|refine goF' ?_ ha)|exact Nm.b 0|(show LC _ _ _ _ _ _;first|refine LC.pure (hv) ?_|refine LC.mkN (hcp) [] (LFs.refl _) ?_|refine LC.pure (qd (jx b)) ?_|refine LC.pure (hpr) ?_|(apply LC.twoK (fun hne=>kb _ p hne (c.at i0) c.m c.w hd (by omega));(repeat first|refine goH ?_|apply LH.here|apply LH.next);refine⟨rfl,?_⟩;(repeat first|refine goH ?_|apply LH.here|apply LH.next);refine⟨rfl,?_⟩;(repeat first|refine goH ?_|apply LH.here|apply LH.next))|refine LC.pure (jm _) ?_|refine LC.pure (xG 16 _ _ (by decide) (by decide)) ?_|refine goE ?_)|(show AC _ _ _;first|(refine AC.cpA (Nat.zero_add _) rfl hi ?_))|refine T.s ?_|((first|apply goB|apply AB.dec|apply AB.gen)<;>intro h)|refine LQ.mk fun r=>?_|refine LFreshN.two fun r r2=>?_|refine LFreshN.three fun r r2 r3=>?_|(show SWpL _ _ _ _ _ _ _;first|refine gX 11 [] [0,1,2,3,4,5,6,7,8,9,10,11,12] [] ?_|refine gX 14 [2,1] [0,2,1,3,4,5] [] ?_|refine gX 18 [3,7] [0,1,2,3,4,5,6,7,8,9,10,11] [] ?_|refine gX 22 [] [0,1,2,3,4,5,6,7,8] [] ?_)|exact T.z|fail)<;>conv=>whnf)
   all_goals(try dsimp only)
   all_goals first
     | (refine RL.cop (c:=c) i0 (x:=(zo (jx b)).1) (e:=0) ?_;(repeat first|refine goH ?_|apply LH.here|apply LH.next);refine⟨_,rfl,?_⟩;(repeat first|refine goH ?_|apply LH.here|apply LH.next);rfl)
     | trace_state
theorem compress_c(c:Co)(b:List UInt8):LP Tryz.prog gm 82 [c.av,bv b] [] (fun _=>(cpr (qw c b),[])):=by
 cases hc:c.ok with
 | false=>exact ccomp_inv c b hc
 | true =>
   by_cases hb:b=[]∨1500<b.length
   · exact ccomp_size c b hc hb
   · by_cases hp:(qu b).2=0
     · cases hf:x9 c.cx (qu b).1.1 with
       | none=>exact ccomp_none c b hc hb hp hf
       | some i =>
         have he:qu b=(((qu b).1.1,(qu b).1.2),0):=by rw[←hp]
         by_cases ha:(c.at i).act=true
         · by_cases ho:c.m=3∧(sg 16 (c.at i).lst.num (qu b).1.1.num<1∨255<sg 16 (c.at i).lst.num (qu b).1.1.num)
           · refine ccomp_raw c b _ _ i hc hb he hf ha ho.1 ?_ ?_
             · unfold qw
               rw[if_pos hc,if_neg hb,if_pos hp,hf]
               dsimp only
               rw[if_pos ⟨ha,ho⟩]
             · by_cases h1:sg 16 (c.at i).lst.num (qu b).1.1.num<1
               · exact .inl h1
               · exact .inr ⟨h1,ho.2.resolve_left h1⟩
           · have ho2:c.m=3→¬sg 16 (c.at i).lst.num (qu b).1.1.num<1∧¬255<sg 16 (c.at i).lst.num (qu b).1.1.num:=fun hm=>⟨fun h=>ho ⟨hm,.inl h⟩,fun h=>ho ⟨hm,.inr h⟩⟩
             by_cases h32:c.m=3∧(c.at i).rf.length=32
             · exact ccomp_32 c b _ _ i hc hb he hf ha h32.1 h32.2 ho2
             · exact ccomp_v c b _ _ i hc hb he hf ha h32 ho2
         · exact ccomp_n c b _ _ i hc hb he hf (by simpa using ha)
     · exact ccomp_perr c b hc hb hp
open Go.RowKit
theorem AQ.fset{α:Type}{f:α→List AV}{n:Nat}(hf:∀x,(f x).length=n){l:List α}{o:Nat}{xs:List AV}{K:List AV→Prop}(i j:Nat)(d y:α)(h:i<l.length)(ho:o=i*n+j)(hj:j+xs.length≤n)(hy:f y=qg (f (l.getD i d)) j xs)(k:K ((l.set i y).flatMap f)):AQ (qg (l.flatMap f) o xs) K:=⟨by
 subst ho
 rw[yX hf l i j d y xs h hj hy]
 exact k⟩
def Co.rest(c:Co):Co:=c.set 0 { c.at 0 with full:=0,refr:=0 }
end Go.Proofs.YtndpmpnmkpaklaaGreatDoor
