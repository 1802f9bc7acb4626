/-
  Contracts of the functions that the laws reach.
-/
import Derived.ProofKit
import Derived.OpenShut
import Derived.LaidMore
import Derived.Stop.Joined
import Derived.WideKeyElems2
import Derived.Test.YtndpmpnmkpaklaaGreatDoorHr38
set_option maxHeartbeats 8000000
set_option linter.all false
namespace Go.Proofs.YtndpmpnmkpaklaaGreatDoor
open Go.RowKit
theorem rel_inj{ps:List (List UInt8)}{x:Hk}{g:Gh}(h:js ps x g)(hl:ps.length≤200){n n':Nat}(e:g.en n=g.en n')(h0:g.en n≠0)(hne:n≠n'):(hdP ps n).num≠(hdP ps n').num:=by
 have key:∀a b:Nat,g.en a=g.en b→g.en a≠0→a<b→(hdP ps a).num≠(hdP ps b).num:=fun a b e h0 hlt hh=>by
   have h1:=h.mono a b hlt e h0
   obtain⟨a1,a2,a3,a4⟩:=h.en a h0
   obtain⟨b1,b2,b3,b4⟩:=h.en b (by rw[←e];exact h0)
   have h2:=h.nx
   rw[←e] at b3
   rw[a3,b3] at hh
   omega
 rcases Nat.lt_or_gt_of_ne hne with k|k
 · exact key n n' e h0 k
 · exact fun hh=>key n' n e.symm (by rw[←e];exact h0) k hh.symm
theorem rel_ctx{ps:List (List UInt8)}{x:Hk}{g:Gh}(h:js ps x g){i:Nat}{c':Co}{s':Sn}{rI:List Nat}{back':List (List UInt8)}(hc:c'.ok=true)(hm:c'.m=3)(hat:∀k,c'.at k=if k=i then s' else x.c.at k)(ha:s'.act=true)
   (h1:CtI ps s' i g.en rI) (h2:∀r,FinC g.C0 x.way g.gl i r→CandP ps s' i g.en rI r) (hb:∀b∈back',b∈x.back):js ps { x with c:=c',back:=back' } { g with ri:=fun k=>if k=i then rI else g.ri k } :=
 { h with
   c:=hc
   m:=hm
   cnd:=fun j hj r hr=>by
     show CandP ps (c'.at j) j g.en (if j=i then rI else g.ri j) r
     rw[hat]
     by_cases e:j=i
     · subst e;rw[if_pos rfl,if_pos rfl];exact h2 r hr
     · rw[if_neg e,if_neg e];exact h.cnd j hj r hr
   ctx:=fun j hj hact=>by
     show CtI ps (c'.at j) j g.en (if j=i then rI else g.ri j)
     have hact:(c'.at j).act=true:=hact
     rw[hat] at hact ⊢
     by_cases e:j=i
     · subst e;rw[if_pos rfl,if_pos rfl];exact h1
     · rw[if_neg e] at hact ⊢;rw[if_neg e];exact h.ctx j hj hact
   off:=fun j hj hact=>by
     show(if j=i then rI else g.ri j)=[]∧_
     have hact:(c'.at j).act=false:=hact
     rw[hat] at hact
     by_cases e:j=i
     · rw[if_pos e,ha] at hact;exact Bool.noConfusion hact
     · rw[if_neg e] at hact ⊢;exact h.off j hj hact
   bk:=fun b hbb=>h.bk b (hb b hbb) }
theorem yY{l:List Nat}(h:l.Pairwise (·<·)){p q:Nat}(hp:p<l.length)(hq:q<l.length):p<q↔l[p]<l[q]:=by
 have h1:=List.pairwise_iff_getElem.1 h
 constructor
 · intro k;exact h1 p q hp hq k
 · intro k
   rcases Nat.lt_trichotomy p q with e|e|e
   · exact e
   · subst e;omega
   · have:=h1 q p hq hp e;omega
theorem drop_max{l:List Nat}{n p s t:Nat}(hs:s≤p+t)(h:n∈(l.drop p).drop t):n∈l.drop s:=by
 rw[List.drop_drop] at h
 obtain⟨k,hk⟩:∃k,p+t=s+k:=⟨p+t-s,by omega⟩
 rw[hk,←List.drop_drop] at h
 exact List.mem_of_mem_drop h
theorem rel_bak{ps:List (List UInt8)}{x:Hk}{g:Gh}(h:js ps x g)(hl:ps.length≤200):∃g',js ps (yJ x) g':=by
 cases hbk:x.back with
 | nil=>exact⟨g,by unfold yJ;rw[hbk];exact h⟩
 | cons b r =>
   have e:yJ x={ x with c:=bakC x.c b,back:=r }:=by unfold yJ;rw[hbk]
   rw[e]
   have hsub:∀b'∈r,b'∈x.back:=fun b' hb'=>by rw[hbk];exact List.mem_cons_of_mem _ hb'
   obtain⟨i,n,hi,hen,hb,a,dy,hdc,hna⟩:=h.bk b (by rw[hbk];exact List.mem_cons_self)
   have hen0:g.en n≠0:=by omega
   have hnum:=(h.en n hen0).2.2.1
   obtain⟨N,hN⟩:∃N,(hdP ps n).num=N:=⟨_,rfl⟩
   rw[hN] at hnum hb
   have hNr:0≤N∧N≤65535:=by omega
   have hdec:decF b=(⟨(i:Nat),0,N⟩,0):=by rw[hb];exact ack_dec i hi N hNr
   have hok:yF ⟨(i:Nat),0,N⟩=true:=fbOk_e.2 ⟨⟨by show(0:Int)≤i;omega,by show(i:Int)<16;omega⟩,⟨by show(0:Int)≤0;decide,by show(0:Int)≤2;decide⟩,hNr⟩
   have hact:(x.c.at i).act=true:=by
     cases ha:(x.c.at i).act with
     | true=>rfl
     | false=>exact absurd hen ((h.off i hi ha).2 n)
   have happ:yL x.c ⟨(i:Nat),0,N⟩=(x.c.set i (wK 3 N (x.c.at i)),0):=by
     unfold yL
     rw[if_pos ⟨h.c,hok⟩,if_neg (by rw[h.m];decide)]
     show(if(x.c.at ((i:Int)).toNat).act=true then _ else _)=_
     rw[Int.toNat_natCast,if_pos hact,h.m]
     rfl
   have hbc:bakC x.c b=x.c.set i (wK 3 N (x.c.at i)):=by
     unfold bakC
     rw[hdec,happ,if_pos ⟨rfl,rfl⟩]
   rw[hbc]
   have hc':=app_ok h.c (f:=⟨(i:Nat),0,N⟩) (by rw[happ])
   rw[happ] at hc'
   have hcl:=xy h.c
   have hat:∀k,(x.c.set i (wK 3 N (x.c.at i))).at k=if k=i then wK 3 N (x.c.at i) else x.c.at k:=fun k=>co_at hcl hi
   have hC:=h.ctx i hi hact
   have hrf:=hC.rf
   obtain⟨l,hl1,hl2⟩:=hC.lst
   have hcand:∀r,FinC g.C0 x.way g.gl i r→∃n' dy',r=some (n',dy')∧n≤n':=fun r hr=>by
     rcases FinC.of hr with k|⟨m,hm,dy',k⟩
     · exact⟨a,dy,k.trans hdc,hna⟩
     · exact⟨m.1,dy',k,by have:=h.dlt i a dy hdc m hm;omega⟩
   by_cases hmem:n∈g.ri i
   · obtain⟨p,hp,hpe⟩:=List.getElem_of_mem hmem
     have hlr:(x.c.at i).rf.length=(g.ri i).length:=by rw[hrf,List.length_map]
     have hgd:∀q,(hq:q<(g.ri i).length)→(x.c.at i).rf.getD q Hd.z=hdP ps ((g.ri i)[q]):=fun q hq=>by
       rw[hrf,List.getD_eq_getElem?_getD,List.getElem?_map,List.getElem?_eq_getElem hq];rfl
     have hK:xa (x.c.at i).rf N (x.c.at i).rf.length=p+1:=by
       refine lastK_at (by omega) (by rw[hgd p hp,hpe,hN]) (fun q hq hqp=>?_) (by omega) (Nat.le_refl _)
       rw[hgd q (by omega),←hN]
       have hqm:(g.ri i)[q]'(by omega)∈g.ri i:=List.getElem_mem _
       refine rel_inj h hl (by rw[hC.mem _ hqm,hen]) (by rw[hC.mem _ hqm];omega) fun hh=>hqp ?_
       rw[←hpe] at hh
       rcases Nat.lt_trichotomy q p with k|k|k
       · have:=(yY hC.so (by omega) hp).1 k;omega
       · exact k
       · have:=(yY hC.so hp (by omega)).1 k;omega
     have hs':wK 3 N (x.c.at i)=jC 3 (x.c.at i) p:=by
       unfold wK
       rw[hK,if_neg (by omega)]
       rfl
     have hsok:=appS_ok (m:=x.c.m) (w:=x.c.w) ⟨(i:Nat),0,N⟩ ((ya.1 h.c).2.2.1 i hi) hact (yI h.c).2.2.1
     have hsok2:appS x.c.m x.c.w ⟨(i:Nat),0,N⟩ (x.c.at i)=wK 3 N (x.c.at i):=by rw[h.m];rfl
     rw[hsok2] at hsok
     obtain⟨-,o2,o3,o4,o5⟩:=hsok
     have hser0:(jC 3 (x.c.at i) p).ser=if 0<(x.c.at i).ser-p then(x.c.at i).ser-p else 0:=rfl
     have hfu:(jC 3 (x.c.at i) p).full=if(x.c.at i).ser≤p then 0 else(x.c.at i).full:=rfl
     have hre:(jC 3 (x.c.at i) p).refr=if(x.c.at i).ser≤p then 0 else(x.c.at i).refr:=rfl
     rw[hs'] at o2 o3 o4 o5 hat hc' ⊢
     refine⟨_,rel_ctx h (i:=i) (rI:=(g.ri i).drop p) hc'.1 (hc'.2.1.trans h.m) hat o2 ?_ ?_ hsub⟩
     · refine⟨?_,hC.so.sublist (List.drop_sublist _ _),fun k hk=>hC.mem k (List.mem_of_mem_drop hk),⟨l,?_,hl2⟩,?_⟩
       · show(x.c.at i).rf.drop p=_
         rw[hrf,List.map_drop]
       · rw[List.getLast?_drop,if_neg (by omega)];exact hl1
       · rw[hser0,hfu,hre]
         intro k1 k2
         split
         · rename_i k3
           rw[if_neg (by omega)] at k1 k2
           have:=hC.ser k1 k2
           omega
         · exact Int.le_refl _
     · intro r hr
       obtain⟨n',dy',hre',hn'⟩:=hcand r hr
       have hcd:=h.cnd i hi r hr
       subst hre'
       obtain⟨c1,c2,c3,c4,c5,c6⟩:=hcd
       have hin:n'∈g.ri i:=by
         rcases c4 with k|k
         · exact k
         · have:=k n hmem;omega
       have hdr:n'∈(g.ri i).drop p:=by
         obtain⟨q,hq,hqe⟩:=List.getElem_of_mem hin
         have hpq:p≤q:=by
           rcases Nat.lt_or_ge q p with k|k
           · have:=(yY hC.so hq hp).1 k;omega
           · exact k
         rw[List.mem_iff_getElem]
         exact⟨q-p,by rw[List.length_drop];omega,by rw[List.getElem_drop];rw[←hqe];congr 1;omega⟩
       refine⟨c1,o2,z8 c3 (zQ o4),.inl hdr,fun k=>?_,fun _ _=>hdr⟩
       rw[o3]
       refine c5 (drop_max ?_ k)
       rw[hser0]
       split<;>omega
   · have hno:xa (x.c.at i).rf N (x.c.at i).rf.length=0:=lastK_no (Nat.le_refl _) fun r hr=>by
       rw[hrf] at hr
       obtain⟨k,hk,rfl⟩:=List.mem_map.1 hr
       rw[←hN]
       exact rel_inj h hl (by rw[hC.mem k hk,hen]) (by rw[hC.mem k hk];omega) fun hh=>hmem (hh▸hk)
     have hs':wK 3 N (x.c.at i)=x.c.at i:=by unfold wK;rw[if_pos hno]
     rw[hs'] at hat hc' ⊢
     exact⟨_,rel_ctx h (i:=i) (rI:=g.ri i) hc'.1 (hc'.2.1.trans h.m) hat hact hC (fun r hr=>h.cnd i hi r hr) hsub⟩
open Go.RowKit
theorem sg_step{a b:Int}(ha:0≤a∧a≤65535)(hb:0≤b∧b≤65535)(h:¬(sg 16 a b<1∨255<sg 16 a b)):∃s:Nat,1≤s∧s≤255∧b=(a+s)%65536:=by
 have e1:(2:Int)^((16:Int)-1).toNat=32768:=by decide
 have e2:(2:Int)^((16:Int)).toNat=65536:=by decide
 have e3:lw 16 (b-a)=(b-a)%65536:=by unfold lw;rw[e2]
 unfold sg at h
 rw[e1,e2,e3] at h
 split at h
 · omega
 · exact⟨((b-a)%65536).toNat,by omega,by omega,by omega⟩
theorem raw_ok{ps:List (List UInt8)}{n:Nat}(hs:qY (ps.getD n [])):RawOk ps n (210::ps.getD n []):=fun d hd hb=>raw_dec hd hs.1 hs.2 hb
theorem rel_raw{ps:List (List UInt8)}{x:Hk}{g:Gh}(h:js ps x g)(hlt:x.nx<ps.length)(hs:qY (ps.getD x.nx [])):js ps { x with way:=x.way++[(x.nx,210::ps.getD x.nx [])],nx:=x.nx+1 } { g with gl:=g.gl++[none] } :=
 { h with
   wok:=h.wok.app ⟨raw_ok hs,trivial⟩
   cnd:=fun j hj r hr=>h.cnd j hj r (FinC.app h.wok hr)
   en:=fun n hn=>by
     obtain⟨a1,a2⟩:=h.en n hn
     exact⟨by show n<x.nx+1;omega,a2⟩
   nx:=hlt
   wln:=fun m hm=>by
     have hm:m∈x.way++[(x.nx,210::ps.getD x.nx [])]:=hm
     rw[List.mem_append,List.mem_singleton] at hm
     rcases hm with hm|rfl
     · exact h.wln m hm
     · have:=hs.2
       show(210::ps.getD x.nx []).length≤3000
       rw[List.length_cons];omega
   wlt:=fun m hm=>by
     have hm:m∈x.way++[(x.nx,210::ps.getD x.nx [])]:=hm
     rw[List.mem_append,List.mem_singleton] at hm
     show m.1<x.nx+1
     rcases hm with hm|rfl
     · have:=h.wlt m hm;omega
     · exact Nat.lt_succ_self _
   wso:=by
     show(x.way++[(x.nx,210::ps.getD x.nx [])]).Pairwise _
     rw[List.pairwise_append]
     refine⟨h.wso,List.pairwise_singleton _ _,fun a ha b hb=>?_⟩
     rw[List.mem_singleton] at hb
     subst hb
     exact h.wlt a ha
   dlt:=fun j n dy hd m hm=>by
     have hm:m∈x.way++[(x.nx,210::ps.getD x.nx [])]:=hm
     rw[List.mem_append,List.mem_singleton] at hm
     rcases hm with hm|rfl
     · exact h.dlt j n dy hd m hm
     · have hd:g.dc j=some (n,dy):=hd
       exact h.dnx j n dy hd
   dnx:=fun j n dy hd=>Nat.lt_succ_of_lt (h.dnx j n dy hd) }
theorem zK{l:List Nat}{a n:Nat}:n∈l++[a]↔n∈l∨n=a:=by rw[List.mem_append,List.mem_singleton]
theorem csF3(w:Int)(h:Hd)(x:Sn)(f:Int):(csF 3 w h x f).act=x.act∧(csF 3 w h x f).full=x.full∧(csF 3 w h x f).refr=x.refr∧(csF 3 w h x f).ser=x.ser∧(csF 3 w h x f).dy=x.dy∧(csF 3 w h x f).rf=x.rf++[h]:=⟨rfl,rfl,rfl,rfl,rfl,rfl⟩
theorem rel_cmp{ps:List (List UInt8)}{x:Hk}{g:Gh}(h:js ps x g)(hlt:x.nx<ps.length){hd:Hd}{pl:List UInt8}{i:Nat}(hp:qu (ps.getD x.nx [])=((hd,pl),0))(hf:x9 x.c.cx hd=some i)
   (hst:¬((x.c.at i).act=true∧x.c.m=3∧(sg 16 (x.c.at i).lst.num hd.num<1∨255<sg 16 (x.c.at i).lst.num hd.num))) (hyl:(zF x.c i hd pl).2.length≤3000) :
   ∃g',js ps { x with c:=(zF x.c i hd pl).1,way:=x.way++[(x.nx,(zF x.c i hd pl).2)],nx:=x.nx+1 } g':=by
 obtain⟨ho,hbld,-,-,hpl⟩:=xt hp
 obtain⟨hi,hs,hh,hoth⟩:=xu h.c hf
 obtain⟨w1,w2,w3,w4⟩:=yI h.c
 have hcl:=xy h.c
 have hhd:hdP ps x.nx=hd:=by unfold hdP;rw[hp]
 have hdc:=fun(d:De) (r:Rc) (h1:d.m=3) (h2:d.ok=true) (h3:d.cx.getD i Rc.z=r)=>dec_comp (r:=r) h.c h1 h2 hp hf h3
 have h3:=ctx_three (s:=x.c.at i) (h:=hd) w3
 have hmd:=ks w3 hs hh
 have hlo:=ctx_lo (m:=x.c.m) (s:=x.c.at i) (h:=hd) w3
 have hC:(zF x.c i hd pl).1=x.c.set i (csF x.c.m x.c.w hd (zf x.c.m x.c.w (x.c.at i) hd).1 (zf x.c.m x.c.w (x.c.at i) hd).2):=rfl
 have hcok:=comp_ok (pl:=pl) h.c ho hf
 rw[hC] at hcok ⊢
 generalize (zF x.c i hd pl).2=y at *
 rw[h.m] at hdc hmd hlo hcok ⊢
 have hs3:(x.c.at i).ok 3 x.c.w=true:=by rw[←h.m];exact hs
 obtain⟨f,hff⟩:∃f,(zf 3 x.c.w (x.c.at i) hd).2=f:=⟨_,rfl⟩
 obtain⟨z,hzz⟩:∃z,(zf 3 x.c.w (x.c.at i) hd).1=z:=⟨_,rfl⟩
 rw[hff,hzz] at hdc hmd hlo hcok ⊢
 rw[hzz] at h3
 obtain⟨hmid,hf15,hf5,hf4,hm3⟩:=hmd
 obtain⟨t1,t2,t3,t4⟩:=h3
 obtain⟨-,ha',hfs⟩:=csF_ok (m:=3) (f:=f) w3 w4 hmid ho hf5.1 hf4.1 hm3
 obtain⟨-,q2,q3,q4,q5,q6⟩:=csF3 x.c.w hd z f
 generalize hs':csF 3 x.c.w hd z f=s' at *
 have hat:∀k,(x.c.set i s').at k=if k=i then s' else x.c.at k:=fun k=>co_at hcl hi
 -- small formats
 have hsm:¬0<z.full→¬0<z.refr→z=x.c.at i∧(x.c.at i).act=true:=fun k1 k2=>by
   have k5:f≠5:=fun k=>k1 (hf5.1 k)
   have k4:f≠4:=fun k=>k2 (hf4.1 k)
   obtain⟨l1,-,l3,-⟩:=hlo (by omega)
   exact⟨l3,l1⟩
 -- the references ahead of the packet
 obtain⟨r0,hr0⟩:∃r0,(if z.rf=[] then([]:List Nat) else g.ri i)=r0:=⟨_,rfl⟩
 have hzr:z.rf=r0.map (hdP ps):=by
   rw[←hr0]
   split
   · assumption
   · rename_i k
     have hz:z.rf=(x.c.at i).rf:=by
       rcases t4 with k1|⟨-,k1|k1⟩
       · exact k1.2.2
       · exact k1
       · exact absurd k1 k
     cases ha:(x.c.at i).act with
     | false =>
       rw[hz,(wU hs ha).2.2.2.2.2.2] at k
       exact absurd rfl k
     | true=>rw[hz];exact(h.ctx i hi ha).rf
 have hrsub:∀k∈r0,k∈g.ri i:=fun k hk=>by
   rw[←hr0] at hk
   split at hk
   · cases hk
   · exact hk
 have hren:∀k∈r0,g.en k=i+1:=fun k hk=>by
   have hk:=hrsub k hk
   cases ha:(x.c.at i).act with
   | false=>rw[(h.off i hi ha).1] at hk;cases hk
   | true=>exact(h.ctx i hi ha).mem k hk
 have hrlt:∀k∈r0,k<x.nx:=fun k hk=>(h.en k (by rw[hren k hk];omega)).1
 have hrso:r0.Pairwise (·<·):=by
   rw[←hr0]
   split
   · exact List.Pairwise.nil
   · cases ha:(x.c.at i).act with
     | false=>rw[(h.off i hi ha).1];exact List.Pairwise.nil
     | true=>exact(h.ctx i hi ha).so
 have hrfull:(x.c.at i).act=true→z.rf=(x.c.at i).rf→r0=g.ri i:=fun ha hz=>by
   rw[←hr0,if_neg]
   rw[hz]
   exact fun hh=>by have:=kQ hs ha;rw[hh] at this;exact absurd this (by decide)
 -- the ghost's new parts
 obtain⟨T,B,hTB1,hTB2,hTB3⟩:∃(T:Nat) (B:Nat→Int),(∀k,k≠i+1→B k=g.ba k)∧(((x.c.at i).act=true→B (i+1)=g.ba (i+1))∧hd.num=(B (i+1)+T)%65536∧T≤255*x.nx)∧∀n,g.en n=i+1→g.tt n<T:=by
   have hnr:=num_rng ho
   cases ha:(x.c.at i).act with
   | false =>
     refine⟨0,fun k=>if k=i+1 then hd.num else g.ba k,fun k hk=>if_neg hk,⟨fun k=>Bool.noConfusion k,?_,Nat.zero_le _⟩,fun n hn=>absurd hn ((h.off i hi ha).2 n)⟩
     show hd.num=((if i+1=i+1 then hd.num else g.ba (i+1))+((0:Nat):Int))%65536
     rw[if_pos rfl];omega
   | true =>
     have hCi:=h.ctx i hi ha
     obtain⟨l,hl1,hl2⟩:=hCi.lst
     have hlm:=List.mem_of_getLast? hl1
     have hle:=hCi.mem l hlm
     have hlst:(x.c.at i).lst=hdP ps l:=by
       unfold Sn.lst
       rw[hCi.rf,List.length_map,List.getD_eq_getElem?_getD,List.getElem?_map,←List.getLast?_eq_getElem?,hl1]
       rfl
     obtain⟨e1,e2,e3,e4⟩:=h.en l (by omega)
     have hsg:¬(sg 16 (x.c.at i).lst.num hd.num<1∨255<sg 16 (x.c.at i).lst.num hd.num):=fun k=>hst ⟨ha,h.m,k⟩
     rw[hlst] at hsg
     obtain⟨s,s1,s2,s3⟩:=sg_step (by omega) hnr hsg
     refine⟨g.tt l+s,g.ba,fun _ _=>rfl,⟨fun _=>rfl,?_,by omega⟩,fun n hn=>?_⟩
     · rw[s3,e3,hle];omega
     · have hnl:=hl2 n hn
       rcases Nat.lt_or_ge n l with k|k
       · have:=h.mono n l k (by rw[hn,hle]) (by omega);omega
       · obtain rfl:n=l:=by omega
         omega
 obtain⟨hB1,hnum,hT⟩:=hTB2
 have hcn:=h.cnd i hi
 -- the new message
 have hmsg:∀r,FinC g.C0 x.way g.gl i r→MsgOk ps x.nx y i z.dy r:=fun r hr d hdo hdm hdr hb=>by
   have hcr:=hcn r hr
   have hrc:rcP ps (some (x.nx,z.dy))=⟨2,hd,z.dy,0⟩:=by show(⟨2,hdP ps x.nx,z.dy,0⟩:Rc)=_;rw[hhd]
   rw[hrc,hhd]
   refine hdc d (rcP ps r) hdm hdo hdr (fun k5=>?_) (fun k3=>?_) hb
   · have nf:¬0<z.full:=fun k=>k5 (hf5.2 k)
     match r,hcr with
     | none,hcr =>
       cases ha:(x.c.at i).act with
       | false=>exact absurd (t2 ha) nf
       | true=>exact absurd (t1 (hcr ha)) nf
     | some (n,dy),hcr=>exact⟨rfl,z8 hcr.2.2.1 (hh hcr.2.1)⟩
   · have nf:¬0<z.full:=fun k=>by have:=hf5.2 k;omega
     have nr:¬0<z.refr:=fun k=>by have:=hf4.2 k;omega
     obtain⟨ez,ea⟩:=hsm nf nr
     rw[ez] at nf nr
     match r,hcr with
     | none,hcr=>exact absurd (hcr ea) nf
     | some (n,dy),hcr =>
       have hin:=hcr.2.2.2.2.2 nf nr
       have hCi:=h.ctx i hi ea
       refine⟨?_,hcr.2.2.2.2.1 ?_⟩
       · rw[hCi.rf];exact List.mem_map_of_mem hin
       · rw[show(x.c.at i).ser.toNat=0 by have:=hCi.ser nf nr;omega]
         exact hin
 refine⟨⟨g.gl++[some (i,z.dy)],g.dc,fun n=>if n=x.nx then i+1 else g.en n,fun n=>if n=x.nx then T else g.tt n,B,fun k=>if k=i then r0++[x.nx] else g.ri k⟩,?_⟩
 have hen0:∀n,x.nx≤n→g.en n=0:=fun n hn=>by
   refine Decidable.byContradiction fun k=>?_
   have:=(h.en n k).1;omega
 have henN:∀{n j},g.en n=j+1→(if n=x.nx then i+1 else g.en n)=j+1:=fun {n j} hn=>by
   rw[if_neg]
   · exact hn
   · intro e;rw[hen0 n (by omega)] at hn;omega
 exact { h with
   c:=hcok
   m:=h.m
   wok:=h.wok.app ⟨⟨hi,hmsg⟩,trivial⟩
   cnd:=fun j hj r hr=>by
     have hr:=FinC.app h.wok hr
     show CandP ps ((x.c.set i s').at j) j (fun n=>if n=x.nx then i+1 else g.en n) (if j=i then r0++[x.nx] else g.ri j) r
     rw[hat]
     rcases hr with hr|⟨rfl,rfl⟩
     · have hcr:=h.cnd j hj r hr
       by_cases e:j=i
       · subst e
         rw[if_pos rfl,if_pos rfl]
         match r,hcr with
         | none,hcr =>
           intro _
           rw[q2]
           cases ha:(x.c.at j).act with
           | false=>exact t2 ha
           | true=>exact t1 (hcr ha)
         | some (n,dy),hcr =>
           obtain⟨c1,c2,c3,c4,c5,c6⟩:=hcr
           have hnlt:=(h.en n (by omega)).1
           refine⟨henN c1,ha',z8 c3 (z8 (hh c2) (zQ hfs)),?_,?_,?_⟩
           · rcases c4 with k|k
             · by_cases kz:z.rf=[]
               · refine .inr fun k' hk'=>?_
                 rw[←hr0,if_pos kz] at hk'
                 simp at hk'
                 omega
               · rw[←hr0,if_neg kz]
                 exact .inl (zK.2 (.inl k))
             · refine .inr fun k' hk'=>?_
               rcases zK.1 hk' with k2|k2
               · exact k k' (hrsub k' k2)
               · omega
           · rw[q4,q5]
             intro hdr
             rcases t4 with ⟨k1,k2,k3⟩|⟨k1,k2⟩
             · rw[k2]
               refine c5 ?_
               rw[hrfull c2 k3,k1] at hdr
               have hsl:(x.c.at j).ser.toNat≤(g.ri j).length:=by
                 have:=(wZ hs c2 (hh c2)).ser
                 rw[(h.ctx j hj c2).rf,List.length_map] at this
                 omega
               rw[List.drop_append_of_le_length hsl] at hdr
               rcases zK.1 hdr with k|k
               · exact k
               · omega
             · rw[k1,hzr,List.length_map,Int.toNat_natCast,List.drop_append_of_le_length (Nat.le_refl _),List.drop_length] at hdr
               simp at hdr
               omega
           · rw[q2,q3]
             intro k1 k2
             obtain⟨ez,ea⟩:=hsm k1 k2
             rw[ez] at k1 k2
             rw[hrfull ea (by rw[ez])]
             exact zK.2 (.inl (c6 k1 k2))
       · rw[if_neg e,if_neg e]
         match r,hcr with
         | none,hcr=>exact hcr
         | some (n,dy),hcr=>exact⟨henN hcr.1,hcr.2⟩
     · rw[if_pos rfl,if_pos rfl]
       refine⟨if_pos rfl,ha',?_,.inl (zK.2 (.inr rfl)),fun _=>q5.symm,fun _ _=>zK.2 (.inr rfl)⟩
       show qy (hdP ps x.nx) s'.fst=true
       rw[hhd]
       exact zQ hfs
   ctx:=fun j hj hact=>by
     have hact:((x.c.set i s').at j).act=true:=hact
     show CtI ps ((x.c.set i s').at j) j (fun n=>if n=x.nx then i+1 else g.en n) (if j=i then r0++[x.nx] else g.ri j)
     rw[hat] at hact ⊢
     by_cases e:j=i
     · subst e
       rw[if_pos rfl,if_pos rfl]
       refine⟨by rw[q6,hzr,List.map_append,List.map_singleton,hhd],?_,fun k hk=>?_,⟨x.nx,by simp,fun n hn=>?_⟩,?_⟩
       · rw[List.pairwise_append]
         exact⟨hrso,List.pairwise_singleton _ _,fun a ha b hb=>by rw[List.mem_singleton] at hb;subst hb;exact hrlt a ha⟩
       · rcases zK.1 hk with k1|rfl
         · exact henN (hren k k1)
         · exact if_pos rfl
       · by_cases e:n=x.nx
         · omega
         · have hn:(if n=x.nx then j+1 else g.en n)=j+1:=hn
           rw[if_neg e] at hn
           have:=(h.en n (by omega)).1
           omega
       · rw[q2,q3,q4]
         intro k1 k2
         obtain⟨ez,ea⟩:=hsm k1 k2
         rw[ez] at k1 k2 ⊢
         exact(h.ctx j hj ea).ser k1 k2
     · rw[if_neg e] at hact ⊢
       rw[if_neg e]
       obtain⟨c1,c2,c3,⟨l,c4,c5⟩,c6⟩:=h.ctx j hj hact
       refine⟨c1,c2,fun k hk=>henN (c3 k hk),⟨l,c4,fun n hn=>?_⟩,c6⟩
       have hn:(if n=x.nx then i+1 else g.en n)=j+1:=hn
       by_cases e2:n=x.nx
       · rw[if_pos e2] at hn;omega
       · rw[if_neg e2] at hn;exact c5 n hn
   off:=fun j hj hact=>by
     have hact:((x.c.set i s').at j).act=false:=hact
     show(if j=i then r0++[x.nx] else g.ri j)=[]∧∀n,(if n=x.nx then i+1 else g.en n)≠j+1
     rw[hat] at hact
     by_cases e:j=i
     · rw[if_pos e,ha'] at hact;exact Bool.noConfusion hact
     · rw[if_neg e] at hact ⊢
       refine⟨(h.off j hj hact).1,fun n=>?_⟩
       split
       · omega
       · exact(h.off j hj hact).2 n
   en:=fun n hn=>by
     have hn:(if n=x.nx then i+1 else g.en n)≠0:=hn
     show n<x.nx+1∧(if n=x.nx then i+1 else g.en n)≤16∧(hdP ps n).num=(B (if n=x.nx then i+1 else g.en n)+((if n=x.nx then T else g.tt n:Nat):Int))%65536∧(if n=x.nx then T else g.tt n)≤255*n
     by_cases e:n=x.nx
     · subst e
       rw[if_pos rfl,if_pos rfl,hhd]
       exact⟨Nat.lt_succ_self _,by omega,hnum,hT⟩
     · rw[if_neg e] at hn ⊢
       rw[if_neg e]
       obtain⟨e1,e2,e3,e4⟩:=h.en n hn
       refine⟨by omega,e2,?_,e4⟩
       by_cases e5:g.en n=i+1
       · have hact:(x.c.at i).act=true:=by
           cases ha:(x.c.at i).act with
           | true=>rfl
           | false=>exact absurd e5 ((h.off i hi ha).2 n)
         rw[e5,hB1 hact,e3,e5]
       · rw[hTB1 _ e5];exact e3
   mono:=fun n n' hlt' he hne=>by
     have he:(if n=x.nx then i+1 else g.en n)=(if n'=x.nx then i+1 else g.en n'):=he
     have hne:(if n=x.nx then i+1 else g.en n)≠0:=hne
     show(if n=x.nx then T else g.tt n)<(if n'=x.nx then T else g.tt n')
     by_cases e:n=x.nx
     · rw[if_pos e,if_neg (show n'≠x.nx by omega),hen0 n' (by omega)] at he
       omega
     · rw[if_neg e] at he hne ⊢
       by_cases e':n'=x.nx
       · rw[if_pos e'] at he ⊢
         exact hTB3 n he
       · rw[if_neg e'] at he ⊢
         exact h.mono n n' hlt' he hne
   nx:=hlt
   wln:=fun m hm=>by
     rcases List.mem_append.1 hm with hm|hm
     · exact h.wln m hm
     · rw[List.mem_singleton] at hm
       subst hm
       exact hyl
   wlt:=fun m hm=>by
     show m.1<x.nx+1
     rcases List.mem_append.1 hm with hm|hm
     · have:=h.wlt m hm;omega
     · rw[List.mem_singleton] at hm
       subst hm
       exact Nat.lt_succ_self _
   wso:=by
     show(x.way++[(x.nx,y)]).Pairwise _
     rw[List.pairwise_append]
     refine⟨h.wso,List.pairwise_singleton _ _,fun a ha b hb=>?_⟩
     rw[List.mem_singleton] at hb
     subst hb
     exact h.wlt a ha
   dlt:=fun j n dy hd m hm=>by
     rcases List.mem_append.1 hm with hm|hm
     · exact h.dlt j n dy hd m hm
     · rw[List.mem_singleton] at hm
       subst hm
       exact h.dnx j n dy hd
   dnx:=fun j n dy hd=>Nat.lt_succ_of_lt (h.dnx j n dy hd)
   bk:=fun b hb=>by
     obtain⟨i',n,k1,k2,k3,k4⟩:=h.bk b hb
     exact⟨i',n,k1,henN k2,k3,k4⟩ }
open Go.RowKit
theorem rel_send{ps:List (List UInt8)}{x:Hk}{g:Gh}(h:js ps x g)(hps:∀b∈ps,qY b):∃g',js ps (zU ps x) g':=by
 unfold zU
 split
 · exact⟨g,h⟩
 · rename_i hn
   have hlt:x.nx<ps.length:=by have:=h.nx;omega
   have hm:ps.getD x.nx []∈ps:=by rw[List.getD_eq_getElem?_getD,List.getElem?_eq_getElem hlt];exact List.getElem_mem hlt
   have hs:=hps _ hm
   have hne:¬(ps.getD x.nx []=[]∨1500<(ps.getD x.nx []).length):=by
     rintro(k|k)
     · exact hs.1 k
     · have:=hs.2;omega
   have hk:=compr_ok h.c hne
   rw[if_pos hk.2.1]
   have hlen:=(hcompr_len h.c hs.1 hs.2).2
   have hraw:∀R:(Co×List UInt8)×Int,R=((x.c,(zo (jx (ps.getD x.nx []))).1),0)→∃g',js ps { x with c:=R.1.1,way:=x.way++[(x.nx,R.1.2)],nx:=x.nx+1 } g':=by
     rintro _ rfl
     rw[raw_enc hs.2]
     exact⟨_,rel_raw h hlt hs⟩
   obtain⟨R,hR⟩:∃R,qw x.c (ps.getD x.nx [])=R:=⟨_,rfl⟩
   rw[hR] at hlen ⊢
   unfold qw at hR
   rw[if_pos h.c,if_neg hne] at hR
   split at hR
   · rename_i hp
     have hp2:qu (ps.getD x.nx [])=(((qu (ps.getD x.nx [])).1.1,(qu (ps.getD x.nx [])).1.2),0):=by rw[←hp]
     split at hR
     · rename_i i hf
       split at hR
       · exact hraw R hR.symm
       · rename_i hst
         subst hR
         exact rel_cmp h hlt hp2 hf hst hlen
     · exact hraw R hR.symm
   · exact hraw R hR.symm
theorem rel_step{ps:List (List UInt8)}{x:Hk}{g:Gh}(h:js ps x g)(hl:ps.length≤200)(hps:∀b∈ps,qY b){k:Int}(a:Int)(hk:k≠6):∃g',js ps (kC ps x k a) g':=by
 unfold kC
 split
 · exact rel_send h hps
 · split
   · exact rel_del h
   · split
     · exact rel_los h
     · (try rw[if_neg hk])
       split
       · exact rel_bak h hl
       · split
         · exact rel_lbk h
         · exact⟨g,h⟩
theorem rel_run{ps:List (List UInt8)}(hl:ps.length≤200)(hps:∀b∈ps,qY b):∀(l:List (Int×Int)) {x:Hk} {g:Gh},js ps x g→(∀s∈l,s.1≠6)→∃g',js ps (xR ps l x) g'
 | [],_,g,h,_=>⟨g,h⟩
 | s::l,_,_,h,hs=>by
   obtain⟨g',h'⟩:=rel_step h hl hps s.2 (hs s List.mem_cons_self)
   exact rel_run hl hps l h' fun s' hs'=>hs s' (List.mem_cons_of_mem _ hs')
theorem rel_new{ps:List (List UInt8)}{w:Int}(hw:1≤w∧w≤8):js ps (hk0 3 w) ⟨[],fun _=>none,fun _=>0,fun _=>0,fun _=>0,fun _=>[]⟩:=by
 have hI:=inv_new (m:=3) (w:=w) (by decide) hw
 have hz:∀j,((hk0 3 w).c.at j)=Sn.z:=fun j=>z_at j
 exact {
   c:=hI.1
   m:=rfl
   d:=hI.2.1
   dm:=rfl
   dc:=fun i hi=>by
     show(List.replicate 16 Rc.z).getD i Rc.z=Rc.z
     rw[List.getD_eq_getElem?_getD,List.getElem?_replicate]
     split<;>rfl
   wok:=trivial
   cnd:=fun j hj r hr=>by
     have hr:r=none:=hr
     subst hr
     intro ha
     rw[hz] at ha
     cases ha
   ctx:=fun j hj ha=>by rw[hz] at ha;cases ha
   off:=fun j hj ha=>⟨rfl,fun n=>by show(0:Nat)≠j+1;omega⟩
   en:=fun n hn=>absurd rfl hn
   mono:=fun n n' _ _ hn=>absurd rfl hn
   nx:=Nat.zero_le _
   wln:=fun _ h=>nomatch h
   wlt:=fun _ h=>nomatch h
   wso:=List.Pairwise.nil
   dlt:=fun _ _ _ h=>nomatch h
   dnx:=fun _ _ _ h=>nomatch h
   bk:=fun _ h=>nomatch h
   out:=fun _ h=>nomatch h }
theorem stpK_no6(t:List Int)(a:Nat):wF t a≠6:=by
 have h:∀n:Nat,[(1:Int),3,1,3,8,4,9,3].getD n 0≠6:=fun n=>by
   match n with
   | 0|1|2|3|4|5|6|7=>decide
   | n+8=>exact fun e=>by cases e
 exact h _
theorem stpI_no6(t:List Int):∀(n:Nat) (x:List (Int×Int)×Nat),(∀s∈x.1,s.1≠6)→∀s∈(stpI t false n x).1,s.1≠6
 | 0,_,h=>h
 | n+1,x,h=>stpI_no6 t n (yV t false x) fun s hs=>by
   rw[vA rfl] at hs
   have hs:s∈x.1++[(wF t x.2,0)]:=hs
   rw[List.mem_append,List.mem_singleton] at hs
   rcases hs with hs|rfl
   · exact h s hs
   · exact stpK_no6 t x.2
theorem stps_no6(t:List Int)(a:Nat)(most:Int):∀s∈(stpsR t a most false).1,s.1≠6:=stpI_no6 t _ _ fun s hs=>by cases hs
theorem rel_out{ps:List (List UInt8)}{w:Int}(hw:1≤w∧w≤8)(hl:ps.length≤200)(hps:∀b∈ps,qY b){l:List (Int×Int)}(hs:∀s∈l,s.1≠6){i:Nat}(hi:i<(xR ps l (hk0 3 w)).out.length) :
   ((xR ps l (hk0 3 w)).out.getD i ⟨0,[],0⟩).i<ps.length∧((xR ps l (hk0 3 w)).out.getD i ⟨0,[],0⟩).e=0∧((xR ps l (hk0 3 w)).out.getD i ⟨0,[],0⟩).p=ps.getD ((xR ps l (hk0 3 w)).out.getD i ⟨0,[],0⟩).i []:=by
 obtain⟨g,h⟩:=rel_run hl hps l (rel_new hw) hs
 refine h.out _ ?_
 rw[List.getD_eq_getElem?_getD,List.getElem?_eq_getElem hi]
 exact List.getElem_mem hi
open Go.RowKit
variable {G:Nat→AV}
structure Fq where
 h:Hd
 bs:List (List UInt8)
 a:Nat
def fqP(t:List Int)(x:Fq):List UInt8:=zd t (qj t x.a) (jG t x.a 4)
def fqA(t:List Int)(x:Fq):Nat:=adv t (qj t x.a) (jG t x.a 4)
def fqS(t:List Int)(reg:Bool)(x:Fq):Fq:=⟨(jU t (fqA t x) x.h reg).1,x.bs++[wH x.h (fqP t x)],(jU t (fqA t x) x.h reg).2⟩
def fqI(t:List Int)(reg:Bool):Nat→Fq→Fq
 | 0,x=>x
 | n+1,x=>fqI t reg n (fqS t reg x)
def floN(t:List Int)(a:Nat)(cnt:Int):Nat:=(q7 .add .i64 1 (qi t (wI t (qj t a) (qi t a 4)) cnt)).toNat
def floR(t:List Int)(a:Nat)(cnt:Int)(reg:Bool):Fq:=fqI t reg (floN t a cnt) ⟨vN t (qj t a) (qi t a 4),[],qj t (wI t (qj t a) (qi t a 4))⟩
theorem fq_kind{t:List Int}{reg:Bool}{x:Fq}(h:kindR x.h):kindR (fqS t reg x).h:=by
 unfold kindR fqS
 dsimp only
 rw[fol_k]
 exact h
theorem fq_next{t:List Int}{reg:Bool}{x:Fq}{n:Nat}{R:Fq}(h0:(0:Int)<(n:Int))(h:fqI t reg n x=R):fqI t reg (n-1) (fqS t reg x)=R:=by
 obtain⟨m,rfl⟩:∃m,n=m+1:=⟨n-1,by omega⟩
 exact h
theorem fq_0{t:List Int}{reg:Bool}{x:Fq}{n:Nat}{R:Fq}(h0:¬(0:Int)<(n:Int))(h:fqI t reg n x=R):x=R:=by
 obtain rfl:n=0:=by omega
 exact h
theorem fq_pl(t:List Int)(x:Fq):(fqP t x).length≤4:=by
 have:=jS t x.a (q7 .add .i64 4 1) (by decide) (by decide)
 have e:q7 .add .i64 4 1=5:=rfl
 unfold fqP jG
 rw[bytesL_len]
 omega
attribute [local irreducible] vN wI jU wH zd jG qi qj
theorem floN_e(t:List Int)(a:Nat)(cnt:Int)(h0:1≤cnt)(h1:cnt≤100):q7 .add .i64 1 (qi t (wI t (qj t a) (qi t a 4)) cnt)=(floN t a cnt:Int)∧floN t a cnt≤cnt.toNat:=by
 have hb:=jS t (wI t (qj t a) (qi t a 4)) cnt (by omega) (by omega)
 have e:q7 .add .i64 1 (qi t (wI t (qj t a) (qi t a 4)) cnt)=1+qi t (wI t (qj t a) (qi t a 4)) cnt:=by(exact T.num)
 unfold floN
 rw[e]
 omega
theorem flow12_c(t:List Int)(a:Nat)(cnt:Int)(reg:Bool)(h2:1≤cnt)(h3:cnt≤100)(ht:t.length≤400)(p:Nm):LP Tryz.prog G 10 [.ptr p 0,iAV cnt,.bool reg] [(p,xg t a)] (fun _=>(bbv (floR t a cnt reg).bs,[(p,xg t (floR t a cnt reg).a)])):=by
 obtain⟨hN,hN2⟩:=floN_e t a cnt h2 h3
 have hk0:=hdr_kind t (qj t a) (qi t a 4)
 have hR:∃R,fqI t reg (floN t a cnt) ⟨vN t (qj t a) (qi t a 4),[],qj t (wI t (qj t a) (qi t a 4))⟩=R:=⟨_,rfl⟩
 unfold floR
 obtain⟨R,hR⟩:=hR
 rw[hR]
 generalize floN t a cnt=N at *
 refine goW [] Tryz.func10 rfl ?_
 conv=>whnf
 repeat'((first|exact Nm.b 0|(show LC _ _ _ _ _ _;first|(apply LC.upd (dheader_c t _ _ ht _);(repeat first|refine goH ?_|apply LH.here|apply LH.next);refine⟨rfl,?_⟩)|(apply LC.upd (dbytes_c t _ 4 (by decide) (by decide) ht _);(repeat first|refine goH ?_|apply LH.here|apply LH.next);refine⟨rfl,?_⟩)|(apply LC.upd (kS t _ _ ht _);(repeat first|refine goH ?_|apply LH.here|apply LH.next);refine⟨rfl,?_⟩)|refine LC.pure (mpacket_c x.h (fqP t x) (by assumption) (Nat.le_trans (fq_pl t x) (by decide))) ?_|(apply LC.upd (follow_c t (fqA t x) x.h reg ht _);(repeat first|refine goH ?_|apply LH.here|apply LH.next);refine⟨rfl,?_⟩)|refine goE ?_)|refine T.s ?_|((first|apply goB|apply AB.dec|apply AB.gen)<;>intro h<;>try(exfalso;omega))|refine LQ.mk fun r=>?_|(show SWpL _ _ _ (.loop _) _ _ _;first|(apply goO tQ [] 4 (S:=Nat×Fq×Nm×Nm) [0,2] (fun(n,x,r,z)=>⟨[(7,.ptr z 0),(8,.vw r 0 x.bs.length 1),(9,.int .i64 n)],[(p,xg t x.a),(z,⟨54,x.h.cs⟩),(r,⟨37,x.bs.map bv⟩)],n≤100∧kindR x.h∧x.bs.length≤1000-n∧fqI t reg n x=R,n⟩) ((N,⟨vN t (qj t a) (qi t a 4),[],qj t (wI t (qj t a) (qi t a 4))⟩,_,_)) (by rfl);(focus((repeat' first|exact trivial|(refine And.intro ?_ ?_)|exact LB.nil|(with_reducible exact LB.refl)|(apply LB.cons;(repeat first|refine goH ?_|apply LH.here|apply LH.next);refine And.intro ?_ ?_;(focus(try(first|(with_reducible rfl)|(refine congrArg (Pl.mk _) ?_;(first|(with_reducible rfl)|exact xi _ _|rfl))|rfl|(with_reducible refine congrArg (Pl.mk _) ?_)))))|assumption|(exact fq_next (by assumption) (by assumption))|(exact fq_kind (by assumption))|(exact hk0)|(exact hR)|(first|(focus(apply Eq.trans;(conv=>lhs;whnf);(conv=>rhs;whnf);done))|rfl|((conv=>lhs;whnf);first|rfl|(refine congrArg (AV.int _) ?_;(exact T.num))|(refine congrArg AV.bool ?_;(exact T.num))|(refine vwc ?_;first|(exact T.num)|(first|(with_reducible rfl)|exact xi _ _|rfl))|(refine q9 ?_ ?_<;>first|(exact T.num)|(first|(with_reducible rfl)|exact xi _ _|rfl))|(first|(with_reducible rfl)|exact xi _ _|rfl)))|(exact T.num)|(dsimp only;(exact T.num))|(first|(with_reducible rfl)|exact xi _ _|rfl));done));rintro⟨n,x,r,z⟩ ⟨hk,hk,hk,hok⟩))|(show SWpL _ _ _ _ _ _ _;first|refine SWpL.adopt 8 1 37 (by rfl) fun q=>?_|refine gX 6 [1,3] [0,1,2,3,4,5,6,7] [p] ?_)|(show AtL _ _ _ _ _ _ _ _ _ _;first|(apply AtL.mk' (id:=4) (S:=Nat×Fq×Nm×Nm) ((n-1,⟨(jU t (fqA t x) x.h reg).1,x.bs++[wH x.h (fqP t x)],(jU t (fqA t x) x.h reg).2⟩,_,_));(repeat' first|exact trivial|(refine And.intro ?_ ?_)|exact LB.nil|(with_reducible exact LB.refl)|(apply LB.cons;(repeat first|refine goH ?_|apply LH.here|apply LH.next);refine And.intro ?_ ?_;(focus(try(first|(with_reducible rfl)|(refine congrArg (Pl.mk _) ?_;(first|(with_reducible rfl)|exact xi _ _|rfl))|rfl|(with_reducible refine congrArg (Pl.mk _) ?_)))))|assumption|(exact fq_next (by assumption) (by assumption))|(exact fq_kind (by assumption))|(exact hk0)|(exact hR)|(first|(focus(apply Eq.trans;(conv=>lhs;whnf);(conv=>rhs;whnf);done))|rfl|((conv=>lhs;whnf);first|rfl|(refine congrArg (AV.int _) ?_;(exact T.num))|(refine congrArg AV.bool ?_;(exact T.num))|(refine vwc ?_;first|(exact T.num)|(first|(with_reducible rfl)|exact xi _ _|rfl))|(refine q9 ?_ ?_<;>first|(exact T.num)|(first|(with_reducible rfl)|exact xi _ _|rfl))|(first|(with_reducible rfl)|exact xi _ _|rfl)))|(exact T.num)|(dsimp only;(exact T.num))|(first|(with_reducible rfl)|exact xi _ _|rfl));done)|(apply AtL.mk' (id:=4) (S:=Nat×Fq×Nm×Nm) ((n-1,⟨(jU t (fqA t x) x.h reg).1,x.bs++[wH x.h (fqP t x)],(jU t (fqA t x) x.h reg).2⟩,_,_));(repeat' first|exact trivial|(refine And.intro ?_ ?_)|exact LB.nil|(with_reducible exact LB.refl)|(apply LB.cons;(repeat first|refine goH ?_|apply LH.here|apply LH.next);refine And.intro ?_ ?_;(focus(try(first|(with_reducible rfl)|(refine congrArg (Pl.mk _) ?_;(first|(with_reducible rfl)|exact xi _ _|rfl))|rfl|(with_reducible refine congrArg (Pl.mk _) ?_)))))|assumption|(exact fq_next (by assumption) (by assumption))|(exact fq_kind (by assumption))|(exact hk0)|(exact hR)|(first|(focus(apply Eq.trans;(conv=>lhs;whnf);(conv=>rhs;whnf);done))|rfl|((conv=>lhs;whnf);first|rfl|(refine congrArg (AV.int _) ?_;(exact T.num))|(refine congrArg AV.bool ?_;(exact T.num))|(refine vwc ?_;first|(exact T.num)|(first|(with_reducible rfl)|exact xi _ _|rfl))|(refine q9 ?_ ?_<;>first|(exact T.num)|(first|(with_reducible rfl)|exact xi _ _|rfl))|(first|(with_reducible rfl)|exact xi _ _|rfl)))|(exact T.num)|(dsimp only;(exact T.num))|(first|(with_reducible rfl)|exact xi _ _|rfl))))|exact T.z|fail)<;>conv=>whnf)
 all_goals(try dsimp only)
 all_goals first
   | (rw[←fq_0 (x:=x) (n:=n) (R:=R) (by assumption) (by assumption)];refine RL.rowBB ?_;(repeat first|refine goH ?_|apply LH.here|apply LH.next);refine⟨rfl,rfl,?_⟩;(repeat' first|exact LB.nil|(with_reducible exact LB.refl)|(apply LB.cons;(repeat first|refine goH ?_|apply LH.here|apply LH.next);refine And.intro ?_ ?_;(focus(try(first|(with_reducible rfl)|(refine congrArg (Pl.mk _) ?_;(first|rfl|(simp;done)))|rfl|(with_reducible refine congrArg (Pl.mk _) ?_)))))))
   | trace_state
theorem fqS_sized(t:List Int)(reg:Bool)(x:Fq)(h:∀b∈x.bs,qY b):∀b∈(fqS t reg x).bs,qY b:=by
 have h1:qY (wH x.h (fqP t x)):=by
   have:=pkt_len x.h (fqP t x)
   have h3:=fq_pl t x
   exact⟨fun e=>by rw[e] at this;simp at this,by omega⟩
 intro b hb
 have hb:b∈x.bs++[wH x.h (fqP t x)]:=hb
 simp only[List.mem_append,List.mem_singleton] at hb
 rcases hb with hb|rfl
 · exact h b hb
 · exact h1
theorem fqI_sized(t:List Int)(reg:Bool):∀(n:Nat) (x:Fq),(∀b∈x.bs,qY b)→∀b∈(fqI t reg n x).bs,qY b
 | 0,_,h=>h
 | n+1,x,h=>fqI_sized t reg n _ (fqS_sized t reg x h)
theorem flo_sized(t:List Int)(a:Nat)(cnt:Int)(reg:Bool):∀b∈(floR t a cnt reg).bs,qY b:=fqI_sized t reg _ _ fun b hb=>by cases hb
theorem fqI_len(t:List Int)(reg:Bool):∀(n:Nat) (x:Fq),(fqI t reg n x).bs.length=x.bs.length+n
 | 0,_=>rfl
 | n+1,x=>by
   show(fqI t reg n (fqS t reg x)).bs.length=_
   rw[fqI_len t reg n]
   show(x.bs++[_]).length+n=_
   rw[List.length_append,List.length_singleton]
   omega
theorem flo_len(t:List Int)(a:Nat)(cnt:Int)(reg:Bool)(h2:1≤cnt)(h3:cnt≤100):(floR t a cnt reg).bs.length≤cnt.toNat:=by
 obtain⟨-,h⟩:=floN_e t a cnt h2 h3
 unfold floR
 rw[fqI_len]
 simp only[List.length_nil]
 omega
attribute [irreducible] floR
end Go.Proofs.YtndpmpnmkpaklaaGreatDoor
namespace Go.Proofs.YtndpmpnmkpaklaaGreatDoor
open Go.RowKit
attribute [local irreducible] xR
theorem EHlw3_1{p:Prop}(h:p:=by(repeat' first|exact trivial|(refine And.intro ?_ ?_)|exact LB.nil|(with_reducible exact LB.refl)|(apply LB.cons;(repeat first|refine goH ?_|apply LH.here|apply LH.next);refine And.intro ?_ ?_;(focus(try(first|(with_reducible rfl)|(refine congrArg (Pl.mk _) ?_;(first|rfl|(simp;done)))|rfl|(with_reducible refine congrArg (Pl.mk _) ?_)))))|(with_reducible assumption)|fail|(show(_:AV)=_;(first|(focus(apply Eq.trans;(conv=>lhs;whnf);(conv=>rhs;whnf);done))|rfl|((conv=>lhs;whnf);first|rfl|(refine congrArg (AV.int _) ?_;(exact T.num))|(refine congrArg AV.bool ?_;(exact T.num))|(refine vwc ?_;first|(exact T.num)|(first|rfl|(simp;done)))|(refine q9 ?_ ?_<;>first|(exact T.num)|(first|rfl|(simp;done)))|(first|rfl|(simp;done)))))|((with_reducible first|(show(_:Int)≤_)|(show(_:Int)<_)|(show(_:Nat)≤_)|(show(_:Nat)<_)|(show(_:Int)=_)|(show(_:Nat)=_));(exact T.num))|(first|rfl|(simp;done)));first|done|fail):p:=h
theorem rely12_t(t:List Int)(width:Int)(ht:t.length≤400):LP Tryz.prog gm 3 [iv t,iAV width] [] (fun _=>(.bool true,[])):=by
 have hl:=light_c (G:=gm) t
 rw[decide_eq_true ht] at hl
 have w1:=modR_lt width 8 (by decide) (by decide)
 obtain⟨w,hw⟩:∃w,q7 .add .i64 1 (j0 width 8)=w:=⟨_,rfl⟩
 have hw2:1≤w∧w≤8:=by rw[←hw];(exact T.num)
 have hP:=fun p=>flow12_c (G:=gm) t (qj t 0) 50 (kF t 0 2) (by decide) (by decide) ht p
 have hZ:=flo_sized t (qj t 0) 50 (kF t 0 2)
 have hY:=flo_len t (qj t 0) 50 (kF t 0 2) (by decide) (by decide)
 generalize (floR t (qj t 0) 50 (kF t 0 2))=K at hP hZ hY
 obtain⟨Kh,L,Ka⟩:=K
 dsimp only at hP hZ hY
 have hY:L.length≤50:=hY
 have hS:=fun p=>steps_c (G:=gm) t Ka 200 (by decide) (by decide) false ht p
 have hSl:=stpI_len t false (qi t Ka (q7 .add .i64 200 1)).toNat ([],qj t Ka)
 have hn:=jS t Ka (q7 .add .i64 200 1) (by decide +kernel) (by decide +kernel)
 have hn1:q7 .add .i64 200 1=201:=by decide +kernel
 have hSl:(stpsR t Ka 200 false).1.length≤400:=by
   unfold stpsR
   simp only[List.length_nil] at hSl
   omega
 have h6:=stps_no6 t Ka 200
 generalize stpsR t Ka 200 false=Z at hS hSl h6
 obtain⟨ST,Kb⟩:=Z
 dsimp only at hS hSl h6
 have hR:=hrun_c 3 w (by decide) hw2 L hZ (by omega) ST hSl (siz_new (by decide) hw2)
 have hXl:(xR L ST (hk0 3 w)).out.length≤400:=by
   have:=(run_siz hZ ST (siz_new (ps:=L) (m:=3) (by decide) hw2)).ol
   omega
 have hat:=fun(i:Nat) (hi:i<(xR L ST (hk0 3 w)).out.length)=>rel_out hw2 (by omega) hZ h6 hi
 generalize (xR L ST (hk0 3 w)).out=X at hR hat hXl
 refine goW [] Tryz.func3 rfl ?_
 conv=>whnf
 repeat'((first|(show LC _ _ 12 _ _ _;rw[hw];refine LC.pure hR ?_)|exact Nm.b 0|(refine And.intro ?_ ?_;(focus(first|(simp only[List.length_drop];rw[qm wb];omega)|((try dsimp only);rw[qm wb];omega)|((try dsimp only);rw[List.length_map];omega)|exact T.kx|exact T.side)))|(show LC _ _ _ _ _ _;first|refine LC.pure (hl) ?_|refine LC.own (roll_c t) ?_|refine LC.pure (mod_c _ _) ?_|(apply LC.upd (one_c t _ _ ht _);(repeat first|refine goH ?_|apply LH.here|apply LH.next);refine⟨rfl,?_⟩)|(apply LC.upd (hP _);(repeat first|refine goH ?_|apply LH.here|apply LH.next);refine⟨rfl,?_⟩)|(apply LC.upd (hS _);(repeat first|refine goH ?_|apply LH.here|apply LH.next);refine⟨rfl,?_⟩)|refine LC.pure (awake12_c) ?_|refine LC.pure (sameT_c (L.getD (X.getD i ⟨0,[],0⟩).i [])) ?_|refine goE ?_)|(show AC _ _ _;first|(refine AC.fld2 wb (l:=X) i 0 ⟨0,[],0⟩ (.int .i64 (X.getD i ⟨0,[],0⟩).i) (by(try dsimp only);omega) (by decide) (by omega) rfl ?_)|(refine AC.fld2 wb (l:=X) i 1 ⟨0,[],0⟩ (bv (L.getD (X.getD i ⟨0,[],0⟩).i [])) (by(try dsimp only);omega) (by decide) (by omega) (congrArg bv (hat i (by omega)).2.2) ?_)|(refine AC.fld2 wb (l:=X) i 2 ⟨0,[],0⟩ (.int .i64 0) (by(try dsimp only);omega) (by decide) (by omega) (congrArg (AV.int .i64) (hat i (by omega)).2.1) ?_)|(refine AC.idx (f:=bv) (l:=L) (X.getD i ⟨0,[],0⟩).i [] (by(try dsimp only);omega) ?_ ?_;(focus(have:=(hat i (by omega)).1;omega))))|refine T.s ?_|((first|apply goB|apply AB.dec|apply AB.gen)<;>intro h)|refine LQ.mk fun r=>?_|(show SWpL _ _ _ (.loop _) _ _ _;first|(refine goL tQ [] 9 (S:=Nat) [6,7] (fun i=>⟨[(9,.int .i64 i)],[],i≤X.length,X.length-i⟩) (0) ?_;rintro i hok;(try dsimp only at hok)))|(show SWpL _ _ _ _ _ _ _;first|refine gX 11 [] [0,1,2,3,4,5,6,7,8,9,10,11,12,13,14,15,16,17,18,19,20,21,22,23,24,25,26,27,28,29,30,31,32,33,34,35,36,37,38,39,40] [] ?_)|(show AtL 9 _ _ _ _ _ _ _ _ _;first|(apply AtL.mk' (id:=9) (S:=Nat) (i+1);focus(refine T.a5 ?_ ?_ ?_ ?_<;>exact EHlw3_1)))|exact T.z|fail)<;>conv=>whnf)
 all_goals(try dsimp only)
 all_goals first
   | ((show RL _ _ _;refine goR ?_);rfl)
   | (exfalso;have hai:=(hat i (by omega)).1;omega)
   | trace_state
theorem rely12_c(t:List Int)(width:Int):LP Tryz.prog gm 3 [iv t,iAV width] [] (fun _=>(.bool true,[])):=by
 by_cases ht:t.length≤400
 · exact rely12_t t width ht
 · have hl:=light_c (G:=gm) t
   rw[decide_eq_false ht] at hl
   refine goW [] Tryz.func3 rfl ?_
   conv=>whnf
   repeat'((first|exact Nm.b 0|(show LC _ _ _ _ _ _;first|refine LC.pure (hl) ?_|refine LC.pure (awake12_c) ?_|refine goE ?_)|refine T.s ?_|((first|apply goB|apply AB.dec|apply AB.gen)<;>intro h<;>try(exfalso;omega))|refine LQ.mk fun r=>?_|(show SWpL _ _ _ _ _ _ _;first|(refine goD tQ qc 11 [] [0,1,2,3,4,5,6,7,8,9,10,11,12,13,14,15,16,17,18,19,20,21,22,23,24,25,26,27,28,29,30,31,32,33,34,35,36,37,38,39,40] [] (by kernel_rfl) ?_))|exact T.z|fail)<;>conv=>whnf)
   all_goals(try dsimp only)
   all_goals first|((show RL _ _ _;refine goR ?_);rfl)|((show RL _ _ _;refine goR ?_);simp;done)|(exfalso;simp_all;done)|trace_state
end Go.Proofs.YtndpmpnmkpaklaaGreatDoor
namespace Go.Proofs.YtndpmpnmkpaklaaGreatDoor
open Go.ChangeShapes Go.WideShapes Go.ChangeAt Go.RowKit
theorem LP.stmt{P:Program}{G:Nat→AV}{f:FuncId}{args:List AV}(h:LP P G f args [] (fun _=>(.bool true,[]))){W:World}{vs:Array Value}(hg:Glob G (fun _=>none) W)(hr:RdL (fun _=>none) W args vs) :
   Calls P f vs W fun e W'=>e=.returned (.bool true)∧Below W.heap.size W W':=by
 unfold LP at h
 refine(h.2.2 (fun _=>none) W vs ⟨nofun,nofun,0,fun _ _=>rfl⟩ hg (by simp) (by simp) hr).mono ?_
 rintro e W' ⟨v,q,rfl,-,-,hv,-,hs⟩
 have hv:Rd _ W' (.bool true) v:=hv
 cases hv
 exact⟨rfl,hs.os,hs.tape,hs.output,hs.size,fun k hk=>(hs.old k hk rfl).2⟩
theorem RdL.nil0{σ:q8}{W:World}:RdL σ W [] #[]:=⟨rfl,fun i hi=>by simp at hi⟩
theorem RdL.cons0{σ:q8}{W:World}{a:AV}{v:Value}{al:List AV}{vs:List Value}(h:Rd σ W a v)(hs:RdL σ W al vs.toArray):RdL σ W (a::al) (v::vs).toArray :=
 ⟨by have:=hs.1;simp at this ⊢;omega,fun i hi=>by
   cases i with
   | zero=>simpa using h
   | succ i =>
     have h2:=hs.2 i (by simp at hi;omega)
     simpa using h2⟩
theorem vD{α:Type}(p:Nat→α→Prop):∀(n:Nat),(∀i,i<n→∃x,p i x)→∃l:List α,l.length=n∧∀i x,l[i]? = some x→p i x
 | 0,_=>⟨[],rfl,by simp⟩
 | n+1,h=>by
   obtain⟨l,h1,h2⟩:=vD p n fun i hi=>h i (by omega)
   obtain⟨x,hx⟩:=h n (by omega)
   refine⟨l++[x],by simp[h1],fun i y hy=>?_⟩
   by_cases hi:i<l.length
   · rw[List.getElem?_append_left hi] at hy
     exact h2 i y hy
   · rw[List.getElem?_append_right (by omega)] at hy
     by_cases h0:i-l.length=0
     · rw[h0] at hy
       simp at hy
       subst hy
       have:i=n:=by omega
       subst this
       exact hx
     · obtain⟨k,hk⟩:=Nat.exists_eq_succ_of_ne_zero h0
       rw[hk] at hy
       simp at hy
section
variable {H:Type}{enc:TypeId×Value→H}{P:Program}{W:World}{base:Nat}{sp:Nat→Bool}{held:Bool}{b0:Nat}{r:Reach}
theorem cell_row{α:Type}{A:α→AV}{u e:TypeId}(hu:P.underlying u=some (.slice e))(hc:P.cellsOf e=1)(he:∀(fuel:Nat) (c:Value) (y:DataW H×List MemPlace),DataW.trod enc P W base sp held fuel e [c]=some y→∃x,Rd (fun _=>none) W (A x) c)
   {c:Value} (hv:Cell.okWide P W r b0 u c) {fuel:Nat} {y:DataW H×List MemPlace} (h:DataW.trod enc P W base sp held fuel u [c]=some y):∃l:List α,Rd (fun _=>none) W (.sl l.length (l.map A)) c:=by
 rcases DataW.trod_slice hu h with ⟨h0,-⟩|⟨a,len,cap,elems,rest,n,-,h0,-,-,hl,hm,hlen,hel,-⟩
 · obtain rfl:=(List.cons.inj h0).1
   exact⟨[],.slnil⟩
 · obtain rfl:=(List.cons.inj h0).1
   have hspot:a.spot=none:=by
     simp only[Cell.okWide,hu,Cell.ok] at hv
     exact hv.2.2.2.1
   obtain⟨b,off,spot⟩:=a
   simp only at hspot
   subst hspot
   have hadd:∀i,(⟨b,off,none⟩:Addr).add i=⟨b,off+i,none⟩:=fun i=>by unfold Addr.add;split<;>simp_all
   obtain⟨l,h1,h2⟩:=vD (fun i x=>∃v,W.cell? ⟨b,off+i,none⟩=some v∧Rd (fun _=>none) W (A x) v) len (fun i hi=>by
     have hE:=hel i hi
     rw[List.getElem?_eq_getElem (by omega)] at hE
     obtain⟨c1,hc1,hy1⟩:=Option.bind_eq_some_iff.1 hE
     obtain⟨-,h4,h5⟩:=World.cells?_some hc1
     rw[hc] at h4 h5
     match c1,h4 with
     | [v],_ =>
       have h6:=h5 0 (by omega)
       rw[Nat.mul_one,hadd] at h6
       have e0:(⟨b,off+i,none⟩:Addr).add 0=⟨b,off+i,none⟩:=by simp[Addr.add]
       rw[e0] at h6
       obtain⟨x,hx⟩:=he n v _ hy1
       exact⟨x,v,by simpa using h6,hx⟩)
   refine⟨l,?_⟩
   rw[h1]
   have h3:∀i (hi:i<l.length),∃v,W.cell? ⟨b,off+i,none⟩=some v∧Rd (fun _=>none) W (A l[i]) v:=fun i hi=>h2 i l[i] (List.getElem?_eq_getElem hi)
   refine .sl len _ b off cap (fun i=>(W.cell? ⟨b,off+i,none⟩).getD undef) (fun _=>rfl) hl hm (fun i hi=>?_) (fun i hi=>?_)
   · obtain⟨v,k1,-⟩:=h3 i (by simpa using hi)
     rw[k1];rfl
   · have hi':i<l.length:=by simpa using hi
     obtain⟨v,k1,k2⟩:=h3 i hi'
     rw[k1]
     simpa [List.getD_eq_getElem?_getD,hi'] using k2
theorem cell_ints{u e:TypeId}(hu:P.underlying u=some (.slice e))(he:P.underlying e=some (.int .i64))(hc:P.cellsOf e=1){c:Value}(hv:Cell.okWide P W r b0 u c){fuel:Nat}{y:DataW H×List MemPlace}(h:DataW.trod enc P W base sp held fuel u [c]=some y):∃l:List Int,Rd (fun _=>none) W (iv l) c :=
 cell_row (A:=iAV) hu hc (fun fuel c y h=>by
   obtain⟨n,h1,-,-⟩:=DataW.trod_int he h
   obtain rfl:=(List.cons.inj h1).1
   exact⟨n,.int _ _⟩) hv h
end
section
variable {H:Type}{enc:TypeId×Value→H}{P:Program}{W:World}{base:Nat}{sp:Nat→Bool}{held:Bool}{b0:Nat}{r:Reach}{v:Value}{d:DataW H}{p:List MemPlace}
theorem arg_ints{u e:TypeId}(hu:P.underlying u=some (.slice e))(he:P.underlying e=some (.int .i64))(hc:P.cellsOf e=1)(hv:Value.okWide P W r b0 u v)(h:DataW.Trod enc P W base sp held u v d p):∃l:List Int,Rd (fun _=>none) W (iv l) v:=by
 obtain⟨a,len,cap,rfl⟩:=okWide_slice hu hv
 obtain⟨fuel,hf⟩:=h
 have hv:Cell.okWide P W r b0 u (.slice a len cap):=by simpa only[Value.okWide,hu] using hv
 exact cell_ints hu he hc hv hf
theorem arg_int{u:TypeId}(hu:P.underlying u=some (.int .i64))(hv:Value.okWide P W r b0 u v)(h:DataW.Trod enc P W base sp held u v d p):∃n:Int,Rd (fun _=>none) W (iAV n) v:=by
 obtain⟨n,rfl,-⟩:=open_int hu hv h
 exact⟨n,.int _ _⟩
end
open Go.ChangeShapes Go.WideShapes Go.ChangeAt Go.RowKit Go.MapKept
theorem gPoly:Tryz.prog.globalNamed "radiolink/check.polynomials"=some 0:=by kernel_rfl
theorem tPoly:(Tryz.prog.globals[0]?).map (·.type)=some 223:=by kernel_rfl
set_option maxRecDepth 100000 in
theorem key_int{v:Value}{y:Go.Lit}(h:keyOf Tryz.prog 3 v=some y):∃m:Int,v=.int .i64 m∧y=.int .i64 m:=by
 unfold keyOf mapKey at h
 rw[Tryz.underlying3] at h
 cases v with
 | int q m =>
   simp only at h
   split at h
   · rename_i hq
     obtain⟨rfl,-⟩:=hq
     exact⟨m,rfl,(Option.some.inj h).symm⟩
   · cases h
 | _=>cases h
set_option maxRecDepth 100000 in
theorem val_int{H:Type}{enc:TypeId×Value→H}{W:World}{n:Nat}{v:Value}{z:DataW H×List MemPlace}(h:WideElems.elemAt enc Tryz.prog W 0 (fun _=>true) false n 3 v=some z):∃m:Int,v=.int .i64 m∧z.1=.lit (.int .i64 m):=by
 unfold WideElems.elemAt at h
 split at h
 · rename_i hf
   obtain⟨d,p⟩:=z
   obtain⟨i,h2,h3,-⟩:=DataW.trod_int Tryz.underlying3 h
   refine⟨i,?_,congrArg Prod.fst h3⟩
   cases v with
   | agg cs =>
     unfold Value.formed at hf
     rw[Tryz.underlying3] at hf
     cases hf
   | int q m =>
     have h4:[Value.int q m]=[.int .i64 i]:=h2
     injection h4
   | _=>cases h2
 · cases h
theorem poly_in{n v:Int}:kO n=some v↔(n,v)∈[((3:Int),(3:Int)),(7,9),(8,7),(16,4129),(24,8801531)]:=by
 unfold kO
 simp only[List.mem_cons,Prod.mk.injEq,List.not_mem_nil,or_false]
 constructor
 · intro h
   (repeat' split at h)<;>first|(cases h;omega)|cases h
 · intro h
   rcases h with ⟨rfl,rfl⟩|⟨rfl,rfl⟩|⟨rfl,rfl⟩|⟨rfl,rfl⟩|⟨rfl,rfl⟩<;>rfl
set_option maxRecDepth 100000 in
theorem polys_of{W:World}(h:laidMetH Tryz.prog [("radiolink/check.polynomials",Rows.laid_radiolink_check_polynomials)] W):Glob gm (fun _=>none) W:=by
 rw[MakeChecks.laidMetH_plain _ _ _ (by kernel_rfl)] at h
 obtain⟨ps,⟨g0,t0,cs0,f0,p0,q0,hg0,ht0,hv0,hd0,-,-⟩,-,-⟩:=h
 obtain rfl:=Option.some.inj (gPoly.symm.trans hg0)
 obtain rfl:=Option.some.inj (tPoly.symm.trans ht0)
 rcases WideElems.open_map Tryz.underlying223 hd0 with ⟨h1,h2⟩|⟨b,es,clock,n,rfl,hcs,hb,-,hF,hx⟩
 · cases h2
 · have hx1:=(congrArg Prod.fst hx)
   have hx2:([(.int .i64 3,.lit (.int .i64 3)),(.int .i64 7,.lit (.int .i64 9)),(.int .i64 8,.lit (.int .i64 7)),(.int .i64 16,.lit (.int .i64 4129)),(.int .i64 24,.lit (.int .i64 8801531))]:List (Go.Lit×DataW Unit))=_:=DataW.map.inj hx1
   have hperm:=sorted_perm (es.toList.map (WideElems.rg Tryz.prog 3 (WideElems.elemAt (fun _=>()) Tryz.prog W 0 (fun _=>true) false n 3)))
   rw[←hx2] at hperm
   have key:∀x∈es.toList,∃m z,x.key=.int .i64 m∧x.val=.int .i64 z∧WideElems.rg Tryz.prog 3 (WideElems.elemAt (fun _=>()) Tryz.prog W 0 (fun _=>true) false n 3) x=(.int .i64 m,.lit (.int .i64 z)):=fun x hxm=>by
     obtain⟨y,hy⟩:=hF.reads x hxm
     obtain⟨m,k1,k2⟩:=key_int (WideElems.rd_key hy)
     obtain⟨u,k3,k4⟩:=WideElems.rd_val hy
     obtain⟨z,k5,k6⟩:=val_int k3
     refine⟨m,z,k1,k5,?_⟩
     rw[WideElems.rg_of hy]
     exact Prod.ext k2 (k4.trans k6)
   have in1:∀x∈es.toList,∀m z,x.key=.int .i64 m→x.val=.int .i64 z→kO m=some z:=fun x hxm m z e1 e2=>by
     obtain⟨m',z',k1,k2,k3⟩:=key x hxm
     rw[k1] at e1;rw[k2] at e2
     cases e1;cases e2
     have:((Go.Lit.int .i64 m,DataW.lit (Go.Lit.int .i64 z)):Go.Lit×DataW Unit)∈es.toList.map (WideElems.rg Tryz.prog 3 (WideElems.elemAt (fun _=>()) Tryz.prog W 0 (fun _=>true) false n 3)):=List.mem_map.2 ⟨x,hxm,k3⟩
     have:=hperm.mem_iff.2 this
     rw[poly_in]
     simp only[List.mem_cons,Prod.mk.injEq,Go.Lit.int.injEq,DataW.lit.injEq,List.not_mem_nil,or_false,true_and] at this ⊢
     exact this
   have in2:∀m z,kO m=some z→∃x∈es.toList,x.key=.int .i64 m:=fun m z e=>by
     have h3:((Go.Lit.int .i64 m,DataW.lit (Go.Lit.int .i64 z)):Go.Lit×DataW Unit)∈([(.int .i64 3,.lit (.int .i64 3)),(.int .i64 7,.lit (.int .i64 9)),(.int .i64 8,.lit (.int .i64 7)),(.int .i64 16,.lit (.int .i64 4129)),(.int .i64 24,.lit (.int .i64 8801531))]:List (Go.Lit×DataW Unit)):=by
       rw[poly_in] at e
       simp only[List.mem_cons,Prod.mk.injEq,Go.Lit.int.injEq,DataW.lit.injEq,List.not_mem_nil,or_false,true_and] at e ⊢
       exact e
     obtain⟨x,hxm,k⟩:=List.mem_map.1 (hperm.mem_iff.1 h3)
     obtain⟨m',z',k1,k2,k3⟩:=key x hxm
     rw[k3] at k
     refine⟨x,hxm,?_⟩
     rw[k1]
     have:=congrArg Prod.fst k
     cases this
     rfl
   refine Glob.of (fun g=>by unfold gm;split<;>rfl) ?_
   intro g
   by_cases hg:g=0
   · subst hg
     show Rd _ W (.ip [.mp kO]) _
     refine .ip _ _ 0 (fun _=>.map (some b)) (fun _=>rfl) (fun i hi=>?_) (fun i hi=>?_)
     · obtain rfl:i=0:=by have:i<1:=hi;omega
       have h2:=World.var?_cell hg0 hv0 0
       rw[Nat.zero_add]
       rw[h2]
       have h5:=congrArg (·[0]?) hcs
       simpa using h5
     · obtain rfl:i=0:=by have:i<1:=hi;omega
       refine .mp kO b es clock rfl hb fun m=>?_
       rcases findNow_spec (d:=.int .i64) (k:=.int .i64 m) rfl es.toList 0 (fun x hxm=>by obtain⟨m',z',k1,-,-⟩:=key x hxm;rw[k1];rfl) with ⟨h1,h2⟩|⟨j,e,h1,h2,h3⟩
       · refine .inr ⟨?_,h1⟩
         cases hp:kO m with
         | none=>rfl
         | some z =>
           obtain⟨x,hxm,k⟩:=in2 m z hp
           exact absurd k (h2 x hxm)
       · have hem:e∈es.toList:=List.mem_of_getElem? h2
         obtain⟨m',z',k1,k2,-⟩:=key e hem
         refine .inl ⟨0+j,z',in1 e hem m z' h3 k2,?_⟩
         rw[h1,k2]
   · have:gm g=.any:=by
       unfold gm
       split
       · rename_i hb
         exact absurd (Nat.eq_of_beq_eq_true hb) hg
       · rfl
     rw[this]
     exact .any _
theorem door_met(os:Os)(args:Array Value):laidMetH Tryz.prog [("radiolink/check.polynomials",Rows.laid_radiolink_check_polynomials)] ((World.doorLaid Tryz.prog 400 os).forCall (fun _ _=>0) ⟨#[],args,[]⟩).memory :=
 laidMetH_of_parts3 (fuel:=8) (laidMet_of_run' 8 (by kernel_rfl) (by kernel_rfl)) (by kernel_rfl) (by kernel_rfl)
end Go.Proofs.YtndpmpnmkpaklaaGreatDoor
