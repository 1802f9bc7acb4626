/-
  Contracts of the functions that the laws reach.
-/
import Derived.Test.YtndpmpnmkpaklaaGreatDoorHr36
set_option maxHeartbeats 4000000
set_option linter.all false
namespace Go.Proofs.YtndpmpnmkpaklaaGreatDoor
open Go.RowKit
theorem z_at{m w:Int}(i:Nat):(⟨m,w,List.replicate 16 Sn.z⟩:Co).at i=Sn.z:=by
 unfold Co.at
 rw[List.getD_eq_getElem?_getD,List.getElem?_replicate]
 split<;>rfl
open Go.RowKit
theorem inv_new{m w:Int}(hm:1≤m∧m≤3)(hw:1≤w∧w≤8):Inv ⟨m,w,List.replicate 16 Sn.z⟩ ⟨m,List.replicate 16 Rc.z⟩:=by
 refine⟨?_,?_,fun i hi ha=>?_⟩
 · refine ya.2 ⟨⟨hm.1,hm.2,hw.1,hw.2⟩,by simp,fun i hi=>?_,fun i k hk hi=>?_⟩
   · rw[z_at];rfl
   · rw[z_at];rfl
 · unfold De.ok jF
   simp only[Bool.and_eq_true,decide_eq_true_eq,List.all_eq_true]
   refine⟨hm,by simp,fun x hx=>?_⟩
   obtain rfl:=List.eq_of_mem_replicate hx
   rfl
 · rw[z_at] at ha
   cases ha
attribute [local irreducible] qw Inv
end Go.Proofs.YtndpmpnmkpaklaaGreatDoor
namespace Go.Proofs.YtndpmpnmkpaklaaGreatDoor
open Go.RowKit
theorem reb_of{m:Int}{r:Rc}{s:Sm}{h:Hd}(hr:xM m r s=(h,true)):∃n,h=zD r s n∧kk s h=true:=by
 unfold xM at hr
 split at hr
 · injection hr with h1 h2;exact⟨0,h1.symm,h1▸h2⟩
 · split at hr
   · rename_i hf;injection hr with h1;exact⟨zw r s,h1.symm,h1▸hf⟩
   · split at hr
     · injection hr with h1 h2;cases h2
     · injection hr with h1 h2;exact⟨_,h1.symm,h1▸h2⟩
theorem hdr_same{r:Rc}{s:Sm}{n:Int}(hl:r.la.ok=true)(hd:r.dy.ok=true)(h5:s.f≠5)(h4:s.f=4→s.h.k=r.la.k):qy (zD r s n) r.la=true:=by
 have hp:qy (xk r.dy r.la n) r.la=true:=by
   unfold xk
   rw[if_pos ⟨hl,hd⟩]
   split<;>exact qV.2 ⟨rfl,rfl,rfl,rfl,rfl,rfl⟩
 rw[qV] at hp ⊢
 unfold zD
 rw[if_neg h5]
 split
 · rename_i hf;exact⟨h4 hf,rfl,rfl,rfl,rfl,rfl⟩
 · (repeat' split)<;>exact hp
theorem fin_inl{X:Rdr}{s0 s:Sm}{b:List UInt8}(h:xw X s0 b=.inl s):s=wpl s0 X:=by
 unfold xw at h
 (repeat' split at h)<;>first|(injection h with h;exact h.symm)|cases h
theorem dec_k4{b:List UInt8}{hb:b.length≤140737488355328}{k:Int}{ck:Bool}{s:Sm}(h:qU b hb k ck=.inl s)(hf:s.f=4):s.h.k=k:=by
 have h0:dse (qU b hb k ck)=0:=by rw[h];rfl
 obtain⟨s',h1,-,-,hp⟩:=dec_good h0
 rw[h] at h1
 injection h1 with h1
 subst h1
 rw[hf] at hp
 by_cases hk:k≠1∧k≠2
 · unfold qU at h
   rw[hp,if_neg (fun h=>h rfl),if_pos ⟨(show(4:Int)≤4 by decide),hk⟩] at h
   cases h
 · rw[vp hp (fun q=>hk q.2)] at h
   generalize (if 0<s.cx then rtk 1 (rdr b hb) else rdr b hb)=X at h
   unfold decB at h
   rw[if_neg (by decide),if_neg (by decide),if_neg (by decide),if_pos rfl] at h
   split at h
   · unfold ku at h
     split at h<;>(have e:=congrArg (fun x:Sm=>x.h.k) (fin_inl h);exact e)
   · unfold ku at h
     split at h<;>(have e:=congrArg (fun x:Sm=>x.h.k) (fin_inl h);exact e)
theorem rc_mk'{r:Rc}(h0:0≤r.er∧r.er<3)(hst:r.st=1∨r.st=2)(h1:r.la.ok=true)(h2:r.dy.ok=true)(h3:r.la.k=2∨r.dy=Dy.z):r.ok=true:=by
 unfold Rc.ok
 rw[decide_eq_true h0,if_neg (by omega),if_pos hst,h1,h2,decide_eq_true h3]
 rfl
theorem refR_ok{r:Rc}(h:r.ok=true):(wW r).ok=true:=by
 obtain⟨h1,h2,h3,h4⟩:=rc_ok h
 unfold wW
 split
 · by_cases h0:r.st=0
   · obtain⟨h5,h6⟩:=h3 h0
     show Rc.ok ⟨r.st,r.la,r.dy,r.er+1⟩=true
     rw[h0,h5,h6]
     unfold Rc.ok
     rw[decide_eq_true (by dsimp only;omega)]
     rfl
   · obtain⟨h5,h6,h7⟩:=h4 (by omega)
     exact rc_mk' (by dsimp only;omega) (by dsimp only;omega) h5 h6 h7
 · split
   · rfl
   · obtain⟨h5,h6,h7⟩:=h4 (by omega)
     exact rc_mk' (by dsimp only;omega) (by dsimp only;omega) h5 h6 h7
theorem bld_ok{h:Hd}{p:List UInt8}(hb:(zh h p).2=0):h.ok=true:=by
 unfold zh at hb
 split at hb
 · assumption
 · cases hb
theorem whole_d{s:Sm}(hs:s.ok=true)(hf:s.f=4∨s.f=5):s.d.ok=true∧(s.h.k=2∨s.d=Dy.z):=by
 obtain⟨-,h1,h2,h3,-⟩:=s.big hs hf
 refine⟨h2,?_⟩
 rcases ok_k h1 with hk|hk
 · obtain⟨e1,e2⟩:=h3 hk
   refine .inr ?_
   generalize s.d=d at e1 e2
   obtain⟨a,c⟩:=d
   obtain rfl:a=0:=e1
   obtain rfl:c=0:=e2
   rfl
 · exact .inl hk
section
variable {d:De}{b:List UInt8}{hb:b.length≤140737488355328}
theorem decomp_of(hd:d.ok=true):((qq d b hb).d=d∧((qq d b hb).e≠0∨(qp b).2.1=6)) ∨
   (∃(c f:Int) (r:Rc),0≤c∧c<16∧d.cx.getD c.toNat Rc.z=r∧r.ok=true∧(qq d b hb).d=d.set c (wW r)∧(qq d b hb).e≠0) ∨
   (∃(c f:Int) (r:Rc) (s:Sm) (h:Hd) (p:List UInt8) (fb:List Fb),qp b=(c,f,0)∧f≠6∧0≤c∧c<16∧d.cx.getD c.toNat Rc.z=r∧r.ok=true∧¬r.st<xE f∧qU b hb r.la.k (decide (r.la.ck≠0))=.inl s∧s.f=f∧s.ok=true∧xM d.m r s=(h,true)∧zh h s.pl=(p,0)∧qq d b hb=⟨d.set c (ky r s h),p,fb,0⟩):=by
 obtain⟨⟨c,f,e⟩,hp⟩:∃y,qp b=y:=⟨_,rfl⟩
 by_cases he:e=0
 · subst he
   obtain⟨hc,hf⟩:=peek_rng hp
   by_cases h6:f=6
   · subst h6
     refine .inl ⟨?_,.inr (by rw[hp])⟩
     by_cases h7:dse (qU b hb 0 false)=0∧(dsm (qU b hb 0 false)).pl≠[]
     · rw[dcp_6y hd hp h7]
     · rw[dcp_6n hd hp h7]
   · obtain⟨-,hl,hr⟩:=vq hd hc.1 hc.2
     obtain⟨r,hr0⟩:∃r,d.cx.getD c.toNat Rc.z=r:=⟨_,rfl⟩
     rw[hr0] at hr
     by_cases hs:r.st<xE f
     · refine .inl ⟨?_,.inl ?_⟩<;>rw[dcp_c hd hp h6 hr0 hs]
       show(8:Int)≠0
       decide
     · by_cases hE:dse (qU b hb r.la.k (decide (r.la.ck≠0)))=0
       · obtain⟨s,h1,h2,h3,h4⟩:=dec_good hE
         have hg:=dcp_g hd hp h6 hr0 hs h1
         have hsf:s.f=f:=by rw[hp] at h4;exact(congrArg (fun y=>y.2.1) h4).symm
         obtain⟨⟨h,ok⟩,hx⟩:∃y,xM d.m r s=y:=⟨_,rfl⟩
         cases ok with
         | false =>
           refine .inr (.inl ⟨c,f,r,hc.1,hc.2,hr0,hr,?_,?_⟩)<;>rw[hg,decP_f hx]
           show(6:Int)≠0
           decide
         | true =>
           by_cases hB:(zh h s.pl).2=0
           · refine .inr (.inr ⟨c,f,r,s,h,_,_,hp,h6,hc.1,hc.2,hr0,hr,hs,h1,hsf,h2,hx,?_,hg.trans (decP_g hx hB)⟩)
             rw[←hB]
           · refine .inl ⟨?_,.inl ?_⟩<;>rw[hg,decP_b hx hB]
             exact hB
       · refine .inl ⟨?_,.inl ?_⟩<;>rw[dcp_d hd hp h6 hr0 hs hE]
         exact hE
 · refine .inl ⟨?_,.inl ?_⟩<;>rw[dcp_e hd hp he]
   exact he
theorem de_seti{c:Int}{r:Rc}(h0:0≤c)(hd:d.ok=true)(hr:r.ok=true):(d.set c r).ok=true:=by
 obtain⟨i,rfl⟩:=Int.eq_ofNat_of_zero_le h0
 exact de_set hd hr
theorem acc_ok{c f:Int}{r:Rc}{s:Sm}{h:Hd}{p:List UInt8}(hr:r.ok=true)(h6:f≠6)(hs:¬r.st<xE f)(hD:qU b hb r.la.k (decide (r.la.ck≠0))=.inl s)(hf:s.f=f)(ho:s.ok=true)(hx:xM d.m r s=(h,true))(hB:zh h s.pl=(p,0)):(ky r s h).ok=true∧(r.st≠0→f≠5→qy h r.la=true)∧j6 f h=s.ck:=by
 obtain⟨n,hn,hfit⟩:=reb_of hx
 obtain⟨h1,h2,h3,h4⟩:=rc_ok hr
 have hsm:r.st≠0→f≠5→qy h r.la=true:=fun h0 h5=>by
   obtain⟨k1,k2,k3⟩:=h4 (by omega)
   rw[hn]
   exact hdr_same k1 k2 (by omega) (fun e=>dec_k4 hD e)
 refine⟨?_,hsm,?_⟩
 · have hk:=bld_ok (h:=h) (p:=s.pl) (by rw[hB])
   obtain⟨hf15,-⟩:=sm_n ho (by omega)
   by_cases hw:s.f=4∨s.f=5
   · obtain⟨w1,w2⟩:=whole_d ho hw
     have e:(ky r s h).dy=s.d:=by unfold ky;dsimp only;rw[if_pos hw]
     refine rc_mk rfl rfl hk (by rw[e];exact w1) ?_
     rw[e]
     show h.k=2∨s.d=Dy.z
     have hkk:h.k=s.h.k:=by
       rw[hn]
       unfold zD
       split
       · rfl
       · rw[if_pos (by omega)]
     rw[hkk]
     exact w2
   · have h22:r.st=2:=by
       unfold xE at hs
       rw[if_neg (by omega),if_neg (by omega)] at hs
       omega
     obtain⟨k1,k2,k3⟩:=h4 (by omega)
     have e:(ky r s h).dy=r.dy:=by unfold ky;dsimp only;rw[if_neg hw]
     refine rc_mk rfl rfl hk (by rw[e];exact k2) ?_
     rw[e]
     show h.k=2∨r.dy=Dy.z
     rw[(qV.1 (hsm (by omega) (by omega))).1]
     exact k3
 · unfold kk at hfit
   rw[←hf]
   exact of_decide_eq_true hfit
theorem decomp_ok(hd:d.ok=true):(qq d b hb).d.ok=true:=by
 rcases decomp_of (b:=b) (hb:=hb) hd with ⟨h,-⟩|⟨c,f,r,h0,-,-,hr,h,-⟩|⟨c,f,r,s,h,p,fb,hp,h6,h0,-,-,hr,hs,hD,hf,ho,hx,hB,h⟩
 · rw[h];exact hd
 · rw[h];exact de_seti h0 hd (refR_ok hr)
 · rw[h];exact de_seti h0 hd (acc_ok (c:=c) hr h6 hs hD hf ho hx hB).1
end
open Go.RowKit
theorem dcR_d{d:De}{b:List UInt8}(hd:d.ok=true):(dcR d b).d.ok=true∧(dcR d b).b.length≤1:=by
 unfold dcR
 split
 · exact⟨decomp_ok hd,dec_bl⟩
 · exact⟨hd,Nat.zero_le _⟩
theorem xL{ps:List (List UInt8)}{x:Hk}{n:Nat}(h:wL ps n x)(hps:∀b∈ps,qY b)(k a:Int):wL ps (n+1) (kC ps x k a)∧(kC ps x k a).way.length≤x.way.length+1∧(kC ps x k a).back.length≤x.back.length+1∧(kC ps x k a).out.length≤x.out.length+1:=by
 obtain⟨hc,hd,hn,hw,hbk0,hwl,hbl,hol⟩:=h
 have same:wL ps (n+1) x∧x.way.length≤x.way.length+1∧x.back.length≤x.back.length+1∧x.out.length≤x.out.length+1:=⟨⟨hc,hd,hn,hw,hbk0,by omega,by omega,by omega⟩,by omega,by omega,by omega⟩
 unfold kC
 split
 · unfold zU
   split
   · exact same
   · rename_i hne
     have hlt:x.nx<ps.length:=by omega
     have hm:ps.getD x.nx []∈ps:=by rw[List.getD_eq_getElem?_getD,List.getElem?_eq_getElem hlt];exact List.getElem_mem hlt
     obtain⟨g1,g2⟩:=hps _ hm
     have hk:=compr_ok hc (b:=ps.getD x.nx []) (by rintro(k|k);exact g1 k;omega)
     have hk2:=hcompr_len hc g1 g2
     rw[if_pos hk.2.1]
     refine⟨⟨hk.1,hd,by show x.nx+1≤ps.length;omega,fun m hm2=>?_,hbk0,?_,by show x.back.length≤n+1;omega,by show x.out.length≤n+1;omega⟩,?_,by show x.back.length≤_;omega,by show x.out.length≤_;omega⟩
     · have hm2:m∈x.way++[(x.nx,(qw x.c (ps.getD x.nx [])).1.2)]:=hm2
       rw[List.mem_append] at hm2
       rcases hm2 with hm2|hm2
       · exact hw m hm2
       · simp at hm2
         subst hm2
         exact hk2
     · show(x.way++[_]).length≤n+1
       rw[List.length_append,List.length_singleton];omega
     · show(x.way++[_]).length≤x.way.length+1
       rw[List.length_append,List.length_singleton];omega
 · split
   · unfold xV
     split
     · exact same
     · rename_i m w hway
       rw[hway] at hw hwl
       have hdd:=dcR_d (b:=m.2) hd
       have hl1:(x.back++(dcR x.d m.2).b.map (fun f=>(jz f).1)).length≤x.back.length+1:=by rw[List.length_append,List.length_map];omega
       have hl2:(x.out++[(⟨m.1,(dcR x.d m.2).p,(dcR x.d m.2).e⟩:Dv)]).length=x.out.length+1:=by rw[List.length_append,List.length_singleton]
       simp only[List.length_cons] at hwl
       refine⟨⟨hc,hdd.1,hn,fun y hy=>hw y (List.mem_cons_of_mem _ hy),fun b hb=>(List.mem_append.1 hb).elim (hbk0 b) (fun hb=>by obtain⟨f,-,rfl⟩:=List.mem_map.1 hb;exact encF_len f),by show w.length≤n+1;omega,by show(x.back++_).length≤n+1;omega,by show(x.out++_).length≤n+1;omega⟩,by show w.length≤_;rw[hway,List.length_cons];omega,hl1,by show(x.out++_).length≤_;omega⟩
   · split
     · unfold vg
       refine⟨⟨hc,hd,hn,fun m hm=>hw m (List.mem_of_mem_drop hm),hbk0,?_,by show x.back.length≤n+1;omega,by show x.out.length≤n+1;omega⟩,?_,by show x.back.length≤_;omega,by show x.out.length≤_;omega⟩
       · show(x.way.drop 1).length≤n+1
         rw[List.length_drop];omega
       · show(x.way.drop 1).length≤_
         rw[List.length_drop];omega
     · split
       · unfold flpR
         split
         · exact same
         · rename_i m w hway
           rw[hway] at hw hwl
           refine⟨⟨hc,hd,hn,fun y hy=>?_,hbk0,?_,by show x.back.length≤n+1;omega,by show x.out.length≤n+1;omega⟩,?_,by show x.back.length≤_;omega,by show x.out.length≤_;omega⟩
           · rcases List.mem_cons.1 hy with rfl|hy
             · show 1≤(flpB m.2 a).length∧_
               rw[flpB_len]
               exact hw m List.mem_cons_self
             · exact hw y (List.mem_cons_of_mem _ hy)
           · show w.length+1≤n+1
             simp only[List.length_cons] at hwl;omega
           · show w.length+1≤_
             rw[hway,List.length_cons];omega
       · split
         · unfold yJ
           split
           · exact same
           · rename_i b r hbk
             rw[hbk] at hbl hbk0
             simp only[List.length_cons] at hbl
             refine⟨⟨?_,hd,hn,hw,fun y hy=>hbk0 y (List.mem_cons_of_mem _ hy),by show x.way.length≤n+1;omega,by show r.length≤n+1;omega,by show x.out.length≤n+1;omega⟩,by show x.way.length≤_;omega,by show r.length≤_;rw[hbk,List.length_cons];omega,by show x.out.length≤_;omega⟩
             show(bakC x.c b).ok=true
             unfold bakC
             split
             · rename_i hb
               exact(app_ok hc hb.2).1
             · exact hc
         · split
           · unfold lbkR
             refine⟨⟨hc,hd,hn,hw,fun y hy=>hbk0 y (List.mem_of_mem_drop hy),by show x.way.length≤n+1;omega,?_,by show x.out.length≤n+1;omega⟩,by show x.way.length≤_;omega,?_,by show x.out.length≤_;omega⟩
             · show(x.back.drop 1).length≤n+1
               rw[List.length_drop];omega
             · show(x.back.drop 1).length≤_
               rw[List.length_drop];omega
           · exact same
open Go.RowKit
abbrev St2(x:Hk)(n m:Nat):Type:=Qs x.way n×Qs x.back m
theorem los_nil{x:Hk}(h:x.way=[]):vg x=x:=by
 obtain⟨c,d,n,w,b,o⟩:=x
 dsimp only at h
 subst h
 rfl
theorem lbk_nil{x:Hk}(h:x.back=[]):lbkR x=x:=by
 obtain⟨c,d,n,w,b,o⟩:=x
 dsimp only at h
 subst h
 rfl
theorem send_b(ps:List (List UInt8))(x:Hk):(zU ps x).back=x.back∧(zU ps x).out=x.out:=by
 unfold zU
 split
 · exact⟨rfl,rfl⟩
 · split<;>exact⟨rfl,rfl⟩
theorem del_w{x:Hk}{wl:List (Nat×List UInt8)}{j:Nat}(h:x.way=wl.drop j)(hj:j≤wl.length):(xV x).way=wl.drop (delJ x j)∧delJ x j≤wl.length∧(xV x).out.length≤x.out.length+1:=by
 unfold xV delJ
 split
 · rename_i hw
   rw[if_pos hw]
   exact⟨h,hj,Nat.le_succ _⟩
 · rename_i m w hw
   rw[if_neg (by rw[hw];simp)]
   obtain⟨h1,-,h3⟩:=drop_cons (0,[]) (hw.symm.trans h)
   exact⟨h3,h1,by show(x.out++[_]).length≤_;rw[List.length_append];exact Nat.le_refl _⟩
theorem hst_1(x:Hk)(ps:List (List UInt8))(L W B O:Nm)(wl:List (Nat×List UInt8))(j:Nat)(hw:x.way=wl.drop j)(hj:j≤wl.length)(bl:List (List UInt8))(jb:Nat)(hb:x.back=bl.drop jb)(hjb:jb≤bl.length)(hwl:wl.length≤90000)(hbl:bl.length≤90000)(n:Nat)(hn:n≤90000)(hS:wL ps n x)(hps:∀b∈ps,qY b)(hpl:ps.length≤90000)(hnd:[L,W,B,O].Nodup)(a:Int) :
   LSpecF (St2 (zU ps x) (wl.length+1) (bl.length+1)) Tryz.prog gm 32 [.ptr L 0,.agg [iAV 1,iAV a]] [(L,lkT x ps (.vw W (j*2) (wl.length-j) 2) (.vw B jb (bl.length-jb) 1) (.vw O 0 x.out.length 3)),(W,msT wl),(B,bsT bl),(O,dvT x.out)] 3
     (fun i qs=>(.tup [],[(L,lkT (zU ps x) ps (.vw (qh0 qs) (i.1.1.2*2) (i.1.1.1.length-i.1.1.2) 2) (.vw (qh1 qs) i.2.1.2 (i.2.1.1.length-i.2.1.2) 1) (.vw (qh2 qs) 0 (zU ps x).out.length 3)),(qh0 qs,msT i.1.1.1),(qh1 qs,bsT i.2.1.1),(qh2 qs,dvT (zU ps x).out)])):=by
 have hsb:=send_b ps x
 have hol:x.out.length≤90000:=Nat.le_trans hS.ol hn
 have hc:=hsend_c x ps (.vw B jb (bl.length-jb) 1) (.vw O 0 x.out.length 3) L W wl j hw hj (by omega) hS.c hS.nx hps (by omega)
 have hB:(zU ps x).back=bl.drop jb:=hsb.1.trans hb
 have hO:=hsb.2
 have hWl:(zU ps x).way.length≤wl.length+1:=by
   have:=(xL hS hps 1 0).2.1
   rw[hw,List.length_drop] at this
   exact Nat.le_trans this (by omega)
 generalize zU ps x=y at *
 rw[hO]
 refine LSpecF.introN tQ ((⟨(y.way,0),rfl,Nat.zero_le _,hWl⟩,⟨(bl,jb),hB.symm,hjb,Nat.le_succ _⟩)) (fun qs=>[L,qh0 qs,qh1 qs,qh2 qs]) ([L,W,B,O]) Tryz.func32 rfl (by kernel_rfl) (by simp) (fun _ _=>rfl) rfl (nm_3 L W B O) ?_
 refine AWpL.sound tQ [] _ _ _ _ ?_
 conv=>whnf
 repeat'((first|(show LC _ _ 50 _ _ _;refine LC.mkF hc [] (.refl _) ?_;show LTake _ _ _;(repeat first|refine goH ?_|apply LH.here|apply LH.next);refine And.intro rfl ?_;(repeat first|refine goH ?_|apply LH.here|apply LH.next);refine And.intro rfl ?_;show ∀i,LFreshN _ _;rintro⟨⟨wl2,j2⟩,g1,g2,g3⟩;refine LFreshN.one fun W2=>?_;(try dsimp only))|refine T.s ?_|((first|apply goB|apply AB.dec|apply AB.gen)<;>intro h<;>try(exfalso;omega))|refine LQ.mk fun r=>?_|exact T.z|fail)<;>conv=>whnf)
 all_goals(try dsimp only)
 all_goals first
   | contradiction
   | (refine⟨(⟨(wl2,j2),g1,g2,g3⟩,⟨(bl,jb),hB.symm,hjb,Nat.le_succ _⟩),RetLN.val [W2,B,O] rfl ?_ rfl ?_⟩
      · show LH _ _ _
        (repeat first|refine goH ?_|apply LH.here|apply LH.next);trivial
      · (repeat' first|exact LB.nil|(with_reducible exact LB.refl)|(apply LB.cons;(repeat first|refine goH ?_|apply LH.here|apply LH.next);refine And.intro ?_ ?_;(focus(try(first|(with_reducible rfl)|(refine congrArg (Pl.mk _) ?_;(first|rfl|(simp;done)))|rfl|(with_reducible refine congrArg (Pl.mk _) ?_)))))))
   | trace_state
theorem hst_3(x:Hk)(ps:List (List UInt8))(L W B O:Nm)(wl:List (Nat×List UInt8))(j:Nat)(hw:x.way=wl.drop j)(hj:j≤wl.length)(bl:List (List UInt8))(jb:Nat)(hb:x.back=bl.drop jb)(hjb:jb≤bl.length)(hwl:wl.length≤90000)(hbl:bl.length≤90000)(n:Nat)(hn:n≤90000)(hS:wL ps n x)(hps:∀b∈ps,qY b)(hpl:ps.length≤90000)(hnd:[L,W,B,O].Nodup)(a:Int) :
   LSpecF (St2 (xV x) (wl.length+1) (bl.length+1)) Tryz.prog gm 32 [.ptr L 0,.agg [iAV 3,iAV a]] [(L,lkT x ps (.vw W (j*2) (wl.length-j) 2) (.vw B jb (bl.length-jb) 1) (.vw O 0 x.out.length 3)),(W,msT wl),(B,bsT bl),(O,dvT x.out)] 3
     (fun i qs=>(.tup [],[(L,lkT (xV x) ps (.vw (qh0 qs) (i.1.1.2*2) (i.1.1.1.length-i.1.1.2) 2) (.vw (qh1 qs) i.2.1.2 (i.2.1.1.length-i.2.1.2) 1) (.vw (qh2 qs) 0 (xV x).out.length 3)),(qh0 qs,msT i.1.1.1),(qh1 qs,bsT i.2.1.1),(qh2 qs,dvT (xV x).out)])):=by
 have hol:x.out.length≤90000:=Nat.le_trans hS.ol hn
 have hc:=hdel_c x ps L W B O wl j hw hj bl jb hb hjb hbl hol (fun m hm=>(hS.way m hm).2) hnd
 obtain⟨hw1,hw2,-⟩:=del_w hw hj
 have hBl:(xV x).back.length≤bl.length+1:=by
   have:=(xL hS hps 3 0).2.2.1
   rw[hb,List.length_drop] at this
   exact Nat.le_trans this (by omega)
 generalize xV x=y at *
 generalize delJ x j=j2 at *
 refine LSpecF.introN tQ ((⟨(wl,j2),hw1.symm,hw2,Nat.le_succ _⟩,⟨(y.back,0),rfl,Nat.zero_le _,hBl⟩)) (fun qs=>[L,qh0 qs,qh1 qs,qh2 qs]) ([L,W,B,O]) Tryz.func32 rfl (by kernel_rfl) (by simp) (fun _ _=>rfl) rfl (nm_3 L W B O) ?_
 refine AWpL.sound tQ [] _ _ _ _ ?_
 conv=>whnf
 repeat'((first|(show LC _ _ 51 _ _ _;refine LC.mkF hc [] (.refl _) ?_;show LTake _ _ _;(repeat first|refine goH ?_|apply LH.here|apply LH.next);refine And.intro rfl ?_;(repeat first|refine goH ?_|apply LH.here|apply LH.next);refine And.intro rfl ?_;(repeat first|refine goH ?_|apply LH.here|apply LH.next);refine And.intro rfl ?_;(repeat first|refine goH ?_|apply LH.here|apply LH.next);refine And.intro rfl ?_;show ∀i,LFreshN _ _;rintro⟨⟨bl2,jb2⟩,g1,g2,g3⟩;refine LFreshN.two fun B2 O2=>?_;(try dsimp only))|refine T.s ?_|((first|apply goB|apply AB.dec|apply AB.gen)<;>intro h<;>try(exfalso;omega))|refine LQ.mk fun r=>?_|exact T.z|fail)<;>conv=>whnf)
 all_goals(try dsimp only)
 all_goals first
   | contradiction
   | (refine⟨(⟨(wl,j2),hw1.symm,hw2,Nat.le_succ _⟩,⟨(bl2,jb2),g1,g2,g3⟩),RetLN.val [W,B2,O2] rfl ?_ rfl ?_⟩
      · show LH _ _ _
        (repeat first|refine goH ?_|apply LH.here|apply LH.next);trivial
      · (repeat' first|exact LB.nil|(with_reducible exact LB.refl)|(apply LB.cons;(repeat first|refine goH ?_|apply LH.here|apply LH.next);refine And.intro ?_ ?_;(focus(try(first|(with_reducible rfl)|(refine congrArg (Pl.mk _) ?_;(first|rfl|(simp;done)))|rfl|(with_reducible refine congrArg (Pl.mk _) ?_)))))))
   | trace_state
theorem hst_4(x:Hk)(ps:List (List UInt8))(L W B O:Nm)(wl:List (Nat×List UInt8))(j:Nat)(hw:x.way=wl.drop j)(hj:j≤wl.length)(bl:List (List UInt8))(jb:Nat)(hb:x.back=bl.drop jb)(hjb:jb≤bl.length)(hwl:wl.length≤90000)(hbl:bl.length≤90000)(n:Nat)(hn:n≤90000)(hS:wL ps n x)(hps:∀b∈ps,qY b)(hpl:ps.length≤90000)(hnd:[L,W,B,O].Nodup)(a:Int) :
   LSpecF (St2 (vg x) (wl.length+1) (bl.length+1)) Tryz.prog gm 32 [.ptr L 0,.agg [iAV 4,iAV a]] [(L,lkT x ps (.vw W (j*2) (wl.length-j) 2) (.vw B jb (bl.length-jb) 1) (.vw O 0 x.out.length 3)),(W,msT wl),(B,bsT bl),(O,dvT x.out)] 3
     (fun i qs=>(.tup [],[(L,lkT (vg x) ps (.vw (qh0 qs) (i.1.1.2*2) (i.1.1.1.length-i.1.1.2) 2) (.vw (qh1 qs) i.2.1.2 (i.2.1.1.length-i.2.1.2) 1) (.vw (qh2 qs) 0 (vg x).out.length 3)),(qh0 qs,msT i.1.1.1),(qh1 qs,bsT i.2.1.1),(qh2 qs,dvT (vg x).out)])):=by
 rcases Nat.lt_or_ge j wl.length with h|h
 · have hn2:[L,W].Nodup:=by simp at hnd ⊢;exact hnd.1.1
   have ht:=qtake_m (G:=gm) x ps (.vw B jb (bl.length-jb) 1) (.vw O 0 x.out.length 3) L W wl j h hn2
   have hw1:(vg x).way=wl.drop (j+1):=by show x.way.drop 1=_;rw[hw,List.drop_drop]
   refine LSpecF.introN tQ ((⟨(wl,j+1),hw1.symm,h,Nat.le_succ _⟩,⟨(bl,jb),hb.symm,hjb,Nat.le_succ _⟩)) (fun qs=>[L,qh0 qs,qh1 qs,qh2 qs]) ([L,W,B,O]) Tryz.func32 rfl (by kernel_rfl) (by simp) (fun _ _=>rfl) rfl (nm_3 L W B O) ?_
   refine AWpL.sound tQ [] _ _ _ _ ?_
   conv=>whnf
   repeat'((first|(show LC _ _ _ _ _ _;first|(refine LC.two (fun hne=>ht) ?_;(repeat first|refine goH ?_|apply LH.here|apply LH.next);refine⟨rfl,?_⟩;(repeat first|refine goH ?_|apply LH.here|apply LH.next);refine⟨rfl,?_⟩)|refine goE ?_)|refine T.s ?_|((first|apply goB|apply AB.dec|apply AB.gen)<;>intro h<;>try(exfalso;omega))|refine LQ.mk fun r=>?_|exact T.z|fail)<;>conv=>whnf)
   all_goals(try dsimp only)
   all_goals first
     | contradiction
     | (refine⟨(⟨(wl,j+1),hw1.symm,h,Nat.le_succ _⟩,⟨(bl,jb),hb.symm,hjb,Nat.le_succ _⟩),RetLN.val [W,B,O] rfl ?_ rfl ?_⟩
        · show LH _ _ _
          (repeat first|refine goH ?_|apply LH.here|apply LH.next);trivial
        · (repeat' first|exact LB.nil|(with_reducible exact LB.refl)|(apply LB.cons;(repeat first|refine goH ?_|apply LH.here|apply LH.next);refine And.intro ?_ ?_;(focus(try(first|(with_reducible rfl)|(refine congrArg (Pl.mk _) ?_;(first|rfl|(simp;done)))|rfl|(with_reducible refine congrArg (Pl.mk _) ?_)))))))
     | trace_state
 · have h0:wl.length-j=0:=by omega
   have hx:x.way=[]:=by rw[hw];exact List.drop_eq_nil_of_le h
   have hy:(vg x)=x:=los_nil hx
   rw[hy,h0]
   refine LSpecF.introN tQ ((⟨(wl,j),hw.symm,hj,Nat.le_succ _⟩,⟨(bl,jb),hb.symm,hjb,Nat.le_succ _⟩)) (fun qs=>[L,qh0 qs,qh1 qs,qh2 qs]) ([L,W,B,O]) Tryz.func32 rfl (by kernel_rfl) (by simp) (fun _ _=>rfl) rfl (nm_3 L W B O) ?_
   refine AWpL.sound tQ [] _ _ _ _ ?_
   conv=>whnf
   repeat'((first|(show LC _ _ _ _ _ _;first|(apply LC.upd (qtake_e x ps _ _ L W (j*2));(repeat first|refine goH ?_|apply LH.here|apply LH.next);refine⟨rfl,?_⟩)|refine goE ?_)|refine T.s ?_|((first|apply goB|apply AB.dec|apply AB.gen)<;>intro h<;>try(exfalso;omega))|refine LQ.mk fun r=>?_|exact T.z|fail)<;>conv=>whnf)
   all_goals(try dsimp only)
   all_goals first
     | contradiction
     | (refine⟨(⟨(wl,j),hw.symm,hj,Nat.le_succ _⟩,⟨(bl,jb),hb.symm,hjb,Nat.le_succ _⟩),RetLN.val [W,B,O] rfl ?_ rfl ?_⟩
        · show LH _ _ _
          (repeat first|refine goH ?_|apply LH.here|apply LH.next);trivial
        · rw[h0];(repeat' first|exact LB.nil|(with_reducible exact LB.refl)|(apply LB.cons;(repeat first|refine goH ?_|apply LH.here|apply LH.next);refine And.intro ?_ ?_;(focus(try(first|(with_reducible rfl)|(refine congrArg (Pl.mk _) ?_;(first|rfl|(simp;done)))|rfl|(with_reducible refine congrArg (Pl.mk _) ?_)))))))
     | trace_state
theorem hst_6(x:Hk)(ps:List (List UInt8))(L W B O:Nm)(wl:List (Nat×List UInt8))(j:Nat)(hw:x.way=wl.drop j)(hj:j≤wl.length)(bl:List (List UInt8))(jb:Nat)(hb:x.back=bl.drop jb)(hjb:jb≤bl.length)(hwl:wl.length≤90000)(hbl:bl.length≤90000)(n:Nat)(hn:n≤90000)(hS:wL ps n x)(hps:∀b∈ps,qY b)(hpl:ps.length≤90000)(hnd:[L,W,B,O].Nodup)(a:Int) :
   LSpecF (St2 (flpR a x) (wl.length+1) (bl.length+1)) Tryz.prog gm 32 [.ptr L 0,.agg [iAV 6,iAV a]] [(L,lkT x ps (.vw W (j*2) (wl.length-j) 2) (.vw B jb (bl.length-jb) 1) (.vw O 0 x.out.length 3)),(W,msT wl),(B,bsT bl),(O,dvT x.out)] 3
     (fun i qs=>(.tup [],[(L,lkT (flpR a x) ps (.vw (qh0 qs) (i.1.1.2*2) (i.1.1.1.length-i.1.1.2) 2) (.vw (qh1 qs) i.2.1.2 (i.2.1.1.length-i.2.1.2) 1) (.vw (qh2 qs) 0 (flpR a x).out.length 3)),(qh0 qs,msT i.1.1.1),(qh1 qs,bsT i.2.1.1),(qh2 qs,dvT (flpR a x).out)])):=by
 rcases Nat.lt_or_ge j wl.length with h|h
 · have hn2:[L,W].Nodup:=by simp at hnd ⊢;exact hnd.1.1
   have hd:x.way=wl.getD j (0,[])::wl.drop (j+1):=by rw[hw,List.drop_eq_getElem_cons h];simp[List.getD_eq_getElem?_getD,h]
   have ht:=hflip_c (G:=gm) x ps (.vw B jb (bl.length-jb) 1) (.vw O 0 x.out.length 3) L W wl j h a (hS.way _ (by rw[hd];exact List.mem_cons_self)) hn2
   have hy:flpR a x={ x with way:=((wl.getD j (0,[])).1,flpB (wl.getD j (0,[])).2 a)::wl.drop (j+1) }:=by unfold flpR;rw[hd]
   obtain⟨m,hm⟩:∃m,((wl.getD j (0,[])).1,flpB (wl.getD j (0,[])).2 a)=m:=⟨_,rfl⟩
   rw[hm] at ht hy
   have hw1:(wl.set j m).drop j=m::wl.drop (j+1):=by
     rw[List.drop_eq_getElem_cons (by rw[List.length_set];exact h),List.getElem_set_self,List.drop_set_of_lt (by omega)]
   rw[hy]
   have hl:(wl.set j m).length=wl.length:=List.length_set
   refine LSpecF.introN tQ ((⟨(wl.set j m,j),hw1,by rw[hl];exact hj,by rw[hl];exact Nat.le_succ _⟩,⟨(bl,jb),hb.symm,hjb,Nat.le_succ _⟩)) (fun qs=>[L,qh0 qs,qh1 qs,qh2 qs]) ([L,W,B,O]) Tryz.func32 rfl (by kernel_rfl) (by simp) (fun _ _=>rfl) rfl (nm_3 L W B O) ?_
   refine AWpL.sound tQ [] _ _ _ _ ?_
   conv=>whnf
   repeat'((first|(show LC _ _ _ _ _ _;first|(refine LC.two (fun hne=>ht) ?_;(repeat first|refine goH ?_|apply LH.here|apply LH.next);refine⟨rfl,?_⟩;(repeat first|refine goH ?_|apply LH.here|apply LH.next);refine⟨rfl,?_⟩)|refine goE ?_)|refine T.s ?_|((first|apply goB|apply AB.dec|apply AB.gen)<;>intro h<;>try(exfalso;omega))|refine LQ.mk fun r=>?_|exact T.z|fail)<;>conv=>whnf)
   all_goals(try dsimp only)
   all_goals have hI:St2 { x with way:=m::wl.drop (j+1) } (wl.length+1) (bl.length+1):=(⟨(wl.set j m,j),hw1,by rw[hl];exact hj,by rw[hl];exact Nat.le_succ _⟩,⟨(bl,jb),hb.symm,hjb,Nat.le_succ _⟩)
   all_goals first
     | contradiction
     | (refine⟨(⟨(wl.set j m,j),hw1,by rw[hl];exact hj,by rw[hl];exact Nat.le_succ _⟩,⟨(bl,jb),hb.symm,hjb,Nat.le_succ _⟩),RetLN.val [W,B,O] rfl ?_ rfl ?_⟩
        · show LH _ _ _
          (repeat first|refine goH ?_|apply LH.here|apply LH.next);trivial
        · dsimp only;rw[hl];(repeat' first|exact LB.nil|(with_reducible exact LB.refl)|(apply LB.cons;(repeat first|refine goH ?_|apply LH.here|apply LH.next);refine And.intro ?_ ?_;(focus(try(first|(with_reducible rfl)|(refine congrArg (Pl.mk _) ?_;(first|rfl|(simp;done)))|rfl|(with_reducible refine congrArg (Pl.mk _) ?_)))))))
     | trace_state
 · have h0:wl.length-j=0:=by omega
   have hx:x.way=[]:=by rw[hw];exact List.drop_eq_nil_of_le h
   have hy:(flpR a x)=x:=by unfold flpR;rw[hx]
   rw[hy,h0]
   refine LSpecF.introN tQ ((⟨(wl,j),hw.symm,hj,Nat.le_succ _⟩,⟨(bl,jb),hb.symm,hjb,Nat.le_succ _⟩)) (fun qs=>[L,qh0 qs,qh1 qs,qh2 qs]) ([L,W,B,O]) Tryz.func32 rfl (by kernel_rfl) (by simp) (fun _ _=>rfl) rfl (nm_3 L W B O) ?_
   refine AWpL.sound tQ [] _ _ _ _ ?_
   conv=>whnf
   repeat'((first|(show LC _ _ _ _ _ _;first|(apply LC.upd (hflip_e x ps _ _ L W (j*2) a);(repeat first|refine goH ?_|apply LH.here|apply LH.next);refine⟨rfl,?_⟩)|refine goE ?_)|refine T.s ?_|((first|apply goB|apply AB.dec|apply AB.gen)<;>intro h<;>try(exfalso;omega))|refine LQ.mk fun r=>?_|exact T.z|fail)<;>conv=>whnf)
   all_goals(try dsimp only)
   all_goals first
     | contradiction
     | (refine⟨(⟨(wl,j),hw.symm,hj,Nat.le_succ _⟩,⟨(bl,jb),hb.symm,hjb,Nat.le_succ _⟩),RetLN.val [W,B,O] rfl ?_ rfl ?_⟩
        · show LH _ _ _
          (repeat first|refine goH ?_|apply LH.here|apply LH.next);trivial
        · rw[h0];(repeat' first|exact LB.nil|(with_reducible exact LB.refl)|(apply LB.cons;(repeat first|refine goH ?_|apply LH.here|apply LH.next);refine And.intro ?_ ?_;(focus(try(first|(with_reducible rfl)|(refine congrArg (Pl.mk _) ?_;(first|rfl|(simp;done)))|rfl|(with_reducible refine congrArg (Pl.mk _) ?_)))))))
     | trace_state
theorem hst_8(x:Hk)(ps:List (List UInt8))(L W B O:Nm)(wl:List (Nat×List UInt8))(j:Nat)(hw:x.way=wl.drop j)(hj:j≤wl.length)(bl:List (List UInt8))(jb:Nat)(hb:x.back=bl.drop jb)(hjb:jb≤bl.length)(hwl:wl.length≤90000)(hbl:bl.length≤90000)(n:Nat)(hn:n≤90000)(hS:wL ps n x)(hps:∀b∈ps,qY b)(hpl:ps.length≤90000)(hnd:[L,W,B,O].Nodup)(a:Int) :
   LSpecF (St2 (yJ x) (wl.length+1) (bl.length+1)) Tryz.prog gm 32 [.ptr L 0,.agg [iAV 8,iAV a]] [(L,lkT x ps (.vw W (j*2) (wl.length-j) 2) (.vw B jb (bl.length-jb) 1) (.vw O 0 x.out.length 3)),(W,msT wl),(B,bsT bl),(O,dvT x.out)] 3
     (fun i qs=>(.tup [],[(L,lkT (yJ x) ps (.vw (qh0 qs) (i.1.1.2*2) (i.1.1.1.length-i.1.1.2) 2) (.vw (qh1 qs) i.2.1.2 (i.2.1.1.length-i.2.1.2) 1) (.vw (qh2 qs) 0 (yJ x).out.length 3)),(qh0 qs,msT i.1.1.1),(qh1 qs,bsT i.2.1.1),(qh2 qs,dvT (yJ x).out)])):=by
 rcases Nat.lt_or_ge jb bl.length with h|h
 · have hn2:[L,B].Nodup:=by simp at hnd ⊢;simp_all
   have hd:x.back=bl.getD jb []::bl.drop (jb+1):=by rw[hb,List.drop_eq_getElem_cons h];simp[List.getD_eq_getElem?_getD,h]
   have ht:=hbak_c x ps (.vw W (j*2) (wl.length-j) 2) (.vw O 0 x.out.length 3) L B bl jb h (Nat.le_trans (hS.bk _ (by rw[hd];exact List.mem_cons_self)) (by decide)) hn2
   have hy:yJ x={ x with c:=bakC x.c (bl.getD jb []),back:=bl.drop (jb+1) }:=by unfold yJ;rw[hd]
   rw[hy]
   refine LSpecF.introN tQ ((⟨(wl,j),hw.symm,hj,Nat.le_succ _⟩,⟨(bl,jb+1),rfl,h,Nat.le_succ _⟩)) (fun qs=>[L,qh0 qs,qh1 qs,qh2 qs]) ([L,W,B,O]) Tryz.func32 rfl (by kernel_rfl) (by simp) (fun _ _=>rfl) rfl (nm_3 L W B O) ?_
   refine AWpL.sound tQ [] _ _ _ _ ?_
   conv=>whnf
   repeat'((first|(show LC _ _ _ _ _ _;first|(refine LC.two (fun hne=>ht) ?_;(repeat first|refine goH ?_|apply LH.here|apply LH.next);refine⟨rfl,?_⟩;(repeat first|refine goH ?_|apply LH.here|apply LH.next);refine⟨rfl,?_⟩)|refine goE ?_)|refine T.s ?_|((first|apply goB|apply AB.dec|apply AB.gen)<;>intro h<;>try(exfalso;omega))|refine LQ.mk fun r=>?_|exact T.z|fail)<;>conv=>whnf)
   all_goals(try dsimp only)
   all_goals first
     | contradiction
     | (refine⟨(⟨(wl,j),hw.symm,hj,Nat.le_succ _⟩,⟨(bl,jb+1),rfl,h,Nat.le_succ _⟩),RetLN.val [W,B,O] rfl ?_ rfl ?_⟩
        · show LH _ _ _
          (repeat first|refine goH ?_|apply LH.here|apply LH.next);trivial
        · (repeat' first|exact LB.nil|(with_reducible exact LB.refl)|(apply LB.cons;(repeat first|refine goH ?_|apply LH.here|apply LH.next);refine And.intro ?_ ?_;(focus(try(first|(with_reducible rfl)|(refine congrArg (Pl.mk _) ?_;(first|rfl|(simp;done)))|rfl|(with_reducible refine congrArg (Pl.mk _) ?_)))))))
     | trace_state
 · have h0:bl.length-jb=0:=by omega
   have hx:x.back=[]:=by rw[hb];exact List.drop_eq_nil_of_le h
   have hy:(yJ x)=x:=by unfold yJ;rw[hx]
   rw[hy,h0]
   refine LSpecF.introN tQ ((⟨(wl,j),hw.symm,hj,Nat.le_succ _⟩,⟨(bl,jb),hb.symm,hjb,Nat.le_succ _⟩)) (fun qs=>[L,qh0 qs,qh1 qs,qh2 qs]) ([L,W,B,O]) Tryz.func32 rfl (by kernel_rfl) (by simp) (fun _ _=>rfl) rfl (nm_3 L W B O) ?_
   refine AWpL.sound tQ [] _ _ _ _ ?_
   conv=>whnf
   repeat'((first|(show LC _ _ _ _ _ _;first|(apply LC.upd (hbak_e x ps _ _ L B jb);(repeat first|refine goH ?_|apply LH.here|apply LH.next);refine⟨rfl,?_⟩)|refine goE ?_)|refine T.s ?_|((first|apply goB|apply AB.dec|apply AB.gen)<;>intro h<;>try(exfalso;omega))|refine LQ.mk fun r=>?_|exact T.z|fail)<;>conv=>whnf)
   all_goals(try dsimp only)
   all_goals first
     | contradiction
     | (refine⟨(⟨(wl,j),hw.symm,hj,Nat.le_succ _⟩,⟨(bl,jb),hb.symm,hjb,Nat.le_succ _⟩),RetLN.val [W,B,O] rfl ?_ rfl ?_⟩
        · show LH _ _ _
          (repeat first|refine goH ?_|apply LH.here|apply LH.next);trivial
        · rw[h0];(repeat' first|exact LB.nil|(with_reducible exact LB.refl)|(apply LB.cons;(repeat first|refine goH ?_|apply LH.here|apply LH.next);refine And.intro ?_ ?_;(focus(try(first|(with_reducible rfl)|(refine congrArg (Pl.mk _) ?_;(first|rfl|(simp;done)))|rfl|(with_reducible refine congrArg (Pl.mk _) ?_)))))))
     | trace_state
theorem hst_9(x:Hk)(ps:List (List UInt8))(L W B O:Nm)(wl:List (Nat×List UInt8))(j:Nat)(hw:x.way=wl.drop j)(hj:j≤wl.length)(bl:List (List UInt8))(jb:Nat)(hb:x.back=bl.drop jb)(hjb:jb≤bl.length)(hwl:wl.length≤90000)(hbl:bl.length≤90000)(n:Nat)(hn:n≤90000)(hS:wL ps n x)(hps:∀b∈ps,qY b)(hpl:ps.length≤90000)(hnd:[L,W,B,O].Nodup)(a:Int) :
   LSpecF (St2 (lbkR x) (wl.length+1) (bl.length+1)) Tryz.prog gm 32 [.ptr L 0,.agg [iAV 9,iAV a]] [(L,lkT x ps (.vw W (j*2) (wl.length-j) 2) (.vw B jb (bl.length-jb) 1) (.vw O 0 x.out.length 3)),(W,msT wl),(B,bsT bl),(O,dvT x.out)] 3
     (fun i qs=>(.tup [],[(L,lkT (lbkR x) ps (.vw (qh0 qs) (i.1.1.2*2) (i.1.1.1.length-i.1.1.2) 2) (.vw (qh1 qs) i.2.1.2 (i.2.1.1.length-i.2.1.2) 1) (.vw (qh2 qs) 0 (lbkR x).out.length 3)),(qh0 qs,msT i.1.1.1),(qh1 qs,bsT i.2.1.1),(qh2 qs,dvT (lbkR x).out)])):=by
 rcases Nat.lt_or_ge jb bl.length with h|h
 · have hn2:[L,B].Nodup:=by simp at hnd ⊢;simp_all
   have ht:=qtake_b (G:=gm) x ps (.vw W (j*2) (wl.length-j) 2) (.vw O 0 x.out.length 3) L B bl jb h hn2
   have hw1:(lbkR x).back=bl.drop (jb+1):=by show x.back.drop 1=_;rw[hb,List.drop_drop]
   refine LSpecF.introN tQ ((⟨(wl,j),hw.symm,hj,Nat.le_succ _⟩,⟨(bl,jb+1),hw1.symm,h,Nat.le_succ _⟩)) (fun qs=>[L,qh0 qs,qh1 qs,qh2 qs]) ([L,W,B,O]) Tryz.func32 rfl (by kernel_rfl) (by simp) (fun _ _=>rfl) rfl (nm_3 L W B O) ?_
   refine AWpL.sound tQ [] _ _ _ _ ?_
   conv=>whnf
   repeat'((first|(show LC _ _ _ _ _ _;first|(refine LC.two (fun hne=>ht) ?_;(repeat first|refine goH ?_|apply LH.here|apply LH.next);refine⟨rfl,?_⟩;(repeat first|refine goH ?_|apply LH.here|apply LH.next);refine⟨rfl,?_⟩)|refine goE ?_)|refine T.s ?_|((first|apply goB|apply AB.dec|apply AB.gen)<;>intro h<;>try(exfalso;omega))|refine LQ.mk fun r=>?_|exact T.z|fail)<;>conv=>whnf)
   all_goals(try dsimp only)
   all_goals first
     | contradiction
     | (refine⟨(⟨(wl,j),hw.symm,hj,Nat.le_succ _⟩,⟨(bl,jb+1),hw1.symm,h,Nat.le_succ _⟩),RetLN.val [W,B,O] rfl ?_ rfl ?_⟩
        · show LH _ _ _
          (repeat first|refine goH ?_|apply LH.here|apply LH.next);trivial
        · (repeat' first|exact LB.nil|(with_reducible exact LB.refl)|(apply LB.cons;(repeat first|refine goH ?_|apply LH.here|apply LH.next);refine And.intro ?_ ?_;(focus(try(first|(with_reducible rfl)|(refine congrArg (Pl.mk _) ?_;(first|rfl|(simp;done)))|rfl|(with_reducible refine congrArg (Pl.mk _) ?_)))))))
     | trace_state
 · have h0:bl.length-jb=0:=by omega
   have hx:x.back=[]:=by rw[hb];exact List.drop_eq_nil_of_le h
   have hy:(lbkR x)=x:=lbk_nil hx
   rw[hy,h0]
   refine LSpecF.introN tQ ((⟨(wl,j),hw.symm,hj,Nat.le_succ _⟩,⟨(bl,jb),hb.symm,hjb,Nat.le_succ _⟩)) (fun qs=>[L,qh0 qs,qh1 qs,qh2 qs]) ([L,W,B,O]) Tryz.func32 rfl (by kernel_rfl) (by simp) (fun _ _=>rfl) rfl (nm_3 L W B O) ?_
   refine AWpL.sound tQ [] _ _ _ _ ?_
   conv=>whnf
   repeat'((first|(show LC _ _ _ _ _ _;first|(apply LC.upd (qtake_be x ps _ _ L B jb);(repeat first|refine goH ?_|apply LH.here|apply LH.next);refine⟨rfl,?_⟩)|refine goE ?_)|refine T.s ?_|((first|apply goB|apply AB.dec|apply AB.gen)<;>intro h<;>try(exfalso;omega))|refine LQ.mk fun r=>?_|exact T.z|fail)<;>conv=>whnf)
   all_goals(try dsimp only)
   all_goals first
     | contradiction
     | (refine⟨(⟨(wl,j),hw.symm,hj,Nat.le_succ _⟩,⟨(bl,jb),hb.symm,hjb,Nat.le_succ _⟩),RetLN.val [W,B,O] rfl ?_ rfl ?_⟩
        · show LH _ _ _
          (repeat first|refine goH ?_|apply LH.here|apply LH.next);trivial
        · rw[h0];(repeat' first|exact LB.nil|(with_reducible exact LB.refl)|(apply LB.cons;(repeat first|refine goH ?_|apply LH.here|apply LH.next);refine And.intro ?_ ?_;(focus(try(first|(with_reducible rfl)|(refine congrArg (Pl.mk _) ?_;(first|rfl|(simp;done)))|rfl|(with_reducible refine congrArg (Pl.mk _) ?_)))))))
     | trace_state
theorem hst_0(x:Hk)(ps:List (List UInt8))(L W B O:Nm)(wl:List (Nat×List UInt8))(j:Nat)(hw:x.way=wl.drop j)(hj:j≤wl.length)(bl:List (List UInt8))(jb:Nat)(hb:x.back=bl.drop jb)(hjb:jb≤bl.length)(hwl:wl.length≤90000)(hbl:bl.length≤90000)(n:Nat)(hn:n≤90000)(hS:wL ps n x)(hps:∀b∈ps,qY b)(hpl:ps.length≤90000)(hnd:[L,W,B,O].Nodup)(k:Int)(hk:¬(k=1∨k=3∨k=4∨k=6∨k=8∨k=9))(a:Int) :
   LSpecF (St2 (x) (wl.length+1) (bl.length+1)) Tryz.prog gm 32 [.ptr L 0,.agg [iAV k,iAV a]] [(L,lkT x ps (.vw W (j*2) (wl.length-j) 2) (.vw B jb (bl.length-jb) 1) (.vw O 0 x.out.length 3)),(W,msT wl),(B,bsT bl),(O,dvT x.out)] 3
     (fun i qs=>(.tup [],[(L,lkT (x) ps (.vw (qh0 qs) (i.1.1.2*2) (i.1.1.1.length-i.1.1.2) 2) (.vw (qh1 qs) i.2.1.2 (i.2.1.1.length-i.2.1.2) 1) (.vw (qh2 qs) 0 (x).out.length 3)),(qh0 qs,msT i.1.1.1),(qh1 qs,bsT i.2.1.1),(qh2 qs,dvT (x).out)])):=by
 simp only[not_or] at hk
 obtain⟨k1,k2,k3,k4,k5,k6⟩:=hk
 refine LSpecF.introN tQ ((⟨(wl,j),hw.symm,hj,Nat.le_succ _⟩,⟨(bl,jb),hb.symm,hjb,Nat.le_succ _⟩)) (fun qs=>[L,qh0 qs,qh1 qs,qh2 qs]) ([L,W,B,O]) Tryz.func32 rfl (by kernel_rfl) (by simp) (fun _ _=>rfl) rfl (nm_3 L W B O) ?_
 refine AWpL.sound tQ [] _ _ _ _ ?_
 conv=>whnf
 repeat'((first|(show LC _ _ _ _ _ _;contradiction)|refine T.s ?_|((first|apply goB|apply AB.dec|apply AB.gen)<;>intro h<;>try(exfalso;omega))|refine LQ.mk fun r=>?_|exact T.z|fail)<;>conv=>whnf)
 all_goals(try dsimp only)
 all_goals first
   | contradiction
   | (refine⟨(⟨(wl,j),hw.symm,hj,Nat.le_succ _⟩,⟨(bl,jb),hb.symm,hjb,Nat.le_succ _⟩),RetLN.val [W,B,O] rfl ?_ rfl ?_⟩
      · show LH _ _ _
        (repeat first|refine goH ?_|apply LH.here|apply LH.next);trivial
      · (repeat' first|exact LB.nil|(with_reducible exact LB.refl)|(apply LB.cons;(repeat first|refine goH ?_|apply LH.here|apply LH.next);refine And.intro ?_ ?_;(focus(try(first|(with_reducible rfl)|(refine congrArg (Pl.mk _) ?_;(first|rfl|(simp;done)))|rfl|(with_reducible refine congrArg (Pl.mk _) ?_)))))))
   | trace_state
theorem hstep_c(x:Hk)(ps:List (List UInt8))(L W B O:Nm)(wl:List (Nat×List UInt8))(j:Nat)(hw:x.way=wl.drop j)(hj:j≤wl.length)(bl:List (List UInt8))(jb:Nat)(hb:x.back=bl.drop jb)(hjb:jb≤bl.length)(hwl:wl.length≤90000)(hbl:bl.length≤90000)(n:Nat)(hn:n≤90000)(hS:wL ps n x)(hps:∀b∈ps,qY b)(hpl:ps.length≤90000)(hnd:[L,W,B,O].Nodup)(k a:Int) :
   LSpecF (St2 (kC ps x k a) (wl.length+1) (bl.length+1)) Tryz.prog gm 32 [.ptr L 0,.agg [iAV k,iAV a]] [(L,lkT x ps (.vw W (j*2) (wl.length-j) 2) (.vw B jb (bl.length-jb) 1) (.vw O 0 x.out.length 3)),(W,msT wl),(B,bsT bl),(O,dvT x.out)] 3
     (fun i qs=>(.tup [],[(L,lkT (kC ps x k a) ps (.vw (qh0 qs) (i.1.1.2*2) (i.1.1.1.length-i.1.1.2) 2) (.vw (qh1 qs) i.2.1.2 (i.2.1.1.length-i.2.1.2) 1) (.vw (qh2 qs) 0 (kC ps x k a).out.length 3)),(qh0 qs,msT i.1.1.1),(qh1 qs,bsT i.2.1.1),(qh2 qs,dvT (kC ps x k a).out)])):=by
 by_cases h1:k=1
 · subst h1
   exact hst_1 x ps L W B O wl j hw hj bl jb hb hjb hwl hbl n hn hS hps hpl hnd a
 by_cases h3:k=3
 · subst h3
   exact hst_3 x ps L W B O wl j hw hj bl jb hb hjb hwl hbl n hn hS hps hpl hnd a
 by_cases h4:k=4
 · subst h4
   exact hst_4 x ps L W B O wl j hw hj bl jb hb hjb hwl hbl n hn hS hps hpl hnd a
 by_cases h6:k=6
 · subst h6
   exact hst_6 x ps L W B O wl j hw hj bl jb hb hjb hwl hbl n hn hS hps hpl hnd a
 by_cases h8:k=8
 · subst h8
   exact hst_8 x ps L W B O wl j hw hj bl jb hb hjb hwl hbl n hn hS hps hpl hnd a
 by_cases h9:k=9
 · subst h9
   exact hst_9 x ps L W B O wl j hw hj bl jb hb hjb hwl hbl n hn hS hps hpl hnd a
 rw[show kC ps x k a=x from by unfold kC;rw[if_neg h1,if_neg h3,if_neg h4,if_neg h6,if_neg h8,if_neg h9]]
 exact hst_0 x ps L W B O wl j hw hj bl jb hb hjb hwl hbl n hn hS hps hpl hnd k (by simp only[not_or];exact⟨h1,h3,h4,h6,h8,h9⟩) a
open Go.RowKit
variable {G:Nat→AV}
@[reducible] def spC(x:Int×Int):List AV:=[iAV x.1,iAV x.2]
theorem kH(x:Int×Int):(spC x).length=2:=rfl
def spv(l:List (Int×Int)):AV:=.sl l.length (l.flatMap spC)
def wF(t:List Int)(a:Nat):Int:=[1,3,1,3,8,4,9,3].getD (qi t a 8).toNat 0
def yV(t:List Int)(fl:Bool)(x:List (Int×Int)×Nat):List (Int×Int)×Nat :=
 if fl=true then(if kF t (qj t x.2) 8=true then(x.1++[(wF t x.2,0)]++[(6,qi t (qj t (qj t x.2)) 400)],qj t (qj t (qj t x.2))) else(x.1++[(wF t x.2,0)],qj t (qj t x.2))) else(x.1++[(wF t x.2,0)],qj t x.2)
def stpI(t:List Int)(fl:Bool):Nat→List (Int×Int)×Nat→List (Int×Int)×Nat
 | 0,x=>x
 | n+1,x=>stpI t fl n (yV t fl x)
def stpsR(t:List Int)(a:Nat)(most:Int)(fl:Bool):List (Int×Int)×Nat:=stpI t fl (qi t a (q7 .add .i64 most 1)).toNat ([],qj t a)
theorem stpS_len(t:List Int)(fl:Bool)(x:List (Int×Int)×Nat):(yV t fl x).1.length≤x.1.length+2:=by
 unfold yV
 (repeat' split)<;>simp
theorem stpI_len(t:List Int)(fl:Bool):∀(n:Nat) (x:List (Int×Int)×Nat),(stpI t fl n x).1.length≤x.1.length+2*n
 | 0,_=>Nat.le_refl _
 | n+1,x=>by
   have h1:=stpI_len t fl n (yV t fl x)
   have h2:=stpS_len t fl x
   show(stpI t fl n (yV t fl x)).1.length≤_
   omega
theorem sp_app(l:List (Int×Int))(o m:Nat)(v:Int×Int)(a:List AV)(ho:o=0)(hm:m=l.length*2)(ha:a=spC v):List.take m (List.drop o (l.flatMap spC))++a=(l++[v]).flatMap spC:=by
 subst ho hm ha
 rw[List.drop_zero,List.take_of_length_le (by rw[qm kH];exact Nat.le_refl _),List.flatMap_append,List.flatMap_singleton]
theorem qD{t:List Int}{fl:Bool}{n:Nat}{x y z:List (Int×Int)×Nat}(h0:0<n)(h:z=stpI t fl n x)(hy:yV t fl x=y):z=stpI t fl (n-1) y:=by
 obtain⟨k,rfl⟩:∃k,n=k+1:=⟨n-1,by omega⟩
 rw[h,←hy];rfl
theorem stp_1{t:List Int}{fl:Bool}{x:List (Int×Int)×Nat}(hf:fl=true)(h:kF t (qj t x.2) 8=true):yV t fl x=(x.1++[(wF t x.2,0)]++[(6,qi t (qj t (qj t x.2)) 400)],qj t (qj t (qj t x.2))):=by unfold yV;rw[if_pos hf,if_pos h]
theorem stp_2{t:List Int}{fl:Bool}{x:List (Int×Int)×Nat}(hf:fl=true)(h:kF t (qj t x.2) 8=false):yV t fl x=(x.1++[(wF t x.2,0)],qj t (qj t x.2)):=by unfold yV;rw[if_pos hf,if_neg (by rw[h];decide)]
theorem vA{t:List Int}{fl:Bool}{x:List (Int×Int)×Nat}(hf:fl=false):yV t fl x=(x.1++[(wF t x.2,0)],qj t x.2):=by unfold yV;rw[if_neg (by rw[hf];decide)]
attribute [local irreducible] qi qj kF
theorem steps_c(t:List Int)(a:Nat)(most:Int)(h0:0≤most)(h1:most≤1000)(fl:Bool)(ht:t.length≤400)(p:Nm):LP Tryz.prog G 14 [.ptr p 0,iAV most,.bool fl] [(p,xg t a)] (fun _=>(spv (stpsR t a most fl).1,[(p,xg t (stpsR t a most fl).2)])):=by
 have hm1:q7 .add .i64 most 1=most+1:=by(exact T.num)
 have hr:=jS t a (q7 .add .i64 most 1) (by omega) (by omega)
 have h8:∀b,0≤qi t b 8∧qi t b 8<8:=fun b=>jS t b 8 (by decide) (by decide)
 unfold stpsR
 generalize hN:(qi t a (q7 .add .i64 most 1)).toNat=N
 have hN2:qi t a (q7 .add .i64 most 1)=(N:Int):=by omega
 generalize hZ:stpI t fl N ([],qj t a)=Z
 have hZ:=hZ.symm
 refine goW [] Tryz.func14 rfl ?_
 conv=>whnf
 repeat'((first|(refine And.intro ?_ ?_;(focus(first|((try dsimp only);rw[qm kH];omega)|((try dsimp only);rw[qm kH,List.length_append,List.length_singleton];omega)|exact(h8 _).1|exact(h8 _).2|((try dsimp only);show _≤8;have:=h8 x.2;omega)|exact T.kx|exact T.side)))|(show LC _ _ _ _ _ _;first|(apply LC.upd (kS t _ _ ht _);(repeat first|refine goH ?_|apply LH.here|apply LH.next);refine⟨rfl,?_⟩)|(apply LC.upd (one_c t _ _ ht _);(repeat first|refine goH ?_|apply LH.here|apply LH.next);refine⟨rfl,?_⟩)|refine goE ?_)|(show AC _ _ _;first|(refine AC.elem (l:=[1,3,1,3,8,4,9,3]) (f:=iAV) 0 (by(try dsimp only);show _<8;have:=h8 x.2;omega) ?_;rw[Nat.zero_add,Nat.mul_one]))|(show AQ _ _;first|(refine AQ.eq (sp_app x.1 _ _ (wF t x.2,0) _ rfl ?_ rfl) ?_;(focus(first|rfl|((try dsimp only);omega))))|(refine AQ.eq (sp_app (x.1++[(wF t x.2,0)]) _ _ (6,qi t (qj t (qj t x.2)) 400) _ rfl ?_ rfl) ?_;(focus(first|rfl|((try dsimp only);simp;done)))))|refine T.s ?_|((first|apply goB|apply AB.dec|apply AB.gen)<;>intro h<;>try(exfalso;omega))|refine LQ.mk fun r=>?_|(show SWpL _ _ _ (.loop _) _ _ _;first|(apply goO tQ [] 3 (S:=Nat×(List (Int×Int)×Nat)×Nm) [0,2] (fun(n,x,q)=>⟨[(8,.int .i64 n),(7,.vw q 0 x.1.length 2)],[(p,xg t x.2),(q,⟨44,x.1.flatMap spC⟩)],n≤N∧x.1.length+2*n≤2*N∧Z=stpI t fl n x,n⟩) ((N,([],qj t a),_)) (by rfl);(focus((repeat' first|exact trivial|(refine And.intro ?_ ?_)|exact LB.nil|(with_reducible exact LB.refl)|(apply LB.cons;(repeat first|refine goH ?_|apply LH.here|apply LH.next);refine And.intro ?_ ?_;(focus(try(first|(with_reducible rfl)|(refine congrArg (Pl.mk _) ?_;(first|rfl|(simp;done)))|rfl|(with_reducible refine congrArg (Pl.mk _) ?_)))))|assumption|((try dsimp only);simp only[List.length_append,List.length_singleton];omega)|((try dsimp only);simp;done)|(exact qD (by omega) (by assumption) (stp_1 (by assumption) (by assumption)))|(exact qD (by omega) (by assumption) (stp_2 (by assumption) (by assumption)))|(exact qD (by omega) (by assumption) (vA (by assumption)))|(first|(focus(apply Eq.trans;(conv=>lhs;whnf);(conv=>rhs;whnf);done))|rfl|((conv=>lhs;whnf);first|rfl|(refine congrArg (AV.int _) ?_;(exact T.num))|(refine congrArg AV.bool ?_;(exact T.num))|(refine vwc ?_;first|(exact T.num)|(first|rfl|(simp;done)))|(refine q9 ?_ ?_<;>first|(exact T.num)|(first|rfl|(simp;done)))|(first|rfl|(simp;done))))|(exact T.num)|(dsimp only;(exact T.num))|(first|rfl|(simp;done)));done));rintro⟨n,x,q⟩ ⟨hk,hk,hok⟩))|(show SWpL _ _ _ _ _ _ _;first|refine SWpL.adopt 7 2 44 (by rfl) fun q=>?_)|(show AtL _ _ _ _ _ _ _ _ _ _;first|(apply AtL.mk' (id:=3) (S:=Nat×(List (Int×Int)×Nat)×Nm) ((n-1,(x.1++[(wF t x.2,0)]++[(6,qi t (qj t (qj t x.2)) 400)],qj t (qj t (qj t x.2))),_));(repeat' first|exact trivial|(refine And.intro ?_ ?_)|exact LB.nil|(with_reducible exact LB.refl)|(apply LB.cons;(repeat first|refine goH ?_|apply LH.here|apply LH.next);refine And.intro ?_ ?_;(focus(try(first|(with_reducible rfl)|(refine congrArg (Pl.mk _) ?_;(first|rfl|(simp;done)))|rfl|(with_reducible refine congrArg (Pl.mk _) ?_)))))|assumption|((try dsimp only);simp only[List.length_append,List.length_singleton];omega)|((try dsimp only);simp;done)|(exact qD (by omega) (by assumption) (stp_1 (by assumption) (by assumption)))|(exact qD (by omega) (by assumption) (stp_2 (by assumption) (by assumption)))|(exact qD (by omega) (by assumption) (vA (by assumption)))|(first|(focus(apply Eq.trans;(conv=>lhs;whnf);(conv=>rhs;whnf);done))|rfl|((conv=>lhs;whnf);first|rfl|(refine congrArg (AV.int _) ?_;(exact T.num))|(refine congrArg AV.bool ?_;(exact T.num))|(refine vwc ?_;first|(exact T.num)|(first|rfl|(simp;done)))|(refine q9 ?_ ?_<;>first|(exact T.num)|(first|rfl|(simp;done)))|(first|rfl|(simp;done))))|(exact T.num)|(dsimp only;(exact T.num))|(first|rfl|(simp;done)));done)|(apply AtL.mk' (id:=3) (S:=Nat×(List (Int×Int)×Nat)×Nm) ((n-1,(x.1++[(wF t x.2,0)],qj t (qj t x.2)),_));(repeat' first|exact trivial|(refine And.intro ?_ ?_)|exact LB.nil|(with_reducible exact LB.refl)|(apply LB.cons;(repeat first|refine goH ?_|apply LH.here|apply LH.next);refine And.intro ?_ ?_;(focus(try(first|(with_reducible rfl)|(refine congrArg (Pl.mk _) ?_;(first|rfl|(simp;done)))|rfl|(with_reducible refine congrArg (Pl.mk _) ?_)))))|assumption|((try dsimp only);simp only[List.length_append,List.length_singleton];omega)|((try dsimp only);simp;done)|(exact qD (by omega) (by assumption) (stp_1 (by assumption) (by assumption)))|(exact qD (by omega) (by assumption) (stp_2 (by assumption) (by assumption)))|(exact qD (by omega) (by assumption) (vA (by assumption)))|(first|(focus(apply Eq.trans;(conv=>lhs;whnf);(conv=>rhs;whnf);done))|rfl|((conv=>lhs;whnf);first|rfl|(refine congrArg (AV.int _) ?_;(exact T.num))|(refine congrArg AV.bool ?_;(exact T.num))|(refine vwc ?_;first|(exact T.num)|(first|rfl|(simp;done)))|(refine q9 ?_ ?_<;>first|(exact T.num)|(first|rfl|(simp;done)))|(first|rfl|(simp;done))))|(exact T.num)|(dsimp only;(exact T.num))|(first|rfl|(simp;done)));done)|(apply AtL.mk' (id:=3) (S:=Nat×(List (Int×Int)×Nat)×Nm) ((n-1,(x.1++[(wF t x.2,0)],qj t x.2),_));(repeat' first|exact trivial|(refine And.intro ?_ ?_)|exact LB.nil|(with_reducible exact LB.refl)|(apply LB.cons;(repeat first|refine goH ?_|apply LH.here|apply LH.next);refine And.intro ?_ ?_;(focus(try(first|(with_reducible rfl)|(refine congrArg (Pl.mk _) ?_;(first|rfl|(simp;done)))|rfl|(with_reducible refine congrArg (Pl.mk _) ?_)))))|assumption|((try dsimp only);simp only[List.length_append,List.length_singleton];omega)|((try dsimp only);simp;done)|(exact qD (by omega) (by assumption) (stp_1 (by assumption) (by assumption)))|(exact qD (by omega) (by assumption) (stp_2 (by assumption) (by assumption)))|(exact qD (by omega) (by assumption) (vA (by assumption)))|(first|(focus(apply Eq.trans;(conv=>lhs;whnf);(conv=>rhs;whnf);done))|rfl|((conv=>lhs;whnf);first|rfl|(refine congrArg (AV.int _) ?_;(exact T.num))|(refine congrArg AV.bool ?_;(exact T.num))|(refine vwc ?_;first|(exact T.num)|(first|rfl|(simp;done)))|(refine q9 ?_ ?_<;>first|(exact T.num)|(first|rfl|(simp;done)))|(first|rfl|(simp;done))))|(exact T.num)|(dsimp only;(exact T.num))|(first|rfl|(simp;done)));done)|(apply AtL.mk' (id:=3) (S:=Nat×(List (Int×Int)×Nat)×Nm) ((n-1,(x.1++[(wF t x.2,0)]++[(6,qi t (qj t (qj t x.2)) 400)],qj t (qj t (qj t x.2))),_));(repeat' first|exact trivial|(refine And.intro ?_ ?_)|exact LB.nil|(with_reducible exact LB.refl)|(apply LB.cons;(repeat first|refine goH ?_|apply LH.here|apply LH.next);refine And.intro ?_ ?_;(focus(try(first|(with_reducible rfl)|(refine congrArg (Pl.mk _) ?_;(first|rfl|(simp;done)))|rfl|(with_reducible refine congrArg (Pl.mk _) ?_)))))|assumption|((try dsimp only);simp only[List.length_append,List.length_singleton];omega)|((try dsimp only);simp;done)|(exact qD (by omega) (by assumption) (stp_1 (by assumption) (by assumption)))|(exact qD (by omega) (by assumption) (stp_2 (by assumption) (by assumption)))|(exact qD (by omega) (by assumption) (vA (by assumption)))|(first|(focus(apply Eq.trans;(conv=>lhs;whnf);(conv=>rhs;whnf);done))|rfl|((conv=>lhs;whnf);first|rfl|(refine congrArg (AV.int _) ?_;(exact T.num))|(refine congrArg AV.bool ?_;(exact T.num))|(refine vwc ?_;first|(exact T.num)|(first|rfl|(simp;done)))|(refine q9 ?_ ?_<;>first|(exact T.num)|(first|rfl|(simp;done)))|(first|rfl|(simp;done))))|(exact T.num)|(dsimp only;(exact T.num))|(first|rfl|(simp;done))))|(apply AtL.mk' (id:=3) (S:=Nat×(List (Int×Int)×Nat)×Nm) ((n-1,(x.1++[(wF t x.2,0)],qj t (qj t x.2)),_));(repeat' first|exact trivial|(refine And.intro ?_ ?_)|exact LB.nil|(with_reducible exact LB.refl)|(apply LB.cons;(repeat first|refine goH ?_|apply LH.here|apply LH.next);refine And.intro ?_ ?_;(focus(try(first|(with_reducible rfl)|(refine congrArg (Pl.mk _) ?_;(first|rfl|(simp;done)))|rfl|(with_reducible refine congrArg (Pl.mk _) ?_)))))|assumption|((try dsimp only);simp only[List.length_append,List.length_singleton];omega)|((try dsimp only);simp;done)|(exact qD (by omega) (by assumption) (stp_1 (by assumption) (by assumption)))|(exact qD (by omega) (by assumption) (stp_2 (by assumption) (by assumption)))|(exact qD (by omega) (by assumption) (vA (by assumption)))|(first|(focus(apply Eq.trans;(conv=>lhs;whnf);(conv=>rhs;whnf);done))|rfl|((conv=>lhs;whnf);first|rfl|(refine congrArg (AV.int _) ?_;(exact T.num))|(refine congrArg AV.bool ?_;(exact T.num))|(refine vwc ?_;first|(exact T.num)|(first|rfl|(simp;done)))|(refine q9 ?_ ?_<;>first|(exact T.num)|(first|rfl|(simp;done)))|(first|rfl|(simp;done))))|(exact T.num)|(dsimp only;(exact T.num))|(first|rfl|(simp;done))))|(apply AtL.mk' (id:=3) (S:=Nat×(List (Int×Int)×Nat)×Nm) ((n-1,(x.1++[(wF t x.2,0)],qj t x.2),_));(repeat' first|exact trivial|(refine And.intro ?_ ?_)|exact LB.nil|(with_reducible exact LB.refl)|(apply LB.cons;(repeat first|refine goH ?_|apply LH.here|apply LH.next);refine And.intro ?_ ?_;(focus(try(first|(with_reducible rfl)|(refine congrArg (Pl.mk _) ?_;(first|rfl|(simp;done)))|rfl|(with_reducible refine congrArg (Pl.mk _) ?_)))))|assumption|((try dsimp only);simp only[List.length_append,List.length_singleton];omega)|((try dsimp only);simp;done)|(exact qD (by omega) (by assumption) (stp_1 (by assumption) (by assumption)))|(exact qD (by omega) (by assumption) (stp_2 (by assumption) (by assumption)))|(exact qD (by omega) (by assumption) (vA (by assumption)))|(first|(focus(apply Eq.trans;(conv=>lhs;whnf);(conv=>rhs;whnf);done))|rfl|((conv=>lhs;whnf);first|rfl|(refine congrArg (AV.int _) ?_;(exact T.num))|(refine congrArg AV.bool ?_;(exact T.num))|(refine vwc ?_;first|(exact T.num)|(first|rfl|(simp;done)))|(refine q9 ?_ ?_<;>first|(exact T.num)|(first|rfl|(simp;done)))|(first|rfl|(simp;done))))|(exact T.num)|(dsimp only;(exact T.num))|(first|rfl|(simp;done)))))|exact T.z|fail)<;>conv=>whnf)
 all_goals(try dsimp only)
 all_goals first
   | (obtain rfl:n=0:=(by omega)
      obtain rfl:Z=x:=(by assumption)
      refine RL.frz [q] (LF.row InL.here ?_) ?_
      · (repeat first|refine goH ?_|apply LH.here|apply LH.next)
        exact⟨by decide,qm kH _,rfl,rfl⟩
      · (repeat first|refine goH ?_|apply LH.here|apply LH.next)
        (repeat' first|exact LB.nil|(with_reducible exact LB.refl)|(apply LB.cons;(repeat first|refine goH ?_|apply LH.here|apply LH.next);refine And.intro ?_ ?_;(focus(try(first|(with_reducible rfl)|(refine congrArg (Pl.mk _) ?_;(first|rfl|(simp;done)))|rfl|(with_reducible refine congrArg (Pl.mk _) ?_)))))))
   | trace_state
end Go.Proofs.YtndpmpnmkpaklaaGreatDoor
namespace Go.Proofs.YtndpmpnmkpaklaaGreatDoor
open Go.RowKit
section
variable {P:Program}{T:Tys}{G:Nat→AV}{N:Nat}{e:Env}{l:LS}
theorem LC.mkFD{ι:Type}{f:FuncId}{args:List AV}{ps:LS}{k:Nat}{post:ι→List Nm→AV×LS}{K:AV→LS→Prop}(hs:(ps.map (·.1)).Nodup→LSpecF ι P G f args ps k post)(h:LTake l ps fun r=>∀i,LFreshN k fun qs=>K (post i qs).1 ((post i qs).2++r)):LC P G f args l K:=⟨fun φ hsp=>by
 obtain⟨r,-,-,-,h4,-⟩:=LTake.sound h hsp
 exact(LC.mkF (hs h4) [] (.refl _) h).run φ hsp⟩
theorem CutL.adoptQ(p:Nm)(j sz:Nat)(t:TypeId){x y:Code}{Q:Exit→Env→LS→Prop}(h:LH l p fun d s _=>j<d.cs.length∧d.cs.getD j .any=.nils∧∀q,CutL P G N x y Q e ((q,⟨t,[]⟩)::s ⟨d.ty,d.cs.set j (.vw q 0 0 sz)⟩)):CutL P G N x y Q e l :=
 ⟨SWpL.adoptP p j sz t (LH.mono h fun _ _ _ h=>⟨h.1,h.2.1,fun q=>(h.2.2 q).run⟩)⟩
end
theorem Rd.cloH{σ:q8}{w:World}{f:FuncId}{v:Value}(h:Rd σ w (.lit (.func (.func f) #[] #[])) v):Rd σ w (.clo (.func f) [] []) v:=by
 cases h
 exact .clo (.func f) [] [] #[] #[] rfl rfl (fun i hi=>by simp at hi) (fun i hi=>by simp at hi)
theorem LP.argH{P:Program}{G:Nat→AV}{g:FuncId}{args:List AV}{f:FuncId}{ps:LS}{post:Nm→AV×LS}(h:LP P G g (args++[.clo (.func f) [] []]) ps post):LP P G g (args++[.lit (.func (.func f) #[] #[])]) ps post:=by
 unfold LP at h ⊢
 refine⟨h.1,h.2.1,fun τ w vs h1 h2 h3 h4 h5=>h.2.2 τ w vs h1 h2 h3 h4 ⟨by have:=h5.1;simp at this ⊢;exact this,fun i hi=>?_⟩⟩
 have hi2:i<args.length+1:=by simpa using hi
 have h6:=h5.2 i (by simpa using hi)
 by_cases hlt:i<args.length
 · have e1:(args++[AV.clo (.func f) [] []]).getD i .any=args.getD i .any:=by simp only[List.getD_eq_getElem?_getD];rw[List.getElem?_append_left hlt]
   have e2:(args++[AV.lit (.func (.func f) #[] #[])]).getD i .any=args.getD i .any:=by simp only[List.getD_eq_getElem?_getD];rw[List.getElem?_append_left hlt]
   rw[e1];rw[e2] at h6;exact h6
 · obtain rfl:i=args.length:=by omega
   have e1:(args++[AV.clo (.func f) [] []]).getD args.length .any=.clo (.func f) [] []:=by simp
   have e2:(args++[AV.lit (.func (.func f) #[] #[])]).getD args.length .any=.lit (.func (.func f) #[] #[]):=by simp
   rw[e1];rw[e2] at h6;exact h6.cloH
section
variable {G:Nat→AV}
def badL(b:List UInt8):Bool:=decide (b.length=0∨1500<b.length)
theorem hrun1_c(b:List UInt8):LP Tryz.prog G 30 [bv b] [] (fun _=>(.bool (badL b),[])):=by
 refine goW [] Tryz.func30 rfl ?_
 conv=>whnf
 repeat'((first|refine T.s ?_|((first|apply goB|apply AB.dec|apply AB.gen)<;>intro h<;>try(exfalso;omega))|refine LQ.mk fun r=>?_|exact T.z|fail)<;>conv=>whnf)
 all_goals(try dsimp only)
 all_goals
   (show RL _ _ _;refine goR ?_)
   unfold badL
   first|(exact congrArg AV.bool (decide_eq_true (by omega)).symm)|(exact congrArg AV.bool (decide_eq_false (by omega)).symm)|(refine congrArg AV.bool ?_;show decide (_<_)=decide _;exact decide_eq_decide.2 (by omega))|trace_state
theorem bsidx_c{P:List UInt8→Bool}(F:Nat)(hp:∀s:List UInt8,LP Tryz.prog G F [bv s] [] (fun _=>(.bool (P s),[])))(l:List (List UInt8))(hl:l.length≤100000):LP Tryz.prog G 49 [bbv l,.clo (.func F) [] []] [] (fun _=>(iAV (kE (l.findIdx? P)),[])):=by
 refine goW [] Tryz.func49 rfl ?_
 conv=>whnf
 repeat'((first|(refine And.intro ?_ ?_;(focus(first|((try dsimp only);rw[List.length_map];omega)|exact T.kx|exact T.side)))|(show LC _ _ _ _ _ _;first|refine LC.pure (hp (l.getD i [])) ?_|refine goE ?_)|(show AC _ _ _;first|(refine AC.idx (f:=bv) (l:=l) i [] ?_ ?_ ?_;(focus((try dsimp only);omega));(focus omega)))|refine T.s ?_|((first|apply goB|apply AB.dec|apply AB.gen)<;>intro h<;>try(exfalso;omega))|refine LQ.mk fun r=>?_|(show SWpL _ _ _ (.loop _) _ _ _;first|(apply goO tQ [] 2 (S:=Nat) [0,1,7] (fun i=>⟨[(8,.int .i64 i)],[],i≤l.length∧(l.take i).findIdx? P=none,l.length-i⟩) (0) (by rfl);(focus((repeat' first|exact trivial|(refine And.intro ?_ ?_)|exact LB.nil|(with_reducible exact LB.refl)|(apply LB.cons;(repeat first|refine goH ?_|apply LH.here|apply LH.next);refine And.intro ?_ ?_;(focus(try(first|(with_reducible rfl)|(refine congrArg (Pl.mk _) ?_;(first|rfl|(simp;done)))|rfl|(with_reducible refine congrArg (Pl.mk _) ?_)))))|assumption|(exact xe ([]:List UInt8) (by omega) hok (by assumption))|(first|(focus(apply Eq.trans;(conv=>lhs;whnf);(conv=>rhs;whnf);done))|rfl|((conv=>lhs;whnf);first|rfl|(refine congrArg (AV.int _) ?_;(exact T.num))|(refine congrArg AV.bool ?_;(exact T.num))|(refine vwc ?_;first|(exact T.num)|(first|rfl|(simp;done)))|(refine q9 ?_ ?_<;>first|(exact T.num)|(first|rfl|(simp;done)))|(first|rfl|(simp;done))))|(exact T.num)|(dsimp only;(exact T.num))|(first|rfl|(simp;done)));done));rintro i ⟨hk,hok⟩))|(show AtL _ _ _ _ _ _ _ _ _ _;first|(apply AtL.mk' (id:=2) (S:=Nat) (i+1);(repeat' first|exact trivial|(refine And.intro ?_ ?_)|exact LB.nil|(with_reducible exact LB.refl)|(apply LB.cons;(repeat first|refine goH ?_|apply LH.here|apply LH.next);refine And.intro ?_ ?_;(focus(try(first|(with_reducible rfl)|(refine congrArg (Pl.mk _) ?_;(first|rfl|(simp;done)))|rfl|(with_reducible refine congrArg (Pl.mk _) ?_)))))|assumption|(exact xe ([]:List UInt8) (by omega) hok (by assumption))|(first|(focus(apply Eq.trans;(conv=>lhs;whnf);(conv=>rhs;whnf);done))|rfl|((conv=>lhs;whnf);first|rfl|(refine congrArg (AV.int _) ?_;(exact T.num))|(refine congrArg AV.bool ?_;(exact T.num))|(refine vwc ?_;first|(exact T.num)|(first|rfl|(simp;done)))|(refine q9 ?_ ?_<;>first|(exact T.num)|(first|rfl|(simp;done)))|(first|rfl|(simp;done))))|(exact T.num)|(dsimp only;(exact T.num))|(first|rfl|(simp;done)));done)|(apply AtL.mk' (id:=2) (S:=Nat) (i+1);(repeat' first|exact trivial|(refine And.intro ?_ ?_)|exact LB.nil|(with_reducible exact LB.refl)|(apply LB.cons;(repeat first|refine goH ?_|apply LH.here|apply LH.next);refine And.intro ?_ ?_;(focus(try(first|(with_reducible rfl)|(refine congrArg (Pl.mk _) ?_;(first|rfl|(simp;done)))|rfl|(with_reducible refine congrArg (Pl.mk _) ?_)))))|assumption|(exact xe ([]:List UInt8) (by omega) hok (by assumption))|(first|(focus(apply Eq.trans;(conv=>lhs;whnf);(conv=>rhs;whnf);done))|rfl|((conv=>lhs;whnf);first|rfl|(refine congrArg (AV.int _) ?_;(exact T.num))|(refine congrArg AV.bool ?_;(exact T.num))|(refine vwc ?_;first|(exact T.num)|(first|rfl|(simp;done)))|(refine q9 ?_ ?_<;>first|(exact T.num)|(first|rfl|(simp;done)))|(first|rfl|(simp;done))))|(exact T.num)|(dsimp only;(exact T.num))|(first|rfl|(simp;done)))))|exact T.z|fail)<;>conv=>whnf)
 all_goals(try dsimp only)
 all_goals first
   | ((show RL _ _ _;refine goR ?_);rw[kZ l i [] (by omega) hok (by assumption)];rfl)
   | ((show RL _ _ _;refine goR ?_);rw[gidx_e (by omega) hok];rfl)
   | trace_state
theorem bscont_c{P:List UInt8→Bool}(F:Nat)(hp:∀s:List UInt8,LP Tryz.prog G F [bv s] [] (fun _=>(.bool (P s),[])))(l:List (List UInt8))(hl:l.length≤100000):LP Tryz.prog G 31 [bbv l,.clo (.func F) [] []] [] (fun _=>(.bool (l.any P),[])):=by
 have e:=any_idx l P
 refine goW [] Tryz.func31 rfl ?_
 conv=>whnf
 repeat'((first|(show LC _ _ _ _ _ _;first|refine LC.pure (bsidx_c F hp l hl) ?_|refine goE ?_)|refine T.s ?_|((first|apply goB|apply AB.dec|apply AB.gen)<;>intro h<;>try(exfalso;omega))|refine LQ.mk fun r=>?_|exact T.z|fail)<;>conv=>whnf)
 all_goals(try dsimp only)
 all_goals
   (show RL _ _ _;refine goR ?_)
   rw[←e]
   rfl
end
@[reducible] def dlv(l:List Dv):AV:=.sl l.length (l.flatMap Dv.cs)
def hk0(m w:Int):Hk:=⟨⟨m,w,List.replicate 16 Sn.z⟩,⟨m,List.replicate 16 Rc.z⟩,0,[],[],[]⟩
abbrev SQ:Type:=(List (Nat×List UInt8)×Nat)×(List (List UInt8)×Nat)
theorem kL{ps:List (List UInt8)}{l:List (Int×Int)}{i:Nat}{x x0:Hk}(hi:i<l.length)(h:x=xR ps (l.take i) x0):kC ps x (l.getD i (0,0)).1 (l.getD i (0,0)).2=xR ps (l.take (i+1)) x0:=by
 rw[List.take_succ_eq_append_getElem hi,runS_app,←h]
 simp[List.getD_eq_getElem?_getD,hi,xR]
theorem kK{ps:List (List UInt8)}{l:List (Int×Int)}{x0:Hk}:x0=xR ps (l.take 0) x0:=rfl
attribute [local irreducible] kC xR
theorem hrun_c(m w:Int)(hm:1≤m∧m≤3)(hw:1≤w∧w≤8)(ps:List (List UInt8))(hps:∀b∈ps,qY b)(hpl:ps.length≤90000)(l:List (Int×Int))(hl:l.length≤400)(hI:wL ps 0 (hk0 m w)) :
   LP Tryz.prog gm 12 [iAV m,iAV w,bbv ps,spv l] [] (fun _=>(.tup [dlv (xR ps l (hk0 m w)).out,iAV 0],[])):=by
 have hc:=cnewc_c (G:=gm) m w
 rw[show cnewR m w=(⟨m,w,List.replicate 16 Sn.z⟩,0) from if_pos (decide_eq_true ⟨hm.1,hm.2,hw.1,hw.2⟩)] at hc
 have hd:=dnew_c (G:=gm) m
 rw[newR_t hm] at hd
 have hb:=bscont_c (G:=gm) (P:=badL) 30 hrun1_c ps (by omega)
 rw[show ps.any badL=false from by
   rw[Bool.eq_false_iff]
   intro hh
   obtain⟨b,h1,h2⟩:=List.any_eq_true.1 hh
   obtain⟨h3,h4⟩:=hps b h1
   have h5:=of_decide_eq_true h2
   have h6:0<b.length:=List.length_pos_iff.2 h3
   omega] at hb
 have hb:=LP.argH (args:=[bbv ps]) hb
 have hx0:hk0 m w=⟨⟨m,w,List.replicate 16 Sn.z⟩,⟨m,List.replicate 16 Rc.z⟩,0,[],[],[]⟩:=rfl
 refine goW [10,11] Tryz.func12 rfl ?_
 conv=>whnf
 repeat'((first|(show CutL _ _ _ (.seq (.region 11 _ _) _) _ _ _ _;first|(refine CutL.adoptQ L 7 2 106 ?_;(repeat first|refine goH ?_|apply LH.here|apply LH.next);refine⟨Nat.le_of_ble_eq_true rfl,rfl,fun W=>?_⟩;(try dsimp only))|(refine CutL.adoptQ L 8 1 37 ?_;(repeat first|refine goH ?_|apply LH.here|apply LH.next);refine⟨Nat.le_of_ble_eq_true rfl,rfl,fun B=>?_⟩;(try dsimp only))|(refine CutL.adoptQ L 9 3 39 ?_;(repeat first|refine goH ?_|apply LH.here|apply LH.next);refine⟨Nat.le_of_ble_eq_true rfl,rfl,fun O=>?_⟩;(try dsimp only))|refine CutL.go tQ [10,11] ?_)|(show LC _ _ 32 _ _ _;refine LC.mkFD (fun hnd=>hstep_c x ps L W B O s.1.1 s.1.2 (by assumption) (by assumption) s.2.1 s.2.2 (by assumption) (by assumption) (by omega) (by omega) i (by omega) (by assumption) hps hpl (by exact hnd) (l.getD i (0,0)).1 (l.getD i (0,0)).2) ?_;show LTake _ _ _;(repeat first|refine goH ?_|apply LH.here|apply LH.next);refine And.intro rfl ?_;(repeat first|refine goH ?_|apply LH.here|apply LH.next);refine And.intro rfl ?_;(repeat first|refine goH ?_|apply LH.here|apply LH.next);refine And.intro rfl ?_;(repeat first|refine goH ?_|apply LH.here|apply LH.next);refine And.intro rfl ?_;show ∀i,LFreshN _ _;rintro⟨⟨⟨wl2,j2⟩,g1,g2,g3⟩,⟨⟨bl2,jb2⟩,g4,g5,g6⟩⟩;refine LFreshN.three fun W2 B2 O2=>?_;(try dsimp only))|(refine And.intro ?_ ?_;(focus(first|exact kc kH (by assumption)|exact T.kx|exact T.side)))|(show LC _ _ _ _ _ _;first|refine LC.pure (hc) ?_|refine LC.pure (hd) ?_|refine LC.pure (hb) ?_|refine goE ?_)|(show AC _ _ _;first|(refine AC.recd kH i (0,0) ?_ rfl ?_ ?_;(focus((try dsimp only);omega));(focus omega)))|refine T.s ?_|((first|apply goB|apply AB.dec|apply AB.gen)<;>intro h<;>try(exfalso;omega))|refine LQ.mk fun r=>?_|(show SWpL _ _ _ (.loop _) _ _ _;first|(apply goO tQ [10,11] 12 (S:=Nat×Hk×SQ×Nm×Nm×Nm) [14,47,48] (fun(i,x,s,W,B,O)=>⟨[(49,.int .i64 i)],[(L,lkT x ps (.vw W (s.1.2*2) (s.1.1.length-s.1.2) 2) (.vw B s.2.2 (s.2.1.length-s.2.2) 1) (.vw O 0 x.out.length 3)),(W,msT s.1.1),(B,bsT s.2.1),(O,dvT x.out)],i≤l.length∧x=xR ps (l.take i) (hk0 m w)∧x.way=s.1.1.drop s.1.2∧s.1.2≤s.1.1.length∧s.1.1.length≤i∧x.back=s.2.1.drop s.2.2∧s.2.2≤s.2.1.length∧s.2.1.length≤i∧wL ps i x,l.length-i⟩) ((0,hk0 m w,(([],0),([],0)),_,_,_)) (by rfl);(focus((repeat' first|exact trivial|(refine And.intro ?_ ?_)|exact LB.nil|(with_reducible exact LB.refl)|(apply LB.cons;(repeat first|refine goH ?_|apply LH.here|apply LH.next);refine And.intro ?_ ?_;(focus(try(first|(with_reducible rfl)|(refine congrArg (Pl.mk _) ?_;(first|rfl|(simp;done)))|rfl|(with_reducible refine congrArg (Pl.mk _) ?_)))))|assumption|(exact kK)|(exact hI)|(exact kL (by omega) (by assumption))|(exact(xL (by assumption) hps _ _).1)|(exact g1.symm)|(exact g4.symm)|(first|(focus(apply Eq.trans;(conv=>lhs;whnf);(conv=>rhs;whnf);done))|rfl|((conv=>lhs;whnf);first|rfl|(refine congrArg (AV.int _) ?_;(exact T.num))|(refine congrArg AV.bool ?_;(exact T.num))|(refine vwc ?_;first|(exact T.num)|(first|rfl|(simp;done)))|(refine q9 ?_ ?_<;>first|(exact T.num)|(first|rfl|(simp;done)))|(first|rfl|(simp;done))))|(exact T.num)|(dsimp only;(exact T.num))|(first|rfl|(simp;done)));done));rintro⟨i,x,s,W,B,O⟩ ⟨hk,hk,hk,hk,hk,hk,hk,hk,hok⟩))|(show AtL _ _ _ _ _ _ _ _ _ _;first|(apply AtL.mk' (id:=12) (S:=Nat×Hk×SQ×Nm×Nm×Nm) ((i+1,kC ps x (l.getD i (0,0)).1 (l.getD i (0,0)).2,((wl2,j2),(bl2,jb2)),_,_,_));(repeat' first|exact trivial|(refine And.intro ?_ ?_)|exact LB.nil|(with_reducible exact LB.refl)|(apply LB.cons;(repeat first|refine goH ?_|apply LH.here|apply LH.next);refine And.intro ?_ ?_;(focus(try(first|(with_reducible rfl)|(refine congrArg (Pl.mk _) ?_;(first|rfl|(simp;done)))|rfl|(with_reducible refine congrArg (Pl.mk _) ?_)))))|assumption|(exact kK)|(exact hI)|(exact kL (by omega) (by assumption))|(exact(xL (by assumption) hps _ _).1)|(exact g1.symm)|(exact g4.symm)|(first|(focus(apply Eq.trans;(conv=>lhs;whnf);(conv=>rhs;whnf);done))|rfl|((conv=>lhs;whnf);first|rfl|(refine congrArg (AV.int _) ?_;(exact T.num))|(refine congrArg AV.bool ?_;(exact T.num))|(refine vwc ?_;first|(exact T.num)|(first|rfl|(simp;done)))|(refine q9 ?_ ?_<;>first|(exact T.num)|(first|rfl|(simp;done)))|(first|rfl|(simp;done))))|(exact T.num)|(dsimp only;(exact T.num))|(first|rfl|(simp;done)));done)|(apply AtL.mk' (id:=12) (S:=Nat×Hk×SQ×Nm×Nm×Nm) ((i+1,kC ps x (l.getD i (0,0)).1 (l.getD i (0,0)).2,((wl2,j2),(bl2,jb2)),_,_,_));(repeat' first|exact trivial|(refine And.intro ?_ ?_)|exact LB.nil|(with_reducible exact LB.refl)|(apply LB.cons;(repeat first|refine goH ?_|apply LH.here|apply LH.next);refine And.intro ?_ ?_;(focus(try(first|(with_reducible rfl)|(refine congrArg (Pl.mk _) ?_;(first|rfl|(simp;done)))|rfl|(with_reducible refine congrArg (Pl.mk _) ?_)))))|assumption|(exact kK)|(exact hI)|(exact kL (by omega) (by assumption))|(exact(xL (by assumption) hps _ _).1)|(exact g1.symm)|(exact g4.symm)|(first|(focus(apply Eq.trans;(conv=>lhs;whnf);(conv=>rhs;whnf);done))|rfl|((conv=>lhs;whnf);first|rfl|(refine congrArg (AV.int _) ?_;(exact T.num))|(refine congrArg AV.bool ?_;(exact T.num))|(refine vwc ?_;first|(exact T.num)|(first|rfl|(simp;done)))|(refine q9 ?_ ?_<;>first|(exact T.num)|(first|rfl|(simp;done)))|(first|rfl|(simp;done))))|(exact T.num)|(dsimp only;(exact T.num))|(first|rfl|(simp;done)))))|(show CutL _ _ _ _ _ _ _ _;first|(refine goK tQ [10,11] 10 (S:=Nm) [] (fun L=>⟨[(3,spv l),(14,.ptr L 0)],[(L,lkT (hk0 m w) ps .nils .nils .nils)],True,0⟩) ?_ ?_;(rintro L -);rotate_left)|refine CutL.go tQ [10,11] ?_)|(show AtC _ _ _ _ _ _ _ _;first|(apply AtC.mk' (id:=10) (S:=Nm) (_);(repeat' first|exact trivial|(refine And.intro ?_ ?_)|exact LB.nil|(with_reducible exact LB.refl)|(apply LB.cons;(repeat first|refine goH ?_|apply LH.here|apply LH.next);refine And.intro ?_ ?_;(focus(try(first|(with_reducible rfl)|(refine congrArg (Pl.mk _) ?_;(first|rfl|(simp;done)))|rfl|(with_reducible refine congrArg (Pl.mk _) ?_)))))|assumption|(exact kK)|(exact hI)|(exact kL (by omega) (by assumption))|(exact(xL (by assumption) hps _ _).1)|(exact g1.symm)|(exact g4.symm)|(first|(focus(apply Eq.trans;(conv=>lhs;whnf);(conv=>rhs;whnf);done))|rfl|((conv=>lhs;whnf);first|rfl|(refine congrArg (AV.int _) ?_;(exact T.num))|(refine congrArg AV.bool ?_;(exact T.num))|(refine vwc ?_;first|(exact T.num)|(first|rfl|(simp;done)))|(refine q9 ?_ ?_<;>first|(exact T.num)|(first|rfl|(simp;done)))|(first|rfl|(simp;done))))|(exact T.num)|(dsimp only;(exact T.num))|(first|rfl|(simp;done)));done)|(apply AtC.mk' (id:=10) (S:=Nm) (_);(repeat' first|exact trivial|(refine And.intro ?_ ?_)|exact LB.nil|(with_reducible exact LB.refl)|(apply LB.cons;(repeat first|refine goH ?_|apply LH.here|apply LH.next);refine And.intro ?_ ?_;(focus(try(first|(with_reducible rfl)|(refine congrArg (Pl.mk _) ?_;(first|rfl|(simp;done)))|rfl|(with_reducible refine congrArg (Pl.mk _) ?_)))))|assumption|(exact kK)|(exact hI)|(exact kL (by omega) (by assumption))|(exact(xL (by assumption) hps _ _).1)|(exact g1.symm)|(exact g4.symm)|(first|(focus(apply Eq.trans;(conv=>lhs;whnf);(conv=>rhs;whnf);done))|rfl|((conv=>lhs;whnf);first|rfl|(refine congrArg (AV.int _) ?_;(exact T.num))|(refine congrArg AV.bool ?_;(exact T.num))|(refine vwc ?_;first|(exact T.num)|(first|rfl|(simp;done)))|(refine q9 ?_ ?_<;>first|(exact T.num)|(first|rfl|(simp;done)))|(first|rfl|(simp;done))))|(exact T.num)|(dsimp only;(exact T.num))|(first|rfl|(simp;done)))))|exact T.z|fail)<;>conv=>whnf)
 all_goals(try dsimp only)
 all_goals first
   | contradiction
   | (have hi0:i=l.length:=(by omega)
      subst hi0
      have hfin:x=xR ps (l.take l.length) (hk0 m w):=(by assumption)
      rw[List.take_length] at hfin
      rw[←hfin]
      refine RL.frz [O] (LF.tup ⟨LF.row InL.here ?_,LF.eq rfl,trivial⟩) ?_
      · (repeat first|refine goH ?_|apply LH.here|apply LH.next)
        exact⟨by decide,qm wb _,rfl,rfl⟩
      · (repeat first|refine goH ?_|apply LH.here|apply LH.next)
        (repeat' first|exact LB.nil|(with_reducible exact LB.refl)|(apply LB.cons;(repeat first|refine goH ?_|apply LH.here|apply LH.next);refine And.intro ?_ ?_;(focus(try(first|(with_reducible rfl)|(refine congrArg (Pl.mk _) ?_;(first|rfl|(simp;done)))|rfl|(with_reducible refine congrArg (Pl.mk _) ?_)))))))
   | trace_state
end Go.Proofs.YtndpmpnmkpaklaaGreatDoor
