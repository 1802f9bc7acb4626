/-
  Contracts of the functions that the laws reach.
-/
import Derived.Test.YtndpmpnmkpaklaaGreatDoorHr21
set_option linter.all false
namespace Go.Proofs.YtndpmpnmkpaklaaGreatDoor
open Go.RowKit
variable {G:Nat→AV}
theorem lsb16_rng(r k l:Int):0≤(kg 16 r k l).1∧(kg 16 r k l).1<65536:=by
 unfold kg
 split
 · split
   · exact⟨by decide,by decide⟩
   · exact y0 16 _
 · exact⟨by decide,by decide⟩
theorem hdr5{r:Rc}{s:Sm}{n:Int}(h:s.f=5):zD r s n=s.h:=by unfold zD;rw[if_pos h]
theorem hdr4{r:Rc}{s:Sm}{n:Int}(h:s.f=4):zD r s n={ s.h with fr:=r.la.fr,to:=r.la.to,fp:=r.la.fp,tp:=r.la.tp,sr:=r.la.sr }:=by unfold zD;rw[if_neg (by omega),if_pos h]
theorem numA{r:Rc}{s:Sm}(hn:0≤s.n∧s.n<65536):0≤zw r s∧zw r s<65536:=by
 unfold zw
 split
 · exact hn
 · exact lsb16_rng _ _ _
theorem hdr1{r:Rc}{s:Sm}{n:Int}(h1:¬s.f=4)(h2:¬s.f=5)(h3:¬r.la.k=2):zD r s n={ xk r.dy r.la n with ck:=s.ud }:=by unfold zD;rw[if_neg h2,if_neg h1,if_neg h3]
theorem hdr1t{r:Rc}{s:Sm}{n:Int}(h1:s.f=1)(h3:r.la.k=2):zD r s n={ xk r.dy r.la n with ck:=s.ud }:=by unfold zD;rw[if_neg (by omega),if_neg (by omega),if_pos h3,if_neg (by omega),if_neg (by omega)]
theorem hdr2t{r:Rc}{s:Sm}{n:Int}(h1:s.f=2)(h3:r.la.k=2):zD r s n={ xk r.dy r.la n with ck:=s.ud,mr:=s.mr,tm:=(kg 32 r.la.tm 16 s.tm).1 }:=by unfold zD;rw[if_neg (by omega),if_neg (by omega),if_pos h3,if_pos h1]
theorem hdr3t{r:Rc}{s:Sm}{n:Int}(h1:s.f=3)(h3:r.la.k=2):zD r s n={ xk r.dy r.la n with ck:=s.ud,mr:=s.mr,tm:=s.tm,id:=s.id }:=by unfold zD;rw[if_neg (by omega),if_neg (by omega),if_pos h3,if_neg (by omega),if_pos h1]
open Go.RowKit
theorem crc_fit(f:Int)(l:List UInt8):qW (cbR f) (jp (cbR f) l)=true:=by
 have key:∀(n:Nat) (p:Nat),p<2^n→(kN (n:Int)).toNat=p→qW (n:Int) (jp (n:Int) l)=true:=fun n p hp he=>by
   have h1:kt n p (2^n-1) l<2^n:=zE hp l (by have:=Nat.pow_pos (n:=n) (show 0<2 by decide);omega)
   rw[←crcS_eq,he,xb]
   have h2:((kt n p (2^n-1) l:Nat):Int)<(2:Int)^n:=by
     have:=Int.ofNat_lt.2 h1
     rw[Int.natCast_pow] at this
     exact this
   exact⟨Int.natCast_nonneg _,by show _≤(2:Int)^n-1;simp only[Int.toNat_natCast];omega⟩
 unfold cbR
 split
 · exact key 3 3 (by decide) rfl
 · split
   · exact key 7 9 (by decide) rfl
   · exact key 8 7 (by decide) rfl
theorem w7{n:Nat}{v:Int}(h:0≤v∧v≤2^n-1):qW (n:Int) v=true:=(xb n v).2 h
theorem num_rng{h:Hd}(_:h.ok=true):0≤h.num∧h.num≤65535:=by
 unfold Hd.num
 split
 · have:=y0 16 h.sq;have e:(2:Int)^(16:Int).toNat=65536:=rfl;omega
 · have:=y0 16 h.id;have e:(2:Int)^(16:Int).toNat=65536:=rfl;omega
theorem lw_r{k:Nat}(x:Int):0≤lw k x∧lw k x≤2^k-1:=by
 have:=y0 (k:Int) x
 simp only[Int.toNat_natCast] at this
 omega
theorem hz_k(k:Int):hzR { Hd.z with k:=k } k=true:=by unfold hzR;exact decide_eq_true ⟨rfl,rfl,rfl,rfl,rfl,rfl,rfl,rfl,rfl,rfl,rfl,rfl,rfl,rfl,rfl⟩
theorem dzz:dzR Dy.z=true:=by decide
theorem low_ok(s:Sm)(hf:s.f=1∨s.f=2∨s.f=3)(h1:0≤s.cx∧s.cx<16∧s.pl.length≤1500)(h2:qW (cbR s.f) s.ck=true)(hk:s.h.k=1∨s.h.k=2)(hz:hzR s.h s.h.k=true)(hd:dzR s.d=true)
   (a:qW (wid s.f s.h.k 0) s.n=true) (b:qW (wid s.f s.h.k 1) s.tm=true) (c:qW (wid s.f s.h.k 2) s.mr=true) (d:qW (wid s.f s.h.k 3) s.id=true) (e:qW 16 s.ud=true):s.ok=true :=
 ok_low s hf h1 h2 (by unfold zL;rw[a,b,c,d,e];rfl) hk hz hd
theorem fit0:qW 0 0=true:=(xb 0 0).2 (by decide)
theorem kP{dy:Dy}{c f:Int}{h:Hd}{pl:List UInt8}(ho:h.ok=true)(hd:dy.ok=true)(hz:h.k=2∨dy=Dy.z)(hc:0≤c∧c<16)(hf:1≤f∧f≤5)(hp:pl.length≤1500):(qf dy c f h pl).ok=true:=by
 have hk:=ok_k ho
 have a:=h.of ho
 have hn:=num_rng ho
 have e16:qW 16 h.ck=true:=w7 (n:=16) (by omega)
 have hcrc:∀f,qW (cbR f) (j6 f h)=true:=fun f=>crc_fit f _
 have hdd:(decide (h.k=1)&&!(dzR dy))=false:=by
   rcases hz with h2|h2
   · rw[decide_eq_false (by omega)];rfl
   · rw[h2,dzz];simp
 unfold qf
 split
 · exact ok_big _ (.inr rfl) ⟨hc.1,hc.2,hp⟩ (hcrc 5) rfl (by unfold jL;dsimp only;rw[ho,hd,hdd];rfl)
 · split
   · refine ok_big _ (.inl rfl) ⟨hc.1,hc.2,hp⟩ (hcrc 4) rfl ?_
     have ho4:({ h with fr:=0,to:=0,fp:=0,tp:=0,sr:=0 }:Hd).ok=true:=by
       have i0:∀n:Int,0≤n→inR 0 n=true:=fun n hn=>inR_t ⟨by decide,hn⟩
       unfold Hd.ok comR udpR rtpR at ho ⊢
       dsimp only
       split at ho
       · rename_i k1
         rw[if_pos k1]
         simp only[Bool.and_eq_true,decide_eq_true_eq,i0 65535 (by decide),i0 4294967295 (by decide)] at ho ⊢
         simp only[ho,and_self,true_and]
       · rename_i k1
         split at ho
         · rename_i k2
           rw[if_neg k1,if_pos k2]
           simp only[Bool.and_eq_true,i0 65535 (by decide),i0 4294967295 (by decide)] at ho ⊢
           simp only[ho,and_self,true_and]
         · cases ho
     unfold jL;dsimp only;rw[ho4,hd,hdd];rfl
   · split
     · refine low_ok _ (.inl rfl) ⟨hc.1,hc.2,hp⟩ (hcrc 1) hk (hz_k _) dzz (w7 (n:=4) (lw_r (k:=4) _)) fit0 fit0 fit0 e16
     · split
       · split
         · rename_i k2
           have e0:∀i,wid 2 h.k i=([5,16,1,0]:List Int).getD i 0:=fun i=>by unfold wid;rw[if_neg (by decide),if_pos ⟨rfl,k2⟩]
           refine low_ok _ (.inr (.inl rfl)) ⟨hc.1,hc.2,hp⟩ (hcrc 2) hk (hz_k _) dzz ?_ ?_ ?_ ?_ e16
           · show qW (wid 2 h.k 0) _=true;rw[e0];exact w7 (n:=5) (lw_r (k:=5) _)
           · show qW (wid 2 h.k 1) _=true;rw[e0];exact w7 (n:=16) (lw_r (k:=16) _)
           · show qW (wid 2 h.k 2) _=true;rw[e0];exact w7 (n:=1) (by dsimp only;omega)
           · show qW (wid 2 h.k 3) _=true;rw[e0];exact fit0
         · rename_i k2
           have e0:∀i,wid 2 h.k i=([5,0,0,0]:List Int).getD i 0:=fun i=>by unfold wid;rw[if_neg (by decide),if_neg (fun k=>k2 k.2),if_pos rfl]
           refine low_ok _ (.inr (.inl rfl)) ⟨hc.1,hc.2,hp⟩ (hcrc 2) hk (hz_k _) dzz ?_ ?_ ?_ ?_ e16
           · show qW (wid 2 h.k 0) _=true;rw[e0];exact w7 (n:=5) (lw_r (k:=5) _)
           · show qW (wid 2 h.k 1) _=true;rw[e0];exact fit0
           · show qW (wid 2 h.k 2) _=true;rw[e0];exact fit0
           · show qW (wid 2 h.k 3) _=true;rw[e0];exact fit0
       · split
         · rename_i k2
           have e0:∀i,wid 3 h.k i=([8,32,1,16]:List Int).getD i 0:=fun i=>by unfold wid;rw[if_neg (by decide),if_neg (by omega),if_neg (by decide),if_pos k2]
           refine low_ok _ (.inr (.inr rfl)) ⟨hc.1,hc.2,hp⟩ (hcrc 3) hk (hz_k _) dzz ?_ ?_ ?_ ?_ e16
           · show qW (wid 3 h.k 0) _=true;rw[e0];exact w7 (n:=8) (lw_r (k:=8) _)
           · show qW (wid 3 h.k 1) _=true;rw[e0];exact w7 (n:=32) (by dsimp only;omega)
           · show qW (wid 3 h.k 2) _=true;rw[e0];exact w7 (n:=1) (by dsimp only;omega)
           · show qW (wid 3 h.k 3) _=true;rw[e0];exact w7 (n:=16) (by dsimp only;omega)
         · rename_i k2
           have e0:∀i,wid 3 h.k i=([16,0,0,0]:List Int).getD i 0:=fun i=>by unfold wid;rw[if_neg (by decide),if_neg (by omega),if_neg (by decide),if_neg k2]
           refine low_ok _ (.inr (.inr rfl)) ⟨hc.1,hc.2,hp⟩ (hcrc 3) hk (hz_k _) dzz ?_ ?_ ?_ ?_ e16
           · show qW (wid 3 h.k 0) _=true;rw[e0];exact w7 (n:=16) (by dsimp only;omega)
           · show qW (wid 3 h.k 1) _=true;rw[e0];exact fit0
           · show qW (wid 3 h.k 2) _=true;rw[e0];exact fit0
           · show qW (wid 3 h.k 3) _=true;rw[e0];exact fit0
section
variable {m w:Int}{s x:Sn}{h:Hd}
theorem csA_beg(hw:1≤w)(h1:¬0<(csA w s h).1.full)(h2:¬0<(csA w s h).1.refr):csA w s h=(s,false)∧s.act=true∧jq s.lst h=0:=by
 unfold csA at h1 h2 ⊢
 cases ha:s.act with
 | false=>rw[ha,if_pos rfl] at h1;exact absurd (show 0<w by omega) h1
 | true =>
   rw[ha,if_neg (by decide)] at h1 h2
   rw[if_neg (by decide)]
   split
   · rename_i hc
     rw[if_pos hc] at h1 h2
     split at h1
     · exact absurd (show 0<w by omega) h1
     · rename_i hf
       rw[if_neg hf] at h2
       exact absurd (show 0<w by omega) h2
   · rename_i hc
     exact⟨rfl,rfl,by by_cases k:jq s.lst h=0;exact k;exact absurd (.inl k) hc⟩
theorem ctx_lo(hw:1≤w)(h3:(zf m w s h).2≤3):s.act=true∧jq s.lst h=0∧(zf m w s h).1=s∧z9 s h (zf m w s h).2=true:=by
 obtain⟨A,hA⟩:∃A,csA w s h=A:=⟨_,rfl⟩
 obtain⟨B,hB⟩:∃B,csB m w A=B:=⟨_,rfl⟩
 obtain⟨C,hC⟩:∃C,csC m w s.rf.length B=C:=⟨_,rfl⟩
 obtain⟨D,hD⟩:∃D,csD s.lst s.act h C=D:=⟨_,rfl⟩
 have e:zf m w s h=csE w s.lst s.act h D:=by unfold zf;rw[hA,hB,hC,hD]
 rw[e] at h3 ⊢
 have e1:¬0<D.full:=fun k=>by unfold csE at h3;rw[if_pos k] at h3;(dsimp only at h3;omega)
 have e2:¬0<D.refr:=fun k=>by unfold csE at h3;rw[if_neg e1,if_pos k] at h3;(dsimp only at h3;omega)
 have d1:D.full=C.1.full∧D.refr=C.1.refr:=by rw[←hD];unfold csD yb;split<;>exact⟨rfl,rfl⟩
 have c1:C=B:=by
   rw[←hC]
   unfold csC
   split
   · rename_i k
     unfold csC at hC
     rw[if_pos k] at hC
     rw[←hC] at d1
     exact absurd (show 0<D.full by rw[d1.1];show 0<w;omega) e1
   · rfl
 have b1:B=A:=by
   rw[←hB]
   unfold csB
   split
   · rename_i k
     unfold csB at hB
     rw[if_pos k] at hB
     rw[c1,←hB] at d1
     exact absurd (show 0<D.full by rw[d1.1];show 0<w;omega) e1
   · rfl
 rw[c1,b1] at d1
 have a1:=csA_beg (s:=s) (h:=h) hw (by rw[hA,←d1.1];exact e1) (by rw[hA,←d1.2];exact e2)
 rw[hA] at a1
 have dd:D=s:=by
   rw[←hD,c1,b1,a1.1]
   refine(csD_n ?_).symm
   rintro(k|k)
   · exact absurd k (by decide)
   · rw[a1.1] at d1;dsimp only at k d1;omega
 rw[dd] at e1 e2 ⊢
 refine⟨a1.2.1,a1.2.2,?_⟩
 unfold csE at h3 ⊢
 rw[dd] at h3
 rw[if_neg e1,if_neg e2] at h3 ⊢
 split
 · exact⟨rfl,by assumption⟩
 · split
   · exact⟨rfl,by assumption⟩
   · split
     · exact⟨rfl,by assumption⟩
     · rename_i k1 k2 k3
       rw[if_neg k1,if_neg k2,if_neg k3] at h3
       (dsimp only at h3;omega)
theorem ctx_act(hw:1≤w)(hs:s.ok m w=true)(ha:s.act=false):(zf m w s h).2=5:=by
 have hh:s.act=true→qy s.fst h=true:=fun k=>by rw[ha] at k;cases k
 obtain⟨a1,a2,a3,a4,a5,a6,a7⟩:=wU hs ha
 have eA:csA w s h=({ s with act:=true,full:=w },true):=by unfold csA;rw[if_pos ha]
 unfold zf
 rw[eA]
 have eB:csB m w ({ s with act:=true,full:=w },true)=(({ s with act:=true,full:=w }:Sn),true):=by
   unfold csB;rw[if_neg];dsimp only;omega
 have eC:csC m w s.rf.length (({ s with act:=true,full:=w }:Sn),true)=(({ s with act:=true,full:=w }:Sn),true):=by
   unfold csC;rw[if_neg];rw[a7];simp
 rw[eB,eC]
 have eD:(csD s.lst s.act h (({ s with act:=true,full:=w }:Sn),true)).full=w:=by unfold csD yb;split<;>rfl
 unfold csE
 rw[if_pos (by rw[eD];omega)]
theorem chg_of{a b:Hd}(h:jq a b=0):a.tos=b.tos∧a.ttl=b.ttl∧a.fx=b.fx∧a.ty=b.ty∧decide (a.ck=0)=decide (b.ck=0):=by
 unfold jq at h
 refine⟨?_,?_,?_,?_,?_⟩<;>refine Decidable.byContradiction fun k=>?_<;>rw[if_neg k] at h<;>(repeat' split at h)<;>omega
theorem fits_of{wd:Int}{l:List Int}{k v r:Int}(h:jH wd l k v=true)(hr:r∈l):(kg wd r k (lw k v)).1=v:=by
 unfold jH at h
 simp only[Bool.and_eq_true,decide_eq_true_eq,List.all_eq_true] at h
 obtain⟨h1,⟨h2,h3⟩,h4,h5⟩:=h
 have h6:=h5 r hr
 have h7:xD k (lw k v)=true:=by unfold xD;exact decide_eq_true (y0 k v)
 rw[lsbR_g h1 h2 h3 h6.1 h7]
 exact h6.2
theorem num_sq{h:Hd}(k:h.k=2)(ho:h.ok=true):lw 16 h.num=h.sq:=by
 have a:=h.of ho
 unfold Hd.num
 rw[if_pos k,lw_lw,lw_small (by omega) (by show _<(65536:Int);omega)]
theorem num_id{h:Hd}(k:h.k=1)(ho:h.ok=true):lw 16 h.num=h.id:=by
 have a:=h.of ho
 unfold Hd.num
 rw[if_neg (by omega),lw_lw,lw_small (by omega) (by show _<(65536:Int);omega)]
theorem hdr_lo{r:Rc}{f:Int}{c:Int}{pl:List UInt8}{dy:Dy}(hl:r.la=s.lst)(hd:r.dy=s.dy)(hm:s.lst∈s.rf)(hok:r.la.ok=true)(hdo:s.dy.ok=true)(ho:h.ok=true)(hsm:qy s.lst h=true)(hf:1≤f∧f≤3)(hp:z9 s h f=true) :
   zD r (qf dy c f h pl) (zw r (qf dy c f h pl))=h:=by
 have hkk:=ok_k ho
 obtain⟨q1,q2,q3,q4,q5,q6⟩:=qV.1 hsm
 have hka:r.la.k=h.k:=by rw[hl];exact q1
 unfold z9 at hp
 simp only[Bool.and_eq_true,Bool.or_eq_true,decide_eq_true_eq,List.all_eq_true] at hp
 obtain⟨h1,h2⟩:=hp
 have h3:=h1 _ hm
 unfold jf at h3
 simp only[Bool.and_eq_true,decide_eq_true_eq] at h3
 obtain⟨h4,h5,h6⟩:=h3
 obtain⟨c1,c2,c3,c4,c5⟩:=chg_of h4
 have hnum:f≠3∨h.k=2→(kg 16 r.la.num (wid f h.k 0) (lw (wid f h.k 0) h.num)).1=h.num:=fun k=>by
   rcases h2 with h2|h2
   · omega
   · rw[hl];exact fits_of h2.1 (List.mem_map_of_mem hm)
 have hs:=h.of ho
 have hlo:s.lst.ok=true:=by rw[←hl];exact hok
 have hpd:∀n,xk r.dy r.la n=if s.lst.k=1 then { s.lst with mr:=0,ck:=0,id:=lw 16 n } else { s.lst with mr:=0,ck:=0,sq:=lw 16 n,tm:=lw 32 (s.lst.tm+s.dy.st*stepR s.lst n),id:=lw 16 (s.lst.id+s.dy.fo*stepR s.lst n) }:=fun n=>by
   unfold xk;rw[hl,hd,if_pos ⟨hlo,hdo⟩]
 rcases hkk with hk|hk
 · have hu:=udp0 h ho hk
   have hul:=udp0 s.lst hlo (by rw[q1];exact hk)
   have hid:=num_id hk ho
   have key:({ xk r.dy r.la h.num with ck:=h.ck }:Hd)=h:=by
     rw[hpd,if_pos (by rw[q1];exact hk)]
     obtain⟨k,tos,id,fx,ttl,fr,to,fp,tp,ck,mr,ty,sq,tm,sr⟩:=h
     dsimp only at *
     simp only[Hd.mk.injEq]
     simp only[hid,true_and]
     omega
   have:f=1∨f=2∨f=3:=by omega
   rcases this with rfl|rfl|rfl
   · have e:zw r (qf dy c 1 h pl)=h.num:=by
       unfold zw
       rw[if_neg (by show ¬((1:Int)=3∧_);omega),hka]
       exact hnum (.inl (by decide))
     rw[e,hdr1 (by show ¬(1:Int)=4;decide) (by show ¬(1:Int)=5;decide) (by omega)]
     exact key
   · have e0:qf dy c 2 h pl=⟨c,2,lw 5 h.num,0,0,0,h.ck,{ Hd.z with k:=h.k },Dy.z,j6 2 h,pl⟩:=by unfold qf;rw[if_neg (by decide),if_neg (by decide),if_neg (by decide),if_pos rfl,if_neg (by omega)]
     have e:zw r (qf dy c 2 h pl)=h.num:=by
       rw[e0]
       unfold zw
       rw[if_neg (by show ¬((2:Int)=3∧_);omega),hka]
       have:=hnum (.inl (by decide))
       rw[show wid 2 h.k 0=5 by simp[wid,hk]] at this ⊢
       exact this
     rw[e,e0,hdr1 (by show ¬(2:Int)=4;decide) (by show ¬(2:Int)=5;decide) (by omega)]
     exact key
   · have e0:qf dy c 3 h pl=⟨c,3,h.num,0,0,0,h.ck,{ Hd.z with k:=h.k },Dy.z,j6 3 h,pl⟩:=by unfold qf;rw[if_neg (by decide),if_neg (by decide),if_neg (by decide),if_neg (by decide),if_neg (by omega)]
     have e:zw r (qf dy c 3 h pl)=h.num:=by
       rw[e0]
       unfold zw
       rw[if_pos ⟨rfl,by omega⟩]
     rw[e,e0,hdr1 (by show ¬(3:Int)=4;decide) (by show ¬(3:Int)=5;decide) (by omega)]
     exact key
 · have hsq:=num_sq hk ho
   have pk2:zq s h s.lst={ xk r.dy r.la h.num with ck:=h.ck }:=by unfold zq;rw[hl,hd]
   have:f=1∨f=2∨f=3:=by omega
   rcases this with rfl|rfl|rfl
   · have e:zw r (qf dy c 1 h pl)=h.num:=by
       unfold zw
       rw[if_neg (by show ¬((1:Int)=3∧_);omega),hka]
       exact hnum (.inl (by decide))
     rw[e,hdr1t rfl (by omega)]
     have:=h5 rfl
     rw[pk2] at this
     exact this
   · have e0:qf dy c 2 h pl=⟨c,2,lw 5 h.num,lw 16 h.tm,h.mr,0,h.ck,{ Hd.z with k:=h.k },Dy.z,j6 2 h,pl⟩:=by unfold qf;rw[if_neg (by decide),if_neg (by decide),if_neg (by decide),if_pos rfl,if_pos hk]
     have e:zw r (qf dy c 2 h pl)=h.num:=by
       rw[e0]
       unfold zw
       rw[if_neg (by show ¬((2:Int)=3∧_);omega),hka]
       have:=hnum (.inl (by decide))
       rw[show wid 2 h.k 0=5 by simp[wid,hk]] at this ⊢
       exact this
     have et:(kg 32 r.la.tm 16 (lw 16 h.tm)).1=h.tm:=by
       rcases h2 with h2|h2
       · omega
       · rcases h2.2 with h7|h7
         · exact absurd ⟨rfl,hk⟩ h7
         · rw[hl];exact fits_of h7 (List.mem_map_of_mem (f:=fun x:Hd=>x.tm) hm)
     have ei:(xk r.dy r.la h.num).id=h.id:=by
       have:=h6 ⟨rfl,hk⟩
       rw[pk2] at this
       exact this
     rw[e,e0,hdr2t rfl (by omega),et]
     rw[hpd,if_neg (by rw[q1];omega)] at ei ⊢
     obtain⟨k,tos,id,fx,ttl,fr,to,fp,tp,ck,mr,ty,sq,tm,sr⟩:=h
     dsimp only at *
     simp only[Hd.mk.injEq]
     simp only[hsq,ei,true_and,and_true]
     omega
   · have e0:qf dy c 3 h pl=⟨c,3,lw 8 h.num,h.tm,h.mr,h.id,h.ck,{ Hd.z with k:=h.k },Dy.z,j6 3 h,pl⟩:=by unfold qf;rw[if_neg (by decide),if_neg (by decide),if_neg (by decide),if_neg (by decide),if_pos hk]
     have e:zw r (qf dy c 3 h pl)=h.num:=by
       rw[e0]
       unfold zw
       rw[if_neg (by show ¬((3:Int)=3∧_);omega),hka]
       have:=hnum (.inr hk)
       rw[show wid 3 h.k 0=8 by simp[wid,hk]] at this ⊢
       exact this
     rw[e,e0,hdr3t rfl (by omega)]
     rw[hpd,if_neg (by rw[q1];omega)]
     obtain⟨k,tos,id,fx,ttl,fr,to,fp,tp,ck,mr,ty,sq,tm,sr⟩:=h
     dsimp only at *
     simp only[Hd.mk.injEq]
     simp only[hsq,true_and,and_true]
     omega
end
open Go.RowKit
def Inv(c:Co)(d:De):Prop:=c.ok=true∧d.ok=true∧∀i,i<16→(c.at i).act=true→(d.cx.getD i Rc.z).st=2∧(d.cx.getD i Rc.z).la=(c.at i).lst∧(d.cx.getD i Rc.z).dy=(c.at i).dy
theorem decR_ck{b:List UInt8}{hb:b.length≤140737488355328}{k:Int}{ck ck':Bool}{c:Int}(hp:qp b=(c,4,0)):qU b hb k ck=qU b hb k ck':=by
 unfold qU
 rw[hp]
 unfold decB
 rfl
theorem decR_k5{b:List UInt8}{hb:b.length≤140737488355328}{k k':Int}{ck ck':Bool}{c:Int}(hp:qp b=(c,5,0)):qU b hb k ck=qU b hb k' ck':=by
 rw[vp hp (by omega),vp hp (by omega)]
 rfl
theorem raw_enc{b:List UInt8}(h:b.length≤1500):(zo (jx b)).1=210::b:=by
 have e:jx b=yo b:=rfl
 rw[e,y7 (by rw[rawD_ok];exact decide_eq_true h),rawD_hd]
 rfl
theorem raw_dec{d:De}{b:List UInt8}(hd:d.ok=true)(h0:b≠[])(h:b.length≤1500)(hb:(210::b).length≤140737488355328):qq d (210::b) hb=⟨d,b,[],0⟩:=by
 have hp:qp (210::b)=(0,6,0):=rfl
 have h1:1≤b.length:=by
   cases b with
   | nil=>exact absurd rfl h0
   | cons _ _=>simp
 rw[dcp_6y hd hp ((dec6_e b hb).2 ⟨h1,h⟩),dec6_p b hb h]
 rfl
theorem partsR_f{dy:Dy}{c f:Int}{h:Hd}{pl:List UInt8}(hf:1≤f∧f≤5):(qf dy c f h pl).f=f∧(qf dy c f h pl).cx=c∧(qf dy c f h pl).pl=pl∧(qf dy c f h pl).ck=j6 f h:=by
 have:f=1∨f=2∨f=3∨f=4∨f=5:=by omega
 rcases this with rfl|rfl|rfl|rfl|rfl
 · exact⟨rfl,rfl,rfl,rfl⟩
 · unfold qf;rw[if_neg (by decide),if_neg (by decide),if_neg (by decide),if_pos rfl];split<;>exact⟨rfl,rfl,rfl,rfl⟩
 · unfold qf;rw[if_neg (by decide),if_neg (by decide),if_neg (by decide),if_neg (by decide)];split<;>exact⟨rfl,rfl,rfl,rfl⟩
 · exact⟨rfl,rfl,rfl,rfl⟩
 · exact⟨rfl,rfl,rfl,rfl⟩
theorem partsR_lo{dy:Dy}{c f:Int}{h:Hd}{pl:List UInt8}(hf:1≤f∧f≤3):(qf dy c f h pl).h.k=h.k∧(qf dy c f h pl).ud=h.ck:=by
 have:f=1∨f=2∨f=3:=by omega
 rcases this with rfl|rfl|rfl
 · exact⟨rfl,rfl⟩
 · unfold qf;rw[if_neg (by decide),if_neg (by decide),if_neg (by decide),if_pos rfl];split<;>exact⟨rfl,rfl⟩
 · unfold qf;rw[if_neg (by decide),if_neg (by decide),if_neg (by decide),if_neg (by decide)];split<;>exact⟨rfl,rfl⟩
theorem de_set{d:De}{i:Nat}{r:Rc}(hd:d.ok=true)(hr:r.ok=true):(d.set i r).ok=true:=by
 unfold De.ok at hd ⊢
 simp only[Bool.and_eq_true,decide_eq_true_eq,List.all_eq_true] at hd ⊢
 refine⟨hd.1,?_,fun x hx=>?_⟩
 · show(d.cx.set _ r).length=16;rw[List.length_set];exact hd.2.1
 · rcases List.mem_or_eq_of_mem_set hx with hx|rfl
   · exact hd.2.2 x hx
   · exact hr
theorem rc_mk{r:Rc}(he:r.er=0)(hst:r.st=2)(h1:r.la.ok=true)(h2:r.dy.ok=true)(h3:r.la.k=2∨r.dy=Dy.z):r.ok=true:=by
 unfold Rc.ok
 rw[he,hst,if_neg (by decide),if_pos (.inr rfl),h1,h2,decide_eq_true h3]
 rfl
theorem set_getD{d:De}{i k:Nat}{r:Rc}(hl:d.cx.length=16)(hi:i<16):(d.set i r).cx.getD k Rc.z=if k=i then r else d.cx.getD k Rc.z:=by
 show(d.cx.set ((i:Int).toNat) r).getD k Rc.z=_
 rw[Int.toNat_natCast,List.getD_eq_getElem?_getD,List.getElem?_set]
 split
 · rename_i e;subst e;rw[if_pos (by omega),if_pos rfl];rfl
 · rename_i e;rw[if_neg (fun k=>e k.symm),List.getD_eq_getElem?_getD]
theorem co_at{c:Co}{i k:Nat}{s:Sn}(hl:c.cx.length=16)(hi:i<16):(c.set i s).at k=if k=i then s else c.at k:=by
 unfold Co.set Co.at
 rw[List.getD_eq_getElem?_getD,List.getElem?_set]
 split
 · rename_i e;subst e;rw[if_pos (by omega),if_pos rfl];rfl
 · rename_i e;rw[if_neg (fun k=>e k.symm),List.getD_eq_getElem?_getD]
theorem reb_lo{m:Int}{r:Rc}{s:Sm}{h:Hd}(h1:¬(s.f=4∨s.f=5))(h2:zD r s (zw r s)=h)(h3:j6 s.f h=s.ck):xM m r s=(h,true):=by
 unfold xM
 have h4:kk s h=true:=by unfold kk;exact decide_eq_true h3
 rw[if_neg h1,h2,if_pos h4]
theorem reb_hi{m:Int}{r:Rc}{s:Sm}{h:Hd}(h1:s.f=4∨s.f=5)(h2:zD r s 0=h)(h3:j6 s.f h=s.ck):xM m r s=(h,true):=by
 unfold xM
 have h4:kk s h=true:=by unfold kk;exact decide_eq_true h3
 rw[if_pos h1,h2,h4]
theorem inv_comp{c:Co}{d:De}{b pl:List UInt8}{h:Hd}{i:Nat}(hI:Inv c d)(hp:qu b=((h,pl),0))(hf:x9 c.cx h=some i)(hb:(zF c i h pl).2.length≤140737488355328) :
   ∃d' fb,qq d (zF c i h pl).2 hb=⟨d',b,fb,0⟩∧Inv (zF c i h pl).1 d':=by
 obtain⟨hc,hd,hI3⟩:=hI
 obtain⟨ho,hbld,-,-,hpl⟩:=xt hp
 obtain⟨hi,hs,hh,hoth⟩:=xu hc hf
 obtain⟨w1,w2,w3,w4⟩:=yI hc
 have hcl:=xy hc
 obtain⟨f,hff⟩:∃f,(zf c.m c.w (c.at i) h).2=f:=⟨_,rfl⟩
 obtain⟨x,hxx⟩:∃x,(zf c.m c.w (c.at i) h).1=x:=⟨_,rfl⟩
 have hm:=ks w3 hs hh
 rw[hff,hxx] at hm
 obtain⟨hmid,hf15,hf5,hf4,hm3⟩:=hm
 have hlo:=ctx_lo (m:=c.m) (s:=c.at i) (h:=h) w3
 rw[hff,hxx] at hlo
 have hoff:f≠5→(c.at i).act=true:=fun k=>by
   cases ha:(c.at i).act with
   | true=>rfl
   | false=>exact absurd (hff.symm.trans (ctx_act w3 hs ha)) k
 have hPok:=kP (dy:=x.dy) (c:=(i:Int)) (pl:=pl) ho hmid.dok hmid.dz ⟨by omega,by omega⟩ hf15 hpl
 obtain⟨p1,p2,p3,p4⟩:=partsR_f (dy:=x.dy) (c:=(i:Int)) (h:=h) (pl:=pl) hf15
 have hB:(zF c i h pl).2=hdL (qf x.dy i f h pl)++(qf x.dy i f h pl).pl:=by
   unfold zF
   rw[hff,hxx,y7 hPok]
 have hC:(zF c i h pl).1=c.set i (csF c.m c.w h x f):=by unfold zF;rw[hff,hxx]
 obtain⟨-,hdl,hrok⟩:=vq (c:=(i:Int)) hd (by omega) (by omega)
 rw[Int.toNat_natCast] at hrok
 obtain⟨r,hr⟩:∃r,d.cx.getD i Rc.z=r:=⟨_,rfl⟩
 rw[hr] at hrok
 have hr3:=hI3 i hi
 rw[hr] at hr3
 have hpk:=ym (qf x.dy i f h pl) hPok (qf x.dy i f h pl).pl
 rw[p1,p2,←hB] at hpk
 have hretA:∀(B:List UInt8) (_:hdL (qf x.dy i f h pl)++(qf x.dy i f h pl).pl=B) (hb':B.length≤140737488355328),qU B hb' (qf x.dy i f h pl).h.k (decide ((qf x.dy i f h pl).ud≠0))=.inl (qf x.dy i f h pl):=fun B e hb'=>by
   subst e
   exact ret_dec _ hPok hb'
 have hret:=hretA _ hB.symm hb
 have hsame:(c.at i).act=true→qy (c.at i).lst h=true:=fun ha=>(sn_refs hs ha (hh ha) _ (mem_lst (kQ hs ha))).2
 have hrc:=rc_ok hrok
 -- what is decoded
 have hdec:qU (zF c i h pl).2 hb r.la.k (decide (r.la.ck≠0))=.inl (qf x.dy i f h pl):=by
   by_cases k5:f=5
   · have hpk5:=hpk
     rw[k5] at hpk5
     rw[decR_k5 hpk5]
     exact hret
   · have ha:=hoff k5
     obtain⟨r1,r2,r3⟩:=hr3 ha
     have hk:r.la.k=h.k:=by rw[r2];exact(qV.1 (hsame ha)).1
     by_cases k4:f=4
     · have hpk4:=hpk
       rw[k4] at hpk4
       have e4:(qf x.dy i f h pl).h.k=h.k:=by rw[k4];rfl
       rw[e4] at hret
       rw[hk,decR_ck hpk4]
       exact hret
     · obtain⟨l1,l2,l3,l4⟩:=hlo (by omega)
       obtain⟨q1,q2⟩:=partsR_lo (dy:=x.dy) (c:=(i:Int)) (f:=f) (h:=h) (pl:=pl) (by omega)
       rw[q1,q2] at hret
       have e:decide (r.la.ck≠0)=decide (h.ck≠0):=by
         have:=(chg_of l2).2.2.2.2
         rw[←r2] at this
         simp only[ne_eq,decide_not,this]
       rw[hk,e]
       exact hret
 have hst:¬r.st<xE f:=by
   have:=hrc.2.1
   unfold xE
   split
   · omega
   · rename_i k5
     have:=(hr3 (hoff k5)).1
     split<;>omega
 have hreb:xM d.m r (qf x.dy i f h pl)=(h,true):=by
   by_cases k3:f≤3
   · obtain⟨l1,l2,l3,l4⟩:=hlo k3
     obtain⟨r1,r2,r3⟩:=hr3 l1
     refine reb_lo (by omega) ?_ (by rw[p1,p4])
     rw[l3] at hPok ⊢
     exact hdr_lo r2 r3 (mem_lst (kQ hs l1)) ((hrc.2.2.2 (by omega)).1) (by rw[←r3];exact(hrc.2.2.2 (by omega)).2.1) ho (hsame l1) ⟨hf15.1,k3⟩ l4
   · refine reb_hi (by omega) ?_ (by rw[p1,p4])
     by_cases k5:f=5
     · rw[hdr5 (by rw[p1];exact k5),k5]
       rfl
     · have k4:f=4:=by omega
       have ha:=hoff k5
       obtain⟨r1,r2,r3⟩:=hr3 ha
       obtain⟨q1,q2,q3,q4,q5,q6⟩:=qV.1 (hsame ha)
       rw[hdr4 (by rw[p1];exact k4),k4,r2,q2,q3,q4,q5,q6]
       rfl
 refine⟨d.set i (ky r (qf x.dy i f h pl) h),vv d.m i (qf x.dy i f h pl) h,?_,?_⟩
 · rw[dcp_g hd hpk (by omega) (by rw[Int.toNat_natCast];exact hr) hst hdec,decP_g hreb (by rw[p3,hbld]),p3,hbld]
 · have hacc:(ky r (qf x.dy i f h pl) h).dy=x.dy:=by
     unfold ky
     dsimp only
     rw[p1]
     split
     · rename_i k
       rcases k with k|k
       · rw[k];rfl
       · rw[k];rfl
     · obtain⟨l1,l2,l3,l4⟩:=hlo (by omega)
       rw[l3]
       exact(hr3 l1).2.2
   have hF:=csF_ok w3 w4 hmid ho (f:=f) hf5.1 hf4.1 hm3
   rw[hC]
   refine⟨?_,de_set hd (rc_mk rfl rfl ho (by rw[hacc];exact hmid.dok) (by rw[hacc];exact hmid.dz)),fun k hk ha=>?_⟩
   · rw[←hC];exact comp_ok hc ho hf
   · rw[set_getD hdl hi]
     rw[co_at hcl hi] at ha ⊢
     split
     · rename_i e
       rw[if_pos e] at ha
       exact⟨rfl,(csF_lst w3 f).symm,hacc⟩
     · rename_i e
       rw[if_neg e] at ha
       exact hI3 k hk ha
theorem inv_step{c:Co}{d:De}{b:List UInt8}(hI:Inv c d)(h0:b≠[])(h1:b.length≤1500):∃c' y,qw c b=((c',y),0)∧y.length≤3000∧∀hb:y.length≤140737488355328,∃d' fb,qq d y hb=⟨d',b,fb,0⟩∧Inv c' d':=by
 have hc:=hI.1
 have raw:∃c' y,((c,(zo (jx b)).1),(0:Int))=((c',y),0)∧y.length≤3000∧∀hb:y.length≤140737488355328,∃d' fb,qq d y hb=⟨d',b,fb,0⟩∧Inv c' d':=by
   refine⟨c,210::b,by rw[raw_enc h1],by simp;omega,fun hb=>⟨d,[],raw_dec hI.2.1 h0 h1 hb,hI⟩⟩
 unfold qw
 rw[if_pos hc,if_neg (by rintro(k|k);exact h0 k;omega)]
 split
 · rename_i hp
   have hp2:qu b=(((qu b).1.1,(qu b).1.2),0):=by rw[←hp]
   split
   · rename_i i hf
     split
     · exact raw
     · refine⟨_,_,rfl,?_,fun hb=>inv_comp hI hp2 hf hb⟩
       obtain⟨ho,-,-,-,hpl⟩:=xt hp2
       obtain⟨hi,hs,hh,-⟩:=xu hc hf
       have hm:=ks (yI hc).2.2.1 hs hh
       have hPok:=kP (c:=(i:Int)) (pl:=(qu b).1.2) ho hm.1.dok hm.1.dz ⟨by omega,by omega⟩ hm.2.1 hpl
       have h9:=hd_len _ hPok
       have h8:=(Sm.of _ hPok).1
       rw[y7 hPok]
       dsimp only
       rw[List.length_append]
       omega
   · exact raw
 · exact raw
end Go.Proofs.YtndpmpnmkpaklaaGreatDoor
