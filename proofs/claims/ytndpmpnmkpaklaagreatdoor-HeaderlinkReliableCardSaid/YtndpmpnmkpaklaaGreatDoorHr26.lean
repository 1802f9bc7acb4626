/-
  Contracts of the functions that the laws reach.
-/
import Derived.Test.YtndpmpnmkpaklaaGreatDoorHr22
import Derived.Test.YtndpmpnmkpaklaaGreatDoorHr23
import Derived.Test.YtndpmpnmkpaklaaGreatDoorHr24
set_option linter.all false
namespace Go.Proofs.YtndpmpnmkpaklaaGreatDoor
open Go.RowKit
variable {G:Nat→AV}
theorem LF.rcv{cx:List Rc}{n:Nat}{q:Nm}{l:LS}{F:List Nm}(hF:InL q F)(hn:n=cx.length)(hq:LH l q fun c _ _=>c.cs=cx.flatMap Rc.cs):LF l F (.vw q 0 n 19) (Go.Proofs.YtndpmpnmkpaklaaGreatDoor.rcv cx):=by
 subst hn
 obtain⟨l1,c,l2,rfl,h3⟩:=hq.ex
 exact LF.row hF ⟨l1,c,l2,rfl,by decide,by rw[h3,qm Rc.cs_len],rfl,h3.symm⟩
open Go.RowKit
variable {G:Nat→AV}
def kindR(h:Hd):Prop:=h.k=1∨h.k=2
theorem hdr_kind(t:List Int)(a:Nat)(fl:Int):kindR (vN t a fl):=hkd_12 fl
theorem fol_k(t:List Int)(a:Nat)(h:Hd)(reg:Bool):(jU t a h reg).1.k=h.k:=by
 have e1:∀s,(foI h s).k=h.k:=fun s=>rfl
 have e2:∀a x,(foB t a x).1.k=x.k:=fun a x=>by unfold foB;split<;>rfl
 have e3:∀s x,(foT s x).k=x.k:=fun s x=>by unfold foT;split<;>rfl
 have e4:∀a x,(foX t a x).1.k=x.k:=fun a x=>by unfold foX;(repeat' split)<;>rfl
 unfold jU
 split
 · dsimp only;rw[e3,e2,e1]
 · rw[e4,e3,e2,e1]
def bbv(l:List (List UInt8)):AV:=.sl l.length (l.map bv)
attribute [local irreducible] vN wI jU wH zd jG qi qj
theorem RL.rowBB{t:List Int}{a:Nat}{L:List (List UInt8)}{n:Nat}{q p:Nm}{l:LS}(h:LH l q fun c _ r=>c.cs=L.map bv∧n=L.length∧LB [(p,xg t a)] r):RL (fun _=>(bbv L,[(p,xg t a)])) (.vw q 0 n 1) l:=by
 obtain⟨l1,c,l2,rfl,h1,rfl,h2⟩:=h.ex
 exact RL.frz [q] (LF.row InL.here ⟨l1,c,l2,rfl,by decide,by simp[h1],rfl,h1.symm⟩) ⟨l1,c,l2,rfl,h2⟩
theorem xi(l:List (List UInt8))(b:List UInt8):l.map bv++[bv b]=(l++[b]).map bv:=by rw[List.map_append];rfl
theorem pkt_len(h:Hd)(p:List UInt8):28≤(wH h p).length∧(wH h p).length≤40+p.length:=by
 have h1:(pkT h).length=0∨(pkT h).length=12:=by unfold pkT;split<;>simp
 unfold wH
 simp only[List.length_append,st2_len,pk20_len,putBlen]
 omega
def qY(b:List UInt8):Prop:=b≠[]∧b.length≤1500
end Go.Proofs.YtndpmpnmkpaklaaGreatDoor
namespace Go.Proofs.YtndpmpnmkpaklaaGreatDoor
open Go.RowKit
def yF(f:Fb):Bool:=decide ((0≤f.c∧f.c<16)∧(0≤f.k∧f.k≤2)∧0≤f.n∧f.n≤65535)
def xa(l:List Hd)(n:Int):Nat→Nat
 | 0=>0
 | k+1=>if(l.getD k Hd.z).num=n then k+1 else xa l n k
theorem lastK_le(l:List Hd)(n:Int):∀k,xa l n k≤k
 | 0=>Nat.le_refl _
 | k+1=>by
   unfold xa
   split
   · exact Nat.le_refl _
   · have:=lastK_le l n k;omega
def jC(m:Int)(s:Sn)(k:Nat):Sn :=
 { s with full:=if s.ser≤k then 0 else s.full,refr:=if s.ser≤k then 0 else s.refr,rf:=if m=3 then s.rf.drop k else s.rf,ser:=if m=3 then(if 0<s.ser-k then s.ser-k else 0) else s.ser }
def wK(m n:Int)(s:Sn):Sn:=if xa s.rf n s.rf.length=0 then s else jC m s (xa s.rf n s.rf.length-1)
def stcS(w:Int)(s:Sn):Sn:={ s with full:=w,refr:=0,ser:=s.rf.length }
def nakS(w:Int)(s:Sn):Sn:=if 0<s.full then { s with full:=w,ser:=s.rf.length } else { s with refr:=w,ser:=s.rf.length }
def appS(m w:Int)(f:Fb)(s:Sn):Sn:=if f.k=0 then wK m f.n s else if f.k=2 then stcS w s else nakS w s
def yL(c:Co)(f:Fb):Co×Int :=
 if c.ok=true∧yF f=true then(if c.m=1 then(Co.z,16) else if(c.at f.c.toNat).act=true then(c.set f.c.toNat (appS c.m c.w f (c.at f.c.toNat)),0) else(Co.z,8)) else(Co.z,1)
section
variable {m w:Int}{s:Sn}
theorem ackK_ok{k:Nat}(hs:s.ok m w=true)(ha:s.act=true)(hk:k<s.rf.length):(jC m s k).ok m w=true∧qy (jC m s k).fst s.fst=true∧(jC m s k).lst=s.lst:=by
 have hM:=wZ hs ha (xj s.fst)
 obtain⟨h1,h2,h3,h4⟩:=(Sn.ok_e ha).1 hs
 have hf:=hM.full
 have hr:=hM.refr
 have hse:=hM.ser
 have hrf:∀r∈(jC m s k).rf,r∈s.rf:=fun r hr=>by
   unfold jC at hr
   dsimp only at hr
   split at hr
   · exact List.mem_of_mem_drop hr
   · exact hr
 have hlen:(jC m s k).rf.length=if m=3 then s.rf.length-k else s.rf.length:=by
   unfold jC;dsimp only
   split
   · rw[List.length_drop]
   · rfl
 have hpos:0<(jC m s k).rf.length:=by rw[hlen];split<;>omega
 have hfm:=hrf _ (mem_fst hpos)
 have hfs:=(hM.refs _ hfm).2
 refine⟨sn_ok_of ha ?_ h2 ?_ fun r hr=>⟨(hM.refs r (hrf r hr)).1,z8 (hM.refs r (hrf r hr)).2 (zQ hfs)⟩,hfs,?_⟩
 · unfold rngP at h1 ⊢
   rw[hlen]
   have hsr:(jC m s k).ser=if m=3 then(if 0<s.ser-k then s.ser-k else 0) else s.ser:=rfl
   have hfl:(jC m s k).full=if s.ser≤k then 0 else s.full:=rfl
   have hrr:(jC m s k).refr=if s.ser≤k then 0 else s.refr:=rfl
   have hsi:(jC m s k).sin=s.sin:=rfl
   have hlo:(jC m s k).lng=s.lng:=rfl
   rw[hsr,hfl,hrr,hsi,hlo]
   obtain⟨g1,g2,g3,g4,g5,g6,g7,g8⟩:=h1
   refine⟨?_,?_,⟨?_,?_⟩,⟨?_,?_⟩,⟨?_,?_⟩,?_,g7,g8⟩
   all_goals(repeat' split)<;>omega
 · show(jC m s k).fst.k=2∨s.dy=Dy.z
   have:=hM.dz
   rw[(qV.1 hfs).1];exact this
 · unfold Sn.lst
   rw[hlen]
   unfold jC
   dsimp only
   split
   · rw[List.getD_eq_getElem?_getD,List.getElem?_drop,List.getD_eq_getElem?_getD]
     congr 2;omega
   · rfl
theorem set_ok{s':Sn}(hs:s.ok m w=true)(ha:s.act=true)(hw:1≤w)(h1:s'.act=s.act)(h2:s'.rf=s.rf)(h3:s'.dy=s.dy)(h4:s'.ser=s.rf.length)(h5:s'.sin=s.sin)(h6:s'.lng=s.lng)(h7:0≤s'.full∧s'.full≤w)(h8:0≤s'.refr∧s'.refr≤w)(h9:¬(0<s'.full∧0<s'.refr)) :
   s'.ok m w=true∧qy s'.fst s.fst=true∧s'.lst=s.lst:=by
 have hM:=wZ hs ha (xj s.fst)
 obtain⟨g1,g2,g3,g4⟩:=(Sn.ok_e ha).1 hs
 have hfst:s'.fst=s.fst:=by unfold Sn.fst;rw[h2]
 have hlst:s'.lst=s.lst:=by unfold Sn.lst;rw[h2]
 refine⟨sn_ok_of (h1.trans ha) ?_ (h3▸g2) (by rw[hfst,h3];exact hM.dz) (fun r hr=>by rw[h2] at hr;rw[hfst];exact hM.refs r hr),by rw[hfst];exact xj _,hlst⟩
 unfold rngP at g1 ⊢
 rw[h2,h4,h5,h6]
 obtain⟨k1,k2,k3,k4,k5,k6,k7,k8⟩:=g1
 exact⟨k1,k2,⟨by omega,by omega⟩,h7,h8,h9,k7,k8⟩
theorem appS_ok(f:Fb)(hs:s.ok m w=true)(ha:s.act=true)(hw:1≤w):(appS m w f s).ok m w=true∧(appS m w f s).act=true∧(appS m w f s).dy=s.dy∧qy (appS m w f s).fst s.fst=true∧(appS m w f s).lst=s.lst:=by
 have hM:=wZ hs ha (xj s.fst)
 have hf:=hM.full
 have hr:=hM.refr
 have hb:=hM.both
 unfold appS
 split
 · unfold wK
   split
   · exact⟨hs,ha,rfl,xj _,rfl⟩
   · have h1:=lastK_le s.rf f.n s.rf.length
     have h2:=ackK_ok (k:=xa s.rf f.n s.rf.length-1) hs ha (by omega)
     exact⟨h2.1,ha,rfl,h2.2.1,h2.2.2⟩
 · split
   · have h2:=set_ok (s':=stcS w s) hs ha hw rfl rfl rfl rfl rfl rfl ⟨by show 0≤w;omega,Int.le_refl _⟩ ⟨Int.le_refl _,by show 0≤w;omega⟩ (by show ¬(0<w∧(0:Int)<0);omega)
     exact⟨h2.1,ha,rfl,h2.2.1,h2.2.2⟩
   · unfold nakS
     split
     · have h2:=set_ok (s':={ s with full:=w,ser:=s.rf.length }) hs ha hw rfl rfl rfl rfl rfl rfl ⟨by show 0≤w;omega,Int.le_refl _⟩ hr (by show ¬(0<w∧0<s.refr);omega)
       exact⟨h2.1,ha,rfl,h2.2.1,h2.2.2⟩
     · have h2:=set_ok (s':={ s with refr:=w,ser:=s.rf.length }) hs ha hw rfl rfl rfl rfl rfl rfl hf ⟨by show 0≤w;omega,Int.le_refl _⟩ (by show ¬(0<s.full∧0<w);omega)
       exact⟨h2.1,ha,rfl,h2.2.1,h2.2.2⟩
end
theorem fbOk_e{f:Fb}:yF f=true↔(0≤f.c∧f.c<16)∧(0≤f.k∧f.k≤2)∧0≤f.n∧f.n≤65535:=by unfold yF;rw[decide_eq_true_iff]
theorem app_ok{c:Co}{f:Fb}(hc:c.ok=true)(h0:(yL c f).2=0):(yL c f).1.ok=true∧(yL c f).1.m=c.m∧(yL c f).1.w=c.w:=by
 unfold yL at h0 ⊢
 split at h0
 case isFalse=>exact absurd h0 (by decide)
 rename_i hk
 rw[if_pos hk]
 split at h0
 · exact absurd h0 (by decide)
 rename_i hm
 rw[if_neg hm]
 split at h0
 case isFalse=>exact absurd h0 (by decide)
 rename_i ha
 rw[if_pos ha]
 have hf:=fbOk_e.1 hk.2
 have hi:f.c.toNat<16:=by omega
 obtain⟨g1,g2,g3,g4⟩:=ya.1 hc
 have hs:=g3 _ hi
 have hA:=appS_ok f hs ha g1.2.2.1
 refine⟨co_set (h:=(c.at f.c.toNat).fst) hc hi hA.1 (fun _=>hA.2.2.2.1) fun k hk2 hne hka=>?_,rfl,rfl⟩
 cases hq:qy (c.at k).fst (c.at f.c.toNat).fst with
 | false=>rfl
 | true =>
   rcases Nat.lt_or_gt_of_ne hne with hlt|hgt
   · have:=g4 _ k hlt hi
     rw[yO.2 ⟨ha,hka,zQ hq⟩] at this;cases this
   · have:=g4 k _ hgt hk2
     rw[yO.2 ⟨hka,ha,hq⟩] at this;cases this
open Go.RowKit
def Fb.z:Fb:=⟨0,0,0⟩
def xF(f:Fb):List UInt8:=(if 0<f.c then[b8 (qk .or .i64 224 f.c)] else[])++[b8 (qk .or .i64 240 f.k),b8 (f.n.fdiv (2^min (Int.toNat 8) IntKind.i64.bits)),b8 f.n]
def jz(f:Fb):List UInt8×Int:=if yF f=true then(xF f++[b8 (jp 8 (xF f))],0) else([],1)
theorem encF_len(f:Fb):(jz f).1.length≤100:=by
 unfold jz xF
 (repeat' split)<;>simp
def zO(b:List UInt8):Nat:=if qk .and .u8 (b.getD 0 0).toNat 240=224 then 1 else 0
def yE(b:List UInt8):Fb :=
 ⟨if zO b=1 then qk .andNot .u8 (b.getD 0 0).toNat 240 else 0,((b.getD (zO b) 0).toNat:Int)-240,((b.getD (zO b+1) 0).toNat:Int)*256+(b.getD (zO b+2) 0).toNat⟩
def decF(b:List UInt8):Fb×Int :=
 if b=[] then(Fb.z,5) else if b.length<4+zO b then(Fb.z,5)
 else if 4+zO b<b.length∨yF (yE b)=false∨(zO b=1∧(yE b).c=0) then(Fb.z,4)
 else if jp 8 (b.take (b.length-1))=((b.getD (zO b+3) 0).toNat:Int) then(yE b,0) else(Fb.z,6)
structure Dv where
 i:Nat
 p:List UInt8
 e:Int
@[reducible] def Dv.cs(x:Dv):List AV:=[.int .i64 x.i,bv x.p,iAV x.e]
@[reducible] def msC(x:Nat×List UInt8):List AV:=[.int .i64 x.1,bv x.2]
structure Hk where
 c:Co
 d:De
 nx:Nat
 way:List (Nat×List UInt8)
 back:List (List UInt8)
 out:List Dv
def dcR(d:De)(b:List UInt8):Dr:=if hb:b.length≤140737488355328 then qq d b hb else⟨d,[],[],1⟩
def zU(ps:List (List UInt8))(x:Hk):Hk :=
 if x.nx=ps.length then x else if(qw x.c (ps.getD x.nx [])).2=0 then { x with c:=(qw x.c (ps.getD x.nx [])).1.1,way:=x.way++[(x.nx,(qw x.c (ps.getD x.nx [])).1.2)],nx:=x.nx+1 } else { x with nx:=x.nx+1 }
def xV(x:Hk):Hk :=
 match x.way with
 | []=>x
 | m::w=>{ x with d:=(dcR x.d m.2).d,out:=x.out++[⟨m.1,(dcR x.d m.2).p,(dcR x.d m.2).e⟩],back:=x.back++(dcR x.d m.2).b.map (fun f=>(jz f).1),way:=w }
def wJ(n a:Int):Int:=(q7 .add .i64 (a.tmod n) n).tmod n
def flpB(b:List UInt8)(a:Int):List UInt8 :=
 b.set ((wJ (8*b.length) a).tdiv 8).toNat (b8 (qk .xor .u8 (b.getD ((wJ (8*b.length) a).tdiv 8).toNat 0).toNat (IntKind.u8.wrap (1*2^(min (q7 .sub .i64 7 ((wJ (8*b.length) a).tmod 8)).toNat 8)))))
def flpR(a:Int)(x:Hk):Hk :=
 match x.way with
 | []=>x
 | m::w=>{ x with way:=(m.1,flpB m.2 a)::w }
def bakC(c:Co)(b:List UInt8):Co:=if(decF b).2=0∧(yL c (decF b).1).2=0 then(yL c (decF b).1).1 else c
def yJ(x:Hk):Hk :=
 match x.back with
 | []=>x
 | b::r=>{ x with c:=bakC x.c b,back:=r }
def vg(x:Hk):Hk:={ x with way:=x.way.drop 1 }
def lbkR(x:Hk):Hk:={ x with back:=x.back.drop 1 }
def kC(ps:List (List UInt8))(x:Hk)(k a:Int):Hk :=
 if k=1 then zU ps x else if k=3 then xV x else if k=4 then vg x else if k=6 then flpR a x else if k=8 then yJ x else if k=9 then lbkR x else x
def xR(ps:List (List UInt8)):List (Int×Int)→Hk→Hk
 | [],x=>x
 | s::l,x=>xR ps l (kC ps x s.1 s.2)
theorem runS_app(ps:List (List UInt8)):∀(l m:List (Int×Int)) (x:Hk),xR ps (l++m) x=xR ps m (xR ps l x)
 | [],_,_=>rfl
 | _::l,m,x=>runS_app ps l m _
theorem hcompr_len{c:Co}{b:List UInt8}(hc:c.ok=true)(h0:b≠[])(h1:b.length≤1500):1≤(qw c b).1.2.length∧(qw c b).1.2.length≤3000:=by
 have raw:1≤(zo (jx b)).1.length∧(zo (jx b)).1.length≤3000:=by
   rw[raw_enc h1];simp;omega
 unfold qw
 rw[if_pos hc,if_neg (by rintro(k|k);exact h0 k;omega)]
 split
 · rename_i hp
   have hp2:qu b=(((qu b).1.1,(qu b).1.2),0):=by rw[←hp]
   split
   · rename_i i hf
     split
     · exact raw
     · obtain⟨ho,-,-,-,hpl⟩:=xt hp2
       obtain⟨hi,hs,hh,-⟩:=xu hc hf
       have hm:=ks (yI hc).2.2.1 hs hh
       have hPok:=kP (c:=(i:Int)) (pl:=(qu b).1.2) ho hm.1.dok hm.1.dz ⟨by omega,by omega⟩ hm.2.1 hpl
       have h9:=hd_len _ hPok
       have h8:=(Sm.of _ hPok).1
       show 1≤(zo (qf _ _ _ _ _)).1.length∧(zo (qf _ _ _ _ _)).1.length≤3000
       rw[y7 hPok]
       dsimp only
       rw[List.length_append]
       omega
   · exact raw
 · exact raw
structure SynH(ps:List (List UInt8))(i:Nat)(x:Hk):Prop where
 inv:Inv x.c x.d
 nx:x.nx=i
 way:x.way=[]
 out:x.out=(List.range i).map fun j=>⟨j,ps.getD j [],0⟩
theorem two_syn{ps:List (List UInt8)}{i:Nat}{x:Hk}(h:SynH ps i x)(hi:i<ps.length)(hs:∀b∈ps,qY b):SynH ps (i+1) (xV (zU ps x)):=by
 obtain⟨h1,h2,h3,h4⟩:=h
 have hm:ps.getD i []∈ps:=by rw[List.getD_eq_getElem?_getD,List.getElem?_eq_getElem hi];exact List.getElem_mem hi
 obtain⟨g1,g2⟩:=hs _ hm
 obtain⟨c',y,e1,e2,e3⟩:=inv_step h1 g1 g2
 have hb:y.length≤140737488355328:=by omega
 obtain⟨d',fb,e4,e5⟩:=e3 hb
 have hsend:zU ps x={ x with c:=c',way:=[(i,y)],nx:=i+1 }:=by
   unfold zU
   rw[h2,if_neg (by omega),e1,if_pos rfl,h3]
   rfl
 rw[hsend]
 have hd:dcR x.d y=⟨d',ps.getD i [],fb,0⟩:=by unfold dcR;rw[dif_pos hb,e4]
 unfold xV
 dsimp only
 rw[hd]
 refine⟨e5,rfl,rfl,?_⟩
 show x.out++[_]=_
 rw[h4,List.range_succ,List.map_append]
 rfl
theorem syn_new{ps:List (List UInt8)}{m w:Int}(hm:1≤m∧m≤3)(hw:1≤w∧w≤8)(hI:Inv ⟨m,w,List.replicate 16 Sn.z⟩ ⟨m,List.replicate 16 Rc.z⟩):SynH ps 0 ⟨⟨m,w,List.replicate 16 Sn.z⟩,⟨m,List.replicate 16 Rc.z⟩,0,[],[],[]⟩:=⟨hI,rfl,rfl,rfl⟩
structure wL(ps:List (List UInt8))(n:Nat)(x:Hk):Prop where
 c:x.c.ok=true
 d:x.d.ok=true
 nx:x.nx≤ps.length
 way:∀m∈x.way,1≤m.2.length∧m.2.length≤3000
 bk:∀b∈x.back,b.length≤100
 wl:x.way.length≤n
 bl:x.back.length≤n
 ol:x.out.length≤n
open Go.RowKit
variable {G:Nat→AV}
@[reducible] def Fb.av(x:Fb):AV:=.agg x.cs
theorem vn(f:Fb):LP Tryz.prog G 133 [f.av] [] (fun _=>(.bool (yF f),[])):=by
 refine goW [] Tryz.func133 rfl ?_
 conv=>whnf
 repeat'((first|refine T.s ?_|((first|apply goB|apply AB.dec|apply AB.gen)<;>intro h<;>try(exfalso;omega))|refine LQ.mk fun r=>?_|exact T.z|fail)<;>conv=>whnf)
 all_goals(try dsimp only)
 all_goals
   (show RL _ _ _;refine goR ?_)
   refine congrArg AV.bool ?_
   unfold yF
   first|(show decide (_≤_)=decide _;exact decide_eq_decide.2 (by omega))|exact(decide_eq_true (by omega)).symm|exact(decide_eq_false (by omega)).symm|trace_state
theorem flat_ii(n m:Int):Flat (.tup [iAV n,iAV m]):=Flat.tup fun x hx=>by
 simp only[List.mem_cons,List.not_mem_nil,or_false] at hx
 rcases hx with rfl|rfl<;>exact Flat.int _ _
theorem fbenc_c(f:Fb):LP Tryz.prog gm 85 [f.av] [] (fun _=>(.tup [bv (jz f).1,iAV (jz f).2],[])):=by
 have hv:=vn (G:=gm) f
 unfold jz
 cases hk:yF f with
 | false =>
   rw[hk] at hv
   rw[if_neg (by decide)]
   refine goW [] Tryz.func85 rfl ?_
   conv=>whnf
   repeat'((first|(show LC _ _ _ _ _ _;first|refine LC.pure (hv) ?_|refine goE ?_)|refine T.s ?_|((first|apply goB|apply AB.dec|apply AB.gen)<;>intro h<;>try(exfalso;omega))|refine LQ.mk fun r=>?_|exact T.z|refine⟨_,rfl,rfl,?_⟩|fail)<;>conv=>whnf)
   all_goals(try dsimp only)
   all_goals first|exact RL.frz [] (LF.tup ⟨LF.nils rfl rfl,LF.eq rfl,trivial⟩) LB.nil|trace_state
 | true =>
   rw[hk] at hv
   rw[if_pos rfl]
   by_cases hc:0<f.c
   · have hp:xF f=[b8 (qk .or .i64 224 f.c),b8 (qk .or .i64 240 f.k),b8 (f.n.fdiv (2^min (Int.toNat 8) IntKind.i64.bits)),b8 f.n]:=by unfold xF;rw[if_pos hc];rfl
     have hsum:=vr 8 (xF f) (by rw[hp];simp)
     rw[crcO_y (by decide +kernel)] at hsum
     generalize jp 8 (xF f)=C at *
     rw[hp] at hsum ⊢
     dsimp only at hsum
     refine goW [] Tryz.func85 rfl ?_
     conv=>whnf
     repeat'((first|(show LC _ _ 134 _ _ _;refine LC.lend hsum [_] ⟨LF.eq rfl,LF.row InL.here (LH.here ⟨by decide,rfl,rfl,by simp[qS]⟩),trivial⟩ (flat_ii _ _) ?_)|(show LC _ _ _ _ _ _;first|refine LC.pure (hv) ?_|refine goE ?_)|refine T.s ?_|((first|apply goB|apply AB.dec|apply AB.gen)<;>intro h<;>try(exfalso;omega))|refine LQ.mk fun r=>?_|exact T.z|refine⟨_,rfl,rfl,?_⟩|fail)<;>conv=>whnf)
     all_goals(try dsimp only)
     all_goals first
       | contradiction
       | exact RL.frz [r] (LF.tup ⟨LF.row InL.here (LH.here ⟨by decide,rfl,rfl,by simp[qS]⟩),LF.eq rfl,trivial⟩) (LH.here LB.nil)
       | trace_state
   · have hp:xF f=[b8 (qk .or .i64 240 f.k),b8 (f.n.fdiv (2^min (Int.toNat 8) IntKind.i64.bits)),b8 f.n]:=by unfold xF;rw[if_neg hc];rfl
     have hsum:=vr 8 (xF f) (by rw[hp];simp)
     rw[crcO_y (by decide +kernel)] at hsum
     generalize jp 8 (xF f)=C at *
     rw[hp] at hsum ⊢
     dsimp only at hsum
     refine goW [] Tryz.func85 rfl ?_
     conv=>whnf
     repeat'((first|(show LC _ _ 134 _ _ _;refine LC.lend hsum [_] ⟨LF.eq rfl,LF.row InL.here (LH.here ⟨by decide,rfl,rfl,by simp[qS]⟩),trivial⟩ (flat_ii _ _) ?_)|(show LC _ _ _ _ _ _;first|refine LC.pure (hv) ?_|refine goE ?_)|refine T.s ?_|((first|apply goB|apply AB.dec|apply AB.gen)<;>intro h<;>try(exfalso;omega))|refine LQ.mk fun r=>?_|exact T.z|refine⟨_,rfl,rfl,?_⟩|fail)<;>conv=>whnf)
     all_goals(try dsimp only)
     all_goals first
       | contradiction
       | exact RL.frz [r] (LF.tup ⟨LF.row InL.here (LH.here ⟨by decide,rfl,rfl,by simp[qS]⟩),LF.eq rfl,trivial⟩) (LH.here LB.nil)
       | trace_state
end Go.Proofs.YtndpmpnmkpaklaaGreatDoor
