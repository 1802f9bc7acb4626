/-
  Contracts of the functions that the laws reach.
-/
import Derived.Test.YtndpmpnmkpaklaaGreatDoorHr14
set_option linter.all false
namespace Go.Proofs.YtndpmpnmkpaklaaGreatDoor
open Go.RowKit
variable {G:Nat→AV}
def gB(b:List UInt8)(a n:Nat):Int:=beN ((b.drop a).take n)
def isRtp(b:List UInt8):Bool:=decide (40≤b.length)&&decide (b.getD 28 0=128)
def kd(b:List UInt8):Hd :=
 if isRtp b=true then⟨2,((b.getD 1 0).toNat:Nat),gB b 4 2,((b.getD 6 0).toNat / 64%2:Nat),((b.getD 8 0).toNat:Nat),gB b 12 4,gB b 16 4,gB b 20 2,gB b 22 2,gB b 26 2,((b.getD 29 0).toNat / 128:Nat),((b.getD 29 0).toNat%128:Nat),gB b 30 2,gB b 32 4,gB b 36 4⟩
 else⟨1,((b.getD 1 0).toNat:Nat),gB b 4 2,((b.getD 6 0).toNat / 64%2:Nat),((b.getD 8 0).toNat:Nat),gB b 12 4,gB b 16 4,gB b 20 2,gB b 22 2,gB b 26 2,0,0,0,0,0⟩
def prsN(b:List UInt8):Nat:=if isRtp b=true then 40 else 28
def qu(b:List UInt8):(Hd×List UInt8)×Int :=
 if b.length<28∨1500<b.length then((Hd.z,[]),2)
 else if zh (kd b) (b.drop (prsN b))=(b,0) then((kd b,b.drop (prsN b)),0) else((Hd.z,[]),4)
theorem wr8:∀x:Nat,x<256→IntKind.i64.wrap (x:Int)=(x:Int):=by decide +kernel
theorem parsR_u(b:List UInt8)(h1:28≤b.length)(h2:b.length≤1500):qu b=if zh (kd b) (b.drop (prsN b))=(b,0) then((kd b,b.drop (prsN b)),0) else((Hd.z,[]),4):=by unfold qu;rw[if_neg (by omega)]
theorem RL.hdn{v:AV}{e:Int}{l:LS}:RL (fun _=>(.tup [v,bv [],iAV e],[])) (.tup [v,.nils,.int .i64 e]) l :=
 RL.frz [] (LF.tup (xs:=[v,.nils,.int .i64 e]) (ys:=[v,bv [],iAV e]) ⟨LF.eq rfl,LF.nils rfl rfl,LF.eq rfl,trivial⟩) LB.nil
theorem n128(x:UInt8):(x=128)=(x.toNat=128):=propext ⟨fun h=>by rw[h];rfl,fun h=>UInt8.toNat_inj.1 h⟩
open Go.RowKit
structure Sn where
 act:Bool
 full:Int
 refr:Int
 ser:Int
 sin:Int
 lng:Int
 dy:Dy
 rf:List Hd
def hdv(l:List Hd):AV:=.sl l.length (l.flatMap Hd.cs)
@[reducible] def Sn.cs(s:Sn):List AV:=[.bool s.act,iAV s.full,iAV s.refr,iAV s.ser,iAV s.sin,iAV s.lng,iAV s.dy.st,iAV s.dy.fo,hdv s.rf]
@[reducible] def Sn.av(s:Sn):AV:=.agg s.cs
theorem Sn.cs_len(s:Sn):s.cs.length=9:=rfl
theorem Hd.cs_len(h:Hd):h.cs.length=15:=rfl
def snv(l:List Sn):AV:=.sl l.length (l.flatMap Sn.cs)
def Sn.z:Sn:=⟨false,0,0,0,0,0,Dy.z,[]⟩
structure Co where
 m:Int
 w:Int
 cx:List Sn
@[reducible] def Co.av(c:Co):AV:=.agg [iAV c.m,iAV c.w,snv c.cx]
def Co.z:Co:=⟨0,0,[]⟩
def Sn.fst(s:Sn):Hd:=s.rf.getD 0 Hd.z
def Sn.lst(s:Sn):Hd:=s.rf.getD (s.rf.length-1) Hd.z
def y9(s:Sn):Bool:=decide (s.full=0∧s.refr=0∧s.ser=0∧s.sin=0∧s.lng=0∧s.dy=Dy.z∧s.rf=[])
def kU(m w:Int):Int:=if m=3 then 32 else w
def Sn.ok(m w:Int)(s:Sn):Bool :=
 if s.act=true then
   decide (1≤s.rf.length∧(s.rf.length:Int)≤kU m w)&&(inR s.ser s.rf.length&&(inR s.full w&&(inR s.refr w&&(decide (¬(0<s.full∧0<s.refr)) &&
     (inR s.sin 32&&(inR s.lng 3&&(s.dy.ok&&(decide (s.fst.k=2∨s.dy=Dy.z)&&s.rf.all fun r=>r.ok&&qy r s.fst))))))))
 else y9 s
def xA(s t:Sn):Bool:=s.act&&(t.act&&qy s.fst t.fst)
def xY(m w:Int):Bool:=decide (1≤m∧m≤3∧1≤w∧w≤8)
def Co.at(c:Co)(i:Nat):Sn:=c.cx.getD i Sn.z
def Co.oks(c:Co)(n:Nat):Bool:=(List.range n).all fun i=>(c.at i).ok c.m c.w&&(List.range i).all fun k => !xA (c.at i) (c.at k)
def Co.ok(c:Co):Bool:=xY c.m c.w&&(decide (c.cx.length=16)&&c.oks 16)
def cnewR(m w:Int):Co×Int:=if xY m w=true then(⟨m,w,List.replicate 16 Sn.z⟩,0) else(Co.z,3)
def jq(a b:Hd):Int:=(if a.tos=b.tos then 0 else 1)+(if a.ttl=b.ttl then 0 else 2)+(if a.fx=b.fx then 0 else 4)+(if a.ty=b.ty then 0 else 8)+(if decide (a.ck=0)=decide (b.ck=0) then 0 else 16)
def zC(a b:Hd):Dy :=
 if a.ok=true∧b.ok=true∧a.k=2∧qy a b=true then
   ⟨if sg 16 a.num b.num≠0∧(sg 32 a.tm b.tm).tmod (sg 16 a.num b.num)=0∧0≤(sg 32 a.tm b.tm).tdiv (sg 16 a.num b.num)∧(sg 32 a.tm b.tm).tdiv (sg 16 a.num b.num)≤65535 then(sg 32 a.tm b.tm).tdiv (sg 16 a.num b.num) else 0,
     if b.id=lw 16 (a.id+sg 16 a.num b.num) then 1 else 0⟩
 else Dy.z
def jH(width:Int)(l:List Int)(k v:Int):Bool:=jD width&&(decide (3≤k∧k≤width)&&(xD width v&&l.all fun r=>xD width r&&decide (lsbV width r k (lw k v)=v)))
def zq(s:Sn)(h r:Hd):Hd:={ xk s.dy r h.num with ck:=h.ck }
def jf(s:Sn)(h:Hd)(f:Int)(r:Hd):Bool:=decide (jq r h=0)&&(decide (f=1→zq s h r=h)&&decide (f=2∧h.k=2→(zq s h r).id=h.id))
def z9(s:Sn)(h:Hd)(f:Int):Bool :=
 s.rf.all (jf s h f)&&(decide (f=3∧h.k≠2) || (jH 16 (s.rf.map Hd.num) (wid f h.k 0) h.num&&(decide (¬(f=2∧h.k=2)) || jH 32 (s.rf.map (·.tm)) 16 h.tm)))
def yb(s:Sn)(last:Hd)(had:Bool)(h:Hd):Sn:={ s with ser:=s.rf.length,dy:=if had=true then zC last h else Dy.z }
def csA(w:Int)(s:Sn)(h:Hd):Sn×Bool :=
 if s.act=false then({ s with act:=true,full:=w },true)
 else if jq s.lst h≠0∨s.lng=3∧zC s.lst h≠s.dy then(if 0<s.full then { s with lng:=0,full:=w } else { s with lng:=0,refr:=w },true)
 else(s,false)
def csB(m w:Int)(x:Sn×Bool):Sn×Bool:=if m=1∧x.1.sin=32∧x.1.full=0 then({ x.1 with full:=w,refr:=0 },true) else x
def csC(m w:Int)(n:Nat)(x:Sn×Bool):Sn×Bool:=if m=3∧n=32 then({ x.1 with full:=w,refr:=0,rf:=[] },true) else x
def csD(last:Hd)(had:Bool)(h:Hd)(x:Sn×Bool):Sn:=if x.2=true∨x.1.ser=(x.1.rf.length:Int)∧(0<x.1.full∨0<x.1.refr) then yb x.1 last had h else x.1
def csE(w:Int)(last:Hd)(had:Bool)(h:Hd)(s:Sn):Sn×Int :=
 if 0<s.full then(s,5) else if 0<s.refr then(s,4) else if z9 s h 1=true then(s,1) else if z9 s h 2=true then(s,2) else if z9 s h 3=true then(s,3)
 else(yb { s with refr:=w,lng:=0 } last had h,4)
def csF(m w:Int)(h:Hd)(s:Sn)(f:Int):Sn :=
 { act:=s.act
   full:=if m≠3∧f=5 then s.full-1 else s.full
   refr:=if m≠3∧f=4 then s.refr-1 else s.refr
   ser:=if m≠3∧w<(s.rf.length:Int)+1 then max 0 (s.ser-((s.rf.length:Int)+1-w)) else s.ser
   sin:=if f=5 then 0 else min (s.sin+1) 32
   lng:=if(f=2∨f=3)∧h.k=2 then min (s.lng+1) 3 else 0
   dy:=s.dy
   rf:=if m≠3∧w<(s.rf.length:Int)+1 then(s.rf++[h]).drop ((s.rf.length:Int)+1-w).toNat else s.rf++[h] }
def zf(m w:Int)(s:Sn)(h:Hd):Sn×Int:=csE w s.lst s.act h (csD s.lst s.act h (csC m w s.rf.length (csB m w (csA w s h))))
def qf(dy:Dy)(c f:Int)(h:Hd)(pl:List UInt8):Sm :=
 if f=5 then⟨c,5,0,0,0,0,0,h,dy,j6 5 h,pl⟩
 else if f=4 then⟨c,4,0,0,0,0,0,{ h with fr:=0,to:=0,fp:=0,tp:=0,sr:=0 },dy,j6 4 h,pl⟩
 else if f=1 then⟨c,1,lw 4 h.num,0,0,0,h.ck,{ Hd.z with k:=h.k },Dy.z,j6 1 h,pl⟩
 else if f=2 then(if h.k=2 then⟨c,2,lw 5 h.num,lw 16 h.tm,h.mr,0,h.ck,{ Hd.z with k:=h.k },Dy.z,j6 2 h,pl⟩ else⟨c,2,lw 5 h.num,0,0,0,h.ck,{ Hd.z with k:=h.k },Dy.z,j6 2 h,pl⟩)
 else(if h.k=2 then⟨c,3,lw 8 h.num,h.tm,h.mr,h.id,h.ck,{ Hd.z with k:=h.k },Dy.z,j6 3 h,pl⟩ else⟨c,3,h.num,0,0,0,h.ck,{ Hd.z with k:=h.k },Dy.z,j6 3 h,pl⟩)
def ownI(l:List Sn)(h:Hd):Option Nat:=l.findIdx? fun s=>s.act&&qy s.fst h
def freeI(l:List Sn):Option Nat:=l.findIdx? fun s => !s.act
def x9(l:List Sn)(h:Hd):Option Nat:=match ownI l h with|some i=>some i|none=>freeI l
def jx(b:List UInt8):Sm:=⟨0,6,0,0,0,0,0,Hd.z,Dy.z,0,b⟩
def Co.set(c:Co)(i:Nat)(s:Sn):Co:=⟨c.m,c.w,c.cx.set i s⟩
def zF(c:Co)(i:Nat)(h:Hd)(pl:List UInt8):Co×List UInt8 :=
 (c.set i (csF c.m c.w h (zf c.m c.w (c.at i) h).1 (zf c.m c.w (c.at i) h).2),(zo (qf (zf c.m c.w (c.at i) h).1.dy i (zf c.m c.w (c.at i) h).2 h pl)).1)
def qw(c:Co)(b:List UInt8):(Co×List UInt8)×Int :=
 if c.ok=true then
   (if b=[]∨1500<b.length then((Co.z,[]),2)
    else if(qu b).2=0 then
     (match x9 c.cx (qu b).1.1 with
      | some i=>if(c.at i).act=true∧c.m=3∧(sg 16 (c.at i).lst.num (qu b).1.1.num<1∨255<sg 16 (c.at i).lst.num (qu b).1.1.num) then((c,(zo (jx b)).1),0) else(zF c i (qu b).1.1 (qu b).1.2,0)
      | none=>((c,(zo (jx b)).1),0))
    else((c,(zo (jx b)).1),0))
 else((Co.z,[]),1)
end Go.Proofs.YtndpmpnmkpaklaaGreatDoor
