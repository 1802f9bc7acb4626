/-
  Contracts of the functions that the laws reach.
-/
import Derived.Test.YtndpmpnmkpaklaaGreatDoorHr07
set_option maxHeartbeats 2000000
set_option linter.all false
namespace Go.Proofs.YtndpmpnmkpaklaaGreatDoor
open Go.RowKit
variable {G:Nat→AV}
theorem fit_in(n:Nat)(v:Int):qW (n:Int) v=inR v (2^n-1):=by
 unfold qW inR
 rw[Int.toNat_natCast]
 have:(v<2^n)↔(v≤2^n-1):=by omega
 rw[decide_eq_decide]
 simp only[this]
open Go.RowKit
variable {G:Nat→AV}
@[reducible] def q0(q:List Nm):Nm:=q.getD 0 (.b 0)
@[reducible] def q1(q:List Nm):Nm:=q.getD 1 (.b 0)
@[reducible] def yf(w p1 p2:Nm)(ws vs:List Int):LS:=[(w,⟨198,[.vw p1 0 ws.length 1,.vw p2 0 vs.length 1]⟩),(p1,⟨3,ws.map iAV⟩),(p2,⟨3,vs.map iAV⟩)]
theorem LNames.drop{l:LS}{o:Nm}{qs:List Nm}(h:LNames l (o::qs)){φ:q8}(hs:Sep φ l):qs.Nodup∧∀q∈qs,φ q=none∧q∈l.map (·.1):=by
 obtain⟨h1,h2⟩:=h.sound hs
 exact⟨(List.nodup_cons.1 h1).2,fun q hq=>h2 q (by simp[hq])⟩
theorem RetLN.wr{w:Nm}{ws vs:List Int}{l:LS}(h:LH l w fun c _ r=>∃(p1 p2:Nm) (n m:Nat),c=⟨198,[.vw p1 0 n 1,.vw p2 0 m 1]⟩∧n=ws.length∧m=vs.length∧LH r p1 fun c1 _ r1=>c1=⟨3,ws.map iAV⟩∧LH r1 p2 fun c2 _ _=>c2=⟨3,vs.map iAV⟩) :
   RetLN 2 (fun q=>(.tup [],yf w (q0 q) (q1 q) ws vs)) (.tup []) l:=by
 obtain⟨l1,c,l2,rfl,p1,p2,n,m,rfl,rfl,rfl,h'⟩:=h.ex
 have hsub:LB (yf w p1 p2 ws vs) (l1++(w,⟨198,[.vw p1 0 ws.length 1,.vw p2 0 vs.length 1]⟩)::l2) :=
   LB.cons ⟨l1,_,l2,rfl,rfl,LB.cons (LH.mono h' fun c _ r k=>⟨k.1,LB.cons (LH.mono k.2 fun c _ r k=>⟨k,LB.nil⟩)⟩)⟩
 have hn:LNames (l1++(w,⟨198,[.vw p1 0 ws.length 1,.vw p2 0 vs.length 1]⟩)::l2) [w,p1,p2]:=⟨l1,_,l2,rfl,LH.mono h' fun c _ r k=>LH.mono k.2 fun _ _ _ _=>trivial⟩
 refine⟨fun φ hsp=>?_⟩
 obtain⟨k1,k2⟩:=LNames.drop hn hsp
 obtain⟨h2,h3⟩:=hsub.go φ hsp
 exact⟨[],[p1,p2],rfl,k1,fun q hq=>(k2 q hq).1,h2.nd,.refl _,h3⟩
theorem put0_c(w:Nm)(a b:Int):LSpecN Tryz.prog G 150 [.ptr w 0,iAV a,iAV b] [(w,⟨198,[.nils,.nils]⟩)] 2 (fun q=>(.tup [],yf w (q0 q) (q1 q) [a] [b])):=by
 refine LSpecN.introL tQ Tryz.func150 rfl (by kernel_rfl) (by simp) (fun qs hq=>by obtain⟨x,y,rfl⟩:∃x y,qs=[x,y]:=(match qs,hq with|[x,y],_=>⟨x,y,rfl⟩);exact⟨by simp,by intro h1 h2;simp at h1 h2 ⊢;simp_all [eq_comm]⟩) ?_
 refine AWpL.sound tQ [] _ _ _ _ ?_
 conv=>whnf
 repeat'((first|exact Nm.b 0|refine T.s ?_|((first|apply goB|apply AB.dec|apply AB.gen)<;>intro h<;>try(exfalso;omega))|refine LQ.mk fun r=>?_|(show SWpL _ _ _ _ _ _ _;first|(apply goD tQ qc 0 [12,8] [0,1,2,3,4,5,6,9,10,11,12,13,7,8,14,15,16,17,18,19,20,21] [_] (by kernel_rfl))|(refine goD tQ qc 0 [12,8] [0,1,2,3,4,5,6,9,10,11,12,13,7,8,14,15,16,17,18,19,20,21] [] (by kernel_rfl) ?_))|exact T.z|fail)<;>try(show(_:Prop);conv=>whnf))
 all_goals(try dsimp only)
 all_goals(refine RetLN.wr ?_;(repeat first|refine goH ?_|apply LH.here|apply LH.next);refine⟨_,_,_,_,rfl,(by simp),(by simp),?_⟩;(repeat first|refine goH ?_|apply LH.here|apply LH.next);refine And.intro ?_ ?_;(focus(first|exact rfl|(simp[iAV];done)));(repeat first|refine goH ?_|apply LH.here|apply LH.next);(first|exact rfl|(simp[iAV];done)))
theorem put1_c(w p1 p2:Nm)(ws vs:List Int)(a b:Int)(h1:0<ws.length)(h2:ws.length≤200)(h3:0<vs.length)(h4:vs.length≤200):LSpecN Tryz.prog G 150 [.ptr w 0,iAV a,iAV b] (yf w p1 p2 ws vs) 2 (fun q=>(.tup [],yf w (q0 q) (q1 q) (ws++[a]) (vs++[b]))):=by
 refine LSpecN.introL tQ Tryz.func150 rfl (by kernel_rfl) (by simp) (fun qs hq=>by obtain⟨x,y,rfl⟩:∃x y,qs=[x,y]:=(match qs,hq with|[x,y],_=>⟨x,y,rfl⟩);exact⟨by simp,by intro h1 h2;simp at h1 h2 ⊢;simp_all [eq_comm]⟩) ?_
 refine AWpL.sound tQ [] _ _ _ _ ?_
 conv=>whnf
 repeat'((first|exact Nm.b 0|refine T.s ?_|((first|apply goB|apply AB.dec|apply AB.gen)<;>intro h<;>try(exfalso;omega))|refine LQ.mk fun r=>?_|(show SWpL _ _ _ _ _ _ _;first|(apply goD tQ qc 0 [12,8] [0,1,2,3,4,5,6,9,10,11,12,13,7,8,14,15,16,17,18,19,20,21] [_] (by kernel_rfl))|(refine goD tQ qc 0 [12,8] [0,1,2,3,4,5,6,9,10,11,12,13,7,8,14,15,16,17,18,19,20,21] [] (by kernel_rfl) ?_))|exact T.z|fail)<;>try(show(_:Prop);conv=>whnf))
 all_goals(try dsimp only)
 all_goals(refine RetLN.wr ?_;(repeat first|refine goH ?_|apply LH.here|apply LH.next);refine⟨_,_,_,_,rfl,(by simp),(by simp),?_⟩;(repeat first|refine goH ?_|apply LH.here|apply LH.next);refine And.intro ?_ ?_;(focus(first|exact rfl|(simp[iAV];done)));(repeat first|refine goH ?_|apply LH.here|apply LH.next);(first|exact rfl|(simp[iAV];done)))
theorem LC.put{w:Nm}{a b:Int}{l:LS}{K:AV→LS→Prop}(h:LH l w fun c _ r=>∃(p1 p2:Nm) (n m:Nat),c=⟨198,[.vw p1 0 n 1,.vw p2 0 m 1]⟩∧LH r p1 fun c1 _ r1=>LH r1 p2 fun c2 _ r2=>∃ws vs:List Int,c1=⟨3,ws.map iAV⟩∧c2=⟨3,vs.map iAV⟩∧n=ws.length∧m=vs.length ∧
   (0<ws.length∧ws.length≤200∧0<vs.length∧vs.length≤200)∧∀x y,K (.tup []) (yf w x y (ws++[a]) (vs++[b])++r2)):LC Tryz.prog G 150 [.ptr w 0,.int .i64 a,.int .i64 b] l K:=by
 obtain⟨l1,c,l2,rfl,p1,p2,n,m,rfl,ha⟩:=h.ex
 obtain⟨l3,c1,l4,e1,hb⟩:=ha.ex
 obtain⟨l5,c2,l6,e2,ws,vs,rfl,rfl,rfl,rfl,⟨k1,k2,k3,k4⟩,hc⟩:=hb.ex
 refine LC.mkN (put1_c w p1 p2 ws vs a b k1 k2 k3 k4) [] (LFs.refl _) ?_
 exact⟨l1,_,l2,rfl,rfl,⟨l3,_,l4,e1,rfl,⟨l5,_,l6,e2,rfl,LFreshN.two hc⟩⟩⟩
def stW(h:Hd):List Int:=[8,32,32,16,16]++(if h.k=2 then[32] else[])
def stV(h:Hd):List Int:=[h.k,h.fr,h.to,h.fp,h.tp]++(if h.k=2 then[h.sr] else[])
theorem wstatic_c(w p1 p2:Nm)(ws vs:List Int)(x:Hd)(h1:0<ws.length)(h2:ws.length≤100)(h3:0<vs.length)(h4:vs.length≤100):LSpecN Tryz.prog G 153 [.ptr w 0,x.av] (yf w p1 p2 ws vs) 2 (fun q=>(.tup [],yf w (q0 q) (q1 q) (ws++stW x) (vs++stV x))):=by
 refine LSpecN.introL tQ Tryz.func153 rfl (by kernel_rfl) (by simp) (fun qs hq=>by obtain⟨x,y,rfl⟩:∃x y,qs=[x,y]:=(match qs,hq with|[x,y],_=>⟨x,y,rfl⟩);exact⟨by simp,by intro h1 h2;simp at h1 h2 ⊢;simp_all [eq_comm]⟩) ?_
 refine AWpL.sound tQ [] _ _ _ _ ?_
 conv=>whnf
 repeat'((first|(show LC _ _ _ _ _ _;refine LC.put ?_;(repeat first|refine goH ?_|apply LH.here|apply LH.next);refine⟨_,_,_,_,rfl,?_⟩;(repeat first|refine goH ?_|apply LH.here|apply LH.next);(repeat first|refine goH ?_|apply LH.here|apply LH.next);refine⟨_,_,rfl,rfl,rfl,rfl,?_,fun r r2=>?_⟩;(focus(first|omega|(simp;omega)|(simp;done)));conv=>whnf)|refine T.s ?_|((first|apply goB|apply AB.dec|apply AB.gen)<;>intro h<;>try(exfalso;omega))|refine LQ.mk fun r=>?_|exact T.z|fail)<;>conv=>whnf)
 all_goals(try dsimp only)
 all_goals
   refine RetLN.wr ?_
   (repeat first|refine goH ?_|apply LH.here|apply LH.next)
   refine⟨_,_,_,_,rfl,(by simp[stW,h]),(by simp[stV,h]),?_⟩
   (repeat first|refine goH ?_|apply LH.here|apply LH.next)
   refine And.intro (by simp[stW,h,iAV]) ?_
   (repeat first|refine goH ?_|apply LH.here|apply LH.next)
   simp[stV,h,iAV]
def xX(x:Int):Int:=if 1<x then 1 else x
theorem some_c(x:Int):LP Tryz.prog G 199 [iAV x] [] (fun _=>(iAV (xX x),[])):=by
 refine goW [] Tryz.func199 rfl ?_
 conv=>whnf
 repeat'((first|refine T.s ?_|((first|apply goB|apply AB.dec|apply AB.gen)<;>intro h<;>try(exfalso;omega))|refine LQ.mk fun r=>?_|exact T.z|fail)<;>conv=>whnf)
 all_goals(try dsimp only)
 (show RL _ _ _;refine goR ?_)
 rfl
def dyW(h:Hd):List Int:=[8,8,1,1,1,1,4]++(if h.k=2 then[8,16,16,32,16] else[16])
def dyV(h:Hd)(d:Dy):List Int:=[h.tos,h.ttl,h.fx,xX h.ck,d.fo,h.mr,0]++(if h.k=2 then[h.ty,h.sq,h.id,h.tm,d.st] else[h.id])
theorem wdyn_c(w p1 p2:Nm)(ws vs:List Int)(x:Hd)(d:Dy)(h1:0<ws.length)(h2:ws.length≤100)(h3:0<vs.length)(h4:vs.length≤100):LSpecN Tryz.prog G 152 [.ptr w 0,x.av,d.av] (yf w p1 p2 ws vs) 2 (fun q=>(.tup [],yf w (q0 q) (q1 q) (ws++dyW x) (vs++dyV x d))):=by
 refine LSpecN.introL tQ Tryz.func152 rfl (by kernel_rfl) (by simp) (fun qs hq=>by obtain⟨x,y,rfl⟩:∃x y,qs=[x,y]:=(match qs,hq with|[x,y],_=>⟨x,y,rfl⟩);exact⟨by simp,by intro h1 h2;simp at h1 h2 ⊢;simp_all [eq_comm]⟩) ?_
 refine AWpL.sound tQ [] _ _ _ _ ?_
 conv=>whnf
 repeat'((first|(show LC _ _ _ _ _ _;refine LC.put ?_;(repeat first|refine goH ?_|apply LH.here|apply LH.next);refine⟨_,_,_,_,rfl,?_⟩;(repeat first|refine goH ?_|apply LH.here|apply LH.next);(repeat first|refine goH ?_|apply LH.here|apply LH.next);refine⟨_,_,rfl,rfl,rfl,rfl,?_,fun r r2=>?_⟩;(focus(first|omega|(simp;omega)|(simp;done)));conv=>whnf)|exact Nm.b 0|(show LC _ _ _ _ _ _;first|refine LC.pure (some_c _) ?_|refine goE ?_)|refine T.s ?_|((first|apply goB|apply AB.dec|apply AB.gen)<;>intro h<;>try(exfalso;omega))|refine LQ.mk fun r=>?_|(show SWpL _ _ _ _ _ _ _;first|refine SWpL.times 4 5 (by rfl) ?_|(apply goD tQ qc 3 [1,6,8,4] [0,1,2,3,5,6,7,8,11,4,9,10] [_,_] (by kernel_rfl))|(refine goD tQ qc 3 [1,6,8,4] [0,1,2,3,5,6,7,8,11,4,9,10] [] (by kernel_rfl) ?_)|refine AtL.step tQ [] ?_)|exact T.z|fail)<;>try(show(_:Prop);conv=>whnf))
 all_goals(try dsimp only)
 all_goals
   refine RetLN.wr ?_
   (repeat first|refine goH ?_|apply LH.here|apply LH.next)
   refine⟨_,_,_,_,rfl,(by simp[dyW,h]),(by simp[dyV,h]),?_⟩
   (repeat first|refine goH ?_|apply LH.here|apply LH.next)
   refine And.intro (by simp[dyW,h,iAV]) ?_
   (repeat first|refine goH ?_|apply LH.here|apply LH.next)
   simp[dyV,h,iAV]
attribute [irreducible] dyW dyV stW stV
open Go.RowKit
variable {G:Nat→AV}
def byteN(l:List Bool):Nat:=l.foldl (fun a b=>2*a+b.toNat) 0
def xz(l:List Bool):UInt8:=UInt8.ofNat (byteN l)
def qt(bs:List Bool):List UInt8:=(List.range (bs.length / 8)).map fun j=>xz ((bs.drop (8*j)).take 8)
@[simp] theorem bytesB_len(bs:List Bool):(qt bs).length=bs.length / 8:=by simp[qt]
theorem bytesB_set(bs:List Bool)(k:Nat)(x:Bool)(h8:bs.length%8=0)(hk:k<bs.length):(qt bs).set (k / 8) (xz (((bs.drop (8*(k / 8))).take 8).set (k%8) x))=qt (bs.set k x):=by
 apply List.ext_getElem
 · simp[qt]
 · intro j h1 h2
   rw[List.getElem_set]
   have hj:j<bs.length / 8:=by simpa [qt] using h1
   split
   · rename_i e
     subst e
     simp only[qt,List.length_set,List.getElem_map,List.getElem_range]
     rw[List.drop_set,if_neg (by omega),List.take_set]
     congr 2
     omega
   · rename_i e
     simp only[qt,List.length_set,List.getElem_map,List.getElem_range]
     rw[List.drop_set]
     split
     · rfl
     · rw[List.take_set,List.set_eq_of_length_le]
       simp
       omega
theorem byte_or:∀b0 b1 b2 b3 b4 b5 b6 b7:Bool,∀r,r<8→b8 (BitVec.ofInt 8 ((xz [b0,b1,b2,b3,b4,b5,b6,b7]).toNat:Int) ||| BitVec.ofInt 8 (2^(7-r):Int)).toNat=xz ([b0,b1,b2,b3,b4,b5,b6,b7].set r true):=by decide +kernel
theorem byte_andn:∀b0 b1 b2 b3 b4 b5 b6 b7:Bool,∀r,r<8→b8 (BitVec.ofInt 8 ((xz [b0,b1,b2,b3,b4,b5,b6,b7]).toNat:Int) &&& ~~~ BitVec.ofInt 8 (2^(7-r):Int)).toNat=xz ([b0,b1,b2,b3,b4,b5,b6,b7].set r false):=by decide +kernel
theorem list8{l:List Bool}(h:l.length=8):∃b0 b1 b2 b3 b4 b5 b6 b7,l=[b0,b1,b2,b3,b4,b5,b6,b7]:=by
 match l,h with
 | [b0,b1,b2,b3,b4,b5,b6,b7],_=>exact⟨b0,b1,b2,b3,b4,b5,b6,b7,rfl⟩
theorem byteB_or(l:List Bool)(h:l.length=8)(r:Nat)(hr:r<8):b8 (BitVec.ofInt 8 ((xz l).toNat:Int) ||| BitVec.ofInt 8 (2^(7-r):Int)).toNat=xz (l.set r true):=by
 obtain⟨b0,b1,b2,b3,b4,b5,b6,b7,rfl⟩:=list8 h
 exact byte_or b0 b1 b2 b3 b4 b5 b6 b7 r hr
theorem byteB_andn(l:List Bool)(h:l.length=8)(r:Nat)(hr:r<8):b8 (BitVec.ofInt 8 ((xz l).toNat:Int) &&& ~~~ BitVec.ofInt 8 (2^(7-r):Int)).toNat=xz (l.set r false):=by
 obtain⟨b0,b1,b2,b3,b4,b5,b6,b7,rfl⟩:=list8 h
 exact byte_andn b0 b1 b2 b3 b4 b5 b6 b7 r hr
theorem ibits_and(x n:Nat)(hn:n≤32)(hx:x<4611686018427387904):qk .and .i64 (x:Int) ((2^n-1:Nat):Int)=((x%2^n:Nat):Int):=by
 have hp:2^n≤2^32:=Nat.pow_le_pow_right (by omega) hn
 have hq:0<2^n:=Nat.pow_pos (by omega)
 show IntKind.i64.wrap ((BitVec.ofInt 64 (x:Int) &&& BitVec.ofInt 64 ((2^n-1:Nat):Int)).toNat:Int)=_
 have e:(BitVec.ofInt 64 (x:Int) &&& BitVec.ofInt 64 ((2^n-1:Nat):Int)).toNat=x%2^n:=by
   rw[BitVec.toNat_and,BitVec.ofInt_natCast,BitVec.ofInt_natCast,BitVec.toNat_ofNat,BitVec.toNat_ofNat,Nat.mod_eq_of_lt (show x<2^64 by omega),Nat.mod_eq_of_lt (show 2^n-1<2^64 by omega),Nat.and_two_pow_sub_one_eq_mod]
 rw[e]
 have h1:x%2^n<2^n:=Nat.mod_lt _ hq
 generalize x%2^n=y at *
 rw[IntKind.wrap_i64]
 omega
def qz(w:Nat)(v:Int):List Bool:=(List.range w).map fun i=>decide (v / 2^(w-1-i)%2=1)
@[simp] theorem bitsW_len(w:Nat)(v:Int):(qz w v).length=w:=by simp[qz]
theorem bit_at(w:Nat)(v:Int)(hv:0≤v)(hv2:v<4611686018427387904)(i:Nat)(hi:i<w)(hw:w≤32) :
   qk .and .i64 (v.fdiv (2^min (w-1-i) 64)) 1=if(qz w v).getD i false=true then 1 else 0:=by
 have e:min (w-1-i) 64=w-1-i:=Nat.min_eq_left (by omega)
 have e2:v.fdiv (2^(w-1-i))=v / 2^(w-1-i):=Int.fdiv_eq_ediv_of_nonneg _ (Int.pow_nonneg (by decide))
 have h0:0≤v / 2^(w-1-i):=Int.ediv_nonneg hv (Int.pow_nonneg (by decide))
 have h1:v / 2^(w-1-i)≤v:=Int.ediv_le_self _ hv
 rw[e,e2]
 have h2:(qz w v).getD i false=decide (v / 2^(w-1-i)%2=1):=by
   simp[qz,List.getD_eq_getElem?_getD,hi]
 rw[h2]
 generalize v / 2^(w-1-i)=y at *
 obtain⟨m,rfl⟩:=Int.eq_ofNat_of_zero_le h0
 have:=ibits_and m 1 (by decide) (by omega)
 rw[show((2^1-1:Nat):Int)=1 from rfl] at this
 rw[this]
 have h3:=Nat.mod_two_eq_zero_or_one m
 rcases h3 with h3|h3
 · rw[show 2^1=2 from rfl,h3,if_neg (by simp;omega)];rfl
 · rw[show 2^1=2 from rfl,h3,if_pos (by simp;omega)];rfl
def yi(bs:List Bool)(at_:Nat)(l:List Bool):List Bool:=bs.take at_++(l++bs.drop (at_+l.length))
theorem setB_len(bs:List Bool)(at_:Nat)(l:List Bool)(h:at_+l.length≤bs.length):(yi bs at_ l).length=bs.length:=by simp[yi];omega
theorem setB_succ(bs:List Bool)(at_ i:Nat)(l:List Bool)(hi:i<l.length)(h:at_+l.length≤bs.length):(yi bs at_ (l.take i)).set (at_+i) (l.getD i false)=yi bs at_ (l.take (i+1)):=by
 have h1:(l.take i).length=i:=by simp;omega
 have h2:(l.take (i+1)).length=i+1:=by simp;omega
 unfold yi
 rw[h1,h2,List.set_append,if_neg (by simp;omega),List.set_append,if_neg (by simp;omega)]
 have e1:at_+i-(bs.take at_).length-(l.take i).length=0:=by simp;omega
 rw[e1,List.drop_eq_getElem_cons (show at_+i<bs.length by omega)]
 simp only[List.set_cons_zero]
 rw[List.take_succ_eq_append_getElem hi,List.append_assoc]
 simp only[List.getD_eq_getElem?_getD,List.getElem?_eq_getElem hi,Option.getD_some,List.singleton_append,Nat.add_assoc]
theorem zc(bs:List Bool)(at_:Nat):yi bs at_ []=bs:=by simp[yi]
theorem tdiv8(n:Int)(h:0≤n):n.tdiv 8=n / 8:=Int.tdiv_eq_ediv_of_nonneg h
theorem tmod8(n:Int)(h:0≤n):n.tmod 8=n%8:=Int.tmod_eq_emod_of_nonneg h
theorem mask_eq(r:Nat)(hr:r<8):IntKind.u8.wrap (1*2^min (7-(r:Int)).toNat IntKind.u8.bits)=2^(7-r):=by
 have:∀r:Nat,r<8→IntKind.u8.wrap (1*2^min (7-(r:Int)).toNat IntKind.u8.bits)=2^(7-r):=by decide +kernel
 exact this r hr
theorem vE(bs:List Bool)(j:Nat)(h:j<bs.length / 8):(qt bs).getD j 0=xz ((bs.drop (8*j)).take 8):=by
 simp[qt,List.getD_eq_getElem?_getD,h]
theorem step_or(bs:List Bool)(k:Nat)(h8:bs.length%8=0)(hk:k<bs.length):(qt bs).set (k / 8) (b8 ((BitVec.ofInt 8 (((qt bs).getD (k / 8) 0).toNat:Int) ||| BitVec.ofInt 8 (2^(7-k%8):Int)).toNat:Int))=qt (bs.set k true):=by
 rw[vE bs _ (by omega),byteB_or _ (by simp;omega) (k%8) (by omega),bytesB_set bs k true h8 hk]
theorem step_andn(bs:List Bool)(k:Nat)(h8:bs.length%8=0)(hk:k<bs.length):(qt bs).set (k / 8) (b8 ((BitVec.ofInt 8 (((qt bs).getD (k / 8) 0).toNat:Int) &&& ~~~ BitVec.ofInt 8 (2^(7-k%8):Int)).toNat:Int))=qt (bs.set k false):=by
 rw[vE bs _ (by omega),byteB_andn _ (by simp;omega) (k%8) (by omega),bytesB_set bs k false h8 hk]
theorem bset_c(bs:List Bool)(n w:Nat)(v:Int)(h8:bs.length%8=0)(hl:bs.length≤100000)(hn:n+w≤bs.length)(hw:w≤32)(hv:0≤v)(hv2:v<4611686018427387904)(p:Nm) :
   LP Tryz.prog G 201 [.vw p 0 (bs.length / 8) 1,iAV n,iAV w,iAV v] [(p,⟨5,(qt bs).map bAV⟩)] (fun _=>(.tup [],[(p,⟨5,(qt (yi bs n (qz w v))).map bAV⟩)])):=by
 have hadd:∀i:Nat,i<w→q7 .add .i64 (n:Int) (i:Int)=((n+i:Nat):Int):=fun i hi=>by(exact T.num)
 have hidx:∀i:Nat,i<w→IntKind.i64.wrap ((q7 .add .i64 (n:Int) (i:Int)).tdiv 8)=(((n+i) / 8:Nat):Int):=fun i hi=>by
   rw[hadd i hi,tdiv8 _ (by omega),IntKind.wrap_i64]
   omega
 have hmod:∀i:Nat,i<w→(q7 .add .i64 (n:Int) (i:Int)).tmod 8=(((n+i)%8:Nat):Int):=fun i hi=>by
   rw[hadd i hi,tmod8 _ (by omega)]
   omega
 have hsl:∀i:Nat,i<w→(yi bs n ((qz w v).take i)).length=bs.length:=fun i hi=>setB_len _ _ _ (by simp;omega)
 have hpos:∀i:Nat,i<w→0+(IntKind.i64.wrap ((q7 .add .i64 (n:Int) (i:Int)).tdiv 8)).toNat*1=(n+i) / 8:=fun i hi=>by rw[hidx i hi];omega
 have hmask:∀i:Nat,i<w→IntKind.u8.wrap (1*2^min (q7 .sub .i64 7 ((q7 .add .i64 (n:Int) (i:Int)).tmod 8)).toNat IntKind.u8.bits)=2^(7-(n+i)%8):=fun i hi=>by
   rw[hmod i hi,show q7 .sub .i64 7 (((n+i)%8:Nat):Int)=7-(((n+i)%8:Nat):Int) by(exact T.num)]
   exact mask_eq _ (by omega)
 have hsh:∀i:Nat,i<w→(q7 .sub .i64 (q7 .sub .i64 (w:Int) 1) (i:Int)).toNat=w-1-i:=fun i hi=>by
   have:q7 .sub .i64 (q7 .sub .i64 (w:Int) 1) (i:Int)=(w:Int)-1-i:=by(exact T.num)
   rw[this];omega
 have hbit:∀i:Nat,i<w→qk .and .i64 (v.fdiv (2^min (q7 .sub .i64 (q7 .sub .i64 (w:Int) 1) (i:Int)).toNat IntKind.i64.bits)) 1=if(qz w v).getD i false=true then 1 else 0:=fun i hi=>by
   rw[hsh i hi]
   exact bit_at w v hv hv2 i hi hw
 refine goW [] Tryz.func201 rfl ?_
 conv=>whnf
 repeat'((first|(refine And.intro ?_ ?_;(focus(first|(rw[hidx _ (by omega)];omega)|(rw[hmod _ (by omega)];first|omega|(exact T.num))|(dsimp only;rw[hidx _ (by omega),List.length_map,bytesB_len,hsl _ (by omega)];omega)|(dsimp only;rw[hidx _ (by omega),bytesB_len,hsl _ (by omega)];omega)|exact T.kx|exact T.side)))|(show AC _ _ _;first|(refine AC.idx ((n+i) / 8) 0 ?_ ?_ ?_;(focus(dsimp only;rw[hidx _ (by omega)];omega));(focus(rw[bytesB_len,hsl _ (by omega)];omega))))|(show AQ _ _;first|(refine AQ.set (x:=b8 _) (qS _).symm ?_ ?_;(focus(dsimp only;rw[hidx _ (by omega),bytesB_len,hsl _ (by omega)];omega))))|refine T.s ?_|((first|apply goB|apply AB.dec|apply AB.gen)<;>intro h<;>try(exfalso;omega))|refine LQ.mk fun r=>?_|(show SWpL _ _ _ (.loop _) _ _ _;first|(apply goO tQ [] 1 (S:=Nat) [0,1,2,3,10] (fun i=>⟨[(11,.int .i64 i)],[(p,⟨5,(qt (yi bs n ((qz w v).take i))).map bAV⟩)],i≤w,w-i⟩) (0) (by rfl);(focus((repeat' first|exact trivial|(refine And.intro ?_ ?_)|exact LB.nil|(with_reducible exact LB.refl)|(apply LB.cons;(repeat first|refine goH ?_|apply LH.here|apply LH.next);refine And.intro ?_ ?_;(focus(try(first|(with_reducible rfl)|(refine congrArg (Pl.mk _) ?_;(first|rfl|(simp[zc];done)))|rfl|(with_reducible refine congrArg (Pl.mk _) ?_)))))|assumption|(first|(focus(apply Eq.trans;(conv=>lhs;whnf);(conv=>rhs;whnf);done))|rfl|((conv=>lhs;whnf);first|rfl|(refine congrArg (AV.int _) ?_;(exact T.num))|(refine congrArg AV.bool ?_;(exact T.num))|(refine vwc ?_;first|(exact T.num)|(first|rfl|(simp[zc];done)))|(refine q9 ?_ ?_<;>first|(exact T.num)|(first|rfl|(simp[zc];done)))|(first|rfl|(simp[zc];done))))|(exact T.num)|(dsimp only;(exact T.num))|(first|rfl|(simp[zc];done)));done));rintro i hok;(try dsimp only at hok)))|(show AtL _ _ _ _ _ _ _ _ _ _;first|(apply AtL.mk' (id:=1) (S:=Nat) (i+1);(repeat' first|exact trivial|(refine And.intro ?_ ?_)|exact LB.nil|(with_reducible exact LB.refl)|(apply LB.cons;(repeat first|refine goH ?_|apply LH.here|apply LH.next);refine And.intro ?_ ?_;(focus(try(first|(with_reducible rfl)|(refine congrArg (Pl.mk _) ?_;(first|rfl|(simp[zc];done)))|rfl|(with_reducible refine congrArg (Pl.mk _) ?_)))))|assumption|(first|(focus(apply Eq.trans;(conv=>lhs;whnf);(conv=>rhs;whnf);done))|rfl|((conv=>lhs;whnf);first|rfl|(refine congrArg (AV.int _) ?_;(exact T.num))|(refine congrArg AV.bool ?_;(exact T.num))|(refine vwc ?_;first|(exact T.num)|(first|rfl|(simp[zc];done)))|(refine q9 ?_ ?_<;>first|(exact T.num)|(first|rfl|(simp[zc];done)))|(first|rfl|(simp[zc];done))))|(exact T.num)|(dsimp only;(exact T.num))|(first|rfl|(simp[zc];done)));done)|(apply AtL.mk' (id:=1) (S:=Nat) (i+1);(repeat' first|exact trivial|(refine And.intro ?_ ?_)|exact LB.nil|(with_reducible exact LB.refl)|(apply LB.cons;(repeat first|refine goH ?_|apply LH.here|apply LH.next);refine And.intro ?_ ?_;(focus(try(first|(with_reducible rfl)|(refine congrArg (Pl.mk _) ?_;(first|rfl|(simp[zc];done)))|rfl|(with_reducible refine congrArg (Pl.mk _) ?_)))))|assumption|(first|(focus(apply Eq.trans;(conv=>lhs;whnf);(conv=>rhs;whnf);done))|rfl|((conv=>lhs;whnf);first|rfl|(refine congrArg (AV.int _) ?_;(exact T.num))|(refine congrArg AV.bool ?_;(exact T.num))|(refine vwc ?_;first|(exact T.num)|(first|rfl|(simp[zc];done)))|(refine q9 ?_ ?_<;>first|(exact T.num)|(first|rfl|(simp[zc];done)))|(first|rfl|(simp[zc];done))))|(exact T.num)|(dsimp only;(exact T.num))|(first|rfl|(simp[zc];done)))))|exact T.z|fail)<;>conv=>whnf)
 all_goals(try dsimp only)
 · rw[hbit i (by omega)] at h
   have hb:(qz w v).getD i false=true:=by
     cases hc:(qz w v).getD i false with
     | true=>rfl
     | false=>rw[hc] at h;exact absurd h (by decide)
   refine congrArg (List.map bAV) ?_
   have hs:=step_or (yi bs n ((qz w v).take i)) (n+i) (by rw[hsl i (by omega)];exact h8) (by rw[hsl i (by omega)];omega)
   have hu:=setB_succ bs n i (qz w v) (by simp;omega) (by simp;omega)
   rw[hb] at hu
   rw[hpos i (by omega),hmask i (by omega),←hu]
   exact hs
 · rw[hbit i (by omega)] at h
   have hb:(qz w v).getD i false=false:=by
     cases hc:(qz w v).getD i false with
     | false=>rfl
     | true=>rw[hc] at h;exact absurd rfl h
   refine congrArg (List.map bAV) ?_
   have hs:=step_andn (yi bs n ((qz w v).take i)) (n+i) (by rw[hsl i (by omega)];exact h8) (by rw[hsl i (by omega)];omega)
   have hu:=setB_succ bs n i (qz w v) (by simp;omega) (by simp;omega)
   rw[hb] at hu
   rw[hpos i (by omega),hmask i (by omega),←hu]
   exact hs
 · have hi:i=w:=by omega
   have e:(qz w v).take i=qz w v:=List.take_of_length_le (by simp;omega)
   rw[e]
   (show RL _ _ _;refine goR ?_)
   rfl
open Go.RowKit
variable {G:Nat→AV}
def zm(ws:List Int):Nat:=(ws.map Int.toNat).sum
def xN:List Int→List Int→List Bool
 | w::ws,v::vs=>qz w.toNat v++xN ws vs
 | _,_=>[]
theorem ve:∀(ws vs:List Int),ws.length=vs.length→(xN ws vs).length=zm ws
 | [],[],_=>rfl
 | w::ws,v::vs,h=>by
   have:=ve ws vs (by simpa using h)
   simp[xN,zm] at *
   omega
theorem vf:∀(ws vs ws' vs':List Int),ws.length=vs.length→xN (ws++ws') (vs++vs')=xN ws vs++xN ws' vs'
 | [],[],_,_,_=>rfl
 | w::ws,v::vs,ws',vs',h=>by
   have:=vf ws vs ws' vs' (by simpa using h)
   simp[xN,this]
theorem wm(ws:List Int)(i:Nat)(h:i<ws.length):zm (ws.take (i+1))=zm (ws.take i)+(ws.getD i 0).toNat:=by
 unfold zm
 rw[List.take_succ_eq_append_getElem h,List.map_append,List.sum_append]
 congr 1
 simp[List.getD_eq_getElem?_getD,h]
theorem packB_take(ws vs:List Int)(i:Nat)(h:i<ws.length)(hl:ws.length=vs.length):xN (ws.take (i+1)) (vs.take (i+1))=xN (ws.take i) (vs.take i)++qz (ws.getD i 0).toNat (vs.getD i 0):=by
 rw[List.take_succ_eq_append_getElem h,List.take_succ_eq_append_getElem (show i<vs.length by omega),vf _ _ _ _ (by simp;omega)]
 simp[xN,List.getD_eq_getElem?_getD,h,show i<vs.length by omega]
theorem sumW_le(ws:List Int)(h:∀i,i<ws.length→0≤ws.getD i 0∧ws.getD i 0≤32):∀i,i≤ws.length→zm (ws.take i)≤32*i
 | 0,_=>by simp[zm]
 | i+1,hi=>by
   have h1:=sumW_le ws h i (by omega)
   have h2:=h i (by omega)
   rw[wm ws i (by omega)]
   omega
theorem yU(ws:List Int)(i:Nat):zm (ws.take i)≤zm ws:=by
 conv=>rhs;rw[←List.take_append_drop i ws]
 unfold zm
 rw[List.map_append,List.sum_append]
 omega
theorem bfits_t(n v:Int)(h:0≤n∧n≤32)(hv:0≤v∧v<2^n.toNat):LP Tryz.prog G 200 [iAV n,iAV v] [] (fun _=>(.bool true,[])):=by
 have e:IntKind.i64.wrap (1*2^min n.toNat IntKind.i64.bits)=2^n.toNat:=by
   have e:min n.toNat IntKind.i64.bits=n.toNat:=Nat.min_eq_left (by show n.toNat≤64;omega)
   rw[e,Int.one_mul,IntKind.wrap_i64]
   have h2:(2:Int)^n.toNat≤2^32:=by exact_mod_cast Nat.pow_le_pow_right (by decide) (show n.toNat≤32 by omega)
   have h3:(0:Int)<2^n.toNat:=Int.pow_pos (by decide)
   omega
 refine goW [] Tryz.func200 rfl ?_
 conv=>whnf
 repeat'((first|refine T.s ?_|((first|apply goB|apply AB.dec|apply AB.gen)<;>intro h<;>try(exfalso;omega))|refine LQ.mk fun r=>?_|exact T.z|fail)<;>conv=>whnf)
 all_goals(try dsimp only)
 all_goals
   ((show RL _ _ _;refine goR ?_);(focus(refine congrArg AV.bool ?_;rw[Bool.eq_iff_iff])))
   simp_all [qr]
def wY(ws vs:List Int)(i:Nat):List Bool:=xN (ws.take i) (vs.take i)++List.replicate (zm ws-zm (ws.take i)) false
theorem yr(ws vs:List Int)(hl:ws.length=vs.length)(i:Nat):(wY ws vs i).length=zm ws:=by
 have:=yU ws i
 simp[wY,ve (ws.take i) (vs.take i) (by simp;omega)]
 omega
theorem padB_succ(ws vs:List Int)(hl:ws.length=vs.length)(i:Nat)(hi:i<ws.length):yi (wY ws vs i) (zm (ws.take i)) (qz (ws.getD i 0).toNat (vs.getD i 0))=wY ws vs (i+1):=by
 have h1:=ve (ws.take i) (vs.take i) (by simp;omega)
 have h2:=yU ws (i+1)
 have h3:=wm ws i hi
 unfold yi wY
 rw[packB_take ws vs i hi hl,List.take_append_of_le_length (by omega),List.take_of_length_le (by omega),List.drop_append,List.drop_of_length_le (by omega),List.append_assoc]
 congr 2
 rw[List.nil_append,List.drop_replicate,bitsW_len]
 congr 1
 omega
theorem padB_zero(ws vs:List Int):qt (wY ws vs 0)=List.replicate (zm ws / 8) 0:=by
 have e:wY ws vs 0=List.replicate (zm ws) false:=by simp[wY,xN,zm]
 rw[e]
 apply List.ext_getElem
 · simp
 · intro j h1 h2
   have hj:j<zm ws / 8:=by simpa using h1
   simp only[qt,List.getElem_map,List.getElem_range,List.getElem_replicate,List.drop_replicate,List.take_replicate]
   rw[show min 8 (zm ws-8*j)=8 by omega]
   rfl
theorem padB_all(ws vs:List Int)(hl:ws.length=vs.length):wY ws vs ws.length=xN ws vs:=by
 simp[wY,hl]
 rw[←hl]
 simp
theorem pack_c(ws vs:List Int)(hl:ws.length=vs.length)(h256:ws.length≤256)(h0:0<zm ws)(h8:zm ws%8=0)(hfit:∀i,i<ws.length→(0≤ws.getD i 0∧ws.getD i 0≤32)∧0≤vs.getD i 0∧vs.getD i 0<2^(ws.getD i 0).toNat) :
   LP Tryz.prog G 154 [iv ws,iv vs] [] (fun q=>(.tup [.vw q 0 (zm ws / 8) 1,iAV 0],[(q,⟨5,(qt (xN ws vs)).map bAV⟩)])):=by
 have hT:∀i,i≤ws.length→zm (ws.take i)≤32*i:=sumW_le ws fun i hi=>(hfit i hi).1
 have hT2:zm ws≤8192:=by
   have:=hT ws.length (by omega)
   rw[List.take_of_length_le (by omega)] at this
   omega
 have hadd:∀i:Nat,i<ws.length→q7 .add .i64 (zm (ws.take i):Int) (ws.getD i 0)=(zm (ws.take (i+1)):Int):=fun i hi=>by
   have:=hT i (by omega)
   have:=(hfit i hi).1
   rw[wm ws i hi]
   (exact T.num)
 have hset:∀(i:Nat) (p:Nm),i<ws.length→LP Tryz.prog G 201 [.vw p 0 (zm ws / 8) 1,iAV (zm (ws.take i)),iAV (ws.getD i 0),iAV (vs.getD i 0)] [(p,⟨5,(qt (wY ws vs i)).map bAV⟩)] (fun _=>(.tup [],[(p,⟨5,(qt (wY ws vs (i+1))).map bAV⟩)])):=fun i p hi=>by
   have hf:=hfit i hi
   have hp:(2:Int)^(ws.getD i 0).toNat≤2^32:=by exact_mod_cast Nat.pow_le_pow_right (by decide) (show(ws.getD i 0).toNat≤32 by omega)
   have hm:=yU ws (i+1)
   rw[wm ws i hi] at hm
   have:=bset_c (G:=G) (wY ws vs i) (zm (ws.take i)) (ws.getD i 0).toNat (vs.getD i 0) (by rw[yr _ _ hl];exact h8) (by rw[yr _ _ hl];omega) (by rw[yr _ _ hl];omega) (by omega) hf.2.1 (by omega) p
   rw[yr _ _ hl,padB_succ ws vs hl i hi,show(((ws.getD i 0).toNat:Nat):Int)=ws.getD i 0 by omega] at this
   exact this
 have hend:∀i:Nat,i≤ws.length→¬(i:Int)<(ws.length:Int)→IntKind.i64.wrap ((q7 .add .i64 (zm (ws.take i):Int) 7).tdiv 8)=((zm ws / 8:Nat):Int):=fun i h1 h2=>by
   rw[List.take_of_length_le (show ws.length≤i by omega),show q7 .add .i64 (zm ws:Int) 7=((zm ws+7:Nat):Int) by(exact T.num),tdiv8 _ (by omega),IntKind.wrap_i64]
   omega
 have hzc:∀i:Nat,i≤ws.length→¬(i:Int)<(ws.length:Int)→qB [AV.int .u8 0] ((IntKind.i64.wrap ((q7 .add .i64 (zm (ws.take i):Int) 7).tdiv 8)).toNat*1)=(qt (wY ws vs 0)).map bAV:=fun i h1 h2=>by
   rw[hend i h1 h2,padB_zero,Int.toNat_natCast,Nat.mul_one]
   generalize zm ws / 8=n
   apply List.ext_getElem
   · simp[qB]
   · intro k k1 k2
     simp[qB,Nat.mod_one]
     rfl
 have hall:=padB_all ws vs hl
 refine goW [] Tryz.func154 rfl ?_
 conv=>whnf
 repeat'((first|(refine And.intro ?_ ?_;(focus(first|(rw[hend _ (by omega) (by assumption)];omega)|(dsimp only;rw[hend _ (by omega) (by assumption)];omega)|exact T.kx|exact T.side)))|(show LC _ _ _ _ _ _;first|refine LC.pure (bfits_t _ _ (hfit _ (by omega)).1 (hfit _ (by omega)).2) ?_|(apply LC.upd (hset _ _ (by omega));(repeat first|refine goH ?_|apply LH.here|apply LH.next);refine⟨rfl,?_⟩)|refine goE ?_)|(show AC _ _ _;first|(refine AC.idx (i) (0) ?_ ?_ ?_;(focus(first|exact rfl|(simp;done)|(simp;omega)));(focus(first|omega|exact T.side))))|(show AQ _ _;first|(refine AQ.eq (hzc _ (by omega) (by assumption)) ?_))|refine T.s ?_|((first|apply goB|apply AB.dec|apply AB.gen)<;>intro h<;>try(exfalso;omega))|refine LQ.mk fun r=>?_|(show SWpL _ _ _ (.loop _) _ _ _;first|(apply goO tQ [] 5 (S:=Nat) [0,1,23,24] (fun i=>⟨[(25,.int .i64 i),(6,.int .i64 (zm (ws.take i)))],[],i≤ws.length,ws.length-i⟩) (0) (by rfl);(focus((repeat' first|exact trivial|(refine And.intro ?_ ?_)|exact LB.nil|(with_reducible exact LB.refl)|(apply LB.cons;(repeat first|refine goH ?_|apply LH.here|apply LH.next);refine And.intro ?_ ?_;(focus(try(first|(with_reducible rfl)|(refine congrArg (Pl.mk _) ?_;(first|rfl|(simp;done)))|rfl|(with_reducible refine congrArg (Pl.mk _) ?_)))))|assumption|(exact congrArg (AV.int .i64) (hadd i (by omega)))|((conv=>lhs;whnf);refine vwc ?_;rw[hend _ (by omega) (by assumption)];omega)|(first|(focus(apply Eq.trans;(conv=>lhs;whnf);(conv=>rhs;whnf);done))|rfl|((conv=>lhs;whnf);first|rfl|(refine congrArg (AV.int _) ?_;(exact T.num))|(refine congrArg AV.bool ?_;(exact T.num))|(refine vwc ?_;first|(exact T.num)|(first|rfl|(simp;done)))|(refine q9 ?_ ?_<;>first|(exact T.num)|(first|rfl|(simp;done)))|(first|rfl|(simp;done))))|(exact T.num)|(dsimp only;(exact T.num))|(first|rfl|(simp;done)));done));rintro i hok;(try dsimp only at hok))|(apply goO tQ [] 14 (S:=Nat×Nm) [1,45,46] (fun(i,q)=>⟨[(47,.int .i64 i),(10,.int .i64 (zm (ws.take i))),(9,.vw q 0 (zm ws / 8) 1)],[(q,⟨5,(qt (wY ws vs i)).map bAV⟩)],i≤ws.length,ws.length-i⟩) ((0,_)) (by rfl);(focus((repeat' first|exact trivial|(refine And.intro ?_ ?_)|exact LB.nil|(with_reducible exact LB.refl)|(apply LB.cons;(repeat first|refine goH ?_|apply LH.here|apply LH.next);refine And.intro ?_ ?_;(focus(try(first|(with_reducible rfl)|(refine congrArg (Pl.mk _) ?_;(first|rfl|(simp;done)))|rfl|(with_reducible refine congrArg (Pl.mk _) ?_)))))|assumption|(exact congrArg (AV.int .i64) (hadd i (by omega)))|((conv=>lhs;whnf);refine vwc ?_;rw[hend _ (by omega) (by assumption)];omega)|(first|(focus(apply Eq.trans;(conv=>lhs;whnf);(conv=>rhs;whnf);done))|rfl|((conv=>lhs;whnf);first|rfl|(refine congrArg (AV.int _) ?_;(exact T.num))|(refine congrArg AV.bool ?_;(exact T.num))|(refine vwc ?_;first|(exact T.num)|(first|rfl|(simp;done)))|(refine q9 ?_ ?_<;>first|(exact T.num)|(first|rfl|(simp;done)))|(first|rfl|(simp;done))))|(exact T.num)|(dsimp only;(exact T.num))|(first|rfl|(simp;done)));done));rintro⟨i,q⟩ hok;(try dsimp only at hok)))|(show AtL _ _ _ _ _ _ _ _ _ _;first|(apply AtL.mk' (id:=5) (S:=Nat) (i+1);(repeat' first|exact trivial|(refine And.intro ?_ ?_)|exact LB.nil|(with_reducible exact LB.refl)|(apply LB.cons;(repeat first|refine goH ?_|apply LH.here|apply LH.next);refine And.intro ?_ ?_;(focus(try(first|(with_reducible rfl)|(refine congrArg (Pl.mk _) ?_;(first|rfl|(simp;done)))|rfl|(with_reducible refine congrArg (Pl.mk _) ?_)))))|assumption|(exact congrArg (AV.int .i64) (hadd i (by omega)))|((conv=>lhs;whnf);refine vwc ?_;rw[hend _ (by omega) (by assumption)];omega)|(first|(focus(apply Eq.trans;(conv=>lhs;whnf);(conv=>rhs;whnf);done))|rfl|((conv=>lhs;whnf);first|rfl|(refine congrArg (AV.int _) ?_;(exact T.num))|(refine congrArg AV.bool ?_;(exact T.num))|(refine vwc ?_;first|(exact T.num)|(first|rfl|(simp;done)))|(refine q9 ?_ ?_<;>first|(exact T.num)|(first|rfl|(simp;done)))|(first|rfl|(simp;done))))|(exact T.num)|(dsimp only;(exact T.num))|(first|rfl|(simp;done)));done)|(apply AtL.mk' (id:=14) (S:=Nat×Nm) ((i+1,_));(repeat' first|exact trivial|(refine And.intro ?_ ?_)|exact LB.nil|(with_reducible exact LB.refl)|(apply LB.cons;(repeat first|refine goH ?_|apply LH.here|apply LH.next);refine And.intro ?_ ?_;(focus(try(first|(with_reducible rfl)|(refine congrArg (Pl.mk _) ?_;(first|rfl|(simp;done)))|rfl|(with_reducible refine congrArg (Pl.mk _) ?_)))))|assumption|(exact congrArg (AV.int .i64) (hadd i (by omega)))|((conv=>lhs;whnf);refine vwc ?_;rw[hend _ (by omega) (by assumption)];omega)|(first|(focus(apply Eq.trans;(conv=>lhs;whnf);(conv=>rhs;whnf);done))|rfl|((conv=>lhs;whnf);first|rfl|(refine congrArg (AV.int _) ?_;(exact T.num))|(refine congrArg AV.bool ?_;(exact T.num))|(refine vwc ?_;first|(exact T.num)|(first|rfl|(simp;done)))|(refine q9 ?_ ?_<;>first|(exact T.num)|(first|rfl|(simp;done)))|(first|rfl|(simp;done))))|(exact T.num)|(dsimp only;(exact T.num))|(first|rfl|(simp;done)));done)|(apply AtL.mk' (id:=5) (S:=Nat) (i+1);(repeat' first|exact trivial|(refine And.intro ?_ ?_)|exact LB.nil|(with_reducible exact LB.refl)|(apply LB.cons;(repeat first|refine goH ?_|apply LH.here|apply LH.next);refine And.intro ?_ ?_;(focus(try(first|(with_reducible rfl)|(refine congrArg (Pl.mk _) ?_;(first|rfl|(simp;done)))|rfl|(with_reducible refine congrArg (Pl.mk _) ?_)))))|assumption|(exact congrArg (AV.int .i64) (hadd i (by omega)))|((conv=>lhs;whnf);refine vwc ?_;rw[hend _ (by omega) (by assumption)];omega)|(first|(focus(apply Eq.trans;(conv=>lhs;whnf);(conv=>rhs;whnf);done))|rfl|((conv=>lhs;whnf);first|rfl|(refine congrArg (AV.int _) ?_;(exact T.num))|(refine congrArg AV.bool ?_;(exact T.num))|(refine vwc ?_;first|(exact T.num)|(first|rfl|(simp;done)))|(refine q9 ?_ ?_<;>first|(exact T.num)|(first|rfl|(simp;done)))|(first|rfl|(simp;done))))|(exact T.num)|(dsimp only;(exact T.num))|(first|rfl|(simp;done))))|(apply AtL.mk' (id:=14) (S:=Nat×Nm) ((i+1,_));(repeat' first|exact trivial|(refine And.intro ?_ ?_)|exact LB.nil|(with_reducible exact LB.refl)|(apply LB.cons;(repeat first|refine goH ?_|apply LH.here|apply LH.next);refine And.intro ?_ ?_;(focus(try(first|(with_reducible rfl)|(refine congrArg (Pl.mk _) ?_;(first|rfl|(simp;done)))|rfl|(with_reducible refine congrArg (Pl.mk _) ?_)))))|assumption|(exact congrArg (AV.int .i64) (hadd i (by omega)))|((conv=>lhs;whnf);refine vwc ?_;rw[hend _ (by omega) (by assumption)];omega)|(first|(focus(apply Eq.trans;(conv=>lhs;whnf);(conv=>rhs;whnf);done))|rfl|((conv=>lhs;whnf);first|rfl|(refine congrArg (AV.int _) ?_;(exact T.num))|(refine congrArg AV.bool ?_;(exact T.num))|(refine vwc ?_;first|(exact T.num)|(first|rfl|(simp;done)))|(refine q9 ?_ ?_<;>first|(exact T.num)|(first|rfl|(simp;done)))|(first|rfl|(simp;done))))|(exact T.num)|(dsimp only;(exact T.num))|(first|rfl|(simp;done)))))|exact T.z|fail)<;>conv=>whnf)
 all_goals(try dsimp only)
 all_goals
   have hi:i=ws.length:=by omega
   rw[hi,hall]
   refine RL.own q rfl ?_ ?_
   · (repeat first|refine goH ?_|apply LH.here|apply LH.next)
     trivial
   · (repeat' first|exact LB.nil|(with_reducible exact LB.refl)|(apply LB.cons;(repeat first|refine goH ?_|apply LH.here|apply LH.next);refine And.intro ?_ ?_;(focus(try(first|(with_reducible rfl)|(refine congrArg (Pl.mk _) ?_;(first|rfl|(simp;done)))|rfl|(with_reducible refine congrArg (Pl.mk _) ?_))))))
end Go.Proofs.YtndpmpnmkpaklaaGreatDoor
