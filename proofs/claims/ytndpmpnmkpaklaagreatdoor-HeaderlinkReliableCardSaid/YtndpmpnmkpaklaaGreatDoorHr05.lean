/-
  Contracts of the functions that the laws reach.
-/
import Derived.Test.YtndpmpnmkpaklaaGreatDoorHr04
set_option linter.all false
namespace Go.Proofs.YtndpmpnmkpaklaaGreatDoor
open Go.RowKit
theorem ipow_le{a b:Nat}(h:a≤b):(2:Int)^a≤2^b:=by
 have:=Nat.pow_le_pow_right (n:=2) (by decide) h
 exact_mod_cast this
theorem and_mask(x:Int)(n:Nat)(hn:n≤32):qk .and .i64 x (2^n-1)=x%2^n:=by
 have hp:(2:Int)^n≤2^32:=ipow_le hn
 have hp':(2:Nat)^n≤2^32:=Nat.pow_le_pow_right (by decide) hn
 have hq:(0:Int)<2^n:=Int.pow_pos (by decide)
 show IntKind.i64.wrap ((BitVec.ofInt 64 x &&& BitVec.ofInt 64 (2^n-1)).toNat:Int)=_
 have hd:(2:Int)^n ∣ 2^64:=⟨2^(64-n),by rw[←Int.pow_add];congr 1;omega⟩
 have e2:((2:Int)^n-1)=((2^n-1:Nat):Int):=by
   have:0<(2:Nat)^n:=Nat.pow_pos (by decide)
   rw[Int.ofNat_sub this];simp
 have e:((BitVec.ofInt 64 x &&& BitVec.ofInt 64 (2^n-1)).toNat:Int)=x%2^n:=by
   rw[e2,BitVec.toNat_and,BitVec.ofInt_natCast,BitVec.toNat_ofNat,Nat.mod_eq_of_lt (show 2^n-1<2^64 by omega),Nat.and_two_pow_sub_one_eq_mod,BitVec.toNat_ofInt]
   have h0:0≤x%((2:Int)^64):=Int.emod_nonneg _ (by decide)
   have h1:(((x%(2:Int)^64).toNat:Nat):Int)=x%2^64:=Int.toNat_of_nonneg h0
   rw[Int.natCast_emod]
   show(((x%(2:Int)^64).toNat:Nat):Int)%((2^n:Nat):Int)=_
   rw[h1]
   push_cast
   exact Int.emod_emod_of_dvd x hd
 rw[e,IntKind.wrap_i64]
 have h1:=Int.emod_nonneg x (show(2:Int)^n≠0 by omega)
 have h2:=Int.emod_lt_of_pos x hq
 omega
def lw(n x:Int):Int:=x%2^n.toNat
theorem pw_pos(n:Int):(0:Int)<2^n.toNat:=Int.pow_pos (by decide)
theorem pw_le{n:Int}{m:Nat}(h:n≤m):(2:Int)^n.toNat≤2^m:=ipow_le (by omega)
theorem y0(n x:Int):0≤lw n x∧lw n x<2^n.toNat:=⟨Int.emod_nonneg x (by have:=pw_pos n;omega),Int.emod_lt_of_pos x (pw_pos n)⟩
theorem shl1{n:Int}(h1:n≤32):IntKind.i64.wrap (1*2^min n.toNat 64)=2^n.toNat:=by
 have h2:=pw_le (m:=32) h1
 have h3:=pw_pos n
 rw[show min n.toNat 64=n.toNat by omega,IntKind.wrap_i64]
 omega
theorem mask_e{n:Int}(h1:n≤32):q7 .sub .i64 (IntKind.i64.wrap (1*2^min n.toNat 64)) 1=2^n.toNat-1:=by
 have h2:=pw_le (m:=32) h1
 have h3:=pw_pos n
 rw[shl1 h1]
 show IntKind.i64.wrap _=_
 rw[IntKind.wrap_i64]
 omega
theorem low_e{n:Int}(x:Int)(h1:n≤32):qk .and .i64 x (q7 .sub .i64 (IntKind.i64.wrap (1*2^min n.toNat 64)) 1)=lw n x:=by
 rw[mask_e h1]
 exact and_mask x n.toNat (by omega)
theorem dvd64{n:Int}(h:n≤32):(2:Int)^n.toNat ∣ 18446744073709551616:=⟨2^(64-n.toNat),by rw[←Int.pow_add,show n.toNat+(64-n.toNat)=64 by omega];rfl⟩
theorem yx{n:Int}(x:Int)(h:n≤32):lw n (IntKind.i64.wrap x)=lw n x:=by
 obtain⟨c,hc⟩:=dvd64 h
 unfold lw
 have:IntKind.i64.wrap x=x-18446744073709551616*((x+9223372036854775808) / 18446744073709551616):=by
   rw[IntKind.wrap_i64];omega
 rw[this,hc,Int.mul_assoc,Int.sub_mul_emod_self_left]
theorem lw_small{n x:Int}(h0:0≤x)(h1:x<2^n.toNat):lw n x=x:=Int.emod_eq_of_lt h0 h1
theorem lw_lw(n x:Int):lw n (lw n x)=lw n x:=by unfold lw;exact Int.emod_emod_of_dvd x (Int.dvd_refl _)
theorem lw_add_r(n x y:Int):lw n (x+lw n y)=lw n (x+y):=by unfold lw;exact Int.add_emod_emod ..
def sg(n a b:Int):Int:=if 2^(n-1).toNat≤lw n (b-a) then lw n (b-a)-2^n.toNat else lw n (b-a)
def offK(k:Int):Int:=2^(k-3).toNat-1
def lsbV(width r k l:Int):Int:=lw width (r-offK k+lw k (l-(r-offK k)))
def jD(width:Int):Bool:=decide (width=8∨width=16∨width=32)
def xD(width v:Int):Bool:=decide (0≤v∧v<2^width.toNat)
def kg(width r k l:Int):Int×Int :=
 if jD width then(if k<3∨k > width∨xD width r=false∨xD k l=false then(0,3) else(lsbV width r k l,0)) else(0,7)
attribute [irreducible] lw
open Go.RowKit
variable {G:Nat→AV}
theorem svalid_c(n:Int)(h1:1≤n)(h2:n≤32):LP Tryz.prog G 161 [iAV n] [] (fun _=>(.bool true,[])):=by
 refine goW [] Tryz.func161 rfl ?_
 conv=>whnf
 repeat'((first|refine T.s ?_|((first|apply goB|apply AB.dec|apply AB.gen)<;>intro h<;>try(exfalso;omega))|refine LQ.mk fun r=>?_|exact T.z|fail)<;>conv=>whnf)
 all_goals(try dsimp only)
 all_goals
   (show RL _ _ _;refine goR ?_)
   simp[qr]<;>omega
theorem xQ(n x:Int)(h1:1≤n)(h2:n≤32):LP Tryz.prog G 164 [iAV n,iAV x] [] (fun _=>(iAV (lw n x),[])):=by
 refine goW [] Tryz.func164 rfl ?_
 conv=>whnf
 repeat'((first|(show LC _ _ _ _ _ _;first|refine LC.pure (svalid_c _ h1 h2) ?_|refine goE ?_)|refine T.s ?_|((first|apply goB|apply AB.dec|apply AB.gen)<;>intro h<;>try(exfalso;omega))|refine LQ.mk fun r=>?_|exact T.z|fail)<;>conv=>whnf)
 all_goals(try dsimp only)
 (show RL _ _ _;refine goR ?_)
 exact congrArg iAV (low_e x h2)
theorem sdist_c(n a b:Int)(h1:1≤n)(h2:n≤32):LP Tryz.prog G 162 [iAV n,iAV a,iAV b] [] (fun _=>(iAV (lw n (b-a)),[])):=by
 refine goW [] Tryz.func162 rfl ?_
 conv=>whnf
 repeat'((first|(show LC _ _ _ _ _ _;first|refine LC.pure (xQ _ _ h1 h2) ?_|refine goE ?_)|refine T.s ?_|((first|apply goB|apply AB.dec|apply AB.gen)<;>intro h<;>try(exfalso;omega))|refine LQ.mk fun r=>?_|exact T.z|fail)<;>conv=>whnf)
 all_goals(try dsimp only)
 (show RL _ _ _;refine goR ?_)
 exact congrArg iAV (yx _ h2)
theorem shalf_c(n:Int)(h1:1≤n)(h2:n≤32):LP Tryz.prog G 163 [iAV n] [] (fun _=>(iAV (2^(n-1).toNat),[])):=by
 refine goW [] Tryz.func163 rfl ?_
 conv=>whnf
 repeat'((first|refine T.s ?_|((first|apply goB|apply AB.dec|apply AB.gen)<;>intro h<;>try(exfalso;omega))|refine LQ.mk fun r=>?_|exact T.z|fail)<;>conv=>whnf)
 all_goals(try dsimp only)
 have e:q7 .sub .i64 n 1=n-1:=by(exact T.num)
 (show RL _ _ _;refine goR ?_)
 rw[e]
 exact congrArg iAV (shl1 (by omega))
theorem sg_e{n:Int}(h1:1≤n)(h2:n≤32)(a b:Int)(h:2^(n-1).toNat≤lw n (b-a)):q7 .sub .i64 (lw n (b-a)) (IntKind.i64.wrap (1*2^min n.toNat 64))=sg n a b:=by
 have h3:=y0 n (b-a)
 have h4:=pw_le (m:=32) h2
 rw[shl1 h2]
 unfold sg
 rw[if_pos h]
 show IntKind.i64.wrap _=_
 rw[IntKind.wrap_i64]
 omega
theorem xG(n a b:Int)(h1:1≤n)(h2:n≤32):LP Tryz.prog G 118 [iAV n,iAV a,iAV b] [] (fun _=>(iAV (sg n a b),[])):=by
 refine goW [] Tryz.func118 rfl ?_
 conv=>whnf
 repeat'((first|(show LC _ _ _ _ _ _;first|refine LC.pure (svalid_c _ h1 h2) ?_|refine LC.pure (sdist_c _ _ _ h1 h2) ?_|refine LC.pure (shalf_c _ h1 h2) ?_|refine goE ?_)|refine T.s ?_|((first|apply goB|apply AB.dec|apply AB.gen)<;>intro h<;>try(exfalso;omega))|refine LQ.mk fun r=>?_|exact T.z|fail)<;>conv=>whnf)
 all_goals(try dsimp only)
 · (show RL _ _ _;refine goR ?_)
   exact congrArg iAV (sg_e h1 h2 a b (by omega))
 · (show RL _ _ _;refine goR ?_)
   unfold sg
   rw[if_neg (by omega)]
   try rfl
open Go.RowKit
variable {G:Nat→AV}
def j0(n m:Int):Int:=if m<1 then 0 else if n.tmod m<0 then IntKind.i64.wrap (n.tmod m+m) else n.tmod m
theorem mod_c(n m:Int):LP Tryz.prog G 13 [iAV n,iAV m] [] (fun _=>(iAV (j0 n m),[])):=by
 refine goW [] Tryz.func13 rfl ?_
 conv=>whnf
 repeat'((first|refine T.s ?_|((first|apply goB|apply AB.dec|apply AB.gen)<;>intro h<;>try(exfalso;omega))|refine LQ.mk fun r=>?_|exact T.z|fail)<;>conv=>whnf)
 all_goals(try dsimp only)
 all_goals
   (show RL _ _ _;refine goR ?_)
   unfold j0
   (repeat first|rw[if_pos (by first|assumption|omega)]|rw[if_neg (by first|assumption|omega)])
   rfl
def xg(t:List Int)(a:Nat):Pl:=⟨56,[iv t,iAV a]⟩
theorem light_c(t:List Int):LP Tryz.prog G 7 [iv t] [] (fun _=>(.bool (decide (t.length≤400)),[])):=by
 refine goW [] Tryz.func7 rfl ?_
 conv=>whnf
 repeat'((first|refine T.s ?_|((first|apply goB|apply AB.dec|apply AB.gen)<;>intro h<;>try(exfalso;omega))|refine LQ.mk fun r=>?_|exact T.z|fail)<;>conv=>whnf)
 all_goals(try dsimp only)
 (show RL _ _ _;refine goR ?_)
 simp[qr]
 omega
theorem roll_c(t:List Int):LP Tryz.prog G 9 [iv t] [] (fun q=>(.ptr q 0,[(q,xg t 0)])):=by
 refine goW [] Tryz.func9 rfl ?_
 conv=>whnf
 repeat'((first|refine T.s ?_|((first|apply goB|apply AB.dec|apply AB.gen)<;>intro h<;>try(exfalso;omega))|refine LQ.mk fun r=>?_|exact T.z|fail)<;>conv=>whnf)
 all_goals(try dsimp only)
 refine RL.own r ?_ ?_ ?_
 · rfl
 · (repeat first|refine goH ?_|apply LH.here|apply LH.next);trivial
 · (repeat' first|exact LB.nil|(with_reducible exact LB.refl)|(apply LB.cons;(repeat first|refine goH ?_|apply LH.here|apply LH.next);refine And.intro ?_ ?_;(focus(try(first|(with_reducible rfl)|(refine congrArg (Pl.mk _) ?_;(first|rfl|(simp;done)))|rfl|(with_reducible refine congrArg (Pl.mk _) ?_))))))
def qi(t:List Int)(a:Nat)(n:Int):Int:=if a<t.length then j0 (t.getD a 0) n else 0
def qj(t:List Int)(a:Nat):Nat:=if a<t.length then a+1 else a
theorem modR_lt(n m:Int)(h0:0<m)(h1:m<4611686018427387904):0≤j0 n m∧j0 n m<m:=by
 unfold j0
 rw[if_neg (by omega)]
 have h2:n.tmod m<m:=Int.tmod_lt_of_pos n h0
 have h3 : -m<n.tmod m:=by
   have:=Int.lt_tmod_of_pos n h0
   omega
 split
 · rw[IntKind.wrap_i64];omega
 · omega
theorem jS(t:List Int)(a:Nat)(m:Int)(h0:0<m)(h1:m<4611686018427387904):0≤qi t a m∧qi t a m<m:=by
 unfold qi
 split
 · exact modR_lt _ _ h0 h1
 · omega
theorem kS(t:List Int)(a:Nat)(n:Int)(ht:t.length≤400)(p:Nm):LP Tryz.prog G 23 [.ptr p 0,iAV n] [(p,xg t a)] (fun _=>(iAV (qi t a n),[(p,xg t (qj t a))])):=by
 refine goW [] Tryz.func23 rfl ?_
 conv=>whnf
 repeat'((first|exact Nm.b 0|(show LC _ _ _ _ _ _;first|refine LC.pure (mod_c _ _) ?_|refine goE ?_)|refine T.s ?_|((first|apply goB|apply AB.dec|apply AB.gen)<;>intro h<;>try(exfalso;omega))|refine LQ.mk fun r=>?_|(show SWpL _ _ _ _ _ _ _;first|(refine goD tQ qc 1 [] [0,1,2,3,4,5,6,7,8,9] [] (by kernel_rfl) ?_)|(refine goD tQ qc 4 [] [0,1,2,3,4,5,6,7,8,9,10,11,12,13] [] (by kernel_rfl) ?_))|exact T.z|fail)<;>conv=>whnf)
 all_goals(try dsimp only)
 · have e1:qj t a=a:=by unfold qj;(repeat first|rw[if_pos (by first|assumption|omega)]|rw[if_neg (by first|assumption|omega)])
   have e2:qi t a n=0:=by unfold qi;(repeat first|rw[if_pos (by first|assumption|omega)]|rw[if_neg (by first|assumption|omega)])
   rw[e1,e2]
   (show RL _ _ _;refine goR ?_)
   rfl
 · have e1:qj t a=a+1:=by unfold qj;(repeat first|rw[if_pos (by first|assumption|omega)]|rw[if_neg (by first|assumption|omega)])
   have e2:qi t a n=j0 (t.getD a 0) n:=by unfold qi;(repeat first|rw[if_pos (by first|assumption|omega)]|rw[if_neg (by first|assumption|omega)])
   have h1:q7 .add .i64 (a:Int) 1=((a+1:Nat):Int):=by(exact T.num)
   have h2:q7 .sub .i64 ((a+1:Nat):Int) 1=(a:Int):=by(exact T.num)
   rw[e1,e2,h1,h2]
   (show RL _ _ _;refine goR ?_)
   simp[iAV]
open Go.RowKit
variable {G:Nat→AV}
def kF(t:List Int)(a:Nat)(n:Int):Bool:=qr .eql (qi t a n) (q7 .sub .i64 n 1)
theorem one_c(t:List Int)(a:Nat)(n:Int)(ht:t.length≤400)(p:Nm):LP Tryz.prog G 11 [.ptr p 0,iAV n] [(p,xg t a)] (fun _=>(.bool (kF t a n),[(p,xg t (qj t a))])):=by
 refine goW [] Tryz.func11 rfl ?_
 conv=>whnf
 repeat'((first|(show LC _ _ _ _ _ _;first|(apply LC.upd (kS t _ _ ht _);(repeat first|refine goH ?_|apply LH.here|apply LH.next);refine⟨rfl,?_⟩)|refine goE ?_)|refine T.s ?_|((first|apply goB|apply AB.dec|apply AB.gen)<;>intro h<;>try(exfalso;omega))|refine LQ.mk fun r=>?_|exact T.z|fail)<;>conv=>whnf)
 all_goals(try dsimp only)
 (show RL _ _ _;refine goR ?_)
 rfl
structure Ky where
 s:List UInt8
 g:List UInt8
 n:Int
 b:Int
 d:Int
def Ky.av(k:Ky):AV:=.agg [bv k.s,bv k.g,iAV k.n,iAV k.b,iAV k.d]
def adv(t:List Int)(a:Nat):Nat→Nat
 | 0=>a
 | k+1=>qj t (adv t a k)
def zd(t:List Int)(a k:Nat):List UInt8:=(List.range k).map fun j=>b8 (qi t (adv t a j) 256)
@[simp] theorem bytesL_len(t:List Int)(a k:Nat):(zd t a k).length=k:=by simp[zd]
def jG(t:List Int)(a:Nat)(most:Int):Nat:=(qi t a (q7 .add .i64 most 1)).toNat
theorem dbytes_c(t:List Int)(a:Nat)(most:Int)(h0:0≤most)(h1:most≤1000)(ht:t.length≤400)(p:Nm):LP Tryz.prog G 26 [.ptr p 0,iAV most] [(p,xg t a)] (fun _=>(bv (zd t (qj t a) (jG t a most)),[(p,xg t (adv t (qj t a) (jG t a most)))])):=by
 have hm:q7 .add .i64 most 1=most+1:=by(exact T.num)
 have hb:=jS t a (q7 .add .i64 most 1) (by omega) (by omega)
 have hN:qi t a (q7 .add .i64 most 1)=(jG t a most:Int):=by unfold jG;omega
 refine goW [] Tryz.func26 rfl ?_
 conv=>whnf
 repeat'((first|(show LC _ _ _ _ _ _;first|(apply LC.upd (kS t _ _ ht _);(repeat first|refine goH ?_|apply LH.here|apply LH.next);refine⟨rfl,?_⟩)|refine goE ?_)|refine T.s ?_|((first|apply goB|apply AB.dec|apply AB.gen)<;>intro h<;>try(exfalso;omega))|refine LQ.mk fun r=>?_|(show SWpL _ _ _ (.loop _) _ _ _;first|(apply goO tQ [] 3 (S:=Nat×Nm) [0] (fun(i,q)=>⟨[(5,.vw q 0 i 1),(6,.int .i64 ((jG t a most:Int)-(i:Int)))],[(p,xg t (adv t (qj t a) i)),(q,⟨5,(zd t (qj t a) i).map bAV⟩)],i≤jG t a most,jG t a most-i⟩) ((0,q)) (by rfl);(focus((repeat' first|exact trivial|(refine And.intro ?_ ?_)|exact LB.nil|(with_reducible exact LB.refl)|(apply LB.cons;(repeat first|refine goH ?_|apply LH.here|apply LH.next);refine And.intro ?_ ?_;(focus(try(first|(with_reducible rfl)|(refine congrArg (Pl.mk _) ?_;(first|rfl|(simp[List.range_succ,qS,zd];done)))|rfl|(with_reducible refine congrArg (Pl.mk _) ?_)))))|assumption|(first|(focus(apply Eq.trans;(conv=>lhs;whnf);(conv=>rhs;whnf);done))|rfl|((conv=>lhs;whnf);first|rfl|(refine congrArg (AV.int _) ?_;(exact T.num))|(refine congrArg AV.bool ?_;(exact T.num))|(refine vwc ?_;first|(exact T.num)|(first|rfl|(simp[List.range_succ,qS,zd];done)))|(refine q9 ?_ ?_<;>first|(exact T.num)|(first|rfl|(simp[List.range_succ,qS,zd];done)))|(first|rfl|(simp[List.range_succ,qS,zd];done))))|(exact T.num)|(dsimp only;(exact T.num))|(first|rfl|(simp[List.range_succ,qS,zd];done)));done));rintro⟨i,q⟩ hok;(try dsimp only at hok)))|(show SWpL _ _ _ _ _ _ _;first|refine SWpL.adopt 5 1 5 (by rfl) fun q=>?_)|(show AtL _ _ _ _ _ _ _ _ _ _;first|(apply AtL.mk' (id:=3) (S:=Nat×Nm) ((i+1,_));(repeat' first|exact trivial|(refine And.intro ?_ ?_)|exact LB.nil|(with_reducible exact LB.refl)|(apply LB.cons;(repeat first|refine goH ?_|apply LH.here|apply LH.next);refine And.intro ?_ ?_;(focus(try(first|(with_reducible rfl)|(refine congrArg (Pl.mk _) ?_;(first|rfl|(simp[List.range_succ,qS,zd];done)))|rfl|(with_reducible refine congrArg (Pl.mk _) ?_)))))|assumption|(first|(focus(apply Eq.trans;(conv=>lhs;whnf);(conv=>rhs;whnf);done))|rfl|((conv=>lhs;whnf);first|rfl|(refine congrArg (AV.int _) ?_;(exact T.num))|(refine congrArg AV.bool ?_;(exact T.num))|(refine vwc ?_;first|(exact T.num)|(first|rfl|(simp[List.range_succ,qS,zd];done)))|(refine q9 ?_ ?_<;>first|(exact T.num)|(first|rfl|(simp[List.range_succ,qS,zd];done)))|(first|rfl|(simp[List.range_succ,qS,zd];done))))|(exact T.num)|(dsimp only;(exact T.num))|(first|rfl|(simp[List.range_succ,qS,zd];done)));done)|(apply AtL.mk' (id:=3) (S:=Nat×Nm) ((i+1,_));(repeat' first|exact trivial|(refine And.intro ?_ ?_)|exact LB.nil|(with_reducible exact LB.refl)|(apply LB.cons;(repeat first|refine goH ?_|apply LH.here|apply LH.next);refine And.intro ?_ ?_;(focus(try(first|(with_reducible rfl)|(refine congrArg (Pl.mk _) ?_;(first|rfl|(simp[List.range_succ,qS,zd];done)))|rfl|(with_reducible refine congrArg (Pl.mk _) ?_)))))|assumption|(first|(focus(apply Eq.trans;(conv=>lhs;whnf);(conv=>rhs;whnf);done))|rfl|((conv=>lhs;whnf);first|rfl|(refine congrArg (AV.int _) ?_;(exact T.num))|(refine congrArg AV.bool ?_;(exact T.num))|(refine vwc ?_;first|(exact T.num)|(first|rfl|(simp[List.range_succ,qS,zd];done)))|(refine q9 ?_ ?_<;>first|(exact T.num)|(first|rfl|(simp[List.range_succ,qS,zd];done)))|(first|rfl|(simp[List.range_succ,qS,zd];done))))|(exact T.num)|(dsimp only;(exact T.num))|(first|rfl|(simp[List.range_succ,qS,zd];done)))))|exact T.z|refine⟨_,rfl,rfl,?_⟩|fail)<;>conv=>whnf)
 all_goals(try dsimp only)
 have hi:jG t a most=i:=by omega
 rw[hi]
 (refine RL.rowF ?_;(repeat first|refine goH ?_|apply LH.here|apply LH.next);refine And.intro ?_ (And.intro ?_ ?_);rotate_left;rotate_left;(focus((repeat' first|exact LB.nil|(with_reducible exact LB.refl)|(apply LB.cons;(repeat first|refine goH ?_|apply LH.here|apply LH.next);refine And.intro ?_ ?_;(focus(try(first|(with_reducible rfl)|(refine congrArg (Pl.mk _) ?_;(first|rfl|(simp;done)))|rfl|(with_reducible refine congrArg (Pl.mk _) ?_)))))))))
 · rfl
 · simp
end Go.Proofs.YtndpmpnmkpaklaaGreatDoor
