/-
  Contracts of the functions that the laws reach.
-/
import Derived.Test.YtndpmpnmkpaklaaGreatDoorHr16
set_option maxHeartbeats 2000000
set_option linter.all false
namespace Go.Proofs.YtndpmpnmkpaklaaGreatDoor
open Go.RowKit
variable {G:Nat→AV}
theorem sg_rng(n a b:Int)(h1:1≤n)(h2:n≤32) : -2147483648≤sg n a b∧sg n a b<2147483648:=by
 have h3:=y0 n (b-a)
 have h4:=pw_le (n:=n-1) (m:=31) (by omega)
 have h5:(2:Int)^n.toNat=2*2^(n-1).toNat:=by
   rw[show n.toNat=(n-1).toNat+1 by omega,Int.pow_succ];omega
 unfold sg
 split<;>omega
theorem learnR_n{a b:Hd}(h:¬(a.ok=true∧b.ok=true∧a.k=2∧qy a b=true)):zC a b=Dy.z:=if_neg h
theorem tdiv_rng{t s:Int}(h : -2147483648≤t∧t<2147483648) : -2147483648≤t.tdiv s∧t.tdiv s≤2147483648:=by
 have h1:(t.tdiv s).natAbs≤t.natAbs:=by rw[Int.natAbs_tdiv];exact Nat.div_le_self ..
 omega
open Go.RowKit
variable {G:Nat→AV}
def kO(n:Int):Option Int:=if n=3 then some 3 else if n=7 then some 9 else if n=8 then some 7 else if n=16 then some 4129 else if n=24 then some 8801531 else none
def gm:Nat→AV:=fun g=>match Nat.beq g 0 with|true=>.ip [.mp kO]|false=>.any
def xZ(n:Int):Bool:=decide (n=3∨n=7∨n=8∨n=16∨n=24)
theorem cpoly_y(n:Int)(h:xZ n=true):LP Tryz.prog gm 186 [iAV n] [] (fun _=>(.tup [iAV (kN n),.bool true],[])):=by
 have e:kO n=some (kN n):=by
   simp only[xZ,decide_eq_true_eq] at h
   rcases h with rfl|rfl|rfl|rfl|rfl<;>rfl
 refine goW [] Tryz.func186 rfl ?_
 conv=>whnf
 repeat'((first|(show AFind _ _;refine AFind.is _ (e) ?_)|refine T.s ?_|((first|apply goB|apply AB.dec|apply AB.gen)<;>intro h<;>try(exfalso;omega))|refine LQ.mk fun r=>?_|exact T.z|fail)<;>conv=>whnf)
 all_goals(try dsimp only)
 all_goals
   (show RL _ _ _;refine goR ?_)
   rfl
theorem cpoly_y'(n:Int)(h:xZ n=true)(p:Nat)(hp:kN n=p):LP Tryz.prog gm 186 [iAV n] [] (fun _=>(.tup [iAV p,.bool true],[])):=hp▸cpoly_y n h
theorem cpoly_n(n:Int)(h:xZ n=false):LP Tryz.prog gm 186 [iAV n] [] (fun _=>(.tup [iAV 0,.bool false],[])):=by
 have e:kO n=none:=by
   simp only[xZ,decide_eq_false_iff_not] at h
   unfold kO
   repeat rw[if_neg (by omega)]
 refine goW [] Tryz.func186 rfl ?_
 conv=>whnf
 repeat'((first|(show AFind _ _;refine AFind.is _ (e) ?_)|refine T.s ?_|((first|apply goB|apply AB.dec|apply AB.gen)<;>intro h<;>try(exfalso;omega))|refine LQ.mk fun r=>?_|exact T.z|fail)<;>conv=>whnf)
 all_goals(try dsimp only)
 all_goals
   (show RL _ _ _;refine goR ?_)
   rfl
theorem poly_lt{n:Int}(h:xZ n=true):(kN n).toNat<2^n.toNat∧(((kN n).toNat:Nat):Int)=kN n:=by
 simp only[xZ,decide_eq_true_eq] at h
 rcases h with rfl|rfl|rfl|rfl|rfl
 · exact⟨by show 3<8;omega,rfl⟩
 · exact⟨by show 9<128;omega,rfl⟩
 · exact⟨by show 7<256;omega,rfl⟩
 · exact⟨by show 4129<65536;omega,rfl⟩
 · exact⟨by show 8801531<16777216;omega,rfl⟩
theorem dec7{j:Nat}(h:j≤8):q7 .sub .i64 (7-(j:Int)) 1=7-((j+1:Nat):Int):=by(exact T.num)
theorem inc1{i:Nat}(h:i<1000000):q7 .add .i64 (i:Int) 1=((i+1:Nat):Int):=by(exact T.num)
theorem crc8{k p r i j:Nat}{l:List UInt8}(h1:(i:Int)<(l.length:Int))(h2:¬(0:Int)≤7-(j:Int))(h3:j≤8):((wc k p (kt k p r (l.take i)) (l.getD i 0).toNat j:Nat):Int)=((kt k p r (l.take (i+1)):Nat):Int):=by
 rw[crcL_take _ _ _ _ _ (by omega),show j=8 by omega]
theorem cnext_c(n:Int)(h:xZ n=true)(r0:Nat)(hr:r0<2^n.toNat)(l:List UInt8)(hl:l.length≤1000000):LP Tryz.prog gm 187 [iAV n,iAV r0,bv l] [] (fun _=>(.tup [iAV (kt n.toNat (kN n).toNat r0 l:Nat),iAV 0],[])):=by
 have hn:3≤n∧n≤24:=by simp only[xZ,decide_eq_true_eq] at h;omega
 have hs:=shl1 (n:=n) (by omega)
 have hr1:(r0:Int)<2^n.toNat:=by exact_mod_cast hr
 have hs':IntKind.i64.wrap (1*2^min n.toNat IntKind.i64.bits)=2^n.toNat:=hs
 have hp:=poly_lt h
 have hn:1≤n∧n≤24:=by omega
 have hb:∀i,(l.getD i 0).toNat<256:=fun i=>(l.getD i 0).toNat_lt
 obtain⟨p,hpe⟩:∃p:Nat,(kN n).toNat=p:=⟨_,rfl⟩
 rw[hpe] at hp ⊢
 refine goW [] Tryz.func187 rfl ?_
 conv=>whnf
 repeat'((first|exact Nm.b 0|(show LC _ _ _ _ _ _;first|refine LC.pure (cpoly_y' _ h p hp.2.symm) ?_|refine goE ?_)|(show AC _ _ _;first|(refine AC.idx (i) (0) ?_ ?_ ?_;(focus(first|exact rfl|(simp;done)|(simp;omega)));(focus(first|omega|exact T.side))))|refine T.s ?_|((first|apply goB|apply AB.dec|apply AB.gen)<;>intro h<;>try(exfalso;omega))|refine LQ.mk fun r=>?_|(show SWpL _ _ _ (.loop _) _ _ _;first|(apply goO tQ [] 7 (S:=Nat) [0,8,31,32] (fun i=>⟨[(33,.int .i64 i),(1,.int .i64 (kt n.toNat p r0 (l.take i):Nat))],[],i≤l.length,l.length-i⟩) (0) (by rfl);(focus((repeat' first|exact trivial|(refine And.intro ?_ ?_)|exact LB.nil|(with_reducible exact LB.refl)|(apply LB.cons;(repeat first|refine goH ?_|apply LH.here|apply LH.next);refine And.intro ?_ ?_;(focus(try(first|(with_reducible rfl)|(refine congrArg (Pl.mk _) ?_;(first|rfl|(simp;done)))|rfl|(with_reducible refine congrArg (Pl.mk _) ?_)))))|assumption|((conv=>lhs;whnf);refine congrArg (AV.int _) ?_;first|exact dec7 hok|exact inc1 (by omega)|(rw[List.take_zero,jZ];done)|(rw[j9];done)|(with_reducible exact crc_t hn hp.1 (zE hp.1 _ hr) (hb _) (by assumption) h)|(with_reducible exact crc_f hn hp.1 (zE hp.1 _ hr) (hb _) (by assumption) h)|(with_reducible exact crc8 (by assumption) (by assumption) hok))|(first|(focus(apply Eq.trans;(conv=>lhs;whnf);(conv=>rhs;whnf);done))|rfl|((conv=>lhs;whnf);first|rfl|(refine congrArg (AV.int _) ?_;(exact T.num))|(refine congrArg AV.bool ?_;(exact T.num))|(refine vwc ?_;first|(exact T.num)|(first|rfl|(simp;done)))|(refine q9 ?_ ?_<;>first|(exact T.num)|(first|rfl|(simp;done)))|(first|rfl|(simp;done))))|(exact T.num)|(dsimp only;(exact T.num))|(first|rfl|(simp;done)));done));rintro i hok;(try dsimp only at hok))|(apply goO tQ [] 10 (S:=Nat) [0,8,11,31,32,33] (fun j=>⟨[(12,.int .i64 (7-(j:Int))),(1,.int .i64 (wc n.toNat p (kt n.toNat p r0 (l.take i)) (l.getD i 0).toNat j:Nat))],[],j≤8,8-j⟩) (0) (by rfl);(focus((repeat' first|exact trivial|(refine And.intro ?_ ?_)|exact LB.nil|(with_reducible exact LB.refl)|(apply LB.cons;(repeat first|refine goH ?_|apply LH.here|apply LH.next);refine And.intro ?_ ?_;(focus(try(first|(with_reducible rfl)|(refine congrArg (Pl.mk _) ?_;(first|rfl|(simp;done)))|rfl|(with_reducible refine congrArg (Pl.mk _) ?_)))))|assumption|((conv=>lhs;whnf);refine congrArg (AV.int _) ?_;first|exact dec7 hok|exact inc1 (by omega)|(rw[List.take_zero,jZ];done)|(rw[j9];done)|(with_reducible exact crc_t hn hp.1 (zE hp.1 _ hr) (hb _) (by assumption) h)|(with_reducible exact crc_f hn hp.1 (zE hp.1 _ hr) (hb _) (by assumption) h)|(with_reducible exact crc8 (by assumption) (by assumption) hok))|(first|(focus(apply Eq.trans;(conv=>lhs;whnf);(conv=>rhs;whnf);done))|rfl|((conv=>lhs;whnf);first|rfl|(refine congrArg (AV.int _) ?_;(exact T.num))|(refine congrArg AV.bool ?_;(exact T.num))|(refine vwc ?_;first|(exact T.num)|(first|rfl|(simp;done)))|(refine q9 ?_ ?_<;>first|(exact T.num)|(first|rfl|(simp;done)))|(first|rfl|(simp;done))))|(exact T.num)|(dsimp only;(exact T.num))|(first|rfl|(simp;done)));done));rintro j hok;(try dsimp only at hok)))|(show SWpL _ _ _ _ _ _ _;first|(refine goD tQ qc 12 [] [0,1,2,3,4,5,6,7,8,9,10] [] (by kernel_rfl) ?_))|(show AtL _ _ _ _ _ _ _ _ _ _;first|(apply AtL.mk' (id:=7) (S:=Nat) (i+1);(repeat' first|exact trivial|(refine And.intro ?_ ?_)|exact LB.nil|(with_reducible exact LB.refl)|(apply LB.cons;(repeat first|refine goH ?_|apply LH.here|apply LH.next);refine And.intro ?_ ?_;(focus(try(first|(with_reducible rfl)|(refine congrArg (Pl.mk _) ?_;(first|rfl|(simp;done)))|rfl|(with_reducible refine congrArg (Pl.mk _) ?_)))))|assumption|((conv=>lhs;whnf);refine congrArg (AV.int _) ?_;first|exact dec7 hok|exact inc1 (by omega)|(rw[List.take_zero,jZ];done)|(rw[j9];done)|(with_reducible exact crc_t hn hp.1 (zE hp.1 _ hr) (hb _) (by assumption) h)|(with_reducible exact crc_f hn hp.1 (zE hp.1 _ hr) (hb _) (by assumption) h)|(with_reducible exact crc8 (by assumption) (by assumption) hok))|(first|(focus(apply Eq.trans;(conv=>lhs;whnf);(conv=>rhs;whnf);done))|rfl|((conv=>lhs;whnf);first|rfl|(refine congrArg (AV.int _) ?_;(exact T.num))|(refine congrArg AV.bool ?_;(exact T.num))|(refine vwc ?_;first|(exact T.num)|(first|rfl|(simp;done)))|(refine q9 ?_ ?_<;>first|(exact T.num)|(first|rfl|(simp;done)))|(first|rfl|(simp;done))))|(exact T.num)|(dsimp only;(exact T.num))|(first|rfl|(simp;done)));done)|(apply AtL.mk' (id:=10) (S:=Nat) (j+1);(repeat' first|exact trivial|(refine And.intro ?_ ?_)|exact LB.nil|(with_reducible exact LB.refl)|(apply LB.cons;(repeat first|refine goH ?_|apply LH.here|apply LH.next);refine And.intro ?_ ?_;(focus(try(first|(with_reducible rfl)|(refine congrArg (Pl.mk _) ?_;(first|rfl|(simp;done)))|rfl|(with_reducible refine congrArg (Pl.mk _) ?_)))))|assumption|((conv=>lhs;whnf);refine congrArg (AV.int _) ?_;first|exact dec7 hok|exact inc1 (by omega)|(rw[List.take_zero,jZ];done)|(rw[j9];done)|(with_reducible exact crc_t hn hp.1 (zE hp.1 _ hr) (hb _) (by assumption) h)|(with_reducible exact crc_f hn hp.1 (zE hp.1 _ hr) (hb _) (by assumption) h)|(with_reducible exact crc8 (by assumption) (by assumption) hok))|(first|(focus(apply Eq.trans;(conv=>lhs;whnf);(conv=>rhs;whnf);done))|rfl|((conv=>lhs;whnf);first|rfl|(refine congrArg (AV.int _) ?_;(exact T.num))|(refine congrArg AV.bool ?_;(exact T.num))|(refine vwc ?_;first|(exact T.num)|(first|rfl|(simp;done)))|(refine q9 ?_ ?_<;>first|(exact T.num)|(first|rfl|(simp;done)))|(first|rfl|(simp;done))))|(exact T.num)|(dsimp only;(exact T.num))|(first|rfl|(simp;done)));done)|(apply AtL.mk' (id:=7) (S:=Nat) (i+1);(repeat' first|exact trivial|(refine And.intro ?_ ?_)|exact LB.nil|(with_reducible exact LB.refl)|(apply LB.cons;(repeat first|refine goH ?_|apply LH.here|apply LH.next);refine And.intro ?_ ?_;(focus(try(first|(with_reducible rfl)|(refine congrArg (Pl.mk _) ?_;(first|rfl|(simp;done)))|rfl|(with_reducible refine congrArg (Pl.mk _) ?_)))))|assumption|((conv=>lhs;whnf);refine congrArg (AV.int _) ?_;first|exact dec7 hok|exact inc1 (by omega)|(rw[List.take_zero,jZ];done)|(rw[j9];done)|(with_reducible exact crc_t hn hp.1 (zE hp.1 _ hr) (hb _) (by assumption) h)|(with_reducible exact crc_f hn hp.1 (zE hp.1 _ hr) (hb _) (by assumption) h)|(with_reducible exact crc8 (by assumption) (by assumption) hok))|(first|(focus(apply Eq.trans;(conv=>lhs;whnf);(conv=>rhs;whnf);done))|rfl|((conv=>lhs;whnf);first|rfl|(refine congrArg (AV.int _) ?_;(exact T.num))|(refine congrArg AV.bool ?_;(exact T.num))|(refine vwc ?_;first|(exact T.num)|(first|rfl|(simp;done)))|(refine q9 ?_ ?_<;>first|(exact T.num)|(first|rfl|(simp;done)))|(first|rfl|(simp;done))))|(exact T.num)|(dsimp only;(exact T.num))|(first|rfl|(simp;done))))|(apply AtL.mk' (id:=10) (S:=Nat) (j+1);(repeat' first|exact trivial|(refine And.intro ?_ ?_)|exact LB.nil|(with_reducible exact LB.refl)|(apply LB.cons;(repeat first|refine goH ?_|apply LH.here|apply LH.next);refine And.intro ?_ ?_;(focus(try(first|(with_reducible rfl)|(refine congrArg (Pl.mk _) ?_;(first|rfl|(simp;done)))|rfl|(with_reducible refine congrArg (Pl.mk _) ?_)))))|assumption|((conv=>lhs;whnf);refine congrArg (AV.int _) ?_;first|exact dec7 hok|exact inc1 (by omega)|(rw[List.take_zero,jZ];done)|(rw[j9];done)|(with_reducible exact crc_t hn hp.1 (zE hp.1 _ hr) (hb _) (by assumption) h)|(with_reducible exact crc_f hn hp.1 (zE hp.1 _ hr) (hb _) (by assumption) h)|(with_reducible exact crc8 (by assumption) (by assumption) hok))|(first|(focus(apply Eq.trans;(conv=>lhs;whnf);(conv=>rhs;whnf);done))|rfl|((conv=>lhs;whnf);first|rfl|(refine congrArg (AV.int _) ?_;(exact T.num))|(refine congrArg AV.bool ?_;(exact T.num))|(refine vwc ?_;first|(exact T.num)|(first|rfl|(simp;done)))|(refine q9 ?_ ?_<;>first|(exact T.num)|(first|rfl|(simp;done)))|(first|rfl|(simp;done))))|(exact T.num)|(dsimp only;(exact T.num))|(first|rfl|(simp;done)))))|exact T.z|refine⟨_,rfl,rfl,?_⟩|fail)<;>conv=>whnf)
 all_goals(try dsimp only)
 all_goals
   (show RL _ _ _;refine goR ?_)
   rw[List.take_of_length_le (by omega)]
   rfl
def crcO(n:Int)(l:List UInt8):Int×Int:=if xZ n=true then(jp n l,0) else(0,7)
theorem crcO_y{n:Int}(h:xZ n=true)(l:List UInt8):crcO n l=(jp n l,0):=if_pos h
theorem crcO_n{n:Int}(h:xZ n=false)(l:List UInt8):crcO n l=(0,7):=if_neg (by rw[h];decide)
attribute [irreducible] crcO
theorem mask_n{n:Int}(h1:n≤24):q7 .sub .i64 (IntKind.i64.wrap (1*2^min n.toNat IntKind.i64.bits)) 1=((2^n.toNat-1:Nat):Int):=by
 refine(mask_e (by omega)).trans ?_
 have:0<2^n.toNat:=Nat.pow_pos (by decide)
 rw[Int.ofNat_sub this]
 simp
theorem vr(n:Int)(l:List UInt8)(hl:l.length≤1000000):LP Tryz.prog gm 134 [iAV n,bv l] [] (fun _=>(.tup [iAV (crcO n l).1,iAV (crcO n l).2],[])):=by
 cases h:xZ n with
 | true =>
   have hn0:0≤n∧n≤24:=by simp only[xZ,decide_eq_true_eq] at h;omega
   have e:=mask_n hn0.2
   rw[crcO_y h,←crcS_eq]
   refine goW [] Tryz.func134 rfl ?_
   conv=>whnf
   repeat'((first|(show LC _ _ _ _ _ _;(refine LC.eq (args':=[iAV n,iAV ((2^n.toNat-1:Nat):Int),bv l]) (congrArg (fun z=>[iAV n,AV.int .i64 z,bv l]) e) ?_);refine LC.pure (cnext_c n h _ (Nat.sub_lt (Nat.pow_pos (by decide)) (by decide)) l hl) ?_;conv=>whnf)|(show LC _ _ _ _ _ _;first|refine LC.pure (cpoly_y _ h) ?_|refine goE ?_)|refine T.s ?_|((first|apply goB|apply AB.dec|apply AB.gen)<;>intro h<;>try(exfalso;omega))|refine LQ.mk fun r=>?_|exact T.z|fail)<;>conv=>whnf)
   all_goals(try dsimp only)
   (show RL _ _ _;refine goR ?_)
   rfl
 | false =>
   rw[crcO_n h]
   refine goW [] Tryz.func134 rfl ?_
   conv=>whnf
   repeat'((first|(show LC _ _ _ _ _ _;first|refine LC.pure (cpoly_n _ h) ?_|refine goE ?_)|refine T.s ?_|((first|apply goB|apply AB.dec|apply AB.gen)<;>intro h<;>try(exfalso;omega))|refine LQ.mk fun r=>?_|exact T.z|fail)<;>conv=>whnf)
   all_goals(try dsimp only)
   (show RL _ _ _;refine goR ?_)
   rfl
open Go.RowKit
section
variable {P:Program}{G:Nat→AV}{N:Nat}{e:Env}{l:LS}{σ σ0:q8}{w0 w:World}{a:Act}
theorem Rel.adoptP{p:Nm}{j sz:Nat}{t0:TypeId}{cs:List AV}(t:TypeId)(h:Rel G N e σ σ0 w0 a w)(hp:σ p=some ⟨t0,cs⟩)(hj:j<cs.length)(hn:cs.getD j .any=.nils){k:Nat}(hk:σ (.v k)=none) :
   Rel G N e (upd (upd σ p ⟨t0,cs.set j (.vw (.v k) 0 0 sz)⟩) (.v k) ⟨t,[]⟩) σ0 w0 a w:=by
 have hpk:p≠.v k:=fun e=>by subst e;rw[hk] at hp;cases hp
 have hbn:∀b,σ (.b b)=none→(upd (upd σ p ⟨t0,cs.set j (.vw (.v k) 0 0 sz)⟩) (.v k) ⟨t,[]⟩) (.b b)=none:=fun b hb=>by
   rw[qe _ _ (by simp),qe _ _ (fun e=>by subst e;rw[hb] at hp;cases hp)]
   exact hb
 have hst:Stp σ w (upd (upd σ p ⟨t0,cs.set j (.vw (.v k) 0 0 sz)⟩) (.v k) ⟨t,[]⟩) w:=Stp.forget _ _ w hbn
 refine⟨h.n,h.d.mono hst,fun x=>(h.env x).mono hst,⟨fun q c hq=>?_,fun m c hm=>?_,j3 (j3 h.mem.fin _ _) _ _⟩,h.st.trans hst,h.glob.mono hst⟩
 · rw[qe _ _ (by simp)] at hq
   by_cases e:Nm.b q=p
   · subst e
     rw[qx] at hq;cases hq
     obtain⟨cur,k1,k2,k3⟩:=h.mem.pl q _ hp
     refine⟨cur,k1,by simpa using k2,fun i hi=>?_⟩
     have hi2:i<cs.length:=by
       have h5:i<(cs.set j (AV.vw (.v k) 0 0 sz)).length:=hi
       rwa [List.length_set] at h5
     by_cases hij:i=j
     · subst hij
       have k4:=k3 i hi2
       simp only at k4
       rw[hn] at k4
       have e2:(cs.set i (AV.vw (.v k) 0 0 sz)).getD i .any=.vw (.v k) 0 0 sz:=by simp[List.getD_eq_getElem?_getD,hi2]
       show Rd _ w ((cs.set i (AV.vw (.v k) 0 0 sz)).getD i .any) _
       rw[e2]
       generalize cur.getD i undef=u at k4
       cases k4
       exact .vwnil _ _
     · have e2:(cs.set j (AV.vw (.v k) 0 0 sz)).getD i .any=cs.getD i .any:=by
         simp only[List.getD_eq_getElem?_getD]
         rw[List.getElem?_set_ne (by omega)]
       show Rd _ w ((cs.set j (AV.vw (.v k) 0 0 sz)).getD i .any) _
       rw[e2]
       exact(k3 i hi2).mono hst
   · rw[qe _ _ e] at hq
     obtain⟨cur,k1,k2,k3⟩:=h.mem.pl q c hq
     exact⟨cur,k1,k2,fun i hi=>(k3 i hi).mono hst⟩
 · by_cases hmk:m=k
   · subst hmk;rw[qx] at hm;cases hm;rfl
   · rw[qe _ _ (by simp;exact hmk)] at hm
     by_cases e:Nm.v m=p
     · subst e
       have:=h.mem.vl m _ hp
       simp only at this
       rw[this] at hj
       simp at hj
     · rw[qe _ _ e] at hm
       exact h.mem.vl m c hm
theorem SWpL.adoptP(p:Nm)(j sz:Nat)(t:TypeId){c:Code}{Q:Exit→Env→LS→Prop}(h:LH l p fun d s _=>j<d.cs.length∧d.cs.getD j .any=.nils∧∀q,SWpL P G N c Q e ((q,⟨t,[]⟩)::s ⟨d.ty,d.cs.set j (.vw q 0 0 sz)⟩)):SWpL P G N c Q e l:=by
 obtain⟨l1,d,l2,rfl,h1,h2,h3⟩:=h.ex
 refine⟨fun φ hs=>⟨fun σ0 w0 a w hr hok=>?_⟩⟩
 obtain⟨B,hB⟩:=hr.mem.fin
 have hk:=hB B (Nat.le_refl _)
 have hs2:Sep φ (l1++(p,⟨d.ty,d.cs.set j (.vw (.v B) 0 0 sz)⟩)::l2):=hs.set
 have hr2:=hr.adoptP (sz:=sz) t hs.get h1 h2 hk
 rw[hs.set'] at hr2
 have hs3:Sep φ ((.v B,⟨t,[]⟩)::(l1++(p,⟨d.ty,d.cs.set j (.vw (.v B) 0 0 sz)⟩)::l2)):=hs2.new (by
   rw[←hs.set',qe _ _ (fun e=>by rw[e,hs.get] at hk;cases hk)]
   exact hk) _
 exact((h3 (.v B)).run φ hs3).run σ0 w0 a w hr2 hok
end
open Go.RowKit
variable {G:Nat→AV}
theorem jc{α:Type}{g:α→Bool}(l:List α)(i:Nat)(d:α)(h:i<l.length):(l.take (i+1)).all g=((l.take i).all g&&g (l.getD i d)):=by
 rw[List.take_succ_eq_append_getElem h,List.all_append]
 simp[List.getD_eq_getElem?_getD,h]
theorem allg_bad{α:Type}{g:α→Bool}(l:List α)(i:Nat)(d:α)(h:i<l.length)(hb:g (l.getD i d)=false):l.all g=false:=by
 cases hc:l.all g with
 | false=>rfl
 | true =>
   rw[List.all_eq_true] at hc
   have:=hc (l.getD i d) (by simp[List.getD_eq_getElem?_getD,h])
   rw[hb] at this;cases this
theorem yN{α:Type}{g:α→Bool}{l:List α}{i:Nat}(h:l.length≤i)(hk:(l.take i).all g=true):l.all g=true:=by rwa [List.take_of_length_le h] at hk
def fitG(width k v:Int):Bool:=jD width&&(decide (3≤k∧k≤width)&&xD width v)
theorem poly_cb(f:Int):xZ (cbR f)=true:=by
 unfold xZ cbR
 (repeat' split)<;>simp
theorem crcO_cb(f:Int)(l:List UInt8):crcO (cbR f) l=(jp (cbR f) l,0):=crcO_y (poly_cb f) l
theorem headL_le(h:Hd):(qJ h).length≤40:=by rw[zS];split<;>omega
end Go.Proofs.YtndpmpnmkpaklaaGreatDoor
