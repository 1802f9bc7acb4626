/-
  Contracts of the functions that the laws reach.
-/
import Derived.Test.YtndpmpnmkpaklaaGreatDoorHr14
set_option maxHeartbeats 4000000
set_option linter.all false
namespace Go.Proofs.YtndpmpnmkpaklaaGreatDoor
open Go.RowKit
variable {G:Nat→AV}
def fnx(y:Int):Int:=y%65536+y / 65536
theorem xf{y:Int}(h0:0≤y)(h:y≤1000000000000000):q7 .add .i64 (y.tmod 65536) (IntKind.i64.wrap (y.tdiv 65536))=fnx y:=by
 unfold fnx
 rw[Int.tmod_eq_emod_of_nonneg h0,Int.tdiv_eq_ediv_of_nonneg h0]
 (exact T.num)
theorem zu{y x:Int}(h:65535<y)(h2:qZ y=qZ x):qZ (fnx y)=qZ x:=(foldR_step h).trans h2
theorem zt{y:Int}(h:65535<y):0≤fnx y∧fnx y<y:=by unfold fnx;omega
theorem cfold_c(x:Int)(h0:0≤x)(h:x≤1000000000000000):LP Tryz.prog G 212 [iAV x] [] (fun _=>(iAV (qZ x),[])):=by
 refine goW [] Tryz.func212 rfl ?_
 conv=>whnf
 repeat'((first|refine T.s ?_|((first|apply goB|apply AB.dec|apply AB.gen)<;>intro h<;>try(exfalso;omega))|refine LQ.mk fun r=>?_|(show SWpL _ _ _ (.loop _) _ _ _;first|(apply goO tQ [] 3 (S:=Int) [] (fun y=>⟨[(0,.int .i64 y)],[],0≤y∧y≤x∧qZ y=qZ x,y.toNat⟩) (x) (by rfl);(focus((repeat' first|exact trivial|(refine And.intro ?_ ?_)|exact LB.nil|(with_reducible exact LB.refl)|(apply LB.cons;(repeat first|refine goH ?_|apply LH.here|apply LH.next);refine And.intro ?_ ?_;(focus(try(first|(with_reducible rfl)|(refine congrArg (Pl.mk _) ?_;(first|rfl|(simp;done)))|rfl|(with_reducible refine congrArg (Pl.mk _) ?_)))))|assumption|((conv=>lhs;whnf);refine congrArg (AV.int _) ?_;exact xf (by assumption) (by omega))|(exact zu (by assumption) (by assumption))|(have:=zt (y:=y) (by assumption);(try dsimp only);omega)|(first|(focus(apply Eq.trans;(conv=>lhs;whnf);(conv=>rhs;whnf);done))|rfl|((conv=>lhs;whnf);first|rfl|(refine congrArg (AV.int _) ?_;(exact T.num))|(refine congrArg AV.bool ?_;(exact T.num))|(refine vwc ?_;first|(exact T.num)|(first|rfl|(simp;done)))|(refine q9 ?_ ?_<;>first|(exact T.num)|(first|rfl|(simp;done)))|(first|rfl|(simp;done))))|(exact T.num)|(dsimp only;(exact T.num))|(first|rfl|(simp;done)));done));rintro y ⟨hk,hk,hok⟩))|(show AtL _ _ _ _ _ _ _ _ _ _;first|(apply AtL.mk' (id:=3) (S:=Int) (fnx y);(repeat' first|exact trivial|(refine And.intro ?_ ?_)|exact LB.nil|(with_reducible exact LB.refl)|(apply LB.cons;(repeat first|refine goH ?_|apply LH.here|apply LH.next);refine And.intro ?_ ?_;(focus(try(first|(with_reducible rfl)|(refine congrArg (Pl.mk _) ?_;(first|rfl|(simp;done)))|rfl|(with_reducible refine congrArg (Pl.mk _) ?_)))))|assumption|((conv=>lhs;whnf);refine congrArg (AV.int _) ?_;exact xf (by assumption) (by omega))|(exact zu (by assumption) (by assumption))|(have:=zt (y:=y) (by assumption);(try dsimp only);omega)|(first|(focus(apply Eq.trans;(conv=>lhs;whnf);(conv=>rhs;whnf);done))|rfl|((conv=>lhs;whnf);first|rfl|(refine congrArg (AV.int _) ?_;(exact T.num))|(refine congrArg AV.bool ?_;(exact T.num))|(refine vwc ?_;first|(exact T.num)|(first|rfl|(simp;done)))|(refine q9 ?_ ?_<;>first|(exact T.num)|(first|rfl|(simp;done)))|(first|rfl|(simp;done))))|(exact T.num)|(dsimp only;(exact T.num))|(first|rfl|(simp;done)));done)|(apply AtL.mk' (id:=3) (S:=Int) (fnx y);(repeat' first|exact trivial|(refine And.intro ?_ ?_)|exact LB.nil|(with_reducible exact LB.refl)|(apply LB.cons;(repeat first|refine goH ?_|apply LH.here|apply LH.next);refine And.intro ?_ ?_;(focus(try(first|(with_reducible rfl)|(refine congrArg (Pl.mk _) ?_;(first|rfl|(simp;done)))|rfl|(with_reducible refine congrArg (Pl.mk _) ?_)))))|assumption|((conv=>lhs;whnf);refine congrArg (AV.int _) ?_;exact xf (by assumption) (by omega))|(exact zu (by assumption) (by assumption))|(have:=zt (y:=y) (by assumption);(try dsimp only);omega)|(first|(focus(apply Eq.trans;(conv=>lhs;whnf);(conv=>rhs;whnf);done))|rfl|((conv=>lhs;whnf);first|rfl|(refine congrArg (AV.int _) ?_;(exact T.num))|(refine congrArg AV.bool ?_;(exact T.num))|(refine vwc ?_;first|(exact T.num)|(first|rfl|(simp;done)))|(refine q9 ?_ ?_<;>first|(exact T.num)|(first|rfl|(simp;done)))|(first|rfl|(simp;done))))|(exact T.num)|(dsimp only;(exact T.num))|(first|rfl|(simp;done)))))|exact T.z|fail)<;>conv=>whnf)
 all_goals(try dsimp only)
 all_goals
   (show RL _ _ _;refine goR ?_)
   rw[←hok,foldR_id (by assumption) (by assumption)]
   rfl
theorem shl8{c:Nat}(h:c<256):IntKind.i64.wrap (IntKind.i64.wrap (c:Int)*2^min (8:Int).toNat IntKind.i64.bits)=256*(c:Int):=by
 rw[show(2:Int)^min (8:Int).toNat IntKind.i64.bits=256 by decide,IntKind.wrap_i64,IntKind.wrap_i64]
 omega
theorem cadd_e{s w c d:Int}{k:Nat}(h0:0≤s∧s≤65535)(hk:k≤1000000)(hw:0≤w∧w≤65535*(k:Int))(hc:0≤c∧c<256)(hd:0≤d∧d<256):q7 .add .i64 (q7 .add .i64 (s+w) (256*c)) (IntKind.i64.wrap d)=s+(w+(256*c+d)):=by
 (exact T.num)
theorem cadd_e1{s w c:Int}{k:Nat}(h0:0≤s∧s≤65535)(hk:k≤1000000)(hw:0≤w∧w≤65535*(k:Int))(hc:0≤c∧c<256):q7 .add .i64 (s+w) (256*c)=s+(w+(256*c+0)):=by
 (exact T.num)
theorem cstart(F:Int)(l:List UInt8):F=F+zA (l.take (2*0)):=by
 rw[Nat.mul_zero,List.take_zero,wsum_nil,Int.add_zero]
theorem cstep{F:Int}{l:List UInt8}{j:Nat}(hF:0≤F∧F≤65535)(hl:l.length≤1000000)(h:((2*j:Nat):Int)<(l.length:Int)):q7 .add .i64 (q7 .add .i64 (F+zA (l.take (2*j))) (IntKind.i64.wrap (IntKind.i64.wrap ((l.getD (2*j) 0).toNat:Int)*2^min (8:Int).toNat IntKind.i64.bits))) (IntKind.i64.wrap ((l.getD (2*j+1) 0).toNat:Int))=F+zA (l.take (2*(j+1))):=by
 have h1:=(l.getD (2*j) 0).toNat_lt
 have h2:=(l.getD (2*j+1) 0).toNat_lt
 rw[yS l j (by omega),shl8 h1]
 exact cadd_e hF (k:=1000000) (by omega) (jO _ 1000000 (by simp;omega)) (by omega) (by omega)
theorem cstep1{F:Int}{l:List UInt8}{j:Nat}(hF:0≤F∧F≤65535)(hl:l.length≤1000000)(h:((2*j:Nat):Int)<(l.length:Int))(h3:¬q7 .add .i64 ((2*j:Nat):Int) 1<(l.length:Int)):q7 .add .i64 (F+zA (l.take (2*j))) (IntKind.i64.wrap (IntKind.i64.wrap ((l.getD (2*j) 0).toNat:Int)*2^min (8:Int).toNat IntKind.i64.bits))=F+zA (l.take (2*(j+1))):=by
 have h1:=(l.getD (2*j) 0).toNat_lt
 have e:q7 .add .i64 ((2*j:Nat):Int) 1=((2*j:Nat):Int)+1:=by(exact T.num)
 rw[e] at h3
 rw[yS l j (by omega),shl8 h1,show l.getD (2*j+1) 0=0 by rw[List.getD_eq_getElem?_getD,List.getElem?_eq_none (by omega)];rfl]
 exact cadd_e1 hF (k:=1000000) (by omega) (jO _ 1000000 (by simp;omega)) (by omega)
theorem xh{j:Nat}(h:j≤1000000):q7 .add .i64 ((2*j:Nat):Int) 2=((2*(j+1):Nat):Int):=by(exact T.num)
theorem ix1{j:Nat}(h:j≤1000000):(q7 .add .i64 ((2*j:Nat):Int) 1).toNat*1=2*j+1:=by
 have e:q7 .add .i64 ((2*j:Nat):Int) 1=((2*j+1:Nat):Int):=by(exact T.num)
 rw[e];omega
theorem ix2{j n:Nat}(h:j≤1000000)(h2:q7 .add .i64 ((2*j:Nat):Int) 1<(n:Int)):2*j+1<n:=by
 have e:q7 .add .i64 ((2*j:Nat):Int) 1=((2*j+1:Nat):Int):=by(exact T.num)
 rw[e] at h2;omega
theorem cadd_c(s:Int)(l:List UInt8)(h0:0≤s)(h:s≤1000000000)(hl:l.length≤1000000):LP Tryz.prog G 206 [iAV s,bv l] [] (fun _=>(iAV (qZ (s+zA l)),[])):=by
 have hf:=foldR_rng s
 have hw:=jO l 1000000 (by omega)
 have hz:∀j:Nat,2*j≤l.length+1→¬((2*j:Nat):Int)<(l.length:Int)→qZ s+zA (l.take (2*j))=qZ s+zA l:=fun j _ h=>by rw[List.take_of_length_le (by omega)]
 refine goW [] Tryz.func206 rfl ?_
 conv=>whnf
 repeat'((first|(show LC _ _ _ _ _ _;refine LC.eq (congrArg (fun z=>[AV.int .i64 z]) (hz j hok (by assumption))) ?_;refine LC.pure (cfold_c _ (by omega) (by omega)) ?_;conv=>whnf)|(show LC _ _ _ _ _ _;refine LC.pure (cfold_c s h0 (by omega)) ?_;conv=>whnf)|(show AC _ _ _;first|(refine AC.idx (2*j+1) 0 (ix1 (by omega)) ?_ ?_;(focus(exact ix2 (by omega) (by assumption))))|(refine AC.idx (2*j) 0 (Nat.mul_one _) ?_ ?_;(focus omega)))|refine T.s ?_|((first|apply goB|apply AB.dec|apply AB.gen)<;>intro h<;>try(exfalso;omega))|refine LQ.mk fun r=>?_|(show SWpL _ _ _ (.loop _) _ _ _;first|(apply goO tQ [] 3 (S:=Nat) [1] (fun j=>⟨[(6,.int .i64 ((2*j:Nat):Int)),(5,.int .i64 (qZ s+zA (l.take (2*j))))],[],2*j≤l.length+1,l.length+1-j⟩) (0) (by rfl);(focus((repeat' first|exact trivial|(refine And.intro ?_ ?_)|exact LB.nil|(with_reducible exact LB.refl)|(apply LB.cons;(repeat first|refine goH ?_|apply LH.here|apply LH.next);refine And.intro ?_ ?_;(focus(try(first|(with_reducible rfl)|(refine congrArg (Pl.mk _) ?_;(first|rfl|(simp;done)))|rfl|(with_reducible refine congrArg (Pl.mk _) ?_)))))|assumption|((conv=>lhs;whnf);refine congrArg (AV.int _) ?_;first|exact cstart _ _|exact xh (by omega)|exact cstep hf hl (by assumption)|exact cstep1 hf hl (by assumption) (by assumption))|(first|(focus(apply Eq.trans;(conv=>lhs;whnf);(conv=>rhs;whnf);done))|rfl|((conv=>lhs;whnf);first|rfl|(refine congrArg (AV.int _) ?_;(exact T.num))|(refine congrArg AV.bool ?_;(exact T.num))|(refine vwc ?_;first|(exact T.num)|(first|rfl|(simp;done)))|(refine q9 ?_ ?_<;>first|(exact T.num)|(first|rfl|(simp;done)))|(first|rfl|(simp;done))))|(exact T.num)|(dsimp only;(exact T.num))|(first|rfl|(simp;done)));done));rintro j hok;(try dsimp only at hok)))|(show AtL _ _ _ _ _ _ _ _ _ _;first|(apply AtL.mk' (id:=3) (S:=Nat) (j+1);(repeat' first|exact trivial|(refine And.intro ?_ ?_)|exact LB.nil|(with_reducible exact LB.refl)|(apply LB.cons;(repeat first|refine goH ?_|apply LH.here|apply LH.next);refine And.intro ?_ ?_;(focus(try(first|(with_reducible rfl)|(refine congrArg (Pl.mk _) ?_;(first|rfl|(simp;done)))|rfl|(with_reducible refine congrArg (Pl.mk _) ?_)))))|assumption|((conv=>lhs;whnf);refine congrArg (AV.int _) ?_;first|exact cstart _ _|exact xh (by omega)|exact cstep hf hl (by assumption)|exact cstep1 hf hl (by assumption) (by assumption))|(first|(focus(apply Eq.trans;(conv=>lhs;whnf);(conv=>rhs;whnf);done))|rfl|((conv=>lhs;whnf);first|rfl|(refine congrArg (AV.int _) ?_;(exact T.num))|(refine congrArg AV.bool ?_;(exact T.num))|(refine vwc ?_;first|(exact T.num)|(first|rfl|(simp;done)))|(refine q9 ?_ ?_<;>first|(exact T.num)|(first|rfl|(simp;done)))|(first|rfl|(simp;done))))|(exact T.num)|(dsimp only;(exact T.num))|(first|rfl|(simp;done)));done)|(apply AtL.mk' (id:=3) (S:=Nat) (j+1);(repeat' first|exact trivial|(refine And.intro ?_ ?_)|exact LB.nil|(with_reducible exact LB.refl)|(apply LB.cons;(repeat first|refine goH ?_|apply LH.here|apply LH.next);refine And.intro ?_ ?_;(focus(try(first|(with_reducible rfl)|(refine congrArg (Pl.mk _) ?_;(first|rfl|(simp;done)))|rfl|(with_reducible refine congrArg (Pl.mk _) ?_)))))|assumption|((conv=>lhs;whnf);refine congrArg (AV.int _) ?_;first|exact cstart _ _|exact xh (by omega)|exact cstep hf hl (by assumption)|exact cstep1 hf hl (by assumption) (by assumption))|(first|(focus(apply Eq.trans;(conv=>lhs;whnf);(conv=>rhs;whnf);done))|rfl|((conv=>lhs;whnf);first|rfl|(refine congrArg (AV.int _) ?_;(exact T.num))|(refine congrArg AV.bool ?_;(exact T.num))|(refine vwc ?_;first|(exact T.num)|(first|rfl|(simp;done)))|(refine q9 ?_ ?_<;>first|(exact T.num)|(first|rfl|(simp;done)))|(first|rfl|(simp;done))))|(exact T.num)|(dsimp only;(exact T.num))|(first|rfl|(simp;done)))))|exact T.z|refine⟨_,rfl,rfl,?_⟩|fail)<;>conv=>whnf)
 all_goals(try dsimp only)
 all_goals
   (show RL _ _ _;refine goR ?_)
   rw[foldR_add h0 hw.1]
   rfl
theorem csum4_c(l:List UInt8)(hl:l.length≤1000000):LP Tryz.prog G 185 [bv l] [] (fun _=>(iAV (csR l),[])):=by
 have hf:=foldR_rng (zA l)
 refine goW [] Tryz.func185 rfl ?_
 conv=>whnf
 repeat'((first|(show LC _ _ _ _ _ _;first|refine LC.pure (cadd_c 0 l (by decide) (by decide) hl) ?_|refine goE ?_)|refine T.s ?_|((first|apply goB|apply AB.dec|apply AB.gen)<;>intro h<;>try(exfalso;omega))|refine LQ.mk fun r=>?_|exact T.z|fail)<;>conv=>whnf)
 all_goals(try dsimp only)
 (show RL _ _ _;refine goR ?_)
 unfold csR
 rw[Int.zero_add]
 (first|(focus(apply Eq.trans;(conv=>lhs;whnf);(conv=>rhs;whnf);done))|rfl|((conv=>lhs;whnf);first|rfl|(refine congrArg (AV.int _) ?_;(exact T.num))|(refine congrArg AV.bool ?_;(exact T.num))|(refine vwc ?_;first|(exact T.num)|(first|rfl|(simp;done)))|(refine q9 ?_ ?_<;>first|(exact T.num)|(first|rfl|(simp;done)))|(first|rfl|(simp;done))))
open Go.RowKit
variable {G:Nat→AV}
theorem setW_2(x:Int):∀(a:Nat) (l:List UInt8),a+2≤l.length→setW l a (qn x 2)=st2 l a x:=by
 have key:∀(u v:UInt8) (a:Nat) (l:List UInt8),a+2≤l.length→l.take a++[u,v]++l.drop (a+2)=(l.set (a+1) v).set a u:=by
   intro u v a
   induction a with
   | zero =>
     intro l h
     match l,h with
     | c::d::t,_=>rfl
   | succ a ih =>
     intro l h
     match l,h with
     | c::t,h =>
       have:=ih t (by simp at h;omega)
       show c::(t.take a++[u,v]++t.drop (a+2))=c::((t.set (a+1) v).set a u)
       rw[this]
 intro a l h
 unfold setW
 rw[putB2]
 refine(key _ _ a l h).trans ?_
 unfold st2
 rfl
theorem bldR_g{h:Hd}{p:List UInt8}(ko:h.ok=true)(hp:(qJ h).length+p.length≤1500):zh h p=(bldL h p,0):=by unfold zh;rw[if_pos ko,if_pos hp]
theorem bldR_s{h:Hd}{p:List UInt8}(ko:h.ok=true)(hp:¬(qJ h).length+p.length≤1500):zh h p=([],2):=by unfold zh;rw[if_pos ko,if_neg hp]
theorem bldR_n{h:Hd}{p:List UInt8}(ko:h.ok=false):zh h p=([],1):=by unfold zh;rw[if_neg (by rw[ko];decide)]
theorem LF.headB{L:List UInt8}{F:List Nm}{p:Nm}{n:Nat}{l:LS}(hF:InL p F)(h:LH l p fun c _ _=>c.cs=L.map bAV∧n≤L.length):LF l F (.vw p 0 n 1) (bv (L.take n)):=by
 obtain⟨l1,c,l2,rfl,h1,h2⟩:=h.ex
 refine LF.part hF ⟨l1,c,l2,rfl,by decide,by rw[h1];simp;omega,by simp;omega,by rw[h1];simp[List.map_take]⟩
theorem csumT(L:List UInt8):LP Tryz.prog G 185 [bv (L.take 20)] [] (fun _=>(iAV (csR (L.take 20)),[])):=csum4_c _ (by simp;omega)
theorem bldL_e(h:Hd)(p:List UInt8):bldL h p=st2 (st2 (st2 (qJ h++p) 2 (((qJ h).length+p.length:Nat):Int)) 24 (((qJ h).length+p.length:Nat)-20)) 10 (csR ((st2 (st2 (qJ h++p) 2 (((qJ h).length+p.length:Nat):Int)) 24 (((qJ h).length+p.length:Nat)-20)).take 20)):=by
 have h1:=zS h
 have h2:28≤(qJ h).length:=by rw[h1];split<;>omega
 have e:bld1 h p=st2 (st2 (qJ h++p) 2 (((qJ h).length+p.length:Nat):Int)) 24 (((qJ h).length+p.length:Nat)-20):=by
   unfold bld1
   rw[setW_2 _ 2 _ (by simp;omega),setW_2 _ 24 _ (by simp;omega)]
 unfold bldL
 rw[e,setW_2 _ 10 _ (by simp;omega)]
theorem app_hd{L R p:List UInt8}{n:Nat}(h:L.length=n):List.take n (List.drop 0 ((L++R).map bAV))++p.map bAV=(L++p).map bAV:=by subst h;simp
theorem app_hd0{L p:List UInt8}{n:Nat}(h:L.length=n):List.take n (List.drop 0 (L.map bAV))++p.map bAV=(L++p).map bAV:=by subst h;rw[List.drop_zero,List.take_of_length_le (by simp),List.map_append]
theorem LC.headB{P:Program}{f:FuncId}{R:List UInt8→Int}{n:Nat}{r:Nm}{l:LS}{K:AV→LS→Prop}(hs:∀L:List UInt8,LP P G f [bv (L.take n)] [] fun _=>(iAV (R (L.take n)),[]))
   (h:LH l r fun c _ _=>∃L:List UInt8,c.cs=L.map bAV∧n≤L.length∧K (iAV (R (L.take n))) l):LC P G f [.vw r 0 n 1] l K:=by
 obtain⟨l1,c,l2,rfl,L,h1,h2,h3⟩:=h.ex
 exact LC.lend (hs L) [r] ⟨LF.headB InL.here ⟨l1,c,l2,rfl,h1,h2⟩,trivial⟩ (Flat.int _ _) h3
theorem RL.bytes2{b:List UInt8}{q:Nm}{n:Nat}{e:Int}{l:LS}(h:LH l q fun c _ _=>c.cs=b.map bAV∧n=b.length):RL (fun _=>(.tup [bv b,iAV e],[])) (.tup [.vw q 0 n 1,.int .i64 e]) l:=by
 obtain⟨l1,c,l2,rfl,h1,rfl⟩:=h.ex
 exact RL.frz [q] (LF.tup (xs:=[.vw q 0 b.length 1,.int .i64 e]) (ys:=[bv b,iAV e]) ⟨LF.rowF InL.here ⟨l1,c,l2,rfl,h1,rfl⟩,LF.eq rfl,trivial⟩) ⟨l1,c,l2,rfl,LB.nil⟩
theorem RL.nil2{e:Int}{l:LS}:RL (fun _=>(.tup [bv [],iAV e],[])) (.tup [.nils,.int .i64 e]) l :=
 RL.frz [] (LF.tup (xs:=[.nils,.int .i64 e]) (ys:=[bv [],iAV e]) ⟨LF.nils rfl rfl,LF.eq rfl,trivial⟩) LB.nil
theorem pbuild_n(h:Hd)(p:List UInt8)(ko:h.ok=false):LP Tryz.prog G 131 [h.av,bv p] [] (fun _=>(.tup [bv (zh h p).1,iAV (zh h p).2],[])):=by
 rw[bldR_n ko]
 refine goW [] Tryz.func131 rfl ?_
 conv=>whnf
 repeat'((first|(show LC _ _ _ _ _ _;first|refine LC.pure (phead_n h ko) ?_|refine goE ?_)|refine T.s ?_|((first|apply goB|apply AB.dec|apply AB.gen)<;>intro h<;>try(exfalso;omega))|refine LQ.mk fun r=>?_|(show(_→_)∧(¬_→_);first|refine T.y ?_|refine qv (fun h=>?_) (fun h=>?_))|exact T.z|fail)<;>conv=>whnf)
 all_goals(try dsimp only)
 all_goals
   exact RL.nil2
theorem pbuild_1(hd:Hd)(p:List UInt8)(ko:hd.ok=true)(k:hd.k=1)(hp:p.length≤100000):LP Tryz.prog G 131 [hd.av,bv p] [] (fun _=>(.tup [bv (zh hd p).1,iAV (zh hd p).2],[])):=by
 have hn:(qJ hd).length=28:=by rw[zS];rw[if_neg (by omega)]
 have e15:q7 .sub .i64 1500 ((28:Nat):Int)=1472:=rfl
 by_cases hs:p.length≤1500-28
 · rw[bldR_g ko (by omega)]
   refine goW [] Tryz.func131 rfl ?_
   conv=>whnf
   repeat'((first|(show LC _ _ _ _ _ _;refine updW (fun l h1=>pput2_c l _ _ _ (Nat.le_trans (m:=28) (by decide) (Nat.le_add_right _ _)) h1 (by decide) _) ?_;(repeat first|refine goH ?_|apply LH.here|apply LH.next);refine⟨_,rfl,(by simp[hn];try omega),?_⟩;conv=>whnf)|(show LC _ _ _ _ _ _;refine LC.eq (args':=[AV.vw r 0 20 1]) (by rfl) ?_;refine LC.headB csumT ?_;(repeat first|refine goH ?_|apply LH.here|apply LH.next);refine⟨_,rfl,(by simp[hn];try omega),?_⟩;conv=>whnf)|(refine And.intro ?_ ?_;(focus(first|(simp[hn];done)|(simp[hn];omega)|exact T.kx|exact T.side)))|(show LC _ _ _ _ _ _;first|refine LC.own (phead_1 hd ko k) ?_|refine goE ?_)|(show AQ _ _;first|(refine AQ.eq (cs':=(qJ hd++p).map bAV) (app_hd (hn.trans rfl)) ?_))|refine T.s ?_|((first|apply goB|apply AB.dec|apply AB.gen)<;>intro h<;>try(exfalso;omega))|refine LQ.mk fun r=>?_|(show(_→_)∧(¬_→_);first|refine T.y ?_|refine qv (fun h=>?_) (fun h=>?_))|exact T.z|fail)<;>conv=>whnf)
   all_goals(try dsimp only)
   have e20:q7 .sub .i64 ((28+p.length:Nat):Int) 20=((28+p.length:Nat):Int)-20:=by(exact T.num)
   rw[bldL_e,hn,←e20]
   refine RL.bytes2 ?_
   (repeat first|refine goH ?_|apply LH.here|apply LH.next)
   exact⟨rfl,by simp[hn]⟩
 · rw[bldR_s ko (by omega)]
   refine goW [] Tryz.func131 rfl ?_
   conv=>whnf
   repeat'((first|(refine And.intro ?_ ?_;(focus(first|(simp[hn];done)|(simp[hn];omega)|exact T.kx|exact T.side)))|(show LC _ _ _ _ _ _;first|refine LC.own (phead_1 hd ko k) ?_|refine goE ?_)|refine T.s ?_|((first|apply goB|apply AB.dec|apply AB.gen)<;>intro h<;>try(exfalso;omega))|refine LQ.mk fun r=>?_|(show(_→_)∧(¬_→_);first|refine T.y ?_|refine qv (fun h=>?_) (fun h=>?_))|exact T.z|fail)<;>conv=>whnf)
   all_goals(try dsimp only)
   exact RL.nil2
theorem pbuild_2(hd:Hd)(p:List UInt8)(ko:hd.ok=true)(k:hd.k=2)(hp:p.length≤100000):LP Tryz.prog G 131 [hd.av,bv p] [] (fun _=>(.tup [bv (zh hd p).1,iAV (zh hd p).2],[])):=by
 have hn:(qJ hd).length=40:=by rw[zS];rw[if_pos k]
 have e15:q7 .sub .i64 1500 ((40:Nat):Int)=1460:=rfl
 by_cases hs:p.length≤1500-40
 · rw[bldR_g ko (by omega)]
   refine goW [] Tryz.func131 rfl ?_
   conv=>whnf
   repeat'((first|(show LC _ _ _ _ _ _;refine updW (fun l h1=>pput2_c l _ _ _ (Nat.le_trans (m:=40) (by decide) (Nat.le_add_right _ _)) h1 (by decide) _) ?_;(repeat first|refine goH ?_|apply LH.here|apply LH.next);refine⟨_,rfl,(by simp[hn];try omega),?_⟩;conv=>whnf)|(show LC _ _ _ _ _ _;refine LC.eq (args':=[AV.vw r 0 20 1]) (by rfl) ?_;refine LC.headB csumT ?_;(repeat first|refine goH ?_|apply LH.here|apply LH.next);refine⟨_,rfl,(by simp[hn];try omega),?_⟩;conv=>whnf)|(refine And.intro ?_ ?_;(focus(first|(simp[hn];done)|(simp[hn];omega)|exact T.kx|exact T.side)))|(show LC _ _ _ _ _ _;first|refine LC.own (phead_2 hd ko k) ?_|refine goE ?_)|(show AQ _ _;first|(refine AQ.eq (cs':=(qJ hd++p).map bAV) (app_hd0 (hn.trans rfl)) ?_))|refine T.s ?_|((first|apply goB|apply AB.dec|apply AB.gen)<;>intro h<;>try(exfalso;omega))|refine LQ.mk fun r=>?_|(show(_→_)∧(¬_→_);first|refine T.y ?_|refine qv (fun h=>?_) (fun h=>?_))|exact T.z|fail)<;>conv=>whnf)
   all_goals(try dsimp only)
   have e20:q7 .sub .i64 ((40+p.length:Nat):Int) 20=((40+p.length:Nat):Int)-20:=by(exact T.num)
   rw[bldL_e,hn,←e20]
   refine RL.bytes2 ?_
   (repeat first|refine goH ?_|apply LH.here|apply LH.next)
   exact⟨rfl,by simp[hn]⟩
 · rw[bldR_s ko (by omega)]
   refine goW [] Tryz.func131 rfl ?_
   conv=>whnf
   repeat'((first|(refine And.intro ?_ ?_;(focus(first|(simp[hn];done)|(simp[hn];omega)|exact T.kx|exact T.side)))|(show LC _ _ _ _ _ _;first|refine LC.own (phead_2 hd ko k) ?_|refine goE ?_)|refine T.s ?_|((first|apply goB|apply AB.dec|apply AB.gen)<;>intro h<;>try(exfalso;omega))|refine LQ.mk fun r=>?_|(show(_→_)∧(¬_→_);first|refine T.y ?_|refine qv (fun h=>?_) (fun h=>?_))|exact T.z|fail)<;>conv=>whnf)
   all_goals(try dsimp only)
   exact RL.nil2
theorem pbuild_c(h:Hd)(p:List UInt8)(hp:p.length≤100000):LP Tryz.prog G 131 [h.av,bv p] [] (fun _=>(.tup [bv (zh h p).1,iAV (zh h p).2],[])):=by
 cases ko:h.ok with
 | true =>
   rcases(h.of ko).1 with k|k
   · exact pbuild_1 h p ko k hp
   · exact pbuild_2 h p ko k hp
 | false=>exact pbuild_n h p ko
open Go.RowKit
variable {G:Nat→AV}
theorem b8_mod{x:Int}(h:0≤x):b8 (x.tmod 256)=b8 x:=by
 rw[Int.tmod_eq_emod_of_nonneg h]
 unfold b8
 congr 2
 omega
theorem b8_wrap(x:Int):b8 (IntKind.i64.wrap x)=b8 x:=by
 unfold b8
 rw[IntKind.wrap_i64]
 congr 2
 omega
theorem rset_e(l:List UInt8)(a:Nat){x:Int}(h:0≤x):(l.set a (b8 (IntKind.i64.wrap (x.tdiv 256)))).set (a+1) (b8 (x.tmod 256))=st2 l a x:=by
 unfold st2
 rw[b8_mod h,b8_wrap,Int.tdiv_eq_ediv_of_nonneg h,Int.fdiv_eq_ediv_of_nonneg _ (by decide),List.set_comm _ _ (by omega)]
theorem head_mid(f t:Int):[AV.int .u8 (IntKind.u8.wrap f),AV.int .u8 0,AV.int .u8 (IntKind.u8.wrap t),AV.int .u8 17,AV.int .u8 0,AV.int .u8 0]=([b8 f,0,b8 t,17,0,0]:List UInt8).map bAV:=by
 simp only[List.map_cons,List.map_nil,qS];rfl
theorem head_80(t:Int):[AV.int .u8 128,AV.int .u8 (IntKind.u8.wrap t)]=([128,b8 t]:List UInt8).map bAV:=by
 simp only[List.map_cons,List.map_nil,qS];rfl
end Go.Proofs.YtndpmpnmkpaklaaGreatDoor
