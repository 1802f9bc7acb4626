/-
  Contracts of the functions that the laws reach.
-/
import Derived.Test.YtndpmpnmkpaklaaGreatDoorHo22
import Derived.Test.YtndpmpnmkpaklaaGreatDoorHo23
import Derived.Test.YtndpmpnmkpaklaaGreatDoorHo24
set_option maxHeartbeats 4000000
set_option linter.all false
namespace Go.Proofs.YtndpmpnmkpaklaaGreatDoor
open Go.RowKit
variable {G:Nat→AV}
theorem LF.rcv{cx:List Rc}{n:Nat}{q:Nm}{l:LS}{F:List Nm}(hF:InL q F)(hn:n=cx.length)(hq:LH l q fun c _ _=>c.cs=cx.flatMap Rc.cs):LF l F (.vw q 0 n 19) (Go.Proofs.YtndpmpnmkpaklaaGreatDoor.rcv cx):=by
 subst hn
 obtain⟨l1,c,l2,rfl,h3⟩:=hq.ex
 exact LF.row hF ⟨l1,c,l2,rfl,by decide,by rw[h3,qj Rc.cs_len],rfl,h3.symm⟩
theorem AQ.rsetW{α:Type}{f:α→List AV}{n:Nat}(hf:∀x,(f x).length=n){l:List α}{o:Nat}{xs:List AV}{K:List AV→Prop}{i:Nat}(d y:α)(h:i<l.length)(ho:o=i*n)(hy:f y=xs)(k:K ((l.set i y).flatMap f)):AQ (qi (l.flatMap f) o xs) K:=⟨by
 subst ho hy
 have h1:=wq hf l i 0 d y (f y) h (by rw[hf];omega) (by
   unfold qi
   rw[List.take_zero,List.drop_of_length_le (by simp[hf])]
   simp)
 rw[Nat.add_zero] at h1
 rw[h1]
 exact k⟩
open Go.RowKit
variable {G:Nat→AV}
def xd(t:List Int)(a:Nat):Nat→List Hd×Nat
 | 0=>([],a)
 | n+1=>((xd t a n).1++[hdrR t (xd t a n).2 n],hdrA t (xd t a n).2 n)
theorem zi(t:List Int)(a:Nat):∀n,(xd t a n).1.length=n
 | 0=>rfl
 | n+1=>by simp[xd,zi t a n]
def vG(h:Hd):Prop:=h.k=1∨h.k=2
theorem hdr_kind(t:List Int)(a:Nat)(fl:Int):vG (hdrR t a fl):=hkd_12 fl
theorem ze(t:List Int)(a:Nat):∀n,∀h∈(xd t a n).1,vG h
 | 0,h,hh=>by cases hh
 | n+1,h,hh=>by
   simp only[xd,List.mem_append,List.mem_singleton] at hh
   rcases hh with hh|rfl
   · exact ze t a n h hh
   · exact hdr_kind _ _ _
theorem fol_k(t:List Int)(a:Nat)(h:Hd)(reg:Bool):(yG t a h reg).1.k=h.k:=by
 have e1:∀s,(foI h s).k=h.k:=fun s=>rfl
 have e2:∀a x,(foB t a x).1.k=x.k:=fun a x=>by unfold foB;split<;>rfl
 have e3:∀s x,(foT s x).k=x.k:=fun s x=>by unfold foT;split<;>rfl
 have e4:∀a x,(foX t a x).1.k=x.k:=fun a x=>by unfold foX;(repeat' split)<;>rfl
 unfold yG
 split
 · dsimp only;rw[e3,e2,e1]
 · rw[e4,e3,e2,e1]
structure Pq where
 hs:List Hd
 bs:List (List UInt8)
 a:Nat
def pqK(t:List Int)(fl:Int)(x:Pq):Nat:=(ql t x.a fl).toNat
def pqP(t:List Int)(x:Pq):List UInt8:=zf t (qh t (qh t x.a)) (xx t (qh t x.a) 6)
def pqA(t:List Int)(x:Pq):Nat:=adv t (qh t (qh t x.a)) (xx t (qh t x.a) 6)
def pqH(t:List Int)(fl:Int)(x:Pq):Hd:=x.hs.getD (pqK t fl x) Hd.z
def pqF(t:List Int)(fl:Int)(reg:Bool)(x:Pq):Hd×Nat:=yG t (pqA t x) (pqH t fl x) reg
def pqS(t:List Int)(fl:Int)(reg:Bool)(x:Pq):Pq :=
 if reg=true then⟨x.hs.set (pqK t fl x) (pqF t fl reg x).1,x.bs++[xT (pqH t fl x) (pqP t x)],(pqF t fl reg x).2⟩
 else if xV t (pqF t fl reg x).2 15=true then⟨x.hs.set (pqK t fl x) (pqF t fl reg x).1,x.bs++[xT (pqH t fl x) (pqP t x)]++[kH t (qh t (pqF t fl reg x).2) 40],someA t (qh t (pqF t fl reg x).2) 40⟩
 else⟨x.hs.set (pqK t fl x) (pqF t fl reg x).1,x.bs++[xT (pqH t fl x) (pqP t x)],qh t (pqF t fl reg x).2⟩
def pqI(t:List Int)(fl:Int)(reg:Bool):Nat→Pq→Pq
 | 0,x=>x
 | n+1,x=>pqI t fl reg n (pqS t fl reg x)
def yu(t:List Int)(a:Nat)(fl:Nat)(cnt:Int):Nat:=(ql t (xd t a fl).2 (q7 .add .i64 cnt 1)).toNat
def kP(t:List Int)(a:Nat)(fl:Nat)(cnt:Int)(reg:Bool):Pq:=pqI t fl reg (yu t a fl cnt) ⟨(xd t a fl).1,[],qh t (xd t a fl).2⟩
def bbv(l:List (List UInt8)):AV:=.sl l.length (l.map bv)
attribute [local irreducible] hdrR hdrA yG xT zf kH someA xx ql qh
theorem qc(t:List Int)(a n:Nat):(xd t a n).1.flatMap Hd.cs++(hdrR t (xd t a n).2 n).cs=(xd t a (n+1)).1.flatMap Hd.cs:=by simp[xd]
theorem pq_f{t:List Int}{fl:Int}{x:Pq}{n:Nat}{R:Pq}(h:pqI t fl false (n+1) x=R)(k:xV t (pqF t fl false x).2 15=false):pqI t fl false n ⟨x.hs.set (pqK t fl x) (pqF t fl false x).1,x.bs++[xT (pqH t fl x) (pqP t x)],qh t (pqF t fl false x).2⟩=R:=by
 rw[←h]
 show _=pqI t fl false n (pqS t fl false x)
 unfold pqS
 rw[if_neg (by decide),if_neg (by rw[k];decide)]
theorem pq_g{t:List Int}{fl:Int}{x:Pq}{n:Nat}{R:Pq}(h:pqI t fl false (n+1) x=R)(k:xV t (pqF t fl false x).2 15=true):pqI t fl false n ⟨x.hs.set (pqK t fl x) (pqF t fl false x).1,x.bs++[xT (pqH t fl x) (pqP t x)]++[kH t (qh t (pqF t fl false x).2) 40],someA t (qh t (pqF t fl false x).2) 40⟩=R:=by
 rw[←h]
 show _=pqI t fl false n (pqS t fl false x)
 unfold pqS
 rw[if_neg (by decide),if_pos k]
theorem zJ{t:List Int}{fl:Int}{reg:Bool}{x:Pq}(h:∀y∈x.hs,vG y)(hk:pqK t fl x<x.hs.length):∀y∈x.hs.set (pqK t fl x) (pqF t fl reg x).1,vG y:=fun y hy=>by
 rcases List.mem_or_eq_of_mem_set hy with hy|rfl
 · exact h y hy
 · unfold vG pqF
   rw[fol_k]
   refine h _ ?_
   unfold pqH
   rw[List.getD_eq_getElem?_getD,List.getElem?_eq_getElem hk]
   exact List.getElem_mem _
theorem RL.rowBB{t:List Int}{a:Nat}{L:List (List UInt8)}{n:Nat}{q p:Nm}{l:LS}(h:LH l q fun c _ r=>c.cs=L.map bv∧n=L.length∧LB [(p,zj t a)] r):RL (fun _=>(bbv L,[(p,zj t a)])) (.vw q 0 n 1) l:=by
 obtain⟨l1,c,l2,rfl,h1,rfl,h2⟩:=h.ex
 exact RL.frz [q] (LF.row InL.here ⟨l1,c,l2,rfl,by decide,by simp[h1],rfl,h1.symm⟩) ⟨l1,c,l2,rfl,h2⟩
theorem pq_k{t:List Int}{fl:Nat}{x:Pq}(h0:1≤fl)(h1:fl≤10):0≤ql t x.a fl∧ql t x.a fl<fl∧pqK t fl x<fl:=by
 have:=zA t x.a fl (by omega) (by omega)
 unfold pqK
 omega
theorem pq_next{t:List Int}{fl:Int}{reg:Bool}{x:Pq}{n:Nat}{R:Pq}(h0:(0:Int)<(n:Int))(h:pqI t fl reg n x=R):pqI t fl reg (n-1) (pqS t fl reg x)=R:=by
 obtain⟨m,rfl⟩:∃m,n=m+1:=⟨n-1,by omega⟩
 exact h
theorem vD{t:List Int}{fl:Int}{x:Pq}{n:Nat}{R:Pq}(h0:(0:Int)<(n:Int))(h:pqI t fl false n x=R)(k:xV t (pqF t fl false x).2 15=false):pqI t fl false (n-1) ⟨x.hs.set (pqK t fl x) (pqF t fl false x).1,x.bs++[xT (pqH t fl x) (pqP t x)],qh t (pqF t fl false x).2⟩=R:=by
 obtain⟨m,rfl⟩:∃m,n=m+1:=⟨n-1,by omega⟩
 exact pq_f h k
theorem vC{t:List Int}{fl:Int}{x:Pq}{n:Nat}{R:Pq}(h0:(0:Int)<(n:Int))(h:pqI t fl false n x=R)(k:xV t (pqF t fl false x).2 15=true):pqI t fl false (n-1) ⟨x.hs.set (pqK t fl x) (pqF t fl false x).1,x.bs++[xT (pqH t fl x) (pqP t x)]++[kH t (qh t (pqF t fl false x).2) 40],someA t (qh t (pqF t fl false x).2) 40⟩=R:=by
 obtain⟨m,rfl⟩:∃m,n=m+1:=⟨n-1,by omega⟩
 exact pq_g h k
theorem pq_nt{t:List Int}{fl:Int}{x:Pq}{n:Nat}{R:Pq}(h0:(0:Int)<(n:Int))(h:pqI t fl true n x=R):pqI t fl true (n-1) ⟨x.hs.set (pqK t fl x) (pqF t fl true x).1,x.bs++[xT (pqH t fl x) (pqP t x)],(pqF t fl true x).2⟩=R:=pq_next h0 h
theorem pq_0{t:List Int}{fl:Int}{reg:Bool}{x:Pq}{n:Nat}{R:Pq}(h0:¬(0:Int)<(n:Int))(h:pqI t fl reg n x=R):x=R:=by
 obtain rfl:n=0:=by omega
 exact h
theorem pq_hk{fl:Nat}{t:List Int}{x:Pq}(h:∀y∈x.hs,vG y)(hl:x.hs.length=fl)(h0:1≤fl)(h1:fl≤10):(pqH t fl x).k=1∨(pqH t fl x).k=2:=by
 have:=(pq_k (t:=t) (x:=x) h0 h1).2.2
 refine h _ ?_
 unfold pqH
 rw[List.getD_eq_getElem?_getD,List.getElem?_eq_getElem (by omega)]
 exact List.getElem_mem _
theorem pq_pl(t:List Int)(x:Pq):(pqP t x).length≤100000:=by
 have:=zA t (qh t x.a) (q7 .add .i64 6 1) (by decide) (by decide)
 have e:q7 .add .i64 6 1=7:=rfl
 unfold pqP xx
 rw[bytesL_len]
 omega
theorem hds_le(t:List Int)(a i:Nat):0+i*15≤((xd t a i).1.flatMap Hd.cs).length:=by rw[qj Hd.cs_len,zi];omega
theorem hds_ge(t:List Int)(a i:Nat):((xd t a i).1.flatMap Hd.cs).length≤i*15:=by rw[qj Hd.cs_len,zi];exact Nat.le_refl _
theorem qg(l:List (List UInt8))(b:List UInt8):l.map bv++[bv b]=(l++[b]).map bv:=by rw[List.map_append];rfl
theorem qt(l:List (List UInt8))(b c:List UInt8):l.map bv++[bv b]++[bv c]=(l++[b]++[c]).map bv:=by rw[qg,qg]
theorem vE{t:List Int}{a:Nat}(h:ql t a 15=q7 .sub .i64 15 1):xV t a 15=true:=(xL _ _ _).2 h
theorem vF{t:List Int}{a:Nat}(h:¬ql t a 15=q7 .sub .i64 15 1):xV t a 15=false:=Bool.eq_false_iff.2 fun k=>h ((xL _ _ _).1 k)
theorem pq_ix{t:List Int}{fl:Int}{x:Pq}:0+(ql t x.a fl).toNat*15=pqK t fl x*15:=Nat.zero_add _
theorem pq_le{t:List Int}{fl:Nat}{x:Pq}(hl:x.hs.length=fl)(h0:1≤fl)(h1:fl≤10):0+(ql t x.a fl).toNat*15+15≤(x.hs.flatMap Hd.cs).length:=by
 rw[pq_ix,qj Hd.cs_len]
 have:=(pq_k (t:=t) (x:=x) h0 h1).2.2
 omega
theorem packets_t(t:List Int)(a:Nat)(fl:Nat)(cnt:Int)(h0:1≤fl)(h1:fl≤10)(h2:0≤cnt)(h3:cnt≤100)(ht:t.length≤400)(p:Nm):LP Tryz.prog G 16 [.ptr p 0,iAV fl,iAV cnt,.bool true] [(p,zj t a)] (fun _=>(bbv (kP t a fl cnt true).bs,[(p,zj t (kP t a fl cnt true).a)])):=by
 have hm:q7 .add .i64 cnt 1=cnt+1:=by(exact T.num)
 have hb:=zA t (xd t a fl).2 (q7 .add .i64 cnt 1) (by omega) (by omega)
 have hN:ql t (xd t a fl).2 (q7 .add .i64 cnt 1)=(yu t a fl cnt:Int):=by unfold yu;omega
 have hNb:yu t a fl cnt≤101:=by unfold yu;omega
 have hq:=fun x=>(pq_k (t:=t) (fl:=fl) (x:=x) h0 h1).1
 have hq2:=fun x=>(pq_k (t:=t) (fl:=fl) (x:=x) h0 h1).2.1
 have hq3:=fun x=>(pq_k (t:=t) (fl:=fl) (x:=x) h0 h1).2.2
 refine goW [] Tryz.func16 rfl ?_
 conv=>whnf
 repeat'((first|(show SWpL _ _ _ (.loop _) _ _ _;have hi:fl=i:=(by omega);subst hi)|exact Nm.b 0|(refine And.intro ?_ ?_;(focus(first|exact hds_le _ _ _|exact pq_le (by assumption) h0 h1|exact T.kx|exact T.side)))|(show LC _ _ _ _ _ _;first|(apply LC.upd (dheader_c t _ _ ht _);(repeat first|refine goH ?_|apply LH.here|apply LH.next);refine⟨rfl,?_⟩)|(apply LC.upd (dbytes_c t _ 6 (by decide) (by decide) ht _);(repeat first|refine goH ?_|apply LH.here|apply LH.next);refine⟨rfl,?_⟩)|(apply LC.upd (jR t _ _ ht _);(repeat first|refine goH ?_|apply LH.here|apply LH.next);refine⟨rfl,?_⟩)|refine LC.pure (ve (pqH t fl x) (pqP t x) (pq_hk (by assumption) (by assumption) h0 h1) (pq_pl t x)) ?_|(apply LC.upd (follow_c t (pqA t x) (pqH t fl x) true ht _);(repeat first|refine goH ?_|apply LH.here|apply LH.next);refine⟨rfl,?_⟩)|refine goE ?_)|(show AC _ _ _;first|(refine AC.recd Hd.cs_len (pqK t fl x) Hd.z pq_ix rfl ?_ ?_;(focus(have:=hq3 x;omega))))|(show AQ _ _;first|(refine AQ.full ?_ ?_;(focus exact hds_ge _ _ _))|(refine AQ.rsetW Hd.cs_len (i:=pqK t fl x) Hd.z (pqF t fl true x).1 ?_ ?_ ?_ ?_;(focus(have:=hq3 x;omega));(focus(exact pq_ix));(focus rfl)))|refine T.s ?_|((first|apply goB|apply AB.dec|apply AB.gen)<;>intro h<;>try(exfalso;omega))|refine LQ.mk fun r=>?_|(show SWpL _ _ _ (.loop _) _ _ _;first|(apply goO tQ [] 3 (S:=Nat×Nm) [0,1,2,3] (fun(i,q)=>⟨[(9,.vw q 0 i 15),(10,.int .i64 i)],[(p,zj t (xd t a i).2),(q,⟨54,(xd t a i).1.flatMap Hd.cs⟩)],i≤fl,fl-i⟩) ((0,_)) (by rfl);(focus((repeat' first|exact trivial|(refine And.intro ?_ ?_)|exact LB.nil|(with_reducible exact LB.refl)|(apply LB.cons;(repeat first|refine goH ?_|apply LH.here|apply LH.next);refine And.intro ?_ ?_;(focus(try(first|(with_reducible rfl)|(refine congrArg (Pl.mk _) ?_;(first|(with_reducible rfl)|exact qc _ _ _|exact qg _ _|rfl))|rfl|(with_reducible refine congrArg (Pl.mk _) ?_)))))|assumption|(exact pq_nt (by assumption) (by assumption))|(exact zJ (by assumption) (by have:=hq3 x;omega))|(exact ze _ _ _)|(exact zi _ _ _)|(rw[List.length_set];assumption)|(exact hq _)|(exact hq2 _)|(first|(focus(apply Eq.trans;(conv=>lhs;whnf);(conv=>rhs;whnf);done))|rfl|((conv=>lhs;whnf);first|rfl|(refine congrArg (AV.int _) ?_;(exact T.num))|(refine congrArg AV.bool ?_;(exact T.num))|(refine vwc ?_;first|(exact T.num)|(first|(with_reducible rfl)|exact qc _ _ _|exact qg _ _|rfl))|(refine q8 ?_ ?_<;>first|(exact T.num)|(first|(with_reducible rfl)|exact qc _ _ _|exact qg _ _|rfl))|(first|(with_reducible rfl)|exact qc _ _ _|exact qg _ _|rfl)))|(exact T.num)|(dsimp only;(exact T.num))|(first|(with_reducible rfl)|exact qc _ _ _|exact qg _ _|rfl));done));rintro⟨i,q⟩ hok;(try dsimp only at hok))|(apply goO tQ [] 8 (S:=Nat×Pq×Nm×Nm) [0,1,3] (fun(n,x,q,r)=>⟨[(9,.vw q 0 fl 15),(11,.vw r 0 x.bs.length 1),(12,.int .i64 n)],[(p,zj t x.a),(q,⟨54,x.hs.flatMap Hd.cs⟩),(r,⟨37,x.bs.map bv⟩)],n≤101∧x.hs.length=fl∧(∀y∈x.hs,vG y)∧(0≤ql t x.a fl)∧ql t x.a fl<fl∧x.bs.length≤1000-n∧pqI t fl true n x=kP t a fl cnt true,n⟩) ((yu t a fl cnt,⟨(xd t a fl).1,[],qh t (xd t a fl).2⟩,_,_)) (by rfl);(focus((repeat' first|exact trivial|(refine And.intro ?_ ?_)|exact LB.nil|(with_reducible exact LB.refl)|(apply LB.cons;(repeat first|refine goH ?_|apply LH.here|apply LH.next);refine And.intro ?_ ?_;(focus(try(first|(with_reducible rfl)|(refine congrArg (Pl.mk _) ?_;(first|(with_reducible rfl)|exact qc _ _ _|exact qg _ _|rfl))|rfl|(with_reducible refine congrArg (Pl.mk _) ?_)))))|assumption|(exact pq_nt (by assumption) (by assumption))|(exact zJ (by assumption) (by have:=hq3 x;omega))|(exact ze _ _ _)|(exact zi _ _ _)|(rw[List.length_set];assumption)|(exact hq _)|(exact hq2 _)|(first|(focus(apply Eq.trans;(conv=>lhs;whnf);(conv=>rhs;whnf);done))|rfl|((conv=>lhs;whnf);first|rfl|(refine congrArg (AV.int _) ?_;(exact T.num))|(refine congrArg AV.bool ?_;(exact T.num))|(refine vwc ?_;first|(exact T.num)|(first|(with_reducible rfl)|exact qc _ _ _|exact qg _ _|rfl))|(refine q8 ?_ ?_<;>first|(exact T.num)|(first|(with_reducible rfl)|exact qc _ _ _|exact qg _ _|rfl))|(first|(with_reducible rfl)|exact qc _ _ _|exact qg _ _|rfl)))|(exact T.num)|(dsimp only;(exact T.num))|(first|(with_reducible rfl)|exact qc _ _ _|exact qg _ _|rfl));done));rintro⟨n,x,q,r⟩ ⟨hk,hk,hk,hk,hk,hk,hok⟩))|(show SWpL _ _ _ _ _ _ _;first|refine SWpL.adopt 9 15 54 (by rfl) fun q=>?_|refine SWpL.adopt 11 1 37 (by rfl) fun q=>?_|refine gX 11 [4,6] [0,1,2,3,4,5,6,7,8,9,10] [p] ?_)|(show AtL _ _ _ _ _ _ _ _ _ _;first|(apply AtL.mk' (id:=3) (S:=Nat×Nm) ((i+1,_));(repeat' first|exact trivial|(refine And.intro ?_ ?_)|exact LB.nil|(with_reducible exact LB.refl)|(apply LB.cons;(repeat first|refine goH ?_|apply LH.here|apply LH.next);refine And.intro ?_ ?_;(focus(try(first|(with_reducible rfl)|(refine congrArg (Pl.mk _) ?_;(first|(with_reducible rfl)|exact qc _ _ _|exact qg _ _|rfl))|rfl|(with_reducible refine congrArg (Pl.mk _) ?_)))))|assumption|(exact pq_nt (by assumption) (by assumption))|(exact zJ (by assumption) (by have:=hq3 x;omega))|(exact ze _ _ _)|(exact zi _ _ _)|(rw[List.length_set];assumption)|(exact hq _)|(exact hq2 _)|(first|(focus(apply Eq.trans;(conv=>lhs;whnf);(conv=>rhs;whnf);done))|rfl|((conv=>lhs;whnf);first|rfl|(refine congrArg (AV.int _) ?_;(exact T.num))|(refine congrArg AV.bool ?_;(exact T.num))|(refine vwc ?_;first|(exact T.num)|(first|(with_reducible rfl)|exact qc _ _ _|exact qg _ _|rfl))|(refine q8 ?_ ?_<;>first|(exact T.num)|(first|(with_reducible rfl)|exact qc _ _ _|exact qg _ _|rfl))|(first|(with_reducible rfl)|exact qc _ _ _|exact qg _ _|rfl)))|(exact T.num)|(dsimp only;(exact T.num))|(first|(with_reducible rfl)|exact qc _ _ _|exact qg _ _|rfl));done)|(apply AtL.mk' (id:=8) (S:=Nat×Pq×Nm×Nm) ((n-1,⟨x.hs.set (pqK t fl x) (pqF t fl true x).1,x.bs++[xT (pqH t fl x) (pqP t x)],(pqF t fl true x).2⟩,_,_));(repeat' first|exact trivial|(refine And.intro ?_ ?_)|exact LB.nil|(with_reducible exact LB.refl)|(apply LB.cons;(repeat first|refine goH ?_|apply LH.here|apply LH.next);refine And.intro ?_ ?_;(focus(try(first|(with_reducible rfl)|(refine congrArg (Pl.mk _) ?_;(first|(with_reducible rfl)|exact qc _ _ _|exact qg _ _|rfl))|rfl|(with_reducible refine congrArg (Pl.mk _) ?_)))))|assumption|(exact pq_nt (by assumption) (by assumption))|(exact zJ (by assumption) (by have:=hq3 x;omega))|(exact ze _ _ _)|(exact zi _ _ _)|(rw[List.length_set];assumption)|(exact hq _)|(exact hq2 _)|(first|(focus(apply Eq.trans;(conv=>lhs;whnf);(conv=>rhs;whnf);done))|rfl|((conv=>lhs;whnf);first|rfl|(refine congrArg (AV.int _) ?_;(exact T.num))|(refine congrArg AV.bool ?_;(exact T.num))|(refine vwc ?_;first|(exact T.num)|(first|(with_reducible rfl)|exact qc _ _ _|exact qg _ _|rfl))|(refine q8 ?_ ?_<;>first|(exact T.num)|(first|(with_reducible rfl)|exact qc _ _ _|exact qg _ _|rfl))|(first|(with_reducible rfl)|exact qc _ _ _|exact qg _ _|rfl)))|(exact T.num)|(dsimp only;(exact T.num))|(first|(with_reducible rfl)|exact qc _ _ _|exact qg _ _|rfl));done)|(apply AtL.mk' (id:=3) (S:=Nat×Nm) ((i+1,_));(repeat' first|exact trivial|(refine And.intro ?_ ?_)|exact LB.nil|(with_reducible exact LB.refl)|(apply LB.cons;(repeat first|refine goH ?_|apply LH.here|apply LH.next);refine And.intro ?_ ?_;(focus(try(first|(with_reducible rfl)|(refine congrArg (Pl.mk _) ?_;(first|(with_reducible rfl)|exact qc _ _ _|exact qg _ _|rfl))|rfl|(with_reducible refine congrArg (Pl.mk _) ?_)))))|assumption|(exact pq_nt (by assumption) (by assumption))|(exact zJ (by assumption) (by have:=hq3 x;omega))|(exact ze _ _ _)|(exact zi _ _ _)|(rw[List.length_set];assumption)|(exact hq _)|(exact hq2 _)|(first|(focus(apply Eq.trans;(conv=>lhs;whnf);(conv=>rhs;whnf);done))|rfl|((conv=>lhs;whnf);first|rfl|(refine congrArg (AV.int _) ?_;(exact T.num))|(refine congrArg AV.bool ?_;(exact T.num))|(refine vwc ?_;first|(exact T.num)|(first|(with_reducible rfl)|exact qc _ _ _|exact qg _ _|rfl))|(refine q8 ?_ ?_<;>first|(exact T.num)|(first|(with_reducible rfl)|exact qc _ _ _|exact qg _ _|rfl))|(first|(with_reducible rfl)|exact qc _ _ _|exact qg _ _|rfl)))|(exact T.num)|(dsimp only;(exact T.num))|(first|(with_reducible rfl)|exact qc _ _ _|exact qg _ _|rfl)))|(apply AtL.mk' (id:=8) (S:=Nat×Pq×Nm×Nm) ((n-1,⟨x.hs.set (pqK t fl x) (pqF t fl true x).1,x.bs++[xT (pqH t fl x) (pqP t x)],(pqF t fl true x).2⟩,_,_));(repeat' first|exact trivial|(refine And.intro ?_ ?_)|exact LB.nil|(with_reducible exact LB.refl)|(apply LB.cons;(repeat first|refine goH ?_|apply LH.here|apply LH.next);refine And.intro ?_ ?_;(focus(try(first|(with_reducible rfl)|(refine congrArg (Pl.mk _) ?_;(first|(with_reducible rfl)|exact qc _ _ _|exact qg _ _|rfl))|rfl|(with_reducible refine congrArg (Pl.mk _) ?_)))))|assumption|(exact pq_nt (by assumption) (by assumption))|(exact zJ (by assumption) (by have:=hq3 x;omega))|(exact ze _ _ _)|(exact zi _ _ _)|(rw[List.length_set];assumption)|(exact hq _)|(exact hq2 _)|(first|(focus(apply Eq.trans;(conv=>lhs;whnf);(conv=>rhs;whnf);done))|rfl|((conv=>lhs;whnf);first|rfl|(refine congrArg (AV.int _) ?_;(exact T.num))|(refine congrArg AV.bool ?_;(exact T.num))|(refine vwc ?_;first|(exact T.num)|(first|(with_reducible rfl)|exact qc _ _ _|exact qg _ _|rfl))|(refine q8 ?_ ?_<;>first|(exact T.num)|(first|(with_reducible rfl)|exact qc _ _ _|exact qg _ _|rfl))|(first|(with_reducible rfl)|exact qc _ _ _|exact qg _ _|rfl)))|(exact T.num)|(dsimp only;(exact T.num))|(first|(with_reducible rfl)|exact qc _ _ _|exact qg _ _|rfl))))|exact T.z|fail)<;>conv=>whnf)
 all_goals(try dsimp only)
 all_goals
   rw[←pq_0 (x:=x) (n:=n) (fl:=(fl:Int)) (reg:=true) (t:=t) (R:=kP t a fl cnt true) (by assumption) (by assumption)]
   refine RL.rowBB ?_
   (repeat first|refine goH ?_|apply LH.here|apply LH.next)
   refine⟨rfl,rfl,?_⟩
   (repeat' first|exact LB.nil|(with_reducible exact LB.refl)|(apply LB.cons;(repeat first|refine goH ?_|apply LH.here|apply LH.next);refine And.intro ?_ ?_;(focus(try(first|(with_reducible rfl)|(refine congrArg (Pl.mk _) ?_;(first|rfl|(simp;done)))|rfl|(with_reducible refine congrArg (Pl.mk _) ?_))))))
theorem packets_f(t:List Int)(a:Nat)(fl:Nat)(cnt:Int)(h0:1≤fl)(h1:fl≤10)(h2:0≤cnt)(h3:cnt≤100)(ht:t.length≤400)(p:Nm):LP Tryz.prog G 16 [.ptr p 0,iAV fl,iAV cnt,.bool false] [(p,zj t a)] (fun _=>(bbv (kP t a fl cnt false).bs,[(p,zj t (kP t a fl cnt false).a)])):=by
 have hm:q7 .add .i64 cnt 1=cnt+1:=by(exact T.num)
 have hb:=zA t (xd t a fl).2 (q7 .add .i64 cnt 1) (by omega) (by omega)
 have hN:ql t (xd t a fl).2 (q7 .add .i64 cnt 1)=(yu t a fl cnt:Int):=by unfold yu;omega
 have hNb:yu t a fl cnt≤101:=by unfold yu;omega
 have hq:=fun x=>(pq_k (t:=t) (fl:=fl) (x:=x) h0 h1).1
 have hq2:=fun x=>(pq_k (t:=t) (fl:=fl) (x:=x) h0 h1).2.1
 have hq3:=fun x=>(pq_k (t:=t) (fl:=fl) (x:=x) h0 h1).2.2
 refine goW [] Tryz.func16 rfl ?_
 conv=>whnf
 repeat'((first|(show SWpL _ _ _ (.loop _) _ _ _;have hi:fl=i:=(by omega);subst hi)|exact Nm.b 0|(refine And.intro ?_ ?_;(focus(first|exact hds_le _ _ _|exact pq_le (by assumption) h0 h1|exact T.kx|exact T.side)))|(show LC _ _ _ _ _ _;first|(apply LC.upd (dheader_c t _ _ ht _);(repeat first|refine goH ?_|apply LH.here|apply LH.next);refine⟨rfl,?_⟩)|(apply LC.upd (dbytes_c t _ 6 (by decide) (by decide) ht _);(repeat first|refine goH ?_|apply LH.here|apply LH.next);refine⟨rfl,?_⟩)|(apply LC.upd (dsome_c t _ 40 (by decide) (by decide) ht _);(repeat first|refine goH ?_|apply LH.here|apply LH.next);refine⟨rfl,?_⟩)|(apply LC.upd (jR t _ _ ht _);(repeat first|refine goH ?_|apply LH.here|apply LH.next);refine⟨rfl,?_⟩)|(apply LC.upd (one_c t _ _ ht _);(repeat first|refine goH ?_|apply LH.here|apply LH.next);refine⟨rfl,?_⟩)|refine LC.pure (ve (pqH t fl x) (pqP t x) (pq_hk (by assumption) (by assumption) h0 h1) (pq_pl t x)) ?_|(apply LC.upd (follow_c t (pqA t x) (pqH t fl x) false ht _);(repeat first|refine goH ?_|apply LH.here|apply LH.next);refine⟨rfl,?_⟩)|refine goE ?_)|(show AC _ _ _;first|(refine AC.recd Hd.cs_len (pqK t fl x) Hd.z pq_ix rfl ?_ ?_;(focus(have:=hq3 x;omega))))|(show AQ _ _;first|(refine AQ.full ?_ ?_;(focus exact hds_ge _ _ _))|(refine AQ.rsetW Hd.cs_len (i:=pqK t fl x) Hd.z (pqF t fl false x).1 ?_ ?_ ?_ ?_;(focus(have:=hq3 x;omega));(focus(exact pq_ix));(focus rfl)))|refine T.s ?_|((first|apply goB|apply AB.dec|apply AB.gen)<;>intro h<;>try(exfalso;omega))|refine LQ.mk fun r=>?_|(show SWpL _ _ _ (.loop _) _ _ _;first|(apply goO tQ [] 3 (S:=Nat×Nm) [0,1,2,3] (fun(i,q)=>⟨[(9,.vw q 0 i 15),(10,.int .i64 i)],[(p,zj t (xd t a i).2),(q,⟨54,(xd t a i).1.flatMap Hd.cs⟩)],i≤fl,fl-i⟩) ((0,_)) (by rfl);(focus((repeat' first|exact trivial|(refine And.intro ?_ ?_)|exact LB.nil|(with_reducible exact LB.refl)|(apply LB.cons;(repeat first|refine goH ?_|apply LH.here|apply LH.next);refine And.intro ?_ ?_;(focus(try(first|(with_reducible rfl)|(refine congrArg (Pl.mk _) ?_;(first|(with_reducible rfl)|exact qc _ _ _|exact qt _ _ _|exact qg _ _|rfl))|rfl|(with_reducible refine congrArg (Pl.mk _) ?_)))))|assumption|(exact vD (by assumption) (by assumption) (vF (by assumption)))|(exact vC (by assumption) (by assumption) (vE (by assumption)))|(exact zJ (by assumption) (by have:=hq3 x;omega))|(exact ze _ _ _)|(exact zi _ _ _)|(rw[List.length_set];assumption)|(exact hq _)|(exact hq2 _)|(first|(focus(apply Eq.trans;(conv=>lhs;whnf);(conv=>rhs;whnf);done))|rfl|((conv=>lhs;whnf);first|rfl|(refine congrArg (AV.int _) ?_;(exact T.num))|(refine congrArg AV.bool ?_;(exact T.num))|(refine vwc ?_;first|(exact T.num)|(first|(with_reducible rfl)|exact qc _ _ _|exact qt _ _ _|exact qg _ _|rfl))|(refine q8 ?_ ?_<;>first|(exact T.num)|(first|(with_reducible rfl)|exact qc _ _ _|exact qt _ _ _|exact qg _ _|rfl))|(first|(with_reducible rfl)|exact qc _ _ _|exact qt _ _ _|exact qg _ _|rfl)))|(exact T.num)|(dsimp only;(exact T.num))|(first|(with_reducible rfl)|exact qc _ _ _|exact qt _ _ _|exact qg _ _|rfl));done));rintro⟨i,q⟩ hok;(try dsimp only at hok))|(apply goO tQ [] 8 (S:=Nat×Pq×Nm×Nm) [0,1,3] (fun(n,x,q,r)=>⟨[(9,.vw q 0 fl 15),(11,.vw r 0 x.bs.length 1),(12,.int .i64 n)],[(p,zj t x.a),(q,⟨54,x.hs.flatMap Hd.cs⟩),(r,⟨37,x.bs.map bv⟩)],n≤101∧x.hs.length=fl∧(∀y∈x.hs,vG y)∧(0≤ql t x.a fl)∧ql t x.a fl<fl∧x.bs.length≤1000-2*n∧pqI t fl false n x=kP t a fl cnt false,n⟩) ((yu t a fl cnt,⟨(xd t a fl).1,[],qh t (xd t a fl).2⟩,_,_)) (by rfl);(focus((repeat' first|exact trivial|(refine And.intro ?_ ?_)|exact LB.nil|(with_reducible exact LB.refl)|(apply LB.cons;(repeat first|refine goH ?_|apply LH.here|apply LH.next);refine And.intro ?_ ?_;(focus(try(first|(with_reducible rfl)|(refine congrArg (Pl.mk _) ?_;(first|(with_reducible rfl)|exact qc _ _ _|exact qt _ _ _|exact qg _ _|rfl))|rfl|(with_reducible refine congrArg (Pl.mk _) ?_)))))|assumption|(exact vD (by assumption) (by assumption) (vF (by assumption)))|(exact vC (by assumption) (by assumption) (vE (by assumption)))|(exact zJ (by assumption) (by have:=hq3 x;omega))|(exact ze _ _ _)|(exact zi _ _ _)|(rw[List.length_set];assumption)|(exact hq _)|(exact hq2 _)|(first|(focus(apply Eq.trans;(conv=>lhs;whnf);(conv=>rhs;whnf);done))|rfl|((conv=>lhs;whnf);first|rfl|(refine congrArg (AV.int _) ?_;(exact T.num))|(refine congrArg AV.bool ?_;(exact T.num))|(refine vwc ?_;first|(exact T.num)|(first|(with_reducible rfl)|exact qc _ _ _|exact qt _ _ _|exact qg _ _|rfl))|(refine q8 ?_ ?_<;>first|(exact T.num)|(first|(with_reducible rfl)|exact qc _ _ _|exact qt _ _ _|exact qg _ _|rfl))|(first|(with_reducible rfl)|exact qc _ _ _|exact qt _ _ _|exact qg _ _|rfl)))|(exact T.num)|(dsimp only;(exact T.num))|(first|(with_reducible rfl)|exact qc _ _ _|exact qt _ _ _|exact qg _ _|rfl));done));rintro⟨n,x,q,r⟩ ⟨hk,hk,hk,hk,hk,hk,hok⟩))|(show SWpL _ _ _ _ _ _ _;first|refine SWpL.adopt 9 15 54 (by rfl) fun q=>?_|refine SWpL.adopt 11 1 37 (by rfl) fun q=>?_|refine gX 11 [4,6] [0,1,2,3,4,5,6,7,8,9,10] [p] ?_)|(show AtL _ _ _ _ _ _ _ _ _ _;first|(apply AtL.mk' (id:=3) (S:=Nat×Nm) ((i+1,_));(repeat' first|exact trivial|(refine And.intro ?_ ?_)|exact LB.nil|(with_reducible exact LB.refl)|(apply LB.cons;(repeat first|refine goH ?_|apply LH.here|apply LH.next);refine And.intro ?_ ?_;(focus(try(first|(with_reducible rfl)|(refine congrArg (Pl.mk _) ?_;(first|(with_reducible rfl)|exact qc _ _ _|exact qt _ _ _|exact qg _ _|rfl))|rfl|(with_reducible refine congrArg (Pl.mk _) ?_)))))|assumption|(exact vD (by assumption) (by assumption) (vF (by assumption)))|(exact vC (by assumption) (by assumption) (vE (by assumption)))|(exact zJ (by assumption) (by have:=hq3 x;omega))|(exact ze _ _ _)|(exact zi _ _ _)|(rw[List.length_set];assumption)|(exact hq _)|(exact hq2 _)|(first|(focus(apply Eq.trans;(conv=>lhs;whnf);(conv=>rhs;whnf);done))|rfl|((conv=>lhs;whnf);first|rfl|(refine congrArg (AV.int _) ?_;(exact T.num))|(refine congrArg AV.bool ?_;(exact T.num))|(refine vwc ?_;first|(exact T.num)|(first|(with_reducible rfl)|exact qc _ _ _|exact qt _ _ _|exact qg _ _|rfl))|(refine q8 ?_ ?_<;>first|(exact T.num)|(first|(with_reducible rfl)|exact qc _ _ _|exact qt _ _ _|exact qg _ _|rfl))|(first|(with_reducible rfl)|exact qc _ _ _|exact qt _ _ _|exact qg _ _|rfl)))|(exact T.num)|(dsimp only;(exact T.num))|(first|(with_reducible rfl)|exact qc _ _ _|exact qt _ _ _|exact qg _ _|rfl));done)|(apply AtL.mk' (id:=8) (S:=Nat×Pq×Nm×Nm) ((n-1,⟨x.hs.set (pqK t fl x) (pqF t fl false x).1,x.bs++[xT (pqH t fl x) (pqP t x)]++[kH t (qh t (pqF t fl false x).2) 40],someA t (qh t (pqF t fl false x).2) 40⟩,_,_));(repeat' first|exact trivial|(refine And.intro ?_ ?_)|exact LB.nil|(with_reducible exact LB.refl)|(apply LB.cons;(repeat first|refine goH ?_|apply LH.here|apply LH.next);refine And.intro ?_ ?_;(focus(try(first|(with_reducible rfl)|(refine congrArg (Pl.mk _) ?_;(first|(with_reducible rfl)|exact qc _ _ _|exact qt _ _ _|exact qg _ _|rfl))|rfl|(with_reducible refine congrArg (Pl.mk _) ?_)))))|assumption|(exact vD (by assumption) (by assumption) (vF (by assumption)))|(exact vC (by assumption) (by assumption) (vE (by assumption)))|(exact zJ (by assumption) (by have:=hq3 x;omega))|(exact ze _ _ _)|(exact zi _ _ _)|(rw[List.length_set];assumption)|(exact hq _)|(exact hq2 _)|(first|(focus(apply Eq.trans;(conv=>lhs;whnf);(conv=>rhs;whnf);done))|rfl|((conv=>lhs;whnf);first|rfl|(refine congrArg (AV.int _) ?_;(exact T.num))|(refine congrArg AV.bool ?_;(exact T.num))|(refine vwc ?_;first|(exact T.num)|(first|(with_reducible rfl)|exact qc _ _ _|exact qt _ _ _|exact qg _ _|rfl))|(refine q8 ?_ ?_<;>first|(exact T.num)|(first|(with_reducible rfl)|exact qc _ _ _|exact qt _ _ _|exact qg _ _|rfl))|(first|(with_reducible rfl)|exact qc _ _ _|exact qt _ _ _|exact qg _ _|rfl)))|(exact T.num)|(dsimp only;(exact T.num))|(first|(with_reducible rfl)|exact qc _ _ _|exact qt _ _ _|exact qg _ _|rfl));done)|(apply AtL.mk' (id:=8) (S:=Nat×Pq×Nm×Nm) ((n-1,⟨x.hs.set (pqK t fl x) (pqF t fl false x).1,x.bs++[xT (pqH t fl x) (pqP t x)],qh t (pqF t fl false x).2⟩,_,_));(repeat' first|exact trivial|(refine And.intro ?_ ?_)|exact LB.nil|(with_reducible exact LB.refl)|(apply LB.cons;(repeat first|refine goH ?_|apply LH.here|apply LH.next);refine And.intro ?_ ?_;(focus(try(first|(with_reducible rfl)|(refine congrArg (Pl.mk _) ?_;(first|(with_reducible rfl)|exact qc _ _ _|exact qt _ _ _|exact qg _ _|rfl))|rfl|(with_reducible refine congrArg (Pl.mk _) ?_)))))|assumption|(exact vD (by assumption) (by assumption) (vF (by assumption)))|(exact vC (by assumption) (by assumption) (vE (by assumption)))|(exact zJ (by assumption) (by have:=hq3 x;omega))|(exact ze _ _ _)|(exact zi _ _ _)|(rw[List.length_set];assumption)|(exact hq _)|(exact hq2 _)|(first|(focus(apply Eq.trans;(conv=>lhs;whnf);(conv=>rhs;whnf);done))|rfl|((conv=>lhs;whnf);first|rfl|(refine congrArg (AV.int _) ?_;(exact T.num))|(refine congrArg AV.bool ?_;(exact T.num))|(refine vwc ?_;first|(exact T.num)|(first|(with_reducible rfl)|exact qc _ _ _|exact qt _ _ _|exact qg _ _|rfl))|(refine q8 ?_ ?_<;>first|(exact T.num)|(first|(with_reducible rfl)|exact qc _ _ _|exact qt _ _ _|exact qg _ _|rfl))|(first|(with_reducible rfl)|exact qc _ _ _|exact qt _ _ _|exact qg _ _|rfl)))|(exact T.num)|(dsimp only;(exact T.num))|(first|(with_reducible rfl)|exact qc _ _ _|exact qt _ _ _|exact qg _ _|rfl));done)|(apply AtL.mk' (id:=3) (S:=Nat×Nm) ((i+1,_));(repeat' first|exact trivial|(refine And.intro ?_ ?_)|exact LB.nil|(with_reducible exact LB.refl)|(apply LB.cons;(repeat first|refine goH ?_|apply LH.here|apply LH.next);refine And.intro ?_ ?_;(focus(try(first|(with_reducible rfl)|(refine congrArg (Pl.mk _) ?_;(first|(with_reducible rfl)|exact qc _ _ _|exact qt _ _ _|exact qg _ _|rfl))|rfl|(with_reducible refine congrArg (Pl.mk _) ?_)))))|assumption|(exact vD (by assumption) (by assumption) (vF (by assumption)))|(exact vC (by assumption) (by assumption) (vE (by assumption)))|(exact zJ (by assumption) (by have:=hq3 x;omega))|(exact ze _ _ _)|(exact zi _ _ _)|(rw[List.length_set];assumption)|(exact hq _)|(exact hq2 _)|(first|(focus(apply Eq.trans;(conv=>lhs;whnf);(conv=>rhs;whnf);done))|rfl|((conv=>lhs;whnf);first|rfl|(refine congrArg (AV.int _) ?_;(exact T.num))|(refine congrArg AV.bool ?_;(exact T.num))|(refine vwc ?_;first|(exact T.num)|(first|(with_reducible rfl)|exact qc _ _ _|exact qt _ _ _|exact qg _ _|rfl))|(refine q8 ?_ ?_<;>first|(exact T.num)|(first|(with_reducible rfl)|exact qc _ _ _|exact qt _ _ _|exact qg _ _|rfl))|(first|(with_reducible rfl)|exact qc _ _ _|exact qt _ _ _|exact qg _ _|rfl)))|(exact T.num)|(dsimp only;(exact T.num))|(first|(with_reducible rfl)|exact qc _ _ _|exact qt _ _ _|exact qg _ _|rfl)))|(apply AtL.mk' (id:=8) (S:=Nat×Pq×Nm×Nm) ((n-1,⟨x.hs.set (pqK t fl x) (pqF t fl false x).1,x.bs++[xT (pqH t fl x) (pqP t x)]++[kH t (qh t (pqF t fl false x).2) 40],someA t (qh t (pqF t fl false x).2) 40⟩,_,_));(repeat' first|exact trivial|(refine And.intro ?_ ?_)|exact LB.nil|(with_reducible exact LB.refl)|(apply LB.cons;(repeat first|refine goH ?_|apply LH.here|apply LH.next);refine And.intro ?_ ?_;(focus(try(first|(with_reducible rfl)|(refine congrArg (Pl.mk _) ?_;(first|(with_reducible rfl)|exact qc _ _ _|exact qt _ _ _|exact qg _ _|rfl))|rfl|(with_reducible refine congrArg (Pl.mk _) ?_)))))|assumption|(exact vD (by assumption) (by assumption) (vF (by assumption)))|(exact vC (by assumption) (by assumption) (vE (by assumption)))|(exact zJ (by assumption) (by have:=hq3 x;omega))|(exact ze _ _ _)|(exact zi _ _ _)|(rw[List.length_set];assumption)|(exact hq _)|(exact hq2 _)|(first|(focus(apply Eq.trans;(conv=>lhs;whnf);(conv=>rhs;whnf);done))|rfl|((conv=>lhs;whnf);first|rfl|(refine congrArg (AV.int _) ?_;(exact T.num))|(refine congrArg AV.bool ?_;(exact T.num))|(refine vwc ?_;first|(exact T.num)|(first|(with_reducible rfl)|exact qc _ _ _|exact qt _ _ _|exact qg _ _|rfl))|(refine q8 ?_ ?_<;>first|(exact T.num)|(first|(with_reducible rfl)|exact qc _ _ _|exact qt _ _ _|exact qg _ _|rfl))|(first|(with_reducible rfl)|exact qc _ _ _|exact qt _ _ _|exact qg _ _|rfl)))|(exact T.num)|(dsimp only;(exact T.num))|(first|(with_reducible rfl)|exact qc _ _ _|exact qt _ _ _|exact qg _ _|rfl)))|(apply AtL.mk' (id:=8) (S:=Nat×Pq×Nm×Nm) ((n-1,⟨x.hs.set (pqK t fl x) (pqF t fl false x).1,x.bs++[xT (pqH t fl x) (pqP t x)],qh t (pqF t fl false x).2⟩,_,_));(repeat' first|exact trivial|(refine And.intro ?_ ?_)|exact LB.nil|(with_reducible exact LB.refl)|(apply LB.cons;(repeat first|refine goH ?_|apply LH.here|apply LH.next);refine And.intro ?_ ?_;(focus(try(first|(with_reducible rfl)|(refine congrArg (Pl.mk _) ?_;(first|(with_reducible rfl)|exact qc _ _ _|exact qt _ _ _|exact qg _ _|rfl))|rfl|(with_reducible refine congrArg (Pl.mk _) ?_)))))|assumption|(exact vD (by assumption) (by assumption) (vF (by assumption)))|(exact vC (by assumption) (by assumption) (vE (by assumption)))|(exact zJ (by assumption) (by have:=hq3 x;omega))|(exact ze _ _ _)|(exact zi _ _ _)|(rw[List.length_set];assumption)|(exact hq _)|(exact hq2 _)|(first|(focus(apply Eq.trans;(conv=>lhs;whnf);(conv=>rhs;whnf);done))|rfl|((conv=>lhs;whnf);first|rfl|(refine congrArg (AV.int _) ?_;(exact T.num))|(refine congrArg AV.bool ?_;(exact T.num))|(refine vwc ?_;first|(exact T.num)|(first|(with_reducible rfl)|exact qc _ _ _|exact qt _ _ _|exact qg _ _|rfl))|(refine q8 ?_ ?_<;>first|(exact T.num)|(first|(with_reducible rfl)|exact qc _ _ _|exact qt _ _ _|exact qg _ _|rfl))|(first|(with_reducible rfl)|exact qc _ _ _|exact qt _ _ _|exact qg _ _|rfl)))|(exact T.num)|(dsimp only;(exact T.num))|(first|(with_reducible rfl)|exact qc _ _ _|exact qt _ _ _|exact qg _ _|rfl))))|exact T.z|fail)<;>conv=>whnf)
 all_goals(try dsimp only)
 all_goals first
   | (rw[←pq_0 (x:=x) (n:=n) (fl:=(fl:Int)) (reg:=false) (t:=t) (R:=kP t a fl cnt false) (by assumption) (by assumption)];refine RL.rowBB ?_;(repeat first|refine goH ?_|apply LH.here|apply LH.next);refine⟨rfl,rfl,?_⟩;(repeat' first|exact LB.nil|(with_reducible exact LB.refl)|(apply LB.cons;(repeat first|refine goH ?_|apply LH.here|apply LH.next);refine And.intro ?_ ?_;(focus(try(first|(with_reducible rfl)|(refine congrArg (Pl.mk _) ?_;(first|rfl|(simp;done)))|rfl|(with_reducible refine congrArg (Pl.mk _) ?_)))))))
   | trace_state
theorem packets_c(t:List Int)(a:Nat)(fl:Nat)(cnt:Int)(reg:Bool)(h0:1≤fl)(h1:fl≤10)(h2:0≤cnt)(h3:cnt≤100)(ht:t.length≤400)(p:Nm):LP Tryz.prog G 16 [.ptr p 0,iAV fl,iAV cnt,.bool reg] [(p,zj t a)] (fun _=>(bbv (kP t a fl cnt reg).bs,[(p,zj t (kP t a fl cnt reg).a)])):=by
 cases reg
 · exact packets_f t a fl cnt h0 h1 h2 h3 ht p
 · exact packets_t t a fl cnt h0 h1 h2 h3 ht p
theorem pkt_len(h:Hd)(p:List UInt8):28≤(xT h p).length∧(xT h p).length≤40+p.length:=by
 have h1:(pkT h).length=0∨(pkT h).length=12:=by unfold pkT;split<;>simp
 unfold xT
 simp only[List.length_append,st2_len,pk20_len,putBlen]
 omega
def zc(b:List UInt8):Prop:=b≠[]∧b.length≤1500
theorem pqS_sized(t:List Int)(fl:Int)(reg:Bool)(x:Pq)(h:∀b∈x.bs,zc b):∀b∈(pqS t fl reg x).bs,zc b:=by
 have h1:zc (xT (pqH t fl x) (pqP t x)):=by
   have:=pkt_len (pqH t fl x) (pqP t x)
   have h2:=zA t (qh t x.a) (q7 .add .i64 6 1) (by decide) (by decide)
   have e:q7 .add .i64 6 1=7:=rfl
   have h3:(pqP t x).length≤6:=by unfold pqP xx;rw[bytesL_len];omega
   exact⟨fun e=>by rw[e] at this;simp at this,by omega⟩
 have h2:∀a,zc (kH t a 40):=fun a=>by
   have h2:=zA t (adv t a 1) (q7 .add .i64 (q7 .sub .i64 40 1) 1) (by decide) (by decide)
   have e:q7 .add .i64 (q7 .sub .i64 40 1) 1=40:=rfl
   unfold kH
   refine⟨fun e=>(by cases e),?_⟩
   rw[List.length_cons,bytesL_len]
   unfold xx
   omega
 unfold pqS
 (repeat' split)<;>intro b hb<;>simp only[List.mem_append,List.mem_singleton] at hb
 · rcases hb with hb|rfl
   · exact h b hb
   · exact h1
 · rcases hb with (hb|rfl)|rfl
   · exact h b hb
   · exact h1
   · exact h2 _
 · rcases hb with hb|rfl
   · exact h b hb
   · exact h1
theorem pqI_sized(t:List Int)(fl:Int)(reg:Bool):∀(n:Nat) (x:Pq),(∀b∈x.bs,zc b)→∀b∈(pqI t fl reg n x).bs,zc b
 | 0,_,h=>h
 | n+1,x,h=>pqI_sized t fl reg n _ (pqS_sized t fl reg x h)
theorem pks_sized(t:List Int)(a fl:Nat)(cnt:Int)(reg:Bool):∀b∈(kP t a fl cnt reg).bs,zc b:=pqI_sized t fl reg _ _ fun b hb=>by cases hb
theorem pqI_len(t:List Int)(fl:Int)(reg:Bool):∀(n:Nat) (x:Pq),(pqI t fl reg n x).bs.length≤x.bs.length+2*n
 | 0,_=>by simp[pqI]
 | n+1,x=>by
   have h1:=pqI_len t fl reg n (pqS t fl reg x)
   have h2:(pqS t fl reg x).bs.length≤x.bs.length+2:=by unfold pqS;(repeat' split)<;>simp
   show(pqI t fl reg n (pqS t fl reg x)).bs.length≤_
   omega
attribute [irreducible] kP
end Go.Proofs.YtndpmpnmkpaklaaGreatDoor
namespace Go.Proofs.YtndpmpnmkpaklaaGreatDoor
open Go.RowKit
theorem dec_ep{d:De}{b:List UInt8}{hb:b.length≤140737488355328}:(qr d b hb).e≠0→(qr d b hb).p=[]:=by
 unfold qr
 split
 · split
   · split
     · split
       · intro h;exact absurd rfl h
       · intro _;rfl
     · split
       · intro _;rfl
       · split
         · unfold decP
           split
           · split
             · intro h;exact absurd rfl h
             · intro _;rfl
           · intro _;rfl
         · intro _;rfl
   · intro _;rfl
 · intro _;rfl
def fbOk(f:Fb):Bool:=decide ((0≤f.c∧f.c<16)∧(0≤f.k∧f.k≤2)∧0≤f.n∧f.n≤65535)
def jr(l:List Hd)(n:Int):Nat→Nat
 | 0=>0
 | k+1=>if(l.getD k Hd.z).num=n then k+1 else jr l n k
theorem lastK_le(l:List Hd)(n:Int):∀k,jr l n k≤k
 | 0=>Nat.le_refl _
 | k+1=>by
   unfold jr
   split
   · exact Nat.le_refl _
   · have:=lastK_le l n k;omega
def kF(m:Int)(s:Sn)(k:Nat):Sn :=
 { s with full:=if s.ser≤k then 0 else s.full,refr:=if s.ser≤k then 0 else s.refr,rf:=if m=3 then s.rf.drop k else s.rf,ser:=if m=3 then(if 0<s.ser-k then s.ser-k else 0) else s.ser }
def ackS(m n:Int)(s:Sn):Sn:=if jr s.rf n s.rf.length=0 then s else kF m s (jr s.rf n s.rf.length-1)
def stcS(w:Int)(s:Sn):Sn:={ s with full:=w,refr:=0,ser:=s.rf.length }
def nakS(w:Int)(s:Sn):Sn:=if 0<s.full then { s with full:=w,ser:=s.rf.length } else { s with refr:=w,ser:=s.rf.length }
def appS(m w:Int)(f:Fb)(s:Sn):Sn:=if f.k=0 then ackS m f.n s else if f.k=2 then stcS w s else nakS w s
def wh(c:Co)(f:Fb):Co×Int :=
 if c.ok=true∧fbOk f=true then(if c.m=1 then(Co.z,16) else if(c.at f.c.toNat).act=true then(c.set f.c.toNat (appS c.m c.w f (c.at f.c.toNat)),0) else(Co.z,8)) else(Co.z,1)
section
variable {m w:Int}{s:Sn}
theorem ackK_ok{k:Nat}(hs:s.ok m w=true)(ha:s.act=true)(hk:k<s.rf.length):(kF m s k).ok m w=true∧qD (kF m s k).fst s.fst=true∧(kF m s k).lst=s.lst:=by
 have hM:=vf hs ha (xk s.fst)
 obtain⟨h1,h2,h3,h4⟩:=(Sn.ok_e ha).1 hs
 have hf:=hM.full
 have hr:=hM.refr
 have hse:=hM.ser
 have hrf:∀r∈(kF m s k).rf,r∈s.rf:=fun r hr=>by
   unfold kF at hr
   dsimp only at hr
   split at hr
   · exact List.mem_of_mem_drop hr
   · exact hr
 have hlen:(kF m s k).rf.length=if m=3 then s.rf.length-k else s.rf.length:=by
   unfold kF;dsimp only
   split
   · rw[List.length_drop]
   · rfl
 have hpos:0<(kF m s k).rf.length:=by rw[hlen];split<;>omega
 have hfm:=hrf _ (mem_fst hpos)
 have hfs:=(hM.refs _ hfm).2
 refine⟨sn_ok_of ha ?_ h2 ?_ fun r hr=>⟨(hM.refs r (hrf r hr)).1,xj (hM.refs r (hrf r hr)).2 (je hfs)⟩,hfs,?_⟩
 · unfold rngP at h1 ⊢
   rw[hlen]
   have hsr:(kF m s k).ser=if m=3 then(if 0<s.ser-k then s.ser-k else 0) else s.ser:=rfl
   have hfl:(kF m s k).full=if s.ser≤k then 0 else s.full:=rfl
   have hrr:(kF m s k).refr=if s.ser≤k then 0 else s.refr:=rfl
   have hsi:(kF m s k).sin=s.sin:=rfl
   have hlo:(kF m s k).lng=s.lng:=rfl
   rw[hsr,hfl,hrr,hsi,hlo]
   obtain⟨g1,g2,g3,g4,g5,g6,g7,g8⟩:=h1
   refine⟨?_,?_,⟨?_,?_⟩,⟨?_,?_⟩,⟨?_,?_⟩,?_,g7,g8⟩
   all_goals(repeat' split)<;>omega
 · show(kF m s k).fst.k=2∨s.dy=Dy.z
   have:=hM.dz
   rw[(za.1 hfs).1];exact this
 · unfold Sn.lst
   rw[hlen]
   unfold kF
   dsimp only
   split
   · rw[List.getD_eq_getElem?_getD,List.getElem?_drop,List.getD_eq_getElem?_getD]
     congr 2;omega
   · rfl
theorem set_ok{s':Sn}(hs:s.ok m w=true)(ha:s.act=true)(hw:1≤w)(h1:s'.act=s.act)(h2:s'.rf=s.rf)(h3:s'.dy=s.dy)(h4:s'.ser=s.rf.length)(h5:s'.sin=s.sin)(h6:s'.lng=s.lng)(h7:0≤s'.full∧s'.full≤w)(h8:0≤s'.refr∧s'.refr≤w)(h9:¬(0<s'.full∧0<s'.refr)) :
   s'.ok m w=true∧qD s'.fst s.fst=true∧s'.lst=s.lst:=by
 have hM:=vf hs ha (xk s.fst)
 obtain⟨g1,g2,g3,g4⟩:=(Sn.ok_e ha).1 hs
 have hfst:s'.fst=s.fst:=by unfold Sn.fst;rw[h2]
 have hlst:s'.lst=s.lst:=by unfold Sn.lst;rw[h2]
 refine⟨sn_ok_of (h1.trans ha) ?_ (h3▸g2) (by rw[hfst,h3];exact hM.dz) (fun r hr=>by rw[h2] at hr;rw[hfst];exact hM.refs r hr),by rw[hfst];exact xk _,hlst⟩
 unfold rngP at g1 ⊢
 rw[h2,h4,h5,h6]
 obtain⟨k1,k2,k3,k4,k5,k6,k7,k8⟩:=g1
 exact⟨k1,k2,⟨by omega,by omega⟩,h7,h8,h9,k7,k8⟩
theorem appS_ok(f:Fb)(hs:s.ok m w=true)(ha:s.act=true)(hw:1≤w):(appS m w f s).ok m w=true∧(appS m w f s).act=true∧(appS m w f s).dy=s.dy∧qD (appS m w f s).fst s.fst=true∧(appS m w f s).lst=s.lst:=by
 have hM:=vf hs ha (xk s.fst)
 have hf:=hM.full
 have hr:=hM.refr
 have hb:=hM.both
 unfold appS
 split
 · unfold ackS
   split
   · exact⟨hs,ha,rfl,xk _,rfl⟩
   · have h1:=lastK_le s.rf f.n s.rf.length
     have h2:=ackK_ok (k:=jr s.rf f.n s.rf.length-1) hs ha (by omega)
     exact⟨h2.1,ha,rfl,h2.2.1,h2.2.2⟩
 · split
   · have h2:=set_ok (s':=stcS w s) hs ha hw rfl rfl rfl rfl rfl rfl ⟨by show 0≤w;omega,Int.le_refl _⟩ ⟨Int.le_refl _,by show 0≤w;omega⟩ (by show ¬(0<w∧(0:Int)<0);omega)
     exact⟨h2.1,ha,rfl,h2.2.1,h2.2.2⟩
   · unfold nakS
     split
     · have h2:=set_ok (s':={ s with full:=w,ser:=s.rf.length }) hs ha hw rfl rfl rfl rfl rfl rfl ⟨by show 0≤w;omega,Int.le_refl _⟩ hr (by show ¬(0<w∧0<s.refr);omega)
       exact⟨h2.1,ha,rfl,h2.2.1,h2.2.2⟩
     · have h2:=set_ok (s':={ s with refr:=w,ser:=s.rf.length }) hs ha hw rfl rfl rfl rfl rfl rfl hf ⟨by show 0≤w;omega,Int.le_refl _⟩ (by show ¬(0<s.full∧0<w);omega)
       exact⟨h2.1,ha,rfl,h2.2.1,h2.2.2⟩
end
theorem fbOk_e{f:Fb}:fbOk f=true↔(0≤f.c∧f.c<16)∧(0≤f.k∧f.k≤2)∧0≤f.n∧f.n≤65535:=by unfold fbOk;rw[decide_eq_true_iff]
theorem app_ok{c:Co}{f:Fb}(hc:c.ok=true)(h0:(wh c f).2=0):(wh c f).1.ok=true∧(wh c f).1.m=c.m∧(wh c f).1.w=c.w:=by
 unfold wh at h0 ⊢
 split at h0
 case isFalse=>exact absurd h0 (by decide)
 rename_i hk
 rw[if_pos hk]
 split at h0
 · exact absurd h0 (by decide)
 rename_i hm
 rw[if_neg hm]
 split at h0
 case isFalse=>exact absurd h0 (by decide)
 rename_i ha
 rw[if_pos ha]
 have hf:=fbOk_e.1 hk.2
 have hi:f.c.toNat<16:=by omega
 obtain⟨g1,g2,g3,g4⟩:=y9.1 hc
 have hs:=g3 _ hi
 have hA:=appS_ok f hs ha g1.2.2.1
 refine⟨co_set (h:=(c.at f.c.toNat).fst) hc hi hA.1 (fun _=>hA.2.2.2.1) fun k hk2 hne hka=>?_,rfl,rfl⟩
 cases hq:qD (c.at k).fst (c.at f.c.toNat).fst with
 | false=>rfl
 | true =>
   rcases Nat.lt_or_gt_of_ne hne with hlt|hgt
   · have:=g4 _ k hlt hi
     rw[yO.2 ⟨ha,hka,je hq⟩] at this;cases this
   · have:=g4 k _ hgt hk2
     rw[yO.2 ⟨hka,ha,hq⟩] at this;cases this
theorem app_inv{c:Co}{d:De}{f:Fb}(hI:Inv c d)(h0:(wh c f).2=0):Inv (wh c f).1 d∧(wh c f).1.m=c.m∧(wh c f).1.w=c.w:=by
 obtain⟨hc,hd,h3⟩:=hI
 have hok:=app_ok hc h0
 refine⟨⟨hok.1,hd,?_⟩,hok.2⟩
 clear hok
 unfold wh at h0 ⊢
 split at h0
 case isFalse=>exact absurd h0 (by decide)
 rename_i hk
 rw[if_pos hk]
 split at h0
 · exact absurd h0 (by decide)
 rename_i hm
 rw[if_neg hm]
 split at h0
 case isFalse=>exact absurd h0 (by decide)
 rename_i ha
 rw[if_pos ha]
 have hf:=fbOk_e.1 hk.2
 have hi:f.c.toNat<16:=by omega
 obtain⟨g1,g2,g3,g4⟩:=y9.1 hc
 have hA:=appS_ok f (g3 _ hi) ha g1.2.2.1
 intro k hk2 hka
 rw[co_at g2 hi] at hka ⊢
 split
 · rename_i e
   subst e
   have h5:=h3 _ hi ha
   exact⟨h5.1,by rw[h5.2.1,hA.2.2.2.2],by rw[h5.2.2,hA.2.2.1]⟩
 · rename_i e
   rw[if_neg e] at hka
   exact h3 k hk2 hka
open Go.RowKit
def Fb.z:Fb:=⟨0,0,0⟩
def w7(f:Fb):List UInt8:=(if 0<f.c then[b8 (qA .or .i64 224 f.c)] else[])++[b8 (qA .or .i64 240 f.k),b8 (f.n.fdiv (2^min (Int.toNat 8) IntKind.i64.bits)),b8 f.n]
def wL(f:Fb):List UInt8×Int:=if fbOk f=true then(w7 f++[b8 (wb 8 (w7 f))],0) else([],1)
theorem encF_len(f:Fb):(wL f).1.length≤100:=by
 unfold wL w7
 (repeat' split)<;>simp
def xh(b:List UInt8):Nat:=if qA .and .u8 (b.getD 0 0).toNat 240=224 then 1 else 0
def fbVal(b:List UInt8):Fb :=
 ⟨if xh b=1 then qA .andNot .u8 (b.getD 0 0).toNat 240 else 0,((b.getD (xh b) 0).toNat:Int)-240,((b.getD (xh b+1) 0).toNat:Int)*256+(b.getD (xh b+2) 0).toNat⟩
def decF(b:List UInt8):Fb×Int :=
 if b=[] then(Fb.z,5) else if b.length<4+xh b then(Fb.z,5)
 else if 4+xh b<b.length∨fbOk (fbVal b)=false∨(xh b=1∧(fbVal b).c=0) then(Fb.z,4)
 else if wb 8 (b.take (b.length-1))=((b.getD (xh b+3) 0).toNat:Int) then(fbVal b,0) else(Fb.z,6)
structure Dv where
 i:Nat
 p:List UInt8
 e:Int
@[reducible] def Dv.cs(x:Dv):List AV:=[.int .i64 x.i,bv x.p,iAV x.e]
@[reducible] def msC(x:Nat×List UInt8):List AV:=[.int .i64 x.1,bv x.2]
structure Hk where
 c:Co
 d:De
 nx:Nat
 way:List (Nat×List UInt8)
 back:List (List UInt8)
 out:List Dv
def dcR(d:De)(b:List UInt8):Dr:=if hb:b.length≤140737488355328 then qr d b hb else⟨d,[],[],1⟩
def xa(ps:List (List UInt8))(x:Hk):Hk :=
 if x.nx=ps.length then x else if(qx x.c (ps.getD x.nx [])).2=0 then { x with c:=(qx x.c (ps.getD x.nx [])).1.1,way:=x.way++[(x.nx,(qx x.c (ps.getD x.nx [])).1.2)],nx:=x.nx+1 } else { x with nx:=x.nx+1 }
def jE(x:Hk):Hk :=
 match x.way with
 | []=>x
 | m::w=>{ x with d:=(dcR x.d m.2).d,out:=x.out++[⟨m.1,(dcR x.d m.2).p,(dcR x.d m.2).e⟩],back:=x.back++(dcR x.d m.2).b.map (fun f=>(wL f).1),way:=w }
def wK(n a:Int):Int:=(q7 .add .i64 (a.tmod n) n).tmod n
def flpB(b:List UInt8)(a:Int):List UInt8 :=
 b.set ((wK (8*b.length) a).tdiv 8).toNat (b8 (qA .xor .u8 (b.getD ((wK (8*b.length) a).tdiv 8).toNat 0).toNat (IntKind.u8.wrap (1*2^(min (q7 .sub .i64 7 ((wK (8*b.length) a).tmod 8)).toNat 8)))))
def wJ(a:Int)(x:Hk):Hk :=
 match x.way with
 | []=>x
 | m::w=>{ x with way:=(m.1,flpB m.2 a)::w }
def bakC(c:Co)(b:List UInt8):Co:=if(decF b).2=0∧(wh c (decF b).1).2=0 then(wh c (decF b).1).1 else c
def vv(x:Hk):Hk :=
 match x.back with
 | []=>x
 | b::r=>{ x with c:=bakC x.c b,back:=r }
def losR(x:Hk):Hk:={ x with way:=x.way.drop 1 }
def lbkR(x:Hk):Hk:={ x with back:=x.back.drop 1 }
def kC(ps:List (List UInt8))(x:Hk)(k a:Int):Hk :=
 if k=1 then xa ps x else if k=3 then jE x else if k=4 then losR x else if k=6 then wJ a x else if k=8 then vv x else if k=9 then lbkR x else x
def xw(ps:List (List UInt8)):List (Int×Int)→Hk→Hk
 | [],x=>x
 | s::l,x=>xw ps l (kC ps x s.1 s.2)
theorem yn(ps:List (List UInt8)):∀(l m:List (Int×Int)) (x:Hk),xw ps (l++m) x=xw ps m (xw ps l x)
 | [],_,_=>rfl
 | _::l,m,x=>yn ps l m _
theorem hcompr_len{c:Co}{b:List UInt8}(hc:c.ok=true)(h0:b≠[])(h1:b.length≤1500):1≤(qx c b).1.2.length∧(qx c b).1.2.length≤3000:=by
 have raw:1≤(zC (jQ b)).1.length∧(zC (jQ b)).1.length≤3000:=by
   rw[raw_enc h1];simp;omega
 unfold qx
 rw[if_pos hc,if_neg (by rintro(k|k);exact h0 k;omega)]
 split
 · rename_i hp
   have hp2:qE b=(((qE b).1.1,(qE b).1.2),0):=by rw[←hp]
   split
   · rename_i i hf
     split
     · exact raw
     · obtain⟨ho,-,-,-,hpl⟩:=j6 hp2
       obtain⟨hi,hs,hh,-⟩:=j8 hc hf
       have hm:=yK (co_w hc).2.2.1 hs hh
       have hPok:=yv (c:=(i:Int)) (pl:=(qE b).1.2) ho hm.1.dok hm.1.dz ⟨by omega,by omega⟩ hm.2.1 hpl
       have h9:=hd_len _ hPok
       have h8:=(Sm.of _ hPok).1
       show 1≤(zC (qn _ _ _ _ _)).1.length∧(zC (qn _ _ _ _ _)).1.length≤3000
       rw[vn hPok]
       dsimp only
       rw[List.length_append]
       omega
   · exact raw
 · exact raw
structure OrdH(ps:List (List UInt8))(x:Hk):Prop where
 w:(x.out.map (·.i)++x.way.map (·.1)).Pairwise (·<·)
 n:∀i∈x.out.map (·.i)++x.way.map (·.1),i<x.nx
 le:x.nx≤ps.length
 e:∀v∈x.out,v.e≠0→v.p=[]
theorem flp_fst(a:Int)(x:Hk):(wJ a x).way.map (·.1)=x.way.map (·.1):=by
 unfold wJ
 split
 · rfl
 · rename_i h
   rw[h];rfl
theorem step_ord{ps:List (List UInt8)}{x:Hk}(h:OrdH ps x)(k a:Int):OrdH ps (kC ps x k a):=by
 obtain⟨h1,h2,h3,h4⟩:=h
 have hdrop:∀w':List (Nat×List UInt8),List.Sublist w' x.way→OrdH ps { x with way:=w' }:=fun w' hs=>by
   have hs2:List.Sublist (x.out.map (·.i)++w'.map (·.1)) (x.out.map (·.i)++x.way.map (·.1)):=(List.Sublist.refl _).append (hs.map _)
   exact⟨h1.sublist hs2,fun i hi=>h2 i (hs2.subset hi),h3,h4⟩
 unfold kC
 split
 · unfold xa
   split
   · exact⟨h1,h2,h3,h4⟩
   · split
     · refine⟨?_,?_,by show x.nx+1≤ps.length;omega,h4⟩
       · show(x.out.map (·.i)++(x.way++[(x.nx,(qx x.c (ps.getD x.nx [])).1.2)]).map (·.1)).Pairwise (·<·)
         rw[List.map_append,←List.append_assoc,List.pairwise_append]
         refine⟨h1,by simp,fun i hi j hj=>?_⟩
         simp at hj
         subst hj
         exact h2 i hi
       · intro i hi
         have hi:i∈x.out.map (·.i)++(x.way++[(x.nx,(qx x.c (ps.getD x.nx [])).1.2)]).map (·.1):=hi
         rw[List.map_append,←List.append_assoc,List.mem_append] at hi
         show i<x.nx+1
         rcases hi with hi|hi
         · have:=h2 i hi;omega
         · simp at hi;omega
     · exact⟨h1,fun i hi=>by have:=h2 i hi;show i<x.nx+1;omega,by show x.nx+1≤ps.length;omega,h4⟩
 · split
   · unfold jE
     split
     · exact⟨h1,h2,h3,h4⟩
     · rename_i m w hw
       rw[hw] at h1 h2
       refine⟨?_,?_,h3,?_⟩
       · show((x.out++[(⟨m.1,_,_⟩:Dv)]).map (·.i)++w.map (·.1)).Pairwise (·<·)
         rw[List.map_append,List.append_assoc]
         exact h1
       · intro i hi
         refine h2 i ?_
         have hi:i∈(x.out++[(⟨m.1,(dcR x.d m.2).p,(dcR x.d m.2).e⟩:Dv)]).map (·.i)++w.map (·.1):=hi
         rw[List.map_append,List.append_assoc] at hi
         exact hi
       · intro v hv
         have hv:v∈x.out++[(⟨m.1,(dcR x.d m.2).p,(dcR x.d m.2).e⟩:Dv)]:=hv
         rw[List.mem_append] at hv
         rcases hv with hv|hv
         · exact h4 v hv
         · simp at hv
           subst hv
           show(dcR x.d m.2).e≠0→(dcR x.d m.2).p=[]
           unfold dcR
           split
           · exact dec_ep
           · intro _;rfl
   · split
     · exact hdrop _ (List.drop_sublist _ _)
     · split
       · have hf:=flp_fst a x
         have ho:(wJ a x).out=x.out:=by unfold wJ;split<;>rfl
         have hn:(wJ a x).nx=x.nx:=by unfold wJ;split<;>rfl
         exact⟨by rw[hf,ho];exact h1,by rw[hf,ho,hn];exact h2,by rw[hn];exact h3,by rw[ho];exact h4⟩
       · split
         · unfold vv
           split
           · exact⟨h1,h2,h3,h4⟩
           · exact⟨h1,h2,h3,h4⟩
         · split
           · exact⟨h1,h2,h3,h4⟩
           · exact⟨h1,h2,h3,h4⟩
theorem run_ord{ps:List (List UInt8)}:∀(l:List (Int×Int)) {x:Hk},OrdH ps x→OrdH ps (xw ps l x)
 | [],_,h=>h
 | s::l,_,h=>run_ord l (step_ord h s.1 s.2)
structure vz(ps:List (List UInt8))(i:Nat)(x:Hk):Prop where
 inv:Inv x.c x.d
 nx:x.nx=i
 way:x.way=[]
 out:x.out=(List.range i).map fun j=>⟨j,ps.getD j [],0⟩
theorem bak_syn{ps:List (List UInt8)}{i:Nat}{x:Hk}(h:vz ps i x):vz ps i (vv x):=by
 obtain⟨h1,h2,h3,h4⟩:=h
 unfold vv
 split
 · exact⟨h1,h2,h3,h4⟩
 · refine⟨?_,h2,h3,h4⟩
   show Inv (bakC x.c _) x.d
   unfold bakC
   split
   · rename_i hb
     exact(app_inv h1 hb.2).1
   · exact h1
theorem two_syn{ps:List (List UInt8)}{i:Nat}{x:Hk}(h:vz ps i x)(hi:i<ps.length)(hs:∀b∈ps,zc b):vz ps (i+1) (jE (xa ps x)):=by
 obtain⟨h1,h2,h3,h4⟩:=h
 have hm:ps.getD i []∈ps:=by rw[List.getD_eq_getElem?_getD,List.getElem?_eq_getElem hi];exact List.getElem_mem hi
 obtain⟨g1,g2⟩:=hs _ hm
 obtain⟨c',y,e1,e2,e3⟩:=inv_step h1 g1 g2
 have hb:y.length≤140737488355328:=by omega
 obtain⟨d',fb,e4,e5⟩:=e3 hb
 have hsend:xa ps x={ x with c:=c',way:=[(i,y)],nx:=i+1 }:=by
   unfold xa
   rw[h2,if_neg (by omega),e1,if_pos rfl,h3]
   rfl
 rw[hsend]
 have hd:dcR x.d y=⟨d',ps.getD i [],fb,0⟩:=by unfold dcR;rw[dif_pos hb,e4]
 unfold jE
 dsimp only
 rw[hd]
 refine⟨e5,rfl,rfl,?_⟩
 show x.out++[_]=_
 rw[h4,List.range_succ,List.map_append]
 rfl
theorem syn_new{ps:List (List UInt8)}{m w:Int}(hm:1≤m∧m≤3)(hw:1≤w∧w≤8)(hI:Inv ⟨m,w,List.replicate 16 Sn.z⟩ ⟨m,List.replicate 16 Rc.z⟩):vz ps 0 ⟨⟨m,w,List.replicate 16 Sn.z⟩,⟨m,List.replicate 16 Rc.z⟩,0,[],[],[]⟩:=⟨hI,rfl,rfl,rfl⟩
theorem ord_new{ps:List (List UInt8)}{c:Co}{d:De}:OrdH ps ⟨c,d,0,[],[],[]⟩:=⟨List.Pairwise.nil,(fun _ h=>nomatch h),Nat.zero_le _,(fun _ h=>nomatch h)⟩
structure wM(ps:List (List UInt8))(n:Nat)(x:Hk):Prop where
 c:x.c.ok=true
 d:x.d.ok=true
 nx:x.nx≤ps.length
 way:∀m∈x.way,1≤m.2.length∧m.2.length≤3000
 bk:∀b∈x.back,b.length≤100
 wl:x.way.length≤n
 bl:x.back.length≤n
 ol:x.out.length≤n
open Go.RowKit
variable {G:Nat→AV}
@[reducible] def Fb.av(x:Fb):AV:=.agg x.cs
theorem vk(f:Fb):LP Tryz.prog G 133 [f.av] [] (fun _=>(.bool (fbOk f),[])):=by
 refine goW [] Tryz.func133 rfl ?_
 conv=>whnf
 repeat'((first|refine T.s ?_|((first|apply goB|apply AB.dec|apply AB.gen)<;>intro h<;>try(exfalso;omega))|refine LQ.mk fun r=>?_|exact T.z|fail)<;>conv=>whnf)
 all_goals(try dsimp only)
 all_goals
   (show RL _ _ _;refine goR ?_)
   refine congrArg AV.bool ?_
   unfold fbOk
   first|(show decide (_≤_)=decide _;exact decide_eq_decide.2 (by omega))|exact(decide_eq_true (by omega)).symm|exact(decide_eq_false (by omega)).symm|trace_state
theorem flat_ii(n m:Int):Flat (.tup [iAV n,iAV m]):=Flat.tup fun x hx=>by
 simp only[List.mem_cons,List.not_mem_nil,or_false] at hx
 rcases hx with rfl|rfl<;>exact Flat.int _ _
theorem fbenc_c(f:Fb):LP Tryz.prog gm 85 [f.av] [] (fun _=>(.tup [bv (wL f).1,iAV (wL f).2],[])):=by
 have hv:=vk (G:=gm) f
 unfold wL
 cases hk:fbOk f with
 | false =>
   rw[hk] at hv
   rw[if_neg (by decide)]
   refine goW [] Tryz.func85 rfl ?_
   conv=>whnf
   repeat'((first|(show LC _ _ _ _ _ _;first|refine LC.pure (hv) ?_|refine goE ?_)|refine T.s ?_|((first|apply goB|apply AB.dec|apply AB.gen)<;>intro h<;>try(exfalso;omega))|refine LQ.mk fun r=>?_|exact T.z|refine⟨_,rfl,rfl,?_⟩|fail)<;>conv=>whnf)
   all_goals(try dsimp only)
   all_goals first|exact RL.frz [] (LF.tup ⟨LF.nils rfl rfl,LF.eq rfl,trivial⟩) LB.nil|trace_state
 | true =>
   rw[hk] at hv
   rw[if_pos rfl]
   by_cases hc:0<f.c
   · have hp:w7 f=[b8 (qA .or .i64 224 f.c),b8 (qA .or .i64 240 f.k),b8 (f.n.fdiv (2^min (Int.toNat 8) IntKind.i64.bits)),b8 f.n]:=by unfold w7;rw[if_pos hc];rfl
     have hsum:=vq 8 (w7 f) (by rw[hp];simp)
     rw[crcO_y (by decide +kernel)] at hsum
     generalize wb 8 (w7 f)=C at *
     rw[hp] at hsum ⊢
     dsimp only at hsum
     refine goW [] Tryz.func85 rfl ?_
     conv=>whnf
     repeat'((first|(show LC _ _ 134 _ _ _;refine LC.lend hsum [_] ⟨LF.eq rfl,LF.row InL.here (LH.here ⟨by decide,rfl,rfl,by simp[qU]⟩),trivial⟩ (flat_ii _ _) ?_)|(show LC _ _ _ _ _ _;first|refine LC.pure (hv) ?_|refine goE ?_)|refine T.s ?_|((first|apply goB|apply AB.dec|apply AB.gen)<;>intro h<;>try(exfalso;omega))|refine LQ.mk fun r=>?_|exact T.z|refine⟨_,rfl,rfl,?_⟩|fail)<;>conv=>whnf)
     all_goals(try dsimp only)
     all_goals first
       | contradiction
       | exact RL.frz [r] (LF.tup ⟨LF.row InL.here (LH.here ⟨by decide,rfl,rfl,by simp[qU]⟩),LF.eq rfl,trivial⟩) (LH.here LB.nil)
       | trace_state
   · have hp:w7 f=[b8 (qA .or .i64 240 f.k),b8 (f.n.fdiv (2^min (Int.toNat 8) IntKind.i64.bits)),b8 f.n]:=by unfold w7;rw[if_neg hc];rfl
     have hsum:=vq 8 (w7 f) (by rw[hp];simp)
     rw[crcO_y (by decide +kernel)] at hsum
     generalize wb 8 (w7 f)=C at *
     rw[hp] at hsum ⊢
     dsimp only at hsum
     refine goW [] Tryz.func85 rfl ?_
     conv=>whnf
     repeat'((first|(show LC _ _ 134 _ _ _;refine LC.lend hsum [_] ⟨LF.eq rfl,LF.row InL.here (LH.here ⟨by decide,rfl,rfl,by simp[qU]⟩),trivial⟩ (flat_ii _ _) ?_)|(show LC _ _ _ _ _ _;first|refine LC.pure (hv) ?_|refine goE ?_)|refine T.s ?_|((first|apply goB|apply AB.dec|apply AB.gen)<;>intro h<;>try(exfalso;omega))|refine LQ.mk fun r=>?_|exact T.z|refine⟨_,rfl,rfl,?_⟩|fail)<;>conv=>whnf)
     all_goals(try dsimp only)
     all_goals first
       | contradiction
       | exact RL.frz [r] (LF.tup ⟨LF.row InL.here (LH.here ⟨by decide,rfl,rfl,by simp[qU]⟩),LF.eq rfl,trivial⟩) (LH.here LB.nil)
       | trace_state
end Go.Proofs.YtndpmpnmkpaklaaGreatDoor
