/-
  Contracts of the functions that the laws reach.
-/
import Derived.ProofKit
import Derived.OpenShut
import Derived.LaidMore
import Derived.Stop.Joined
import Derived.WideKeyElems2
import Derived.Test.YtndpmpnmkpaklaaGreatDoorHo37
set_option maxHeartbeats 8000000
set_option linter.all false
namespace Go.Proofs.YtndpmpnmkpaklaaGreatDoor
open Go.RowKit
def lstS(x:Nat×Nat)(k:Int):Nat×Nat:=if k=4 then(max x.1 (x.2+1),x.2+1) else if k=3 then(x.1,0) else x
def lstI:List (Int×Int)→Nat×Nat→Nat×Nat
 | [],x=>x
 | s::l,x=>lstI l (lstS x s.1)
def lostR(l:List (Int×Int)):Nat:=(lstI l (0,0)).1
theorem lstI_app:∀(l m:List (Int×Int)) (x:Nat×Nat),lstI (l++m) x=lstI m (lstI l x)
 | [],_,_=>rfl
 | _::l,m,x=>lstI_app l m _
theorem qO{l:List (Int×Int)}{i:Nat}{x y:Nat×Nat}(hi:i<l.length)(h:lstI (l.take i) (0,0)=x)(hy:lstS x (l.getD i (0,0)).1=y):lstI (l.take (i+1)) (0,0)=y:=by
 rw[List.take_succ_eq_append_getElem hi,lstI_app,h,←hy]
 simp[List.getD_eq_getElem?_getD,hi,lstI]
theorem kk{x:Nat×Nat}{k:Int}(h:k=4){y:Nat×Nat}(hy:y=(max x.1 (x.2+1),x.2+1)):lstS x k=y:=by subst hy;exact if_pos h
theorem lst_z{x:Nat×Nat}{k:Int}(h:¬k=4)(h3:k=3):lstS x k=(x.1,0):=(if_neg h).trans (if_pos h3)
theorem lst_s{x:Nat×Nat}{k:Int}(h:¬k=4)(h3:¬k=3):lstS x k=x:=(if_neg h).trans (if_neg h3)
theorem mx_e{a b:Nat}(h:b≤100000):(if(a:Int)<q7 .add .i64 (b:Int) 1 then q7 .add .i64 (b:Int) 1 else(a:Int))=((max a (b+1):Nat):Int):=by
 have h1:q7 .add .i64 (b:Int) 1=(b:Int)+1:=by(exact T.num)
 rw[h1]
 split<;>omega
theorem md_e{b:Nat}(h:b≤100000):q7 .add .i64 (b:Int) 1=((b+1:Nat):Int):=by(exact T.num)
section
variable {G:Nat→AV}
theorem hlost_c(l:List (Int×Int))(hl:l.length≤100000):LP Tryz.prog G 21 [spv l] [] (fun _=>(iAV (lostR l),[])):=by
 refine goW [] Tryz.func21 rfl ?_
 conv=>whnf
 repeat'((first|(refine And.intro ?_ ?_;(focus(first|exact kg xP (by assumption)|exact T.kx|exact T.side)))|(show AC _ _ _;first|(refine AC.recd xP i (0,0) ?_ rfl ?_ ?_;(focus((try dsimp only);omega));(focus omega)))|refine T.s ?_|((first|apply goB|apply AB.dec|apply AB.gen)<;>intro h<;>try(exfalso;omega))|refine LQ.mk fun r=>?_|(show SWpL _ _ _ (.loop _) _ _ _;first|(apply goO tQ [] 3 (S:=Nat×(Nat×Nat)) [7,8] (fun(i,x)=>⟨[(9,.int .i64 i),(3,.int .i64 x.1),(4,.int .i64 x.2)],[],i≤l.length∧x.1≤i∧x.2≤i∧lstI (l.take i) (0,0)=x,l.length-i⟩) ((0,(0,0))) (by rfl);(focus((repeat' first|exact trivial|(refine And.intro ?_ ?_)|exact LB.nil|(with_reducible exact LB.refl)|(apply LB.cons;(repeat first|refine goH ?_|apply LH.here|apply LH.next);refine And.intro ?_ ?_;(focus(try(first|(with_reducible rfl)|(refine congrArg (Pl.mk _) ?_;(first|rfl|(simp;done)))|rfl|(with_reducible refine congrArg (Pl.mk _) ?_)))))|assumption|(exact qO (by omega) hok (kk (by assumption) rfl))|(exact qO (by omega) hok (lst_z (by assumption) (by assumption)))|(exact qO (by omega) hok (lst_s (by assumption) (by assumption)))|((conv=>lhs;whnf);refine congrArg (AV.int _) ?_;first|exact mx_e (by omega)|exact md_e (by omega))|(show max _ _≤_;omega)|(exact Nat.le_succ_of_le (by assumption))|(first|(focus(apply Eq.trans;(conv=>lhs;whnf);(conv=>rhs;whnf);done))|rfl|((conv=>lhs;whnf);first|rfl|(refine congrArg (AV.int _) ?_;(exact T.num))|(refine congrArg AV.bool ?_;(exact T.num))|(refine vwc ?_;first|(exact T.num)|(first|rfl|(simp;done)))|(refine q8 ?_ ?_<;>first|(exact T.num)|(first|rfl|(simp;done)))|(first|rfl|(simp;done))))|(exact T.num)|(dsimp only;(exact T.num))|(first|rfl|(simp;done)));done));rintro⟨i,x⟩ ⟨hk,hk,hk,hok⟩))|(show AtL _ _ _ _ _ _ _ _ _ _;first|(apply AtL.mk' (id:=3) (S:=Nat×(Nat×Nat)) ((i+1,(max x.1 (x.2+1),x.2+1)));(repeat' first|exact trivial|(refine And.intro ?_ ?_)|exact LB.nil|(with_reducible exact LB.refl)|(apply LB.cons;(repeat first|refine goH ?_|apply LH.here|apply LH.next);refine And.intro ?_ ?_;(focus(try(first|(with_reducible rfl)|(refine congrArg (Pl.mk _) ?_;(first|rfl|(simp;done)))|rfl|(with_reducible refine congrArg (Pl.mk _) ?_)))))|assumption|(exact qO (by omega) hok (kk (by assumption) rfl))|(exact qO (by omega) hok (lst_z (by assumption) (by assumption)))|(exact qO (by omega) hok (lst_s (by assumption) (by assumption)))|((conv=>lhs;whnf);refine congrArg (AV.int _) ?_;first|exact mx_e (by omega)|exact md_e (by omega))|(show max _ _≤_;omega)|(exact Nat.le_succ_of_le (by assumption))|(first|(focus(apply Eq.trans;(conv=>lhs;whnf);(conv=>rhs;whnf);done))|rfl|((conv=>lhs;whnf);first|rfl|(refine congrArg (AV.int _) ?_;(exact T.num))|(refine congrArg AV.bool ?_;(exact T.num))|(refine vwc ?_;first|(exact T.num)|(first|rfl|(simp;done)))|(refine q8 ?_ ?_<;>first|(exact T.num)|(first|rfl|(simp;done)))|(first|rfl|(simp;done))))|(exact T.num)|(dsimp only;(exact T.num))|(first|rfl|(simp;done)));done)|(apply AtL.mk' (id:=3) (S:=Nat×(Nat×Nat)) ((i+1,(x.1,0)));(repeat' first|exact trivial|(refine And.intro ?_ ?_)|exact LB.nil|(with_reducible exact LB.refl)|(apply LB.cons;(repeat first|refine goH ?_|apply LH.here|apply LH.next);refine And.intro ?_ ?_;(focus(try(first|(with_reducible rfl)|(refine congrArg (Pl.mk _) ?_;(first|rfl|(simp;done)))|rfl|(with_reducible refine congrArg (Pl.mk _) ?_)))))|assumption|(exact qO (by omega) hok (kk (by assumption) rfl))|(exact qO (by omega) hok (lst_z (by assumption) (by assumption)))|(exact qO (by omega) hok (lst_s (by assumption) (by assumption)))|((conv=>lhs;whnf);refine congrArg (AV.int _) ?_;first|exact mx_e (by omega)|exact md_e (by omega))|(show max _ _≤_;omega)|(exact Nat.le_succ_of_le (by assumption))|(first|(focus(apply Eq.trans;(conv=>lhs;whnf);(conv=>rhs;whnf);done))|rfl|((conv=>lhs;whnf);first|rfl|(refine congrArg (AV.int _) ?_;(exact T.num))|(refine congrArg AV.bool ?_;(exact T.num))|(refine vwc ?_;first|(exact T.num)|(first|rfl|(simp;done)))|(refine q8 ?_ ?_<;>first|(exact T.num)|(first|rfl|(simp;done)))|(first|rfl|(simp;done))))|(exact T.num)|(dsimp only;(exact T.num))|(first|rfl|(simp;done)));done)|(apply AtL.mk' (id:=3) (S:=Nat×(Nat×Nat)) ((i+1,x));(repeat' first|exact trivial|(refine And.intro ?_ ?_)|exact LB.nil|(with_reducible exact LB.refl)|(apply LB.cons;(repeat first|refine goH ?_|apply LH.here|apply LH.next);refine And.intro ?_ ?_;(focus(try(first|(with_reducible rfl)|(refine congrArg (Pl.mk _) ?_;(first|rfl|(simp;done)))|rfl|(with_reducible refine congrArg (Pl.mk _) ?_)))))|assumption|(exact qO (by omega) hok (kk (by assumption) rfl))|(exact qO (by omega) hok (lst_z (by assumption) (by assumption)))|(exact qO (by omega) hok (lst_s (by assumption) (by assumption)))|((conv=>lhs;whnf);refine congrArg (AV.int _) ?_;first|exact mx_e (by omega)|exact md_e (by omega))|(show max _ _≤_;omega)|(exact Nat.le_succ_of_le (by assumption))|(first|(focus(apply Eq.trans;(conv=>lhs;whnf);(conv=>rhs;whnf);done))|rfl|((conv=>lhs;whnf);first|rfl|(refine congrArg (AV.int _) ?_;(exact T.num))|(refine congrArg AV.bool ?_;(exact T.num))|(refine vwc ?_;first|(exact T.num)|(first|rfl|(simp;done)))|(refine q8 ?_ ?_<;>first|(exact T.num)|(first|rfl|(simp;done)))|(first|rfl|(simp;done))))|(exact T.num)|(dsimp only;(exact T.num))|(first|rfl|(simp;done)));done)|(apply AtL.mk' (id:=3) (S:=Nat×(Nat×Nat)) ((i+1,(max x.1 (x.2+1),x.2+1)));(repeat' first|exact trivial|(refine And.intro ?_ ?_)|exact LB.nil|(with_reducible exact LB.refl)|(apply LB.cons;(repeat first|refine goH ?_|apply LH.here|apply LH.next);refine And.intro ?_ ?_;(focus(try(first|(with_reducible rfl)|(refine congrArg (Pl.mk _) ?_;(first|rfl|(simp;done)))|rfl|(with_reducible refine congrArg (Pl.mk _) ?_)))))|assumption|(exact qO (by omega) hok (kk (by assumption) rfl))|(exact qO (by omega) hok (lst_z (by assumption) (by assumption)))|(exact qO (by omega) hok (lst_s (by assumption) (by assumption)))|((conv=>lhs;whnf);refine congrArg (AV.int _) ?_;first|exact mx_e (by omega)|exact md_e (by omega))|(show max _ _≤_;omega)|(exact Nat.le_succ_of_le (by assumption))|(first|(focus(apply Eq.trans;(conv=>lhs;whnf);(conv=>rhs;whnf);done))|rfl|((conv=>lhs;whnf);first|rfl|(refine congrArg (AV.int _) ?_;(exact T.num))|(refine congrArg AV.bool ?_;(exact T.num))|(refine vwc ?_;first|(exact T.num)|(first|rfl|(simp;done)))|(refine q8 ?_ ?_<;>first|(exact T.num)|(first|rfl|(simp;done)))|(first|rfl|(simp;done))))|(exact T.num)|(dsimp only;(exact T.num))|(first|rfl|(simp;done))))|(apply AtL.mk' (id:=3) (S:=Nat×(Nat×Nat)) ((i+1,(x.1,0)));(repeat' first|exact trivial|(refine And.intro ?_ ?_)|exact LB.nil|(with_reducible exact LB.refl)|(apply LB.cons;(repeat first|refine goH ?_|apply LH.here|apply LH.next);refine And.intro ?_ ?_;(focus(try(first|(with_reducible rfl)|(refine congrArg (Pl.mk _) ?_;(first|rfl|(simp;done)))|rfl|(with_reducible refine congrArg (Pl.mk _) ?_)))))|assumption|(exact qO (by omega) hok (kk (by assumption) rfl))|(exact qO (by omega) hok (lst_z (by assumption) (by assumption)))|(exact qO (by omega) hok (lst_s (by assumption) (by assumption)))|((conv=>lhs;whnf);refine congrArg (AV.int _) ?_;first|exact mx_e (by omega)|exact md_e (by omega))|(show max _ _≤_;omega)|(exact Nat.le_succ_of_le (by assumption))|(first|(focus(apply Eq.trans;(conv=>lhs;whnf);(conv=>rhs;whnf);done))|rfl|((conv=>lhs;whnf);first|rfl|(refine congrArg (AV.int _) ?_;(exact T.num))|(refine congrArg AV.bool ?_;(exact T.num))|(refine vwc ?_;first|(exact T.num)|(first|rfl|(simp;done)))|(refine q8 ?_ ?_<;>first|(exact T.num)|(first|rfl|(simp;done)))|(first|rfl|(simp;done))))|(exact T.num)|(dsimp only;(exact T.num))|(first|rfl|(simp;done))))|(apply AtL.mk' (id:=3) (S:=Nat×(Nat×Nat)) ((i+1,x));(repeat' first|exact trivial|(refine And.intro ?_ ?_)|exact LB.nil|(with_reducible exact LB.refl)|(apply LB.cons;(repeat first|refine goH ?_|apply LH.here|apply LH.next);refine And.intro ?_ ?_;(focus(try(first|(with_reducible rfl)|(refine congrArg (Pl.mk _) ?_;(first|rfl|(simp;done)))|rfl|(with_reducible refine congrArg (Pl.mk _) ?_)))))|assumption|(exact qO (by omega) hok (kk (by assumption) rfl))|(exact qO (by omega) hok (lst_z (by assumption) (by assumption)))|(exact qO (by omega) hok (lst_s (by assumption) (by assumption)))|((conv=>lhs;whnf);refine congrArg (AV.int _) ?_;first|exact mx_e (by omega)|exact md_e (by omega))|(show max _ _≤_;omega)|(exact Nat.le_succ_of_le (by assumption))|(first|(focus(apply Eq.trans;(conv=>lhs;whnf);(conv=>rhs;whnf);done))|rfl|((conv=>lhs;whnf);first|rfl|(refine congrArg (AV.int _) ?_;(exact T.num))|(refine congrArg AV.bool ?_;(exact T.num))|(refine vwc ?_;first|(exact T.num)|(first|rfl|(simp;done)))|(refine q8 ?_ ?_<;>first|(exact T.num)|(first|rfl|(simp;done)))|(first|rfl|(simp;done))))|(exact T.num)|(dsimp only;(exact T.num))|(first|rfl|(simp;done)))))|exact T.z|fail)<;>conv=>whnf)
 all_goals(try dsimp only)
 all_goals first
   | (have hi0:i=l.length:=(by omega)
      subst hi0
      rw[List.take_length] at hok
      (show RL _ _ _;refine goR ?_)
      unfold lostR
      rw[hok]
      rfl)
   | trace_state
end
def w12H:Hd:=⟨1,0,5,0,64,0,0,0,0,0,0,0,0,0,0⟩
def w12P:List UInt8:=xT w12H [1]
theorem w12_l:w12P.length=29:=by kernel_rfl
theorem w12_p:zc w12P:=by
 refine⟨fun hh=>?_,?_⟩
 · have h:=w12_l
   rw[hh] at h
   cases h
 · rw[w12_l];decide
theorem w12_c:LP Tryz.prog gm 24 [w12H.av,bv [1]] [] (fun _=>(bv w12P,[])):=ve w12H [1] (.inl rfl) (by decide)
theorem siz_new{ps:List (List UInt8)}{m w:Int}(hm:1≤m∧m≤3)(hw:1≤w∧w≤8):wM ps 0 (hk0 m w) :=
 ⟨(inv_new hm hw).1,(inv_new hm hw).2.1,Nat.zero_le _,(fun _ h=>nomatch h),(fun _ h=>nomatch h),Nat.le_refl _,Nat.le_refl _,Nat.le_refl _⟩
theorem w12_r:(xw [w12P] [(1,0),(3,0)] (hk0 1 1)).out=[⟨0,w12P,0⟩]:=by
 have h:=two_syn (ps:=[w12P]) (syn_new (ps:=[w12P]) (m:=1) (w:=1) (by decide) (by decide) (inv_new (by decide) (by decide))) (Nat.lt_succ_self 0) (fun b hb=>by
   simp at hb
   subst hb
   exact w12_p)
 exact h.out
attribute [local irreducible] w12P
theorem awake12_c:LP Tryz.prog gm 8 [] [] (fun _=>(.bool true,[])):=by
 have hp:=w12_c
 have hr:=hrun_c 1 1 (by decide) (by decide) [w12P] (fun b hb=>by simp at hb;subst hb;exact w12_p) (by simp) [(1,0),(3,0)] (by decide) (siz_new (by decide) (by decide))
 rw[w12_r] at hr
 have hs:=sameT_c (G:=gm) w12P
 have hlo:=hlost_c (G:=gm) [(4,0),(1,0),(4,0)] (by decide)
 rw[show lostR [(4,0),(1,0),(4,0)]=2 from by decide] at hlo
 generalize w12P=P at *
 refine goW [] Tryz.func8 rfl ?_
 conv=>whnf
 repeat'((first|(show LC _ _ 12 _ _ _;refine LC.mk' hr [_,_] ⟨LF.eq rfl,LF.eq rfl,LF.row (InL.next InL.here) ?_,LF.row InL.here ?_,trivial⟩ ?_)|(show LC _ _ 21 _ _ _;refine LC.mk' hlo [_] ⟨LF.row InL.here ?_,trivial⟩ ?_)|(show LC _ _ _ _ _ _;first|refine LC.mk' (hp) [_] ⟨LF.eq rfl,LF.rowF InL.here ?_,trivial⟩ ?_|refine LC.pure (hs) ?_|refine goE ?_)|refine T.s ?_|((first|apply goB|apply AB.dec|apply AB.gen)<;>intro h)|refine LQ.mk fun r=>?_|exact T.z|fail)<;>conv=>whnf)
 all_goals(try dsimp only)
 all_goals first
   | rfl
   | ((show RL _ _ _;refine goR ?_);rfl)
   | ((show RL _ _ _;refine goR ?_);simp_all [qu];done)
   | trace_state
end Go.Proofs.YtndpmpnmkpaklaaGreatDoor
namespace Go.Proofs.YtndpmpnmkpaklaaGreatDoor
open Go.RowKit
theorem pks_len2(t:List Int)(a fl:Nat)(cnt:Int)(reg:Bool)(h2:0≤cnt)(h3:cnt≤100):(kP t a fl cnt reg).bs.length≤2*cnt.toNat:=by
 have h1:=pqI_len t fl reg (yu t a fl cnt) ⟨(xd t a fl).1,[],qh t (xd t a fl).2⟩
 have hm:q7 .add .i64 cnt 1=cnt+1:=by(exact T.num)
 have hb:=zA t (xd t a fl).2 (q7 .add .i64 cnt 1) (by omega) (by omega)
 have hN:yu t a fl cnt≤cnt.toNat:=by unfold yu;omega
 unfold kP
 simp only[List.length_nil] at h1
 omega
def lastI(l:List Dv)(i:Nat):Int:=if i=0 then -1 else((l.getD (i-1) ⟨0,[],0⟩).i:Int)
theorem last_s(l:List Dv)(i:Nat):((l.getD i ⟨0,[],0⟩).i:Int)=lastI l (i+1):=by
 unfold lastI
 rw[if_neg (by omega)]
 rfl
theorem ord_at{ps:List (List UInt8)}{x:Hk}(h:OrdH ps x){i:Nat}(hi:i<x.out.length):lastI x.out i<((x.out.getD i ⟨0,[],0⟩).i:Int)∧(x.out.getD i ⟨0,[],0⟩).i<ps.length∧((x.out.getD i ⟨0,[],0⟩).e=0∨(x.out.getD i ⟨0,[],0⟩).p=[]):=by
 have hm:x.out.getD i ⟨0,[],0⟩∈x.out:=by rw[List.getD_eq_getElem?_getD,List.getElem?_eq_getElem hi];exact List.getElem_mem hi
 refine⟨?_,?_,?_⟩
 · unfold lastI
   split
   · omega
   · rename_i h0
     have hp:=(List.pairwise_append.1 h.w).1
     have h1:=List.pairwise_iff_getElem.1 hp (i-1) i (by rw[List.length_map];omega) (by rw[List.length_map];omega) (by omega)
     rw[List.getElem_map,List.getElem_map] at h1
     rw[List.getD_eq_getElem?_getD,List.getD_eq_getElem?_getD,List.getElem?_eq_getElem hi,List.getElem?_eq_getElem (by omega)]
     show((x.out[i-1]'(by omega)).i:Int)<_
     exact Int.ofNat_lt.2 h1
 · have h2:=h.n (x.out.getD i ⟨0,[],0⟩).i (List.mem_append_left _ (List.mem_map.2 ⟨_,hm,rfl⟩))
   exact Nat.lt_of_lt_of_le h2 h.le
 · by_cases h0:(x.out.getD i ⟨0,[],0⟩).e=0
   · exact .inl h0
   · exact .inr (h.e _ hm h0)
theorem run_siz{ps:List (List UInt8)}(hps:∀b∈ps,zc b):∀(l:List (Int×Int)) {x:Hk} {n:Nat},wM ps n x→wM ps (n+l.length) (xw ps l x)
 | [],_,_,h=>h
 | s::l,x,n,h=>by
   have h1:=run_siz hps l (xJ h hps s.1 s.2).1
   rw[List.length_cons,show n+(l.length+1)=n+1+l.length by omega]
   exact h1
theorem yg{ps:List (List UInt8)}{i:Nat}{al:List (Int×Int)}{x0:Hk}(h:vz ps i (xw ps al x0))(hi:i<ps.length)(hs:∀b∈ps,zc b):vz ps (i+1) (xw ps (al++[(1,0),(3,0)]) x0):=by
 rw[yn]
 exact two_syn h hi hs
theorem syn_bak{ps:List (List UInt8)}{i:Nat}{al:List (Int×Int)}{x0:Hk}(h:vz ps i (xw ps al x0))(hi:i<ps.length)(hs:∀b∈ps,zc b):vz ps (i+1) (xw ps (al++[(1,0),(3,0)]++[(8,0)]) x0):=by
 rw[yn]
 exact bak_syn (yg h hi hs)
theorem sp_app2(l:List (Int×Int))(o m:Nat)(v:List (Int×Int))(a:List AV)(ho:o=0)(hm:m=l.length*2)(ha:a=v.flatMap spC):List.take m (List.drop o (l.flatMap spC))++a=(l++v).flatMap spC:=by
 subst ho hm ha
 rw[List.drop_zero,List.take_of_length_le (by rw[qj xP];exact Nat.le_refl _),List.flatMap_append]
def allO(ps:List (List UInt8)):List Dv:=(List.range ps.length).map fun j=>⟨j,ps.getD j [],0⟩
theorem jy(ps:List (List UInt8)):(allO ps).length=ps.length:=by simp[allO]
theorem allO_at{ps:List (List UInt8)}{i:Nat}(h:i<ps.length):(allO ps).getD i ⟨0,[],0⟩=⟨i,ps.getD i [],0⟩:=by
 simp[allO,List.getD_eq_getElem?_getD,h]
attribute [local irreducible] xw
theorem EHlw2_1{p:Prop}(h:p:=by(repeat' first|exact trivial|(refine And.intro ?_ ?_)|exact LB.nil|(with_reducible exact LB.refl)|(apply LB.cons;(repeat first|refine goH ?_|apply LH.here|apply LH.next);refine And.intro ?_ ?_;(focus(try(first|(with_reducible rfl)|(refine congrArg (Pl.mk _) ?_;(first|rfl|(simp;done)))|rfl|(with_reducible refine congrArg (Pl.mk _) ?_)))))|(with_reducible assumption)|(exact congrArg (AV.int .i64) (last_s X i))|(exact hsy)|(exact yg (by assumption) (by omega) hZ)|(exact syn_bak (by assumption) (by omega) hZ)|((try dsimp only);simp only[List.length_append,List.length_cons,List.length_nil];omega)|((try dsimp only);simp;done)|(show(_:AV)=_;(first|(focus(apply Eq.trans;(conv=>lhs;whnf);(conv=>rhs;whnf);done))|rfl|((conv=>lhs;whnf);first|rfl|(refine congrArg (AV.int _) ?_;(exact T.num))|(refine congrArg AV.bool ?_;(exact T.num))|(refine vwc ?_;first|(exact T.num)|(first|rfl|(simp;done)))|(refine q8 ?_ ?_<;>first|(exact T.num)|(first|rfl|(simp;done)))|(first|rfl|(simp;done)))))|((with_reducible first|(show(_:Int)≤_)|(show(_:Int)<_)|(show(_:Nat)≤_)|(show(_:Nat)<_)|(show(_:Int)=_)|(show(_:Nat)=_));(exact T.num))|(first|rfl|(simp;done)));first|done|fail):p:=h
theorem once12_t(t:List Int)(mode width:Int)(ht:t.length≤400):LP Tryz.prog gm 4 [iv t,iAV mode,iAV width] [] (fun _=>(.bool true,[])):=by
 have hl:=light_c (G:=gm) t
 rw[decide_eq_true ht] at hl
 have m1:=modR_lt mode 3 (by decide) (by decide)
 have w1:=modR_lt width 8 (by decide) (by decide)
 obtain⟨m,hm⟩:∃m,q7 .add .i64 1 (xW mode 3)=m:=⟨_,rfl⟩
 obtain⟨w,hw⟩:∃w,q7 .add .i64 1 (xW width 8)=w:=⟨_,rfl⟩
 have hm2:1≤m∧m≤3:=by rw[←hm];(exact T.num)
 have hw2:1≤w∧w≤8:=by rw[←hw];(exact T.num)
 have hP:=fun p=>packets_i (G:=gm) t (qh t 0) 2 40 (xV t 0 2) (by decide) (by decide) (by decide) (by decide) ht p
 have hZ:=pks_sized t (qh t 0) (2:Int).toNat 40 (xV t 0 2)
 have hY:=pks_len2 t (qh t 0) (2:Int).toNat 40 (xV t 0 2) (by decide) (by decide)
 generalize (kP t (qh t 0) (2:Int).toNat 40 (xV t 0 2))=K at hP hZ hY
 obtain⟨Kh,L,Ka⟩:=K
 dsimp only at hP hZ hY
 have hY:L.length≤80:=hY
 have hS:=fun p=>steps_c (G:=gm) t Ka 100 (by decide) (by decide) true ht p
 have hSl:=stpI_len t true (ql t Ka (q7 .add .i64 100 1)).toNat ([],qh t Ka)
 have hn:=zA t Ka (q7 .add .i64 100 1) (by decide +kernel) (by decide +kernel)
 have hn1:q7 .add .i64 100 1=101:=by decide +kernel
 have hSl:(stpsR t Ka 100 true).1.length≤400:=by
   unfold stpsR
   simp only[List.length_nil] at hSl
   omega
 generalize stpsR t Ka 100 true=Z at hS hSl
 obtain⟨ST,Kb⟩:=Z
 dsimp only at hS hSl
 have hO:OrdH L (xw L ST (hk0 m w)):=run_ord ST ord_new
 have hR:=hrun_c m w hm2 hw2 L hZ (by omega) ST hSl (siz_new hm2 hw2)
 have hXl:(xw L ST (hk0 m w)).out.length≤400:=by
   have:=(run_siz hZ ST (siz_new (ps:=L) hm2 hw2)).ol
   omega
 have hat:=fun(i:Nat) (hi:i<(xw L ST (hk0 m w)).out.length)=>ord_at hO hi
 generalize (xw L ST (hk0 m w)).out=X at hR hat hXl
 have hsy:vz L 0 (xw L [] (hk0 m w)):=by
   have h0:=syn_new (ps:=L) hm2 hw2 (inv_new hm2 hw2)
   unfold xw
   exact h0
 have hR2:=fun(al:List (Int×Int)) (h1:al.length≤400) (h2:vz L L.length (xw L al (hk0 m w)))=>by
   have h3:=hrun_c m w hm2 hw2 L hZ (by omega) al h1 (siz_new hm2 hw2)
   rw[h2.out] at h3
   exact h3
 have hR2:∀(al:List (Int×Int)) (h1:al.length≤400) (h2:vz L L.length (xw L al (hk0 m w))),LP Tryz.prog gm 12 [iAV m,iAV w,bbv L,spv al] [] (fun _=>(.tup [dlv (allO L),iAV 0],[])):=hR2
 refine goW [] Tryz.func4 rfl ?_
 conv=>whnf
 repeat'((first|(show LC _ _ 12 _ _ _;rw[hm,hw];first|refine LC.pure hR ?_|(have hi0:i=L.length:=(by omega);subst hi0;refine LC.mk' (hR2 al (by omega) (by assumption)) [_] ⟨LF.eq rfl,LF.eq rfl,LF.eq rfl,LF.row InL.here ?_,trivial⟩ ?_))|exact Nm.b 0|(refine And.intro ?_ ?_;(focus(first|(simp only[List.length_drop];rw[qj jS];omega)|(simp only[List.length_drop];rw[qj jS,jy];omega)|((try dsimp only);rw[qj xP];omega)|((try dsimp only);rw[qj xP,List.length_append];simp only[List.length_cons,List.length_nil];omega)|((try dsimp only);rw[List.length_map];omega)|exact T.kx|exact T.side)))|(show LC _ _ _ _ _ _;first|refine LC.pure (hl) ?_|refine LC.own (roll_c t) ?_|refine LC.pure (mod_c _ _) ?_|(apply LC.upd (one_c t _ _ ht _);(repeat first|refine goH ?_|apply LH.here|apply LH.next);refine⟨rfl,?_⟩)|(apply LC.upd (hP _);(repeat first|refine goH ?_|apply LH.here|apply LH.next);refine⟨rfl,?_⟩)|(apply LC.upd (hS _);(repeat first|refine goH ?_|apply LH.here|apply LH.next);refine⟨rfl,?_⟩)|refine LC.pure (awake12_c) ?_|refine LC.pure (sameT_c (L.getD i [])) ?_|refine goE ?_)|(show AC _ _ _;first|(refine AC.fld2 jS (l:=X) i 0 ⟨0,[],0⟩ (.int .i64 (X.getD i ⟨0,[],0⟩).i) (by(try dsimp only);omega) (by decide) (by omega) rfl ?_)|(refine AC.fld2 jS (l:=X) i 1 ⟨0,[],0⟩ (bv (X.getD i ⟨0,[],0⟩).p) (by(try dsimp only);omega) (by decide) (by omega) rfl ?_)|(refine AC.fld2 jS (l:=X) i 2 ⟨0,[],0⟩ (.int .i64 (X.getD i ⟨0,[],0⟩).e) (by(try dsimp only);omega) (by decide) (by omega) rfl ?_)|(refine AC.fld2 jS (l:=allO L) i 1 ⟨0,[],0⟩ (bv (L.getD i [])) (by(try dsimp only);omega) (by decide) (by rw[jy] at *;omega) (by rw[allO_at (by rw[jy] at *;omega)];rfl) ?_)|(refine AC.fld2 jS (l:=allO L) i 2 ⟨0,[],0⟩ (.int .i64 0) (by(try dsimp only);omega) (by decide) (by rw[jy] at *;omega) (by rw[allO_at (by rw[jy] at *;omega)];rfl) ?_)|(refine AC.idx (f:=bv) (l:=L) i [] (by(try dsimp only);omega) ?_ ?_;(focus(rw[jy] at *;omega))))|(show AQ _ _;first|(refine AQ.eq (sp_app2 al _ _ [(1,0),(3,0)] _ rfl ?_ rfl) ?_;(focus(first|rfl|((try dsimp only);omega))))|(refine AQ.eq (sp_app2 (al++[(1,0),(3,0)]) _ _ [(8,0)] _ rfl ?_ rfl) ?_;(focus(first|rfl|((try dsimp only);simp;done)))))|refine T.s ?_|((first|apply goB|apply AB.dec|apply AB.gen)<;>intro h)|refine LQ.mk fun r=>?_|(show SWpL _ _ _ (.loop _) _ _ _;first|(apply goO tQ [] 11 (S:=Nat×Nm) [1,2,8,10] (fun(i,D)=>⟨[(13,.int .i64 i),(12,.int .i64 (lastI X i)),(7,.ptr D 0)],[(D,zj t Kb)],i≤X.length,X.length-i⟩) ((0,_)) (by rfl);(focus((repeat' first|exact trivial|(refine And.intro ?_ ?_)|exact LB.nil|(with_reducible exact LB.refl)|(apply LB.cons;(repeat first|refine goH ?_|apply LH.here|apply LH.next);refine And.intro ?_ ?_;(focus(try(first|(with_reducible rfl)|(refine congrArg (Pl.mk _) ?_;(first|rfl|(simp;done)))|rfl|(with_reducible refine congrArg (Pl.mk _) ?_)))))|assumption|(exact congrArg (AV.int .i64) (last_s X i))|(exact hsy)|(exact yg (by assumption) (by omega) hZ)|(exact syn_bak (by assumption) (by omega) hZ)|((try dsimp only);simp only[List.length_append,List.length_cons,List.length_nil];omega)|((try dsimp only);simp;done)|(first|(focus(apply Eq.trans;(conv=>lhs;whnf);(conv=>rhs;whnf);done))|rfl|((conv=>lhs;whnf);first|rfl|(refine congrArg (AV.int _) ?_;(exact T.num))|(refine congrArg AV.bool ?_;(exact T.num))|(refine vwc ?_;first|(exact T.num)|(first|rfl|(simp;done)))|(refine q8 ?_ ?_<;>first|(exact T.num)|(first|rfl|(simp;done)))|(first|rfl|(simp;done))))|(exact T.num)|(dsimp only;(exact T.num))|(first|rfl|(simp;done)));done));rintro⟨i,D⟩ hok;(try dsimp only at hok))|(apply goO tQ [] 18 (S:=Nat×(List (Int×Int))×Nm×Nm×Nat) [1,2,8] (fun(i,al,q,D,a)=>⟨[(15,.int .i64 i),(14,.vw q 0 al.length 2),(7,.ptr D 0)],[(D,zj t a),(q,⟨44,al.flatMap spC⟩)],i≤L.length∧al.length≤3*i∧vz L i (xw L al (hk0 m w)),L.length-i⟩) ((0,[],_,_,_)) (by rfl);(focus((repeat' first|exact trivial|(refine And.intro ?_ ?_)|exact LB.nil|(with_reducible exact LB.refl)|(apply LB.cons;(repeat first|refine goH ?_|apply LH.here|apply LH.next);refine And.intro ?_ ?_;(focus(try(first|(with_reducible rfl)|(refine congrArg (Pl.mk _) ?_;(first|rfl|(simp;done)))|rfl|(with_reducible refine congrArg (Pl.mk _) ?_)))))|assumption|(exact congrArg (AV.int .i64) (last_s X i))|(exact hsy)|(exact yg (by assumption) (by omega) hZ)|(exact syn_bak (by assumption) (by omega) hZ)|((try dsimp only);simp only[List.length_append,List.length_cons,List.length_nil];omega)|((try dsimp only);simp;done)|(first|(focus(apply Eq.trans;(conv=>lhs;whnf);(conv=>rhs;whnf);done))|rfl|((conv=>lhs;whnf);first|rfl|(refine congrArg (AV.int _) ?_;(exact T.num))|(refine congrArg AV.bool ?_;(exact T.num))|(refine vwc ?_;first|(exact T.num)|(first|rfl|(simp;done)))|(refine q8 ?_ ?_<;>first|(exact T.num)|(first|rfl|(simp;done)))|(first|rfl|(simp;done))))|(exact T.num)|(dsimp only;(exact T.num))|(first|rfl|(simp;done)));done));rintro⟨i,al,q,D,a⟩ ⟨hk,hk,hok⟩)|(apply goO tQ [] 27 (S:=Nat) [8,16] (fun i=>⟨[(18,.int .i64 i)],[],i≤L.length,L.length-i⟩) (0) (by rfl);(focus((repeat' first|exact trivial|(refine And.intro ?_ ?_)|exact LB.nil|(with_reducible exact LB.refl)|(apply LB.cons;(repeat first|refine goH ?_|apply LH.here|apply LH.next);refine And.intro ?_ ?_;(focus(try(first|(with_reducible rfl)|(refine congrArg (Pl.mk _) ?_;(first|rfl|(simp;done)))|rfl|(with_reducible refine congrArg (Pl.mk _) ?_)))))|assumption|(exact congrArg (AV.int .i64) (last_s X i))|(exact hsy)|(exact yg (by assumption) (by omega) hZ)|(exact syn_bak (by assumption) (by omega) hZ)|((try dsimp only);simp only[List.length_append,List.length_cons,List.length_nil];omega)|((try dsimp only);simp;done)|(first|(focus(apply Eq.trans;(conv=>lhs;whnf);(conv=>rhs;whnf);done))|rfl|((conv=>lhs;whnf);first|rfl|(refine congrArg (AV.int _) ?_;(exact T.num))|(refine congrArg AV.bool ?_;(exact T.num))|(refine vwc ?_;first|(exact T.num)|(first|rfl|(simp;done)))|(refine q8 ?_ ?_<;>first|(exact T.num)|(first|rfl|(simp;done)))|(first|rfl|(simp;done))))|(exact T.num)|(dsimp only;(exact T.num))|(first|rfl|(simp;done)));done));rintro i hok;(try dsimp only at hok)))|(show SWpL _ _ _ _ _ _ _;first|refine SWpL.adopt 14 2 44 (by rfl) fun q=>?_|refine gX 29 [] [0,1,2,3,4,5,6,7,8,9,10,11,12,13,14,15,16,17,18] [] ?_)|(show AtL 11 _ _ _ _ _ _ _ _ _;first|(apply AtL.mk' (id:=11) (S:=Nat×Nm) ((i+1,_));focus(refine T.a5 ?_ ?_ ?_ ?_<;>exact EHlw2_1)))|(show AtL 18 _ _ _ _ _ _ _ _ _;first|(apply AtL.mk' (id:=18) (S:=Nat×(List (Int×Int))×Nm×Nm×Nat) ((i+1,al++[(1,0),(3,0)],_,_,_));focus(refine T.a5 ?_ ?_ ?_ ?_<;>exact EHlw2_1))|(apply AtL.mk' (id:=18) (S:=Nat×(List (Int×Int))×Nm×Nm×Nat) ((i+1,al++[(1,0),(3,0)]++[(8,0)],_,_,_));focus(refine T.a5 ?_ ?_ ?_ ?_<;>exact EHlw2_1)))|(show AtL 27 _ _ _ _ _ _ _ _ _;first|(apply AtL.mk' (id:=27) (S:=Nat) (i+1);focus(refine T.a5 ?_ ?_ ?_ ?_<;>exact EHlw2_1)))|exact T.z|fail)<;>conv=>whnf)
 all_goals(try dsimp only)
 all_goals first
   | ((show RL _ _ _;refine goR ?_);rfl)
   | exact⟨qj xP al,rfl,rfl⟩
   | (exfalso;have:=jy L;omega)
   | (exfalso;have hai:=hat i (by omega);omega)
   | (exfalso;have hai:=hat i (by omega);rcases hai.2.2 with k|k<;>simp_all;done)
   | trace_state
theorem once12_c(t:List Int)(mode width:Int):LP Tryz.prog gm 4 [iv t,iAV mode,iAV width] [] (fun _=>(.bool true,[])):=by
 by_cases ht:t.length≤400
 · exact once12_t t mode width ht
 · have hl:=light_c (G:=gm) t
   rw[decide_eq_false ht] at hl
   refine goW [] Tryz.func4 rfl ?_
   conv=>whnf
   repeat'((first|exact Nm.b 0|(show LC _ _ _ _ _ _;first|refine LC.pure (hl) ?_|refine LC.pure (awake12_c) ?_|refine goE ?_)|refine T.s ?_|((first|apply goB|apply AB.dec|apply AB.gen)<;>intro h<;>try(exfalso;omega))|refine LQ.mk fun r=>?_|(show SWpL _ _ _ _ _ _ _;first|(refine goD tQ qd 29 [] [0,1,2,3,4,5,6,7,8,9,10,11,12,13,14,15,16,17,18] [] (by kernel_rfl) ?_))|exact T.z|fail)<;>conv=>whnf)
   all_goals(try dsimp only)
   all_goals first|((show RL _ _ _;refine goR ?_);rfl)|((show RL _ _ _;refine goR ?_);simp;done)|(exfalso;simp_all;done)|trace_state
end Go.Proofs.YtndpmpnmkpaklaaGreatDoor
namespace Go.Proofs.YtndpmpnmkpaklaaGreatDoor
open Go.ChangeShapes Go.WideShapes Go.ChangeAt Go.RowKit
theorem LP.stmt{P:Program}{G:Nat→AV}{f:FuncId}{args:List AV}(h:LP P G f args [] (fun _=>(.bool true,[]))){W:World}{vs:Array Value}(hg:Glob G (fun _=>none) W)(hr:RdL (fun _=>none) W args vs) :
   Calls P f vs W fun e W'=>e=.returned (.bool true)∧Below W.heap.size W W':=by
 unfold LP at h
 refine(h.2.2 (fun _=>none) W vs ⟨nofun,nofun,0,fun _ _=>rfl⟩ hg (by simp) (by simp) hr).mono ?_
 rintro e W' ⟨v,q,rfl,-,-,hv,-,hs⟩
 have hv:Rd _ W' (.bool true) v:=hv
 cases hv
 exact⟨rfl,hs.os,hs.tape,hs.output,hs.size,fun k hk=>(hs.old k hk rfl).2⟩
theorem RdL.nil0{σ:q9}{W:World}:RdL σ W [] #[]:=⟨rfl,fun i hi=>by simp at hi⟩
theorem RdL.cons0{σ:q9}{W:World}{a:AV}{v:Value}{al:List AV}{vs:List Value}(h:Rd σ W a v)(hs:RdL σ W al vs.toArray):RdL σ W (a::al) (v::vs).toArray :=
 ⟨by have:=hs.1;simp at this ⊢;omega,fun i hi=>by
   cases i with
   | zero=>simpa using h
   | succ i =>
     have h2:=hs.2 i (by simp at hi;omega)
     simpa using h2⟩
theorem vI{α:Type}(p:Nat→α→Prop):∀(n:Nat),(∀i,i<n→∃x,p i x)→∃l:List α,l.length=n∧∀i x,l[i]? = some x→p i x
 | 0,_=>⟨[],rfl,by simp⟩
 | n+1,h=>by
   obtain⟨l,h1,h2⟩:=vI p n fun i hi=>h i (by omega)
   obtain⟨x,hx⟩:=h n (by omega)
   refine⟨l++[x],by simp[h1],fun i y hy=>?_⟩
   by_cases hi:i<l.length
   · rw[List.getElem?_append_left hi] at hy
     exact h2 i y hy
   · rw[List.getElem?_append_right (by omega)] at hy
     by_cases h0:i-l.length=0
     · rw[h0] at hy
       simp at hy
       subst hy
       have:i=n:=by omega
       subst this
       exact hx
     · obtain⟨k,hk⟩:=Nat.exists_eq_succ_of_ne_zero h0
       rw[hk] at hy
       simp at hy
section
variable {H:Type}{enc:TypeId×Value→H}{P:Program}{W:World}{base:Nat}{sp:Nat→Bool}{held:Bool}{b0:Nat}{r:Reach}
theorem cell_row{α:Type}{A:α→AV}{u e:TypeId}(hu:P.underlying u=some (.slice e))(hc:P.cellsOf e=1)(he:∀(fuel:Nat) (c:Value) (y:DataW H×List MemPlace),DataW.trod enc P W base sp held fuel e [c]=some y→∃x,Rd (fun _=>none) W (A x) c)
   {c:Value} (hv:Cell.okWide P W r b0 u c) {fuel:Nat} {y:DataW H×List MemPlace} (h:DataW.trod enc P W base sp held fuel u [c]=some y):∃l:List α,Rd (fun _=>none) W (.sl l.length (l.map A)) c:=by
 rcases DataW.trod_slice hu h with ⟨h0,-⟩|⟨a,len,cap,elems,rest,n,-,h0,-,-,hl,hm,hlen,hel,-⟩
 · obtain rfl:=(List.cons.inj h0).1
   exact⟨[],.slnil⟩
 · obtain rfl:=(List.cons.inj h0).1
   have hspot:a.spot=none:=by
     simp only[Cell.okWide,hu,Cell.ok] at hv
     exact hv.2.2.2.1
   obtain⟨b,off,spot⟩:=a
   simp only at hspot
   subst hspot
   have hadd:∀i,(⟨b,off,none⟩:Addr).add i=⟨b,off+i,none⟩:=fun i=>by unfold Addr.add;split<;>simp_all
   obtain⟨l,h1,h2⟩:=vI (fun i x=>∃v,W.cell? ⟨b,off+i,none⟩=some v∧Rd (fun _=>none) W (A x) v) len (fun i hi=>by
     have hE:=hel i hi
     rw[List.getElem?_eq_getElem (by omega)] at hE
     obtain⟨c1,hc1,hy1⟩:=Option.bind_eq_some_iff.1 hE
     obtain⟨-,h4,h5⟩:=World.cells?_some hc1
     rw[hc] at h4 h5
     match c1,h4 with
     | [v],_ =>
       have h6:=h5 0 (by omega)
       rw[Nat.mul_one,hadd] at h6
       have e0:(⟨b,off+i,none⟩:Addr).add 0=⟨b,off+i,none⟩:=by simp[Addr.add]
       rw[e0] at h6
       obtain⟨x,hx⟩:=he n v _ hy1
       exact⟨x,v,by simpa using h6,hx⟩)
   refine⟨l,?_⟩
   rw[h1]
   have h3:∀i (hi:i<l.length),∃v,W.cell? ⟨b,off+i,none⟩=some v∧Rd (fun _=>none) W (A l[i]) v:=fun i hi=>h2 i l[i] (List.getElem?_eq_getElem hi)
   refine .sl len _ b off cap (fun i=>(W.cell? ⟨b,off+i,none⟩).getD undef) (fun _=>rfl) hl hm (fun i hi=>?_) (fun i hi=>?_)
   · obtain⟨v,k1,-⟩:=h3 i (by simpa using hi)
     rw[k1];rfl
   · have hi':i<l.length:=by simpa using hi
     obtain⟨v,k1,k2⟩:=h3 i hi'
     rw[k1]
     simpa [List.getD_eq_getElem?_getD,hi'] using k2
theorem cell_ints{u e:TypeId}(hu:P.underlying u=some (.slice e))(he:P.underlying e=some (.int .i64))(hc:P.cellsOf e=1){c:Value}(hv:Cell.okWide P W r b0 u c){fuel:Nat}{y:DataW H×List MemPlace}(h:DataW.trod enc P W base sp held fuel u [c]=some y):∃l:List Int,Rd (fun _=>none) W (iv l) c :=
 cell_row (A:=iAV) hu hc (fun fuel c y h=>by
   obtain⟨n,h1,-,-⟩:=DataW.trod_int he h
   obtain rfl:=(List.cons.inj h1).1
   exact⟨n,.int _ _⟩) hv h
end
section
variable {H:Type}{enc:TypeId×Value→H}{P:Program}{W:World}{base:Nat}{sp:Nat→Bool}{held:Bool}{b0:Nat}{r:Reach}{v:Value}{d:DataW H}{p:List MemPlace}
theorem arg_ints{u e:TypeId}(hu:P.underlying u=some (.slice e))(he:P.underlying e=some (.int .i64))(hc:P.cellsOf e=1)(hv:Value.okWide P W r b0 u v)(h:DataW.Trod enc P W base sp held u v d p):∃l:List Int,Rd (fun _=>none) W (iv l) v:=by
 obtain⟨a,len,cap,rfl⟩:=okWide_slice hu hv
 obtain⟨fuel,hf⟩:=h
 have hv:Cell.okWide P W r b0 u (.slice a len cap):=by simpa only[Value.okWide,hu] using hv
 exact cell_ints hu he hc hv hf
theorem arg_int{u:TypeId}(hu:P.underlying u=some (.int .i64))(hv:Value.okWide P W r b0 u v)(h:DataW.Trod enc P W base sp held u v d p):∃n:Int,Rd (fun _=>none) W (iAV n) v:=by
 obtain⟨n,rfl,-⟩:=open_int hu hv h
 exact⟨n,.int _ _⟩
end
open Go.ChangeShapes Go.WideShapes Go.ChangeAt Go.RowKit Go.MapKept
theorem gPoly:Tryz.prog.globalNamed "radiolink/check.polynomials"=some 0:=by kernel_rfl
theorem tPoly:(Tryz.prog.globals[0]?).map (·.type)=some 223:=by kernel_rfl
set_option maxRecDepth 100000 in
theorem key_int{v:Value}{y:Go.Lit}(h:keyOf Tryz.prog 3 v=some y):∃m:Int,v=.int .i64 m∧y=.int .i64 m:=by
 unfold keyOf mapKey at h
 rw[Tryz.underlying3] at h
 cases v with
 | int q m =>
   simp only at h
   split at h
   · rename_i hq
     obtain⟨rfl,-⟩:=hq
     exact⟨m,rfl,(Option.some.inj h).symm⟩
   · cases h
 | _=>cases h
set_option maxRecDepth 100000 in
theorem val_int{H:Type}{enc:TypeId×Value→H}{W:World}{n:Nat}{v:Value}{z:DataW H×List MemPlace}(h:WideElems.elemAt enc Tryz.prog W 0 (fun _=>true) false n 3 v=some z):∃m:Int,v=.int .i64 m∧z.1=.lit (.int .i64 m):=by
 unfold WideElems.elemAt at h
 split at h
 · rename_i hf
   obtain⟨d,p⟩:=z
   obtain⟨i,h2,h3,-⟩:=DataW.trod_int Tryz.underlying3 h
   refine⟨i,?_,congrArg Prod.fst h3⟩
   cases v with
   | agg cs =>
     unfold Value.formed at hf
     rw[Tryz.underlying3] at hf
     cases hf
   | int q m =>
     have h4:[Value.int q m]=[.int .i64 i]:=h2
     injection h4
   | _=>cases h2
 · cases h
theorem poly_in{n v:Int}:kO n=some v↔(n,v)∈[((3:Int),(3:Int)),(7,9),(8,7),(16,4129),(24,8801531)]:=by
 unfold kO
 simp only[List.mem_cons,Prod.mk.injEq,List.not_mem_nil,or_false]
 constructor
 · intro h
   (repeat' split at h)<;>first|(cases h;omega)|cases h
 · intro h
   rcases h with ⟨rfl,rfl⟩|⟨rfl,rfl⟩|⟨rfl,rfl⟩|⟨rfl,rfl⟩|⟨rfl,rfl⟩<;>rfl
set_option maxRecDepth 100000 in
theorem polys_of{W:World}(h:laidMetH Tryz.prog [("radiolink/check.polynomials",Rows.laid_radiolink_check_polynomials)] W):Glob gm (fun _=>none) W:=by
 rw[MakeChecks.laidMetH_plain _ _ _ (by kernel_rfl)] at h
 obtain⟨ps,⟨g0,t0,cs0,f0,p0,q0,hg0,ht0,hv0,hd0,-,-⟩,-,-⟩:=h
 obtain rfl:=Option.some.inj (gPoly.symm.trans hg0)
 obtain rfl:=Option.some.inj (tPoly.symm.trans ht0)
 rcases WideElems.open_map Tryz.underlying223 hd0 with ⟨h1,h2⟩|⟨b,es,clock,n,rfl,hcs,hb,-,hF,hx⟩
 · cases h2
 · have hx1:=(congrArg Prod.fst hx)
   have hx2:([(.int .i64 3,.lit (.int .i64 3)),(.int .i64 7,.lit (.int .i64 9)),(.int .i64 8,.lit (.int .i64 7)),(.int .i64 16,.lit (.int .i64 4129)),(.int .i64 24,.lit (.int .i64 8801531))]:List (Go.Lit×DataW Unit))=_:=DataW.map.inj hx1
   have hperm:=sorted_perm (es.toList.map (WideElems.rg Tryz.prog 3 (WideElems.elemAt (fun _=>()) Tryz.prog W 0 (fun _=>true) false n 3)))
   rw[←hx2] at hperm
   have key:∀x∈es.toList,∃m z,x.key=.int .i64 m∧x.val=.int .i64 z∧WideElems.rg Tryz.prog 3 (WideElems.elemAt (fun _=>()) Tryz.prog W 0 (fun _=>true) false n 3) x=(.int .i64 m,.lit (.int .i64 z)):=fun x hxm=>by
     obtain⟨y,hy⟩:=hF.reads x hxm
     obtain⟨m,k1,k2⟩:=key_int (WideElems.rd_key hy)
     obtain⟨u,k3,k4⟩:=WideElems.rd_val hy
     obtain⟨z,k5,k6⟩:=val_int k3
     refine⟨m,z,k1,k5,?_⟩
     rw[WideElems.rg_of hy]
     exact Prod.ext k2 (k4.trans k6)
   have in1:∀x∈es.toList,∀m z,x.key=.int .i64 m→x.val=.int .i64 z→kO m=some z:=fun x hxm m z e1 e2=>by
     obtain⟨m',z',k1,k2,k3⟩:=key x hxm
     rw[k1] at e1;rw[k2] at e2
     cases e1;cases e2
     have:((Go.Lit.int .i64 m,DataW.lit (Go.Lit.int .i64 z)):Go.Lit×DataW Unit)∈es.toList.map (WideElems.rg Tryz.prog 3 (WideElems.elemAt (fun _=>()) Tryz.prog W 0 (fun _=>true) false n 3)):=List.mem_map.2 ⟨x,hxm,k3⟩
     have:=hperm.mem_iff.2 this
     rw[poly_in]
     simp only[List.mem_cons,Prod.mk.injEq,Go.Lit.int.injEq,DataW.lit.injEq,List.not_mem_nil,or_false,true_and] at this ⊢
     exact this
   have in2:∀m z,kO m=some z→∃x∈es.toList,x.key=.int .i64 m:=fun m z e=>by
     have h3:((Go.Lit.int .i64 m,DataW.lit (Go.Lit.int .i64 z)):Go.Lit×DataW Unit)∈([(.int .i64 3,.lit (.int .i64 3)),(.int .i64 7,.lit (.int .i64 9)),(.int .i64 8,.lit (.int .i64 7)),(.int .i64 16,.lit (.int .i64 4129)),(.int .i64 24,.lit (.int .i64 8801531))]:List (Go.Lit×DataW Unit)):=by
       rw[poly_in] at e
       simp only[List.mem_cons,Prod.mk.injEq,Go.Lit.int.injEq,DataW.lit.injEq,List.not_mem_nil,or_false,true_and] at e ⊢
       exact e
     obtain⟨x,hxm,k⟩:=List.mem_map.1 (hperm.mem_iff.1 h3)
     obtain⟨m',z',k1,k2,k3⟩:=key x hxm
     rw[k3] at k
     refine⟨x,hxm,?_⟩
     rw[k1]
     have:=congrArg Prod.fst k
     cases this
     rfl
   refine Glob.of (fun g=>by unfold gm;split<;>rfl) ?_
   intro g
   by_cases hg:g=0
   · subst hg
     show Rd _ W (.ip [.mp kO]) _
     refine .ip _ _ 0 (fun _=>.map (some b)) (fun _=>rfl) (fun i hi=>?_) (fun i hi=>?_)
     · obtain rfl:i=0:=by have:i<1:=hi;omega
       have h2:=World.var?_cell hg0 hv0 0
       rw[Nat.zero_add]
       rw[h2]
       have h5:=congrArg (·[0]?) hcs
       simpa using h5
     · obtain rfl:i=0:=by have:i<1:=hi;omega
       refine .mp kO b es clock rfl hb fun m=>?_
       rcases findNow_spec (d:=.int .i64) (k:=.int .i64 m) rfl es.toList 0 (fun x hxm=>by obtain⟨m',z',k1,-,-⟩:=key x hxm;rw[k1];rfl) with ⟨h1,h2⟩|⟨j,e,h1,h2,h3⟩
       · refine .inr ⟨?_,h1⟩
         cases hp:kO m with
         | none=>rfl
         | some z =>
           obtain⟨x,hxm,k⟩:=in2 m z hp
           exact absurd k (h2 x hxm)
       · have hem:e∈es.toList:=List.mem_of_getElem? h2
         obtain⟨m',z',k1,k2,-⟩:=key e hem
         refine .inl ⟨0+j,z',in1 e hem m z' h3 k2,?_⟩
         rw[h1,k2]
   · have:gm g=.any:=by
       unfold gm
       split
       · rename_i hb
         exact absurd (Nat.eq_of_beq_eq_true hb) hg
       · rfl
     rw[this]
     exact .any _
theorem door_met(os:Os)(args:Array Value):laidMetH Tryz.prog [("radiolink/check.polynomials",Rows.laid_radiolink_check_polynomials)] ((World.doorLaid Tryz.prog 400 os).forCall (fun _ _=>0) ⟨#[],args,[]⟩).memory :=
 laidMetH_of_parts3 (fuel:=8) (laidMet_of_run' 8 (by kernel_rfl) (by kernel_rfl)) (by kernel_rfl) (by kernel_rfl)
end Go.Proofs.YtndpmpnmkpaklaaGreatDoor
