/-
  Contracts of the functions that the laws reach.
-/
import Derived.Test.YtndpmpnmkpaklaaGreatDoorHr27
set_option maxHeartbeats 8000000
set_option linter.all false
namespace Go.Proofs.YtndpmpnmkpaklaaGreatDoor
open Go.RowKit
variable {G:Nat→AV}
attribute [local irreducible] qy
theorem cali_c(p:Nm)(s t:Sn)(hs:s.act=true→0<s.rf.length)(ht:t.act=true→0<t.rf.length):LP Tryz.prog G 144 [t.av,.ptr p 0] [(p,⟨122,s.cs⟩)] (fun _=>(.bool (xA s t),[(p,⟨122,s.cs⟩)])):=by
 have hsm:LP Tryz.prog G 145 [(s.rf.getD 0 Hd.z).av,(t.rf.getD 0 Hd.z).av] [] (fun _=>(.bool (qy s.fst t.fst),[])):=fsame_c _ _
 refine goW [] Tryz.func144 rfl ?_
 conv=>whnf
 repeat'((first|exact Nm.b 0|(refine And.intro ?_ ?_;(focus(first|exact rec0_le (hs (by assumption))|exact rec0_le (ht (by assumption))|exact Int.ofNat_lt.2 (hs (by assumption))|exact Int.ofNat_lt.2 (ht (by assumption))|exact T.kx|exact T.side)))|(show LC _ _ _ _ _ _;first|refine LC.pure (hsm) ?_|refine goE ?_)|(show AC _ _ _;first|(refine AC.recd Hd.cs_len 0 Hd.z rfl rfl (hs (by assumption)) ?_)|(refine AC.recd Hd.cs_len 0 Hd.z rfl rfl (ht (by assumption)) ?_))|refine T.s ?_|((first|apply goB|apply AB.dec|apply AB.gen)<;>intro h<;>try(exfalso;omega))|refine LQ.mk fun r=>?_|(show SWpL _ _ _ _ _ _ _;first|refine gX 1 [] [0,1,2,3,4,5,6,7,8,9,10,11,12,13,14,15,16,17] [] ?_)|exact T.z|fail)<;>conv=>whnf)
 all_goals(try dsimp only)
 all_goals
   (show RL _ _ _;refine goR ?_)
   simp[xA, *]
theorem ali_all(c:Co)(i:Nat)(hi:i≤c.cx.length):((List.range i).all fun k => !xA (c.at i) (c.at k)) = !((c.cx.take i).any (xA (c.at i))):=by
 rw[List.any_eq_not_all_not,Bool.not_not]
 have e:c.cx.take i=(List.range i).map fun k=>c.at k:=by
   apply List.ext_getElem
   · simp;omega
   · intro n h1 h2
     simp at h1 h2
     simp[Co.at,List.getD_eq_getElem?_getD,show n<c.cx.length by omega]
 rw[e,List.all_map]
 rfl
theorem oks_nxt{c:Co}{i:Nat}(h1:c.oks i=true)(h2:(c.at i).ok c.m c.w=true)(hi:i≤c.cx.length)(h3:(c.cx.take i).any (xA (c.at i))=false):c.oks (i+1)=true:=by
 rw[oks_e,rng_succ,←oks_e,h1]
 unfold oksG
 rw[h2,ali_all c i hi,h3]
 rfl
theorem oksG_3{c:Co}{i:Nat}(hi:i≤c.cx.length)(h3:(c.cx.take i).any (xA (c.at i))=true):oksG c i=false:=by
 unfold oksG
 rw[ali_all c i hi,h3]
 simp
theorem take_at{c:Co}{i k:Nat}(hk:k<(c.cx.take i).length):(c.cx.take i).getD k Sn.z=c.at k:=by
 have:k<i:=by simp at hk;omega
 simp[Co.at,List.getD_eq_getElem?_getD,List.getElem?_take,this]
theorem cali_i(c:Co)(i:Nat)(p:Nm)(h1:c.oks i=true)(h2:(c.at i).ok c.m c.w=true)(k:Nat)(hk:k<(c.cx.take i).length):LP Tryz.prog G 144 [((c.cx.take i).getD k Sn.z).av,.ptr p 0] [(p,⟨122,(c.at i).cs⟩)] (fun _=>(.bool (xA (c.at i) ((c.cx.take i).getD k Sn.z)),[(p,⟨122,(c.at i).cs⟩)])):=by
 rw[take_at hk]
 have hk2:k<i:=by simp at hk;omega
 exact cali_c p _ _ (fun ha=>kQ h2 ha) (fun ha=>oks_rf h1 k hk2 ha)
theorem pre_e{c:Co}{i n:Nat}(hn:n=i)(hi:i≤c.cx.length):((c.cx.flatMap Sn.cs).drop 0).take (n*9)=(c.cx.take i).flatMap Sn.cs:=by
 subst hn
 rw[List.drop_zero,fm_take Sn.cs_len]
theorem cpvalid_t(c:Co)(hs:xY c.m c.w=true)(h16:c.cx.length=16):LP Tryz.prog G 112 [c.av] [] (fun _=>(.bool c.ok,[])):=by
 have hsh:=cshap_c (G:=G) c.m c.w
 rw[hs] at hsh
 have hs2:=hs
 simp only[xY,decide_eq_true_eq] at hs2
 have hctx:∀i:Nat,(i:Int)<(c.cx.length:Int)→LP Tryz.prog G 143 [(c.cx.getD i Sn.z).av,iAV c.m,iAV c.w] [] (fun _=>(.bool ((c.at i).ok c.m c.w),[])):=fun i hi=>cctx_c _ _ _ hs2.2.2.2
 refine goW [] Tryz.func112 rfl ?_
 conv=>whnf
 repeat'((first|(refine And.intro ?_ ?_;(focus(first|exact kc Sn.cs_len (by assumption)|exact Nat.le_of_eq (qm Sn.cs_len _).symm|exact T.kx|exact T.side)))|(show LC _ _ _ _ _ _;first|refine LC.pure (hsh) ?_|refine LC.pure (hctx i (by assumption)) ?_|(apply LC.upd (scont_c 144 _ ⟨122,(c.at i).cs⟩ (c.cx.take i) _ (by simp;omega) (cali_i c i _ (by assumption) (by assumption)) (by simp;omega));(repeat first|refine goH ?_|apply LH.here|apply LH.next);refine⟨rfl,?_⟩)|refine goE ?_)|(show AC _ _ _;first|(refine AC.recd Sn.cs_len i Sn.z rfl rfl ?_ ?_;(focus omega)))|(show AQ _ _;first|(refine AQ.eq (pre_e (c:=c) (i:=i) (by simp) (by omega)) ?_))|refine T.s ?_|((first|apply goB|apply AB.dec|apply AB.gen)<;>intro h<;>try(exfalso;omega))|refine LQ.mk fun r=>?_|(show SWpL _ _ _ (.loop _) _ _ _;first|(apply goO tQ [] 4 (S:=Nat×Nm) [19,20] (fun(i,a)=>⟨[(21,.int .i64 i),(1,.ptr a 0)],[(a,⟨62,[iAV c.m,iAV c.w,snv c.cx]⟩)],i≤16∧c.oks i=true,16-i⟩) ((0,_)) (by rfl);(focus((repeat' first|exact trivial|(refine And.intro ?_ ?_)|exact LB.nil|(with_reducible exact LB.refl)|(apply LB.cons;(repeat first|refine goH ?_|apply LH.here|apply LH.next);refine And.intro ?_ ?_;(focus(try(first|(with_reducible rfl)|(refine congrArg (Pl.mk _) ?_;(first|rfl|(simp;done)))|rfl|(with_reducible refine congrArg (Pl.mk _) ?_)))))|assumption|(exact oks_nxt (by assumption) (by assumption) (by omega) (by assumption))|(first|(focus(apply Eq.trans;(conv=>lhs;whnf);(conv=>rhs;whnf);done))|rfl|((conv=>lhs;whnf);first|rfl|(refine congrArg (AV.int _) ?_;(exact T.num))|(refine congrArg AV.bool ?_;(exact T.num))|(refine vwc ?_;first|(exact T.num)|(first|rfl|(simp;done)))|(refine q9 ?_ ?_<;>first|(exact T.num)|(first|rfl|(simp;done)))|(first|rfl|(simp;done))))|(exact T.num)|(dsimp only;(exact T.num))|(first|rfl|(simp;done)));done));rintro⟨i,a⟩ ⟨hk,hok⟩))|(show AtL _ _ _ _ _ _ _ _ _ _;first|(apply AtL.mk' (id:=4) (S:=Nat×Nm) ((i+1,_));(repeat' first|exact trivial|(refine And.intro ?_ ?_)|exact LB.nil|(with_reducible exact LB.refl)|(apply LB.cons;(repeat first|refine goH ?_|apply LH.here|apply LH.next);refine And.intro ?_ ?_;(focus(try(first|(with_reducible rfl)|(refine congrArg (Pl.mk _) ?_;(first|rfl|(simp;done)))|rfl|(with_reducible refine congrArg (Pl.mk _) ?_)))))|assumption|(exact oks_nxt (by assumption) (by assumption) (by omega) (by assumption))|(first|(focus(apply Eq.trans;(conv=>lhs;whnf);(conv=>rhs;whnf);done))|rfl|((conv=>lhs;whnf);first|rfl|(refine congrArg (AV.int _) ?_;(exact T.num))|(refine congrArg AV.bool ?_;(exact T.num))|(refine vwc ?_;first|(exact T.num)|(first|rfl|(simp;done)))|(refine q9 ?_ ?_<;>first|(exact T.num)|(first|rfl|(simp;done)))|(first|rfl|(simp;done))))|(exact T.num)|(dsimp only;(exact T.num))|(first|rfl|(simp;done)));done)|(apply AtL.mk' (id:=4) (S:=Nat×Nm) ((i+1,_));(repeat' first|exact trivial|(refine And.intro ?_ ?_)|exact LB.nil|(with_reducible exact LB.refl)|(apply LB.cons;(repeat first|refine goH ?_|apply LH.here|apply LH.next);refine And.intro ?_ ?_;(focus(try(first|(with_reducible rfl)|(refine congrArg (Pl.mk _) ?_;(first|rfl|(simp;done)))|rfl|(with_reducible refine congrArg (Pl.mk _) ?_)))))|assumption|(exact oks_nxt (by assumption) (by assumption) (by omega) (by assumption))|(first|(focus(apply Eq.trans;(conv=>lhs;whnf);(conv=>rhs;whnf);done))|rfl|((conv=>lhs;whnf);first|rfl|(refine congrArg (AV.int _) ?_;(exact T.num))|(refine congrArg AV.bool ?_;(exact T.num))|(refine vwc ?_;first|(exact T.num)|(first|rfl|(simp;done)))|(refine q9 ?_ ?_<;>first|(exact T.num)|(first|rfl|(simp;done)))|(first|rfl|(simp;done))))|(exact T.num)|(dsimp only;(exact T.num))|(first|rfl|(simp;done)))))|(show(_→_)∧(¬_→_);first|refine T.y ?_|refine qv (fun h=>?_) (fun h=>?_))|exact T.z|fail)<;>conv=>whnf)
 all_goals(try dsimp only)
 all_goals first
   | ((show RL _ _ _;refine goR ?_);rw[okc_n (rng_bad i (by omega) (oksG_1 (by assumption)))])
   | ((show RL _ _ _;refine goR ?_);rw[okc_n (rng_bad i (by omega) (oksG_3 (by omega) (by assumption)))])
   | ((show RL _ _ _;refine goR ?_);obtain rfl:i=16:=(by omega);rw[okc hs h16 (by assumption)])
   | trace_state
theorem zT(c:Co):LP Tryz.prog G 112 [c.av] [] (fun _=>(.bool c.ok,[])):=by
 by_cases hs:xY c.m c.w=true∧c.cx.length=16
 · exact cpvalid_t c hs.1 hs.2
 · have hsh:=cshap_c (G:=G) c.m c.w
   have hf:c.ok=false:=by
     unfold Co.ok
     cases h:xY c.m c.w with
     | false=>rfl
     | true=>rw[decide_eq_false (fun e=>hs ⟨h,e⟩)];rfl
   rw[hf]
   cases hsp:xY c.m c.w with
   | false =>
     rw[hsp] at hsh
     refine goW [] Tryz.func112 rfl ?_
     conv=>whnf
     repeat'((first|(show LC _ _ _ _ _ _;first|refine LC.pure (hsh) ?_|refine goE ?_)|refine T.s ?_|((first|apply goB|apply AB.dec|apply AB.gen)<;>intro h<;>try(exfalso;omega))|refine LQ.mk fun r=>?_|(show(_→_)∧(¬_→_);first|refine T.y ?_|refine qv (fun h=>?_) (fun h=>?_))|exact T.z|fail)<;>conv=>whnf)
     all_goals(try dsimp only)
     all_goals((show RL _ _ _;refine goR ?_);rfl)
   | true =>
     rw[hsp] at hsh
     have hne:¬(c.cx.length:Int)=16:=fun e=>hs ⟨hsp,by omega⟩
     refine goW [] Tryz.func112 rfl ?_
     conv=>whnf
     repeat'((first|((with_reducible show AB (qr .neq _ 16) _ _);refine AB.neqT hne ?_)|(show LC _ _ _ _ _ _;first|refine LC.pure (hsh) ?_|refine goE ?_)|refine T.s ?_|((first|apply goB|apply AB.dec|apply AB.gen)<;>intro h<;>try(exfalso;omega))|refine LQ.mk fun r=>?_|(show(_→_)∧(¬_→_);first|refine T.y ?_|refine qv (fun h=>?_) (fun h=>?_))|exact T.z|fail)<;>conv=>whnf)
     all_goals(try dsimp only)
     all_goals((show RL _ _ _;refine goR ?_);rfl)
def cpH(c:Co)(i0:Nat)(p:Nm)(j k:Nat):List AV:=if k=i0∧i0<j then(c.at k).cv (.vw p 0 (c.at k).rf.length 15) else(c.at k).cs
theorem cpH_len(c:Co)(i0:Nat)(p:Nm)(j k:Nat):(cpH c i0 p j k).length=9:=by unfold cpH;split<;>rfl
def cpX(c:Co)(i0:Nat)(p:Nm)(j:Nat):List AV:=(List.range c.cx.length).flatMap (cpH c i0 p j)
theorem zy(c:Co)(i0:Nat)(p:Nm):c.cx.flatMap Sn.cs=cpX c i0 p 0:=by
 unfold cpX
 rw[←j5]
 exact jn _ fun k _=>by unfold cpH;rw[if_neg (by omega)]
theorem cpX_e(c:Co)(i0:Nat)(p:Nm)(h:i0<c.cx.length):cpX c i0 p c.cx.length=cpR c i0 p c.cx.length:=by
 unfold cpX cpR
 refine jn _ fun k _=>?_
 unfold cpH cpG
 by_cases hk:k=i0
 · rw[if_pos ⟨hk,h⟩,if_pos hk]
 · rw[if_neg (fun q=>hk q.1),if_neg hk]
theorem rg_at(n i:Nat)(h:i<n):(List.range n).getD i 0=i:=by simp[List.getD_eq_getElem?_getD,h]
theorem splice_rg{g g':Nat→List AV}{n sz i k:Nat}{xs:List AV}(hg:∀x,(g x).length=sz)(h:i<n)(hk:k+xs.length≤sz)(he:∀x,x≠i→g' x=g x)(hy:g' i=qg (g i) k xs):qg ((List.range n).flatMap g) (i*sz+k) xs=(List.range n).flatMap g':=by
 have hl:i<(List.range n).length:=by simpa using h
 have h1:((List.range n).flatMap g).take (i*sz+k)=((List.range n).take i).flatMap g++(g i).take k:=by
   rw[List.take_add,fm_take hg,vC hg (List.range n) i 0 hl,rg_at n i h,List.take_append_of_le_length (by rw[hg];omega)]
 have h2:((List.range n).flatMap g).drop (i*sz+k+xs.length)=(g i).drop (k+xs.length)++((List.range n).drop (i+1)).flatMap g:=by
   rw[Nat.add_assoc,←List.drop_drop,vC hg (List.range n) i 0 hl,rg_at n i h,List.drop_append_of_le_length (by rw[hg];omega)]
 have h3:(List.range n).flatMap g'=((List.range n).take i).flatMap g'++(g' i++((List.range n).drop (i+1)).flatMap g'):=by
   conv=>lhs;rw[←List.take_append_drop i (List.range n),drop_getD _ i 0 hl,rg_at n i h,List.flatMap_append,List.flatMap_cons]
 have h4:((List.range n).take i).flatMap g'=((List.range n).take i).flatMap g:=jn _ fun x hx=>he x (by
   rw[List.take_range] at hx
   have:=List.mem_range.1 hx
   omega)
 have h5:((List.range n).drop (i+1)).flatMap g'=((List.range n).drop (i+1)).flatMap g:=jn _ fun x hx=>he x (by
   obtain⟨y,hy,rfl⟩:=List.getElem_of_mem hx
   simp
   omega)
 unfold qg at hy ⊢
 rw[h1,h2,h3,h4,h5,hy]
 simp[List.append_assoc]
theorem cpX_own{c:Co}{i0 j:Nat}(h:j=i0)(p q:Nm)(hj:(j:Int)<(c.cx.length:Int)){o n:Nat}(ho:o=j*9+8)(hn:n=(c.at j).rf.length):qg (cpX c i0 p j) o [.vw q 0 n 15]=cpX c i0 q (j+1):=by
 subst ho hn
 unfold cpX
 refine splice_rg (cpH_len c i0 p j) (by omega) (by simp) (fun x hx=>?_) ?_
 · unfold cpH;rw[if_neg (by omega),if_neg (by omega)]
 · unfold cpH;rw[if_pos (by omega),if_neg (by omega)];rfl
theorem cpX_oth{c:Co}{i0 j:Nat}(h:¬j=i0)(p:Nm)(hj:(j:Int)<(c.cx.length:Int)){o:Nat}(ho:o=j*9+8):qg (cpX c i0 p j) o [hdv (c.cx.getD j Sn.z).rf]=cpX c i0 p (j+1):=by
 subst ho
 unfold cpX
 refine splice_rg (cpH_len c i0 p j) (by omega) (by simp) (fun x hx=>?_) ?_
 · unfold cpH
   by_cases hx2:x=i0∧i0<j
   · rw[if_pos ⟨hx2.1,by omega⟩,if_pos hx2]
   · rw[if_neg (by omega),if_neg hx2]
 · unfold cpH;rw[if_neg (by omega),if_neg (by omega)];rfl
theorem cpX_cell{c:Co}{i0 j:Nat}{p:Nm}{o:Nat}{K:AV→Prop}(hj:(j:Int)<(c.cx.length:Int))(ho:o=j*9+8)(k:K (hdv (c.cx.getD j Sn.z).rf)):AC false (((cpX c i0 p j).drop o).take 1) K:=by
 unfold cpX
 refine AC.fld (cpH_len c i0 p j) j 8 0 _ ho (by decide) (by simp;omega) ?_ k
 rw[rg_at _ _ (by omega)]
 unfold cpH
 rw[if_neg (by omega)]
 rfl
theorem cpX_len(c:Co)(i0:Nat)(p:Nm)(j:Nat):(cpX c i0 p j).length=c.cx.length*9:=by
 unfold cpX
 rw[qm (cpH_len c i0 p j)]
 simp
theorem cclone_c(c:Co)(i0:Nat)(hi:i0<c.cx.length)(hl:c.cx.length≤100)(hr:∀i,i<c.cx.length→(c.at i).rf.length≤1000):LSpecN Tryz.prog G 113 [c.av] [] 2 (fun q=>(.agg [iAV c.m,iAV c.w,.vw (n0 q) 0 c.cx.length 9],[(n0 q,⟨122,cpR c i0 (n1 q) c.cx.length⟩),(n1 q,⟨54,(c.at i0).rf.flatMap Hd.cs⟩)])):=by
 have hc:∀i:Nat,(i:Int)<(c.cx.length:Int)→LP Tryz.prog G 148 [hdv (c.cx.getD i Sn.z).rf] [] (fun _=>(hdv (c.cx.getD i Sn.z).rf,[])):=fun i hi=>hclone_c _ (Nat.le_trans (hr i (by omega)) (by decide))
 have ho:∀i:Nat,(i:Int)<(c.cx.length:Int)→LP Tryz.prog G 148 [hdv (c.cx.getD i Sn.z).rf] [] (fun q=>(.vw q 0 (c.cx.getD i Sn.z).rf.length 15,[(q,⟨54,(c.cx.getD i Sn.z).rf.flatMap Hd.cs⟩)])):=fun i hi=>hclone_o _ (Nat.le_trans (hr i (by omega)) (by decide))
 refine LSpecN.introL tQ Tryz.func113 rfl (by kernel_rfl) (by simp) (fun qs hq=>by obtain⟨x,y,rfl⟩:∃x y,qs=[x,y]:=(match qs,hq with|[x,y],_=>⟨x,y,rfl⟩);exact⟨by simp,by intro h1 h2;simp at h1 h2 ⊢;simp_all [eq_comm]⟩) ?_
 refine AWpL.sound tQ [] _ _ _ _ ?_
 conv=>whnf
 repeat'((first|(show LC _ _ 148 _ _ _;refine(Decidable.em (j=i0)).elim (fun hji=>LC.own (ho j (by assumption)) ?_) (fun hji=>LC.pure (hc j (by assumption)) ?_))|exact Nm.b 0|(refine And.intro ?_ ?_;(focus(first|(show(_:Nat)≤_;dsimp only;rw[cpX_len];omega)|exact T.kx|exact T.side)))|(show LC _ _ _ _ _ _;first|refine LC.own (sclone_c c.cx (by omega) (by omega)) ?_|refine goE ?_)|(show AC _ _ _;first|(refine cpX_cell (by assumption) (by rw[Nat.zero_add];rfl) ?_))|(show AQ _ _;first|(refine AQ.eq (cpX_own hji _ _ (by assumption) (by rw[Nat.zero_add];rfl) rfl) ?_)|(refine AQ.eq (cpX_oth hji _ (by assumption) (by rw[Nat.zero_add];rfl)) ?_))|refine T.s ?_|((first|apply goB|apply AB.dec|apply AB.gen)<;>intro h<;>try(exfalso;omega))|refine LQ.mk fun r=>?_|(show SWpL _ _ _ (.loop _) _ _ _;first|(apply goO tQ [] 3 (S:=Nat×Nm×Nm×Nm×Nm) [10] (fun(j,a,z,q,p)=>⟨[(11,.int .i64 j),(1,.ptr a 0),(2,.ptr z 0)],[(a,⟨62,[iAV c.m,iAV c.w,.vw q 0 c.cx.length 9]⟩),(z,⟨62,[iAV 0,iAV 0,.nils]⟩),(q,⟨122,cpX c i0 p j⟩),(p,⟨54,cpP c i0 j⟩)],j≤c.cx.length,c.cx.length-j⟩) ((0,_,_,_,p)) (by rfl);(focus((repeat' first|exact trivial|(refine And.intro ?_ ?_)|exact LB.nil|(with_reducible exact LB.refl)|(apply LB.cons;(repeat first|refine goH ?_|apply LH.here|apply LH.next);refine And.intro ?_ ?_;(focus(try(first|(with_reducible rfl)|(refine congrArg (Pl.mk _) ?_;(first|(with_reducible rfl)|exact qM hji|exact qN hji|exact zy c i0 _|rfl))|rfl|(with_reducible refine congrArg (Pl.mk _) ?_)))))|assumption|(first|(focus(apply Eq.trans;(conv=>lhs;whnf);(conv=>rhs;whnf);done))|rfl|((conv=>lhs;whnf);first|rfl|(refine congrArg (AV.int _) ?_;(exact T.num))|(refine congrArg AV.bool ?_;(exact T.num))|(refine vwc ?_;first|(exact T.num)|(first|(with_reducible rfl)|exact qM hji|exact qN hji|exact zy c i0 _|rfl))|(refine q9 ?_ ?_<;>first|(exact T.num)|(first|(with_reducible rfl)|exact qM hji|exact qN hji|exact zy c i0 _|rfl))|(first|(with_reducible rfl)|exact qM hji|exact qN hji|exact zy c i0 _|rfl)))|(exact T.num)|(dsimp only;(exact T.num))|(first|(with_reducible rfl)|exact qM hji|exact qN hji|exact zy c i0 _|rfl));done));rintro⟨j,a,z,q,p⟩ hok;(try dsimp only at hok)))|(show SWpL _ _ _ _ _ _ _;first|(show SWpL _ _ _ (.loop _) _ _ _;refine SWpL.dummy 54 fun p=>?_)|(refine goD tQ qc 5 [1,9] [0,1,2,3,4,5,6,7,8,9,10,11,12] [a] (by kernel_rfl) ?_))|(show AtL _ _ _ _ _ _ _ _ _ _;first|(by_cases hji:j=i0;(focus(rename_i pa pb pc;refine AtL.mk' (id:=3) (j+1,a,z,q,pa) ?_;(repeat' first|exact trivial|(refine And.intro ?_ ?_)|exact LB.nil|(with_reducible exact LB.refl)|(apply LB.cons;(repeat first|refine goH ?_|apply LH.here|apply LH.next);refine And.intro ?_ ?_;(focus(try(first|(with_reducible rfl)|(refine congrArg (Pl.mk _) ?_;(first|(with_reducible rfl)|exact qM hji|exact qN hji|exact zy c i0 _|rfl))|rfl|(with_reducible refine congrArg (Pl.mk _) ?_)))))|assumption|(first|(focus(apply Eq.trans;(conv=>lhs;whnf);(conv=>rhs;whnf);done))|rfl|((conv=>lhs;whnf);first|rfl|(refine congrArg (AV.int _) ?_;(exact T.num))|(refine congrArg AV.bool ?_;(exact T.num))|(refine vwc ?_;first|(exact T.num)|(first|(with_reducible rfl)|exact qM hji|exact qN hji|exact zy c i0 _|rfl))|(refine q9 ?_ ?_<;>first|(exact T.num)|(first|(with_reducible rfl)|exact qM hji|exact qN hji|exact zy c i0 _|rfl))|(first|(with_reducible rfl)|exact qM hji|exact qN hji|exact zy c i0 _|rfl)))|(exact T.num)|(dsimp only;(exact T.num))|(first|(with_reducible rfl)|exact qM hji|exact qN hji|exact zy c i0 _|rfl))));(focus(refine AtL.mk' (id:=3) (j+1,a,z,q,p) ?_;(repeat' first|exact trivial|(refine And.intro ?_ ?_)|exact LB.nil|(with_reducible exact LB.refl)|(apply LB.cons;(repeat first|refine goH ?_|apply LH.here|apply LH.next);refine And.intro ?_ ?_;(focus(try(first|(with_reducible rfl)|(refine congrArg (Pl.mk _) ?_;(first|(with_reducible rfl)|exact qM hji|exact qN hji|exact zy c i0 _|rfl))|rfl|(with_reducible refine congrArg (Pl.mk _) ?_)))))|assumption|(first|(focus(apply Eq.trans;(conv=>lhs;whnf);(conv=>rhs;whnf);done))|rfl|((conv=>lhs;whnf);first|rfl|(refine congrArg (AV.int _) ?_;(exact T.num))|(refine congrArg AV.bool ?_;(exact T.num))|(refine vwc ?_;first|(exact T.num)|(first|(with_reducible rfl)|exact qM hji|exact qN hji|exact zy c i0 _|rfl))|(refine q9 ?_ ?_<;>first|(exact T.num)|(first|(with_reducible rfl)|exact qM hji|exact qN hji|exact zy c i0 _|rfl))|(first|(with_reducible rfl)|exact qM hji|exact qN hji|exact zy c i0 _|rfl)))|(exact T.num)|(dsimp only;(exact T.num))|(first|(with_reducible rfl)|exact qM hji|exact qN hji|exact zy c i0 _|rfl)))))|(apply AtL.mk' (id:=3) (S:=Nat×Nm×Nm×Nm×Nm) ((j+1,_,_,_,_));(repeat' first|exact trivial|(refine And.intro ?_ ?_)|exact LB.nil|(with_reducible exact LB.refl)|(apply LB.cons;(repeat first|refine goH ?_|apply LH.here|apply LH.next);refine And.intro ?_ ?_;(focus(try(first|(with_reducible rfl)|(refine congrArg (Pl.mk _) ?_;(first|(with_reducible rfl)|exact qM hji|exact qN hji|exact zy c i0 _|rfl))|rfl|(with_reducible refine congrArg (Pl.mk _) ?_)))))|assumption|(first|(focus(apply Eq.trans;(conv=>lhs;whnf);(conv=>rhs;whnf);done))|rfl|((conv=>lhs;whnf);first|rfl|(refine congrArg (AV.int _) ?_;(exact T.num))|(refine congrArg AV.bool ?_;(exact T.num))|(refine vwc ?_;first|(exact T.num)|(first|(with_reducible rfl)|exact qM hji|exact qN hji|exact zy c i0 _|rfl))|(refine q9 ?_ ?_<;>first|(exact T.num)|(first|(with_reducible rfl)|exact qM hji|exact qN hji|exact zy c i0 _|rfl))|(first|(with_reducible rfl)|exact qM hji|exact qN hji|exact zy c i0 _|rfl)))|(exact T.num)|(dsimp only;(exact T.num))|(first|(with_reducible rfl)|exact qM hji|exact qN hji|exact zy c i0 _|rfl));done)|(apply AtL.mk' (id:=3) (S:=Nat×Nm×Nm×Nm×Nm) ((j+1,_,_,_,_));(repeat' first|exact trivial|(refine And.intro ?_ ?_)|exact LB.nil|(with_reducible exact LB.refl)|(apply LB.cons;(repeat first|refine goH ?_|apply LH.here|apply LH.next);refine And.intro ?_ ?_;(focus(try(first|(with_reducible rfl)|(refine congrArg (Pl.mk _) ?_;(first|(with_reducible rfl)|exact qM hji|exact qN hji|exact zy c i0 _|rfl))|rfl|(with_reducible refine congrArg (Pl.mk _) ?_)))))|assumption|(first|(focus(apply Eq.trans;(conv=>lhs;whnf);(conv=>rhs;whnf);done))|rfl|((conv=>lhs;whnf);first|rfl|(refine congrArg (AV.int _) ?_;(exact T.num))|(refine congrArg AV.bool ?_;(exact T.num))|(refine vwc ?_;first|(exact T.num)|(first|(with_reducible rfl)|exact qM hji|exact qN hji|exact zy c i0 _|rfl))|(refine q9 ?_ ?_<;>first|(exact T.num)|(first|(with_reducible rfl)|exact qM hji|exact qN hji|exact zy c i0 _|rfl))|(first|(with_reducible rfl)|exact qM hji|exact qN hji|exact zy c i0 _|rfl)))|(exact T.num)|(dsimp only;(exact T.num))|(first|(with_reducible rfl)|exact qM hji|exact qN hji|exact zy c i0 _|rfl))))|exact T.z|fail)<;>conv=>whnf)
 all_goals(try dsimp only)
 obtain rfl:j=c.cx.length:=by omega
 rw[cpX_e c i0 p hi,show cpP c i0 c.cx.length=(c.at i0).rf.flatMap Hd.cs from if_pos hi]
 apply RetLN.val [q,p] rfl
 · show LH _ _ _
   exact .next (.next (.here (.next (.next (.here trivial)))))
 · rfl
 · exact LB.cons (.next (.next (.here ⟨rfl,LB.cons (.next (.next (.here ⟨rfl,LB.nil⟩)))⟩)))
theorem cfnd1_c(p:Nm)(s:Sn)(h:Hd)(hs:s.act=true→0<s.rf.length):LP Tryz.prog G 159 [s.av,.ptr p 0] [(p,⟨54,h.cs⟩)] (fun _=>(.bool (ownP h s),[(p,⟨54,h.cs⟩)])):=by
 have hsm:LP Tryz.prog G 145 [(s.rf.getD 0 Hd.z).av,h.av] [] (fun _=>(.bool (qy s.fst h),[])):=fsame_c _ _
 refine goW [] Tryz.func159 rfl ?_
 conv=>whnf
 repeat'((first|exact Nm.b 0|(refine And.intro ?_ ?_;(focus(first|exact rec0_le (hs (by assumption))|exact Int.ofNat_lt.2 (hs (by assumption))|exact T.kx|exact T.side)))|(show LC _ _ _ _ _ _;first|refine LC.pure (hsm) ?_|refine goE ?_)|(show AC _ _ _;first|(refine AC.recd Hd.cs_len 0 Hd.z rfl rfl (hs (by assumption)) ?_))|refine T.s ?_|((first|apply goB|apply AB.dec|apply AB.gen)<;>intro h<;>try(exfalso;omega))|refine LQ.mk fun r=>?_|(show SWpL _ _ _ _ _ _ _;first|refine gX 1 [] [0,1,2,3,4,5,6,7,8,9,10] [] ?_)|exact T.z|fail)<;>conv=>whnf)
 all_goals(try dsimp only)
 all_goals
   (show RL _ _ _;refine goR ?_)
   simp[ownP, *]
theorem cfnd2_c(s:Sn):LP Tryz.prog G 160 [s.av] [] (fun _=>(.bool (!s.act),[])):=by
 refine goW [] Tryz.func160 rfl ?_
 conv=>whnf
 repeat'((first|refine T.s ?_|((first|apply goB|apply AB.dec|apply AB.gen)<;>intro h<;>try(exfalso;omega))|refine LQ.mk fun r=>?_|exact T.z|fail)<;>conv=>whnf)
 all_goals(try dsimp only)
 all_goals
   (show RL _ _ _;refine goR ?_)
   rfl
theorem fndR_e(l:List Sn)(h:Hd):x9 l h=(if kE (l.findIdx? (ownP h))<0 then freeI l else l.findIdx? (ownP h)):=by
 unfold x9 ownI
 show(match l.findIdx? (ownP h) with|some i=>some i|none=>freeI l)=_
 cases l.findIdx? (ownP h) with
 | none=>rfl
 | some i=>rw[if_neg (by simp[kE])]
theorem sidx0_l{P:Sn→Bool}(F:Nat)(hp:∀s:Sn,LP Tryz.prog G F [s.av] [] (fun _=>(.bool (P s),[])))(l:List Sn)(n:Nat)(hn:n=l.length)(hl:l.length≤100000):LP Tryz.prog G 158 [.sl n (l.flatMap Sn.cs),.lit (.func (.func F) #[] #[])] [] (fun _=>(iAV (kE (l.findIdx? P)),[])) :=
 (sidx0_c (G:=G) F hp l n hn hl).warg fun σ w vs h=>⟨h.1,fun i hi=>match i,hi with
   | 0,hi=>h.2 0 hi
   | 1,hi=>by
     have h1:Rd σ w (.lit (.func (.func F) #[] #[])) (vs.getD 1 undef):=h.2 1 hi
     show Rd σ w (.clo (.func F) [] []) (vs.getD 1 undef)
     generalize vs.getD 1 undef=v at h1
     cases h1
     exact .clo _ _ _ _ _ rfl rfl (fun i hi=>absurd hi (Nat.not_lt_zero _)) (fun i hi=>absurd hi (Nat.not_lt_zero _))⟩
theorem cfind_c(c:Co)(h:Hd)(hl:c.cx.length≤100000)(ha:∀i,i<c.cx.length→(c.at i).act=true→0<(c.at i).rf.length):LP Tryz.prog G 116 [c.av,h.av] [] (fun _=>(fndV (x9 c.cx h),[])):=by
 rw[fndR_e]
 refine goW [] Tryz.func116 rfl ?_
 conv=>whnf
 repeat'((first|(show LC _ _ _ _ _ _;first|(apply LC.upd (sidx_c 159 _ ⟨54,h.cs⟩ c.cx _ rfl (fun i hi=>cfnd1_c _ _ h (ha i hi)) hl);(repeat first|refine goH ?_|apply LH.here|apply LH.next);refine⟨rfl,?_⟩)|refine LC.pure (sidx0_l 160 cfnd2_c c.cx _ rfl hl) ?_|refine goE ?_)|refine T.s ?_|((first|apply goB|apply AB.dec|apply AB.gen)<;>intro h<;>try(exfalso;omega))|refine LQ.mk fun r=>?_|exact T.z|fail)<;>conv=>whnf)
 all_goals(try dsimp only)
 all_goals first
   | ((show RL _ _ _;refine goR ?_);rw[if_pos (by assumption)];exact fndV_e _)
   | ((show RL _ _ _;refine goR ?_);rw[if_neg (by assumption)];exact fndV_e _)
   | trace_state
end Go.Proofs.YtndpmpnmkpaklaaGreatDoor
namespace Go.Proofs.YtndpmpnmkpaklaaGreatDoor
open Go.RowKit
variable {G:Nat→AV}
theorem w6(a b:Hd):LP Tryz.prog G 166 [a.av,b.av] [] (fun _=>((zC a b).av,[])):=by
 have va:=zG (G:=G) a
 have vb:=zG (G:=G) b
 have hsm:=fsame_c (G:=G) a b
 by_cases hg:a.ok=true∧b.ok=true∧a.k=2∧qy a b=true
 · obtain⟨h1,h2,h3,h4⟩:=hg
   have hid:=ok_id h1
   rw[h1] at va;rw[h2] at vb;rw[h4] at hsm
   rw[show zC a b=_ from if_pos ⟨h1,h2,h3,h4⟩]
   have hS:=sg_rng 16 a.num b.num (by decide) (by decide)
   have hT:=sg_rng 32 a.tm b.tm (by decide) (by decide)
   have e1:q7 .add .i64 a.id (sg 16 a.num b.num)=a.id+sg 16 a.num b.num:=by(exact T.num)
   have hD:=tdiv_rng (s:=sg 16 a.num b.num) hT
   have e2:IntKind.i64.wrap ((sg 32 a.tm b.tm).tdiv (sg 16 a.num b.num))=(sg 32 a.tm b.tm).tdiv (sg 16 a.num b.num):=by rw[IntKind.wrap_i64];omega
   have hv:=jl (G:=G) ⟨IntKind.i64.wrap ((sg 32 a.tm b.tm).tdiv (sg 16 a.num b.num)),0⟩
   have hv0:=jl (G:=G) ⟨0,0⟩
   obtain⟨B,hB⟩:∃B,Dy.ok ⟨IntKind.i64.wrap ((sg 32 a.tm b.tm).tdiv (sg 16 a.num b.num)),0⟩=B:=⟨_,rfl⟩
   rw[hB] at hv
   rw[show Dy.ok ⟨0,0⟩=true by simp[Dy.ok,inR]] at hv0
   refine goW [] Tryz.func166 rfl ?_
   conv=>whnf
   repeat'((first|exact Nm.b 0|(show LC _ _ _ _ _ _;first|refine LC.pure (va) ?_|refine LC.pure (vb) ?_|refine LC.pure (hsm) ?_|refine LC.pure (hv) ?_|refine LC.pure (hv0) ?_|refine LC.pure (jm _) ?_|refine LC.pure (xG 16 _ _ (by decide) (by decide)) ?_|refine LC.pure (xG 32 _ _ (by decide) (by decide)) ?_|refine LC.pure (xQ 16 _ (by decide) (by decide)) ?_|refine goE ?_)|refine T.s ?_|((first|apply goB|apply AB.dec|apply AB.gen)<;>intro h<;>try(exfalso;omega))|refine LQ.mk fun r=>?_|(show SWpL _ _ _ _ _ _ _;first|refine gX 4 [2,1] [0,2,1,3,4,5] [] ?_|refine gX 10 [1,6] [0,1,2,3,4,5,6,7] [] ?_)|exact T.z|fail)<;>conv=>whnf)
   all_goals(try dsimp only)
   all_goals
     (show RL _ _ _;refine goR ?_)
     clear va vb hsm hv hv0
     try rw[e1] at *
     try rw[e2] at *
     simp only[Dy.ok,inR,Bool.and_eq_true,decide_eq_true_eq,decide_eq_false_iff_not] at *
     generalize (sg 32 a.tm b.tm).tdiv (sg 16 a.num b.num)=V at *
     generalize (sg 32 a.tm b.tm).tmod (sg 16 a.num b.num)=W at *
     first|((repeat first|rw[if_pos (by first|assumption|omega)]|rw[if_neg (by first|assumption|omega)]);rfl)|(have hT:(0≤V∧V≤65535)=(B=true):=(propext (by rw[←hB];simp));simp only[hT];clear hB hT;(repeat' split)<;>first|rfl|(exfalso;simp_all;done))
 · rw[learnR_n hg]
   refine goW [] Tryz.func166 rfl ?_
   conv=>whnf
   repeat'((first|exact Nm.b 0|(show LC _ _ _ _ _ _;first|refine LC.pure (va) ?_|refine LC.pure (vb) ?_|refine LC.pure (hsm) ?_|refine goE ?_)|refine T.s ?_|((first|apply goB|apply AB.dec|apply AB.gen)<;>intro h<;>try(exfalso;omega))|refine LQ.mk fun r=>?_|(show SWpL _ _ _ _ _ _ _;first|refine gX 4 [2,1] [0,2,1,3,4,5] [] ?_|refine gX 10 [1,6] [0,1,2,3,4,5,6,7] [] ?_)|exact T.z|fail)<;>conv=>whnf)
   all_goals(try dsimp only)
   all_goals first
     | ((show RL _ _ _;refine goR ?_);rfl)
     | (exfalso;simp_all [qy];done)
def fitH(width k v r:Int):Bool:=xD width r&&decide (lsbV width r k (lw k v)=v)
attribute [irreducible] fitH
theorem lfits_c(width:Int)(l:List Int)(k v:Int)(hl:l.length≤100000):LP Tryz.prog G 203 [iAV width,iv l,iAV k,iAV v] [] (fun _=>(.bool (jH width l k v),[])):=by
 have hw:=yy (G:=G) width
 have e:jH width l k v=(fitG width k v&&l.all (fitH width k v)):=by unfold jH fitG fitH;cases jD width<;>simp[Bool.and_assoc]
 rw[e]
 cases h1:jD width with
 | false =>
   rw[h1] at hw
   have e0:fitG width k v=false:=by unfold fitG;rw[h1];rfl
   rw[e0,Bool.false_and]
   refine goW [] Tryz.func203 rfl ?_
   conv=>whnf
   repeat'((first|(show LC _ _ _ _ _ _;first|refine LC.pure (hw) ?_|refine goE ?_)|refine T.s ?_|((first|apply goB|apply AB.dec|apply AB.gen)<;>intro h<;>try(exfalso;omega))|refine LQ.mk fun r=>?_|exact T.z|fail)<;>conv=>whnf)
   all_goals(try dsimp only)
   all_goals first|((show RL _ _ _;refine goR ?_);rfl)
 | true =>
   have hn:=wide_le h1
   rw[h1] at hw
   have hv:=jk (G:=G) width
   by_cases h2:3≤k∧k≤width
   · cases h3:xD width v with
     | false =>
       have e0:fitG width k v=false:=by unfold fitG;rw[h1,h3];simp
       rw[e0,Bool.false_and]
       have hvv:=jk (G:=G) width v (by omega) (by omega)
       rw[h3] at hvv
       refine goW [] Tryz.func203 rfl ?_
       conv=>whnf
       repeat'((first|(show LC _ _ _ _ _ _;first|refine LC.pure (hw) ?_|refine LC.pure (hvv) ?_|refine goE ?_)|refine T.s ?_|((first|apply goB|apply AB.dec|apply AB.gen)<;>intro h<;>try(exfalso;omega))|refine LQ.mk fun r=>?_|exact T.z|fail)<;>conv=>whnf)
       all_goals(try dsimp only)
       all_goals first|((show RL _ _ _;refine goR ?_);rfl)
     | true =>
       have e0:fitG width k v=true:=by unfold fitG;rw[h1,h3];simp[h2]
       rw[e0,Bool.true_and]
       have hvv:=jk (G:=G) width v (by omega) (by omega)
       rw[h3] at hvv
       have hf:∀r,¬(0≤r∧r<2^width.toNat)→fitH width k v r=false:=fun r h=>by unfold fitH;rw[show xD width r=false from decide_eq_false h];rfl
       have hvt:∀r,0≤r∧r<2^width.toNat→xD width r=true:=fun r h=>decide_eq_true h
       have hf2:∀r,¬lsbV width r k (lw k v)=v→fitH width k v r=false:=fun r h=>by unfold fitH;simp[h]
       have hf3:∀r,0≤r∧r<2^width.toNat→lsbV width r k (lw k v)=v→fitH width k v r=true:=fun r h h'=>by unfold fitH;rw[hvt r h,decide_eq_true h'];rfl
       refine goW [] Tryz.func203 rfl ?_
       conv=>whnf
       repeat'((first|(show LC _ _ _ _ _ _;first|refine LC.pure (hw) ?_|refine LC.pure (hvv) ?_|refine LC.pure (jk width _ (by omega) (by omega)) ?_|refine LC.pure (xQ k v (by omega) (by omega)) ?_|refine LC.pure (ldec_c width _ k _ (by omega) (by omega) (by omega) (hvt _ (by assumption))) ?_|refine goE ?_)|(show AC _ _ _;first|(refine AC.idx (i) (0) ?_ ?_ ?_;(focus(first|exact rfl|(simp;done)|(simp;omega)));(focus(first|omega|exact T.side))))|refine T.s ?_|((first|apply goB|apply AB.dec|apply AB.gen)<;>intro h<;>try(exfalso;omega))|refine LQ.mk fun r=>?_|(show SWpL _ _ _ (.loop _) _ _ _;first|(apply goO tQ [] 4 (S:=Nat) [0,2,3,29,30] (fun i=>⟨[(31,.int .i64 i)],[],i≤l.length∧(l.take i).all (fitH width k v)=true,l.length-i⟩) (0) (by rfl);(focus((repeat' first|exact trivial|(refine And.intro ?_ ?_)|exact LB.nil|(with_reducible exact LB.refl)|(apply LB.cons;(repeat first|refine goH ?_|apply LH.here|apply LH.next);refine And.intro ?_ ?_;(focus(try(first|(with_reducible rfl)|(refine congrArg (Pl.mk _) ?_;(first|rfl|(simp;done)))|rfl|(with_reducible refine congrArg (Pl.mk _) ?_)))))|assumption|(rw[jc _ _ 0 (by omega),hf3 _ (by assumption) (by assumption),hok];rfl)|(first|(focus(apply Eq.trans;(conv=>lhs;whnf);(conv=>rhs;whnf);done))|rfl|((conv=>lhs;whnf);first|rfl|(refine congrArg (AV.int _) ?_;(exact T.num))|(refine congrArg AV.bool ?_;(exact T.num))|(refine vwc ?_;first|(exact T.num)|(first|rfl|(simp;done)))|(refine q9 ?_ ?_<;>first|(exact T.num)|(first|rfl|(simp;done)))|(first|rfl|(simp;done))))|(exact T.num)|(dsimp only;(exact T.num))|(first|rfl|(simp;done)));done));rintro i ⟨hk,hok⟩))|(show AtL _ _ _ _ _ _ _ _ _ _;first|(apply AtL.mk' (id:=4) (S:=Nat) (i+1);(repeat' first|exact trivial|(refine And.intro ?_ ?_)|exact LB.nil|(with_reducible exact LB.refl)|(apply LB.cons;(repeat first|refine goH ?_|apply LH.here|apply LH.next);refine And.intro ?_ ?_;(focus(try(first|(with_reducible rfl)|(refine congrArg (Pl.mk _) ?_;(first|rfl|(simp;done)))|rfl|(with_reducible refine congrArg (Pl.mk _) ?_)))))|assumption|(rw[jc _ _ 0 (by omega),hf3 _ (by assumption) (by assumption),hok];rfl)|(first|(focus(apply Eq.trans;(conv=>lhs;whnf);(conv=>rhs;whnf);done))|rfl|((conv=>lhs;whnf);first|rfl|(refine congrArg (AV.int _) ?_;(exact T.num))|(refine congrArg AV.bool ?_;(exact T.num))|(refine vwc ?_;first|(exact T.num)|(first|rfl|(simp;done)))|(refine q9 ?_ ?_<;>first|(exact T.num)|(first|rfl|(simp;done)))|(first|rfl|(simp;done))))|(exact T.num)|(dsimp only;(exact T.num))|(first|rfl|(simp;done)));done)|(apply AtL.mk' (id:=4) (S:=Nat) (i+1);(repeat' first|exact trivial|(refine And.intro ?_ ?_)|exact LB.nil|(with_reducible exact LB.refl)|(apply LB.cons;(repeat first|refine goH ?_|apply LH.here|apply LH.next);refine And.intro ?_ ?_;(focus(try(first|(with_reducible rfl)|(refine congrArg (Pl.mk _) ?_;(first|rfl|(simp;done)))|rfl|(with_reducible refine congrArg (Pl.mk _) ?_)))))|assumption|(rw[jc _ _ 0 (by omega),hf3 _ (by assumption) (by assumption),hok];rfl)|(first|(focus(apply Eq.trans;(conv=>lhs;whnf);(conv=>rhs;whnf);done))|rfl|((conv=>lhs;whnf);first|rfl|(refine congrArg (AV.int _) ?_;(exact T.num))|(refine congrArg AV.bool ?_;(exact T.num))|(refine vwc ?_;first|(exact T.num)|(first|rfl|(simp;done)))|(refine q9 ?_ ?_<;>first|(exact T.num)|(first|rfl|(simp;done)))|(first|rfl|(simp;done))))|(exact T.num)|(dsimp only;(exact T.num))|(first|rfl|(simp;done)))))|exact T.z|fail)<;>conv=>whnf)
       all_goals(try dsimp only)
       all_goals first
         | ((show RL _ _ _;refine goR ?_);rw[allg_bad l i 0 (by omega) (hf _ (by assumption))])
         | ((show RL _ _ _;refine goR ?_);rw[allg_bad l i 0 (by omega) (hf2 _ (by assumption))])
         | ((show RL _ _ _;refine goR ?_);rw[yN (by omega) hok])
         | trace_state
   · have e0:fitG width k v=false:=by unfold fitG;rw[decide_eq_false h2];simp
     rw[e0,Bool.false_and]
     refine goW [] Tryz.func203 rfl ?_
     conv=>whnf
     repeat'((first|(show LC _ _ _ _ _ _;first|refine LC.pure (hw) ?_|refine goE ?_)|refine T.s ?_|((first|apply goB|apply AB.dec|apply AB.gen)<;>intro h<;>try(exfalso;omega))|refine LQ.mk fun r=>?_|(show SWpL _ _ _ (.loop _) _ _ _;first|(refine goL tQ [] 4 (S:=Nat) [0,2,3,29,30] (fun i=>⟨[(31,.int .i64 i)],[],False,l.length-i⟩) (0) ?_;rintro i hok;(try dsimp only at hok)))|(show AtL _ _ _ _ _ _ _ _ _ _;first|(show AtL 4 _ _ _ _ _ _ _ _ _;exact goN 4 (S:=Nat) (i+1))|(apply AtL.mk' (id:=4) (S:=Nat) (i+1);(repeat' first|exact trivial|(refine And.intro ?_ ?_)|exact LB.nil|(with_reducible exact LB.refl)|(apply LB.cons;(repeat first|refine goH ?_|apply LH.here|apply LH.next);refine And.intro ?_ ?_;(focus(try(first|(with_reducible rfl)|(refine congrArg (Pl.mk _) ?_;(first|rfl|(simp;done)))|rfl|(with_reducible refine congrArg (Pl.mk _) ?_)))))|assumption|(first|(focus(apply Eq.trans;(conv=>lhs;whnf);(conv=>rhs;whnf);done))|rfl|((conv=>lhs;whnf);first|rfl|(refine congrArg (AV.int _) ?_;(exact T.num))|(refine congrArg AV.bool ?_;(exact T.num))|(refine vwc ?_;first|(exact T.num)|(first|rfl|(simp;done)))|(refine q9 ?_ ?_<;>first|(exact T.num)|(first|rfl|(simp;done)))|(first|rfl|(simp;done))))|(exact T.num)|(dsimp only;(exact T.num))|(first|rfl|(simp;done)))))|exact T.z|fail)<;>conv=>whnf)
     all_goals(try dsimp only)
     all_goals first|((show RL _ _ _;refine goR ?_);rfl)
end Go.Proofs.YtndpmpnmkpaklaaGreatDoor
