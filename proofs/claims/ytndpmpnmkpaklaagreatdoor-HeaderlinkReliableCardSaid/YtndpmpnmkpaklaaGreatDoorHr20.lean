/-
  Contracts of the functions that the laws reach.
-/
import Derived.Test.YtndpmpnmkpaklaaGreatDoorHr15
import Derived.Test.YtndpmpnmkpaklaaGreatDoorHr19
set_option maxHeartbeats 1000000
set_option linter.all false
namespace Go.Proofs.YtndpmpnmkpaklaaGreatDoor
open Go.RowKit
variable {G:Nat→AV}
def oksG(c:Co)(i:Nat):Bool:=(c.at i).ok c.m c.w&&(List.range i).all fun k => !xA (c.at i) (c.at k)
theorem oks_e(c:Co)(n:Nat):c.oks n=(List.range n).all (oksG c):=rfl
theorem rng_succ{g:Nat→Bool}(n:Nat):(List.range (n+1)).all g=((List.range n).all g&&g n):=by rw[List.range_succ,List.all_append];simp
theorem rng_bad{g:Nat→Bool}{n:Nat}(i:Nat)(hi:i<n)(hb:g i=false):(List.range n).all g=false:=by
 cases hc:(List.range n).all g with
 | false=>rfl
 | true =>
   rw[List.all_eq_true] at hc
   have:=hc i (List.mem_range.2 hi)
   rw[hb] at this;cases this
theorem vT{g:Nat→Bool}{n i:Nat}(h:(List.range n).all g=true)(hi:i<n):g i=true:=List.all_eq_true.1 h i (List.mem_range.2 hi)
theorem kQ{m w:Int}{s:Sn}(h:s.ok m w=true)(ha:s.act=true):0<s.rf.length:=by
 have:=((Sn.ok_e ha).1 h).1.1
 omega
theorem oks_rf{c:Co}{n:Nat}(h:c.oks n=true)(j:Nat)(hj:j<n)(ha:(c.cx.getD j Sn.z).act=true):0<(c.cx.getD j Sn.z).rf.length:=by
 have h1:=vT h hj
 simp only[Bool.and_eq_true] at h1
 exact kQ h1.1 ha
theorem okc{c:Co}(h1:xY c.m c.w=true)(h2:c.cx.length=16)(h3:c.oks 16=true):c.ok=true:=by unfold Co.ok;rw[h1,h3,decide_eq_true h2];rfl
theorem okc_n{c:Co}(h3:c.oks 16=false):c.ok=false:=by unfold Co.ok;rw[h3];simp
theorem oksG_1{c:Co}{i:Nat}(h:(c.at i).ok c.m c.w=false):oksG c i=false:=by unfold oksG;rw[h];rfl
attribute [local irreducible] qy
end Go.Proofs.YtndpmpnmkpaklaaGreatDoor
namespace Go.Proofs.YtndpmpnmkpaklaaGreatDoor
open Go.RowKit
section
variable {P:Program}{G:Nat→AV}{N:Nat}{e:Env}{l:LS}{σ σ0:q8}{w0 w:World}{a:Act}
theorem Rel.dummy(t:TypeId)(h:Rel G N e σ σ0 w0 a w){k:Nat}(hk:σ (.v k)=none):Rel G N e (upd σ (.v k) ⟨t,[]⟩) σ0 w0 a w:=by
 have hst:Stp σ w (upd σ (.v k) ⟨t,[]⟩) w:=Stp.forget _ _ w fun b hb=>by rw[qe _ _ (by simp)];exact hb
 refine⟨h.n,h.d.mono hst,fun x=>(h.env x).mono hst,⟨fun q c hq=>?_,fun m c hm=>?_,j3 h.mem.fin _ _⟩,h.st.trans hst,h.glob.mono hst⟩
 · rw[qe _ _ (by simp)] at hq
   obtain⟨cur,k1,k2,k3⟩:=h.mem.pl q c hq
   exact⟨cur,k1,k2,fun i hi=>(k3 i hi).mono hst⟩
 · by_cases hmk:m=k
   · subst hmk;rw[qx] at hm;cases hm;rfl
   · rw[qe _ _ (by simp;exact hmk)] at hm
     exact h.mem.vl m c hm
theorem SWpL.dummy(t:TypeId){c:Code}{Q:Exit→Env→LS→Prop}(h:∀q,SWpL P G N c Q e ((q,⟨t,[]⟩)::l)):SWpL P G N c Q e l:=by
 refine⟨fun φ hs=>⟨fun σ0 w0 a w hr hok=>?_⟩⟩
 obtain⟨B,hB⟩:=hr.mem.fin
 have hk:=hB B (Nat.le_refl _)
 exact((h (.v B)).run φ (hs.new hk _)).run σ0 w0 a w (hr.dummy t hk) hok
theorem LFs.fm{α:Type}{F:List Nm}{f g:α→List AV}(h:∀x,LFs l F (f x) (g x)):∀xs:List α,LFs l F (xs.flatMap f) (xs.flatMap g)
 | []=>trivial
 | x::xs=>by rw[List.flatMap_cons,List.flatMap_cons];exact LFs.app (h x) (LFs.fm h xs)
theorem LFs.same{F:List Nm}:∀xs:List AV,LFs l F xs xs
 | []=>trivial
 | _::xs=>⟨.eq rfl,LFs.same xs⟩
end
open Go.RowKit
variable {G:Nat→AV}
theorem shapR_f{m w:Int}(h:¬(1≤m∧m≤3∧1≤w∧w≤8)):cnewR m w=(Co.z,3):=by
 unfold cnewR
 rw[if_neg]
 unfold xY
 simpa using h
theorem shapR_t{m w:Int}(h:1≤m∧m≤3∧1≤w∧w≤8):cnewR m w=(⟨m,w,List.replicate 16 Sn.z⟩,0):=by
 unfold cnewR
 rw[if_pos]
 unfold xY
 exact decide_eq_true h
def zsn:List AV:=[.bool false,iAV 0,iAV 0,iAV 0,iAV 0,iAV 0,iAV 0,iAV 0,.nils]
theorem zsn_f{l:LS}{F:List Nm}:LFs l F zsn Sn.z.cs:=⟨.eq rfl,.eq rfl,.eq rfl,.eq rfl,.eq rfl,.eq rfl,.eq rfl,.eq rfl,LF.nils rfl rfl,trivial⟩
theorem RL.coz{e:Int}{l:LS}:RL (fun _=>(.tup [Co.z.av,iAV e],[])) (.tup [.agg [.int .i64 0,.int .i64 0,.nils],.int .i64 e]) l :=
 RL.frz [] (LF.tup (xs:=[.agg [.int .i64 0,.int .i64 0,.nils],.int .i64 e]) (ys:=[Co.z.av,iAV e]) ⟨LF.agg (xs:=[.int .i64 0,.int .i64 0,.nils]) (ys:=[iAV 0,iAV 0,snv []]) ⟨LF.eq rfl,LF.eq rfl,LF.nils rfl rfl,trivial⟩,LF.eq rfl,trivial⟩) LB.nil
def cpG(c:Co)(i0:Nat)(q:Nm)(k:Nat):List AV:=if k=i0 then(c.at k).cv (.vw q 0 (c.at k).rf.length 15) else(c.at k).cs
def cpR(c:Co)(i0:Nat)(q:Nm)(n:Nat):List AV:=(List.range n).flatMap (cpG c i0 q)
theorem cpG_len(c:Co)(i0:Nat)(q:Nm)(k:Nat):(cpG c i0 q k).length=9:=by unfold cpG;split<;>rfl
theorem cpR_succ(c:Co)(i0:Nat)(q:Nm)(n:Nat):cpR c i0 q (n+1)=cpR c i0 q n++cpG c i0 q n:=by unfold cpR;rw[List.range_succ,List.flatMap_append];simp
@[simp] theorem cpR_len(c:Co)(i0:Nat)(q:Nm)(n:Nat):(cpR c i0 q n).length=n*9:=by
 induction n with
 | zero=>rfl
 | succ n ih=>rw[cpR_succ,List.length_append,ih,cpG_len];omega
theorem hds_one(l:List Hd):((l.flatMap Hd.cs).all AV.one)=true:=by
 induction l with
 | nil=>rfl
 | cons x l ih=>rw[List.flatMap_cons,List.all_append,ih];rfl
def cpP(c:Co)(i0 n:Nat):List AV:=if i0<n then(c.at i0).rf.flatMap Hd.cs else[]
@[reducible] def n0(q:List Nm):Nm:=q.getD 0 (.b 0)
@[reducible] def n1(q:List Nm):Nm:=q.getD 1 (.b 0)
theorem qM{c:Co}{i0 j:Nat}(h:j=i0):(c.at j).rf.flatMap Hd.cs=cpP c i0 (j+1):=by
 unfold cpP
 rw[if_pos (by omega),h]
theorem qN{c:Co}{i0 j:Nat}(h:¬j=i0):cpP c i0 j=cpP c i0 (j+1):=by
 unfold cpP
 by_cases h2:i0<j
 · rw[if_pos h2,if_pos (by omega)]
 · rw[if_neg h2,if_neg (by omega)]
open Go.RowKit
variable {G:Nat→AV}
theorem cpR_frz{l:LS}{F:List Nm}{c:Co}{i0:Nat}{p:Nm}(hF:InL p F)(hp:LH l p fun cc _ _=>cc.cs=(c.at i0).rf.flatMap Hd.cs):∀n,LFs l F (cpR c i0 p n) ((List.range n).flatMap fun k=>(c.at k).cs)
 | 0=>trivial
 | n+1=>by
   rw[cpR_succ,List.range_succ,List.flatMap_append]
   refine LFs.app (cpR_frz hF hp n) ?_
   simp only[List.flatMap_cons,List.flatMap_nil,List.append_nil]
   unfold cpG
   split
   · rename_i h
     subst h
     exact⟨.eq rfl,.eq rfl,.eq rfl,.eq rfl,.eq rfl,.eq rfl,.eq rfl,.eq rfl,LF.row hF (LH.mono hp fun cc _ _ e=>⟨by decide,by rw[e];exact qm Hd.cs_len _,rfl,e.symm⟩),trivial⟩
   · exact LFs.same _
theorem cx_range(c:Co)(n:Nat)(h:n≤c.cx.length):(List.range n).flatMap (fun k=>(c.at k).cs)=(c.cx.take n).flatMap Sn.cs:=by
 induction n with
 | zero=>simp
 | succ n ih =>
   rw[List.range_succ,List.flatMap_append,ih (by omega),List.take_succ_eq_append_getElem (by omega),List.flatMap_append]
   simp[Co.at,List.getD_eq_getElem?_getD,show n<c.cx.length by omega]
theorem j5(c:Co):(List.range c.cx.length).flatMap (fun k=>(c.at k).cs)=c.cx.flatMap Sn.cs:=by rw[cx_range c _ (Nat.le_refl _),List.take_length]
theorem LH.wk{p:Nm}{x:Nm×Pl}{Q:Pl→Prop}{l2:LS}:∀{l1:LS},(LH (l1++l2) p fun c _ _=>Q c)→LH (l1++x::l2) p fun c _ _=>Q c
 | [],h=>.next h
 | y::l1,h=>by
   obtain⟨m1,d,m2,e,hq⟩:=h.ex
   cases m1 with
   | nil =>
     injection e with e1 e2
     subst e1
     exact .here hq
   | cons z m1 =>
     injection e with e1 e2
     exact .next (LH.wk ⟨m1,d,m2,e2,hq⟩)
theorem cop_row{c:Co}{i0:Nat}{R:Nm}{l:LS}(h:LH l R fun cc _ r=>∃p,cc.cs=cpR c i0 p c.cx.length∧LH r p fun cc' _ _=>cc'.cs=(c.at i0).rf.flatMap Hd.cs):∃p,LF l [R,p] (.vw R 0 c.cx.length 9) (snv c.cx)∧LEra l [R,p] (LB []):=by
 obtain⟨l1,cc,l2,rfl,p,h1,h2⟩:=h.ex
 refine⟨p,LF.rowN InL.here ⟨l1,cc,l2,rfl,by decide,by rw[h1];exact cpR_len _ _ _ _,rfl,?_⟩,⟨l1,cc,l2,rfl,LH.mono h2 fun _ _ _ _=>LB.nil⟩⟩
 rw[h1,←j5]
 exact cpR_frz (InL.next InL.here) (LH.wk h2) _
theorem RL.cop{c:Co}(i0:Nat){R:Nm}{x:List UInt8}{e:Int}{l:LS}(h:LH l R fun cc _ r=>∃p,cc.cs=cpR c i0 p c.cx.length∧LH r p fun cc' _ _=>cc'.cs=(c.at i0).rf.flatMap Hd.cs):RL (fun _=>(.tup [c.av,bv x,iAV e],[])) (.tup [.agg [.int .i64 c.m,.int .i64 c.w,.vw R 0 c.cx.length 9],bv x,.int .i64 e]) l:=by
 obtain⟨p,h1,h2⟩:=cop_row h
 exact RL.frz [R,p] (LF.tup (xs:=[.agg [.int .i64 c.m,.int .i64 c.w,.vw R 0 c.cx.length 9],bv x,.int .i64 e]) (ys:=[c.av,bv x,iAV e]) ⟨LF.agg (xs:=[.int .i64 c.m,.int .i64 c.w,.vw R 0 c.cx.length 9]) (ys:=[iAV c.m,iAV c.w,snv c.cx]) ⟨.eq rfl,.eq rfl,h1,trivial⟩,.eq rfl,.eq rfl,trivial⟩) h2
theorem RL.co3{e:Int}{l:LS}:RL (fun _=>(.tup [Co.z.av,bv [],iAV e],[])) (.tup [.agg [.int .i64 0,.int .i64 0,.nils],.nils,.int .i64 e]) l :=
 RL.frz [] (LF.tup (xs:=[.agg [.int .i64 0,.int .i64 0,.nils],.nils,.int .i64 e]) (ys:=[Co.z.av,bv [],iAV e]) ⟨LF.agg (xs:=[.int .i64 0,.int .i64 0,.nils]) (ys:=[iAV 0,iAV 0,snv []]) ⟨LF.eq rfl,LF.eq rfl,LF.nils rfl rfl,trivial⟩,LF.nils rfl rfl,LF.eq rfl,trivial⟩) LB.nil
def cpr(x:(Co×List UInt8)×Int):AV:=.tup [x.1.1.av,bv x.1.2,iAV x.2]
theorem xy{c:Co}(h:c.ok=true):c.cx.length=16:=by
 unfold Co.ok at h
 simp only[Bool.and_eq_true,decide_eq_true_eq] at h
 exact h.2.1
theorem co_oks{c:Co}(h:c.ok=true):c.oks 16=true:=by
 unfold Co.ok at h
 simp only[Bool.and_eq_true] at h
 exact h.2.2
theorem co_sn{c:Co}(h:c.ok=true)(i:Nat)(hi:i<c.cx.length):(c.at i).ok c.m c.w=true:=by
 have h1:=vT (co_oks h) (by rw[xy h] at hi;exact hi)
 simp only[Bool.and_eq_true] at h1
 exact h1.1
theorem sn_rf{m w:Int}{s:Sn}(h:s.ok m w=true)(hw:w≤8):s.rf.length≤32:=by
 cases ha:s.act with
 | true =>
   have h1:=((Sn.ok_e ha).1 h).1
   unfold rngP kU at h1
   obtain⟨-,h1,-⟩:=h1
   split at h1<;>omega
 | false =>
   unfold Sn.ok at h
   rw[if_neg (by rw[ha];decide)] at h
   simp only[y9,decide_eq_true_eq] at h
   rw[h.2.2.2.2.2.2]
   decide
theorem yI{c:Co}(h:c.ok=true):1≤c.m∧c.m≤3∧1≤c.w∧c.w≤8:=by
 unfold Co.ok at h
 simp only[Bool.and_eq_true] at h
 have h1:=h.1
 simp only[xY,decide_eq_true_eq] at h1
 exact h1
theorem co_rf{c:Co}(h:c.ok=true)(i:Nat)(hi:i<c.cx.length):(c.at i).rf.length≤1000:=by
 have:=sn_rf (co_sn h i hi) (yI h).2.2.2
 omega
open Go.RowKit
section
variable {m w:Int}{s:Sn}{h:Hd}{x:Sn}{bg:Bool}
theorem csD_y{last:Hd}{had:Bool}(h1:bg=true∨x.ser=(x.rf.length:Int)∧(0<x.full∨0<x.refr)):yb x last had h=csD last had h (x,bg):=by
 unfold csD
 rw[if_pos h1]
theorem csD_n{last:Hd}{had:Bool}(h1:¬(bg=true∨x.ser=(x.rf.length:Int)∧(0<x.full∨0<x.refr))):x=csD last had h (x,bg):=by
 unfold csD
 rw[if_neg h1]
def zB(x:Sn)(h:Hd)(f:Int):Prop:=1≤f∧f≤4∧(2≤f→z9 x h 1=false)∧(3≤f→z9 x h 2=false)∧(4≤f→z9 x h 3=false)
theorem kY:zB x h 1:=⟨by decide,by decide,fun h=>absurd h (by decide),fun h=>absurd h (by decide),fun h=>absurd h (by decide)⟩
theorem kV{f:Int}(h1:zB x h f)(h2:f≤3)(h3:z9 x h f=false):zB x h (f+1):=by
 obtain⟨a1,a2,a3,a4,a5⟩:=h1
 have:f=1∨f=2∨f=3:=by omega
 rcases this with rfl|rfl|rfl
 · exact⟨by decide,by decide,fun _=>h3,fun h=>absurd h (by decide),fun h=>absurd h (by decide)⟩
 · exact⟨by decide,by decide,fun _=>a3 (by decide),fun _=>h3,fun h=>absurd h (by decide)⟩
 · exact⟨by decide,by decide,fun _=>a3 (by decide),fun _=>a4 (by decide),fun _=>h3⟩
def csF1(m:Int)(h:Hd)(s:Sn)(f:Int):Sn :=
 { s with
   full:=if m≠3∧f=5 then s.full-1 else s.full
   refr:=if m≠3∧f=4 then s.refr-1 else s.refr
   sin:=if f=5 then 0 else min (s.sin+1) 32
   lng:=if(f=2∨f=3)∧h.k=2 then min (s.lng+1) 3 else 0 }
end
theorem findR_lt{l:List Sn}{h:Hd}{i:Nat}(e:x9 l h=some i):i<l.length:=by
 have key:∀{p:Sn→Bool} {j:Nat},l.findIdx? p=some j→j<l.length:=fun {p j} hj=>by
   rw[List.findIdx?_eq_some_iff_getElem] at hj
   exact hj.1
 unfold x9 at e
 split at e
 · rename_i j hj
   cases e
   exact key hj
 · exact key e
def frs(c:Co)(a n:Nat):List AV:=((List.range n).drop a).flatMap fun k=>(c.at k).cs
theorem jn{α β:Type}{f g:α→List β}:∀l:List α,(∀k∈l,f k=g k)→l.flatMap f=l.flatMap g
 | [],_=>rfl
 | x::l,h=>by rw[List.flatMap_cons,List.flatMap_cons,h x (by simp),jn l fun k hk=>h k (by simp[hk])]
theorem cpR_split(c:Co)(i0:Nat)(p:Nm)(n:Nat)(h:i0<n):cpR c i0 p n=(List.range i0).flatMap (fun k=>(c.at k).cs)++((c.at i0).cv (.vw p 0 (c.at i0).rf.length 15)++frs c (i0+1) n):=by
 have e:List.range n=List.range i0++(i0::(List.range n).drop (i0+1)):=by
   have h1:List.range n=(List.range n).take i0++(List.range n).drop i0:=(List.take_append_drop _ _).symm
   rw[List.take_range,Nat.min_eq_left (by omega),List.drop_eq_getElem_cons (by simpa using h)] at h1
   simpa using h1
 unfold cpR frs
 rw[e,List.flatMap_append,List.flatMap_cons]
 have e1:(List.range i0).flatMap (cpG c i0 p)=(List.range i0).flatMap fun k=>(c.at k).cs:=by
   refine jn _ fun k hk=>?_
   unfold cpG
   rw[if_neg (by have:=List.mem_range.1 hk;omega)]
 have e2:((List.range n).drop (i0+1)).flatMap (cpG c i0 p)=((List.range n).drop (i0+1)).flatMap fun k=>(c.at k).cs:=by
   refine jn _ fun k hk=>?_
   unfold cpG
   rw[if_neg]
   rintro rfl
   obtain⟨j,hj,hk⟩:=List.mem_iff_getElem.1 hk
   simp at hk
   omega
 rw[e1,e2,←e]
 congr 2
 unfold cpG
 rw[if_pos rfl]
theorem wy(c:Co)(n:Nat):((List.range n).flatMap fun k=>(c.at k).cs).length=n*9:=by
 have:=qm (f:=fun k=>(c.at k).cs) (n:=9) (fun _=>rfl) (List.range n)
 rwa [List.length_range] at this
theorem cpR_at(c:Co)(i0:Nat)(p:Nm)(n:Nat)(h:i0<n):((cpR c i0 p n).drop (i0*9)).take 9=(c.at i0).cv (.vw p 0 (c.at i0).rf.length 15):=by
 rw[cpR_split c i0 p n h,List.drop_append,wy,List.drop_of_length_le (by rw[wy];omega),List.nil_append,Nat.sub_self,List.drop_zero]
 rfl
theorem cpR_set(c:Co)(i0:Nat)(p:Nm)(n:Nat)(h:i0<n)(ys:List AV)(hy:ys.length=9):qg (cpR c i0 p n) (i0*9) ys=(List.range i0).flatMap (fun k=>(c.at k).cs)++(ys++frs c (i0+1) n):=by
 rw[cpR_split c i0 p n h]
 unfold qg
 rw[List.take_append,List.take_of_length_le (by rw[wy];omega),wy,Nat.sub_self,List.take_zero,List.append_nil,List.drop_append,List.drop_of_length_le (by rw[wy];omega),wy,hy,show i0*9+9-i0*9=9 by omega]
 simp
theorem AC.cpA{c:Co}{i0:Nat}{p:Nm}{n o m:Nat}{K:AV→Prop}(ho:o=i0*9)(hm:m=9)(h:i0<n)(k:K (.agg ((c.at i0).cv (.vw p 0 (c.at i0).rf.length 15)))):AC true (((cpR c i0 p n).drop o).take m) K:=⟨by
 subst ho hm
 rw[cpR_at c i0 p n h]
 exact k⟩
theorem AQ.cpS{c:Co}{i0:Nat}{p:Nm}{n o:Nat}{ys:List AV}{K:List AV→Prop}(ho:o=i0*9)(h:i0<n)(hy:ys.length=9)(k:K ((List.range i0).flatMap (fun k=>(c.at k).cs)++(ys++frs c (i0+1) n))):AQ (qg (cpR c i0 p n) o ys) K:=⟨by
 subst ho
 rw[cpR_set c i0 p n h ys hy]
 exact k⟩
theorem set_fm(c:Co)(i0:Nat)(h:i0<c.cx.length)(s':Sn):(c.cx.set i0 s').flatMap Sn.cs=(List.range i0).flatMap (fun k=>(c.at k).cs)++(s'.cs++frs c (i0+1) c.cx.length):=by
 have e:frs c (i0+1) c.cx.length=(c.cx.drop (i0+1)).flatMap Sn.cs:=by
   have h1:=j5 c
   have h2:=kj (f:=fun k=>(c.at k).cs) (n:=9) (fun _=>rfl) (List.range c.cx.length) (i0+1)
   rw[h1,kj Sn.cs_len] at h2
   exact h2.symm
 rw[e,cx_range c i0 (by omega),List.set_eq_take_append_cons_drop,if_pos h,List.flatMap_append,List.flatMap_cons]
open Go.RowKit
theorem qV{a b:Hd}:qy a b=true↔(a.k=b.k∧a.fr=b.fr∧a.to=b.to∧a.fp=b.fp∧a.tp=b.tp∧a.sr=b.sr):=by unfold qy;rw[decide_eq_true_iff]
theorem zQ{a b:Hd}(h:qy a b=true):qy b a=true:=by
 rw[qV] at h ⊢
 exact⟨h.1.symm,h.2.1.symm,h.2.2.1.symm,h.2.2.2.1.symm,h.2.2.2.2.1.symm,h.2.2.2.2.2.symm⟩
theorem z8{a b c:Hd}(h:qy a b=true)(k:qy b c=true):qy a c=true:=by
 rw[qV] at h k ⊢
 exact⟨h.1.trans k.1,h.2.1.trans k.2.1,h.2.2.1.trans k.2.2.1,h.2.2.2.1.trans k.2.2.2.1,h.2.2.2.2.1.trans k.2.2.2.2.1,h.2.2.2.2.2.trans k.2.2.2.2.2⟩
theorem xj(a:Hd):qy a a=true:=qV.2 ⟨rfl,rfl,rfl,rfl,rfl,rfl⟩
theorem mem_lst{s:Sn}(h:0<s.rf.length):s.lst∈s.rf:=by
 unfold Sn.lst
 rw[List.getD_eq_getElem?_getD,List.getElem?_eq_getElem (by omega)]
 exact List.getElem_mem _
theorem mem_fst{s:Sn}(h:0<s.rf.length):s.fst∈s.rf:=by
 unfold Sn.fst
 rw[List.getD_eq_getElem?_getD,List.getElem?_eq_getElem (by omega)]
 exact List.getElem_mem _
theorem dyz_ok:Dy.z.ok=true:=by unfold Dy.ok Dy.z inR;decide
theorem yz(a b:Hd):(zC a b).ok=true∧(a.k=2∨zC a b=Dy.z):=by
 unfold zC
 split
 · rename_i h
   refine⟨?_,.inl h.2.2.1⟩
   unfold Dy.ok
   simp only[Bool.and_eq_true,decide_eq_true_eq]
   constructor
   · split
     · rename_i h2;exact inR_t ⟨h2.2.2.1,h2.2.2.2⟩
     · exact inR_t ⟨by decide,by decide⟩
   · split
     · exact .inr rfl
     · exact .inl rfl
 · exact⟨dyz_ok,.inr rfl⟩
structure Mid(m w:Int)(h:Hd)(x:Sn):Prop where
 act:x.act=true
 full:0≤x.full∧x.full≤w
 refr:0≤x.refr∧x.refr≤w
 both:¬(0<x.full∧0<x.refr)
 ser:0≤x.ser∧x.ser≤x.rf.length
 sin:0≤x.sin∧x.sin≤32
 lng:0≤x.lng∧x.lng≤3
 dok:x.dy.ok=true
 dz:h.k=2∨x.dy=Dy.z
 refs:∀r∈x.rf,r.ok=true∧qy r h=true
 len:(m≠3→(x.rf.length:Int)≤w)∧(m=3→x.rf.length≤32)
section
variable {m w:Int}{s x:Sn}{h:Hd}
theorem sn_refs(hs:s.ok m w=true)(ha:s.act=true)(hh:qy s.fst h=true):∀r∈s.rf,r.ok=true∧qy r h=true:=fun r hr=>by
 have h1:=((Sn.ok_e ha).1 hs).2.2.1
 rw[List.all_eq_true] at h1
 have h2:=h1 r hr
 unfold refG at h2
 rw[Bool.and_eq_true] at h2
 exact⟨h2.1,z8 h2.2 hh⟩
theorem wU(hs:s.ok m w=true)(ha:s.act=false):s.full=0∧s.refr=0∧s.ser=0∧s.sin=0∧s.lng=0∧s.dy=Dy.z∧s.rf=[]:=by
 unfold Sn.ok at hs
 rw[if_neg (by rw[ha];decide)] at hs
 unfold y9 at hs
 exact of_decide_eq_true hs
theorem wZ(hs:s.ok m w=true)(ha:s.act=true)(hh:qy s.fst h=true):Mid m w h s:=by
 have h1:=(Sn.ok_e ha).1 hs
 have h2:=h1.1
 unfold rngP kU at h2
 have he:endR s=true:=h1.2.2.2
 unfold endR at he
 have he:=of_decide_eq_true he
 rw[(qV.1 hh).1] at he
 exact⟨ha,h2.2.2.2.1,h2.2.2.2.2.1,h2.2.2.2.2.2.1,h2.2.2.1,h2.2.2.2.2.2.2.1,h2.2.2.2.2.2.2.2,h1.2.1,he,sn_refs hs ha hh,fun hm=>by have:=h2.2.1;rw[if_neg hm] at this;exact this,fun hm=>by have:=h2.2.1;rw[if_pos hm] at this;omega⟩
def Beg(y:Sn×Bool):Prop:=y.2=true→0<y.1.full∨0<y.1.refr
theorem csA_mid(hw:1≤w)(hs:s.ok m w=true)(hh:s.act=true→qy s.fst h=true):Mid m w h (csA w s h).1∧Beg (csA w s h)∧(csA w s h).1.rf=s.rf:=by
 unfold csA
 cases ha:s.act with
 | false =>
   rw[if_pos rfl]
   obtain⟨a1,a2,a3,a4,a5,a6,a7⟩:=wU hs ha
   refine⟨⟨rfl,⟨by dsimp only;omega,by dsimp only;omega⟩,⟨by dsimp only;omega,by dsimp only;omega⟩,by dsimp only;omega,⟨by dsimp only;omega,by dsimp only;omega⟩,⟨by dsimp only;omega,by dsimp only;omega⟩,⟨by dsimp only;omega,by dsimp only;omega⟩,by rw[a6];exact dyz_ok,.inr a6,fun r hr=>?_,?_⟩,fun _=>.inl (by dsimp only;omega),rfl⟩
   · dsimp only at hr;rw[a7] at hr;cases hr
   · dsimp only;rw[a7];exact⟨fun _=>by show(0:Int)≤w;omega,fun _=>by decide⟩
 | true =>
   rw[if_neg (by decide)]
   have h0:=wZ hs ha (hh ha)
   split
   · split
     · exact⟨{ h0 with full:=⟨by dsimp only;omega,by dsimp only;omega⟩,both:=by have:=h0.both;dsimp only;omega,lng:=⟨by dsimp only;omega,by dsimp only;omega⟩,act:=rfl },fun _=>.inl (by dsimp only;omega),rfl⟩
     · exact⟨{ h0 with refr:=⟨by dsimp only;omega,by dsimp only;omega⟩,both:=by have:=h0.both;dsimp only;omega,lng:=⟨by dsimp only;omega,by dsimp only;omega⟩,act:=rfl },fun _=>.inr (by dsimp only;omega),rfl⟩
   · exact⟨h0,fun k=>Bool.noConfusion k,rfl⟩
theorem csB_mid(hw:1≤w){y:Sn×Bool}(h0:Mid m w h y.1)(hb:Beg y):Mid m w h (csB m w y).1∧Beg (csB m w y)∧(csB m w y).1.rf=y.1.rf:=by
 unfold csB
 split
 · exact⟨{ h0 with full:=⟨by dsimp only;omega,by dsimp only;omega⟩,refr:=⟨by dsimp only;omega,by dsimp only;omega⟩,both:=by dsimp only;omega },fun _=>.inl (by dsimp only;omega),rfl⟩
 · exact⟨h0,hb,rfl⟩
theorem csD_mid(hw:1≤w){y:Sn×Bool}{n:Nat}{last:Hd}{had:Bool}(hn:n=y.1.rf.length)(h0:Mid m w h y.1)(hb:Beg y)(hl:had=true→last.k=h.k) :
   Mid m w h (csD last had h (csC m w n y))∧(m=3→(csD last had h (csC m w n y)).rf.length<32)∧((csD last had h (csC m w n y)).rf=y.1.rf∨(csD last had h (csC m w n y)).rf=[]):=by
 have key:∀z:Sn,Mid m w h { z with ser:=0 }→Mid m w h (yb z last had h):=fun z hz=>by
   unfold yb
   refine { hz with ser:=⟨by dsimp only;omega,by dsimp only;omega⟩,dok:=?_,dz:=?_ }
   · dsimp only
     split
     · exact(yz last h).1
     · exact dyz_ok
   · dsimp only
     split
     · rename_i hd
       have:=(yz last h).2
       rw[hl hd] at this
       exact this
     · exact .inr rfl
 unfold csC
 split
 · rename_i hc
   have e:csD last had h ({ y.1 with full:=w,refr:=0,rf:=[] },true)=yb { y.1 with full:=w,refr:=0,rf:=[] } last had h:=(csD_y (.inl rfl)).symm
   rw[e]
   refine⟨key _ { h0 with full:=⟨by dsimp only;omega,by dsimp only;omega⟩,refr:=⟨by dsimp only;omega,by dsimp only;omega⟩,both:=by dsimp only;omega,ser:=⟨by dsimp only;omega,by show(0:Int)≤_;omega⟩,refs:=fun r hr=>(by cases hr),len:=⟨fun _=>by show(0:Int)≤w;omega,fun _=>by show 0≤32;decide⟩ },fun _=>by show 0<32;decide,.inr rfl⟩
 · rename_i hc
   have hlt:m=3→y.1.rf.length<32:=fun hm=>by have:=h0.len.2 hm;rw[hn] at hc;omega
   unfold csD
   split
   · exact⟨key _ { h0 with ser:=⟨by dsimp only;omega,by dsimp only;omega⟩ },hlt,.inl rfl⟩
   · exact⟨h0,hlt,.inl rfl⟩
theorem csE_mid(hw:1≤w){u last:Hd}{had:Bool}(h0:Mid m w h x)(hl:had=true→last.k=h.k) :
   Mid m w h (csE w last had h x).1∧(1≤(csE w last had h x).2∧(csE w last had h x).2≤5)∧((csE w last had h x).2=5↔0<(csE w last had h x).1.full)∧((csE w last had h x).2=4↔0<(csE w last had h x).1.refr)∧(csE w last had h x).1.rf=x.rf:=by
 have hb:=h0.both
 have h1:=h0.full
 have h2:=h0.refr
 unfold csE
 split
 · exact⟨h0,by dsimp only;omega,⟨fun _=>by assumption,fun _=>rfl⟩,⟨fun k=>by dsimp only at k;omega,fun k=>by dsimp only at k;omega⟩,rfl⟩
 · split
   · exact⟨h0,by dsimp only;omega,⟨fun k=>by dsimp only at k;omega,fun k=>by dsimp only at k;omega⟩,⟨fun _=>by assumption,fun _=>rfl⟩,rfl⟩
   · split
     · exact⟨h0,by dsimp only;omega,⟨fun k=>by dsimp only at k;omega,fun k=>by dsimp only at k;omega⟩,⟨fun k=>by dsimp only at k;omega,fun k=>by dsimp only at k;omega⟩,rfl⟩
     · split
       · exact⟨h0,by dsimp only;omega,⟨fun k=>by dsimp only at k;omega,fun k=>by dsimp only at k;omega⟩,⟨fun k=>by dsimp only at k;omega,fun k=>by dsimp only at k;omega⟩,rfl⟩
       · split
         · exact⟨h0,by dsimp only;omega,⟨fun k=>by dsimp only at k;omega,fun k=>by dsimp only at k;omega⟩,⟨fun k=>by dsimp only at k;omega,fun k=>by dsimp only at k;omega⟩,rfl⟩
         · unfold yb
           refine⟨{ h0 with ser:=⟨by dsimp only;omega,by dsimp only;omega⟩,dok:=?_,dz:=?_,refr:=⟨by dsimp only;omega,by dsimp only;omega⟩,lng:=⟨by dsimp only;omega,by dsimp only;omega⟩,both:=by dsimp only;omega },by dsimp only;omega,⟨fun k=>by dsimp only at k;omega,fun k=>by dsimp only at k;omega⟩,⟨fun _=>by dsimp only;omega,fun _=>rfl⟩,rfl⟩
           · dsimp only
             split
             · exact(yz last h).1
             · exact dyz_ok
           · dsimp only
             split
             · rename_i hd
               have:=(yz last h).2
               rw[hl hd] at this
               exact this
             · exact .inr rfl
theorem lst_k(hs:s.ok m w=true)(hh:s.act=true→qy s.fst h=true)(ha:s.act=true):s.lst.k=h.k:=(qV.1 (sn_refs hs ha (hh ha) _ (mem_lst (kQ hs ha))).2).1
theorem ks(hw:1≤w)(hs:s.ok m w=true)(hh:s.act=true→qy s.fst h=true) :
   Mid m w h (zf m w s h).1∧(1≤(zf m w s h).2∧(zf m w s h).2≤5)∧((zf m w s h).2=5↔0<(zf m w s h).1.full)∧((zf m w s h).2=4↔0<(zf m w s h).1.refr)∧(m=3→(zf m w s h).1.rf.length<32):=by
 have hl:=lst_k hs hh
 have h1:=csA_mid (m:=m) hw hs hh
 have h2:=csB_mid hw h1.1 h1.2.1
 have h3:=csD_mid (n:=s.rf.length) (last:=s.lst) (had:=s.act) hw (by rw[h2.2.2,h1.2.2]) h2.1 h2.2.1 hl
 have h4:=csE_mid (last:=s.lst) (had:=s.act) (u:=h) hw h3.1 hl
 unfold zf
 exact⟨h4.1,h4.2.1,h4.2.2.1,h4.2.2.2.1,fun hm=>by rw[h4.2.2.2.2];exact h3.2.1 hm⟩
theorem all_of{l:List Hd}{p:Hd→Bool}(k:∀r∈l,p r=true):l.all p=true:=List.all_eq_true.2 k
theorem sn_ok_of(ha:x.act=true)(hr:rngP m w x)(hd:x.dy.ok=true)(hk:x.fst.k=2∨x.dy=Dy.z)(hrf:∀r∈x.rf,r.ok=true∧qy r x.fst=true):x.ok m w=true:=by
 refine(Sn.ok_e ha).2 ⟨hr,hd,all_of fun r hr=>?_,?_⟩
 · unfold refG
   rw[(hrf r hr).1,(hrf r hr).2];rfl
 · unfold endR
   exact decide_eq_true hk
def cutN(m w:Int)(x:Sn):Nat:=if m≠3∧w<(x.rf.length:Int)+1 then((x.rf.length:Int)+1-w).toNat else 0
theorem csF_rf(f:Int):(csF m w h x f).rf=(x.rf++[h]).drop (cutN m w x):=by
 unfold csF cutN
 dsimp only
 split
 · rfl
 · rw[List.drop_zero]
theorem cutN_le(hw:1≤w):cutN m w x≤x.rf.length:=by unfold cutN;split<;>omega
theorem csF_len(hw:1≤w)(f:Int):(csF m w h x f).rf.length=x.rf.length+1-cutN m w x:=by rw[csF_rf];simp
theorem csF_lst(hw:1≤w)(f:Int):(csF m w h x f).lst=h:=by
 have h1:=cutN_le (m:=m) (x:=x) hw
 unfold Sn.lst
 rw[csF_len hw,csF_rf,List.getD_eq_getElem?_getD,List.getElem?_drop,show cutN m w x+(x.rf.length+1-cutN m w x-1)=x.rf.length by omega]
 simp
theorem csF_ok(hw:1≤w)(hw8:w≤8)(h0:Mid m w h x)(ho:h.ok=true){f:Int}(h5:f=5→0<x.full)(h4:f=4→0<x.refr)(h3:m=3→x.rf.length<32):(csF m w h x f).ok m w=true∧(csF m w h x f).act=true∧qy (csF m w h x f).fst h=true:=by
 have hl:=csF_len (m:=m) (h:=h) (x:=x) hw f
 have hc:=cutN_le (m:=m) (x:=x) hw
 have hpos:0<(csF m w h x f).rf.length:=by omega
 have hmem:∀r∈(csF m w h x f).rf,r.ok=true∧qy r h=true:=fun r hr=>by
   rw[csF_rf] at hr
   have:=List.mem_of_mem_drop hr
   rw[List.mem_append,List.mem_singleton] at this
   rcases this with k|rfl
   · exact h0.refs r k
   · exact⟨ho,xj _⟩
 have hf:=hmem _ (mem_fst hpos)
 have a1:=h0.full
 have a2:=h0.refr
 have a3:=h0.both
 have a4:=h0.ser
 have a5:=h0.sin
 have a6:=h0.lng
 have a7:=h0.len
 refine⟨sn_ok_of h0.act ?_ h0.dok ?_ fun r hr=>⟨(hmem r hr).1,z8 (hmem r hr).2 (zQ hf.2)⟩,h0.act,hf.2⟩
 · have e:(csF m w h x f).ser=if m≠3∧w<(x.rf.length:Int)+1 then max 0 (x.ser-((x.rf.length:Int)+1-w)) else x.ser:=rfl
   refine⟨hpos,?_,?_,?_,?_,?_,?_,?_⟩
   · rw[hl]
     unfold kU cutN
     by_cases hm:m=3
     · have:=h3 hm;rw[if_pos hm,if_neg (by omega)];omega
     · have:=a7.1 hm;rw[if_neg hm];split<;>omega
   · rw[hl,e]
     unfold cutN
     split<;>omega
   · show 0≤(if m≠3∧f=5 then x.full-1 else x.full)∧(if m≠3∧f=5 then x.full-1 else x.full)≤w
     split<;>omega
   · show 0≤(if m≠3∧f=4 then x.refr-1 else x.refr)∧(if m≠3∧f=4 then x.refr-1 else x.refr)≤w
     split<;>omega
   · show ¬(0<(if m≠3∧f=5 then x.full-1 else x.full)∧0<(if m≠3∧f=4 then x.refr-1 else x.refr))
     split<;>split<;>omega
   · show 0≤(if f=5 then 0 else min (x.sin+1) 32)∧(if f=5 then 0 else min (x.sin+1) 32)≤32
     split<;>omega
   · show 0≤(if(f=2∨f=3)∧h.k=2 then min (x.lng+1) 3 else 0)∧(if(f=2∨f=3)∧h.k=2 then min (x.lng+1) 3 else 0)≤3
     split<;>omega
 · rw[(qV.1 hf.2).1]
   exact h0.dz
end
theorem ya{c:Co}:c.ok=true↔(1≤c.m∧c.m≤3∧1≤c.w∧c.w≤8)∧c.cx.length=16∧(∀i,i<16→(c.at i).ok c.m c.w=true)∧∀i k,k<i→i<16→xA (c.at i) (c.at k)=false:=by
 constructor
 · intro h
   refine⟨yI h,xy h,fun i hi=>co_sn h i (by rw[xy h];exact hi),fun i k hk hi=>?_⟩
   have h1:=vT (co_oks h) hi
   rw[Bool.and_eq_true] at h1
   have h2:=vT h1.2 hk
   simpa using h2
 · rintro⟨h1,h2,h3,h4⟩
   refine okc ?_ h2 ?_
   · unfold xY;exact decide_eq_true h1
   · rw[oks_e,List.all_eq_true]
     intro i hi
     have hi:=List.mem_range.1 hi
     unfold oksG
     rw[h3 i hi,Bool.true_and,List.all_eq_true]
     intro k hk
     rw[h4 i k (List.mem_range.1 hk) hi];rfl
theorem yO{s t:Sn}:xA s t=true↔s.act=true∧t.act=true∧qy s.fst t.fst=true:=by unfold xA;simp
theorem alike_f{s t:Sn}(h:s.act=true→t.act=true→qy s.fst t.fst=true→False):xA s t=false:=by
 cases hc:xA s t with
 | false=>rfl
 | true=>rw[yO] at hc;exact(h hc.1 hc.2.1 hc.2.2).elim
theorem co_set{c:Co}{i:Nat}{s:Sn}{h:Hd}(hc:c.ok=true)(hi:i<16)(hs:s.ok c.m c.w=true)(hf:s.act=true→qy s.fst h=true)(ho:∀k,k<16→k≠i→(c.at k).act=true→qy (c.at k).fst h=false):(c.set i s).ok=true:=by
 obtain⟨h1,h2,h3,h4⟩:=ya.1 hc
 have hat:∀k,k<16→(c.set i s).at k=if k=i then s else c.at k:=fun k hk=>by
   unfold Co.set Co.at
   rw[List.getD_eq_getElem?_getD,List.getElem?_set]
   split
   · rename_i e;subst e;rw[if_pos (by omega),if_pos rfl];rfl
   · rename_i e;rw[if_neg (fun k=>e k.symm),List.getD_eq_getElem?_getD]
 refine ya.2 ⟨h1,by show(c.cx.set i s).length=16;rw[List.length_set];exact h2,fun k hk=>?_,fun a b hb ha=>?_⟩
 · rw[hat k hk]
   split
   · exact hs
   · exact h3 k hk
 · rw[hat a ha,hat b (by omega)]
   split
   · rename_i e
     rw[if_neg (by omega)]
     refine alike_f fun x1 x2 x3=>?_
     have:=ho b (by omega) (by omega) x2
     rw[z8 (zQ x3) (hf x1)] at this
     cases this
   · rename_i e
     split
     · refine alike_f fun x1 x2 x3=>?_
       have:=ho a ha e x1
       rw[z8 x3 (hf x2)] at this
       cases this
     · exact h4 a b hb ha
theorem xu{c:Co}{h:Hd}{i:Nat}(hc:c.ok=true)(hf:x9 c.cx h=some i):i<16∧(c.at i).ok c.m c.w=true∧((c.at i).act=true→qy (c.at i).fst h=true)∧∀k,k<16→k≠i→(c.at k).act=true→qy (c.at k).fst h=false:=by
 have hl:=xy hc
 have hi:=findR_lt hf
 obtain⟨h1,h2,h3,h4⟩:=ya.1 hc
 have ga:∀k,(hk:k<c.cx.length)→c.at k=c.cx[k]:=fun k hk=>by unfold Co.at;simp[List.getD_eq_getElem?_getD,hk]
 refine⟨by omega,h3 i (by omega),?_⟩
 unfold x9 at hf
 split at hf
 · rename_i j hj
   cases hf
   unfold ownI at hj
   rw[List.findIdx?_eq_some_iff_getElem] at hj
   obtain⟨hx,h5,-⟩:=hj
   rw[←ga i hi,Bool.and_eq_true] at h5
   refine⟨fun _=>h5.2,fun k hk hne hka=>?_⟩
   cases hs:qy (c.at k).fst h with
   | false=>rfl
   | true =>
     have h6:=z8 hs (zQ h5.2)
     rcases Nat.lt_or_gt_of_ne hne with hlt|hgt
     · have:=h4 i k hlt (by omega)
       rw[yO.2 ⟨h5.1,hka,zQ h6⟩] at this;cases this
     · have:=h4 k i hgt hk
       rw[yO.2 ⟨hka,h5.1,h6⟩] at this;cases this
 · rename_i hj
   unfold ownI at hj
   rw[List.findIdx?_eq_none_iff] at hj
   have h7:∀k,k<16→(c.at k).act=true→qy (c.at k).fst h=false:=fun k hk hka=>by
     have:=hj (c.cx[k]) (List.getElem_mem _)
     rw[←ga k (by omega),hka] at this
     simpa using this
   unfold freeI at hf
   rw[List.findIdx?_eq_some_iff_getElem] at hf
   obtain⟨hx,h5,-⟩:=hf
   rw[←ga i hi] at h5
   refine⟨fun ha=>(by rw[ha] at h5;cases h5),fun k hk _ hka=>h7 k hk hka⟩
theorem comp_ok{c:Co}{h:Hd}{pl:List UInt8}{i:Nat}(hc:c.ok=true)(ho:h.ok=true)(hf:x9 c.cx h=some i):(zF c i h pl).1.ok=true:=by
 obtain⟨hi,hs,hh,hoth⟩:=xu hc hf
 obtain⟨h1,h2,h3,h4⟩:=yI hc
 have hm:=ks h3 hs hh
 have h5:=csF_ok h3 h4 hm.1 ho (f:=(zf c.m c.w (c.at i) h).2) hm.2.2.1.1 hm.2.2.2.1.1 hm.2.2.2.2
 exact co_set hc hi h5.1 (fun _=>h5.2.2) hoth
theorem xt{b pl:List UInt8}{h:Hd}(hp:qu b=((h,pl),0)):h.ok=true∧zh h pl=(b,0)∧b.length≤1500∧b≠[]∧pl.length≤1500:=by
 unfold qu at hp
 split at hp
 · exact absurd (congrArg Prod.snd hp) (show ¬(2:Int)=0 by decide)
 · rename_i hl
   split at hp
   · rename_i he
     have e1:kd b=h:=congrArg (fun x=>x.1.1) hp
     have e2:b.drop (prsN b)=pl:=congrArg (fun x=>x.1.2) hp
     rw[e1,e2] at he
     refine⟨?_,he,by omega,fun e=>hl (.inl (by rw[e];decide)),by rw[←e2,List.length_drop];omega⟩
     cases ho:h.ok with
     | true=>rfl
     | false=>rw[bldR_n ho] at he;exact absurd (congrArg Prod.snd he) (show ¬(1:Int)=0 by decide)
   · exact absurd (congrArg Prod.snd hp) (show ¬(4:Int)=0 by decide)
theorem compr_ok{c:Co}{b:List UInt8}(hc:c.ok=true)(hb:¬(b=[]∨1500<b.length)):(qw c b).1.1.ok=true∧(qw c b).2=0∧(qw c b).1.1.m=c.m∧(qw c b).1.1.w=c.w:=by
 unfold qw
 rw[if_pos hc,if_neg hb]
 split
 · rename_i hp
   have ho:=(xt (b:=b) (h:=(qu b).1.1) (pl:=(qu b).1.2) (by rw[←hp])).1
   split
   · rename_i i hf
     split
     · exact⟨hc,rfl,rfl,rfl⟩
     · exact⟨comp_ok hc ho hf,rfl,rfl,rfl⟩
   · exact⟨hc,rfl,rfl,rfl⟩
 · exact⟨hc,rfl,rfl,rfl⟩
open Go.RowKit
variable {G:Nat→AV}
@[simp] theorem adv_adv(t:List Int)(a i j:Nat):adv t (adv t a i) j=adv t a (i+j):=by
 induction j with
 | zero=>rfl
 | succ j ih=>exact congrArg (qj t) ih
def wordR(t:List Int)(a:Nat)(m:Int):Int:=if qi t a 4=0 then qi t (adv t a 1) 3 else if qi t a 4=1 then q7 .sub .i64 m (qi t (adv t a 1) 3) else qi t (adv t a 1) (q7 .add .i64 m 1)
theorem word_c(t:List Int)(a:Nat)(m:Int)(ht:t.length≤400)(p:Nm):LP Tryz.prog G 46 [.ptr p 0,iAV m] [(p,xg t a)] (fun _=>(iAV (wordR t a m),[(p,xg t (adv t a 2))])):=by
 refine goW [] Tryz.func46 rfl ?_
 conv=>whnf
 repeat'((first|(show LC _ _ _ _ _ _;first|(apply LC.upd (kS t _ _ ht _);(repeat first|refine goH ?_|apply LH.here|apply LH.next);refine⟨rfl,?_⟩)|refine goE ?_)|refine T.s ?_|((first|apply goB|apply AB.dec|apply AB.gen)<;>intro h<;>try(exfalso;omega))|refine LQ.mk fun r=>?_|exact T.z|fail)<;>conv=>whnf)
 all_goals(try dsimp only)
 all_goals
   (show RL _ _ _;refine goR ?_)
   unfold wordR
   (repeat first|rw[if_pos (by first|assumption|omega)]|rw[if_neg (by first|assumption|omega)])
   rfl
attribute [irreducible] wordR
theorem jR(t:List Int)(a:Nat)(n:Int):kF t a n=true↔qi t a n=q7 .sub .i64 n 1:=by simp[kF,qr]
def hckR(t:List Int)(a:Nat):Int:=if kF t (adv t a 5) 2=true then q7 .add .i64 1 (qi t (adv t a 6) 65535) else 0
def vO(t:List Int)(a:Nat):Nat:=if kF t (adv t a 5) 2=true then 7 else 6
def y5(fl:Int):Int:=q7 .add .i64 1 (j0 fl 2)
def vN(t:List Int)(a:Nat)(fl:Int):Hd :=
 { k:=y5 fl,tos:=qi t a 2,ttl:=q7 .add .i64 64 (qi t (adv t a 1) 2),fx:=qi t (adv t a 2) 2,id:=wordR t (adv t a 3) 65535,fr:=167772161,to:=q7 .add .i64 167772162 (IntKind.i64.wrap (fl.tdiv 2)),fp:=5000,tp:=q7 .add .i64 6000 fl,
   ck:=hckR t a
   ty:=if y5 fl=2 then 96 else 0
   sq:=if y5 fl=2 then wordR t (adv t a (vO t a)) 65535 else 0
   tm:=if y5 fl=2 then wordR t (adv t a (vO t a+2)) 4294967295 else 0
   sr:=if y5 fl=2 then q7 .add .i64 77 fl else 0
   mr:=if y5 fl=2 then qi t (adv t a (vO t a+4)) 2 else 0 }
def wI(t:List Int)(a:Nat)(fl:Int):Nat:=adv t a (vO t a+if y5 fl=2 then 5 else 0)
theorem dheader_c(t:List Int)(a:Nat)(fl:Int)(ht:t.length≤400)(p:Nm):LP Tryz.prog G 25 [.ptr p 0,iAV fl] [(p,xg t a)] (fun _=>((vN t a fl).av,[(p,xg t (wI t a fl))])):=by
 refine goW [] Tryz.func25 rfl ?_
 conv=>whnf
 repeat'((first|(show LC _ _ _ _ _ _;first|(apply LC.upd (kS t _ _ ht _);(repeat first|refine goH ?_|apply LH.here|apply LH.next);refine⟨rfl,?_⟩)|(apply LC.upd (one_c t _ _ ht _);(repeat first|refine goH ?_|apply LH.here|apply LH.next);refine⟨rfl,?_⟩)|(apply LC.upd (word_c t _ _ ht _);(repeat first|refine goH ?_|apply LH.here|apply LH.next);refine⟨rfl,?_⟩)|refine LC.pure (mod_c _ _) ?_|refine goE ?_)|refine T.s ?_|((first|apply goB|apply AB.dec|apply AB.gen)<;>intro h<;>try(exfalso;omega))|refine LQ.mk fun r=>?_|exact T.z|fail)<;>conv=>whnf)
 all_goals(try dsimp only)
 all_goals(refine RL.val ?_ ?_;rotate_left;(focus((repeat' first|exact LB.nil|(with_reducible exact LB.refl)|(apply LB.cons;(repeat first|refine goH ?_|apply LH.here|apply LH.next);refine And.intro ?_ ?_;(focus(try(first|(with_reducible rfl)|(refine congrArg (Pl.mk _) ?_;(first|rfl|(simp;done)))|rfl|(with_reducible refine congrArg (Pl.mk _) ?_)))))))))
 all_goals rename_i h1
 all_goals first
   | (have ho:kF t (adv t a 5) 2=true:=(jR _ _ _).2 h1
      have hk:y5 fl=2:=h
      (first|(unfold wI vO;rewrite[if_pos ho,if_pos hk];rfl)|(unfold vN hckR vO;simp only[if_pos ho,if_pos hk];rfl)))
   | (have ho:kF t (adv t a 5) 2=true:=(jR _ _ _).2 h1
      have hk:¬y5 fl=2:=h
      (first|(unfold wI vO;rewrite[if_pos ho,if_neg hk];rfl)|(unfold vN hckR vO;simp only[if_pos ho,if_neg hk];rfl)))
   | (have ho:¬kF t (adv t a 5) 2=true:=fun hh=>h1 ((jR _ _ _).1 hh)
      have hk:y5 fl=2:=h
      (first|(unfold wI vO;rewrite[if_neg ho,if_pos hk];rfl)|(unfold vN hckR vO;simp only[if_neg ho,if_pos hk];rfl)))
   | (have ho:¬kF t (adv t a 5) 2=true:=fun hh=>h1 ((jR _ _ _).1 hh)
      have hk:¬y5 fl=2:=h
      (first|(unfold wI vO;rewrite[if_neg ho,if_neg hk];rfl)|(unfold vN hckR vO;simp only[if_neg ho,if_neg hk];rfl)))
   | trace_state
open Go.RowKit
theorem hkd_12(fl:Int):y5 fl=1∨y5 fl=2:=by
 have h:=modR_lt fl 2 (by decide) (by decide)
 have e:y5 fl=1+j0 fl 2:=by unfold y5;(exact T.num)
 omega
theorem ok_low(s:Sm)(hf:s.f=1∨s.f=2∨s.f=3)(h1:0≤s.cx∧s.cx<16∧s.pl.length≤1500)(h2:qW (cbR s.f) s.ck=true)(h3:zL s=true)(hk:s.h.k=1∨s.h.k=2)(hz:hzR s.h s.h.k=true)(hd:dzR s.d=true):s.ok=true:=by
 unfold Sm.ok topR
 rw[if_pos hf,h2,h3,hz,hd,decide_eq_true h1,decide_eq_true hk]
 rfl
theorem ok_big(s:Sm)(hf:s.f=4∨s.f=5)(h1:0≤s.cx∧s.cx<16∧s.pl.length≤1500)(h2:qW (cbR s.f) s.ck=true)(h3:ji s=true)(h4:jL s=true):s.ok=true:=by
 unfold Sm.ok topR
 rw[if_neg (by omega),if_pos hf,h2,h3,h4,decide_eq_true h1]
 rfl
theorem xb(n:Nat)(v:Int):qW (n:Int) v=true↔0≤v∧v≤2^n-1:=by rw[fit_in,in_iff]
end Go.Proofs.YtndpmpnmkpaklaaGreatDoor
