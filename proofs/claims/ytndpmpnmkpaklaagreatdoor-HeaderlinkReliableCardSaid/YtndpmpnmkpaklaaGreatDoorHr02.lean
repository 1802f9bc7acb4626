/-
  Contracts of the functions that the laws reach.
-/
import Derived.Test.YtndpmpnmkpaklaaGreatDoorHr01
set_option linter.all false
namespace Go.Proofs.YtndpmpnmkpaklaaGreatDoor
open Go.RowKit
def over:List (Nat×AV)→Env→Env
 | [],e=>e
 | x::l,e=>put (over l e) x.1 x.2
def pick(l:List Nat)(e:Env):Env:=over (l.map fun x=>(x,e x)) fun _=>.any
def eqs(e:Env):List (Nat×AV)→Prop
 | []=>True
 | x::l=>e x.1=x.2∧eqs e l
def same(e e':Env):List Nat→Prop
 | []=>True
 | x::l=>e x=e' x∧same e e' l
def zM:Code→Option Nat
 | .region id _ _=>some id
 | .seq x y=>(zM x).orElse fun _=>zM y
 | .cond _ x y=>(zM x).orElse fun _=>zM y
 | .block _ x|.loop x|.scope x=>zM x
 | _=>none
section
variable {P:Program}{T:Tys}{G:Nat→AV}{N:Nat}{e:Env}{σ σ0:q8}{w w0:World}{a:Act}
theorem Rel.over{l:List (Nat×AV)}{e':Env}(h:Rel G N e σ σ0 w0 a w)(h1:∀x,Rd σ w (e' x) (a.tmps.getD x undef))(hl:eqs e l):Rel G N (over l e') σ σ0 w0 a w:=by
 refine⟨h.n,h.d,?_,h.mem,h.st,h.glob⟩
 induction l with
 | nil=>exact h1
 | cons y l ih =>
   intro x
   unfold Go.Proofs.YtndpmpnmkpaklaaGreatDoor.over put
   split
   · rename_i hb
     have:=Nat.eq_of_beq_eq_true hb
     subst this
     rw[←hl.1]
     exact h.env _
   · exact ih hl.2 x
theorem same.eqs{e e':Env}:∀{l:List Nat},same e e' l→eqs e (l.map fun x=>(x,e' x))
 | [],_=>trivial
 | _::_,h=>⟨h.1,same.eqs h.2⟩
theorem Rel.pick{l:List Nat}{e':Env}(h:Rel G N e σ σ0 w0 a w)(hl:same e e' l):Rel G N (pick l e') σ σ0 w0 a w:=h.over (fun _=>.any _) hl.eqs
theorem eqs_pick(l:List Nat)(e:Env):same e e l:=by
 induction l with
 | nil=>trivial
 | cons x l ih=>exact⟨rfl,ih⟩
theorem Rel.sub{σ':q8}(h:Rel G N e σ σ0 w0 a w)(hs:Sub σ' σ):Rel G N e σ' σ0 w0 a w:=by
 have hn:∀b,σ b=none→σ' b=none:=fun b hb=>by
   cases hc:σ' b with
   | none=>rfl
   | some c=>rw[hs b c hc] at hb;cases hb
 have hst:Stp σ w σ' w:=Stp.forget σ σ' w fun b hb=>hn _ hb
 exact⟨h.n,h.d.mono hst,fun x=>(h.env x).mono hst,h.mem.forget hs,h.st.trans hst,h.glob.mono hst⟩
theorem Rel.frz{d:Nat}{v:AV}(F:List Nm)(h:Rel G N e σ σ0 w0 a w)(hv:Frz σ F (e d) v):Rel G N (put e d v) (eraN σ F) σ0 w0 a w:=by
 have hst:Stp σ w (eraN σ F) w:=Stp.forget σ _ w fun b hb=>qF σ F hb
 refine⟨h.n,h.d.mono hst,fun x=>?_,h.mem.forget (xx σ F),h.st.trans hst,h.glob.mono hst⟩
 unfold put
 split
 · rename_i hb
   have:=Nat.eq_of_beq_eq_true hb
   subst this
   exact hv.sound h.mem (h.env _)
 · exact(h.env x).mono hst
theorem Rel.adopt{x sz:Nat}(t:TypeId)(h:Rel G N e σ σ0 w0 a w)(hx:e x=.nils){k:Nat}(hk:σ (.v k)=none):Rel G N (put e x (.vw (.v k) 0 0 sz)) (upd σ (.v k) ⟨t,[]⟩) σ0 w0 a w:=by
 have hst:Stp σ w (upd σ (.v k) ⟨t,[]⟩) w:=⟨rfl,rfl,rfl,Nat.le_refl _,fun b _ hn=>⟨by rw[qe _ _ (by simp)];exact hn,rfl⟩,fun _ cur _ h=>⟨cur,h,rfl⟩⟩
 refine⟨h.n,h.d.mono hst,fun y=>?_,⟨fun p c hp=>?_,fun j c hj=>?_,j3 h.mem.fin _ _⟩,h.st.trans hst,h.glob.mono hst⟩
 · unfold put
   split
   · rename_i hb
     have:=Nat.eq_of_beq_eq_true hb
     subst this
     have hy:=h.env y
     rw[hx] at hy
     generalize a.tmps.getD y undef=u at hy
     cases hy
     exact .vwnil _ _
   · exact(h.env y).mono hst
 · rw[qe _ _ (by simp)] at hp
   obtain⟨cur,h1,h2,h3⟩:=h.mem.pl p c hp
   exact⟨cur,h1,h2,fun i hi=>(h3 i hi).mono hst⟩
 · by_cases hjk:j=k
   · subst hjk;rw[qx] at hj;cases hj;rfl
   · rw[qe _ _ (by simp;exact hjk)] at hj
     exact h.mem.vl j c hj
theorem SWp.adopt(x sz:Nat)(t:TypeId){c:Code}{Q:Exit→Env→q8→Prop}(hx:e x=.nils)(h:∀q,σ q=none→SWp P G N c Q (put e x (.vw q 0 0 sz)) (upd σ q ⟨t,[]⟩)):SWp P G N c Q e σ:=⟨fun σ0 w0 a w hr hok=>by
 obtain⟨B,hB⟩:=hr.mem.fin
 exact(h (.v B) (hB B (Nat.le_refl _))).run σ0 w0 a w (hr.adopt t hx (hB B (Nat.le_refl _))) hok⟩
structure At{S:Type}(vs:S→List (Nat×AV))(st:S→q8)(ok:S→Prop)(meas:S→Nat)(e0:Env)(live:List Nat)(m:Nat)(e:Env)(σ:q8):Prop where
 ex:∃s,ok s∧meas s<m∧eqs e (vs s)∧same e e0 live∧Sub (st s) σ
theorem At.mk'{S:Type}{vs:S→List (Nat×AV)}{st:S→q8}{ok:S→Prop}{meas:S→Nat}{e0:Env}{live:List Nat}{m:Nat}(s:S)(h1:ok s∧meas s<m)(h2:eqs e (vs s))(h3:same e e0 live)(h4:Sub (st s) σ):At vs st ok meas e0 live m e σ:=⟨s,h1.1,h1.2,h2,h3,h4⟩
theorem SWp.loopA{c:Code}{Q:Exit→Env→q8→Prop}(id:Nat){S:Type}(live:List Nat)(vs:S→List (Nat×AV))(st:S→q8)(ok:S→Prop)(meas:S→Nat)(_hid:zM c=some id)
   (h0:∃m,At vs st ok meas e live m e σ)
   (hr:∀s,ok s→SWp P G N c (Qseq (At vs st ok meas e live (meas s)) Q) (over (vs s) (pick live e)) (st s)):SWp P G N (.loop c) Q e σ:=by
 have enter:∀m e1 σ1,At vs st ok meas e live m e1 σ1→Wks G N e1 σ1 fun e' σ'=>∃n,n<m∧∃s,ok s∧meas s=n∧e'=over (vs s) (pick live e)∧σ'=st s:=by
   rintro m e1 σ1 ⟨s,h1,h2,h3,h4,h5⟩
   exact⟨fun σ0 w0 a w hrel=>⟨_,_,⟨_,h2,s,h1,rfl,rfl,rfl⟩,(hrel.over (fun x=>(hrel.pick h4).env x) h3).sub h5⟩⟩
 obtain⟨m,h0⟩:=h0
 refine SWp.loop (fun n e' σ'=>∃s,ok s∧meas s=n∧e'=over (vs s) (pick live e)∧σ'=st s) ⟨fun σ0 w0 a w hrel=>?_⟩ ?_
 · obtain⟨e',σ',⟨n,-,h⟩,h2⟩:=(enter m e σ h0).go σ0 w0 a w hrel
   exact⟨e',σ',⟨n,h⟩,h2⟩
 · rintro n e' σ' ⟨s,h1,rfl,rfl,rfl⟩
   refine(hr s h1).mono ?_
   intro x e1 σ1 hq
   cases x<;>first|exact enter _ _ _ hq|exact hq
theorem SWp.loopB{c:Code}{Q:Exit→Env→q8→Prop}(id:Nat){S:Type}(live:List Nat)(vs:S→List (Nat×AV))(st:S→q8)(ok:S→Prop)(meas:S→Nat)(s0:S)(hid:zM c=some id)
   (h1:ok s0) (h2:eqs e (vs s0)) (h4:Sub (st s0) σ)
   (hr:∀s,ok s→SWp P G N c (Qseq (At vs st ok meas e live (meas s)) Q) (over (vs s) (pick live e)) (st s)):SWp P G N (.loop c) Q e σ :=
 SWp.loopA id live vs st ok meas hid ⟨meas s0+1,⟨s0,h1,Nat.lt_succ_self _,h2,eqs_pick _ _,h4⟩⟩ hr
theorem SWp.loopC{c:Code}{Q:Exit→Env→q8→Prop}(id:Nat){S:Type}(live:List Nat)(vs:S→List (Nat×AV))(st:S→q8)(ok:S→Prop)(meas:S→Nat)(s0:S)(hid:zM c=some id)
   (h1:eqs e (vs s0)∧Sub (st s0) σ∧ok s0)
   (hr:∀s,ok s→SWp P G N c (Qseq (At vs st ok meas e live (meas s)) Q) (over (vs s) (pick live e)) (st s)):SWp P G N (.loop c) Q e σ :=
 SWp.loopB id live vs st ok meas s0 hid h1.2.2 h1.1 h1.2.1 hr
def IterS(P:Program)(G:Nat→AV)(N:Nat)(c:Code)(Q:Exit→Env→q8→Prop):Nat→Env→q8→Prop
 | 0,_,_=>False
 | n+1,e,σ=>SWp P G N c (Qseq (IterS P G N c Q n) Q) e σ
theorem IterS.loop{c:Code}{Q:Exit→Env→q8→Prop}(n:Nat)(h:IterS P G N c Q n e σ):SWp P G N (.loop c) Q e σ:=by
 refine SWp.loop (fun n e σ=>IterS P G N c Q n e σ) ⟨fun σ0 w0 a w hr=>⟨e,σ,⟨n,h⟩,hr⟩⟩ ?_
 intro n e σ h
 cases n with
 | zero=>exact h.elim
 | succ n =>
   refine SWp.mono h ?_
   intro x e1 σ1 hq
   cases x<;>first|exact⟨fun σ0 w0 a w hr=>⟨e1,σ1,⟨n,Nat.lt_succ_self n,hq⟩,hr⟩⟩|exact hq
theorem SWp.times{c:Code}{Q:Exit→Env→q8→Prop}(id n:Nat)(_hid:zM c=some id)(h:IterS P G N c Q n e σ):SWp P G N (.loop c) Q e σ:=IterS.loop n h
theorem IterS.step(hT:TOk P T){c:Code}{Q:Exit→Env→q8→Prop}{n:Nat}(h:AWp P T G N c (Qseq (IterS P G N c Q n) Q) e σ):SWp P G N c (Qseq (IterS P G N c Q n) Q) e σ:=AWp.sound hT _ _ _ _ h
theorem At.step(hT:TOk P T){c:Code}{Q:Exit→Env→q8→Prop}{S:Type}{vs:S→List (Nat×AV)}{st:S→q8}{ok:S→Prop}{meas:S→Nat}{e0:Env}{live:List Nat}{m:Nat}(h:AWp P T G N c (Qseq (At vs st ok meas e0 live m) Q) e σ):SWp P G N c (Qseq (At vs st ok meas e0 live m) Q) e σ:=AWp.sound hT _ _ _ _ h
theorem App.sl{sz n:Nat}{cs:List AV}{R:Nat→List AV→Prop}(h:cs.length=n*sz)(k:R n cs):∃m xs,Src σ sz (.sl n cs) m xs∧R m xs:=⟨n,cs,⟨rfl,rfl,h⟩,k⟩
theorem App.nils{sz:Nat}{R:Nat→List AV→Prop}(k:R 0 []):∃m xs,Src σ sz .nils m xs∧R m xs:=⟨0,[],⟨rfl,rfl⟩,k⟩
theorem App.vw{sz off n:Nat}{q:Nm}{c:Pl}{R:Nat→List AV→Prop}(hq:σ q=some c)(h:off+n*sz≤c.cs.length)(k:AQ ((c.cs.drop off).take (n*sz)) (R n)):∃m xs,Src σ sz (.vw q off n sz) m xs∧R m xs:=⟨n,_,⟨rfl,rfl,⟨c,hq,h,rfl⟩⟩,k.go⟩
theorem App.ap{sz off n:Nat}{q:Nm}{c:Pl}{R:Nat→List AV→Prop}(hq:σ q=some c)(h:off+n*sz≤c.cs.length)(k:AQ ((c.cs.drop off).take (n*sz)) (R n)):∃m xs,Src σ sz (.ap q off n sz) m xs∧R m xs:=⟨n,_,⟨rfl,rfl,⟨c,hq,h,rfl⟩⟩,k.go⟩
structure Lit(p:Prop):Prop where
 go:p
theorem AQ.force{cs:List AV}{K:List AV→Prop}(h:yC cs fun l=>Lit (K l)):AQ cs K:=⟨by rw[ki] at h;exact h.go⟩
theorem dec_yes{c A B:Prop}(hc:c)(a:A):(c→A)∧(¬c→B):=⟨fun _=>a,fun h=>absurd hc h⟩
theorem qv{c A B:Prop}(a:c→A)(b:¬c→B):(c→A)∧(¬c→B):=⟨a,b⟩
theorem dec_no{c A B:Prop}(hc:¬c)(b:B):(c→A)∧(¬c→B):=⟨fun h=>absurd h hc,fun _=>b⟩
theorem all_one{α:Type}(f:α→AV)(h:∀x,(f x).one=true)(l:List α):((l.map f).all AV.one)=true:=by simp[h]
theorem all_bAV(l:List UInt8):((l.map bAV).all AV.one)=true:=all_one _ (fun _=>rfl) l
theorem all_take{l:List AV}(n:Nat)(h:l.all AV.one=true):(l.take n).all AV.one=true:=by
 rw[List.all_eq_true] at h ⊢;exact fun x hx=>h x (List.mem_of_mem_take hx)
theorem all_drop{l:List AV}(n:Nat)(h:l.all AV.one=true):(l.drop n).all AV.one=true:=by
 rw[List.all_eq_true] at h ⊢;exact fun x hx=>h x (List.mem_of_mem_drop hx)
theorem all_app{l m:List AV}(h:l.all AV.one=true)(k:m.all AV.one=true):(l++m).all AV.one=true:=by simp[h,k]
theorem all_cons{x:AV}{m:List AV}(h:x.one=true)(k:m.all AV.one=true):(x::m).all AV.one=true:=by simp[h,k]
theorem ACall.eq{f:FuncId}{args args':List AV}{K:AV→q8→Prop}(h:args=args')(k:ACall P G f args' σ K):ACall P G f args σ K:=h▸k
end
theorem Frz.row{σ:q8}{p:Nm}{n sz:Nat}{t:TypeId}{cs ds:List AV}(F:List Nm)(hF:p∈F)(hp:σ p=some ⟨t,cs⟩)(h0:0<sz)(hl:cs.length=n*sz)(hd:ds=cs):Frz σ F (.vw p 0 n sz) (.sl n ds):=by
 subst hd
 exact .vw p 0 n sz _ _ hF hp (by simp;omega) hl h0 fun i hi=>by rw[Nat.zero_add];exact .refl _
def FrzL(σ:q8)(F:List Nm):List AV→List AV→Prop
 | [],[]=>True
 | x::xs,y::ys=>Frz σ F x y∧FrzL σ F xs ys
 | _,_=>False
theorem FrzL.all{σ:q8}{F:List Nm}:∀{xs ys:List AV},FrzL σ F xs ys→xs.length=ys.length∧∀i,i<xs.length→Frz σ F (xs.getD i .any) (ys.getD i .any)
 | [],[],_=>⟨rfl,fun i hi=>by simp at hi⟩
 | x::xs,y::ys,h=>by
   obtain⟨h1,h2⟩:=h
   obtain⟨h3,h4⟩:=FrzL.all h2
   refine⟨by simp[h3],fun i hi=>?_⟩
   cases i with
   | zero=>exact h1
   | succ i=>simp at hi;simpa using h4 i (by omega)
 | [],_::_,h=>h.elim
 | _::_,[],h=>h.elim
theorem FrzL.agg{σ:q8}{F:List Nm}{xs ys:List AV}(h:FrzL σ F xs ys):Frz σ F (.agg xs) (.agg ys):=.agg xs ys h.all.1 h.all.2
theorem FrzL.tup{σ:q8}{F:List Nm}{xs ys:List AV}(h:FrzL σ F xs ys):Frz σ F (.tup xs) (.tup ys):=.tup xs ys h.all.1 h.all.2
theorem Frz.eq{σ:q8}{F:List Nm}{x y:AV}(h:x=y):Frz σ F x y:=h▸.refl x
structure SubE(X:List Nm)(τ σ:q8):Prop where
 go:∀p c,p∉X→τ p=some c→σ p=some c
theorem SubE.sub{τ σ:q8}(h:SubE [] τ σ):Sub τ σ:=fun p c hp=>h.go p c (by simp) hp
theorem SubE.refl(X:List Nm)(σ:q8):SubE X σ σ:=⟨fun _ _ _ h=>h⟩
theorem SubE.eraN{X:List Nm}{τ σ:q8}{q:Nm}(h:SubE X τ (era σ q)):SubE X τ (Go.Proofs.YtndpmpnmkpaklaaGreatDoor.eraN σ [q]):=h
open Go.RowKit
abbrev LS:=List (Nm×Pl)
structure Sep(φ:q8)(l:LS):Prop where
 nd:(l.map (·.1)).Nodup
 fr:∀x∈l,φ x.1=none
theorem zH{φ:q8}{q:Nm}:∀{l:LS},pQ φ l q=none→q∉l.map (·.1)∧φ q=none
 | [],h=>⟨by simp,h⟩
 | x::l,h=>by
   have h:upd (pQ φ l) x.1 x.2 q=none:=h
   by_cases hq:q=x.1
   · subst hq;rw[qx] at h;cases h
   · rw[qe _ _ hq] at h
     have:=zH h
     exact⟨by simp[hq];simpa using this.1,this.2⟩
theorem zz{φ:q8}{p:Nm}:∀{l:LS},p∉l.map (·.1)→pQ φ l p=φ p:=fun {l} h=>wp φ p l fun x hx e=>h (List.mem_map.2 ⟨x,hx,e⟩)
theorem jj{l1 l2:LS}{p:Nm}{c:Pl}(h:((l1++(p,c)::l2).map (·.1)).Nodup):p∉l1.map (·.1)∧p∉l2.map (·.1)∧((l1++l2).map (·.1)).Nodup:=by
 simp only[List.map_append,List.map_cons] at h ⊢
 rw[List.nodup_append] at h
 obtain⟨h1,h2,h3⟩:=h
 rw[List.nodup_cons] at h2
 refine⟨fun hp=>h3 p hp p (by simp) rfl,h2.1,?_⟩
 rw[List.nodup_append]
 exact⟨h1,h2.2,fun a ha b hb=>h3 a ha b (by simp[hb])⟩
theorem z5(φ:q8):∀(l1 l2:LS),pQ φ (l1++l2)=pQ (pQ φ l2) l1
 | [],_=>rfl
 | x::l1,l2=>by
   show upd (pQ φ (l1++l2)) x.1 x.2=upd (pQ (pQ φ l2) l1) x.1 x.2
   rw[z5 φ l1 l2]
theorem Sep.get{φ:q8}{l1 l2:LS}{p:Nm}{c:Pl}(h:Sep φ (l1++(p,c)::l2)):pQ φ (l1++(p,c)::l2) p=some c:=by
 rw[z5,zz (jj h.nd).1]
 exact qx _ _ _
theorem Sep.set'{φ:q8}{l1 l2:LS}{p:Nm}{c:Pl}(h:Sep φ (l1++(p,c)::l2))(d:Pl):upd (pQ φ (l1++(p,c)::l2)) p d=pQ φ (l1++(p,d)::l2):=by
 have hp:=(jj h.nd).1
 have hne:∀x∈l1,x.1≠p:=fun x hx e=>hp (List.mem_map.2 ⟨x,hx,e⟩)
 rw[z5,z5,←jg _ _ _ _ hne]
 show pQ (upd (upd (pQ φ l2) p c) p d) l1=pQ (upd (pQ φ l2) p d) l1
 rw[upd_upd]
theorem Sep.era'{φ:q8}{l1 l2:LS}{p:Nm}{c:Pl}(h:Sep φ (l1++(p,c)::l2)):era (pQ φ (l1++(p,c)::l2)) p=pQ φ (l1++l2):=by
 obtain⟨h1,h2,-⟩:=jj h.nd
 have hne:∀x∈l1,x.1≠p:=fun x hx e=>h1 (List.mem_map.2 ⟨x,hx,e⟩)
 rw[z5,z5]
 have e1:pQ (pQ φ ((p,c)::l2)) l1=upd (pQ (pQ φ l2) l1) p c:=jg _ _ _ _ hne
 rw[e1]
 have hn:pQ (pQ φ l2) l1 p=none:=by rw[zz h1,zz h2];exact h.fr (p,c) (by simp)
 exact era_upd_same _ _ _ hn
theorem Sep.set{φ:q8}{l1 l2:LS}{p:Nm}{c d:Pl}(h:Sep φ (l1++(p,c)::l2)):Sep φ (l1++(p,d)::l2):=by
 refine⟨by simpa using h.nd,fun x hx=>?_⟩
 rcases List.mem_append.1 hx with hx|hx
 · exact h.fr x (by simp[hx])
 · rcases List.mem_cons.1 hx with rfl|hx
   · exact h.fr (p,c) (by simp)
   · exact h.fr x (by simp[hx])
theorem Sep.rest{φ:q8}{l1 l2:LS}{p:Nm}{c:Pl}(h:Sep φ (l1++(p,c)::l2)):Sep φ (l1++l2):=by
 refine⟨(jj h.nd).2.2,fun x hx=>h.fr x ?_⟩
 rcases List.mem_append.1 hx with hx|hx
 · simp[hx]
 · simp[hx]
theorem Sep.new{φ:q8}{l:LS}{q:Nm}(h:Sep φ l)(hq:pQ φ l q=none)(c:Pl):Sep φ ((q,c)::l):=by
 obtain⟨h1,h2⟩:=zH hq
 refine⟨by simp only[List.map_cons];exact List.nodup_cons.2 ⟨h1,h.nd⟩,fun x hx=>?_⟩
 rcases List.mem_cons.1 hx with rfl|hx
 · exact h2
 · exact h.fr x hx
theorem Sep.old{φ:q8}{l:LS}(h:Sep φ l){p:Nm}{c:Pl}(hp:φ p=some c):pQ φ l p=some c:=by
 rw[zz fun hm=>?_];exact hp
 obtain⟨x,hx,rfl⟩:=List.mem_map.1 hm
 rw[h.fr x hx] at hp;cases hp
structure LH(l:LS)(p:Nm)(K:Pl→(Pl→LS)→LS→Prop):Prop where
 ex:∃l1 c l2,l=l1++(p,c)::l2∧K c (fun d=>l1++(p,d)::l2) (l1++l2)
theorem LH.here{l:LS}{p:Nm}{c:Pl}{K:Pl→(Pl→LS)→LS→Prop}(h:K c (fun d=>(p,d)::l) l):LH ((p,c)::l) p K:=⟨[],c,l,rfl,h⟩
theorem LH.next{l:LS}{p:Nm}{x:Nm×Pl}{K:Pl→(Pl→LS)→LS→Prop}(h:LH l p fun c s r=>K c (fun d=>x::s d) (x::r)):LH (x::l) p K:=by
 obtain⟨l1,c,l2,rfl,h'⟩:=h.ex
 exact⟨x::l1,c,l2,rfl,h'⟩
theorem LH.mono{l:LS}{p:Nm}{K K':Pl→(Pl→LS)→LS→Prop}(h:LH l p K)(hk:∀c s r,K c s r→K' c s r):LH l p K':=by
 obtain⟨l1,c,l2,rfl,h'⟩:=h.ex
 exact⟨l1,c,l2,rfl,hk _ _ _ h'⟩
structure LQ(F:Nm→Prop):Prop where
 go:∀p,F p
def LK(φ:q8)(K:AV→LS→Prop):AV→q8→Prop:=fun v σ=>∃l,σ=pQ φ l∧Sep φ l∧K v l
section
variable {P:Program}{T:Tys}{G:Nat→AV}{N:Nat}
theorem LQ.sound{φ:q8}{l:LS}{K:AV→LS→Prop}{v:Nm→AV}{c:Nm→Pl}(hs:Sep φ l)(h:LQ fun p=>K (v p) ((p,c p)::l)):jw (pQ φ l) fun p=>LK φ K (v p) (upd (pQ φ l) p (c p)) :=
 ⟨fun p hp=>⟨(p,c p)::l,rfl,hs.new hp _,h.go p⟩⟩
def LBox(t:TypeId)(x:AV)(l:LS)(K:AV→LS→Prop):Prop :=
 match x.cells with
 | some cs=>LQ fun p=>K (.ptr p 0) ((p,⟨t,cs⟩)::l)
 | none=>False
theorem LBox.sound{t:TypeId}{x:AV}{l:LS}{K:AV→LS→Prop}{φ:q8}(hs:Sep φ l)(h:LBox t x l K):ABox t x (pQ φ l) (LK φ K):=by
 unfold LBox at h
 unfold ABox
 split at h
 · rename_i cs hc
   simp only[hc]
   exact LQ.sound (v:=fun p=>.ptr p 0) (c:=fun _=>⟨t,cs⟩) hs h
 · exact h.elim
def LAlloc(T:Tys)(t:TypeId)(l:LS)(K:AV→LS→Prop):Prop :=
 match T t with
 | some i=>LBox t i.zero l K
 | none=>False
def LBs(T:Tys)(t:TypeId)(len:Nat)(ps:List (Nat×AV))(l:LS)(K:AV→LS→Prop):Prop :=
 match T t with
 | some ⟨_,_,_,.slice e,_⟩ =>
   match T e with
   | some j=>0<j.size∧len*j.size≤16777216∧(match j.zero.cells with
     | some z=>(match wi (fun i=>some (i*j.size,j.size)) (qB z (len*j.size)) ps with
       | some cs=>AQ cs fun cs=>LQ fun p=>K (.vw p 0 len j.size) ((p,⟨e,cs⟩)::l)
       | none=>False)
     | none=>False)
   | none=>False
 | _=>False
def LMk(T:Tys)(t:TypeId)(n0 c0:AV)(l:LS)(K:AV→LS→Prop):Prop :=
 match T t,n0,c0 with
 | some ⟨_,_,_,.slice e,_⟩,.int _ n,.int _ m =>
   match T e with
   | some j=>0<j.size∧0≤n∧n≤m∧m*j.bytes≤140737488355328∧m≤4611686018427387904∧(match j.zero.cells with
     | some z=>0<z.length∧AQ (qB z (n.toNat*j.size)) fun cs=>LQ fun p=>K (.vw p 0 n.toNat j.size) ((p,⟨e,cs⟩)::l)
     | none=>False)
   | none=>False
 | _,_,_=>False
def LMkC(T:Tys)(t:TypeId)(n0 c0:AV)(l:LS)(K:AV→LS→Prop):Prop :=
 match T t,n0,c0 with
 | some ⟨_,_,_,.slice e,_⟩,.int _ n,.int _ m =>
   match T e with
   | some j=>0<j.size∧0≤n∧n≤m∧m*j.bytes≤140737488355328∧m≤4611686018427387904∧(match j.zero.cells with
     | some z=>0<z.length∧AQ (qB z (m.toNat*j.size)) fun cs=>LQ fun p=>K (.vc p 0 n.toNat m.toNat j.size) ((p,⟨e,cs⟩)::l)
     | none=>False)
   | none=>False
 | _,_,_=>False
def LLd(T:Tys)(t:TypeId)(x:AV)(l:LS)(K:AV→Prop):Prop :=
 match T t,x with
 | some i,.ptr p off=>LH l p fun c _ _=>off+i.size≤c.cs.length∧(i.agg=false→0<i.size)∧AC i.agg ((c.cs.drop off).take i.size) K
 | some i,.ip cs=>i.size≤cs.length∧(i.agg=false→0<i.size)∧AC i.agg (cs.take i.size) K
 | _,_=>False
theorem LLd.sound{t:TypeId}{x:AV}{l:LS}{K:AV→Prop}{φ:q8}(hs:Sep φ l)(h:LLd T t x l K):ALd T t x (pQ φ l) K:=by
 unfold LLd at h
 unfold ALd
 split at h
 · rename_i ti i p off ht
   simp only[ht]
   obtain⟨l1,c,l2,rfl,h'⟩:=h.ex
   exact⟨c,hs.get,h'⟩
 · rename_i ti i cs ht
   simp only[ht]
   exact h
 · exact h.elim
def LSt(T:Tys)(t:TypeId)(a x:AV)(l:LS)(K:LS→Prop):Prop :=
 match T t,a,x.cells with
 | some i,.ptr p off,some cs=>LH l p fun c s _=>cs.length=i.size∧off+i.size≤c.cs.length∧(cs.all AV.one)=true∧AQ (qg c.cs off cs) fun cs'=>K (s ⟨c.ty,cs'⟩)
 | _,_,_=>False
def LSrc(l:LS)(sz:Nat)(x:AV)(K:Nat→List AV→Prop):Prop :=
 match x with
 | .sl n cs=>cs.length=n*sz∧K n cs
 | .nils=>K 0 []
 | .vw q off n sz'|.ap q off n sz'=>sz'=sz∧LH l q fun c _ _=>off+n*sz≤c.cs.length∧AQ ((c.cs.drop off).take (n*sz)) (K n)
 | .lit (.slice (some _) 0 _)=>K 0 []
 | _=>False
theorem LSrc.sound{sz:Nat}{x:AV}{l:LS}{K:Nat→List AV→Prop}{φ:q8}(hs:Sep φ l)(h:LSrc l sz x K):∃m xs,Src (pQ φ l) sz x m xs∧K m xs:=by
 unfold LSrc at h
 split at h
 · exact⟨_,_,⟨rfl,rfl,h.1⟩,h.2⟩
 · exact⟨_,_,⟨rfl,rfl⟩,h⟩
 · obtain⟨h0,h⟩:=h
   obtain⟨l1,c,l2,rfl,h1,⟨h2⟩⟩:=h.ex
   exact⟨_,_,⟨h0,rfl,⟨c,hs.get,h1,rfl⟩⟩,h2⟩
 · obtain⟨h0,h⟩:=h
   obtain⟨l1,c,l2,rfl,h1,⟨h2⟩⟩:=h.ex
   exact⟨_,_,⟨h0,rfl,⟨c,hs.get,h1,rfl⟩⟩,h2⟩
 · exact⟨_,_,⟨rfl,rfl⟩,h⟩
 · exact h.elim
def LAp(T:Tys)(t:TypeId)(d x:AV)(l:LS)(K:AV→LS→Prop):Prop :=
 match T t with
 | some ⟨_,_,_,.slice e,_⟩ =>
   match T e with
   | some j=>0<j.size∧LSrc l j.size x fun m xs=>(xs.all AV.one)=true∧(match d with
     | .nils=>m*j.bytes≤140737488355328∧m≤4611686018427387904∧LQ fun q=>K (.vw q 0 m j.size) ((q,⟨e,xs⟩)::l)
     | .vw p off n sz=>sz=j.size∧LH l p fun c s r=>c.ty=e∧off+n*sz≤c.cs.length∧(n+m)*j.bytes≤140737488355328∧n+m≤4611686018427387904 ∧
         (off≠0→K (.vw p off (n+m) sz) (s ⟨e,c.cs.take (off+n*sz)++xs⟩)) ∧
         AQ ((c.cs.drop off).take (n*sz)++xs) fun cs'=>LQ fun q=>K (.vw q 0 (n+m) sz) ((q,⟨e,cs'⟩)::r)
     | _=>False)
   | none=>False
 | _=>False
def LGz(T:Tys)(t t':TypeId)(n:Int)(l:LS)(K:AV→LS→Prop):Prop :=
 match T t,T t' with
 | some ⟨_,_,_,.slice e,_⟩,some ⟨_,_,_,.int _,_⟩ =>
   match T e with
   | some j=>0<j.size∧0<n∧n.toNat*j.bytes≤140737488355328∧n≤4611686018427387904∧LQ fun q=>K (.vw q 0 n.toNat j.size) ((q,⟨e,[]⟩)::l)
   | none=>False
 | _,_=>False
theorem LGz.sound{t t':TypeId}{n:Int}{l:LS}{K:AV→LS→Prop}{φ:q8}(hs:Sep φ l)(h:LGz T t t' n l K):AGz T t t' n (pQ φ l) (LK φ K):=by
 unfold LGz at h
 unfold AGz
 split at h
 case h_2=>exact h.elim
 rename_i ht ht'
 split at h
 case h_2=>exact h.elim
 rename_i hj
 simp only[ht,ht',hj]
 exact⟨h.1,h.2.1,h.2.2.1,h.2.2.2.1,LQ.sound (v:=fun q=>.vw q 0 n.toNat _) (c:=fun _=>⟨_,[]⟩) hs h.2.2.2.2⟩
def LGc(T:Tys)(t t':TypeId)(p:Nm)(off n cap sz:Nat)(k:Int)(l:LS)(K:AV→LS→Prop):Prop :=
 match T t,T t' with
 | some ⟨_,_,_,.slice e,_⟩,some ⟨_,_,_,.int _,_⟩ =>
   match T e with
   | some j=>0<j.size∧sz=j.size∧0<k∧(cap:Int)<n+k∧(n+k.toNat)*j.bytes≤140737488355328∧(n:Int)+k≤4611686018427387904∧LH l p fun c _ _=>off+n*sz≤c.cs.length ∧
     (match j.zero.cells with
     | some z=>0<z.length∧AQ ((c.cs.drop off).take (n*sz)++qB z (k.toNat*j.size)) fun cs=>LQ fun q=>K (.vw q 0 (n+k.toNat) j.size) ((q,⟨e,cs⟩)::l)
     | none=>False)
   | none=>False
 | _,_=>False
theorem LGc.sound{t t':TypeId}{p:Nm}{off n cap sz:Nat}{k:Int}{l:LS}{K:AV→LS→Prop}{φ:q8}(hs:Sep φ l)(h:LGc T t t' p off n cap sz k l K):AGc T t t' p off n cap sz k (pQ φ l) (LK φ K):=by
 unfold LGc at h
 unfold AGc
 split at h
 case h_2=>exact h.elim
 rename_i ht ht'
 split at h
 case h_2=>exact h.elim
 rename_i hj
 simp only[ht,ht',hj]
 obtain⟨h1,h2,h3,h4,h5,h6,h⟩:=h
 obtain⟨l1,c,l2,rfl,h7,h⟩:=h.ex
 refine⟨h1,h2,h3,h4,h5,h6,⟨c,hs.get,h7,?_⟩⟩
 split at h
 case h_2=>exact h.elim
 rename_i hz
 simp only[hz]
 obtain⟨h8,⟨h⟩⟩:=h
 exact⟨h8,⟨LQ.sound (v:=fun q=>.vw q 0 _ _) (c:=fun _=>⟨_,_⟩) hs h⟩⟩
theorem LAp.sound{t:TypeId}{d x:AV}{l:LS}{K:AV→LS→Prop}{φ:q8}(hs:Sep φ l)(h:LAp T t d x l K):AAp T t d x (pQ φ l) (LK φ K):=by
 unfold LAp at h
 unfold AAp
 split at h
 case h_2=>exact h.elim
 rename_i sz_ by_ ag e z ht
 split at h
 case h_2=>exact h.elim
 rename_i ti j hj
 obtain⟨h0,h⟩:=h
 obtain⟨m,xs,h1,h2,h⟩:=LSrc.sound hs h
 simp only[ht,hj]
 refine⟨h0,m,xs,h1,h2,?_⟩
 split at h
 · exact⟨h.1,h.2.1,LQ.sound (v:=fun q=>.vw q 0 m j.size) (c:=fun _=>⟨_,xs⟩) hs h.2.2⟩
 · obtain⟨h3,h⟩:=h
   obtain⟨l1,c,l2,rfl,h4,h5,h6,h7,h8,⟨h9⟩⟩:=h.ex
   refine⟨h3,⟨c,hs.get,h4,h5,h6,h7,fun ho=>⟨_,hs.set' _,hs.set,h8 ho⟩,?_⟩⟩
   rw[hs.era']
   exact LQ.sound (v:=fun q=>.vw q 0 _ _) (c:=fun _=>⟨_,_⟩) hs.rest h9
 · exact h.elim
def LCp(T:Tys)(t:TypeId)(d x:AV)(l:LS)(K:AV→LS→Prop):Prop :=
 match T t with
 | some ⟨_,_,_,.slice e,_⟩ =>
   match T e with
   | some j=>LSrc l j.size x fun m xs=>(match d with
     | .vw p off n sz|.ap p off n sz=>((xs.take (Nat.min m n*j.size)).all AV.one)=true∧sz=j.size∧LH l p fun c s _=>off+n*sz≤c.cs.length∧AQ (qg c.cs off (xs.take (Nat.min m n*sz))) fun cs'=>K (.int .i64 (Nat.min m n:Nat)) (s ⟨c.ty,cs'⟩)
     | _=>False)
   | none=>False
 | _=>False
theorem LCp.sound{t:TypeId}{d x:AV}{l:LS}{K:AV→LS→Prop}{φ:q8}(hs:Sep φ l)(h:LCp T t d x l K):ACp T t d x (pQ φ l) (LK φ K):=by
 unfold LCp at h
 unfold ACp
 split at h
 case h_2=>exact h.elim
 rename_i sz_ by_ ag e z ht
 split at h
 case h_2=>exact h.elim
 rename_i ti j hj
 obtain⟨m,xs,h1,h⟩:=LSrc.sound hs h
 simp only[ht,hj]
 refine⟨m,xs,h1,?_⟩
 split at h
 · obtain⟨h2,h3,h⟩:=h
   obtain⟨l1,c,l2,rfl,h4,⟨h5⟩⟩:=h.ex
   exact⟨h2,h3,⟨c,hs.get,h4,⟨_,hs.set' _,hs.set,h5⟩⟩⟩
 · obtain⟨h2,h3,h⟩:=h
   obtain⟨l1,c,l2,rfl,h4,⟨h5⟩⟩:=h.ex
   exact⟨h2,h3,⟨c,hs.get,h4,⟨_,hs.set' _,hs.set,h5⟩⟩⟩
 · exact h.elim
structure LC(P:Program)(G:Nat→AV)(f:FuncId)(args:List AV)(l:LS)(K:AV→LS→Prop):Prop where
 run:∀φ,Sep φ l→ACall P G f args (pQ φ l) (LK φ K)
def opL(P:Program)(T:Tys)(G:Nat→AV)(op:Op)(ρ:Operand→AV)(l:LS)(K:AV→LS→Prop):Prop :=
 match op with
 | .alloc t=>LAlloc T t l K
 | .box t x=>force1 (ρ x) fun x=>LBox t x l K
 | .buildSlice t n ps=>n≤16777216∧LBs T t n (ps.toList.map fun x=>(x.1,ρ x.2)) l K
 | .load t x=>force0 (ρ x) fun x=>LLd T t x l fun v=>K v l
 | .store t a x=>force0 (ρ a) fun a=>force1 (ρ x) fun x=>LSt T t a x l fun l'=>K (.tup []) l'
 | .makeSlice t n c=>(match vu n c with|true=>LMkC T t (ρ n) (ρ c) l K|false=>LMk T t (ρ n) (ρ c) l K)
 | .call c =>
   (match c.callee with
   | .value (.func f)=>wB (c.args.toList.map ρ) fun as=>LC P G f as l K
   | .value x=>(match ρ x with
     | .clo (.func f) fs cs=>wB (fs++c.args.toList.map ρ++cs) fun as=>LC P G f as l K
     | _=>False)
   | .builtin .append=>(match c.argTypes.toList,c.args.toList with
     | [t,t'],[d,x]=>(match ρ d,ρ x with|.nils,.int _ n=>LGz T t t' n l K|.vc p off n cap sz,.int _ k=>LGc T t t' p off n cap sz k l K|d,x=>t=t'∧LAp T t (devc d) x l K)
     | _,_=>False)
   | .builtin .copy=>(match c.argTypes.toList,c.args.toList with
     | [t,_],[d,x]=>LCp T t (ρ d) (ρ x) l K
     | _,_=>False)
   | _=>opA P T G op ρ (fun _=>none) fun v _=>K v l)
 | op=>opA P T G op ρ (fun _=>none) fun v _=>K v l
theorem opL.pure{op:Op}{ρ:Operand→AV}{l:LS}{K:AV→LS→Prop}{φ:q8}(hc:cls op=0)(hs:Sep φ l)(h:opA P T G op ρ (fun _=>none) fun v _=>K v l):opA P T G op ρ (pQ φ l) (LK φ K):=by
 obtain⟨u,hu⟩:=wt (P:=P) (T:=T) (G:=G) hc ρ _ _ h
 exact(hu _ _).2 ⟨l,rfl,hs,(hu _ _).1 h⟩
theorem opL.sound{op:Op}{ρ:Operand→AV}{l:LS}{K:AV→LS→Prop}{φ:q8}(hs:Sep φ l)(h:opL P T G op ρ l K):opA P T G op ρ (pQ φ l) (LK φ K):=by
 cases op<;>first|exact opL.pure rfl hs h|exact h.elim|skip
 case alloc t =>
   have h:LAlloc T t l K:=h
   show AAlloc T t (pQ φ l) (LK φ K)
   unfold LAlloc at h
   unfold AAlloc
   split at h
   · rename_i ti i ht
     simp only[ht]
     exact LBox.sound hs h
   · exact h.elim
 case box t x =>
   simp only[opL,vh] at h
   exact LBox.sound hs h
 case buildSlice t n ps =>
   simp only[opL] at h
   refine⟨h.1,?_⟩
   replace h:=h.2
   show ABs T t n _ (pQ φ l) (LK φ K)
   unfold LBs at h
   unfold ABs
   split at h
   case h_2=>exact h.elim
   rename_i sz_ by_ ag e z ht
   split at h
   case h_2=>exact h.elim
   rename_i ti j hj
   simp only[ht,hj]
   refine⟨h.1,h.2.1,?_⟩
   replace h:=h.2.2
   split at h
   case h_2=>exact h.elim
   rename_i tj z hz
   simp only[hz]
   split at h
   case h_2=>exact h.elim
   rename_i tk cs hcs
   simp only[hcs]
   exact⟨LQ.sound (v:=fun p=>.vw p 0 n j.size) (c:=fun _=>⟨_,cs⟩) hs h.go⟩
 case load t x =>
   simp only[opL,vj] at h
   have:=LLd.sound hs h
   obtain⟨u,hu,hiff⟩:=wx this
   exact(hiff _ _ fun _ _ _=>rfl).2 ⟨l,rfl,hs,hu⟩
 case store t a x =>
   simp only[opL,vj,vh] at h
   show ASt T t (ρ a) (ρ x) (pQ φ l) fun σ'=>LK φ K (.tup []) σ'
   unfold LSt at h
   unfold ASt
   split at h
   · rename_i ti i p off cs ht hp hcs
     simp only[ht,hp,hcs]
     obtain⟨l1,c,l2,rfl,h1,h2,h3,⟨h4⟩⟩:=h.ex
     exact⟨c,hs.get,h1,by rw[h1];exact h2,h3,⟨⟨_,hs.set' _,hs.set,h4⟩⟩⟩
   · exact h.elim
 case makeSlice t n c =>
   replace h:(match vu n c with|true=>LMkC T t (ρ n) (ρ c) l K|false=>LMk T t (ρ n) (ρ c) l K):=h
   show(match vu n c with|true=>AMkC T t (ρ n) (ρ c) (pQ φ l) (LK φ K)|false=>AMk T t (ρ n) (ρ c) (pQ φ l) (LK φ K))
   cases hcl:vu n c with
   | true =>
     simp only[hcl] at h
     simp only
     show AMkC T t (ρ n) (ρ c) (pQ φ l) (LK φ K)
     unfold LMkC at h
     unfold AMkC
     split at h
     case h_2=>exact h.elim
     rename_i sz_ by_ ag e z kl n1 km m1 ht hn1 hm1
     split at h
     case h_2=>exact h.elim
     rename_i tj j hj
     simp only[ht,hn1,hm1,hj]
     obtain⟨h1,h2,h3,h4,h5,h⟩:=h
     refine⟨h1,h2,h3,h4,h5,?_⟩
     split at h
     case h_2=>exact h.elim
     rename_i tk z hz
     simp only[hz]
     exact⟨h.1,⟨LQ.sound (v:=fun p=>.vc p 0 _ _ j.size) (c:=fun _=>⟨_,_⟩) hs h.2.go⟩⟩
   | false =>
     simp only[hcl] at h
     simp only
     show AMk T t (ρ n) (ρ c) (pQ φ l) (LK φ K)
     unfold LMk at h
     unfold AMk
     split at h
     case h_2=>exact h.elim
     rename_i sz_ by_ ag e z kl n1 km m1 ht hn1 hm1
     split at h
     case h_2=>exact h.elim
     rename_i tj j hj
     simp only[ht,hn1,hm1,hj]
     obtain⟨h1,h2,h3,h4,h5,h⟩:=h
     refine⟨h1,h2,h3,h4,h5,?_⟩
     split at h
     case h_2=>exact h.elim
     rename_i tk z hz
     simp only[hz]
     exact⟨h.1,⟨LQ.sound (v:=fun p=>.vw p 0 _ j.size) (c:=fun _=>⟨_,_⟩) hs h.2.go⟩⟩
 case call c =>
   obtain⟨callee,args,argTypes⟩:=c
   cases callee with
   | value f =>
     cases f with
     | func f =>
       simp only[opL,xI] at h
       exact h.run φ hs
     | tmp t =>
       simp only[opL,xI] at h
       simp only[opA]
       split at h
       · rename_i hx
         simp only[hx]
         exact h.run φ hs
       · exact h.elim
     | const v =>
       simp only[opL,xI] at h
       simp only[opA]
       split at h
       · rename_i hx
         simp only[hx]
         exact h.run φ hs
       · exact h.elim
     | global g =>
       simp only[opL,xI] at h
       simp only[opA]
       split at h
       · rename_i hx
         simp only[hx]
         exact h.run φ hs
       · exact h.elim
   | invoke r m=>exact h.elim
   | builtin b =>
     cases b<;>first|exact opL.pure rfl hs h|exact h.elim|skip
     case append =>
       simp only[opL] at h
       simp only[opA]
       split at h
       · rename_i t t' d x ht hx
         simp only[ht,hx]
         split at h
         · rename_i hd hx'
           simp only[hd,hx']
           exact LGz.sound hs h
         · rename_i hd hx'
           simp only[hd,hx']
           exact LGc.sound hs h
         · rename_i hn hn2
           split
           · rename_i k n hd hx'
             exact(hn _ _ hd hx').elim
           · rename_i hd hx'
             exact(hn2 _ _ _ _ _ _ _ hd hx').elim
           · exact⟨h.1,LAp.sound hs h.2⟩
       · exact h.elim
     case copy =>
       simp only[opL] at h
       simp only[opA]
       split at h
       · rename_i t t' d x ht hx
         simp only[ht,hx]
         exact LCp.sound hs h
       · exact h.elim
end
open Go.RowKit
section
variable {P:Program}{T:Tys}{G:Nat→AV}{N:Nat}{e:Env}{σ σ0:q8}{w w0:World}{a:Act}{l:LS}{φ:q8}
theorem j7{dst:Option Tmp}{v:AV}{K K':Env→Prop}(h:zi N e dst v K)(hk:∀e,K e→K' e):zi N e dst v K':=by
 unfold zi at *
 cases dst with
 | none=>exact hk _ h
 | some d =>
   simp only at h ⊢
   split at h
   · rw[zx] at h ⊢;exact hk _ h
   · exact h.elim
def KE(φ:q8)(K:Env→LS→Prop):Env→q8→Prop:=fun e σ=>∃l,σ=pQ φ l∧Sep φ l∧K e l
def QL(φ:q8)(Q:Exit→Env→LS→Prop):Exit→Env→q8→Prop:=fun x=>KE φ (Q x)
def AOpGL(X:(AV→LS→Prop)→Prop)(N:Nat)(ops:Array Oper)(o:Oper)(K:Env→LS→Prop)(e:Env)(l:LS):Prop :=
 match o.guard with
 | none=>X fun v l'=>zi N e o.dst v fun e'=>K e' l'
 | some (j,want) =>
   match (ops[j]?).bind (·.dst) with
   | none=>False
   | some t=>(match e t with
     | .bool b=>(match want with
       | true=>AB b (X fun v l'=>zi N e o.dst v fun e'=>K e' l') (zi N e o.dst (.tup []) fun e'=>K e' l)
       | false=>AB b (zi N e o.dst (.tup []) fun e'=>K e' l) (X fun v l'=>zi N e o.dst v fun e'=>K e' l'))
     | .tup _=>zi N e o.dst (.tup []) fun e'=>K e' l
     | _=>False)
theorem AOpGL.sound{X:(AV→LS→Prop)→Prop}{Y:XF}(hm:yd Y)(hs:Sep φ l)(hxy:∀K,X K→Y (pQ φ l) (LK φ K)){ops:Array Oper}{o:Oper}{K:Env→LS→Prop}(h:AOpGL X N ops o K e l):AOpG Y N ops o (KE φ K) e (pQ φ l):=by
 have one:(X fun v l'=>zi N e o.dst v fun e'=>K e' l')→Y (pQ φ l) fun v σ'=>zi N e o.dst v fun e'=>KE φ K e' σ':=fun h =>
   hm _ _ _ (hxy _ h) fun v σ' ⟨l',h1,h2,h3⟩=>j7 h3 fun e' hk=>⟨l',h1,h2,hk⟩
 have skip:(zi N e o.dst (.tup []) fun e'=>K e' l)→zi N e o.dst (.tup []) fun e'=>KE φ K e' (pQ φ l):=fun h=>j7 h fun e' hk=>⟨l,rfl,hs,hk⟩
 unfold AOpGL at h
 unfold AOpG
 split at h
 · rename_i hg
   simp only[hg]
   exact one h
 · rename_i j want hg
   simp only[hg]
   split at h
   · exact h.elim
   · rename_i t ht
     simp only[ht]
     split at h
     · rename_i b hb
       simp only[hb]
       cases want with
       | true=>exact h.mono one skip
       | false=>exact h.mono skip one
     · rename_i vs hb
       simp only[hb]
       exact skip h
     · exact h.elim
def AOpsL(P:Program)(T:Tys)(G:Nat→AV)(N:Nat)(ops:Array Oper):List Oper→(Env→LS→Prop)→Env→LS→Prop
 | [],K,e,l=>K e l
 | o::r,K,e,l=>AOpGL (opL P T G o.op (ev G e) l) N ops o (AOpsL P T G N ops r K) e l
theorem AOps.mono{ops:Array Oper}{K K':Env→q8→Prop}(hk:∀e σ,K e σ→K' e σ):∀(r:List Oper) (e:Env) (σ:q8),AOps P T G N ops r K e σ→AOps P T G N ops r K' e σ:=by
 intro r
 induction r with
 | nil=>exact fun e σ h=>hk e σ h
 | cons o r ih =>
   intro e σ h
   have run:(opA P T G o.op (ev G e) σ fun v σ'=>zi N e o.dst v fun e'=>AOps P T G N ops r K e' σ')→opA P T G o.op (ev G e) σ fun v σ'=>zi N e o.dst v fun e'=>AOps P T G N ops r K' e' σ':=fun h =>
     zR _ _ _ _ _ h fun v σ' h=>j7 h fun e'=>ih e' σ'
   have skip:(zi N e o.dst (.tup []) fun e'=>AOps P T G N ops r K e' σ)→zi N e o.dst (.tup []) fun e'=>AOps P T G N ops r K' e' σ:=fun h=>j7 h fun e'=>ih e' σ
   have h:AOp1 P T G N ops o (AOps P T G N ops r K) e σ:=h
   show AOp1 P T G N ops o (AOps P T G N ops r K') e σ
   unfold AOp1 at h ⊢
   cases hg:o.guard with
   | none=>rw[hg] at h;exact run h
   | some x =>
     obtain⟨j,want⟩:=x
     rw[hg] at h
     simp only at h ⊢
     cases ht:(ops[j]?).bind (·.dst) with
     | none=>rw[ht] at h;exact h.elim
     | some t =>
       rw[ht] at h
       simp only at h ⊢
       cases hb:e t<;>rw[hb] at h<;>simp only at h ⊢<;>first
         | exact h.elim
         | exact skip h
         | (cases want with
           | true=>exact h.mono run skip
           | false=>exact h.mono skip run)
theorem AOpsL.sound{ops:Array Oper}{K:Env→LS→Prop}:∀(r:List Oper) (e:Env) (l:LS),Sep φ l→AOpsL P T G N ops r K e l→AOps P T G N ops r (KE φ K) e (pQ φ l):=by
 intro r
 induction r with
 | nil=>exact fun e l hs h=>⟨l,rfl,hs,h⟩
 | cons o r ih =>
   intro e l hs h
   show AOp1 P T G N ops o (AOps P T G N ops r (KE φ K)) e (pQ φ l)
   have h1:AOpG (opA P T G o.op (ev G e)) N ops o (KE φ (AOpsL P T G N ops r K)) e (pQ φ l):=AOpGL.sound (zR _ _) hs (fun K h=>opL.sound hs h) h
   rw[AOp1_eq]
   unfold AOpG at h1 ⊢
   have hk:∀e' σ',KE φ (AOpsL P T G N ops r K) e' σ'→AOps P T G N ops r (KE φ K) e' σ':=by
     rintro e' σ' ⟨l',rfl,hs',h'⟩
     exact ih e' l' hs' h'
   have run:(opA P T G o.op (ev G e) (pQ φ l) fun v σ'=>zi N e o.dst v fun e'=>KE φ (AOpsL P T G N ops r K) e' σ')→opA P T G o.op (ev G e) (pQ φ l) fun v σ'=>zi N e o.dst v fun e'=>AOps P T G N ops r (KE φ K) e' σ':=fun h =>
     zR _ _ _ _ _ h fun v σ' h=>j7 h fun e'=>hk e' σ'
   have skip:∀σ,(zi N e o.dst (.tup []) fun e'=>KE φ (AOpsL P T G N ops r K) e' σ)→zi N e o.dst (.tup []) fun e'=>AOps P T G N ops r (KE φ K) e' σ:=fun σ h=>j7 h fun e'=>hk e' σ
   split at h1
   · exact run h1
   · split at h1
     · exact h1.elim
     · split at h1
       · split at h1
         · exact h1.mono run (skip _)
         · exact h1.mono (skip _) run
       · exact skip _ h1
       · exact h1.elim
structure SWpL(P:Program)(G:Nat→AV)(N:Nat)(c:Code)(Q:Exit→Env→LS→Prop)(e:Env)(l:LS):Prop where
 run:∀φ,Sep φ l→SWp P G N c (QL φ Q) e (pQ φ l)
theorem SWpL.mono{c:Code}{Q Q':Exit→Env→LS→Prop}(h:SWpL P G N c Q e l)(hq:∀x e l,Q x e l→Q' x e l):SWpL P G N c Q' e l:=⟨fun φ hs =>
 (h.run φ hs).mono fun _ _ _ ⟨l',h1,h2,h3⟩=>⟨l',h1,h2,hq _ _ _ h3⟩⟩
def ka(K:Env→LS→Prop)(Q:Exit→Env→LS→Prop):Exit→Env→LS→Prop
 | .normal,e,l=>K e l
 | x,e,l=>Q x e l
def QblockL(id:Nat)(Q:Exit→Env→LS→Prop):Exit→Env→LS→Prop
 | .exit i,e,l=>(match Nat.beq i id with|true=>Q .normal e l|false=>Q (.exit i) e l)
 | x,e,l=>Q x e l
def QscopeL(Q:Exit→Env→LS→Prop):Exit→Env→LS→Prop
 | .goto _,_,_=>False
 | x,e,l=>Q x e l
theorem SWpL.seq{x y:Code}{Q:Exit→Env→LS→Prop}(h:SWpL P G N x (ka (SWpL P G N y Q) Q) e l):SWpL P G N (.seq x y) Q e l:=⟨fun φ hs=>by
 refine SWp.seq ((h.run φ hs).mono ?_)
 rintro x e' σ' ⟨l',rfl,h2,h3⟩
 cases x<;>first|exact SWpL.run h3 φ h2|exact⟨l',rfl,h2,h3⟩⟩
structure CutL(P:Program)(G:Nat→AV)(N:Nat)(x y:Code)(Q:Exit→Env→LS→Prop)(e:Env)(l:LS):Prop where
 run:SWpL P G N (.seq x y) Q e l
def memB(C:List Nat)(i:Nat):Bool:=C.any (Nat.beq i)
def cutAt(C:List Nat)(x y:Code):Bool :=
 match C with
 | []=>false
 | _=>(match y with
   | .cond _ _ _=>false
   | .block _ _=>false
   | _=>(match zM x with
     | some i=>memB C i
     | none=>false))
def AWpL(P:Program)(T:Tys)(G:Nat→AV)(N:Nat)(C:List Nat):Code→(Exit→Env→LS→Prop)→Env→LS→Prop
 | .skip,Q,e,l=>Q .normal e l
 | .region id ops draw,Q,e,l=>(match draw with
   | false=>AOpsL P T G N ops ops.toList (Q .normal) e l
   | true=>SWpL P G N (.region id ops true) Q e l)
 | .seq x y,Q,e,l=>(match cutAt C x y with
   | false=>AWpL P T G N C x (ka (AWpL P T G N C y Q) Q) e l
   | true=>CutL P G N x y Q e l)
 | .cond c x y,Q,e,l=>(match ev G e c with|.bool t=>AB t (AWpL P T G N C x Q e l) (AWpL P T G N C y Q e l)|_=>False)
 | .block id c,Q,e,l=>AWpL P T G N C c (QblockL id Q) e l
 | .loop c,Q,e,l=>SWpL P G N (.loop c) Q e l
 | .exit id,Q,e,l=>Q (.exit id) e l
 | .scope c,Q,e,l=>AWpL P T G N C c (QscopeL Q) e l
 | .label _,Q,e,l=>Q .normal e l
 | .ret,Q,e,l=>Q .ret e l
 | c,Q,e,l=>SWpL P G N c Q e l
theorem AWpL.sound(hT:TOk P T)(C:List Nat):∀(c:Code) (Q:Exit→Env→LS→Prop) (e:Env) (l:LS),AWpL P T G N C c Q e l→SWpL P G N c Q e l:=by
 intro c
 induction c with
 | skip=>exact fun Q e l h=>⟨fun φ hs=>AWp.sound hT .skip _ _ _ ⟨l,rfl,hs,h⟩⟩
 | region id ops draw =>
   intro Q e l h
   cases draw with
   | true=>exact h
   | false=>exact⟨fun φ hs=>AWp.sound hT (.region id ops false) _ _ _ (AOpsL.sound ops.toList e l hs h)⟩
 | seq x y ihx ihy =>
   intro Q e l h
   simp only[AWpL] at h
   split at h
   case h_2=>exact h.run
   refine SWpL.seq ((ihx _ e l h).mono ?_)
   intro x e' l' hq
   cases x<;>first|exact ihy Q e' l' hq|exact hq
 | cond c x y ihx ihy =>
   intro Q e l h
   refine⟨fun φ hs=>⟨fun σ0 w0 a w hr hok=>?_⟩⟩
   simp only[AWpL] at h
   split at h
   case h_2=>exact h.elim
   rename_i t hc
   have hv:=ev_sound hr.env hr.glob c
   rw[hc] at hv
   generalize hcv:a.eval c=cv at hv
   cases hv
   cases t with
   | true=>exact wpIn_cond_true hcv (((ihx Q e l (h.yes rfl)).run φ hs).run σ0 w0 a w hr (okR.cond hok).1)
   | false=>exact wpIn_cond_false hcv (((ihy Q e l (h.no rfl)).run φ hs).run σ0 w0 a w hr (okR.cond hok).2)
 | block id c ih =>
   intro Q e l h
   refine⟨fun φ hs=>⟨fun σ0 w0 a w hr hok=>?_⟩⟩
   refine wpIn_block (wpIn_mono (((ih _ e l h).run φ hs).run σ0 w0 a w hr (okR.block hok)) ?_)
   rintro x a' w' ⟨e',σ',⟨l',rfl,h1,h3⟩,h2⟩
   cases x with
   | exit i =>
     simp only[QblockL] at h3
     simp only[Exit.inBlock]
     split at h3
     · rename_i hb
       rw[if_pos (Nat.eq_of_beq_eq_true hb)]
       exact⟨e',_,⟨l',rfl,h1,h3⟩,h2⟩
     · rename_i hb
       rw[if_neg (fun e=>by subst e;rw[Nat.beq_refl] at hb;cases hb)]
       exact⟨e',_,⟨l',rfl,h1,h3⟩,h2⟩
   | _=>exact⟨e',_,⟨l',rfl,h1,h3⟩,h2⟩
 | loop c ih=>exact fun Q e l h=>h
 | exit id=>exact fun Q e l h=>⟨fun φ hs=>AWp.sound hT (.exit id) _ _ _ ⟨l,rfl,hs,h⟩⟩
 | scope c ih =>
   intro Q e l h
   refine⟨fun φ hs=>⟨fun σ0 w0 a w hr hok=>?_⟩⟩
   refine xW (wpIn_mono (((ih _ e l h).run φ hs).run σ0 w0 a w hr (okR.scope hok)) ?_)
   rintro x a' w' ⟨e',σ',⟨l',rfl,h1,h3⟩,h2⟩
   cases x<;>first|exact h3.elim|exact⟨e',_,⟨l',rfl,h1,h3⟩,h2⟩
 | label n=>exact fun Q e l h=>⟨fun φ hs=>AWp.sound hT (.label n) _ _ _ ⟨l,rfl,hs,h⟩⟩
 | ret=>exact fun Q e l h=>⟨fun φ hs=>AWp.sound hT .ret _ _ _ ⟨l,rfl,hs,h⟩⟩
 | rangeFunc f ps as b iha ihb=>exact fun Q e l h=>h
 | goto n=>exact fun Q e l h=>h
 | refuse why=>exact fun Q e l h=>h
structure WksL(G:Nat→AV)(N:Nat)(e:Env)(l:LS)(R:Env→LS→Prop):Prop where
 go:∀φ,Sep φ l→Wks G N e (pQ φ l) (KE φ R)
theorem SWpL.loop{c:Code}{Q:Exit→Env→LS→Prop}(I:Nat→Env→LS→Prop)(h0:WksL G N e l fun e' l'=>∃n,I n e' l')
   (hr:∀n e l,I n e l→SWpL P G N c (ka (fun e1 l1=>WksL G N e1 l1 fun e' l'=>∃m,m<n∧I m e' l') Q) e l):SWpL P G N (.loop c) Q e l:=by
 refine⟨fun φ hs=>SWp.loop (fun n=>KE φ (I n)) ⟨fun σ0 w0 a w hrel=>?_⟩ ?_⟩
 · obtain⟨e',σ',⟨l',h1,h2,n,h3⟩,h4⟩:=(h0.go φ hs).go σ0 w0 a w hrel
   exact⟨e',σ',⟨n,l',h1,h2,h3⟩,h4⟩
 · rintro n e σ ⟨l,rfl,hs,hI⟩
   refine((hr n e l hI).run φ hs).mono ?_
   rintro x e1 σ1 ⟨l1,rfl,hs1,hq⟩
   cases x<;>first
     | (refine⟨fun σ0 w0 a w hrel=>?_⟩
        obtain⟨e',σ',⟨l',h1,h2,m,h3,h5⟩,h4⟩:=(WksL.go hq φ hs1).go σ0 w0 a w hrel
        exact⟨e',σ',⟨m,h3,l',h1,h2,h5⟩,h4⟩)
     | exact⟨l1,rfl,hs1,hq⟩
structure LB(m l:LS):Prop where
 go:∀φ,Sep φ l→Sep φ m∧Sub (pQ φ m) (pQ φ l)
theorem LB.nil:LB [] l:=⟨fun _ hs=>⟨⟨by simp,by simp⟩,fun p c hp=>hs.old hp⟩⟩
theorem LB.cons{m:LS}{p:Nm}{c':Pl}(h:LH l p fun c _ r=>c=c'∧LB m r):LB ((p,c')::m) l:=by
 obtain⟨l1,c,l2,rfl,rfl,h1⟩:=h.ex
 refine⟨fun φ hs=>?_⟩
 have hr:=hs.rest
 obtain⟨h2,h3⟩:=h1.go φ hr
 have hnd:=jj hs.nd
 have hp0:φ p=none:=hs.fr (p,c) (by simp)
 have hpm:p∉m.map (·.1):=fun hm=>by
   cases hc:pQ φ m p with
   | none=>exact(zH hc).1 hm
   | some d =>
     have h5:=h3 p d hc
     rw[zz (by simp only[List.map_append,List.mem_append,not_or];exact⟨hnd.1,hnd.2.1⟩),hp0] at h5
     cases h5
 refine⟨⟨by simp only[List.map_cons];exact List.nodup_cons.2 ⟨hpm,h2.nd⟩,fun x hx=>?_⟩,fun q d hq=>?_⟩
 · rcases List.mem_cons.1 hx with rfl|hx
   · exact hp0
   · exact h2.fr x hx
 · have hq:upd (pQ φ m) p c q=some d:=hq
   by_cases hqp:q=p
   · subst hqp;rw[qx] at hq;cases hq;exact hs.get
   · rw[qe _ _ hqp] at hq
     have h5:=h3 q d hq
     rw[←hs.era',z6 _ hqp] at h5
     exact h5
theorem LB.refl:LB l l:=⟨fun _ hs=>⟨hs,Sub.refl _⟩⟩
structure LTo(m l:LS):Prop where
 go:∀φ,Sep φ l→Sep φ m∧(∀w,Mem (pQ φ l) w→Mem (pQ φ m) w)∧∀b,pQ φ l b=none→pQ φ m b=none
theorem LB.to{m l:LS}(h:LB m l):LTo m l:=⟨fun φ hs=>⟨(h.go φ hs).1,fun _ hm=>hm.forget (h.go φ hs).2,fun b hb=>by
 cases hc:pQ φ m b with
 | none=>rfl
 | some c=>rw[(h.go φ hs).2 b c hc] at hb;cases hb⟩⟩
theorem Rel.to{σ':q8}(h:Rel G N e σ σ0 w0 a w)(hm:∀w,Mem σ w→Mem σ' w)(hn:∀b,σ b=none→σ' b=none):Rel G N e σ' σ0 w0 a w:=by
 have hst:Stp σ w σ' w:=Stp.forget σ σ' w fun b hb=>hn _ hb
 exact⟨h.n,h.d.mono hst,fun x=>(h.env x).mono hst,hm w h.mem,h.st.trans hst,h.glob.mono hst⟩
structure AtL(id:Nat){S:Type}(vs:S→List (Nat×AV))(st:S→LS)(ok:S→Prop)(meas:S→Nat)(e0:Env)(live:List Nat)(m:Nat)(e:Env)(l:LS):Prop where
 ex:∃s,eqs e (vs s)∧same e e0 live∧LTo (st s) l∧ok s∧meas s<m
theorem AtL.mk'{id:Nat}{S:Type}{vs:S→List (Nat×AV)}{st:S→LS}{ok:S→Prop}{meas:S→Nat}{e0:Env}{live:List Nat}{m:Nat}(s:S)(h:eqs e (vs s)∧same e e0 live∧LB (st s) l∧ok s∧meas s<m):AtL id vs st ok meas e0 live m e l:=⟨s,h.1,h.2.1,h.2.2.1.to,h.2.2.2⟩
theorem AtL.mkF{id:Nat}{S:Type}{vs:S→List (Nat×AV)}{st:S→LS}{ok:S→Prop}{meas:S→Nat}{e0:Env}{live:List Nat}{m:Nat}(s:S)(h:eqs e (vs s)∧same e e0 live∧LTo (st s) l∧ok s∧meas s<m):AtL id vs st ok meas e0 live m e l:=⟨s,h⟩
theorem WksL.at{id:Nat}{S:Type}{vs:S→List (Nat×AV)}{st:S→LS}{ok:S→Prop}{meas:S→Nat}{e0:Env}{live:List Nat}{m:Nat}(h:AtL id vs st ok meas e0 live m e l) :
   WksL G N e l fun e' l'=>∃n,n<m∧∃s,ok s∧meas s=n∧e'=over (vs s) (pick live e0)∧l'=st s:=by
 obtain⟨s,h1,h2,h3,h4,h5⟩:=h
 refine⟨fun φ hs=>⟨fun σ0 w0 a w hrel=>?_⟩⟩
 obtain⟨k1,k2⟩:=h3.go φ hs
 exact⟨_,_,⟨st s,rfl,k1,_,h5,s,h4,rfl,rfl,rfl⟩,(hrel.over (fun x=>(hrel.pick h2).env x) h1).to k2.1 k2.2⟩
theorem SWpL.loopC{c:Code}{Q:Exit→Env→LS→Prop}(id:Nat){S:Type}(live:List Nat)(vs:S→List (Nat×AV))(st:S→LS)(ok:S→Prop)(meas:S→Nat)(s0:S)(_hid:zM c=some id)
   (h1:eqs e (vs s0)∧LB (st s0) l∧ok s0)
   (hr:∀s,ok s→SWpL P G N c (ka (AtL id vs st ok meas e live (meas s)) Q) (over (vs s) (pick live e)) (st s)):SWpL P G N (.loop c) Q e l:=by
 refine SWpL.loop (fun n e' l'=>∃s,ok s∧meas s=n∧e'=over (vs s) (pick live e)∧l'=st s) ?_ ?_
 · have h0:AtL id vs st ok meas e live (meas s0+1) e l:=⟨s0,h1.1,eqs_pick live e,h1.2.1.to,h1.2.2,Nat.lt_succ_self _⟩
   refine⟨fun φ hs=>⟨fun σ0 w0 a w hrel=>?_⟩⟩
   obtain⟨e',σ',⟨l',k1,k2,n,-,h⟩,h2⟩:=((WksL.at h0).go φ hs).go σ0 w0 a w hrel
   exact⟨e',σ',⟨l',k1,k2,n,h⟩,h2⟩
 · rintro n e' l' ⟨s,h1,rfl,rfl,rfl⟩
   refine(hr s h1).mono ?_
   intro x e1 l1 hq
   cases x<;>first|exact WksL.at hq|exact hq
theorem AtL.step(hT:TOk P T)(C:List Nat){c:Code}{Q:Exit→Env→LS→Prop}{K:Env→LS→Prop}(h:AWpL P T G N C c (ka K Q) e l):SWpL P G N c (ka K Q) e l:=AWpL.sound hT C _ _ _ _ h
theorem SWpL.weak{c:Code}{Q:Exit→Env→LS→Prop}(h:WksL G N e l fun e' l'=>SWpL P G N c Q e' l'):SWpL P G N c Q e l:=⟨fun φ hs =>
 SWp.weak ⟨fun σ0 w0 a w hr=>by
   obtain⟨e',σ',⟨l',rfl,h2,h3⟩,h4⟩:=(h.go φ hs).go σ0 w0 a w hr
   exact⟨e',_,h3.run φ h2,h4⟩⟩⟩
structure AtC(id:Nat){S:Type}(vs:S→List (Nat×AV))(st:S→LS)(ok:S→Prop)(e0:Env)(live:List Nat)(e:Env)(l:LS):Prop where
 ex:∃s,eqs e (vs s)∧same e e0 live∧LTo (st s) l∧ok s
theorem AtC.mk'{id:Nat}{S:Type}{vs:S→List (Nat×AV)}{st:S→LS}{ok:S→Prop}{e0:Env}{live:List Nat}(s:S)(h:eqs e (vs s)∧same e e0 live∧LB (st s) l∧ok s):AtC id vs st ok e0 live e l:=⟨s,h.1,h.2.1,h.2.2.1.to,h.2.2.2⟩
theorem AtC.mkF{id:Nat}{S:Type}{vs:S→List (Nat×AV)}{st:S→LS}{ok:S→Prop}{e0:Env}{live:List Nat}(s:S)(h:eqs e (vs s)∧same e e0 live∧LTo (st s) l∧ok s):AtC id vs st ok e0 live e l:=⟨s,h⟩
theorem CutL.go(hT:TOk P T)(C:List Nat){x y:Code}{Q:Exit→Env→LS→Prop}(h:AWpL P T G N C x (ka (AWpL P T G N C y Q) Q) e l):CutL P G N x y Q e l:=⟨by
 refine SWpL.seq ((AWpL.sound hT C _ _ _ _ h).mono ?_)
 intro z e' l' hq
 cases z<;>first|exact AWpL.sound hT C _ _ _ _ hq|exact hq⟩
theorem CutL.cut(hT:TOk P T)(C:List Nat)(id:Nat){S:Type}(live:List Nat)(vs:S→List (Nat×AV))(st:S→LS)(ok:S→Prop){x y:Code}{Q:Exit→Env→LS→Prop}(_hid:zM x=some id)
   (h1:AWpL P T G N C x (ka (AtC id vs st ok e live) Q) e l) (h2:∀s,ok s→AWpL P T G N C y Q (over (vs s) (pick live e)) (st s)):CutL P G N x y Q e l:=⟨by
 refine SWpL.seq ((AWpL.sound hT C _ _ _ _ h1).mono ?_)
 intro z e' l' hq
 cases z<;>first
   | (obtain⟨s,k1,k2,k3,k4⟩:=hq
      refine SWpL.weak ⟨fun φ hs=>⟨fun σ0 w0 a w hrel=>?_⟩⟩
      obtain⟨m1,m2⟩:=k3.go φ hs
      exact⟨_,_,⟨st s,rfl,m1,AWpL.sound hT C _ _ _ _ (h2 s k4)⟩,(hrel.over (fun x=>(hrel.pick k2).env x) k1).to m2.1 m2.2⟩)
   | exact hq⟩
def IterL(P:Program)(G:Nat→AV)(N:Nat)(c:Code)(Q:Exit→Env→LS→Prop):Nat→Env→LS→Prop
 | 0,_,_=>False
 | n+1,e,l=>SWpL P G N c (ka (IterL P G N c Q n) Q) e l
theorem SWpL.times{c:Code}{Q:Exit→Env→LS→Prop}(id n:Nat)(_hid:zM c=some id)(h:IterL P G N c Q n e l):SWpL P G N (.loop c) Q e l:=by
 refine SWpL.loop (fun n e l=>IterL P G N c Q n e l) ⟨fun φ hs=>⟨fun σ0 w0 a w hr=>⟨_,_,⟨l,rfl,hs,n,h⟩,hr⟩⟩⟩ ?_
 intro n e l h
 cases n with
 | zero=>exact h.elim
 | succ n =>
   refine SWpL.mono h ?_
   intro x e1 l1 hq
   cases x<;>first|exact⟨fun φ hs=>⟨fun σ0 w0 a w hr=>⟨_,_,⟨l1,rfl,hs,n,Nat.lt_succ_self n,hq⟩,hr⟩⟩⟩|exact hq
theorem SWpL.adopt(x sz:Nat)(t:TypeId){c:Code}{Q:Exit→Env→LS→Prop}(hx:e x=.nils)(h:∀q,SWpL P G N c Q (put e x (.vw q 0 0 sz)) ((q,⟨t,[]⟩)::l)):SWpL P G N c Q e l:=⟨fun φ hs =>
 SWp.adopt x sz t hx fun q hq=>(h q).run φ (hs.new hq _)⟩
structure KL(kp:List Nm)(l l':LS):Prop where
 go:∀φ,Sep φ l→Sep φ l'→∀p,p∈kp→pQ φ l' p=pQ φ l p
theorem KL.nil{l':LS}:KL [] l l':=⟨fun _ _ _ _ h=>by cases h⟩
theorem KL.refl{kp:List Nm}:KL kp l l:=⟨fun _ _ _ _ _=>rfl⟩
theorem KL.cons{kp:List Nm}{l':LS}{p:Nm}(h:LH l p fun c _ _=>LH l' p fun c' _ _=>c'=c∧KL kp l l'):KL (p::kp) l l':=by
 obtain⟨l1,c,l2,rfl,h⟩:=h.ex
 obtain⟨l3,c',l4,rfl,rfl,h⟩:=h.ex
 refine⟨fun φ h1 h2 q hq=>?_⟩
 rcases List.mem_cons.1 hq with rfl|hq
 · rw[h1.get,h2.get]
 · exact h.go φ h1 h2 q hq
def keepL(kp:List Nm)(fr:Bool)(l l':LS):Prop:=match fr with|true=>KL kp l l'|false=>True
structure InL(p:Nm)(kp:List Nm):Prop where
 go:p∈kp
theorem InL.here{p:Nm}{kp:List Nm}:InL p (p::kp):=⟨by simp⟩
theorem InL.next{p x:Nm}{kp:List Nm}(h:InL p kp):InL p (x::kp):=⟨by simp[h.go]⟩
def ldPrL(kp:List Nm)(fr:Bool)(op:Op)(ρ:Operand→AV):Prop :=
 match fr,op with
 | true,.load _ x=>(match ρ x with|.ptr p _=>InL p kp|_=>True)
 | _,_=>True
def opDL(P:Program)(T:Tys)(G:Nat→AV)(kp:List Nm)(fr:Bool)(op:Op)(ρ:Operand→AV)(l:LS)(K:AV→LS→Prop):Prop :=
 match cls op with
 | 3=>opL P T G op ρ l fun v l'=>keepL kp fr l l'∧K v l'
 | 1=>ldPrL kp fr op ρ∧opL P T G op ρ l K
 | _=>opL P T G op ρ l K
theorem opDL.sound{kp:List Nm}{fr:Bool}{op:Op}{ρ:Operand→AV}{K:AV→LS→Prop}(hs:Sep φ l)(h:opDL P T G kp fr op ρ l K):opD P T G (·∈kp) fr op ρ (pQ φ l) (LK φ K):=by
 unfold opDL at h
 unfold opD
 split at h
 · rename_i hc
   simp only[hc]
   refine zR _ _ _ _ _ (opL.sound hs h) ?_
   rintro v σ' ⟨l',rfl,hs',hk,h⟩
   refine⟨?_,l',rfl,hs',h⟩
   cases fr with
   | true=>exact fun p hp=>KL.go hk φ hs hs' p hp
   | false=>trivial
 · rename_i hc
   simp only[hc]
   refine⟨?_,opL.sound hs h.2⟩
   have h1:=h.1
   unfold ldPrL at h1
   unfold ldPr
   split at h1
   · simp only
     split at h1
     · rename_i hx;simp only[hx];exact h1.go
     · rename_i hn
       split
       · rename_i p o hx;exact absurd hx (hn p o)
       · trivial
   · rename_i hn
     split
     · rename_i t x;exact(hn t x rfl rfl).elim
     · trivial
 · rename_i h3 h1
   split
   · rename_i hc;exact absurd hc h3
   · rename_i hc;exact absurd hc h1
   · exact opL.sound hs h
def APermL(P:Program)(T:Tys)(G:Nat→AV)(N:Nat)(kp:List Nm)(frs:List Nat)(ops:Array Oper):List Nat→(Env→LS→Prop)→Env→LS→Prop
 | [],K,e,l=>K e l
 | i::r,K,e,l=>(match ops[i]? with
   | some o=>AOpGL (opDL P T G kp (inL frs i) o.op (ev G e) l) N ops o (APermL P T G N kp frs ops r K) e l
   | none=>False)
theorem SWpL.draw(hT:TOk P T)(hm:P.follows .mixedOrders=true){id:Nat}{ops:Array Oper}{Q:Exit→Env→LS→Prop}(prs:List (List Nat))(frs perm:List Nat)(kp:List Nm)(hok:kr N ops prs frs perm=true)
   (h:APermL P T G N kp frs ops perm (Q .normal) e l):SWpL P G N (.region id ops true) Q e l:=by
 refine⟨fun φ hs=>SWp.draw hT hm prs frs perm (·∈kp) hok ?_⟩
 have hd:∀(i:Nat) (o:Oper),ops[i]? = some o→jY N o.dst=true:=fun i o ho=>by
   have hi:i<ops.size:=(Array.getElem?_eq_some_iff.1 ho).1
   unfold kr at hok
   simp only[Bool.and_eq_true,List.all_eq_true,decide_eq_true_eq,List.mem_range] at hok
   have:=(hok.1.2 i hi).1.1.1
   rw[ho] at this
   exact this
 clear hok
 show APerm P T G N (·∈kp) frs ops perm (KE φ (Q .normal)) e (pQ φ l)
 induction perm generalizing e l with
 | nil=>exact⟨l,rfl,hs,h⟩
 | cons i r ih =>
   simp only[APermL] at h
   simp only[APerm]
   split at h
   · rename_i o ho
     simp only[ho]
     refine AOpd.mono (hd i o ho) (K:=KE φ (APermL P T G N kp frs ops r (Q .normal))) ?_ ?_
     · exact AOpGL.sound (zg _ _ _ _) hs (fun K h=>opDL.sound hs h) h
     · rintro e' σ' ⟨l',rfl,hs',h'⟩
       exact ih h' hs'
   · exact h.elim
structure KeepX(wl:List Nm)(l l':LS):Prop where
 go:∀φ,Sep φ l→Sep φ l'→∀p,p∉wl→pQ φ l' p=pQ φ l p
theorem KeepX.refl{wl:List Nm}:KeepX wl l l:=⟨fun _ _ _ _ _=>rfl⟩
theorem keepX_set{wl:List Nm}{l l':LS}{p:Nm}{c':Pl}(hp:InL p wl)(h:LH l p fun _ s _=>l'=s c'):KeepX wl l l':=by
 obtain⟨l1,c,l2,rfl,e⟩:=h.ex
 clear h
 subst e
 refine⟨fun φ h1 h2 q hq=>?_⟩
 have hne:q≠p:=fun e=>hq (e▸hp.go)
 show pQ φ (l1++(p,c')::l2) q=_
 rw[z5,z5]
 have key:∀(σ τ:q8),σ q=τ q→∀m:LS,pQ σ m q=pQ τ m q:=by
   intro σ τ e m
   induction m with
   | nil=>exact e
   | cons x m ih =>
     show upd (pQ σ m) x.1 x.2 q=upd (pQ τ m) x.1 x.2 q
     unfold upd
     split
     · rfl
     · exact ih
 refine key _ _ ?_ l1
 show upd (pQ φ l2) p c' q=upd (pQ φ l2) p c q
 rw[qe _ _ hne,qe _ _ hne]
structure NotX(p:Nm)(wl:List Nm)(l:LS):Prop where
 go:∀φ,Sep φ l→p∉wl
theorem NotX.nil{p:Nm}:NotX p [] l:=⟨fun _ _ h=>by cases h⟩
theorem NotX.cons{p w:Nm}{wl:List Nm}(h:LH l p fun _ _ r=>LH r w fun _ _ _=>NotX p wl l):NotX p (w::wl) l:=by
 obtain⟨l1,c,l2,rfl,h⟩:=h.ex
 obtain⟨l3,c',l4,e,h⟩:=h.ex
 refine⟨fun φ hs hm=>?_⟩
 rcases List.mem_cons.1 hm with rfl|hm
 · have h1:=jj hs.nd
   have h2:p∈(l1++l2).map (·.1):=by rw[e];simp
   rw[List.map_append,List.mem_append] at h2
   exact h2.elim h1.1 h1.2.1
 · exact h.go φ hs hm
def keepX(wl:List Nm)(fr:Bool)(l l':LS):Prop:=match fr with|true=>KeepX wl l l'|false=>True
def ldPrX(wl:List Nm)(fr:Bool)(op:Op)(ρ:Operand→AV)(l:LS):Prop :=
 match fr,op with
 | true,.load _ x=>(match ρ x with|.ptr p _=>NotX p wl l|_=>True)
 | _,_=>True
def opDX(P:Program)(T:Tys)(G:Nat→AV)(wl:List Nm)(fr:Bool)(op:Op)(ρ:Operand→AV)(l:LS)(K:AV→LS→Prop):Prop :=
 match cls op with
 | 3=>opL P T G op ρ l fun v l'=>keepX wl fr l l'∧K v l'
 | 1=>ldPrX wl fr op ρ l∧opL P T G op ρ l K
 | _=>opL P T G op ρ l K
theorem opDX.sound{wl:List Nm}{fr:Bool}{op:Op}{ρ:Operand→AV}{K:AV→LS→Prop}(hs:Sep φ l)(h:opDX P T G wl fr op ρ l K):opD P T G (·∉wl) fr op ρ (pQ φ l) (LK φ K):=by
 unfold opDX at h
 unfold opD
 split at h
 · rename_i hc
   simp only[hc]
   refine zR _ _ _ _ _ (opL.sound hs h) ?_
   rintro v σ' ⟨l',rfl,hs',hk,h⟩
   refine⟨?_,l',rfl,hs',h⟩
   cases fr with
   | true=>exact fun p hp=>KeepX.go hk φ hs hs' p hp
   | false=>trivial
 · rename_i hc
   simp only[hc]
   refine⟨?_,opL.sound hs h.2⟩
   have h1:=h.1
   unfold ldPrX at h1
   unfold ldPr
   split at h1
   · simp only
     split at h1
     · rename_i hx;simp only[hx];exact h1.go φ hs
     · rename_i hn
       split
       · rename_i p o hx;exact absurd hx (hn p o)
       · trivial
   · rename_i hn
     split
     · rename_i t x;exact(hn t x rfl rfl).elim
     · trivial
 · rename_i h3 h1
   split
   · rename_i hc;exact absurd hc h3
   · rename_i hc;exact absurd hc h1
   · exact opL.sound hs h
def vz(P:Program)(T:Tys)(G:Nat→AV)(N:Nat)(wl:List Nm)(frs:List Nat)(ops:Array Oper):List Nat→(Env→LS→Prop)→Env→LS→Prop
 | [],K,e,l=>K e l
 | i::r,K,e,l=>(match ops[i]? with
   | some o=>AOpGL (opDX P T G wl (inL frs i) o.op (ev G e) l) N ops o (vz P T G N wl frs ops r K) e l
   | none=>False)
theorem SWpL.drawX(hT:TOk P T)(hm:P.follows .mixedOrders=true){id:Nat}{ops:Array Oper}{Q:Exit→Env→LS→Prop}(prs:List (List Nat))(frs perm:List Nat)(wl:List Nm)(hok:kr N ops prs frs perm=true)
   (h:vz P T G N wl frs ops perm (Q .normal) e l):SWpL P G N (.region id ops true) Q e l:=by
 refine⟨fun φ hs=>SWp.draw hT hm prs frs perm (·∉wl) hok ?_⟩
 have hd:∀(i:Nat) (o:Oper),ops[i]? = some o→jY N o.dst=true:=fun i o ho=>by
   have hi:i<ops.size:=(Array.getElem?_eq_some_iff.1 ho).1
   unfold kr at hok
   simp only[Bool.and_eq_true,List.all_eq_true,decide_eq_true_eq,List.mem_range] at hok
   have:=(hok.1.2 i hi).1.1.1
   rw[ho] at this
   exact this
 clear hok
 show APerm P T G N (·∉wl) frs ops perm (KE φ (Q .normal)) e (pQ φ l)
 induction perm generalizing e l with
 | nil=>exact⟨l,rfl,hs,h⟩
 | cons i r ih =>
   simp only[vz] at h
   simp only[APerm]
   split at h
   · rename_i o ho
     simp only[ho]
     refine AOpd.mono (hd i o ho) (K:=KE φ (vz P T G N wl frs ops r (Q .normal))) ?_ ?_
     · exact AOpGL.sound (zg _ _ _ _) hs (fun K h=>opDX.sound hs h) h
     · rintro e' σ' ⟨l',rfl,hs',h'⟩
       exact ih h' hs'
   · exact h.elim
def resCL(T:Tys)(e:Env)(l:LS):List ResultVar→(List AV→Prop)→Prop
 | [],K=>K []
 | .tmp t::r,K=>resCL T e l r fun vs=>K (e t::vs)
 | .cell x t::r,K=>LLd T t (e x) l fun v=>resCL T e l r fun vs=>K (v::vs)
def retQL(T:Tys)(rs:List ResultVar)(R:AV→LS→Prop):Exit→Env→LS→Prop
 | .normal,e,l|.ret,e,l=>resCL T e l rs fun vs=>force (one vs) fun r=>R r l
 | _,_,_=>False
theorem ALd.mono{t:TypeId}{x:AV}{K K':AV→Prop}(h:ALd T t x σ K)(hk:∀v,K v→K' v):ALd T t x σ K':=by
 obtain⟨u,hu,hiff⟩:=wx h
 exact(hiff _ _ fun _ _ _=>rfl).2 (hk _ hu)
theorem resCL.sound(hs:Sep φ l):∀(rs:List ResultVar) (K:List AV→Prop),resCL T e l rs K→v8 T e (pQ φ l) rs K
 | [],_,h=>h
 | .tmp _::r,_,h=>resCL.sound hs r _ h
 | .cell _ _::r,_,h=>(LLd.sound hs h).mono fun _ h=>resCL.sound hs r _ h
structure RL(post:Nm→AV×LS)(r:AV)(l:LS):Prop where
 run:∀φ,(∃q,φ q=none)→Sep φ l→∃(F:List Nm) (q:Nm),φ q=none∧((post q).2.map (·.1)).Nodup∧Frz (pQ φ l) F r (post q).1∧Sub (pQ φ (post q).2) (eraN (pQ φ l) F)
theorem y6(σ:q8)(F:List Nm){p:Nm}(h:p∉F):eraN σ F p=σ p:=by
 induction F with
 | nil=>rfl
 | cons q F ih =>
   simp only[List.mem_cons,not_or] at h
   show era (eraN σ F) q p=σ p
   rw[z6 _ h.1]
   exact ih h.2
theorem wX{x:Nm×Pl}:∀{ps:LS},x∈ps→(ps.map (·.1)).Nodup→∀φ,pQ φ ps x.1=some x.2:=by
 intro ps hx hn φ
 obtain⟨l1,l2,rfl⟩:=List.append_of_mem hx
 obtain⟨p,c⟩:=x
 have h:=jj hn
 rw[z5,zz h.1]
 exact qx _ _ _
theorem LP.introL(hT:TOk P T){f:FuncId}{fn:Func}{c:Code}{args:List AV}{ps:LS}{post:Nm→AV×LS}(hf:P.funcs[f]? = some fn)(hb:fn.body=some c)(hname:(fn.name == "runtime.NumGoroutine")=false)(hl:args.length≤fn.ntmps)(hpost:∀q,(∀x∈(post q).2,x.1=q∨x.1∈ps.map (·.1))∧(q∉ps.map (·.1)→((post q).2.map (·.1)).Nodup))
   (h:SWpL P G fn.ntmps c (retQL T fn.results.toList (RL post)) (jJ args) ps):LP P G f args ps post:=by
 refine LP.intro hT hf hb hname hl hpost fun τ hq hps hnd=>?_
 have hτ:τ=pQ (eraN τ (ps.map (·.1))) ps:=by
   funext x
   by_cases hx:x∈ps.map (·.1)
   · obtain⟨y,hy,rfl⟩:=List.mem_map.1 hx
     rw[wX hy hnd];exact hps y hy
   · rw[zz hx,y6 _ _ hx]
 have hs:Sep (eraN τ (ps.map (·.1))) ps:=⟨hnd,fun x hx=>j8 _ _ (List.mem_map.2 ⟨x,hx,rfl⟩)⟩
 have h2:=h.run _ hs
 rw[←hτ] at h2
 refine h2.mono ?_
 rintro x e' σ' ⟨l',rfl,hs',hr⟩
 have key:(resCL T e' l' fn.results.toList fun vs=>force (one vs) fun r=>RL post r l')→v8 T e' (pQ (eraN τ (ps.map (·.1))) l') fn.results.toList fun vs=>force (one vs) fun r=>Ret τ ps post r (pQ (eraN τ (ps.map (·.1))) l'):=fun hr=>by
   refine resCL.sound hs' _ _ ?_
   have:(fun vs=>force (one vs) fun r=>RL post r l')=fun vs=>RL post (one vs) l':=by funext vs;rw[zx]
   rw[this] at hr
   have e2:(fun vs=>force (one vs) fun r=>Ret τ ps post r (pQ (eraN τ (ps.map (·.1))) l'))=fun vs=>Ret τ ps post (one vs) (pQ (eraN τ (ps.map (·.1))) l'):=by funext vs;rw[zx]
   rw[e2]
   have hmono:∀(rs:List ResultVar) (K K':List AV→Prop),(∀vs,K vs→K' vs)→resCL T e' l' rs K→resCL T e' l' rs K':=by
     intro rs
     induction rs with
     | nil=>exact fun K K' hk h=>hk _ h
     | cons r rs ih =>
       intro K K' hk h
       cases r with
       | tmp t=>exact ih _ _ (fun vs=>hk _) h
       | cell x t =>
         simp only[resCL,LLd] at h ⊢
         split at h
         · refine LH.mono h ?_
           rintro c s r ⟨h1,h2,⟨h3⟩⟩
           exact⟨h1,h2,⟨ih _ _ (fun vs=>hk _) h3⟩⟩
         · obtain⟨h1,h2,⟨h3⟩⟩:=h
           exact⟨h1,h2,⟨ih _ _ (fun vs=>hk _) h3⟩⟩
         · exact h
   refine hmono _ _ _ (fun vs hv=>?_) hr
   obtain⟨F,q,g1,gn,g2,g3⟩:=hv.run _ hq hs'
   exact⟨⟨F,q,g1,gn,g2,g3⟩⟩
 cases x<;>first|exact key hr|exact hr.elim
def LNames:LS→List Nm→Prop
 | _,[]=>True
 | l,q::qs=>LH l q fun _ _ r=>LNames r qs
theorem LNames.sound:∀{qs:List Nm} {l:LS},LNames l qs→Sep φ l→qs.Nodup∧∀q∈qs,φ q=none∧q∈l.map (·.1)
 | [],_,_,_=>⟨List.nodup_nil,fun _ h=>by cases h⟩
 | q::qs,l,h,hs=>by
   obtain⟨l1,c,l2,rfl,h'⟩:=LH.ex h
   obtain⟨k1,k2⟩:=LNames.sound h' hs.rest
   have hnd:=jj hs.nd
   refine⟨List.nodup_cons.2 ⟨fun hm=>?_,k1⟩,fun x hx=>?_⟩
   · have:=(k2 q hm).2
     simp only[List.map_append,List.mem_append] at this
     rcases this with h|h
     · exact hnd.1 h
     · exact hnd.2.1 h
   · rcases List.mem_cons.1 hx with rfl|hx
     · exact⟨hs.fr (x,c) (by simp),by simp⟩
     · obtain⟨m1,m2⟩:=k2 x hx
       refine⟨m1,?_⟩
       simp only[List.map_append,List.mem_append,List.map_cons,List.mem_cons] at m2 ⊢
       rcases m2 with h|h
       · exact .inl h
       · exact .inr (.inr h)
structure RetLN(k:Nat)(post:List Nm→AV×LS)(r:AV)(l:LS):Prop where
 run:∀φ,Sep φ l→∃(F:List Nm) (qs:List Nm),qs.length=k∧qs.Nodup∧(∀q∈qs,φ q=none)∧((post qs).2.map (·.1)).Nodup∧Frz (pQ φ l) F r (post qs).1∧Sub (pQ φ (post qs).2) (eraN (pQ φ l) F)
theorem RetLN.val{k:Nat}{post:List Nm→AV×LS}{r:AV}(qs:List Nm)(hl:qs.length=k)(hn:LNames l qs)(h:r=(post qs).1)(hs:LB (post qs).2 l):RetLN k post r l:=⟨fun φ hsp=>by
 obtain⟨k1,k2⟩:=hn.sound hsp
 obtain⟨h2,h3⟩:=hs.go φ hsp
 exact⟨[],qs,hl,k1,fun q hq=>(k2 q hq).1,h2.nd,h▸.refl r,h3⟩⟩
theorem LSpecN.introL(hT:TOk P T){f:FuncId}{fn:Func}{c:Code}{args:List AV}{ps:LS}{k:Nat}{post:List Nm→AV×LS}(hf:P.funcs[f]? = some fn)(hb:fn.body=some c)(hname:(fn.name == "runtime.NumGoroutine")=false)(hl:args.length≤fn.ntmps)(hpost:∀qs,qs.length=k→(∀x∈(post qs).2,x.1∈qs∨x.1∈ps.map (·.1))∧(qs.Nodup→(∀q∈qs,q∉ps.map (·.1))→((post qs).2.map (·.1)).Nodup))
   (h:SWpL P G fn.ntmps c (retQL T fn.results.toList (RetLN k post)) (jJ args) ps):LSpecN P G f args ps k post:=by
 refine LSpecN.intro hT hf hb hname hl hpost fun τ hps hnd=>?_
 have hτ:τ=pQ (eraN τ (ps.map (·.1))) ps:=by
   funext x
   by_cases hx:x∈ps.map (·.1)
   · obtain⟨y,hy,rfl⟩:=List.mem_map.1 hx
     rw[wX hy hnd];exact hps y hy
   · rw[zz hx,y6 _ _ hx]
 have hs:Sep (eraN τ (ps.map (·.1))) ps:=⟨hnd,fun x hx=>j8 _ _ (List.mem_map.2 ⟨x,hx,rfl⟩)⟩
 have h2:=h.run _ hs
 rw[←hτ] at h2
 refine h2.mono ?_
 rintro x e' σ' ⟨l',rfl,hs',hr⟩
 have key:(resCL T e' l' fn.results.toList fun vs=>force (one vs) fun r=>RetLN k post r l')→v8 T e' (pQ (eraN τ (ps.map (·.1))) l') fn.results.toList fun vs=>force (one vs) fun r=>RetN τ ps k post r (pQ (eraN τ (ps.map (·.1))) l'):=fun hr=>by
   refine resCL.sound hs' _ _ ?_
   have:(fun vs=>force (one vs) fun r=>RetLN k post r l')=fun vs=>RetLN k post (one vs) l':=by funext vs;rw[zx]
   rw[this] at hr
   have e2:(fun vs=>force (one vs) fun r=>RetN τ ps k post r (pQ (eraN τ (ps.map (·.1))) l'))=fun vs=>RetN τ ps k post (one vs) (pQ (eraN τ (ps.map (·.1))) l'):=by funext vs;rw[zx]
   rw[e2]
   have hmono:∀(rs:List ResultVar) (K K':List AV→Prop),(∀vs,K vs→K' vs)→resCL T e' l' rs K→resCL T e' l' rs K':=by
     intro rs
     induction rs with
     | nil=>exact fun K K' hk h=>hk _ h
     | cons r rs ih =>
       intro K K' hk h
       cases r with
       | tmp t=>exact ih _ _ (fun vs=>hk _) h
       | cell x t =>
         simp only[resCL,LLd] at h ⊢
         split at h
         · refine LH.mono h ?_
           rintro c s r ⟨h1,h2,⟨h3⟩⟩
           exact⟨h1,h2,⟨ih _ _ (fun vs=>hk _) h3⟩⟩
         · obtain⟨h1,h2,⟨h3⟩⟩:=h
           exact⟨h1,h2,⟨ih _ _ (fun vs=>hk _) h3⟩⟩
         · exact h
   refine hmono _ _ _ (fun vs hv=>?_) hr
   obtain⟨F,q,gl,gi,g1,gn,g2,g3⟩:=hv.run _ hs'
   exact⟨⟨F,q,gl,gi,g1,gn,g2,g3⟩⟩
 cases x<;>first|exact key hr|exact hr.elim
theorem LSpecF.introL(hT:TOk P T){ι:Type}(i0:ι){f:FuncId}{fn:Func}{c:Code}{args:List AV}{ps:LS}{k:Nat}{post:ι→List Nm→AV×LS}(hf:P.funcs[f]? = some fn)(hb:fn.body=some c)(hname:(fn.name == "runtime.NumGoroutine")=false)(hl:args.length≤fn.ntmps)(hpost:∀i qs,qs.length=k→(∀x∈(post i qs).2,x.1∈qs∨x.1∈ps.map (·.1))∧(qs.Nodup→(∀q∈qs,q∉ps.map (·.1))→((post i qs).2.map (·.1)).Nodup))
   (h:SWpL P G fn.ntmps c (retQL T fn.results.toList (fun r l=>∃i,RetLN k (post i) r l)) (jJ args) ps):LSpecF ι P G f args ps k post:=by
 refine LSpecF.intro hT i0 hf hb hname hl hpost fun τ hps hnd=>?_
 have hτ:τ=pQ (eraN τ (ps.map (·.1))) ps:=by
   funext x
   by_cases hx:x∈ps.map (·.1)
   · obtain⟨y,hy,rfl⟩:=List.mem_map.1 hx
     rw[wX hy hnd];exact hps y hy
   · rw[zz hx,y6 _ _ hx]
 have hs:Sep (eraN τ (ps.map (·.1))) ps:=⟨hnd,fun x hx=>j8 _ _ (List.mem_map.2 ⟨x,hx,rfl⟩)⟩
 have h2:=h.run _ hs
 rw[←hτ] at h2
 refine h2.mono ?_
 rintro x e' σ' ⟨l',rfl,hs',hr⟩
 have key:(resCL T e' l' fn.results.toList fun vs=>force (one vs) fun r=>∃i,RetLN k (post i) r l')→v8 T e' (pQ (eraN τ (ps.map (·.1))) l') fn.results.toList fun vs=>force (one vs) fun r=>∃i,RetN τ ps k (post i) r (pQ (eraN τ (ps.map (·.1))) l'):=fun hr=>by
   refine resCL.sound hs' _ _ ?_
   have:(fun vs=>force (one vs) fun r=>∃i,RetLN k (post i) r l')=fun vs=>∃i,RetLN k (post i) (one vs) l':=by funext vs;rw[zx]
   rw[this] at hr
   have e2:(fun vs=>force (one vs) fun r=>∃i,RetN τ ps k (post i) r (pQ (eraN τ (ps.map (·.1))) l'))=fun vs=>∃i,RetN τ ps k (post i) (one vs) (pQ (eraN τ (ps.map (·.1))) l'):=by funext vs;rw[zx]
   rw[e2]
   have hmono:∀(rs:List ResultVar) (K K':List AV→Prop),(∀vs,K vs→K' vs)→resCL T e' l' rs K→resCL T e' l' rs K':=by
     intro rs
     induction rs with
     | nil=>exact fun K K' hk h=>hk _ h
     | cons r rs ih =>
       intro K K' hk h
       cases r with
       | tmp t=>exact ih _ _ (fun vs=>hk _) h
       | cell x t =>
         simp only[resCL,LLd] at h ⊢
         split at h
         · refine LH.mono h ?_
           rintro c s r ⟨h1,h2,⟨h3⟩⟩
           exact⟨h1,h2,⟨ih _ _ (fun vs=>hk _) h3⟩⟩
         · obtain⟨h1,h2,⟨h3⟩⟩:=h
           exact⟨h1,h2,⟨ih _ _ (fun vs=>hk _) h3⟩⟩
         · exact h
   refine hmono _ _ _ (fun vs hv=>?_) hr
   obtain⟨i,hv⟩:=hv
   obtain⟨F,q,gl,gi,g1,gn,g2,g3⟩:=hv.run _ hs'
   exact⟨i,⟨F,q,gl,gi,g1,gn,g2,g3⟩⟩
 cases x<;>first|exact key hr|exact hr.elim
def LEra(l:LS):List Nm→(LS→Prop)→Prop
 | [],K=>K l
 | p::F,K=>LH l p fun _ _ r=>LEra r F K
theorem LEra.sound{K:LS→Prop}:∀{F:List Nm} {l:LS},LEra l F K→Sep φ l→∃l',eraN (pQ φ l) F=pQ φ l'∧Sep φ l'∧K l'
 | [],l,h,hs=>⟨l,rfl,hs,h⟩
 | p::F,l,h,hs=>by
   obtain⟨l1,c,l2,rfl,h'⟩:=LH.ex h
   obtain⟨l',h1,h2,h3⟩:=LEra.sound h' hs.rest
   refine⟨l',?_,h2,h3⟩
   rw[←h1,←hs.era']
   clear h h' h1 h2 h3
   induction F with
   | nil=>rfl
   | cons q F ih =>
     show era (era (eraN _ F) q) p=era (eraN (era _ p) F) q
     rw[←ih]
     show era (era (eraN (pQ φ (l1++(p,c)::l2)) F) q) p=era (era (eraN (pQ φ (l1++(p,c)::l2)) F) p) q
     funext x
     by_cases h1:x=p
     · subst h1;rw[qR]
       by_cases h2:x=q
       · subst h2;rw[qR]
       · rw[z6 _ h2,qR]
     · rw[z6 _ h1]
       by_cases h2:x=q
       · subst h2;rw[qR,qR]
       · rw[z6 _ h2,z6 _ h2,z6 _ h1]
structure LF(l:LS)(F:List Nm)(a a':AV):Prop where
 run:∀φ,Sep φ l→Frz (pQ φ l) F a a'
theorem LF.eq{F:List Nm}{x y:AV}(h:x=y):LF l F x y:=⟨fun _ _=>h▸.refl x⟩
theorem LF.row{F:List Nm}{p:Nm}{n m sz:Nat}{ds:List AV}(hF:InL p F)(h:LH l p fun c _ _=>0<sz∧c.cs.length=n*sz∧m=n∧ds=c.cs):LF l F (.vw p 0 n sz) (.sl m ds):=by
 obtain⟨l1,c,l2,rfl,h0,h1,rfl,rfl⟩:=h.ex
 exact⟨fun φ hs=>.vw p 0 _ sz _ _ hF.go hs.get (by simp;omega) h1 h0 fun i hi=>by rw[Nat.zero_add];exact .refl _⟩
theorem LF.part{F:List Nm}{p:Nm}{off n m sz:Nat}{ds:List AV}(hF:InL p F)(h:LH l p fun c _ _=>0<sz∧off+n*sz≤c.cs.length∧m=n∧ds=(c.cs.drop off).take (n*sz)):LF l F (.vw p off n sz) (.sl m ds):=by
 obtain⟨l1,c,l2,rfl,h0,h1,rfl,rfl⟩:=h.ex
 refine⟨fun φ hs=>.vw p off _ sz _ _ hF.go hs.get h1 (by simp;omega) h0 fun i hi=>?_⟩
 rw[zj _ _ _ _ (by omega),zl]
 exact .refl _
theorem LF.ap{F:List Nm}{p:Nm}{off n m sz:Nat}{ds:List AV}(hF:InL p F)(h:LH l p fun c _ _=>off+n*sz≤c.cs.length∧m=n∧ds=(c.cs.drop off).take (n*sz)):LF l F (.ap p off n sz) (.sl m ds):=by
 obtain⟨l1,c,l2,rfl,h1,rfl,rfl⟩:=h.ex
 refine⟨fun φ hs=>.ap p off _ sz _ _ hF.go hs.get h1 (by simp;omega) fun i hi=>?_⟩
 rw[zj _ _ _ _ (by omega),zl]
 exact .refl _
theorem LF.vc{F:List Nm}{p:Nm}{off n cap sz:Nat}{a:AV}(h:LF l F (.vw p off n sz) a):LF l F (.vc p off n cap sz) a:=⟨fun φ hs=>.vc _ _ _ _ _ _ (h.run φ hs)⟩
theorem LF.nils{F:List Nm}{n:Nat}{ds:List AV}(hn:n=0)(h:ds=[]):LF l F .nils (.sl n ds):=by subst hn;subst h;exact⟨fun _ _=>.nils⟩
def LFs(l:LS)(F:List Nm):List AV→List AV→Prop
 | [],[]=>True
 | x::xs,y::ys=>LF l F x y∧LFs l F xs ys
 | _,_=>False
theorem LFs.frz{F:List Nm}(hs:Sep φ l):∀{xs ys:List AV},LFs l F xs ys→FrzL (pQ φ l) F xs ys
 | [],[],_=>trivial
 | _::_,_::_,h=>⟨h.1.run φ hs,LFs.frz hs h.2⟩
 | [],_::_,h=>h.elim
 | _::_,[],h=>h.elim
theorem LF.agg{F:List Nm}{xs ys:List AV}(h:LFs l F xs ys):LF l F (.agg xs) (.agg ys):=⟨fun _ hs=>(h.frz hs).agg⟩
theorem LF.tup{F:List Nm}{xs ys:List AV}(h:LFs l F xs ys):LF l F (.tup xs) (.tup ys):=⟨fun _ hs=>(h.frz hs).tup⟩
theorem LF.rowN{F:List Nm}{p:Nm}{n m sz:Nat}{ds:List AV}(hF:InL p F)(h:LH l p fun c _ _=>0<sz∧c.cs.length=n*sz∧m=n∧LFs l F c.cs ds):LF l F (.vw p 0 n sz) (.sl m ds):=by
 obtain⟨l1,c,l2,rfl,h0,h1,rfl,h2⟩:=h.ex
 refine⟨fun φ hs=>?_⟩
 have h3:=(h2.frz hs).all
 exact .vw p 0 _ sz _ _ hF.go hs.get (by simp;omega) (by omega) h0 fun i hi=>by rw[Nat.zero_add];exact h3.2 i (by omega)
theorem LF.sl{F:List Nm}{n m:Nat}{xs ys:List AV}(hn:n=m)(h:LFs l F xs ys):LF l F (.sl n xs) (.sl m ys):=by
 subst hn
 exact⟨fun _ hs=>.sl _ _ _ (h.frz hs).all.1 (h.frz hs).all.2⟩
theorem jo(σ:q8):∀(F:List Nm) (p:Nm),(p∈F∧eraN σ F p=none)∨(p∉F∧eraN σ F p=σ p)
 | [],p=>.inr ⟨by simp,rfl⟩
 | q::F,p=>by
   by_cases h:p∈q::F
   · exact .inl ⟨h,j8 σ _ h⟩
   · exact .inr ⟨h,by
       rw[show eraN σ (q::F)=era (eraN σ F) q from rfl,z6 _ (fun e=>h (by simp[e]))]
       rcases jo σ F p with h2|h2
       · exact absurd (List.mem_cons_of_mem q h2.1) h
       · exact h2.2⟩
theorem Mem.frzP{σ:q8}{w:World}{q:Nm}{t:TypeId}{cs cs':List AV}(F:List Nm)(h:Mem σ w)(hq:σ q=some ⟨t,cs⟩)(hv:FrzL σ F cs cs'):Mem (eraN (upd σ q ⟨t,cs'⟩) F) w:=by
 have hn:∀b,eraN σ F b=none→eraN (upd σ q ⟨t,cs'⟩) F b=none:=fun b hb=>by
   rcases jo (upd σ q ⟨t,cs'⟩) F b with ⟨-,h2⟩|⟨h1,h2⟩
   · exact h2
   · rcases jo σ F b with ⟨h3,-⟩|⟨-,h4⟩
     · exact absurd h3 h1
     · rw[h2,qe _ _ (fun e=>by subst e;rw[h4,hq] at hb;cases hb),←h4,hb]
 have hn0:∀b,σ b=none→eraN (upd σ q ⟨t,cs'⟩) F b=none:=fun b hb=>hn b (qF σ F hb)
 have hl:=hv.all.1
 refine⟨fun p c hp=>?_,fun k c hk=>?_,?_⟩
 · rcases jo (upd σ q ⟨t,cs'⟩) F (.b p) with ⟨-,h2⟩|⟨h1,h2⟩
   · rw[h2] at hp;cases hp
   · rw[h2] at hp
     by_cases e:Nm.b p=q
     · subst e
       rw[qx] at hp;cases hp
       obtain⟨cur,k1,k2,k3⟩:=h.pl p _ hq
       refine⟨cur,k1,by show cs'.length≤_;rw[←hl];exact k2,fun i hi=>?_⟩
       have hi:i<cs'.length:=hi
       exact((hv.all.2 i (by omega)).sound h (k3 i (by show i<cs.length;omega))).mono (Stp.forget _ _ w fun b hb=>hn _ hb)
     · rw[qe _ _ e] at hp
       obtain⟨cur,k1,k2,k3⟩:=h.pl p c hp
       exact⟨cur,k1,k2,fun i hi=>(k3 i hi).mono (Stp.forget _ _ w fun b hb=>hn0 _ hb)⟩
 · rcases jo (upd σ q ⟨t,cs'⟩) F (.v k) with ⟨-,h2⟩|⟨h1,h2⟩
   · rw[h2] at hk;cases hk
   · rw[h2] at hk
     by_cases e:Nm.v k=q
     · subst e
       rw[qx] at hk;cases hk
       have:=h.vl k _ hq
       exact List.eq_nil_of_length_eq_zero (by show cs'.length=0;rw[←hl,show cs=[] from this];rfl)
     · rw[qe _ _ e] at hk
       exact h.vl k c hk
 · obtain⟨B,hB⟩:=h.fin
   exact⟨B,fun k hk=>hn0 _ (hB k hk)⟩
theorem LTo.frz{m:LS}(q:Nm)(F:List Nm)(cs':List AV)(h:LH l q fun c s _=>LFs l F c.cs cs'∧LEra (s ⟨c.ty,cs'⟩) F (LB m)):LTo m l:=by
 obtain⟨l1,c,l2,rfl,h1,h2⟩:=h.ex
 refine⟨fun φ hs=>?_⟩
 obtain⟨l',k1,k2,k3⟩:=LEra.sound h2 (hs.set (d:=⟨c.ty,cs'⟩))
 obtain⟨m1,m2,m3⟩:=k3.to.go φ k2
 rw[←hs.set'] at k1
 refine⟨m1,fun w hm=>m2 w (k1▸hm.frzP F hs.get (h1.frz hs)),fun b hb=>m3 b ?_⟩
 rw[←k1]
 refine qF _ F ?_
 rw[qe _ _ (fun e=>by subst e;rw[hs.get] at hb;cases hb)]
 exact hb
theorem LFs.app{F:List Nm}:∀{xs ys xs' ys':List AV},LFs l F xs ys→LFs l F xs' ys'→LFs l F (xs++xs') (ys++ys')
 | [],[],_,_,_,h=>h
 | _::_,_::_,_,_,h,k=>⟨h.1,LFs.app h.2 k⟩
 | [],_::_,_,_,h,_=>h.elim
 | _::_,[],_,_,h,_=>h.elim
theorem RL.val{v r:AV}{m:LS}(h:r=v)(hm:LB m l):RL (fun _=>(v,m)) r l:=⟨fun φ ⟨q,hq⟩ hs=>⟨[],q,hq,(hm.go φ hs).1.nd,h▸.refl r,(hm.go φ hs).2⟩⟩
theorem RL.frz{v r:AV}{m:LS}(F:List Nm)(h:LF l F r v)(hm:LEra l F (LB m)):RL (fun _=>(v,m)) r l:=⟨fun φ ⟨q,hq⟩ hs=>by
 obtain⟨l',h1,h2,h3⟩:=hm.sound hs
 exact⟨F,q,hq,(h3.go φ h2).1.nd,h.run φ hs,by rw[h1];exact(h3.go φ h2).2⟩⟩
theorem RL.own{f:Nm→AV}{m:Nm→LS}{r:AV}(q:Nm)(h:r=f q)(hq:LH l q fun _ _ _=>True)(hm:LB (m q) l):RL (fun q=>(f q,m q)) r l:=⟨fun φ _ hs=>by
 refine⟨[],q,?_,(hm.go φ hs).1.nd,h▸.refl r,(hm.go φ hs).2⟩
 obtain⟨l1,c,l2,rfl,-⟩:=hq.ex
 exact hs.fr (q,c) (by simp)⟩
def LTake(l:LS):LS→(LS→Prop)→Prop
 | [],K=>K l
 | x::ps,K=>LH l x.1 fun c _ r=>c=x.2∧LTake r ps K
theorem LTake.sound{K:LS→Prop}:∀{ps:LS} {l:LS},LTake l ps K→Sep φ l→∃r,K r∧Sep φ r∧(∀x∈ps,pQ φ l x.1=some x.2)∧(ps.map (·.1)).Nodup∧eraN (pQ φ l) (ps.map (·.1))=pQ φ r∧∀x∈ps,φ x.1=none∧x.1∉r.map (·.1)
 | [],l,h,hs=>⟨l,h,hs,by simp,by simp,rfl,by simp⟩
 | x::ps,l,h,hs=>by
   obtain⟨p,c0⟩:=x
   obtain⟨l1,c,l2,rfl,rfl,h'⟩:=LH.ex h
   obtain⟨r,h1,h2,h3,h4,h5,h6⟩:=LTake.sound h' (Sep.rest (p:=p) hs)
   have hnd:=jj hs.nd
   have hpn:pQ φ (l1++l2) p=none:=by
     rw[zz (by simp only[List.map_append,List.mem_append,not_or];exact⟨hnd.1,hnd.2.1⟩)]
     exact hs.fr (p,c) (by simp)
   have hpp:p∉ps.map (·.1):=fun hm=>by
     obtain⟨y,hy,he⟩:=List.mem_map.1 hm
     have:=h3 y hy
     rw[he,hpn] at this;cases this
   have hpr:p∉r.map (·.1):=fun hm=>by
     have h7:pQ φ r p=none:=by rw[←h5];exact qF _ _ hpn
     exact(zH h7).1 hm
   refine⟨r,h1,h2,fun x hx=>?_,by simp only[List.map_cons];exact List.nodup_cons.2 ⟨hpp,h4⟩,?_,fun x hx=>?_⟩
   · rcases List.mem_cons.1 hx with rfl|hx
     · exact hs.get
     · have h8:=h3 x hx
       rw[←hs.era'] at h8
       rw[z6 _ (fun(e:x.1=p)=>hpp (by rw[←e];exact List.mem_map.2 ⟨x,hx,rfl⟩))] at h8
       exact h8
   · rw[←h5,←hs.era']
     show era (eraN (pQ φ (l1++(p,c)::l2)) (ps.map (·.1))) p=eraN (era (pQ φ (l1++(p,c)::l2)) p) (ps.map (·.1))
     generalize pQ φ (l1++(p,c)::l2)=σ
     generalize ps.map (·.1)=F
     induction F with
     | nil=>rfl
     | cons q F ih =>
       show era (era (eraN σ F) q) p=era (eraN (era σ p) F) q
       rw[←ih]
       funext x
       by_cases h1:x=p
       · subst h1;rw[qR]
         by_cases h2:x=q
         · subst h2;rw[qR]
         · rw[z6 _ h2,qR]
       · rw[z6 _ h1]
         by_cases h2:x=q
         · subst h2;rw[qR,qR]
         · rw[z6 _ h2,z6 _ h2,z6 _ h1]
   · rcases List.mem_cons.1 hx with rfl|hx
     · exact⟨hs.fr (p,c) (by simp),hpr⟩
     · exact h6 x hx
theorem Sep.app{m r:LS}(h2:Sep φ r)(hn:∀x∈m,φ x.1=none∧x.1∉r.map (·.1))(hnd:(m.map (·.1)).Nodup):Sep φ (m++r):=by
 refine⟨?_,fun x hx=>?_⟩
 · rw[List.map_append,List.nodup_append]
   refine⟨hnd,h2.nd,fun a ha b hb e=>?_⟩
   subst e
   obtain⟨x,hx,rfl⟩:=List.mem_map.1 ha
   exact(hn x hx).2 hb
 · rcases List.mem_append.1 hx with hx|hx
   · exact(hn x hx).1
   · exact h2.fr x hx
theorem LC.mk'{f:FuncId}{args args':List AV}{ps:LS}{post:Nm→AV×LS}{K:AV→LS→Prop}(hs:LP P G f args' ps post)(F:List Nm)(hF:LFs l F args args')(h:LEra l F fun l'=>LTake l' ps fun r=>LQ fun q=>K (post q).1 ((post q).2++r)):LC P G f args l K:=⟨fun φ hsp=>by
 have hfz:=(hF.frz hsp).all
 obtain⟨l',e1,hsp',h⟩:=LEra.sound h hsp
 obtain⟨r,h1,h2,h3,h4,h5,h6⟩:=LTake.sound h hsp'
 refine⟨.inl ⟨F,args',ps,post,hfz.1,hfz.2,hs,e1▸h3,h4,fun q hq hn=>?_⟩⟩
 rw[e1] at hq ⊢
 have hq:eraN (pQ φ l') (ps.map (·.1)) q=none:=hq
 show LK φ K (post q).1 (pQ (eraN (pQ φ l') (ps.map (·.1))) (post q).2)
 rw[h5] at hq ⊢
 have hqn:=zH hq
 have hmem:∀x∈(post q).2,φ x.1=none∧x.1∉r.map (·.1):=fun x hx=>by
   rcases(hs.nm q).1 x hx with he|hp
   · rw[he];exact⟨hqn.2,hqn.1⟩
   · obtain⟨y,hy,he⟩:=List.mem_map.1 hp
     rw[←he];exact h6 y hy
 exact⟨(post q).2++r,by rw[z5],h2.app hmem hn,h1.go q⟩⟩
structure LFreshN(k:Nat)(K:List Nm→Prop):Prop where
 go:∀qs,qs.length=k→K qs
theorem LFreshN.two{K:List Nm→Prop}(h:∀x y,K [x,y]):LFreshN 2 K:=⟨fun qs hq=>match qs,hq with|[x,y],_=>h x y⟩
theorem LFreshN.three{K:List Nm→Prop}(h:∀x y z,K [x,y,z]):LFreshN 3 K:=⟨fun qs hq=>match qs,hq with|[x,y,z],_=>h x y z⟩
theorem LC.mkN{f:FuncId}{args args':List AV}{ps:LS}{k:Nat}{post:List Nm→AV×LS}{K:AV→LS→Prop}(hs:LSpecN P G f args' ps k post)(F:List Nm)(hF:LFs l F args args')(h:LEra l F fun l'=>LTake l' ps fun r=>LFreshN k fun qs=>K (post qs).1 ((post qs).2++r)):LC P G f args l K:=⟨fun φ hsp=>by
 have hfz:=(hF.frz hsp).all
 obtain⟨l',e1,hsp',h⟩:=LEra.sound h hsp
 obtain⟨r,h1,h2,h3,h4,h5,h6⟩:=LTake.sound h hsp'
 refine⟨.inr (.inr ⟨F,args',ps,k,Unit,fun _=>post,hfz.1,hfz.2,hs.toF,e1▸h3,h4,fun _ qs hl hi hq hn=>?_⟩)⟩
 rw[e1] at hq ⊢
 have hq:∀q∈qs,eraN (pQ φ l') (ps.map (·.1)) q=none:=hq
 show LK φ K (post qs).1 (pQ (eraN (pQ φ l') (ps.map (·.1))) (post qs).2)
 rw[h5] at hq ⊢
 have hmem:∀x∈(post qs).2,φ x.1=none∧x.1∉r.map (·.1):=fun x hx=>by
   rcases(hs.nm qs hl).1 x hx with he|hp
   · have hqn:=zH (hq _ he)
     exact⟨hqn.2,hqn.1⟩
   · obtain⟨y,hy,he⟩:=List.mem_map.1 hp
     rw[←he];exact h6 y hy
 exact⟨(post qs).2++r,by rw[z5],h2.app hmem hn,h1.go qs hl⟩⟩
theorem LC.mkF{ι:Type}{f:FuncId}{args args':List AV}{ps:LS}{k:Nat}{post:ι→List Nm→AV×LS}{K:AV→LS→Prop}(hs:LSpecF ι P G f args' ps k post)(F:List Nm)(hF:LFs l F args args')(h:LEra l F fun l'=>LTake l' ps fun r=>∀i,LFreshN k fun qs=>K (post i qs).1 ((post i qs).2++r)):LC P G f args l K:=⟨fun φ hsp=>by
 have hfz:=(hF.frz hsp).all
 obtain⟨l',e1,hsp',h⟩:=LEra.sound h hsp
 obtain⟨r,h1,h2,h3,h4,h5,h6⟩:=LTake.sound h hsp'
 refine⟨.inr (.inr ⟨F,args',ps,k,ι,post,hfz.1,hfz.2,hs,e1▸h3,h4,fun i qs hl hi hq hn=>?_⟩)⟩
 rw[e1] at hq ⊢
 have hq:∀q∈qs,eraN (pQ φ l') (ps.map (·.1)) q=none:=hq
 show LK φ K (post i qs).1 (pQ (eraN (pQ φ l') (ps.map (·.1))) (post i qs).2)
 rw[h5] at hq ⊢
 have hmem:∀x∈(post i qs).2,φ x.1=none∧x.1∉r.map (·.1):=fun x hx=>by
   rcases(hs.nm i qs hl).1 x hx with he|hp
   · have hqn:=zH (hq _ he)
     exact⟨hqn.2,hqn.1⟩
   · obtain⟨y,hy,he⟩:=List.mem_map.1 hp
     rw[←he];exact h6 y hy
 exact⟨(post i qs).2++r,by rw[z5],h2.app hmem hn,(h1 i).go qs hl⟩⟩
theorem LP.empty{f:FuncId}{post:Nm→AV×LS}(h1:LP P G f [.nils] [] post)(h2:∀(a:Addr) (cap:Nat),cap≤maxLen→LP P G f [.lit (.slice (some a) 0 cap)] [] post):LP P G f [.sl 0 []] [] post:=by
 unfold LP at h1 h2 ⊢
 refine⟨h1.1,h1.2.1,fun τ w vs hm hg hps hnd hr=>?_⟩
 obtain⟨hl,hc⟩:=hr
 obtain⟨vs⟩:=vs
 match vs,hl with
 | [v],_ =>
   have hv:Rd τ w (.sl 0 []) v:=by simpa using hc 0 (by simp)
   cases hv with
   | slnil =>
     refine h1.2.2 τ w _ hm hg hps hnd ⟨rfl,fun i hi=>?_⟩
     obtain rfl:i=0:=by simpa using hi
     exact .nils
   | sle a cap hm' =>
     refine(h2 a cap hm').2.2 τ w _ hm hg hps hnd ⟨rfl,fun i hi=>?_⟩
     obtain rfl:i=0:=by simpa using hi
     exact .lit _
   | sl n cs b off cap f hb hn hm' hf hcc =>
     refine(h2 { block:=b,off:=off } cap hm').2.2 τ w _ hm hg hps hnd ⟨rfl,fun i hi=>?_⟩
     obtain rfl:i=0:=by simpa using hi
     exact .lit _
theorem LFs.refl:∀xs:List AV,LFs l [] xs xs
 | []=>trivial
 | _::xs=>⟨.eq rfl,LFs.refl xs⟩
theorem LC.pure{f:FuncId}{args:List AV}{r:AV}{K:AV→LS→Prop}(hs:LP P G f args [] fun _=>(r,[]))(hk:K r l):LC P G f args l K:=.mk' hs [] (.refl _) ⟨fun _=>hk⟩
theorem LC.own{f:FuncId}{args:List AV}{r:Nm→AV}{c:Nm→Pl}{K:AV→LS→Prop}(hs:LP P G f args [] fun q=>(r q,[(q,c q)]))(hk:LQ fun q=>K (r q) ((q,c q)::l)):LC P G f args l K:=.mk' hs [] (.refl _) hk
theorem LC.upd{f:FuncId}{args:List AV}{r:AV}{p:Nm}{c d:Pl}{K:AV→LS→Prop}(hs:LP P G f args [(p,c)] fun _=>(r,[(p,d)]))(hk:LH l p fun c' s _=>c'=c∧K r (s d)):LC P G f args l K:=⟨fun φ hsp=>by
 obtain⟨l1,c',l2,rfl,rfl,h⟩:=hk.ex
 refine⟨.inl ⟨[],args,[(p,c')],_,rfl,fun _ _=>.refl _,hs,fun x hx=>?_,by simp,fun q hq hn=>?_⟩⟩
 · simp only[List.mem_singleton] at hx
   subst hx
   exact hsp.get
 · refine⟨l1++(p,d)::l2,?_,hsp.set,h⟩
   show upd (era (pQ φ (l1++(p,c')::l2)) p) p d=_
   rw[vS,hsp.set']⟩
theorem LC.take{f:FuncId}{args:List AV}{r:Nm→AV}{p:Nm}{c:Pl}{d:Nm→Pl}{K:AV→LS→Prop}(hs:LP P G f args [(p,c)] fun q=>(r q,[(q,d q)]))(hk:LH l p fun c' _ rest=>c'=c∧LQ fun q=>K (r q) ((q,d q)::rest)):LC P G f args l K:=.mk' hs [] (.refl _) hk
theorem LC.eq{f:FuncId}{args args':List AV}{K:AV→LS→Prop}(h:args=args')(k:LC P G f args' l K):LC P G f args l K:=h▸k
theorem LC.lend{f:FuncId}{args args':List AV}{r:AV}{K:AV→LS→Prop}(hs:LP P G f args' [] fun _=>(r,[]))(F:List Nm)(hF:LFs l F args args')(hr:Flat r)(hk:K r l):LC P G f args l K:=⟨fun _ hsp =>
 ⟨.inr (.inl ⟨F,args',r,(hF.frz hsp).all.1,(hF.frz hsp).all.2,hs,hr,l,rfl,hsp,hk⟩)⟩⟩
theorem Flat.int(k:IntKind)(n:Int):Flat (.int k n):=fun _ _ _ _ _ h=>by cases h;exact .int k n
theorem Flat.bool(b:Bool):Flat (.bool b):=fun _ _ _ _ _ h=>by cases h;exact .bool b
theorem Flat.agg{cs:List AV}(h:∀x∈cs,Flat x):Flat (.agg cs):=fun _ _ _ _ _ hr=>by
 cases hr with
 | agg cs vs hl hc=>exact .agg _ _ hl fun i hi=>h _ (by rw[List.getD_eq_getElem?_getD,List.getElem?_eq_getElem hi];exact List.getElem_mem hi) _ _ _ _ _ (hc i hi)
theorem Flat.tup{cs:List AV}(h:∀x∈cs,Flat x):Flat (.tup cs):=fun _ _ _ _ _ hr=>by
 cases hr with
 | tup cs vs hl hc=>exact .tup _ _ hl fun i hi=>h _ (by rw[List.getD_eq_getElem?_getD,List.getElem?_eq_getElem hi];exact List.getElem_mem hi) _ _ _ _ _ (hc i hi)
theorem Flat.nil{P:AV→Prop}:∀x∈([]:List AV),P x:=fun _ h=>by cases h
theorem Flat.cons{P:AV→Prop}{y:AV}{cs:List AV}(h:P y)(k:∀x∈cs,P x):∀x∈y::cs,P x:=fun x hx=>by
 rcases List.mem_cons.1 hx with rfl|hx
 · exact h
 · exact k x hx
end
end Go.Proofs.YtndpmpnmkpaklaaGreatDoor
