/-
  Contracts of the functions that the laws reach.
-/
import Derived.Test.YtndpmpnmkpaklaaGreatDoorHr12
import Derived.Test.YtndpmpnmkpaklaaGreatDoorHr13
set_option maxHeartbeats 4000000
set_option linter.all false
namespace Go.Proofs.YtndpmpnmkpaklaaGreatDoor
open Go.RowKit
section
variable {P:Program}{T:Tys}{G:Nat→AV}{N:Nat}{e:Env}{l:LS}
structure Halt(G:Nat→AV)(N:Nat)(K:Env→LS→Prop)(e:Env)(l:LS):Prop where
 run:WksL G N e l K
theorem Halt.go{K:Env→LS→Prop}(h:K e l):Halt G N K e l:=⟨⟨fun φ hs=>⟨fun σ0 w0 a w hr=>⟨e,_,⟨l,rfl,hs,h⟩,hr⟩⟩⟩⟩
theorem CutL.halt(hT:TOk P T)(C:List Nat)(id:Nat){x y:Code}{Q:Exit→Env→LS→Prop}(_hid:zM x=some id)
   (h:AWpL P T G N C x (ka (Halt G N (AWpL P T G N C y Q)) Q) e l):CutL P G N x y Q e l:=⟨by
 refine SWpL.seq ((AWpL.sound hT C _ _ _ _ h).mono ?_)
 intro z e' l' hq
 cases z<;>first
   | (obtain⟨hq⟩:=hq
      refine SWpL.weak ⟨fun φ hs=>⟨fun σ0 w0 a w hr=>?_⟩⟩
      obtain⟨e1,σ1,⟨l1,h1,h2,h3⟩,h4⟩:=(WksL.go hq φ hs).go σ0 w0 a w hr
      exact⟨e1,σ1,⟨l1,h1,h2,AWpL.sound hT C _ _ _ _ h3⟩,h4⟩)
   | exact hq⟩
theorem Halt.frz{K:Env→LS→Prop}{q p:Nm}(t:TypeId){c0:Pl}{rest:LS}{cs':List AV}(h:LH rest p fun c s _=>c.ty=t∧LFs ((q,c0)::rest) [q] c.cs cs'∧K e (s ⟨c.ty,cs'⟩)):Halt G N K e ((q,c0)::rest):=by
 obtain⟨l1,c,l2,rfl,-,h1,h2⟩:=h.ex
 refine⟨⟨fun φ hs=>⟨fun σ0 w0 a w hr=>?_⟩⟩⟩
 have hs1:Sep φ (l1++(p,c)::l2):=⟨(List.nodup_cons.1 hs.nd).2,fun x hx=>hs.fr x (List.mem_cons_of_mem _ hx)⟩
 have hfz:=(h1.frz hs).all
 have he:eraN (pQ φ ((q,c0)::(l1++(p,c)::l2))) [q]=pQ φ (l1++(p,c)::l2):=Sep.era' (l1:=[]) hs
 have hsub:Sub (pQ φ (l1++(p,c)::l2)) (pQ φ ((q,c0)::(l1++(p,c)::l2))):=fun b d hb=>xx _ [q] b d (by rw[he];exact hb)
 have hr1:=hr.sub hsub
 have hset:pQ φ (l1++(p,⟨c.ty,cs'⟩)::l2)=upd (pQ φ (l1++(p,c)::l2)) p ⟨c.ty,cs'⟩:=(Sep.set' hs1 _).symm
 have hst:Stp (pQ φ (l1++(p,c)::l2)) w (pQ φ (l1++(p,⟨c.ty,cs'⟩)::l2)) w:=Stp.forget _ _ w fun b hb=>by
   rw[hset,qe]
   · exact hb
   · intro hbp
     subst hbp
     rw[hs1.get] at hb
     cases hb
 have hcs:∀{v:Value} (i:Nat),i<c.cs.length→Rd (pQ φ ((q,c0)::(l1++(p,c)::l2))) w (c.cs.getD i .any) v→Rd (pQ φ (l1++(p,⟨c.ty,cs'⟩)::l2)) w (cs'.getD i .any) v:=fun i hi hv=>by
   have h3:=(hfz.2 i hi).sound hr.mem hv
   rw[he] at h3
   exact h3.mono hst
 have hp0:pQ φ ((q,c0)::(l1++(p,c)::l2)) p=some c:=hsub _ _ hs1.get
 refine⟨e,_,⟨_,rfl,hs1.set,h2⟩,hr1.n,hr1.d.mono hst,fun x=>(hr1.env x).mono hst,⟨fun b d hb=>?_,fun k d hk=>?_,?_⟩,hr1.st.trans hst,hr1.glob.mono hst⟩
 · rw[hset] at hb
   by_cases hbp:Nm.b b=p
   · subst hbp
     rw[qx] at hb;cases hb
     obtain⟨cur,k1,k2,k3⟩:=hr.mem.pl b c hp0
     have hl:cs'.length=c.cs.length:=hfz.1.symm
     exact⟨cur,k1,by show cs'.length≤_;omega,fun i hi=>hcs i (by have hi:i<cs'.length:=hi;omega) (k3 i (by have hi:i<cs'.length:=hi;omega))⟩
   · rw[qe _ _ hbp] at hb
     obtain⟨cur,k1,k2,k3⟩:=hr1.mem.pl b d hb
     exact⟨cur,k1,k2,fun i hi=>(k3 i hi).mono hst⟩
 · rw[hset] at hk
   by_cases hkp:Nm.v k=p
   · subst hkp
     rw[qx] at hk;cases hk
     have hl:cs'.length=c.cs.length:=hfz.1.symm
     rw[hr.mem.vl k c hp0] at hl
     exact List.eq_nil_of_length_eq_zero hl
   · rw[qe _ _ hkp] at hk
     exact hr1.mem.vl k d hk
 · rw[hset];exact j3 hr1.mem.fin _ _
theorem LFs.cons{F:List Nm}{x y:AV}{xs ys:List AV}(h:LF l F x y)(k:LFs l F xs ys):LFs l F (x::xs) (y::ys):=⟨h,k⟩
theorem LFs.nil{F:List Nm}:LFs l F [] []:=trivial
end
open Go.RowKit
variable {G:Nat→AV}
theorem fm1{c:UInt8}(h:c.toNat<128):fmR c=1:=by
 unfold fmR
 repeat' split
 all_goals omega
theorem fm2{c:UInt8}(h:¬c.toNat<128∧c.toNat<192):fmR c=2:=by
 unfold fmR
 repeat' split
 all_goals omega
theorem fm3{c:UInt8}(h:c.toNat=192∨c.toNat=193):fmR c=3:=by
 unfold fmR
 repeat' split
 all_goals omega
open Go.RowKit
variable {G:Nat→AV}
theorem fmR_rng(c:UInt8):0≤fmR c∧fmR c≤6:=by unfold fmR;(repeat' split)<;>omega
theorem peek_rng{b:List UInt8}{c f:Int}(h:qp b=(c,f,0)):(0≤c∧c<16)∧1≤f∧f≤6:=by
 unfold qp at h
 split at h
 · injection h with h1 h;injection h with h2 h3;cases h3
 · rename_i a r
   split at h
   · rename_i ha
     split at h
     · injection h with h1 h;injection h with h2 h3;cases h3
     · rename_i d l
       split at h
       · injection h with h1 h;injection h with h2 h3;cases h3
       · injection h with h1 h;injection h with h2 h3
         have:=fmR_rng d
         omega
   · split at h
     · injection h with h1 h;injection h with h2 h3;cases h3
     · injection h with h1 h;injection h with h2 h3
       have:=fmR_rng a
       omega
theorem fdecE_c(b:List UInt8)(k:Int)(ck:Bool)(c f e:Int)(hp:qp b=(c,f,e))(he:e≠0):LP Tryz.prog G 126 [bv b,iAV k,.bool ck] [] (fun _=>(de (.inr e),[])):=by
 refine goW [] Tryz.func126 rfl ?_
 conv=>whnf
 repeat'((first|(show LC _ _ _ _ _ _;first|refine LC.pure (fpk hp) ?_|refine goE ?_)|refine T.s ?_|((first|apply goB|apply AB.dec|apply AB.gen)<;>intro h<;>try(exfalso;omega))|refine LQ.mk fun r=>?_|exact T.z|fail)<;>conv=>whnf)
 all_goals(try dsimp only)
 (show RL _ _ _;refine goR ?_)
 rfl
theorem fdecK_c(b:List UInt8)(hb:b.length≤140737488355328)(k:Int)(ck:Bool)(c f:Int)(hp:qp b=(c,f,0))(hf:f≤4)(h1:k≠1)(h2:k≠2):LP Tryz.prog G 126 [bv b,iAV k,.bool ck] [] (fun _=>(de (.inr 7),[])):=by
 refine goW [] Tryz.func126 rfl ?_
 conv=>whnf
 repeat'((first|(show LC _ _ _ _ _ _;first|refine LC.pure (fpk hp) ?_|(apply LC.upd (jT _ b hb);(repeat first|refine goH ?_|apply LH.here|apply LH.next);refine⟨rfl,?_⟩)|refine goE ?_)|refine T.s ?_|((first|apply goB|apply AB.dec|apply AB.gen)<;>intro h<;>try(exfalso;omega))|refine LQ.mk fun r=>?_|exact T.z|fail)<;>conv=>whnf)
 all_goals(try dsimp only)
 all_goals(show RL _ _ _;refine goR ?_)
 all_goals rfl
theorem z7{n:Nat}{X:Rdr}(h:rE (rtk n X)=false):rE X=false∧(rL X).length=n+(rL (rtk n X)).length:=by
 obtain⟨_|l,hl⟩:=X
 · exfalso
   unfold rE rtk at h
   cases h
 · unfold rE rtk at h
   unfold rE rL rtk
   refine⟨rfl,?_⟩
   show l.length=n+((tkR n (some l)).getD []).length
   by_cases hn:l.length<n
   · have e:tkR n (some l)=none:=if_pos hn
     have h:(tkR n (some l)).isNone=false:=h
     rw[e] at h
     cases h
   · have e:tkR n (some l)=some (l.drop n):=if_neg hn
     rw[e]
     simp
     omega
theorem kI(ck:Bool)(X:Rdr)(s:Sm)(b:List UInt8)(N:Nat)(hf:s.f=1∨s.f=2∨s.f=3)(hN:rE X=false→b.length=N+(rL X).length)(hd:(vG s).length+(ql s).length=N):je ck X s b=qX ck X s b:=by
 cases ck with
 | false=>rfl
 | true =>
   show xw (rtk 2 X) (wud s (rv 2 X)) b=_
   cases hE:rE (rtk 2 X) with
   | true=>rw[small_e hE,jW hE]
   | false =>
     by_cases h0:rv 2 X=0
     · rw[small_0 hE h0,h0]
       refine xJ hE fun e=>?_
       have h1:=z7 hE
       have h2:=hN h1.1
       have e2:=congrArg List.length e
       have h3:∀s':Sm,vG s'=vG s→ql s'=ql s→jM s'=0→s'.pl=rL (rtk 2 X)→(zo s').1.length=b.length→False:=by
         intro s' k1 k2 k3 k4 k5
         unfold zo at k5
         split at k5
         · unfold hdL at k5
           rw[if_pos k3,k1,k2,k4] at k5
           simp only[List.length_append,List.length_nil] at k5
           omega
         · simp only[List.length_nil] at k5
           omega
       refine h3 _ ?_ ?_ ?_ rfl e2
       · unfold vG;rfl
       · unfold ql;rfl
       · rw[yT];exact if_neg (show ¬(s.f=4∨s.f=5) by omega)
     · rw[small_t hE h0]
theorem pre_ln(s:Sm):(vG s).length=if 0<s.cx then 1 else 0:=by unfold vG;split<;>rfl
theorem body1(s:Sm)(h:s.f=1):(ql s).length=1:=by unfold ql;rw[if_pos h];rfl
theorem body2T(s:Sm)(h:s.f=2)(hk:s.h.k=2):(ql s).length=4:=by unfold ql;rw[if_neg (by omega),if_pos h,if_pos hk];simp
theorem body2U(s:Sm)(h:s.f=2)(hk:s.h.k≠2):(ql s).length=2:=by unfold ql;rw[if_neg (by omega),if_pos h,if_neg hk];simp
theorem body3T(s:Sm)(h:s.f=3)(hk:s.h.k=2):(ql s).length=9:=by unfold ql;rw[if_neg (by omega),if_neg (by omega),if_pos h,if_pos hk,if_pos hk];simp
theorem body3U(s:Sm)(h:s.f=3)(hk:s.h.k≠2):(ql s).length=4:=by unfold ql;rw[if_neg (by omega),if_neg (by omega),if_pos h,if_neg hk,if_neg hk];simp
theorem kG{b:List UInt8}{hb:b.length≤140737488355328}{c:Int}{X:Rdr}(hc:(0<c∧X=rtk 1 (rdr b hb))∨(¬0<c∧X=rdr b hb))(h:rE X=false):b.length=(if 0<c then 1 else 0)+(rL X).length:=by
 have e:(rL (rdr b hb)).length=b.length:=by unfold rL rdr;rfl
 rcases hc with ⟨h1,rfl⟩|⟨h1,rfl⟩
 · rw[if_pos h1,←e];exact(z7 h).2
 · rw[if_neg h1,Nat.zero_add,e]
theorem decR_e{b:List UInt8}{hb:b.length≤140737488355328}{k:Int}{ck:Bool}{c f e:Int}(hp:qp b=(c,f,e))(he:e≠0):qU b hb k ck=.inr e:=by
 unfold qU;rw[hp];exact if_pos he
theorem decR_k{b:List UInt8}{hb:b.length≤140737488355328}{k:Int}{ck:Bool}{c f:Int}(hp:qp b=(c,f,0))(hf:f≤4)(h1:k≠1)(h2:k≠2):qU b hb k ck=.inr 7:=by
 unfold qU;rw[hp];rw[if_neg (fun h=>h rfl),if_pos ⟨hf,h1,h2⟩]
theorem vp{b:List UInt8}{hb:b.length≤140737488355328}{k:Int}{ck:Bool}{c f:Int}(hp:qp b=(c,f,0))(h:¬(f≤4∧k≠1∧k≠2)):qU b hb k ck=decB f c (if 0<c then rtk 1 (rdr b hb) else rdr b hb) b k ck:=by
 unfold qU;rw[hp];rw[if_neg (fun h=>h rfl),if_neg h]
theorem full_e{c:Int}{Y:Rdr}{b:List UInt8}(h:rE (rtk 1 Y)=true):w5 c Y b=.inr 5:=if_pos h
theorem full_t{c:Int}{Y:Rdr}{b:List UInt8}(h:rE (rtk 1 Y)=false)(hk:rv 1 Y=2):w5 c Y b=ku (qK (rtk 4 (stX Y))) (wa (rtk 4 (stX Y)) (stT Y (s0 c 5))) (xO (rtk 4 (stX Y))) b:=by
 unfold w5;rw[if_neg (by rw[h];decide),if_pos hk]
theorem full_u{c:Int}{Y:Rdr}{b:List UInt8}(h:rE (rtk 1 Y)=false)(hk:rv 1 Y=1):w5 c Y b=ku (qI (stX Y)) (w9 (stX Y) (stH Y (s0 c 5))) (xO (stX Y)) b:=by
 unfold w5;rw[if_neg (by rw[h];decide),if_neg (by omega),if_pos hk]
theorem full_f{c:Int}{Y:Rdr}{b:List UInt8}(h:rE (rtk 1 Y)=false)(h1:rv 1 Y≠1)(h2:rv 1 Y≠2):w5 c Y b=.inr 4:=by
 unfold w5;rw[if_neg (by rw[h];decide),if_neg h2,if_neg h1]
theorem fdecode_c(b:List UInt8)(hb:b.length≤140737488355328)(k:Int)(ck:Bool):LP Tryz.prog G 126 [bv b,iAV k,.bool ck] [] (fun _=>(de (qU b hb k ck),[])):=by
 obtain⟨c,f,e,hp⟩:∃c f e,qp b=(c,f,e):=⟨_,_,_,rfl⟩
 by_cases he:¬e=0
 · rw[decR_e hp he];exact fdecE_c b k ck c f e hp he
 have he:e=0:=Decidable.of_not_not he
 subst he
 obtain⟨hc,hf⟩:=peek_rng hp
 by_cases hk:f≤4∧k≠1∧k≠2
 · rw[decR_k hp hk.1 hk.2.1 hk.2.2];exact fdecK_c b hb k ck c f hp hk.1 hk.2.1 hk.2.2
 rw[vp hp hk]
 have hX:(0<c∧(if 0<c then rtk 1 (rdr b hb) else rdr b hb)=rtk 1 (rdr b hb))∨(¬0<c∧(if 0<c then rtk 1 (rdr b hb) else rdr b hb)=rdr b hb):=by
   by_cases h:0<c
   · exact .inl ⟨h,if_pos h⟩
   · exact .inr ⟨h,if_neg h⟩
 generalize (if 0<c then rtk 1 (rdr b hb) else rdr b hb)=X at hX ⊢
 have h6:f=1∨f=2∨f=3∨f=4∨f=5∨f=6:=by omega
 have hkk:f≤4→k=1∨k=2:=by omega
 unfold decB
 rcases h6 with rfl|rfl|rfl|rfl|rfl|rfl
 · have e:je ck (jy X) (lw1 X k (s0 c 1)) b=qX ck (jy X) (lw1 X k (s0 c 1)) b:=by
     refine kI _ _ _ _ _ (.inl rfl) (fun h=>?_) rfl
     have h1:=z7 h
     have:=kG hX h1.1
     rw[pre_ln,body1 _ rfl]
     show b.length=(if 0<c then 1 else 0)+1+(rL (rtk 1 X)).length
     omega
   exact e▸fdec1_c b hb k ck c X hp (hkk (by decide)) hX
 · rcases hkk (by decide) with rfl|rfl
   · have e:je ck (zX X) (vK X 1 (s0 c 2)) b=qX ck (zX X) (vK X 1 (s0 c 2)) b:=by
       refine kI _ _ _ _ _ (.inr (.inl rfl)) (fun h=>?_) rfl
       have h1:=z7 h
       have h2:=z7 h1.1
       have:=kG hX h2.1
       rw[pre_ln,body2U _ rfl (show(1:Int)≠2 by decide)]
       show b.length=(if 0<c then 1 else 0)+2+(rL (rtk 1 (rtk 1 X))).length
       omega
     exact e▸fdec2U_c b hb ck c X hp hX
   · have e:je ck (zY X) (vL X 2 (s0 c 2)) b=qX ck (zY X) (vL X 2 (s0 c 2)) b:=by
       refine kI _ _ _ _ _ (.inr (.inl rfl)) (fun h=>?_) rfl
       have h1:=z7 h
       have h2:=z7 h1.1
       have h3:=z7 h2.1
       have:=kG hX h3.1
       rw[pre_ln,body2T _ rfl rfl]
       show b.length=(if 0<c then 1 else 0)+4+(rL (rtk 1 (rtk 2 (rtk 1 X)))).length
       omega
     exact e▸fdec2T_c b hb ck c X hp hX
 · rcases hkk (by decide) with rfl|rfl
   · have e:je ck (zV X) (vI X 1 (s0 c 3)) b=qX ck (zV X) (vI X 1 (s0 c 3)) b:=by
       refine kI _ _ _ _ _ (.inr (.inr rfl)) (fun h=>?_) rfl
       have h1:=z7 h
       have h2:=z7 h1.1
       have h3:=z7 h2.1
       have:=kG hX h3.1
       rw[pre_ln,body3U _ rfl (show(1:Int)≠2 by decide)]
       show b.length=(if 0<c then 1 else 0)+4+(rL (rtk 1 (rtk 2 (rtk 1 X)))).length
       omega
     exact e▸fdec3U_c b hb ck c X hp hX
   · have e:je ck (zW X) (vJ X 2 (s0 c 3)) b=qX ck (zW X) (vJ X 2 (s0 c 3)) b:=by
       refine kI _ _ _ _ _ (.inr (.inr rfl)) (fun h=>?_) rfl
       have h1:=z7 h
       have h2:=z7 h1.1
       have h3:=z7 h2.1
       have h4:=z7 h3.1
       have h5:=z7 h4.1
       have:=kG hX h5.1
       rw[pre_ln,body3T _ rfl rfl]
       show b.length=(if 0<c then 1 else 0)+9+(rL (rtk 1 (rtk 2 (rtk 4 (rtk 1 (rtk 1 X)))))).length
       omega
     exact e▸fdec3T_c b hb ck c X hp hX
 · rcases hkk (by decide) with rfl|rfl
   · exact fdec4U_c b hb ck c X hp hX
   · exact fdec4T_c b hb ck c X hp hX
 · show LP _ G _ _ _ fun _=>(de (w5 c (rtk 1 X) b),[])
   cases hE:rE (rtk 1 (rtk 1 X)) with
   | true=>rw[full_e hE];exact fdec5E_c b hb k ck c X hp hE hX
   | false =>
     by_cases h2:rv 1 (rtk 1 X)=2
     · rw[full_t hE h2];exact fdec5T_c b hb k ck c X hp hE h2 hX
     · by_cases h1:rv 1 (rtk 1 X)=1
       · rw[full_u hE h1];exact fdec5U_c b hb k ck c X hp hE h1 hX
       · rw[full_f hE h1 h2];exact fdec5F_c b hb k ck c X hp hE h1 h2 hX
 · exact fdec6_c b hb k ck c X hp hX
open Go.RowKit
variable {G:Nat→AV}
def dsm:Sm⊕Int→Sm
 | .inl s=>s
 | .inr _=>s0 0 0
theorem LP.weak{P:Program}{f:FuncId}{args:List AV}{x y:AV}(h:LP P G f args [] (fun _=>(x,[])))(hw:∀σ w v,Rd σ w x v→Rd σ w y v):LP P G f args [] (fun _=>(y,[])):=by
 unfold LP at h ⊢
 exact⟨h.1,fun q=>⟨by simp,by simp⟩,fun τ w vs h1 h2 h3 h4 h5=>(h.2.2 τ w vs h1 h2 h3 h4 h5).mono fun e w' ⟨v,q,k1,k2,k3,k4,k5,k6⟩=>⟨v,q,k1,k2,k3,hw _ _ _ k4,k5,k6⟩⟩
theorem weak_agg{σ:q8}{w:World}(l:List AV)(v:Value)(h:Rd σ w (.agg (l++[.nils])) v):Rd σ w (.agg (l++[.sl 0 []])) v:=by
 obtain⟨cs,vs,h1,h2⟩:∃cs:List AV,∃vs:Array Value,v=.agg vs∧(l++[AV.nils]).length=vs.size∧∀i,i<(l++[AV.nils]).length→Rd σ w ((l++[AV.nils]).getD i .any) (vs.getD i undef):=by
   cases h with
   | agg cs vs h hc=>exact⟨[],vs,rfl,h,hc⟩
 obtain⟨rfl,h2,h3⟩:=(⟨h1,h2⟩:_∧_∧_)
 refine .agg _ _ (by simpa using h2) fun i hi=>?_
 have h4:=h3 i (by simpa using hi)
 by_cases hl:i<l.length
 · simpa [List.getD_eq_getElem?_getD,List.getElem?_append_left hl] using h4
 · have hi':i=l.length:=by simp at hi;omega
   subst hi'
   simp only[List.getD_eq_getElem?_getD,List.getElem?_append_right (Nat.le_refl _),Nat.sub_self,List.getElem?_cons_zero,Option.getD_some] at h4 ⊢
   generalize vs.getD l.length undef=u at h4 ⊢
   cases h4
   exact .slnil
theorem LP.warg{P:Program}{f:FuncId}{args args':List AV}{x:AV}(h:LP P G f args [] (fun _=>(x,[])))(hw:∀σ w vs,RdL σ w args' vs→RdL σ w args vs):LP P G f args' [] (fun _=>(x,[])):=by
 unfold LP at h ⊢
 exact⟨h.1,fun q=>⟨by simp,by simp⟩,fun τ w vs h1 h2 h3 h4 h5=>h.2.2 τ w vs h1 h2 h3 h4 (hw _ _ _ h5)⟩
theorem weak_dsv{σ:q8}{w:World}(D:Sm⊕Int)(v:Value)(h:Rd σ w (de D) v):Rd σ w (.tup [(dsm D).av,iAV (dse D)]) v:=by
 cases D with
 | inl s=>exact h
 | inr e =>
   unfold de at h
   generalize hx:[dsv (.inr e),iAV (dse (.inr e))]=l at h
   cases h with
   | tup cs vs h hc =>
     subst hx
     refine .tup _ _ h fun i hi=>?_
     have h4:=hc i hi
     match i,hi with
     | 0,_=>exact weak_agg [iAV 0,iAV 0,iAV 0,iAV 0,iAV 0,iAV 0,iAV 0,iAV 0,iAV 0,iAV 0,iAV 0,iAV 0,iAV 0,iAV 0,iAV 0,iAV 0,iAV 0,iAV 0,iAV 0,iAV 0,iAV 0,iAV 0,iAV 0,iAV 0,iAV 0] _ h4
     | 1,_=>exact h4
theorem vk(b:List UInt8)(hb:b.length≤140737488355328)(k:Int)(ck:Bool):LP Tryz.prog G 126 [bv b,iAV k,.bool ck] [] (fun _=>(.tup [(dsm (qU b hb k ck)).av,iAV (dse (qU b hb k ck))],[])):=(fdecode_c b hb k ck).weak fun _ _=>weak_dsv _
attribute [irreducible] dsm
theorem sameT_c(a:List UInt8):LP Tryz.prog G 15 [bv a,bv a] [] (fun _=>(.bool true,[])):=by
 have h:=same_c (G:=G) a a
 rwa [decide_eq_true (rfl:a=a)] at h
open Go.RowKit
structure Rc where
 st:Int
 la:Hd
 dy:Dy
 er:Int
 deriving DecidableEq
@[reducible] def Hd.cs(h:Hd):List AV:=[iAV h.k,iAV h.tos,iAV h.id,iAV h.fx,iAV h.ttl,iAV h.fr,iAV h.to,iAV h.fp,iAV h.tp,iAV h.ck,iAV h.mr,iAV h.ty,iAV h.sq,iAV h.tm,iAV h.sr]
@[reducible] def Rc.cs(r:Rc):List AV:=[iAV r.st,iAV r.la.k,iAV r.la.tos,iAV r.la.id,iAV r.la.fx,iAV r.la.ttl,iAV r.la.fr,iAV r.la.to,iAV r.la.fp,iAV r.la.tp,iAV r.la.ck,iAV r.la.mr,iAV r.la.ty,iAV r.la.sq,iAV r.la.tm,iAV r.la.sr,iAV r.dy.st,iAV r.dy.fo,iAV r.er]
theorem Rc.cs_len(r:Rc):r.cs.length=19:=rfl
@[reducible] def Rc.av(r:Rc):AV:=.agg r.cs
def Rc.z:Rc:=⟨0,Hd.z,Dy.z,0⟩
def rcv(l:List Rc):AV:=.sl l.length (l.flatMap Rc.cs)
structure De where
 m:Int
 cx:List Rc
@[reducible] def De.av(d:De):AV:=.agg [iAV d.m,rcv d.cx]
def De.z:De:=⟨0,[]⟩
def Rc.ok(r:Rc):Bool:=decide (0≤r.er∧r.er<3)&&(if r.st=0 then decide (r.la=Hd.z∧r.dy=Dy.z) else if r.st=1∨r.st=2 then r.la.ok&&(r.dy.ok&&decide (r.la.k=2∨r.dy=Dy.z)) else false)
def jF(m:Int):Bool:=decide (1≤m∧m≤3)
def De.ok(d:De):Bool:=jF d.m&&(decide (d.cx.length=16)&&d.cx.all Rc.ok)
def newR(m:Int):De×Int:=if jF m=true then(⟨m,List.replicate 16 Rc.z⟩,0) else(De.z,3)
structure Fb where
 c:Int
 k:Int
 n:Int
@[reducible] def Fb.cs(x:Fb):List AV:=[iAV x.c,iAV x.k,iAV x.n]
def fbv(l:List Fb):AV:=.sl l.length (l.flatMap Fb.cs)
def we(m c:Int)(r:Rc):List Fb:=if m=1 then[] else if r.st=0 then[⟨c,2,r.la.num⟩] else[⟨c,1,r.la.num⟩]
def xE(f:Int):Int:=if f=5 then 0 else if f=4 then 1 else 2
def zw(r:Rc)(s:Sm):Int:=if s.f=3∧r.la.k=1 then s.n else(kg 16 r.la.num (wid s.f r.la.k 0) s.n).1
def zD(r:Rc)(s:Sm)(n:Int):Hd :=
 if s.f=5 then s.h else if s.f=4 then { s.h with fr:=r.la.fr,to:=r.la.to,fp:=r.la.fp,tp:=r.la.tp,sr:=r.la.sr }
 else if r.la.k=2 then(if s.f=2 then { xk r.dy r.la n with ck:=s.ud,mr:=s.mr,tm:=(kg 32 r.la.tm 16 s.tm).1 } else if s.f=3 then { xk r.dy r.la n with ck:=s.ud,mr:=s.mr,tm:=s.tm,id:=s.id } else { xk r.dy r.la n with ck:=s.ud })
 else { xk r.dy r.la n with ck:=s.ud }
def j6(f:Int)(h:Hd):Int:=jp (cbR f) (headO h)
def kk(s:Sm)(h:Hd):Bool:=decide (j6 s.f h=s.ck)
def xM(m:Int)(r:Rc)(s:Sm):Hd×Bool :=
 if s.f=4∨s.f=5 then(zD r s 0,kk s (zD r s 0))
 else if kk s (zD r s (zw r s))=true then(zD r s (zw r s),true)
 else if s.f≠1∨m=3 then(Hd.z,false)
 else(zD r s (lw 16 (zw r s+16)),kk s (zD r s (lw 16 (zw r s+16))))
def ky(r:Rc)(s:Sm)(h:Hd):Rc:=⟨2,h,if s.f=4∨s.f=5 then s.d else r.dy,0⟩
def vv(m c:Int)(s:Sm)(h:Hd):List Fb:=if m=3∨m=2∧(s.f=4∨s.f=5) then[⟨c,0,h.num⟩] else[]
def wW(r:Rc):Rc:=if r.er+1<3 then { r with er:=r.er+1 } else if r.st-1≤0 then Rc.z else { r with er:=0,st:=r.st-1 }
structure Dr where
 d:De
 p:List UInt8
 b:List Fb
 e:Int
def dre(x:Dr):AV:=.tup [x.d.av,bv x.p,fbv x.b,iAV x.e]
def De.set(d:De)(c:Int)(r:Rc):De:=⟨d.m,d.cx.set c.toNat r⟩
def decP(d:De)(c:Int)(r:Rc)(s:Sm):Dr :=
 match xM d.m r s with
 | (h,true)=>if(zh h s.pl).2=0 then⟨d.set c (ky r s h),(zh h s.pl).1,vv d.m c s h,0⟩ else⟨d,[],[],(zh h s.pl).2⟩
 | (_,false)=>⟨d.set c (wW r),[],we d.m c (wW r),6⟩
def qq(d:De)(b:List UInt8)(hb:b.length≤140737488355328):Dr :=
 if d.ok=true then
   (if(qp b).2.2=0 then
     (if(qp b).2.1=6 then
       (if dse (qU b hb 0 false)=0∧(dsm (qU b hb 0 false)).pl≠[] then⟨d,(dsm (qU b hb 0 false)).pl,[],0⟩ else⟨d,[],[],4⟩)
     else if(d.cx.getD (qp b).1.toNat Rc.z).st<xE (qp b).2.1 then⟨d,[],we d.m (qp b).1 (d.cx.getD (qp b).1.toNat Rc.z),8⟩
     else if dse (qU b hb (d.cx.getD (qp b).1.toNat Rc.z).la.k (decide ((d.cx.getD (qp b).1.toNat Rc.z).la.ck≠0)))=0 then
       decP d (qp b).1 (d.cx.getD (qp b).1.toNat Rc.z) (dsm (qU b hb (d.cx.getD (qp b).1.toNat Rc.z).la.k (decide ((d.cx.getD (qp b).1.toNat Rc.z).la.ck≠0))))
     else⟨d,[],[],dse (qU b hb (d.cx.getD (qp b).1.toNat Rc.z).la.k (decide ((d.cx.getD (qp b).1.toNat Rc.z).la.ck≠0)))⟩)
   else⟨d,[],[],(qp b).2.2⟩)
 else⟨De.z,[],[],1⟩
open Go.RowKit
variable {G:Nat→AV}
def st2(l:List UInt8)(a:Nat)(x:Int):List UInt8:=(l.set (a+1) (b8 x)).set a (b8 (x.fdiv 256))
def st4(l:List UInt8)(a:Nat)(x:Int):List UInt8:=(((l.set (a+3) (b8 x)).set (a+2) (b8 (x.fdiv 256))).set (a+1) (b8 ((x.fdiv 256).fdiv 256))).set a (b8 (((x.fdiv 256).fdiv 256).fdiv 256))
@[simp] theorem st2_len(l:List UInt8)(a:Nat)(x:Int):(st2 l a x).length=l.length:=by simp[st2]
@[simp] theorem st4_len(l:List UInt8)(a:Nat)(x:Int):(st4 l a x).length=l.length:=by simp[st4]
theorem ix{a n:Nat}{k:Int}(ha:a≤100000)(hk:k=(n:Int))(hn:n≤10):0+(q7 .add .i64 (a:Int) k).toNat*1=a+n:=by
 have:q7 .add .i64 (a:Int) k=((a+n:Nat):Int):=by(exact T.num)
 rw[this];omega
theorem pput2_c(l:List UInt8)(a n:Nat)(x:Int)(h:a+2≤n)(hn:n≤l.length)(ha:a≤100000)(p:Nm):LP Tryz.prog G 184 [.vw p 0 n 1,iAV a,iAV 2,iAV x] [(p,⟨5,l.map bAV⟩)] (fun _=>(.tup [],[(p,⟨5,(st2 l a x).map bAV⟩)])):=by
 refine goW [] Tryz.func184 rfl ?_
 conv=>whnf
 repeat'((first|refine T.s ?_|((first|apply goB|apply AB.dec|apply AB.gen)<;>intro h<;>try(exfalso;omega))|refine LQ.mk fun r=>?_|(show SWpL _ _ _ _ _ _ _;first|refine SWpL.times 1 3 (by rfl) ?_|refine AtL.step tQ [] ?_)|exact T.z|refine⟨_,rfl,rfl,?_⟩|fail)<;>conv=>whnf)
 all_goals(try dsimp only)
 all_goals
   refine RL.val rfl (LB.cons ?_)
   (repeat first|refine goH ?_|apply LH.here|apply LH.next)
   refine And.intro (congrArg (Pl.mk _) ?_) LB.nil
   rw[ix ha (show q7 .sub .i64 (q7 .sub .i64 2 1) 1=((0:Nat):Int) from rfl) (by decide),ix ha (show q7 .sub .i64 2 1=((1:Nat):Int) from rfl) (by decide)]
   rfl
theorem pput4_c(l:List UInt8)(a n:Nat)(x:Int)(h:a+4≤n)(hn:n≤l.length)(ha:a≤100000)(p:Nm):LP Tryz.prog G 184 [.vw p 0 n 1,iAV a,iAV 4,iAV x] [(p,⟨5,l.map bAV⟩)] (fun _=>(.tup [],[(p,⟨5,(st4 l a x).map bAV⟩)])):=by
 refine goW [] Tryz.func184 rfl ?_
 conv=>whnf
 repeat'((first|refine T.s ?_|((first|apply goB|apply AB.dec|apply AB.gen)<;>intro h<;>try(exfalso;omega))|refine LQ.mk fun r=>?_|(show SWpL _ _ _ _ _ _ _;first|refine SWpL.times 1 5 (by rfl) ?_|refine AtL.step tQ [] ?_)|exact T.z|refine⟨_,rfl,rfl,?_⟩|fail)<;>conv=>whnf)
 all_goals(try dsimp only)
 all_goals
   refine RL.val rfl (LB.cons ?_)
   (repeat first|refine goH ?_|apply LH.here|apply LH.next)
   refine And.intro (congrArg (Pl.mk _) ?_) LB.nil
   rw[ix ha (show q7 .sub .i64 (q7 .sub .i64 (q7 .sub .i64 (q7 .sub .i64 4 1) 1) 1) 1=((0:Nat):Int) from rfl) (by decide),ix ha (show q7 .sub .i64 (q7 .sub .i64 (q7 .sub .i64 4 1) 1) 1=((1:Nat):Int) from rfl) (by decide),ix ha (show q7 .sub .i64 (q7 .sub .i64 4 1) 1=((2:Nat):Int) from rfl) (by decide),ix ha (show q7 .sub .i64 4 1=((3:Nat):Int) from rfl) (by decide)]
   rfl
theorem pput2v_c(l:List UInt8)(a n m:Nat)(x:Int)(h:a+2≤n)(hn:n≤l.length)(ha:a≤100000)(p:Nm):LP Tryz.prog G 184 [.vc p 0 n m 1,iAV a,iAV 2,iAV x] [(p,⟨5,l.map bAV⟩)] (fun _=>(.tup [],[(p,⟨5,(st2 l a x).map bAV⟩)])):=by
 refine goW [] Tryz.func184 rfl ?_
 conv=>whnf
 repeat'((first|refine T.s ?_|((first|apply goB|apply AB.dec|apply AB.gen)<;>intro h<;>try(exfalso;omega))|refine LQ.mk fun r=>?_|(show SWpL _ _ _ _ _ _ _;first|refine SWpL.times 1 3 (by rfl) ?_|refine AtL.step tQ [] ?_)|exact T.z|refine⟨_,rfl,rfl,?_⟩|fail)<;>conv=>whnf)
 all_goals(try dsimp only)
 all_goals
   refine RL.val rfl (LB.cons ?_)
   (repeat first|refine goH ?_|apply LH.here|apply LH.next)
   refine And.intro (congrArg (Pl.mk _) ?_) LB.nil
   rw[ix ha (show q7 .sub .i64 (q7 .sub .i64 2 1) 1=((0:Nat):Int) from rfl) (by decide),ix ha (show q7 .sub .i64 2 1=((1:Nat):Int) from rfl) (by decide)]
   rfl
theorem pput4v_c(l:List UInt8)(a n m:Nat)(x:Int)(h:a+4≤n)(hn:n≤l.length)(ha:a≤100000)(p:Nm):LP Tryz.prog G 184 [.vc p 0 n m 1,iAV a,iAV 4,iAV x] [(p,⟨5,l.map bAV⟩)] (fun _=>(.tup [],[(p,⟨5,(st4 l a x).map bAV⟩)])):=by
 refine goW [] Tryz.func184 rfl ?_
 conv=>whnf
 repeat'((first|refine T.s ?_|((first|apply goB|apply AB.dec|apply AB.gen)<;>intro h<;>try(exfalso;omega))|refine LQ.mk fun r=>?_|(show SWpL _ _ _ _ _ _ _;first|refine SWpL.times 1 5 (by rfl) ?_|refine AtL.step tQ [] ?_)|exact T.z|refine⟨_,rfl,rfl,?_⟩|fail)<;>conv=>whnf)
 all_goals(try dsimp only)
 all_goals
   refine RL.val rfl (LB.cons ?_)
   (repeat first|refine goH ?_|apply LH.here|apply LH.next)
   refine And.intro (congrArg (Pl.mk _) ?_) LB.nil
   rw[ix ha (show q7 .sub .i64 (q7 .sub .i64 (q7 .sub .i64 (q7 .sub .i64 4 1) 1) 1) 1=((0:Nat):Int) from rfl) (by decide),ix ha (show q7 .sub .i64 (q7 .sub .i64 (q7 .sub .i64 4 1) 1) 1=((1:Nat):Int) from rfl) (by decide),ix ha (show q7 .sub .i64 (q7 .sub .i64 4 1) 1=((2:Nat):Int) from rfl) (by decide),ix ha (show q7 .sub .i64 4 1=((3:Nat):Int) from rfl) (by decide)]
   rfl
attribute [irreducible] st2 st4
open Go.RowKit
variable {G:Nat→AV}
theorem fdiv2(x:Int):(x.fdiv 256).fdiv 256=x.fdiv 65536:=by
 rw[Int.fdiv_eq_ediv_of_nonneg _ (by decide),Int.fdiv_eq_ediv_of_nonneg _ (by decide),Int.fdiv_eq_ediv_of_nonneg _ (by decide)]
 omega
theorem fdiv3(x:Int):((x.fdiv 256).fdiv 256).fdiv 256=x.fdiv 16777216:=by
 rw[fdiv2,Int.fdiv_eq_ediv_of_nonneg _ (by decide),Int.fdiv_eq_ediv_of_nonneg _ (by decide),Int.fdiv_eq_ediv_of_nonneg _ (by decide)]
 omega
theorem putB2(x:Int):qn x 2=[b8 (x.fdiv 256),b8 x]:=by
 show[b8 (x.fdiv 256),b8 (x.fdiv 1)]=_
 rw[Int.fdiv_one]
theorem putB4(x:Int):qn x 4=[b8 (((x.fdiv 256).fdiv 256).fdiv 256),b8 ((x.fdiv 256).fdiv 256),b8 (x.fdiv 256),b8 x]:=by
 rw[fdiv3,fdiv2]
 show[b8 (x.fdiv 16777216),b8 (x.fdiv 65536),b8 (x.fdiv 256),b8 (x.fdiv 1)]=_
 rw[Int.fdiv_one]
theorem headL_1{h:Hd}(k:h.k=1):qJ h=[69,b8 h.tos,0,0,b8 (h.id.fdiv 256),b8 h.id,b8 (64*h.fx),0,b8 h.ttl,17,0,0,b8 (((h.fr.fdiv 256).fdiv 256).fdiv 256),b8 ((h.fr.fdiv 256).fdiv 256),b8 (h.fr.fdiv 256),b8 h.fr,
   b8 (((h.to.fdiv 256).fdiv 256).fdiv 256),b8 ((h.to.fdiv 256).fdiv 256),b8 (h.to.fdiv 256),b8 h.to,b8 (h.fp.fdiv 256),b8 h.fp,b8 (h.tp.fdiv 256),b8 h.tp,0,0,b8 (h.ck.fdiv 256),b8 h.ck]:=by
 unfold qJ
 rw[if_neg (by omega)]
 simp only[putB2,putB4]
 rfl
theorem headL_2{h:Hd}(k:h.k=2):qJ h=[69,b8 h.tos,0,0,b8 (h.id.fdiv 256),b8 h.id,b8 (64*h.fx),0,b8 h.ttl,17,0,0,b8 (((h.fr.fdiv 256).fdiv 256).fdiv 256),b8 ((h.fr.fdiv 256).fdiv 256),b8 (h.fr.fdiv 256),b8 h.fr,
   b8 (((h.to.fdiv 256).fdiv 256).fdiv 256),b8 ((h.to.fdiv 256).fdiv 256),b8 (h.to.fdiv 256),b8 h.to,b8 (h.fp.fdiv 256),b8 h.fp,b8 (h.tp.fdiv 256),b8 h.tp,0,0,b8 (h.ck.fdiv 256),b8 h.ck,
   128,b8 (128*h.mr+h.ty),b8 (h.sq.fdiv 256),b8 h.sq,b8 (((h.tm.fdiv 256).fdiv 256).fdiv 256),b8 ((h.tm.fdiv 256).fdiv 256),b8 (h.tm.fdiv 256),b8 h.tm,b8 (((h.sr.fdiv 256).fdiv 256).fdiv 256),b8 ((h.sr.fdiv 256).fdiv 256),b8 (h.sr.fdiv 256),b8 h.sr]:=by
 unfold qJ
 rw[if_pos k]
 simp only[putB2,putB4]
 rfl
theorem updW{P:Program}{f:FuncId}{args:List AV}{p:Nm}{n t:Nat}{R:List UInt8→List UInt8}{K:AV→LS→Prop}{l:LS}(hs:∀L:List UInt8,n≤L.length→LP P G f args [(p,⟨t,L.map bAV⟩)] fun _=>(.tup [],[(p,⟨t,(R L).map bAV⟩)]))
   (hk:LH l p fun c s _=>∃L:List UInt8,c=⟨t,L.map bAV⟩∧n≤L.length∧K (.tup []) (s ⟨t,(R L).map bAV⟩)):LC P G f args l K:=by
 obtain⟨l1,c,l2,rfl,L,rfl,h2,h3⟩:=hk.ex
 exact LC.upd (hs L h2) ⟨l1,_,l2,rfl,rfl,h3⟩
theorem phead_n(h:Hd)(k:h.ok=false):LP Tryz.prog G 171 [h.av] [] (fun _=>(.nils,[])):=by
 have hv:=zG (G:=G) h
 rw[k] at hv
 refine goW [] Tryz.func171 rfl ?_
 conv=>whnf
 repeat'((first|exact Nm.b 0|(show LC _ _ _ _ _ _;first|refine LC.pure (hv) ?_|refine goE ?_)|refine T.s ?_|((first|apply goB|apply AB.dec|apply AB.gen)<;>intro h<;>try(exfalso;omega))|refine LQ.mk fun r=>?_|(show SWpL _ _ _ _ _ _ _;first|(refine goD tQ qc 4 [3,6] [0,1,2,3,4,5,6,7,8] [] (by kernel_rfl) ?_)|(refine goD tQ qc 15 [3,6,10] [0,1,2,3,4,5,6,7,8,9,10,11,12] [] (by kernel_rfl) ?_))|(show(_→_)∧(¬_→_);first|refine T.y ?_|refine qv (fun h=>?_) (fun h=>?_))|exact T.z|refine⟨_,rfl,rfl,?_⟩|fail)<;>conv=>whnf)
 all_goals(try dsimp only)
 all_goals
   (show RL _ _ _;refine goR ?_)
   rfl
theorem bAV69:AV.int .u8 69=bAV (69:UInt8):=rfl
theorem bAV17:AV.int .u8 17=bAV (17:UInt8):=rfl
theorem bAV128:AV.int .u8 128=bAV (128:UInt8):=rfl
theorem fx64{x:Int}(h:0≤x∧x≤1):q7 .mul .i64 64 x=64*x:=by(exact T.num)
theorem mt128{x y:Int}(h:0≤x∧x≤1)(h2:0≤y∧y≤127):q7 .add .i64 (q7 .mul .i64 128 x) y=128*x+y:=by(exact T.num)
theorem phead_1(h:Hd)(ko:h.ok=true)(k:h.k=1):LP Tryz.prog G 171 [h.av] [] (fun q=>(.vc q 0 28 40 1,[(q,⟨5,(qJ h++List.replicate 12 0).map bAV⟩)])):=by
 have hv:=zG (G:=G) h
 rw[ko] at hv
 have hfx:=fx64 (h.of ko).2.2.2.2.2.2.2.1
 refine goW [] Tryz.func171 rfl ?_
 conv=>whnf
 repeat'((first|(show LC _ _ _ _ _ _;refine updW (fun l h1=>pput2v_c l _ _ _ _ (by decide) h1 (by decide) _) ?_;(repeat first|refine goH ?_|apply LH.here|apply LH.next);refine⟨_,rfl,(by simp),?_⟩;conv=>whnf)|(show LC _ _ _ _ _ _;refine updW (fun l h1=>pput4v_c l _ _ _ _ (by decide) h1 (by decide) _) ?_;(repeat first|refine goH ?_|apply LH.here|apply LH.next);refine⟨_,rfl,(by simp),?_⟩;conv=>whnf)|exact Nm.b 0|(show LC _ _ _ _ _ _;first|refine LC.pure (hv) ?_|refine goE ?_)|(show AQ _ _;first|(refine AQ.eq (cs':=(List.replicate 40 (0:UInt8)).map bAV) rfl ?_)|(with_reducible refine AQ.set (x:=b8 _) (qS _).symm ?_ ?_;(focus(simp;done)))|(with_reducible refine AQ.set (f:=bAV) (x:=(69:UInt8)) bAV69 ?_ ?_;(focus(simp;done)))|(with_reducible refine AQ.set (f:=bAV) (x:=(17:UInt8)) bAV17 ?_ ?_;(focus(simp;done))))|refine T.s ?_|((first|apply goB|apply AB.dec|apply AB.gen)<;>intro h<;>try(exfalso;omega))|refine LQ.mk fun r=>?_|(show SWpL _ _ _ _ _ _ _;first|refine gX 4 [3,6] [0,1,2,3,4,5,6,7,8] [r] ?_|refine gX 15 [3,6,10] [0,1,2,3,4,5,6,7,8,9,10,11,12] [r] ?_)|(show(_→_)∧(¬_→_);first|refine T.y ?_|refine qv (fun h=>?_) (fun h=>?_))|exact T.z|refine⟨_,rfl,rfl,?_⟩|fail)<;>conv=>whnf)
 all_goals(try dsimp only)
 all_goals
   refine RL.own r rfl ?_ ?_
   · (repeat first|refine goH ?_|apply LH.here|apply LH.next);trivial
   · refine LB.cons ?_
     (repeat first|refine goH ?_|apply LH.here|apply LH.next)
     refine And.intro (congrArg (Pl.mk _) (congrArg (List.map bAV) ?_)) LB.nil
     rw[hfx,headL_1 k]
     kernel_rfl
theorem phead_2(h:Hd)(ko:h.ok=true)(k:h.k=2):LP Tryz.prog G 171 [h.av] [] (fun q=>(.vw q 0 40 1,[(q,⟨5,(qJ h).map bAV⟩)])):=by
 have hv:=zG (G:=G) h
 rw[ko] at hv
 have hfx:=fx64 (h.of ko).2.2.2.2.2.2.2.1
 have hmt:=mt128 (h.of ko).2.2.2.2.2.2.2.2.2.2.1 (h.of ko).2.2.2.2.2.2.2.2.2.2.2.1
 refine goW [] Tryz.func171 rfl ?_
 conv=>whnf
 repeat'((first|(show LC _ _ _ _ _ _;refine updW (fun l h1=>pput2v_c l _ _ _ _ (by decide) h1 (by decide) _) ?_;(repeat first|refine goH ?_|apply LH.here|apply LH.next);refine⟨_,rfl,(by simp),?_⟩;conv=>whnf)|(show LC _ _ _ _ _ _;refine updW (fun l h1=>pput2_c l _ _ _ (by decide) h1 (by decide) _) ?_;(repeat first|refine goH ?_|apply LH.here|apply LH.next);refine⟨_,rfl,(by simp),?_⟩;conv=>whnf)|(show LC _ _ _ _ _ _;refine updW (fun l h1=>pput4_c l _ _ _ (by decide) h1 (by decide) _) ?_;(repeat first|refine goH ?_|apply LH.here|apply LH.next);refine⟨_,rfl,(by simp),?_⟩;conv=>whnf)|(show LC _ _ _ _ _ _;refine updW (fun l h1=>pput4v_c l _ _ _ _ (by decide) h1 (by decide) _) ?_;(repeat first|refine goH ?_|apply LH.here|apply LH.next);refine⟨_,rfl,(by simp),?_⟩;conv=>whnf)|exact Nm.b 0|(show LC _ _ _ _ _ _;first|refine LC.pure (hv) ?_|refine goE ?_)|(show AQ _ _;first|(refine AQ.eq (cs':=(List.replicate 40 (0:UInt8)).map bAV) rfl ?_)|(with_reducible refine AQ.set (x:=b8 _) (qS _).symm ?_ ?_;(focus(simp;done)))|(with_reducible refine AQ.set (f:=bAV) (x:=(69:UInt8)) bAV69 ?_ ?_;(focus(simp;done)))|(with_reducible refine AQ.set (f:=bAV) (x:=(17:UInt8)) bAV17 ?_ ?_;(focus(simp;done)))|(with_reducible refine AQ.set (f:=bAV) (x:=(128:UInt8)) bAV128 ?_ ?_;(focus(simp;done))))|refine T.s ?_|((first|apply goB|apply AB.dec|apply AB.gen)<;>intro h<;>try(exfalso;omega))|refine LQ.mk fun r=>?_|(show SWpL _ _ _ _ _ _ _;first|refine gX 4 [3,6] [0,1,2,3,4,5,6,7,8] [r] ?_|refine gX 15 [3,6,10] [0,1,2,3,4,5,6,7,8,9,10,11,12] [r] ?_)|(show(_→_)∧(¬_→_);first|refine T.y ?_|refine qv (fun h=>?_) (fun h=>?_))|exact T.z|refine⟨_,rfl,rfl,?_⟩|fail)<;>conv=>whnf)
 all_goals(try dsimp only)
 all_goals
   refine RL.own r rfl ?_ ?_
   · (repeat first|refine goH ?_|apply LH.here|apply LH.next);trivial
   · refine LB.cons ?_
     (repeat first|refine goH ?_|apply LH.here|apply LH.next)
     refine And.intro (congrArg (Pl.mk _) (congrArg (List.map bAV) ?_)) LB.nil
     rw[hfx,hmt,headL_2 k]
     kernel_rfl
end Go.Proofs.YtndpmpnmkpaklaaGreatDoor
