/-
  Contracts of the functions that the laws reach.
-/
import Derived.Test.YtndpmpnmkpaklaaGreatDoorHr20
set_option linter.all false
namespace Go.Proofs.YtndpmpnmkpaklaaGreatDoor
open Go.RowKit
theorem rdr_app(n:Nat)(a l:List UInt8)(ha:a.length=n)(h:(a++l).length≤140737488355328):rtk n (rdr (a++l) h)=rdr l (by simp at h;omega):=by
 refine Subtype.ext ?_
 unfold rtk rdr
 show tkR n (some (a++l))=some l
 have e:tkR n (some (a++l))=some ((a++l).drop n):=if_neg (by simp;omega)
 rw[e,←ha]
 simp
theorem rv_app(n:Nat)(a l:List UInt8)(ha:a.length=n)(h:(a++l).length≤140737488355328):rv n (rdr (a++l) h)=beN a:=by
 unfold rv rdr
 show tkV n (some (a++l))=beN a
 have e:tkV n (some (a++l))=beN ((a++l).take n):=if_neg (by simp;omega)
 rw[e,←ha]
 simp
theorem rdr1(c:UInt8)(l:List UInt8)(h:(c::l).length≤140737488355328):rtk 1 (rdr (c::l) h)=rdr l (by simp at h;omega):=rdr_app 1 [c] l rfl h
theorem rv1(c:UInt8)(l:List UInt8)(h:(c::l).length≤140737488355328):rv 1 (rdr (c::l) h)=(c.toNat:Int):=(rv_app 1 [c] l rfl h).trans (by simp[beN])
theorem rdr2(v:Int)(l:List UInt8)(h:(qn v 2++l).length≤140737488355328):rtk 2 (rdr (qn v 2++l) h)=rdr l (by simp at h;omega):=rdr_app 2 _ l (by simp) h
theorem rdr4(v:Int)(l:List UInt8)(h:(qn v 4++l).length≤140737488355328):rtk 4 (rdr (qn v 4++l) h)=rdr l (by simp at h;omega):=rdr_app 4 _ l (by simp) h
theorem kv(v:Int):((b8 v).toNat:Int)=v%256:=by
 have h:=qS v
 unfold bAV at h
 have h2:=(AV.int.inj h).2
 rwa [IntKind.wrap_u8] at h2
theorem be_put2(v:Int):beN (qn v 2)=v%65536:=by
 show 256*(256*0+((b8 (v.fdiv 256)).toNat:Int))+((b8 (v.fdiv 1)).toNat:Int)=_
 rw[kv,kv,Int.fdiv_eq_ediv_of_nonneg _ (by decide),Int.fdiv_eq_ediv_of_nonneg _ (by decide)]
 omega
theorem be_put4(v:Int):beN (qn v 4)=v%4294967296:=by
 show 256*(256*(256*(256*0+((b8 (v.fdiv 16777216)).toNat:Int))+((b8 (v.fdiv 65536)).toNat:Int))+((b8 (v.fdiv 256)).toNat:Int))+((b8 (v.fdiv 1)).toNat:Int)=_
 rw[kv,kv,kv,kv,Int.fdiv_eq_ediv_of_nonneg _ (by decide),Int.fdiv_eq_ediv_of_nonneg _ (by decide),Int.fdiv_eq_ediv_of_nonneg _ (by decide),Int.fdiv_eq_ediv_of_nonneg _ (by decide)]
 omega
theorem rv2(v:Int)(l:List UInt8)(h:(qn v 2++l).length≤140737488355328):rv 2 (rdr (qn v 2++l) h)=v%65536:=(rv_app 2 _ l (by simp) h).trans (be_put2 v)
theorem rv4(v:Int)(l:List UInt8)(h:(qn v 4++l).length≤140737488355328):rv 4 (rdr (qn v 4++l) h)=v%4294967296:=(rv_app 4 _ l (by simp) h).trans (be_put4 v)
theorem rE_rdr(l:List UInt8)(h:l.length≤140737488355328):rE (rdr l h)=false:=by unfold rE rdr;rfl
theorem rL_rdr(l:List UInt8)(h:l.length≤140737488355328):rL (rdr l h)=l:=by unfold rL rdr;rfl
theorem sh3:∀n:Nat,n<256→shR (n:Int) 3=((n / 8:Nat):Int):=by decide +kernel
theorem an7:∀n:Nat,n<256→yM (n:Int) 7=((n%8:Nat):Int):=by decide +kernel
theorem an31:∀n:Nat,n<256→yM (n:Int) 31=((n%32:Nat):Int):=by decide +kernel
theorem an1:∀n:Nat,n<256→yM (n:Int) 1=((n%2:Nat):Int):=by decide +kernel
theorem bi7:∀n:Nat,n<256→xP (n:Int) 7=((n / 128%2:Nat):Int):=by decide +kernel
theorem bi6:∀n:Nat,n<256→xP (n:Int) 6=((n / 64%2:Nat):Int):=by decide +kernel
theorem bi5:∀n:Nat,n<256→xP (n:Int) 5=((n / 32%2:Nat):Int):=by decide +kernel
theorem bi4:∀n:Nat,n<256→xP (n:Int) 4=((n / 16%2:Nat):Int):=by decide +kernel
def qG(s:Sm):List UInt8:=if jM s=0 then[] else qn (jM s) 2
theorem Sm.low(s:Sm)(h:s.ok=true)(hf:s.f=1∨s.f=2∨s.f=3):s={ s0 s.cx s.f with n:=s.n,tm:=s.tm,mr:=s.mr,id:=s.id,ud:=s.ud,h:=Hd.mk s.h.k 0 0 0 0 0 0 0 0 0 0 0 0 0 0,ck:=s.ck,pl:=s.pl }∧(s.h.k=1∨s.h.k=2)∧(0≤s.ud∧s.ud≤65535)∧zL s=true∧qW (cbR s.f) s.ck=true:=by
 obtain⟨h1,h2,h3⟩:=s.of h
 rcases h3 with ⟨h3,h4,h5,h6,h7⟩|⟨h3,-⟩|⟨h3,-⟩
 · refine⟨?_,h5,?_,h4,h2⟩
   · unfold hzR at h6
     unfold dzR at h7
     simp only[decide_eq_true_eq] at h6 h7
     obtain⟨cx,f,n,tm,mr,id,ud,⟨k,tos,hid,fx,ttl,fr,to,fp,tp,hck,hmr,ty,sq,htm,sr⟩,⟨st,fo⟩,ck,pl⟩:=s
     simp only at h6 h7
     obtain⟨-,rfl,rfl,rfl,rfl,rfl,rfl,rfl,rfl,rfl,rfl,rfl,rfl,rfl,rfl⟩:=h6
     obtain⟨rfl,rfl⟩:=h7
     rfl
   · unfold zL at h4
     simp only[Bool.and_eq_true] at h4
     have:=(xb 16 s.ud).1 h4.2.2.2.2
     omega
 · omega
 · omega
theorem low1(s:Sm)(hf:s.f=1)(h:zL s=true)(hc:qW (cbR s.f) s.ck=true):(0≤s.n∧s.n≤15)∧s.tm=0∧s.mr=0∧s.id=0∧0≤s.ck∧s.ck≤7:=by
 unfold zL at h
 rw[hf] at h hc
 simp only[Bool.and_eq_true] at h
 have a:=(xb 4 s.n).1 h.1
 have b:=(xb 0 s.tm).1 h.2.1
 have c:=(xb 0 s.mr).1 h.2.2.1
 have d:=(xb 0 s.id).1 h.2.2.2.1
 have e:=(xb 3 s.ck).1 hc
 omega
theorem low2T(s:Sm)(hf:s.f=2)(hk:s.h.k=2)(h:zL s=true)(hc:qW (cbR s.f) s.ck=true):(0≤s.n∧s.n≤31)∧(0≤s.tm∧s.tm≤65535)∧(0≤s.mr∧s.mr≤1)∧s.id=0∧0≤s.ck∧s.ck≤127:=by
 unfold zL at h
 rw[hf,hk] at h
 rw[hf] at hc
 simp only[Bool.and_eq_true] at h
 have a:=(xb 5 s.n).1 h.1
 have b:=(xb 16 s.tm).1 h.2.1
 have c:=(xb 1 s.mr).1 h.2.2.1
 have d:=(xb 0 s.id).1 h.2.2.2.1
 have e:=(xb 7 s.ck).1 hc
 omega
theorem low2U(s:Sm)(hf:s.f=2)(hk:s.h.k=1)(h:zL s=true)(hc:qW (cbR s.f) s.ck=true):(0≤s.n∧s.n≤31)∧s.tm=0∧s.mr=0∧s.id=0∧0≤s.ck∧s.ck≤127:=by
 unfold zL at h
 rw[hf,hk] at h
 rw[hf] at hc
 simp only[Bool.and_eq_true] at h
 have a:=(xb 5 s.n).1 h.1
 have b:=(xb 0 s.tm).1 h.2.1
 have c:=(xb 0 s.mr).1 h.2.2.1
 have d:=(xb 0 s.id).1 h.2.2.2.1
 have e:=(xb 7 s.ck).1 hc
 omega
theorem low3T(s:Sm)(hf:s.f=3)(hk:s.h.k=2)(h:zL s=true)(hc:qW (cbR s.f) s.ck=true):(0≤s.n∧s.n≤255)∧(0≤s.tm∧s.tm≤4294967295)∧(0≤s.mr∧s.mr≤1)∧(0≤s.id∧s.id≤65535)∧0≤s.ck∧s.ck≤255:=by
 unfold zL at h
 rw[hf,hk] at h
 rw[hf] at hc
 simp only[Bool.and_eq_true] at h
 have a:=(xb 8 s.n).1 h.1
 have b:=(xb 32 s.tm).1 h.2.1
 have c:=(xb 1 s.mr).1 h.2.2.1
 have d:=(xb 16 s.id).1 h.2.2.2.1
 have e:=(xb 8 s.ck).1 hc
 omega
theorem low3U(s:Sm)(hf:s.f=3)(hk:s.h.k=1)(h:zL s=true)(hc:qW (cbR s.f) s.ck=true):(0≤s.n∧s.n≤65535)∧s.tm=0∧s.mr=0∧s.id=0∧0≤s.ck∧s.ck≤255:=by
 unfold zL at h
 rw[hf,hk] at h
 rw[hf] at hc
 simp only[Bool.and_eq_true] at h
 have a:=(xb 16 s.n).1 h.1
 have b:=(xb 0 s.tm).1 h.2.1
 have c:=(xb 0 s.mr).1 h.2.2.1
 have d:=(xb 0 s.id).1 h.2.2.2.1
 have e:=(xb 8 s.ck).1 hc
 omega
theorem bL1(s:Sm)(h:s.f=1):ql s=[b8 (8*s.n+s.ck)]:=by unfold ql;rw[if_pos h]
theorem bL2T(s:Sm)(h:s.f=2)(hk:s.h.k=2):ql s=b8 (32*(4+s.mr)+s.n)::(qn s.tm 2++[b8 s.ck]):=by unfold ql;rw[if_neg (by omega),if_pos h,if_pos hk];rfl
theorem bL2U(s:Sm)(h:s.f=2)(hk:s.h.k=1):ql s=b8 (32*(4+s.mr)+s.n)::[b8 s.ck]:=by unfold ql;rw[if_neg (by omega),if_pos h,if_neg (by omega)];rfl
theorem bL3T(s:Sm)(h:s.f=3)(hk:s.h.k=2):ql s=b8 (192+s.mr)::b8 s.n::(qn s.tm 4++(qn s.id 2++[b8 s.ck])):=by unfold ql;rw[if_neg (by omega),if_neg (by omega),if_pos h,if_pos hk,if_pos hk];simp
theorem bL3U(s:Sm)(h:s.f=3)(hk:s.h.k=1):ql s=b8 (192+s.mr)::(qn s.n 2++[b8 s.ck]):=by unfold ql;rw[if_neg (by omega),if_neg (by omega),if_pos h,if_neg (by omega),if_neg (by omega)];simp
theorem bL4(s:Sm)(h:s.f=4):ql s=b8 208::(vo s.h s.d++[b8 s.ck]):=by unfold ql;rw[if_neg (by omega),if_neg (by omega),if_neg (by omega),if_pos h];rfl
theorem bL5(s:Sm)(h:s.f=5):ql s=b8 209::(yh s.h++(vo s.h s.d++[b8 s.ck])):=by unfold ql;rw[if_neg (by omega),if_neg (by omega),if_neg (by omega),if_neg (by omega),if_pos h];rfl
theorem bL6(s:Sm)(h:s.f=6):ql s=[b8 210]:=by unfold ql;rw[if_neg (by omega),if_neg (by omega),if_neg (by omega),if_neg (by omega),if_neg (by omega)]
open Go.RowKit
theorem xK{v:Int}(h:0≤v∧v≤255):((b8 v).toNat:Int)=v:=by rw[kv];omega
theorem body_head(s:Sm)(h:s.ok=true):∃c r,ql s=c::r∧fmR c=s.f∧c.toNat<224∧(c.toNat=210→s.cx=0):=by
 obtain⟨h1,h2,h3⟩:=s.of h
 rcases h3 with ⟨h3,h4,h5,-,-⟩|⟨h3|h3,-⟩|⟨h3,-,h4,-⟩
 · rcases h3 with hf|hf|hf
   · have a:=low1 s hf h4 h2
     have e:((b8 (8*s.n+s.ck)).toNat:Int)=8*s.n+s.ck:=xK (by omega)
     exact⟨_,_,bL1 s hf,by rw[hf];exact fm1 (by omega),by omega,by omega⟩
   · rcases h5 with hk|hk
     · have a:=low2U s hf hk h4 h2
       have e:((b8 (32*(4+s.mr)+s.n)).toNat:Int)=32*(4+s.mr)+s.n:=xK (by omega)
       exact⟨_,_,bL2U s hf hk,by rw[hf];exact fm2 (by omega),by omega,by omega⟩
     · have a:=low2T s hf hk h4 h2
       have e:((b8 (32*(4+s.mr)+s.n)).toNat:Int)=32*(4+s.mr)+s.n:=xK (by omega)
       exact⟨_,_,bL2T s hf hk,by rw[hf];exact fm2 (by omega),by omega,by omega⟩
   · rcases h5 with hk|hk
     · have a:=low3U s hf hk h4 h2
       have e:((b8 (192+s.mr)).toNat:Int)=192+s.mr:=xK (by omega)
       exact⟨_,_,bL3U s hf hk,by rw[hf];exact fm3 (by omega),by omega,by omega⟩
     · have a:=low3T s hf hk h4 h2
       have e:((b8 (192+s.mr)).toNat:Int)=192+s.mr:=xK (by omega)
       exact⟨_,_,bL3T s hf hk,by rw[hf];exact fm3 (by omega),by omega,by omega⟩
 · exact⟨_,_,bL4 s h3,by rw[h3];rfl,by decide,fun hh=>absurd hh (by decide)⟩
 · exact⟨_,_,bL5 s h3,by rw[h3];rfl,by decide,fun hh=>absurd hh (by decide)⟩
 · exact⟨_,_,bL6 s h3,by rw[h3];rfl,by decide,fun _=>h4.1⟩
theorem hdL_s(s:Sm):hdL s=vG s++(ql s++qG s):=rfl
theorem pre_pos{s:Sm}(h:0<s.cx):vG s=[b8 (224+s.cx)]:=if_pos h
theorem pre_neg{s:Sm}(h:¬0<s.cx):vG s=[]:=if_neg h
theorem ym(s:Sm)(h:s.ok=true)(l:List UInt8):qp (hdL s++l)=(s.cx,s.f,0):=by
 obtain⟨c,r,e,hf,hc,h0⟩:=body_head s h
 obtain⟨h1,-,-⟩:=s.of h
 have h6:1≤s.f:=by
   obtain⟨-,-,h3⟩:=s.of h
   omega
 rw[hdL_s,e]
 by_cases hx:0<s.cx
 · rw[pre_pos hx]
   have e1:((b8 (224+s.cx)).toNat:Int)=224+s.cx:=xK (by omega)
   show(if 224≤(b8 (224+s.cx)).toNat∧(b8 (224+s.cx)).toNat<240 then(if(b8 (224+s.cx)).toNat=224∨fmR c=0∨c.toNat=210 then((0,0,4):Int×Int×Int) else(((b8 (224+s.cx)).toNat:Int)-224,fmR c,0)) else if fmR (b8 (224+s.cx))=0 then(0,0,4) else(0,fmR (b8 (224+s.cx)),0))=_
   rw[if_pos (by omega),if_neg (by omega),hf,e1]
   rw[show 224+s.cx-224=s.cx by omega]
 · rw[pre_neg hx]
   show(if 224≤c.toNat∧c.toNat<240 then _ else if fmR c=0 then((0,0,4):Int×Int×Int) else(0,fmR c,0))=_
   rw[if_neg (by omega),if_neg (by omega),hf,show s.cx=0 by omega]
theorem ret_start(s:Sm)(l:List UInt8)(hb:(hdL s++l).length≤140737488355328):∃hh,(if 0<s.cx then rtk 1 (rdr (hdL s++l) hb) else rdr (hdL s++l) hb)=rdr (ql s++(qG s++l)) hh:=by
 by_cases hx:0<s.cx
 · rw[if_pos hx]
   have e:hdL s++l=b8 (224+s.cx)::(ql s++(qG s++l)):=by rw[hdL_s,pre_pos hx];simp
   have key:∀(L:List UInt8) (h1:L.length≤140737488355328) (c:UInt8) (r:List UInt8),L=c::r→∃hh,rtk 1 (rdr L h1)=rdr r hh:=by
     intro L h1 c r e;subst e;exact⟨_,rdr1 c r h1⟩
   exact key _ hb _ _ e
 · rw[if_neg hx]
   have e:hdL s++l=ql s++(qG s++l):=by rw[hdL_s,pre_neg hx];simp
   have key:∀(L:List UInt8) (h1:L.length≤140737488355328) (r:List UInt8),L=r→∃hh,rdr L h1=rdr r hh:=by
     intro L h1 r e;subst e;exact⟨_,rfl⟩
   exact key _ hb _ e
theorem yD(s s':Sm)(h:s.ok=true)(hh:s.pl.length≤140737488355328)(hs:{ s' with pl:=s.pl }=s):xw (rdr s.pl hh) s' (hdL s++s.pl)=.inl s:=by
 have e:wpl s' (rdr s.pl hh)=s:=by rw[wpl,rL_rdr];exact hs
 have h1:zo s=(hdL s++s.pl,0):=if_pos h
 have:=jV (X:=rdr s.pl hh) (s:=s') (b:=hdL s++s.pl) (rE_rdr _ _) (by rw[e,h1]) (by rw[e,h1])
 rw[this,e]
theorem jP(s s':Sm)(h:s.ok=true)(hf:¬(s.f=4∨s.f=5))(hh:(qG s++s.pl).length≤140737488355328)(hu:s'.ud=0)(hs:{ s' with ud:=s.ud,pl:=s.pl }=s):qX (decide (s.ud≠0)) (rdr (qG s++s.pl) hh) s' (hdL s++s.pl)=.inl s:=by
 have hr:=sum_rng s h
 have e1:jM s=s.ud:=by rw[yT,if_neg hf]
 by_cases h0:s.ud=0
 · have e2:qG s=[]:=if_pos (by rw[e1,h0])
   have key:∀(L:List UInt8) (h1:(L++s.pl).length≤140737488355328),L=[]→qX false (rdr (L++s.pl) h1) s' (hdL s++s.pl)=.inl s:=by
     intro L h1 e;subst e
     exact yD s s' h h1 ((show({ s' with pl:=s.pl }:Sm)={ s' with ud:=s.ud,pl:=s.pl } from by rw[h0,←hu]).trans hs)
   rw[show decide (s.ud≠0)=false by simp[h0]]
   exact key _ hh e2
 · have e2:qG s=qn s.ud 2:=by unfold qG;rw[e1,if_neg h0]
   have key:∀(L:List UInt8) (h1:(L++s.pl).length≤140737488355328),L=qn s.ud 2→qX true (rdr (L++s.pl) h1) s' (hdL s++s.pl)=.inl s:=by
     intro L h1 e;subst e
     have ev:rv 2 (rdr (qn s.ud 2++s.pl) h1)=s.ud:=by rw[rv2];omega
     rw[small_t (by rw[rdr2];exact rE_rdr _ _) (by rw[ev];exact h0),rdr2,ev]
     exact yD s _ h _ hs
   rw[show decide (s.ud≠0)=true by simp[h0]]
   exact key _ hh e2
open Go.RowKit
theorem rd_le{a l:List UInt8}(h:(a++l).length≤140737488355328):l.length≤140737488355328:=by simp at h;omega
theorem rd_le1{c:UInt8}{l:List UInt8}(h:(c::l).length≤140737488355328):l.length≤140737488355328:=by simp at h;omega
theorem j1{L T:List UInt8}{c:UInt8}(h1:L.length≤140737488355328)(hL:L=c::T):∃hh,rtk 1 (rdr L h1)=rdr T hh∧rv 1 (rdr L h1)=(c.toNat:Int):=by
 subst hL;exact⟨rd_le1 h1,rdr1 _ _ _,rv1 _ _ _⟩
theorem vM{L T:List UInt8}{v:Int}(h1:L.length≤140737488355328)(hL:L=qn v 2++T):∃hh,rtk 2 (rdr L h1)=rdr T hh∧rv 2 (rdr L h1)=v%65536:=by
 subst hL;exact⟨rd_le h1,rdr2 _ _ _,rv2 _ _ _⟩
theorem key4{L T:List UInt8}{v:Int}(h1:L.length≤140737488355328)(hL:L=qn v 4++T):∃hh,rtk 4 (rdr L h1)=rdr T hh∧rv 4 (rdr L h1)=v%4294967296:=by
 subst hL;exact⟨rd_le h1,rdr4 _ _ _,rv4 _ _ _⟩
theorem ret1(s:Sm)(h:s.ok=true)(hf:s.f=1)(b:List UInt8)(hbb:b=hdL s++s.pl)(hh:(ql s++(qG s++s.pl)).length≤140737488355328):qX (decide (s.ud≠0)) (jy (rdr (ql s++(qG s++s.pl)) hh)) (lw1 (rdr (ql s++(qG s++s.pl)) hh) s.h.k (s0 s.cx 1)) b=.inl s:=by
 subst hbb
 obtain⟨e,hk2,hu,hl,hc⟩:=s.low h (by omega)
 have a:=low1 s hf hl hc
 obtain⟨g0,x0,v0⟩:=j1 (c:=b8 (8*s.n+s.ck)) (T:=(qG s++s.pl)) hh (by rw[bL1 s hf];simp)
 have ex:jy (rdr (ql s++(qG s++s.pl)) hh)=rdr (qG s++s.pl) g0:=by simp only[jy,x0]
 have c0:((b8 (8*s.n+s.ck)).toNat:Int)=8*s.n+s.ck:=xK (by omega)
 have f1:shR ((b8 (8*s.n+s.ck)).toNat:Int) 3=s.n:=by rw[sh3 _ (b8 _).toNat_lt];omega
 have f2:yM ((b8 (8*s.n+s.ck)).toNat:Int) 7=s.ck:=by rw[an7 _ (b8 _).toNat_lt];omega
 have es:lw1 (rdr (ql s++(qG s++s.pl)) hh) s.h.k (s0 s.cx 1)={ s0 s.cx 1 with n:=s.n,ck:=s.ck,h:=Hd.mk s.h.k 0 0 0 0 0 0 0 0 0 0 0 0 0 0 }:=by
   simp only[lw1,v0,f1,f2]
 rw[ex,es]
 refine jP s _ h (by omega) _ rfl ?_
 have e2:=e.symm
 rw[hf,a.2.1,a.2.2.1,a.2.2.2.1] at e2
 exact e2
theorem ret2T(s:Sm)(h:s.ok=true)(hf:s.f=2)(hk:s.h.k=2)(b:List UInt8)(hbb:b=hdL s++s.pl)(hh:(ql s++(qG s++s.pl)).length≤140737488355328):qX (decide (s.ud≠0)) (zY (rdr (ql s++(qG s++s.pl)) hh)) (vL (rdr (ql s++(qG s++s.pl)) hh) s.h.k (s0 s.cx 2)) b=.inl s:=by
 subst hbb
 obtain⟨e,hk2,hu,hl,hc⟩:=s.low h (by omega)
 have a:=low2T s hf hk hl hc
 obtain⟨g0,x0,v0⟩:=j1 (c:=b8 (32*(4+s.mr)+s.n)) (T:=(qn (s.tm) 2++(b8 (s.ck)::(qG s++s.pl)))) hh (by rw[bL2T s hf hk];simp)
 obtain⟨g1,x1,v1⟩:=vM (v:=s.tm) (T:=(b8 (s.ck)::(qG s++s.pl))) g0 rfl
 obtain⟨g2,x2,v2⟩:=j1 (c:=b8 (s.ck)) (T:=(qG s++s.pl)) g1 rfl
 have ex:zY (rdr (ql s++(qG s++s.pl)) hh)=rdr (qG s++s.pl) g2:=by simp only[zY,x0,x1,x2]
 have c0:((b8 (32*(4+s.mr)+s.n)).toNat:Int)=32*(4+s.mr)+s.n:=xK (by omega)
 have f1:xP ((b8 (32*(4+s.mr)+s.n)).toNat:Int) 5=s.mr:=by rw[bi5 _ (b8 _).toNat_lt];omega
 have f2:yM ((b8 (32*(4+s.mr)+s.n)).toNat:Int) 31=s.n:=by rw[an31 _ (b8 _).toNat_lt];omega
 have f3:s.tm%65536=s.tm:=by omega
 have f4:((b8 s.ck).toNat:Int)=s.ck:=xK (by omega)
 have es:vL (rdr (ql s++(qG s++s.pl)) hh) s.h.k (s0 s.cx 2)={ s0 s.cx 2 with n:=s.n,tm:=s.tm,mr:=s.mr,ck:=s.ck,h:=Hd.mk s.h.k 0 0 0 0 0 0 0 0 0 0 0 0 0 0 }:=by
   simp only[vL,x0,x1,v0,v1,v2,f1,f2,f3,f4]
 rw[ex,es]
 refine jP s _ h (by omega) _ rfl ?_
 have e2:=e.symm
 rw[hf,a.2.2.2.1] at e2
 exact e2
theorem ret2U(s:Sm)(h:s.ok=true)(hf:s.f=2)(hk:s.h.k=1)(b:List UInt8)(hbb:b=hdL s++s.pl)(hh:(ql s++(qG s++s.pl)).length≤140737488355328):qX (decide (s.ud≠0)) (zX (rdr (ql s++(qG s++s.pl)) hh)) (vK (rdr (ql s++(qG s++s.pl)) hh) s.h.k (s0 s.cx 2)) b=.inl s:=by
 subst hbb
 obtain⟨e,hk2,hu,hl,hc⟩:=s.low h (by omega)
 have a:=low2U s hf hk hl hc
 obtain⟨g0,x0,v0⟩:=j1 (c:=b8 (32*(4+s.mr)+s.n)) (T:=(b8 (s.ck)::(qG s++s.pl))) hh (by rw[bL2U s hf hk];simp)
 obtain⟨g1,x1,v1⟩:=j1 (c:=b8 (s.ck)) (T:=(qG s++s.pl)) g0 rfl
 have ex:zX (rdr (ql s++(qG s++s.pl)) hh)=rdr (qG s++s.pl) g1:=by simp only[zX,x0,x1]
 have c0:((b8 (32*(4+s.mr)+s.n)).toNat:Int)=32*(4+s.mr)+s.n:=xK (by omega)
 have f1:xP ((b8 (32*(4+s.mr)+s.n)).toNat:Int) 5=s.mr:=by rw[bi5 _ (b8 _).toNat_lt];omega
 have f2:yM ((b8 (32*(4+s.mr)+s.n)).toNat:Int) 31=s.n:=by rw[an31 _ (b8 _).toNat_lt];omega
 have f4:((b8 s.ck).toNat:Int)=s.ck:=xK (by omega)
 have es:vK (rdr (ql s++(qG s++s.pl)) hh) s.h.k (s0 s.cx 2)={ s0 s.cx 2 with n:=s.n,mr:=s.mr,ck:=s.ck,h:=Hd.mk s.h.k 0 0 0 0 0 0 0 0 0 0 0 0 0 0 }:=by
   simp only[vK,x0,v0,v1,f1,f2,f4]
 rw[ex,es]
 refine jP s _ h (by omega) _ rfl ?_
 have e2:=e.symm
 rw[hf,a.2.1,a.2.2.2.1] at e2
 exact e2
theorem ret3T(s:Sm)(h:s.ok=true)(hf:s.f=3)(hk:s.h.k=2)(b:List UInt8)(hbb:b=hdL s++s.pl)(hh:(ql s++(qG s++s.pl)).length≤140737488355328):qX (decide (s.ud≠0)) (zW (rdr (ql s++(qG s++s.pl)) hh)) (vJ (rdr (ql s++(qG s++s.pl)) hh) s.h.k (s0 s.cx 3)) b=.inl s:=by
 subst hbb
 obtain⟨e,hk2,hu,hl,hc⟩:=s.low h (by omega)
 have a:=low3T s hf hk hl hc
 obtain⟨g0,x0,v0⟩:=j1 (c:=b8 (192+s.mr)) (T:=(b8 (s.n)::(qn (s.tm) 4++(qn (s.id) 2++(b8 (s.ck)::(qG s++s.pl)))))) hh (by rw[bL3T s hf hk];simp)
 obtain⟨g1,x1,v1⟩:=j1 (c:=b8 (s.n)) (T:=(qn (s.tm) 4++(qn (s.id) 2++(b8 (s.ck)::(qG s++s.pl))))) g0 rfl
 obtain⟨g2,x2,v2⟩:=key4 (v:=s.tm) (T:=(qn (s.id) 2++(b8 (s.ck)::(qG s++s.pl)))) g1 rfl
 obtain⟨g3,x3,v3⟩:=vM (v:=s.id) (T:=(b8 (s.ck)::(qG s++s.pl))) g2 rfl
 obtain⟨g4,x4,v4⟩:=j1 (c:=b8 (s.ck)) (T:=(qG s++s.pl)) g3 rfl
 have ex:zW (rdr (ql s++(qG s++s.pl)) hh)=rdr (qG s++s.pl) g4:=by simp only[zW,x0,x1,x2,x3,x4]
 have c0:((b8 (192+s.mr)).toNat:Int)=192+s.mr:=xK (by omega)
 have f1:yM ((b8 (192+s.mr)).toNat:Int) 1=s.mr:=by rw[an1 _ (b8 _).toNat_lt];omega
 have f2:((b8 s.n).toNat:Int)=s.n:=xK (by omega)
 have f3:s.tm%4294967296=s.tm:=by omega
 have f5:s.id%65536=s.id:=by omega
 have f4:((b8 s.ck).toNat:Int)=s.ck:=xK (by omega)
 have es:vJ (rdr (ql s++(qG s++s.pl)) hh) s.h.k (s0 s.cx 3)={ s0 s.cx 3 with n:=s.n,tm:=s.tm,mr:=s.mr,id:=s.id,ck:=s.ck,h:=Hd.mk s.h.k 0 0 0 0 0 0 0 0 0 0 0 0 0 0 }:=by
   simp only[vJ,x0,x1,x2,x3,v0,v1,v2,v3,v4,f1,f2,f3,f4,f5]
 rw[ex,es]
 refine jP s _ h (by omega) _ rfl ?_
 have e2:=e.symm
 rw[hf] at e2
 exact e2
theorem ret3U(s:Sm)(h:s.ok=true)(hf:s.f=3)(hk:s.h.k=1)(b:List UInt8)(hbb:b=hdL s++s.pl)(hh:(ql s++(qG s++s.pl)).length≤140737488355328):qX (decide (s.ud≠0)) (zV (rdr (ql s++(qG s++s.pl)) hh)) (vI (rdr (ql s++(qG s++s.pl)) hh) s.h.k (s0 s.cx 3)) b=.inl s:=by
 subst hbb
 obtain⟨e,hk2,hu,hl,hc⟩:=s.low h (by omega)
 have a:=low3U s hf hk hl hc
 obtain⟨g0,x0,v0⟩:=j1 (c:=b8 (192+s.mr)) (T:=(qn (s.n) 2++(b8 (s.ck)::(qG s++s.pl)))) hh (by rw[bL3U s hf hk];simp)
 obtain⟨g1,x1,v1⟩:=vM (v:=s.n) (T:=(b8 (s.ck)::(qG s++s.pl))) g0 rfl
 obtain⟨g2,x2,v2⟩:=j1 (c:=b8 (s.ck)) (T:=(qG s++s.pl)) g1 rfl
 have ex:zV (rdr (ql s++(qG s++s.pl)) hh)=rdr (qG s++s.pl) g2:=by simp only[zV,x0,x1,x2]
 have c0:((b8 (192+s.mr)).toNat:Int)=192+s.mr:=xK (by omega)
 have f1:yM ((b8 (192+s.mr)).toNat:Int) 1=s.mr:=by rw[an1 _ (b8 _).toNat_lt];omega
 have f3:s.n%65536=s.n:=by omega
 have f4:((b8 s.ck).toNat:Int)=s.ck:=xK (by omega)
 have es:vI (rdr (ql s++(qG s++s.pl)) hh) s.h.k (s0 s.cx 3)={ s0 s.cx 3 with n:=s.n,mr:=s.mr,ck:=s.ck,h:=Hd.mk s.h.k 0 0 0 0 0 0 0 0 0 0 0 0 0 0 }:=by
   simp only[vI,x0,x1,v0,v1,v2,f1,f3,f4]
 rw[ex,es]
 refine jP s _ h (by omega) _ rfl ?_
 have e2:=e.symm
 rw[hf,a.2.1,a.2.2.2.1] at e2
 exact e2
open Go.RowKit
theorem udp0(h:Hd)(k:h.ok=true)(hk:h.k=1):h.mr=0∧h.ty=0∧h.sq=0∧h.tm=0∧h.sr=0:=by
 unfold Hd.ok at k
 rw[if_pos hk] at k
 simp only[Bool.and_eq_true,udpR,decide_eq_true_eq] at k
 exact k.2
theorem some_ck(c:Int)(h:0≤c):xX c=if c=0 then 0 else 1:=by
 unfold xX
 split<;>split<;>omega
theorem flagsR(fx sm fo mr:Int)(h1:fx=0∨fx=1)(h2:sm=0∨sm=1)(h3:fo=0∨fo=1)(h4:mr=0∨mr=1) :
   xP ((b8 (128*fx+64*sm+32*fo+16*mr)).toNat:Int) 7=fx∧xP ((b8 (128*fx+64*sm+32*fo+16*mr)).toNat:Int) 6=sm∧xP ((b8 (128*fx+64*sm+32*fo+16*mr)).toNat:Int) 5=fo∧xP ((b8 (128*fx+64*sm+32*fo+16*mr)).toNat:Int) 4=mr:=by
 have e:=xK (v:=128*fx+64*sm+32*fo+16*mr) (by omega)
 rw[bi7 _ (b8 _).toNat_lt,bi6 _ (b8 _).toNat_lt,bi5 _ (b8 _).toNat_lt,bi4 _ (b8 _).toNat_lt]
 omega
theorem dynT_ret(s':Sm)(h:Hd)(d:Dy)(Z L:List UInt8)(hk:h.k=2)(ho:h.ok=true)(hd:d.ok=true)(hL:L=vo h d++Z)(hh:L.length≤140737488355328) :
   ∃hz,qK (rdr L hh)=rdr Z hz∧wa (rdr L hh) s'={ s' with h:={ s'.h with tos:=h.tos,ttl:=h.ttl,fx:=h.fx,mr:=h.mr,ty:=h.ty,sq:=h.sq,id:=h.id,tm:=h.tm },d:=d }∧xP (xO (rdr L hh)) 6=xX h.ck:=by
 have a:=h.of ho
 have b:=d.of hd
 have c:=some01 h.ck (by omega)
 have f:=flagsR h.fx (xX h.ck) d.fo h.mr (by omega) c b.2 (by omega)
 have e:L=b8 h.tos::b8 h.ttl::b8 (128*h.fx+64*xX h.ck+32*d.fo+16*h.mr)::b8 h.ty::(qn h.sq 2++(qn h.id 2++(qn h.tm 4++(qn d.st 2++Z)))):=by
   rw[hL];unfold vo;rw[if_pos hk];simp
 obtain⟨g0,x0,v0⟩:=j1 hh e
 obtain⟨g1,x1,v1⟩:=j1 g0 rfl
 obtain⟨g2,x2,v2⟩:=j1 g1 rfl
 obtain⟨g3,x3,v3⟩:=j1 g2 rfl
 obtain⟨g4,x4,v4⟩:=vM g3 rfl
 obtain⟨g5,x5,v5⟩:=vM g4 rfl
 obtain⟨g6,x6,v6⟩:=key4 g5 rfl
 obtain⟨g7,x7,v7⟩:=vM g6 rfl
 have c0:((b8 h.tos).toNat:Int)=h.tos:=xK (by omega)
 have c1:((b8 h.ttl).toNat:Int)=h.ttl:=xK (by omega)
 have c3:((b8 h.ty).toNat:Int)=h.ty:=xK (by omega)
 have c4:h.sq%65536=h.sq:=by omega
 have c5:h.id%65536=h.id:=by omega
 have c6:h.tm%4294967296=h.tm:=by omega
 have c7:d.st%65536=d.st:=by omega
 refine⟨g7,?_,?_,?_⟩
 · simp only[qK,vP,x0,x1,x2,x3,x4,x5,x6,x7]
 · simp only[wa,xO,vP,x0,x1,x2,x3,x4,x5,x6,v0,v1,v2,v3,v4,v5,v6,v7,c0,c1,c3,c4,c5,c6,c7,f.1,f.2.2.1,f.2.2.2]
 · simp only[xO,x0,x1,v2,f.2.1]
theorem dynU_ret(s':Sm)(h:Hd)(d:Dy)(Z L:List UInt8)(hk:h.k=1)(ho:h.ok=true)(hd:d.ok=true)(hL:L=vo h d++Z)(hh:L.length≤140737488355328) :
   ∃hz,qI (rdr L hh)=rdr Z hz∧w9 (rdr L hh) s'={ s' with h:={ s'.h with tos:=h.tos,ttl:=h.ttl,fx:=h.fx,mr:=h.mr,id:=h.id },d:={ s'.d with fo:=d.fo } }∧xP (xO (rdr L hh)) 6=xX h.ck:=by
 have a:=h.of ho
 have b:=d.of hd
 have c:=some01 h.ck (by omega)
 have f:=flagsR h.fx (xX h.ck) d.fo h.mr (by omega) c b.2 (by omega)
 have e:L=b8 h.tos::b8 h.ttl::b8 (128*h.fx+64*xX h.ck+32*d.fo+16*h.mr)::(qn h.id 2++Z):=by
   rw[hL];unfold vo;rw[if_neg (by omega)];simp
 obtain⟨g0,x0,v0⟩:=j1 hh e
 obtain⟨g1,x1,v1⟩:=j1 g0 rfl
 obtain⟨g2,x2,v2⟩:=j1 g1 rfl
 obtain⟨g3,x3,v3⟩:=vM g2 rfl
 have c0:((b8 h.tos).toNat:Int)=h.tos:=xK (by omega)
 have c1:((b8 h.ttl).toNat:Int)=h.ttl:=xK (by omega)
 have c5:h.id%65536=h.id:=by omega
 refine⟨g3,?_,?_,?_⟩
 · simp only[qI,vP,x0,x1,x2,x3]
 · simp only[w9,xO,vP,x0,x1,x2,v0,v1,v2,v3,c0,c1,c5,f.1,f.2.2.1,f.2.2.2]
 · simp only[xO,x0,x1,v2,f.2.1]
theorem big_ret(s s':Sm)(h:s.ok=true)(hf:s.f=4∨s.f=5)(fl:Int)(hfl:xP fl 6=xX s.h.ck)(L:List UInt8)(hL:L=b8 s.ck::(qG s++s.pl))(hh:L.length≤140737488355328)(hck:qW (cbR s.f) s.ck=true)(hc0:s'.h.ck=0)(hs:{ s' with h:={ s'.h with ck:=s.h.ck },ck:=s.ck,pl:=s.pl }=s):ku (rdr L hh) s' fl (hdL s++s.pl)=.inl s:=by
 have hr:=sum_rng s h
 have e1:jM s=s.h.ck:=by rw[yT,if_pos hf]
 have e8:cbR s.f=(8:Nat):=by rcases hf with e|e<;>rw[e]<;>rfl
 rw[e8] at hck
 have hck:=(xb 8 _).1 hck
 have cv:((b8 s.ck).toNat:Int)=s.ck:=xK (by omega)
 obtain⟨g0,x0,v0⟩:=j1 hh hL
 have sm:=some_ck s.h.ck (by omega)
 by_cases h0:s.h.ck=0
 · rw[if_pos h0] at sm
   rw[big_f (by omega),x0,v0,cv]
   have e2:qG s=[]:=if_pos (by rw[e1,h0])
   have key:∀(M:List UInt8) (h1:(M++s.pl).length≤140737488355328),M=[]→xw (rdr (M++s.pl) h1) (wck s' s.ck) (hdL s++s.pl)=.inl s:=by
     intro M h1 e;subst e
     exact yD s _ h h1 ((show({ wck s' s.ck with pl:=s.pl }:Sm)={ s' with h:={ s'.h with ck:=s.h.ck },ck:=s.ck,pl:=s.pl } from by rw[h0,←hc0]).trans hs)
   exact key _ g0 e2
 · rw[if_neg h0] at sm
   rw[big_t (by omega),x0,v0,cv]
   have e2:qG s=qn s.h.ck 2:=by unfold qG;rw[e1,if_neg h0]
   obtain⟨g1,x1,v1⟩:=vM (L:=qG s++s.pl) (v:=s.h.ck) (T:=s.pl) g0 (by rw[e2])
   rw[x1,v1,show s.h.ck%65536=s.h.ck by omega]
   exact yD s _ h g1 hs
theorem Sm.big(s:Sm)(h:s.ok=true)(hf:s.f=4∨s.f=5):(s.n=0∧s.tm=0∧s.mr=0∧s.id=0∧s.ud=0)∧s.h.ok=true∧s.d.ok=true∧(s.h.k=1→s.d.st=0∧s.d.fo=0)∧(s.f=5∨s.h.fr=0∧s.h.to=0∧s.h.fp=0∧s.h.tp=0∧s.h.sr=0)∧qW (cbR s.f) s.ck=true:=by
 obtain⟨h1,h2,h3⟩:=s.of h
 rcases h3 with ⟨h3,-⟩|⟨h3,h4,h5⟩|⟨h3,-⟩
 · omega
 · unfold ji at h4
   unfold jL szR dzR at h5
   simp only[Bool.and_eq_true,decide_eq_true_eq,Bool.or_eq_true,Bool.not_eq_true',Bool.and_eq_false_iff,decide_eq_false_iff_not,Bool.not_eq_false',Decidable.not_not] at h4 h5
   refine⟨h4,h5.1,h5.2.1,fun hk=>?_,h5.2.2.2,h2⟩
   rcases h5.2.2.1 with e|e
   · exact absurd hk e
   · exact e
 · omega
open Go.RowKit
theorem statT_ret(s':Sm)(h:Hd)(Z L:List UInt8)(hk:h.k=2)(ho:h.ok=true)(hL:L=yh h++Z)(hh:L.length≤140737488355328) :
   ∃hz,rtk 4 (stX (rdr L hh))=rdr Z hz∧stT (rdr L hh) s'={ s' with h:={ s'.h with k:=h.k,fr:=h.fr,to:=h.to,fp:=h.fp,tp:=h.tp,sr:=h.sr } }∧rE (rtk 1 (rdr L hh))=false∧rv 1 (rdr L hh)=2:=by
 have a:=h.of ho
 have e:L=b8 h.k::(qn h.fr 4++(qn h.to 4++(qn h.fp 2++(qn h.tp 2++(qn h.sr 4++Z))))):=by
   rw[hL];unfold yh;rw[if_pos hk];simp
 obtain⟨g0,x0,v0⟩:=j1 hh e
 obtain⟨g1,x1,v1⟩:=key4 g0 rfl
 obtain⟨g2,x2,v2⟩:=key4 g1 rfl
 obtain⟨g3,x3,v3⟩:=vM g2 rfl
 obtain⟨g4,x4,v4⟩:=vM g3 rfl
 obtain⟨g5,x5,v5⟩:=key4 g4 rfl
 have c0:((b8 h.k).toNat:Int)=h.k:=xK (by omega)
 have c1:h.fr%4294967296=h.fr:=by omega
 have c2:h.to%4294967296=h.to:=by omega
 have c3:h.fp%65536=h.fp:=by omega
 have c4:h.tp%65536=h.tp:=by omega
 have c5:h.sr%4294967296=h.sr:=by omega
 refine⟨g5,?_,?_,?_,?_⟩
 · simp only[stX,x0,x1,x2,x3,x4,x5]
 · simp only[stT,stH,stX,x0,x1,x2,x3,x4,v0,v1,v2,v3,v4,v5,c0,c1,c2,c3,c4,c5]
 · rw[x0];exact rE_rdr _ _
 · rw[v0,c0,hk]
theorem statU_ret(s':Sm)(h:Hd)(Z L:List UInt8)(hk:h.k=1)(ho:h.ok=true)(hL:L=yh h++Z)(hh:L.length≤140737488355328) :
   ∃hz,stX (rdr L hh)=rdr Z hz∧stH (rdr L hh) s'={ s' with h:={ s'.h with k:=h.k,fr:=h.fr,to:=h.to,fp:=h.fp,tp:=h.tp } }∧rE (rtk 1 (rdr L hh))=false∧rv 1 (rdr L hh)=1:=by
 have a:=h.of ho
 have e:L=b8 h.k::(qn h.fr 4++(qn h.to 4++(qn h.fp 2++(qn h.tp 2++Z)))):=by
   rw[hL];unfold yh;rw[if_neg (by omega)];simp
 obtain⟨g0,x0,v0⟩:=j1 hh e
 obtain⟨g1,x1,v1⟩:=key4 g0 rfl
 obtain⟨g2,x2,v2⟩:=key4 g1 rfl
 obtain⟨g3,x3,v3⟩:=vM g2 rfl
 obtain⟨g4,x4,v4⟩:=vM g3 rfl
 have c0:((b8 h.k).toNat:Int)=h.k:=xK (by omega)
 have c1:h.fr%4294967296=h.fr:=by omega
 have c2:h.to%4294967296=h.to:=by omega
 have c3:h.fp%65536=h.fp:=by omega
 have c4:h.tp%65536=h.tp:=by omega
 refine⟨g4,?_,?_,?_,?_⟩
 · simp only[stX,x0,x1,x2,x3,x4]
 · simp only[stH,x0,x1,x2,x3,v0,v1,v2,v3,v4,c0,c1,c2,c3,c4]
 · rw[x0];exact rE_rdr _ _
 · rw[v0,c0,hk]
theorem ret4T(s:Sm)(h:s.ok=true)(hf:s.f=4)(hk:s.h.k=2)(hh:(ql s++(qG s++s.pl)).length≤140737488355328)(X:Rdr)(hX:X=rdr (ql s++(qG s++s.pl)) hh) :
   ku (qK (rtk 1 X)) (wa (rtk 1 X) (hdk (s0 s.cx 4) 2)) (xO (rtk 1 X)) (hdL s++s.pl)=.inl s:=by
 subst hX
 obtain⟨hn,ho,hd,-,hz,hc⟩:=s.big h (.inl hf)
 obtain⟨g0,x0,-⟩:=j1 (c:=b8 208) (T:=vo s.h s.d++(b8 s.ck::(qG s++s.pl))) hh (by rw[bL4 s hf];simp)
 rw[x0]
 obtain⟨g1,x1,x2,x3⟩:=dynT_ret (hdk (s0 s.cx 4) 2) s.h s.d _ _ hk ho hd rfl g0
 rw[x1,x2]
 refine big_ret s _ h (.inl hf) _ x3 _ rfl g1 hc rfl ?_
 obtain⟨cx,f,n,tm,mr,id,ud,⟨k,tos,hid,fx,ttl,fr,to,fp,tp,hck,hmr,ty,sq,htm,sr⟩,⟨st,fo⟩,ck,pl⟩:=s
 simp only at hf hk hn hz
 obtain⟨rfl,rfl,rfl,rfl,rfl⟩:=hn
 obtain⟨rfl,rfl,rfl,rfl,rfl⟩:=hz.resolve_left (by omega)
 subst hf hk
 rfl
theorem ret4U(s:Sm)(h:s.ok=true)(hf:s.f=4)(hk:s.h.k=1)(hh:(ql s++(qG s++s.pl)).length≤140737488355328)(X:Rdr)(hX:X=rdr (ql s++(qG s++s.pl)) hh) :
   ku (qI (rtk 1 X)) (w9 (rtk 1 X) (hdk (s0 s.cx 4) 1)) (xO (rtk 1 X)) (hdL s++s.pl)=.inl s:=by
 subst hX
 obtain⟨hn,ho,hd,hy,hz,hc⟩:=s.big h (.inl hf)
 have hu:=udp0 s.h ho hk
 have hy2:=hy hk
 obtain⟨g0,x0,-⟩:=j1 (c:=b8 208) (T:=vo s.h s.d++(b8 s.ck::(qG s++s.pl))) hh (by rw[bL4 s hf];simp)
 rw[x0]
 obtain⟨g1,x1,x2,x3⟩:=dynU_ret (hdk (s0 s.cx 4) 1) s.h s.d _ _ hk ho hd rfl g0
 rw[x1,x2]
 refine big_ret s _ h (.inl hf) _ x3 _ rfl g1 hc rfl ?_
 obtain⟨cx,f,n,tm,mr,id,ud,⟨k,tos,hid,fx,ttl,fr,to,fp,tp,hck,hmr,ty,sq,htm,sr⟩,⟨st,fo⟩,ck,pl⟩:=s
 simp only at hf hk hn hz hu hy2
 obtain⟨rfl,rfl,rfl,rfl,rfl⟩:=hn
 obtain⟨rfl,rfl,rfl,rfl,-⟩:=hz.resolve_left (by omega)
 obtain⟨rfl,rfl,rfl,rfl,rfl⟩:=hu
 obtain⟨rfl,rfl⟩:=hy2
 subst hf hk
 rfl
theorem ret5(s:Sm)(h:s.ok=true)(hf:s.f=5)(hh:(ql s++(qG s++s.pl)).length≤140737488355328)(X:Rdr)(hX:X=rdr (ql s++(qG s++s.pl)) hh) :
   w5 s.cx (rtk 1 X) (hdL s++s.pl)=.inl s:=by
 subst hX
 obtain⟨hn,ho,hd,hy,-,hc⟩:=s.big h (.inr hf)
 obtain⟨g0,x0,-⟩:=j1 (c:=b8 209) (T:=yh s.h++(vo s.h s.d++(b8 s.ck::(qG s++s.pl)))) hh (by rw[bL5 s hf];simp)
 rw[x0]
 rcases(s.h.of ho).1 with hk|hk
 · obtain⟨g1,y1,y2,y3,y4⟩:=statU_ret (s0 s.cx 5) s.h _ _ hk ho rfl g0
   rw[full_u y3 y4,y1,y2]
   obtain⟨g2,x1,x2,x3⟩:=dynU_ret { s0 s.cx 5 with h:={ (s0 s.cx 5).h with k:=s.h.k,fr:=s.h.fr,to:=s.h.to,fp:=s.h.fp,tp:=s.h.tp } } s.h s.d _ _ hk ho hd rfl g1
   rw[x1,x2]
   refine big_ret s _ h (.inr hf) _ x3 _ rfl g2 hc rfl ?_
   have hu:=udp0 s.h ho hk
   have hy2:=hy hk
   obtain⟨cx,f,n,tm,mr,id,ud,⟨k,tos,hid,fx,ttl,fr,to,fp,tp,hck,hmr,ty,sq,htm,sr⟩,⟨st,fo⟩,ck,pl⟩:=s
   simp only at hf hk hn hu hy2
   obtain⟨rfl,rfl,rfl,rfl,rfl⟩:=hn
   obtain⟨rfl,rfl,rfl,rfl,rfl⟩:=hu
   obtain⟨rfl,rfl⟩:=hy2
   subst hf hk
   rfl
 · obtain⟨g1,y1,y2,y3,y4⟩:=statT_ret (s0 s.cx 5) s.h _ _ hk ho rfl g0
   rw[full_t y3 y4,y1,y2]
   obtain⟨g2,x1,x2,x3⟩:=dynT_ret { s0 s.cx 5 with h:={ (s0 s.cx 5).h with k:=s.h.k,fr:=s.h.fr,to:=s.h.to,fp:=s.h.fp,tp:=s.h.tp,sr:=s.h.sr } } s.h s.d _ _ hk ho hd rfl g1
   rw[x1,x2]
   refine big_ret s _ h (.inr hf) _ x3 _ rfl g2 hc rfl ?_
   obtain⟨cx,f,n,tm,mr,id,ud,⟨k,tos,hid,fx,ttl,fr,to,fp,tp,hck,hmr,ty,sq,htm,sr⟩,⟨st,fo⟩,ck,pl⟩:=s
   simp only at hf hk hn
   obtain⟨rfl,rfl,rfl,rfl,rfl⟩:=hn
   subst hf hk
   rfl
theorem ret6(s:Sm)(h:s.ok=true)(hf:s.f=6)(hh:(ql s++(qG s++s.pl)).length≤140737488355328)(X:Rdr)(hX:X=rdr (ql s++(qG s++s.pl)) hh) :
   xw (rtk 1 X) (s0 s.cx 6) (hdL s++s.pl)=.inl s:=by
 subst hX
 obtain⟨-,-,h3⟩:=s.of h
 obtain⟨hn,hc,hz,hd⟩:ji s=true∧(s.cx=0∧s.ck=0)∧hzR s.h 0=true∧dzR s.d=true:=by
   rcases h3 with ⟨h3,-⟩|⟨h3,-⟩|⟨-,h4,h5,h6,h7⟩
   · omega
   · omega
   · exact⟨h4,h5,h6,h7⟩
 unfold ji at hn
 unfold hzR at hz
 unfold dzR at hd
 simp only[decide_eq_true_eq] at hn hz hd
 have e1:qG s=[]:=if_pos (by rw[yT,if_neg (by omega)];omega)
 obtain⟨g0,x0,-⟩:=j1 (c:=b8 210) (T:=s.pl) hh (by rw[bL6 s hf,e1];simp)
 rw[x0]
 refine yD s _ h g0 ?_
 obtain⟨cx,f,n,tm,mr,id,ud,⟨k,tos,hid,fx,ttl,fr,to,fp,tp,hck,hmr,ty,sq,htm,sr⟩,⟨st,fo⟩,ck,pl⟩:=s
 simp only at hf hn hz hd hc
 obtain⟨rfl,rfl,rfl,rfl,rfl⟩:=hn
 obtain⟨rfl,rfl,rfl,rfl,rfl,rfl,rfl,rfl,rfl,rfl,rfl,rfl,rfl,rfl,rfl⟩:=hz
 obtain⟨rfl,rfl⟩:=hd
 obtain⟨rfl,rfl⟩:=hc
 subst hf
 rfl
theorem ret_dec(s:Sm)(h:s.ok=true)(hb:(hdL s++s.pl).length≤140737488355328):qU (hdL s++s.pl) hb s.h.k (decide (s.ud≠0))=.inl s:=by
 have hk:s.f≤4→s.h.k=1∨s.h.k=2:=fun hf=>by
   obtain⟨-,-,h3⟩:=s.of h
   rcases h3 with ⟨-,-,h4,-⟩|⟨h3,-⟩|⟨h3,-⟩
   · exact h4
   · exact(s.h.of (s.big h h3).2.1).1
   · omega
 have h6:s.f=1∨s.f=2∨s.f=3∨s.f=4∨s.f=5∨s.f=6:=by
   obtain⟨-,-,h3⟩:=s.of h
   omega
 rw[vp (ym s h s.pl) (by omega)]
 obtain⟨hh,e⟩:=ret_start s s.pl hb
 rw[e]
 unfold decB
 rcases h6 with hf|hf|hf|hf|hf|hf
 · rw[if_pos hf]
   exact ret1 s h hf _ rfl hh
 · rw[if_neg (by omega),if_pos hf]
   rcases hk (by omega) with h7|h7
   · rw[if_neg (by omega)];exact ret2U s h hf h7 _ rfl hh
   · rw[if_pos h7];exact ret2T s h hf h7 _ rfl hh
 · rw[if_neg (by omega),if_neg (by omega),if_pos hf]
   rcases hk (by omega) with h7|h7
   · rw[if_neg (by omega)];exact ret3U s h hf h7 _ rfl hh
   · rw[if_pos h7];exact ret3T s h hf h7 _ rfl hh
 · rw[if_neg (by omega),if_neg (by omega),if_neg (by omega),if_pos hf]
   rcases hk (by omega) with h7|h7
   · rw[if_neg (by omega),h7];exact ret4U s h hf h7 hh _ rfl
   · rw[if_pos h7,h7];exact ret4T s h hf h7 hh _ rfl
 · rw[if_neg (by omega),if_neg (by omega),if_neg (by omega),if_neg (by omega),if_pos hf]
   exact ret5 s h hf hh _ rfl
 · rw[if_neg (by omega),if_neg (by omega),if_neg (by omega),if_neg (by omega),if_neg (by omega)]
   exact ret6 s h hf hh _ rfl
open Go.RowKit
variable {G:Nat→AV}
theorem y7{s:Sm}(h:s.ok=true):zo s=(hdL s++s.pl,0):=if_pos h
open Go.RowKit
variable {G:Nat→AV}
theorem dse_0{D:Sm⊕Int}(hD:∀e,D=.inr e→e≠0)(h:dse D=0):∃s,D=.inl s:=by
 cases D with
 | inl s=>exact⟨s,rfl⟩
 | inr e=>exact absurd h (hD e rfl)
theorem fin_err{X:Rdr}{s:Sm}{b:List UInt8}:(∀e,xw X s b=.inr e→e≠0)∧∀s',xw X s b=.inl s'→zo s'=(b,0):=by
 unfold xw
 constructor
 · intro e h
   split at h
   · cases h;decide
   · split at h
     · cases h
     · cases h;decide
 · intro s' h
   split at h
   · cases h
   · split at h
     · rename_i h2;cases h;exact h2
     · cases h
def okD(b:List UInt8)(D:Sm⊕Int):Prop:=(∀e,D=.inr e→e≠0)∧∀s,D=.inl s→zo s=(b,0)
theorem yv{b:List UInt8}{e:Int}(h:e≠0):okD b (.inr e):=⟨fun e' h'=>by cases h';exact h,fun s h'=>by cases h'⟩
theorem okD_small{ck:Bool}{X:Rdr}{s:Sm}{b:List UInt8}:okD b (qX ck X s b):=by
 unfold qX
 split
 · split
   · exact yv (by decide)
   · split
     · exact yv (by decide)
     · exact fin_err
 · exact fin_err
theorem okD_big{X:Rdr}{s:Sm}{fl:Int}{b:List UInt8}:okD b (ku X s fl b):=by
 unfold ku
 split<;>exact fin_err
theorem okD_dec(b:List UInt8)(hb:b.length≤140737488355328)(k:Int)(ck:Bool):okD b (qU b hb k ck):=by
 unfold qU
 split
 · rename_i h;exact yv h
 · split
   · exact yv (by decide)
   · unfold decB w5
     (repeat' split)<;>first|exact okD_small|exact okD_big|exact fin_err|exact yv (by decide)
open Go.RowKit
theorem dsm_inl(s:Sm):dsm (.inl s)=s:=by unfold dsm;rfl
theorem dec_good{b:List UInt8}{hb:b.length≤140737488355328}{k:Int}{ck:Bool}(h:dse (qU b hb k ck)=0):∃s,qU b hb k ck=.inl s∧s.ok=true∧b=hdL s++s.pl∧qp b=(s.cx,s.f,0):=by
 have h1:=okD_dec b hb k ck
 obtain⟨s,hs⟩:=dse_0 h1.1 h
 have h2:=h1.2 s hs
 have h3:s.ok=true:=by
   unfold zo at h2
   split at h2
   · assumption
   · cases h2
 rw[y7 h3] at h2
 have h4:hdL s++s.pl=b:=congrArg Prod.fst h2
 exact⟨s,hs,h3,h4.symm,h4▸ym s h3 s.pl⟩
theorem sm_n{s:Sm}(h:s.ok=true)(h6:s.f≠6):(1≤s.f∧s.f≤5)∧0≤s.n∧s.n<65536:=by
 obtain⟨-,hc,h3⟩:=s.of h
 rcases h3 with ⟨hf,hl,hk,-,-⟩|⟨hf,-⟩|⟨hf,-⟩
 · rcases hf with hf|hf|hf
   · have:=(low1 s hf hl hc).1;omega
   · rcases hk with hk|hk
     · have:=(low2U s hf hk hl hc).1;omega
     · have:=(low2T s hf hk hl hc).1;omega
   · rcases hk with hk|hk
     · have:=(low3U s hf hk hl hc).1;omega
     · have:=(low3T s hf hk hl hc).1;omega
 · have:=(s.big h hf).1.1;omega
 · exact absurd hf h6
theorem fmr6{c:UInt8}(h:fmR c=6):c=210:=by
 have:c.toNat=210:=by
   unfold fmR at h
   (repeat' split at h)<;>omega
 exact UInt8.toNat_inj.1 this
theorem peek6{b:List UInt8}{c:Int}(h:qp b=(c,6,0)):∃r,b=210::r∧c=0:=by
 match b with
 | []=>cases h
 | a::r =>
   simp only[qp] at h
   split at h
   · match r with
     | []=>cases h
     | d::r =>
       simp only at h
       split at h
       · cases h
       · rename_i h2
         have h3:fmR d=6:=congrArg (fun x=>x.2.1) h
         exact absurd (fmr6 h3) (fun e=>h2 (.inr (.inr (by rw[e];rfl))))
   · split at h
     · cases h
     · have h3:fmR a=6:=congrArg (fun x=>x.2.1) h
       have h4:(0:Int)=c:=congrArg (fun x=>x.1) h
       exact⟨r,by rw[fmr6 h3],h4.symm⟩
def yo(r:List UInt8):Sm:=⟨0,6,0,0,0,0,0,Hd.z,Dy.z,0,r⟩
theorem rawD_ok(r:List UInt8):(yo r).ok=decide (r.length≤1500):=by
 have:(yo r).ok=(topR (yo r)&&true):=rfl
 rw[this,Bool.and_true]
 unfold topR
 have h8:qW (cbR (yo r).f) (yo r).ck=true:=(xb 8 0).2 (by decide)
 rw[h8,Bool.and_true]
 simp[yo]
theorem rawD_hd(r:List UInt8):hdL (yo r)=[210]:=by
 have h1:¬0<(yo r).cx:=by show ¬(0:Int)<0;decide
 have h2:qG (yo r)=[]:=by
   unfold qG jM
   rfl
 rw[hdL_s,pre_neg h1,bL6 _ rfl,h2]
 rfl
theorem dec6(r:List UInt8)(hb:(210::r).length≤140737488355328):qU (210::r) hb 0 false=if r.length≤1500 then .inl (yo r) else .inr 4:=by
 have hp:qp (210::r)=(0,6,0):=rfl
 rw[vp hp (by omega),if_neg (by decide)]
 show xw (rtk 1 (rdr (210::r) hb)) (s0 0 6) (210::r)=_
 rw[rdr1]
 unfold xw
 rw[rE_rdr,if_neg (by decide)]
 have e:wpl (s0 0 6) (rdr r (by simp at hb;omega))=yo r:=by
   show({ s0 0 6 with pl:=rL (rdr r _) }:Sm)=_
   rw[rL_rdr];rfl
 rw[e]
 unfold zo
 rw[rawD_ok,rawD_hd]
 by_cases h:r.length≤1500
 · rw[decide_eq_true h,if_pos h,if_pos (show(true:Bool)=true from rfl)]
   exact if_pos rfl
 · rw[decide_eq_false h,if_neg h,if_neg (by decide:¬(false:Bool)=true)]
   exact if_neg (fun e=>by cases e)
theorem dec6_e(r:List UInt8)(hb:(210::r).length≤140737488355328):(dse (qU (210::r) hb 0 false)=0∧(dsm (qU (210::r) hb 0 false)).pl≠[])↔1≤r.length∧r.length≤1500:=by
 rw[dec6]
 by_cases h:r.length≤1500
 · rw[if_pos h,dsm_inl]
   unfold dse
   simp only[yo,true_and,ne_eq,h,and_true]
   rw[←List.length_eq_zero_iff]
   omega
 · rw[if_neg h]
   unfold dse
   simp only[h,and_false,iff_false]
   intro h;exact absurd h.1 (by decide)
theorem dec6_p(r:List UInt8)(hb:(210::r).length≤140737488355328)(h:r.length≤1500):dsm (qU (210::r) hb 0 false)=yo r:=by rw[dec6,if_pos h,dsm_inl]
section
variable {d:De}{b:List UInt8}{hb:b.length≤140737488355328}{c f e:Int}{r:Rc}
theorem dcp_n(h:d.ok=false):qq d b hb=⟨De.z,[],[],1⟩:=by unfold qq;rw[if_neg (by rw[h];decide)]
theorem dcp_e(h:d.ok=true)(hp:qp b=(c,f,e))(he:e≠0):qq d b hb=⟨d,[],[],e⟩:=by unfold qq;rw[if_pos h,hp,if_neg he]
theorem dcp_6y(h:d.ok=true)(hp:qp b=(c,6,0))(h6:dse (qU b hb 0 false)=0∧(dsm (qU b hb 0 false)).pl≠[]):qq d b hb=⟨d,(dsm (qU b hb 0 false)).pl,[],0⟩:=by
 unfold qq;rw[if_pos h,hp,if_pos rfl,if_pos rfl,if_pos h6]
theorem dcp_6n(h:d.ok=true)(hp:qp b=(c,6,0))(h6:¬(dse (qU b hb 0 false)=0∧(dsm (qU b hb 0 false)).pl≠[])):qq d b hb=⟨d,[],[],4⟩:=by
 unfold qq;rw[if_pos h,hp,if_pos rfl,if_pos rfl,if_neg h6]
theorem dcp_c(h:d.ok=true)(hp:qp b=(c,f,0))(h6:f≠6)(hr:d.cx.getD c.toNat Rc.z=r)(hs:r.st<xE f):qq d b hb=⟨d,[],we d.m c r,8⟩:=by
 subst hr;unfold qq;rw[if_pos h,hp,if_pos rfl,if_neg h6,if_pos hs]
theorem dcp_d(h:d.ok=true)(hp:qp b=(c,f,0))(h6:f≠6)(hr:d.cx.getD c.toNat Rc.z=r)(hs:¬r.st<xE f)(hd:dse (qU b hb r.la.k (decide (r.la.ck≠0)))≠0):qq d b hb=⟨d,[],[],dse (qU b hb r.la.k (decide (r.la.ck≠0)))⟩:=by
 subst hr;unfold qq;rw[if_pos h,hp,if_pos rfl,if_neg h6,if_neg hs,if_neg hd]
theorem dcp_g(h:d.ok=true)(hp:qp b=(c,f,0))(h6:f≠6)(hr:d.cx.getD c.toNat Rc.z=r)(hs:¬r.st<xE f){s:Sm}(hd:qU b hb r.la.k (decide (r.la.ck≠0))=.inl s):qq d b hb=decP d c r s:=by
 subst hr;unfold qq;rw[if_pos h,hp,if_pos rfl,if_neg h6,if_neg hs]
 simp only[hd,dsm_inl,dse,if_true]
theorem decP_f{s:Sm}{x:Hd}(h:xM d.m r s=(x,false)):decP d c r s=⟨d.set c (wW r),[],we d.m c (wW r),6⟩:=by unfold decP;rw[h]
theorem decP_b{s:Sm}{x:Hd}(h:xM d.m r s=(x,true))(hb:(zh x s.pl).2≠0):decP d c r s=⟨d,[],[],(zh x s.pl).2⟩:=by unfold decP;rw[h];simp only;rw[if_neg hb]
theorem decP_g{s:Sm}{x:Hd}(h:xM d.m r s=(x,true))(hb:(zh x s.pl).2=0):decP d c r s=⟨d.set c (ky r s x),(zh x s.pl).1,vv d.m c s x,0⟩:=by unfold decP;rw[h];simp only;rw[if_pos hb]
theorem vq(h:d.ok=true)(h0:0≤c)(h1:c<16):(1≤d.m∧d.m≤3)∧d.cx.length=16∧(d.cx.getD c.toNat Rc.z).ok=true:=by
 unfold De.ok jF at h
 simp only[Bool.and_eq_true,decide_eq_true_eq] at h
 refine⟨h.1,h.2.1,?_⟩
 have hl:=h.2.1
 have hi:c.toNat<d.cx.length:=by omega
 have:d.cx.getD c.toNat Rc.z=d.cx[c.toNat]:=by simp[List.getD_eq_getElem?_getD,hi]
 rw[this]
 exact List.all_eq_true.1 h.2.2 _ (List.getElem_mem hi)
theorem rc_ok(h:r.ok=true):(0≤r.er∧r.er<3)∧(0≤r.st∧r.st≤2)∧(r.st=0→r.la=Hd.z∧r.dy=Dy.z)∧(1≤r.st→r.la.ok=true∧r.dy.ok=true∧(r.la.k=2∨r.dy=Dy.z)):=by
 unfold Rc.ok at h
 rw[Bool.and_eq_true,decide_eq_true_eq] at h
 obtain⟨h1,h2⟩:=h
 split at h2
 · rename_i h3
   have h4:=of_decide_eq_true h2
   exact⟨h1,by omega,fun _=>h4,fun _=>by omega⟩
 · split at h2
   · rename_i h3 h4
     simp only[Bool.and_eq_true,decide_eq_true_eq] at h2
     exact⟨h1,by omega,fun _=>by omega,fun _=>h2⟩
   · cases h2
end
open Go.RowKit
variable {G:Nat→AV}
theorem Hd.eqz(h:Hd):za [(h.k,0),(h.tos,0),(h.id,0),(h.fx,0),(h.ttl,0),(h.fr,0),(h.to,0),(h.fp,0),(h.tp,0),(h.ck,0),(h.mr,0),(h.ty,0),(h.sq,0),(h.tm,0),(h.sr,0)]=decide (h=Hd.z):=Hd.eqs h Hd.z
section
variable {r:Rc}
theorem rc_er(h:r.er<0∨2<r.er):r.ok=false:=by unfold Rc.ok;rw[decide_eq_false (by omega)];rfl
theorem rc_0(he:0≤r.er∧r.er<3)(h:r.st=0):r.ok=(decide (r.la=Hd.z)&&decide (r.dy=Dy.z)):=by unfold Rc.ok;rw[decide_eq_true he,if_pos h,Bool.true_and,Bool.decide_and]
theorem rc_1(he:0≤r.er∧r.er<3)(h:r.st=1∨r.st=2):r.ok=(r.la.ok&&(r.dy.ok&&decide (r.la.k=2∨r.dy=Dy.z))):=by unfold Rc.ok;rw[decide_eq_true he,if_neg (by omega),if_pos h];rfl
end
def De.at(d:De)(i:Nat):Rc:=d.cx.getD i Rc.z
theorem deok{d:De}(h1:1≤d.m∧d.m≤3)(h2:d.cx.length=16):d.ok=d.cx.all Rc.ok:=by unfold De.ok jF;rw[decide_eq_true h1,decide_eq_true h2];rfl
theorem deok_f{d:De}(h:¬((1≤d.m∧d.m≤3)∧d.cx.length=16)):d.ok=false:=by
 unfold De.ok jF
 by_cases h1:1≤d.m∧d.m≤3
 · rw[decide_eq_false (fun e=>h ⟨h1,e⟩)];simp
 · rw[decide_eq_false h1];rfl
open Go.RowKit
variable {G:Nat→AV}
theorem RL.dez{e:Int}{l:LS}:RL (fun _=>(.tup [De.z.av,iAV e],[])) (.tup [.agg [.int .i64 0,.nils],.int .i64 e]) l :=
 RL.frz [] (LF.tup (xs:=[.agg [.int .i64 0,.nils],.int .i64 e]) (ys:=[De.z.av,iAV e]) ⟨LF.agg (xs:=[.int .i64 0,.nils]) (ys:=[iAV 0,rcv []]) ⟨LF.eq rfl,LF.nils rfl rfl,trivial⟩,LF.eq rfl,trivial⟩) LB.nil
theorem newR_t{m:Int}(h:1≤m∧m≤3):newR m=(⟨m,List.replicate 16 Rc.z⟩,0):=by unfold newR jF;rw[decide_eq_true h];rfl
theorem newR_f{m:Int}(h:¬(1≤m∧m≤3)):newR m=(De.z,3):=by unfold newR jF;rw[decide_eq_false h];rfl
theorem RL.de16{m:Int}{q:Nm}{l:LS}(h:LH l q fun c _ _=>c.cs=(List.replicate 16 Rc.z).flatMap Rc.cs):RL (fun _=>(.tup [De.av ⟨m,List.replicate 16 Rc.z⟩,iAV 0],[])) (.tup [.agg [.int .i64 m,.vw q 0 16 19],.int .i64 0]) l:=by
 obtain⟨l1,c,l2,rfl,h1⟩:=h.ex
 exact RL.frz [q] (LF.tup (xs:=[.agg [.int .i64 m,.vw q 0 16 19],.int .i64 0]) (ys:=[De.av ⟨m,List.replicate 16 Rc.z⟩,iAV 0]) ⟨LF.agg (xs:=[.int .i64 m,.vw q 0 16 19]) (ys:=[iAV m,rcv (List.replicate 16 Rc.z)]) ⟨LF.eq rfl,LF.row InL.here ⟨l1,c,l2,rfl,by decide,by rw[h1,qm Rc.cs_len];rfl,by simp,h1.symm⟩,trivial⟩,LF.eq rfl,trivial⟩) ⟨l1,c,l2,rfl,LB.nil⟩
theorem rcs_one(l:List Rc):((l.flatMap Rc.cs).all AV.one)=true:=by
 induction l with
 | nil=>rfl
 | cons x l ih=>rw[List.flatMap_cons,List.all_append,ih];rfl
end Go.Proofs.YtndpmpnmkpaklaaGreatDoor
