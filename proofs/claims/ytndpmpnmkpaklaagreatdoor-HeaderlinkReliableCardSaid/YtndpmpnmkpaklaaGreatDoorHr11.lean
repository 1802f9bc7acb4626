/-
  Contracts of the functions that the laws reach.
-/
import Derived.Test.YtndpmpnmkpaklaaGreatDoorHr10
set_option maxHeartbeats 4000000
set_option linter.all false
namespace Go.Proofs.YtndpmpnmkpaklaaGreatDoor
open Go.RowKit
variable {G:Nat→AV}
abbrev Rdr:={o:Option (List UInt8) // rdB o}
def rdr(l:List UInt8)(h:l.length≤140737488355328):Rdr:=⟨some l,h⟩
def rtk(n:Nat)(X:Rdr):Rdr:=⟨tkR n X.1,X.2.take n⟩
def rv(n:Nat)(X:Rdr):Int:=tkV n X.1
def rE(X:Rdr):Bool:=X.1.isNone
def rL(X:Rdr):List UInt8:=X.1.getD []
def rV(X:Rdr):AV:=match X.1 with|none=>.nils|some l=>bv l
@[reducible] def rcs(X:Rdr):List AV:=[rV X,.bool (rE X)]
theorem rcs_eq(X:Rdr):rdCs X.1=rcs X:=by
 obtain⟨_|l,h⟩:=X<;>rfl
theorem yn(l:List UInt8)(h:l.length≤140737488355328):rcs (rdr l h)=[bv l,.bool false]:=rfl
theorem rE_take(n:Nat)(X:Rdr)(h:rE X=true):rE (rtk n X)=true:=by
 obtain⟨_|l,h⟩:=X
 · rfl
 · exact Bool.noConfusion h
theorem rV_some(X:Rdr)(h:rE X=false):rV X=bv (rL X):=by
 obtain⟨_|l,h⟩:=X
 · exact Bool.noConfusion h
 · rfl
theorem qT(X:Rdr):(rL X).length≤140737488355328:=by
 obtain⟨_|l,h⟩:=X
 · exact Nat.zero_le _
 · exact h
theorem ft_c(r:Nm)(n:Nat)(X:Rdr)(h:1≤n∧n≤4):LP Tryz.prog G 176 [.ptr r 0,iAV n] [(r,⟨209,rcs X⟩)] (fun _=>(iAV (rv n X),[(r,⟨209,rcs (rtk n X)⟩)])):=by
 have:=ftake_c (G:=G) r n X.1 ⟨h,X.2⟩
 rw[rcs_eq] at this
 exact(rcs_eq (rtk n X))▸this
theorem zN(r:Nm)(X:Rdr):LP Tryz.prog G 176 [.ptr r 0,iAV 1] [(r,⟨209,rcs X⟩)] (fun _=>(iAV (rv 1 X),[(r,⟨209,rcs (rtk 1 X)⟩)])):=ft_c r 1 X (by decide)
theorem x8(r:Nm)(X:Rdr):LP Tryz.prog G 176 [.ptr r 0,iAV 2] [(r,⟨209,rcs X⟩)] (fun _=>(iAV (rv 2 X),[(r,⟨209,rcs (rtk 2 X)⟩)])):=ft_c r 2 X (by decide)
theorem zZ(r:Nm)(X:Rdr):LP Tryz.prog G 176 [.ptr r 0,iAV 4] [(r,⟨209,rcs X⟩)] (fun _=>(iAV (rv 4 X),[(r,⟨209,rcs (rtk 4 X)⟩)])):=ft_c r 4 X (by decide)
theorem jT(r:Nm)(l:List UInt8)(h:l.length≤140737488355328):LP Tryz.prog G 176 [.ptr r 0,iAV 1] [(r,⟨209,[bv l,.bool false]⟩)] (fun _=>(iAV (rv 1 (rdr l h)),[(r,⟨209,rcs (rtk 1 (rdr l h))⟩)])):=zN r (rdr l h)
attribute [irreducible] rdr rtk rv rE rL rV
open Go.RowKit
variable {G:Nat→AV}
@[reducible] def Sm.fs(s:Sm):List AV:=[iAV s.cx,iAV s.f,iAV s.n,iAV s.tm,iAV s.mr,iAV s.id,iAV s.ud,iAV s.h.k,iAV s.h.tos,iAV s.h.id,iAV s.h.fx,iAV s.h.ttl,iAV s.h.fr,iAV s.h.to,iAV s.h.fp,iAV s.h.tp,iAV s.h.ck,iAV s.h.mr,iAV s.h.ty,iAV s.h.sq,iAV s.h.tm,iAV s.h.sr,iAV s.d.st,iAV s.d.fo,iAV s.ck,.nils]
@[reducible] def shR(x k:Int):Int:=x.fdiv (2^(min k.toNat IntKind.i64.bits))
@[reducible] def yM(x m:Int):Int:=qk .and .i64 x m
@[reducible] def xP(x k:Int):Int:=yM (shR x k) 1
theorem LC.two{P:Program}{f:FuncId}{args:List AV}{x:AV}{r p:Nm}{c d c' d':Pl}{l:LS}{K:AV→LS→Prop}(hs:r≠p→LP P G f args [(r,c),(p,d)] fun _=>(x,[(r,c'),(p,d')]))(hk:LH l r fun c1 _ rest=>c1=c∧LH rest p fun d1 _ rest'=>d1=d∧LQ fun _=>K x ((r,c')::(p,d')::rest')):LC P G f args l K:=by
 refine⟨fun φ hsp=>?_⟩
 have hne:r≠p:=by
   obtain⟨l1,c1,l2,rfl,-,h1⟩:=hk.ex
   obtain⟨l3,c3,l4,e,-⟩:=h1.ex
   have hm:p∈(l1++l2).map (·.1):=by rw[e];simp
   rintro rfl
   have h3:=jj hsp.nd
   rw[List.map_append,List.mem_append] at hm
   exact hm.elim h3.1 h3.2.1
 exact(LC.mk' (hs hne) [] (.refl _) hk).run φ hsp
@[reducible] def xO(X:Rdr):Int:=rv 1 (rtk 1 (rtk 1 X))
@[reducible] def vP(X:Rdr):Rdr:=rtk 1 (rtk 1 (rtk 1 X))
@[reducible] def wa(X:Rdr)(s:Sm):Sm:={ s with h:={ s.h with tos:=rv 1 X,ttl:=rv 1 (rtk 1 X),fx:=xP (xO X) 7,mr:=xP (xO X) 4,ty:=rv 1 (vP X),sq:=rv 2 (rtk 1 (vP X)),id:=rv 2 (rtk 2 (rtk 1 (vP X))),tm:=rv 4 (rtk 2 (rtk 2 (rtk 1 (vP X)))) },d:={ st:=rv 2 (rtk 4 (rtk 2 (rtk 2 (rtk 1 (vP X))))),fo:=xP (xO X) 5 } }
@[reducible] def w9(X:Rdr)(s:Sm):Sm:={ s with h:={ s.h with tos:=rv 1 X,ttl:=rv 1 (rtk 1 X),fx:=xP (xO X) 7,mr:=xP (xO X) 4,id:=rv 2 (vP X) },d:={ s.d with fo:=xP (xO X) 5 } }
@[reducible] def qK(X:Rdr):Rdr:=rtk 2 (rtk 4 (rtk 2 (rtk 2 (rtk 1 (vP X)))))
@[reducible] def qI(X:Rdr):Rdr:=rtk 2 (vP X)
theorem fdynT_c(r p:Nm)(X:Rdr)(s:Sm)(hrp:r≠p)(hk:s.h.k=2):LP Tryz.prog G 178 [.ptr r 0,.ptr p 7,.ptr p 22] [(r,⟨209,rcs X⟩),(p,⟨131,s.fs⟩)] (fun _=>(.bool (decide (xP (xO X) 6=1)),[(r,⟨209,rcs (qK X)⟩),(p,⟨131,(wa X s).fs⟩)])):=by
 refine goW [] Tryz.func178 rfl ?_
 conv=>whnf
 repeat'((first|(show LC _ _ _ _ _ _;first|(apply LC.upd (zN _ _);(repeat first|refine goH ?_|apply LH.here|apply LH.next);refine⟨rfl,?_⟩)|(apply LC.upd (x8 _ _);(repeat first|refine goH ?_|apply LH.here|apply LH.next);refine⟨rfl,?_⟩)|(apply LC.upd (zZ _ _);(repeat first|refine goH ?_|apply LH.here|apply LH.next);refine⟨rfl,?_⟩)|refine goE ?_)|refine T.s ?_|((first|apply goB|apply AB.dec|apply AB.gen)<;>intro h<;>try(exfalso;omega))|refine LQ.mk fun r=>?_|exact T.z|fail)<;>conv=>whnf)
 all_goals(try dsimp only)
 all_goals(show RL _ _ _;refine goR ?_)
 all_goals rfl
theorem wC(r p:Nm)(X:Rdr)(s:Sm)(hrp:r≠p)(hk:s.h.k≠2):LP Tryz.prog G 178 [.ptr r 0,.ptr p 7,.ptr p 22] [(r,⟨209,rcs X⟩),(p,⟨131,s.fs⟩)] (fun _=>(.bool (decide (xP (xO X) 6=1)),[(r,⟨209,rcs (qI X)⟩),(p,⟨131,(w9 X s).fs⟩)])):=by
 refine goW [] Tryz.func178 rfl ?_
 conv=>whnf
 repeat'((first|(show LC _ _ _ _ _ _;first|(apply LC.upd (zN _ _);(repeat first|refine goH ?_|apply LH.here|apply LH.next);refine⟨rfl,?_⟩)|(apply LC.upd (x8 _ _);(repeat first|refine goH ?_|apply LH.here|apply LH.next);refine⟨rfl,?_⟩)|(apply LC.upd (zZ _ _);(repeat first|refine goH ?_|apply LH.here|apply LH.next);refine⟨rfl,?_⟩)|refine goE ?_)|refine T.s ?_|((first|apply goB|apply AB.dec|apply AB.gen)<;>intro h<;>try(exfalso;omega))|refine LQ.mk fun r=>?_|exact T.z|fail)<;>conv=>whnf)
 all_goals(try dsimp only)
 all_goals(show RL _ _ _;refine goR ?_)
 all_goals rfl
open Go.RowKit
variable {G:Nat→AV}
@[reducible] def hdk(s:Sm)(k:Int):Sm:={ s with h:={ s.h with k:=k } }
@[reducible] def stH(X:Rdr)(s:Sm):Sm:={ s with h:={ s.h with k:=rv 1 X,fr:=rv 4 (rtk 1 X),to:=rv 4 (rtk 4 (rtk 1 X)),fp:=rv 2 (rtk 4 (rtk 4 (rtk 1 X))),tp:=rv 2 (rtk 2 (rtk 4 (rtk 4 (rtk 1 X)))) } }
@[reducible] def stX(X:Rdr):Rdr:=rtk 2 (rtk 2 (rtk 4 (rtk 4 (rtk 1 X))))
@[reducible] def stT(X:Rdr)(s:Sm):Sm:={ stH X s with h:={ (stH X s).h with sr:=rv 4 (stX X) } }
theorem fstatF_c(r p:Nm)(X:Rdr)(s:Sm)(hrp:r≠p)(he:rE (rtk 1 X)=false)(h1:rv 1 X≠1)(h2:rv 1 X≠2):LP Tryz.prog G 177 [.ptr r 0,.ptr p 7] [(r,⟨209,rcs X⟩),(p,⟨131,s.fs⟩)] (fun _=>(.bool false,[(r,⟨209,rcs (rtk 1 X)⟩),(p,⟨131,(hdk s (rv 1 X)).fs⟩)])):=by
 refine goW [] Tryz.func177 rfl ?_
 conv=>whnf
 repeat'((first|(show LC _ _ _ _ _ _;first|(apply LC.upd (zN _ _);(repeat first|refine goH ?_|apply LH.here|apply LH.next);refine⟨rfl,?_⟩)|(apply LC.upd (x8 _ _);(repeat first|refine goH ?_|apply LH.here|apply LH.next);refine⟨rfl,?_⟩)|(apply LC.upd (zZ _ _);(repeat first|refine goH ?_|apply LH.here|apply LH.next);refine⟨rfl,?_⟩)|refine goE ?_)|refine T.s ?_|((first|apply goB|apply AB.dec|apply AB.gen)<;>intro h<;>try(exfalso;omega))|refine LQ.mk fun r=>?_|exact T.z|fail)<;>conv=>whnf)
 all_goals(try dsimp only)
 all_goals first
   | ((show RL _ _ _;refine goR ?_);rfl)
   | (exfalso;simp_all)
theorem fstatT_c(r p:Nm)(X:Rdr)(s:Sm)(hrp:r≠p)(hk:rv 1 X=2):LP Tryz.prog G 177 [.ptr r 0,.ptr p 7] [(r,⟨209,rcs X⟩),(p,⟨131,s.fs⟩)] (fun _=>(.bool true,[(r,⟨209,rcs (rtk 4 (stX X))⟩),(p,⟨131,(stT X s).fs⟩)])):=by
 refine goW [] Tryz.func177 rfl ?_
 conv=>whnf
 repeat'((first|(show LC _ _ _ _ _ _;first|(apply LC.upd (zN _ _);(repeat first|refine goH ?_|apply LH.here|apply LH.next);refine⟨rfl,?_⟩)|(apply LC.upd (x8 _ _);(repeat first|refine goH ?_|apply LH.here|apply LH.next);refine⟨rfl,?_⟩)|(apply LC.upd (zZ _ _);(repeat first|refine goH ?_|apply LH.here|apply LH.next);refine⟨rfl,?_⟩)|refine goE ?_)|refine T.s ?_|((first|apply goB|apply AB.dec|apply AB.gen)<;>intro h<;>try(exfalso;omega))|refine LQ.mk fun r=>?_|exact T.z|fail)<;>conv=>whnf)
 all_goals(try dsimp only)
 all_goals first
   | ((show RL _ _ _;refine goR ?_);rfl)
   | (exfalso;simp_all)
theorem yA(r p:Nm)(X:Rdr)(s:Sm)(hrp:r≠p)(hk:rv 1 X≠2)(h:rE (rtk 1 X)=true∨rv 1 X=1):LP Tryz.prog G 177 [.ptr r 0,.ptr p 7] [(r,⟨209,rcs X⟩),(p,⟨131,s.fs⟩)] (fun _=>(.bool true,[(r,⟨209,rcs (stX X)⟩),(p,⟨131,(stH X s).fs⟩)])):=by
 refine goW [] Tryz.func177 rfl ?_
 conv=>whnf
 repeat'((first|(show LC _ _ _ _ _ _;first|(apply LC.upd (zN _ _);(repeat first|refine goH ?_|apply LH.here|apply LH.next);refine⟨rfl,?_⟩)|(apply LC.upd (x8 _ _);(repeat first|refine goH ?_|apply LH.here|apply LH.next);refine⟨rfl,?_⟩)|(apply LC.upd (zZ _ _);(repeat first|refine goH ?_|apply LH.here|apply LH.next);refine⟨rfl,?_⟩)|refine goE ?_)|refine T.s ?_|((first|apply goB|apply AB.dec|apply AB.gen)<;>intro h<;>try(exfalso;omega))|refine LQ.mk fun r=>?_|exact T.z|fail)<;>conv=>whnf)
 all_goals(try dsimp only)
 all_goals first
   | ((show RL _ _ _;refine goR ?_);rfl)
   | (exfalso;simp_all)
@[reducible] def lw1(X:Rdr)(k:Int)(s:Sm):Sm:={ hdk s k with n:=shR (rv 1 X) 3,ck:=yM (rv 1 X) 7 }
@[reducible] def vL(X:Rdr)(k:Int)(s:Sm):Sm:={ hdk s k with mr:=xP (rv 1 X) 5,n:=yM (rv 1 X) 31,tm:=rv 2 (rtk 1 X),ck:=rv 1 (rtk 2 (rtk 1 X)) }
@[reducible] def vK(X:Rdr)(k:Int)(s:Sm):Sm:={ hdk s k with mr:=xP (rv 1 X) 5,n:=yM (rv 1 X) 31,ck:=rv 1 (rtk 1 X) }
@[reducible] def vJ(X:Rdr)(k:Int)(s:Sm):Sm:={ hdk s k with mr:=yM (rv 1 X) 1,n:=rv 1 (rtk 1 X),tm:=rv 4 (rtk 1 (rtk 1 X)),id:=rv 2 (rtk 4 (rtk 1 (rtk 1 X))),ck:=rv 1 (rtk 2 (rtk 4 (rtk 1 (rtk 1 X)))) }
@[reducible] def vI(X:Rdr)(k:Int)(s:Sm):Sm:={ hdk s k with mr:=yM (rv 1 X) 1,n:=rv 2 (rtk 1 X),ck:=rv 1 (rtk 2 (rtk 1 X)) }
theorem nb3T_c(k:Int)(h:k=2):LP Tryz.prog G 151 [iAV 3,iAV k] [] (fun _=>(iAV 8,[])):=by
 have:=wu (G:=G) 3 k
 rwa [show wid 3 k 0=8 from by simp[wid,h]] at this
theorem nb3U_c(k:Int)(h:k≠2):LP Tryz.prog G 151 [iAV 3,iAV k] [] (fun _=>(iAV 16,[])):=by
 have:=wu (G:=G) 3 k
 rwa [show wid 3 k 0=16 from by simp[wid,h]] at this
@[reducible] def jy(X:Rdr):Rdr:=rtk 1 X
theorem flow1_c(r p:Nm)(X:Rdr)(R:List AV)(hR:R=rcs X)(k:Int)(s:Sm)(hrp:r≠p)(hf:s.f=1)  : LP Tryz.prog G 179 [.ptr r 0,.ptr p 0,iAV k] [(r,⟨209,R⟩),(p,⟨131,s.fs⟩)] (fun _=>(.tup [],[(r,⟨209,rcs (jy X)⟩),(p,⟨131,(lw1 X k s).fs⟩)])):=by
 subst hR
 obtain⟨cx,f,n,tm,mr,id,ud,h,d,ck,pl⟩:=s
 obtain rfl:f=1:=hf
 refine goW [] Tryz.func179 rfl ?_
 conv=>whnf
 repeat'((first|(show LC _ _ _ _ _ _;first|(apply LC.upd (zN _ _);(repeat first|refine goH ?_|apply LH.here|apply LH.next);refine⟨rfl,?_⟩)|(apply LC.upd (x8 _ _);(repeat first|refine goH ?_|apply LH.here|apply LH.next);refine⟨rfl,?_⟩)|(apply LC.upd (zZ _ _);(repeat first|refine goH ?_|apply LH.here|apply LH.next);refine⟨rfl,?_⟩)|refine goE ?_)|refine T.s ?_|((first|apply goB|apply AB.dec|apply AB.gen)<;>intro h<;>try(exfalso;omega))|refine LQ.mk fun r=>?_|exact T.z|fail)<;>conv=>whnf)
 all_goals(try dsimp only)
 all_goals first
   | ((show RL _ _ _;refine goR ?_);rfl)
   | (exfalso;simp_all)
@[reducible] def zY(X:Rdr):Rdr:=rtk 1 (rtk 2 (rtk 1 X))
theorem flow2T_c(r p:Nm)(X:Rdr)(R:List AV)(hR:R=rcs X)(k:Int)(s:Sm)(hrp:r≠p)(hf:s.f=2)(hk:k=2):LP Tryz.prog G 179 [.ptr r 0,.ptr p 0,iAV k] [(r,⟨209,R⟩),(p,⟨131,s.fs⟩)] (fun _=>(.tup [],[(r,⟨209,rcs (zY X)⟩),(p,⟨131,(vL X k s).fs⟩)])):=by
 subst hR
 obtain⟨cx,f,n,tm,mr,id,ud,h,d,ck,pl⟩:=s
 obtain rfl:f=2:=hf
 refine goW [] Tryz.func179 rfl ?_
 conv=>whnf
 repeat'((first|(show LC _ _ _ _ _ _;first|(apply LC.upd (zN _ _);(repeat first|refine goH ?_|apply LH.here|apply LH.next);refine⟨rfl,?_⟩)|(apply LC.upd (x8 _ _);(repeat first|refine goH ?_|apply LH.here|apply LH.next);refine⟨rfl,?_⟩)|(apply LC.upd (zZ _ _);(repeat first|refine goH ?_|apply LH.here|apply LH.next);refine⟨rfl,?_⟩)|refine goE ?_)|refine T.s ?_|((first|apply goB|apply AB.dec|apply AB.gen)<;>intro h<;>try(exfalso;omega))|refine LQ.mk fun r=>?_|exact T.z|fail)<;>conv=>whnf)
 all_goals(try dsimp only)
 all_goals first
   | ((show RL _ _ _;refine goR ?_);rfl)
   | (exfalso;simp_all)
@[reducible] def zX(X:Rdr):Rdr:=rtk 1 (rtk 1 X)
theorem flow2U_c(r p:Nm)(X:Rdr)(R:List AV)(hR:R=rcs X)(k:Int)(s:Sm)(hrp:r≠p)(hf:s.f=2)(hk:k≠2):LP Tryz.prog G 179 [.ptr r 0,.ptr p 0,iAV k] [(r,⟨209,R⟩),(p,⟨131,s.fs⟩)] (fun _=>(.tup [],[(r,⟨209,rcs (zX X)⟩),(p,⟨131,(vK X k s).fs⟩)])):=by
 subst hR
 obtain⟨cx,f,n,tm,mr,id,ud,h,d,ck,pl⟩:=s
 obtain rfl:f=2:=hf
 refine goW [] Tryz.func179 rfl ?_
 conv=>whnf
 repeat'((first|(show LC _ _ _ _ _ _;first|(apply LC.upd (zN _ _);(repeat first|refine goH ?_|apply LH.here|apply LH.next);refine⟨rfl,?_⟩)|(apply LC.upd (x8 _ _);(repeat first|refine goH ?_|apply LH.here|apply LH.next);refine⟨rfl,?_⟩)|(apply LC.upd (zZ _ _);(repeat first|refine goH ?_|apply LH.here|apply LH.next);refine⟨rfl,?_⟩)|refine goE ?_)|refine T.s ?_|((first|apply goB|apply AB.dec|apply AB.gen)<;>intro h<;>try(exfalso;omega))|refine LQ.mk fun r=>?_|exact T.z|fail)<;>conv=>whnf)
 all_goals(try dsimp only)
 all_goals first
   | ((show RL _ _ _;refine goR ?_);rfl)
   | (exfalso;simp_all)
@[reducible] def zW(X:Rdr):Rdr:=rtk 1 (rtk 2 (rtk 4 (rtk 1 (rtk 1 X))))
theorem flow3T_c(r p:Nm)(X:Rdr)(R:List AV)(hR:R=rcs X)(k:Int)(s:Sm)(hrp:r≠p)(hf:s.f=3)(hk:k=2):LP Tryz.prog G 179 [.ptr r 0,.ptr p 0,iAV k] [(r,⟨209,R⟩),(p,⟨131,s.fs⟩)] (fun _=>(.tup [],[(r,⟨209,rcs (zW X)⟩),(p,⟨131,(vJ X k s).fs⟩)])):=by
 subst hR
 obtain⟨cx,f,n,tm,mr,id,ud,h,d,ck,pl⟩:=s
 obtain rfl:f=3:=hf
 refine goW [] Tryz.func179 rfl ?_
 conv=>whnf
 repeat'((first|(show LC _ _ _ _ _ _;first|refine LC.pure (nb3T_c k hk) ?_|(apply LC.upd (zN _ _);(repeat first|refine goH ?_|apply LH.here|apply LH.next);refine⟨rfl,?_⟩)|(apply LC.upd (x8 _ _);(repeat first|refine goH ?_|apply LH.here|apply LH.next);refine⟨rfl,?_⟩)|(apply LC.upd (zZ _ _);(repeat first|refine goH ?_|apply LH.here|apply LH.next);refine⟨rfl,?_⟩)|refine goE ?_)|refine T.s ?_|((first|apply goB|apply AB.dec|apply AB.gen)<;>intro h<;>try(exfalso;omega))|refine LQ.mk fun r=>?_|exact T.z|fail)<;>conv=>whnf)
 all_goals(try dsimp only)
 all_goals first
   | ((show RL _ _ _;refine goR ?_);rfl)
   | (exfalso;simp_all)
@[reducible] def zV(X:Rdr):Rdr:=rtk 1 (rtk 2 (rtk 1 X))
theorem flow3U_c(r p:Nm)(X:Rdr)(R:List AV)(hR:R=rcs X)(k:Int)(s:Sm)(hrp:r≠p)(hf:s.f=3)(hk:k≠2):LP Tryz.prog G 179 [.ptr r 0,.ptr p 0,iAV k] [(r,⟨209,R⟩),(p,⟨131,s.fs⟩)] (fun _=>(.tup [],[(r,⟨209,rcs (zV X)⟩),(p,⟨131,(vI X k s).fs⟩)])):=by
 subst hR
 obtain⟨cx,f,n,tm,mr,id,ud,h,d,ck,pl⟩:=s
 obtain rfl:f=3:=hf
 refine goW [] Tryz.func179 rfl ?_
 conv=>whnf
 repeat'((first|(show LC _ _ _ _ _ _;first|refine LC.pure (nb3U_c k hk) ?_|(apply LC.upd (zN _ _);(repeat first|refine goH ?_|apply LH.here|apply LH.next);refine⟨rfl,?_⟩)|(apply LC.upd (x8 _ _);(repeat first|refine goH ?_|apply LH.here|apply LH.next);refine⟨rfl,?_⟩)|(apply LC.upd (zZ _ _);(repeat first|refine goH ?_|apply LH.here|apply LH.next);refine⟨rfl,?_⟩)|refine goE ?_)|refine T.s ?_|((first|apply goB|apply AB.dec|apply AB.gen)<;>intro h<;>try(exfalso;omega))|refine LQ.mk fun r=>?_|exact T.z|fail)<;>conv=>whnf)
 all_goals(try dsimp only)
 all_goals first
   | ((show RL _ _ _;refine goR ?_);rfl)
   | (exfalso;simp_all)
def fmR(c:UInt8):Int:=if c.toNat<128 then 1 else if c.toNat<192 then 2 else if c.toNat=192∨c.toNat=193 then 3 else if c.toNat=208 then 4 else if c.toNat=209 then 5 else if c.toNat=210 then 6 else 0
set_option maxRecDepth 100000 in
theorem fmt_c(c:UInt8):LP Tryz.prog G 175 [bAV c] [] (fun _=>(.tup [iAV (fmR c),.bool (decide (fmR c≠0))],[])):=by
 refine goW [] Tryz.func175 rfl ?_
 conv=>whnf
 repeat'((first|refine T.s ?_|((first|apply goB|apply AB.dec|apply AB.gen)<;>intro h<;>try(exfalso;omega))|refine LQ.mk fun r=>?_|exact T.z|fail)<;>conv=>whnf)
 all_goals(try dsimp only)
 all_goals
   (show RL _ _ _;refine goR ?_)
   have hlt:c.toNat<256:=c.toNat_lt
   refine congrArg AV.tup ?_
   first
     | (have e:fmR c=0:=(by unfold fmR;(repeat' split)<;>omega)
        rw[e];rfl)
     | (have e:fmR c=1:=(by unfold fmR;(repeat' split)<;>omega)
        rw[e];rfl)
     | (have e:fmR c=2:=(by unfold fmR;(repeat' split)<;>omega)
        rw[e];rfl)
     | (have e:fmR c=3:=(by unfold fmR;(repeat' split)<;>omega)
        rw[e];rfl)
     | (have e:fmR c=4:=(by unfold fmR;(repeat' split)<;>omega)
        rw[e];rfl)
     | (have e:fmR c=5:=(by unfold fmR;(repeat' split)<;>omega)
        rw[e];rfl)
     | (have e:fmR c=6:=(by unfold fmR;(repeat' split)<;>omega)
        rw[e];rfl)
def qp:List UInt8→Int×Int×Int
 | []=>(0,0,5)
 | a::r=>if 224≤a.toNat∧a.toNat<240 then(match r with|[]=>(0,0,5)|b::_=>if a.toNat=224∨fmR b=0∨b.toNat=210 then(0,0,4) else((a.toNat:Int)-224,fmR b,0)) else if fmR a=0 then(0,0,4) else(0,fmR a,0)
def pe(x:Int×Int×Int):AV:=.tup [iAV x.1,iAV x.2.1,iAV x.2.2]
theorem and240:∀n:Nat,n<256→(qk .and .u8 (n:Int) 240=224↔(224≤n∧n<240)):=by decide +kernel
theorem nand240:∀n:Nat,n<256→(224≤n∧n<240)→IntKind.i64.wrap (qk .andNot .u8 (n:Int) 240)=(n:Int)-224:=by decide +kernel
theorem wA(l:List UInt8):LP Tryz.prog G 125 [bv l] [] (fun _=>(pe (qp l),[])):=by
 match l with
 | [] =>
   refine goW [] Tryz.func125 rfl ?_
   conv=>whnf
   repeat'((first|exact Nm.b 0|refine T.s ?_|((first|apply goB|apply AB.dec|apply AB.gen)<;>intro h<;>try(exfalso;omega))|refine LQ.mk fun r=>?_|(show SWpL _ _ _ _ _ _ _;first|(refine goD tQ qc 7 [] [0,1,2,3,4,5,6,7] [] (by kernel_rfl) ?_))|exact T.z|refine⟨_,rfl,rfl,?_⟩|fail)<;>conv=>whnf)
   all_goals(try dsimp only)
   (show RL _ _ _;refine goR ?_)
   rfl
 | [a] =>
   have hlt:a.toNat<256:=a.toNat_lt
   have ha:=and240 _ hlt
   refine goW [] Tryz.func125 rfl ?_
   conv=>whnf
   repeat'((first|exact Nm.b 0|(show LC _ _ _ _ _ _;first|refine LC.pure (fmt_c _) ?_|refine goE ?_)|refine T.s ?_|((first|apply goB|apply AB.dec|apply AB.gen)<;>intro h<;>try(exfalso;omega))|refine LQ.mk fun r=>?_|(show SWpL _ _ _ _ _ _ _;first|(refine goD tQ qc 7 [] [0,1,2,3,4,5,6,7] [] (by kernel_rfl) ?_))|exact T.z|refine⟨_,rfl,rfl,?_⟩|fail)<;>conv=>whnf)
   all_goals(try dsimp only)
   all_goals
     dsimp only at *
     simp only[show Int.toNat 0*1=0 from rfl,show Int.toNat 1*1=1 from rfl,List.getD_cons_zero,List.getD_cons_succ] at *
     (show RL _ _ _;refine goR ?_)
     refine congrArg AV.tup ?_
     simp only[qp,iAV]
     first
       | (have hA:224≤a.toNat∧a.toNat<240:=ha.1 (by assumption)
          rewrite[if_pos hA]
          (try rewrite[hb hA] at *)
          first
            | rfl
            | (split<;>first|rfl|(exfalso;omega)|(simp only[List.cons.injEq,AV.int.injEq,true_and,and_true];omega)))
       | (have hA:¬(224≤a.toNat∧a.toNat<240):=fun h=>absurd (ha.2 h) (by assumption)
          rewrite[if_neg hA]
          (split<;>first|rfl|(exfalso;omega)|(simp only[List.cons.injEq,AV.int.injEq,true_and,and_true];omega)))
 | a::b::r =>
   have hlt:a.toNat<256:=a.toNat_lt
   have ha:=and240 _ hlt
   have hb:=nand240 _ hlt
   refine goW [] Tryz.func125 rfl ?_
   conv=>whnf
   repeat'((first|exact Nm.b 0|(show LC _ _ _ _ _ _;first|refine LC.pure (fmt_c _) ?_|refine goE ?_)|refine T.s ?_|((first|apply goB|apply AB.dec|apply AB.gen)<;>intro h<;>try(exfalso;omega))|refine LQ.mk fun r=>?_|(show SWpL _ _ _ _ _ _ _;first|(refine goD tQ qc 7 [] [0,1,2,3,4,5,6,7] [] (by kernel_rfl) ?_))|exact T.z|refine⟨_,rfl,rfl,?_⟩|fail)<;>conv=>whnf)
   all_goals(try dsimp only)
   all_goals
     dsimp only at *
     simp only[show Int.toNat 0*1=0 from rfl,show Int.toNat 1*1=1 from rfl,List.getD_cons_zero,List.getD_cons_succ] at *
     (show RL _ _ _;refine goR ?_)
     refine congrArg AV.tup ?_
     simp only[qp,iAV]
     first
       | (have hA:224≤a.toNat∧a.toNat<240:=ha.1 (by assumption)
          rewrite[if_pos hA]
          (try rewrite[hb hA] at *)
          first
            | rfl
            | (split<;>first|rfl|(exfalso;omega)|(simp only[List.cons.injEq,AV.int.injEq,true_and,and_true];omega)))
       | (have hA:¬(224≤a.toNat∧a.toNat<240):=fun h=>absurd (ha.2 h) (by assumption)
          rewrite[if_neg hA]
          (split<;>first|rfl|(exfalso;omega)|(simp only[List.cons.injEq,AV.int.injEq,true_and,and_true];omega)))
open Go.RowKit
variable {G:Nat→AV}
@[reducible] def s0(c f:Int):Sm:=⟨c,f,0,0,0,0,0,⟨0,0,0,0,0,0,0,0,0,0,0,0,0,0,0⟩,⟨0,0⟩,0,[]⟩
@[reducible] def wpl(s:Sm)(X:Rdr):Sm:={ s with pl:=rL X }
@[reducible] def wud(s:Sm)(n:Int):Sm:={ s with ud:=n }
@[reducible] def wck(s:Sm)(n:Int):Sm:={ s with ck:=n }
@[reducible] def whc(s:Sm)(n:Int):Sm:={ s with h:={ s.h with ck:=n } }
def xw(X:Rdr)(s:Sm)(b:List UInt8):Sm⊕Int :=
 if rE X=true then .inr 5 else if zo (wpl s X)=(b,0) then .inl (wpl s X) else .inr 4
def qX(ck:Bool)(X:Rdr)(s:Sm)(b:List UInt8):Sm⊕Int :=
 if ck=true then(if rE (rtk 2 X)=true then .inr 5 else if rv 2 X=0 then .inr 4 else xw (rtk 2 X) (wud s (rv 2 X)) b) else xw X s b
def ku(X:Rdr)(s:Sm)(fl:Int)(b:List UInt8):Sm⊕Int :=
 if xP fl 6=1 then xw (rtk 2 (rtk 1 X)) (whc (wck s (rv 1 X)) (rv 2 (rtk 1 X))) b else xw (rtk 1 X) (wck s (rv 1 X)) b
def w5(c:Int)(Y:Rdr)(b:List UInt8):Sm⊕Int :=
 if rE (rtk 1 Y)=true then .inr 5
 else if rv 1 Y=2 then ku (qK (rtk 4 (stX Y))) (wa (rtk 4 (stX Y)) (stT Y (s0 c 5))) (xO (rtk 4 (stX Y))) b
 else if rv 1 Y=1 then ku (qI (stX Y)) (w9 (stX Y) (stH Y (s0 c 5))) (xO (stX Y)) b
 else .inr 4
def decB(f c:Int)(X:Rdr)(b:List UInt8)(k:Int)(ck:Bool):Sm⊕Int :=
 if f=1 then qX ck (jy X) (lw1 X k (s0 c 1)) b
 else if f=2 then(if k=2 then qX ck (zY X) (vL X k (s0 c 2)) b else qX ck (zX X) (vK X k (s0 c 2)) b)
 else if f=3 then(if k=2 then qX ck (zW X) (vJ X k (s0 c 3)) b else qX ck (zV X) (vI X k (s0 c 3)) b)
 else if f=4 then(if k=2 then ku (qK (rtk 1 X)) (wa (rtk 1 X) (hdk (s0 c 4) k)) (xO (rtk 1 X)) b else ku (qI (rtk 1 X)) (w9 (rtk 1 X) (hdk (s0 c 4) k)) (xO (rtk 1 X)) b)
 else if f=5 then w5 c (rtk 1 X) b
 else xw (rtk 1 X) (s0 c 6) b
def qU(b:List UInt8)(hb:b.length≤140737488355328)(k:Int)(ck:Bool):Sm⊕Int :=
 if(qp b).2.2≠0 then .inr (qp b).2.2
 else if(qp b).2.1≤4∧k≠1∧k≠2 then .inr 7
 else decB (qp b).2.1 (qp b).1 (if 0<(qp b).1 then rtk 1 (rdr b hb) else rdr b hb) b k ck
def zAV:AV:=.agg [iAV 0,iAV 0,iAV 0,iAV 0,iAV 0,iAV 0,iAV 0,iAV 0,iAV 0,iAV 0,iAV 0,iAV 0,iAV 0,iAV 0,iAV 0,iAV 0,iAV 0,iAV 0,iAV 0,iAV 0,iAV 0,iAV 0,iAV 0,iAV 0,iAV 0,.nils]
def dsv:Sm⊕Int→AV
 | .inl s=>s.av
 | .inr _=>zAV
def dse:Sm⊕Int→Int
 | .inl _=>0
 | .inr e=>e
def de(x:Sm⊕Int):AV:=.tup [dsv x,iAV (dse x)]
theorem rv_end(n:Nat)(X:Rdr)(h:rE (rtk n X)=true):rv n X=0:=by
 obtain⟨_|l,hl⟩:=X
 · unfold rv;rfl
 · unfold rv
   unfold rE rtk at h
   show(if l.length<n then 0 else beN (l.take n))=0
   by_cases hn:l.length<n
   · exact if_pos hn
   · exfalso
     have:tkR n (some l)=some (l.drop n):=if_neg hn
     simp[this] at h
theorem qC{X:Rdr}(h:rE X=false):rcs X=[bv (rL X),.bool false]:=by
 show[rV X,.bool (rE X)]=_
 rw[rV_some X h,h]
def je(ck:Bool)(X:Rdr)(s:Sm)(b:List UInt8):Sm⊕Int :=
 if ck=true then xw (rtk 2 X) (wud s (rv 2 X)) b else xw X s b
theorem jW{X:Rdr}{s:Sm}{b:List UInt8}(h:rE X=true):xw X s b=.inr 5:=if_pos h
theorem jV{X:Rdr}{s:Sm}{b:List UInt8}(h:rE X=false)(h2:(zo (wpl s X)).2=0)(h1:(zo (wpl s X)).1=b):xw X s b=.inl (wpl s X):=by
 unfold xw
 rw[if_neg (by rw[h];decide),if_pos (Prod.ext h1 h2)]
theorem xJ{X:Rdr}{s:Sm}{b:List UInt8}(h:rE X=false)(h1:¬(zo (wpl s X)).1=b):xw X s b=.inr 4:=by
 unfold xw
 rw[if_neg (by rw[h];decide),if_neg (fun e=>h1 (congrArg Prod.fst e))]
theorem xU{X:Rdr}{s:Sm}{b:List UInt8}(h:rE X=false)(h1:¬(zo (wpl s X)).2=0):xw X s b=.inr 4:=by
 unfold xw
 rw[if_neg (by rw[h];decide),if_neg (fun e=>h1 (congrArg Prod.snd e))]
theorem big_t{X:Rdr}{s:Sm}{fl:Int}{b:List UInt8}(h:xP fl 6=1):ku X s fl b=xw (rtk 2 (rtk 1 X)) (whc (wck s (rv 1 X)) (rv 2 (rtk 1 X))) b:=if_pos h
theorem big_f{X:Rdr}{s:Sm}{fl:Int}{b:List UInt8}(h:¬xP fl 6=1):ku X s fl b=xw (rtk 1 X) (wck s (rv 1 X)) b:=if_neg h
theorem small_e{X:Rdr}{s:Sm}{b:List UInt8}(h:rE (rtk 2 X)=true):qX true X s b=.inr 5:=if_pos h
theorem small_0{X:Rdr}{s:Sm}{b:List UInt8}(h:rE (rtk 2 X)=false)(h0:rv 2 X=0):qX true X s b=.inr 4:=by
 unfold qX
 rw[if_pos rfl,if_neg (by rw[h];decide),if_pos h0]
theorem small_t{X:Rdr}{s:Sm}{b:List UInt8}(h:rE (rtk 2 X)=false)(h0:¬rv 2 X=0):qX true X s b=xw (rtk 2 X) (wud s (rv 2 X)) b:=by
 unfold qX
 rw[if_pos rfl,if_neg (by rw[h];decide),if_neg h0]
theorem ze(a b:List UInt8):LP Tryz.prog G 156 [bv a,bv b] [] (fun _=>(.bool (decide (a=b)),[])):=by
 refine goW [] Tryz.func156 rfl ?_
 conv=>whnf
 repeat'((first|refine T.s ?_|((first|apply goB|apply AB.dec|apply AB.gen)<;>intro h<;>try(exfalso;omega))|refine LQ.mk fun r=>?_|exact T.z|refine⟨_,rfl,rfl,?_⟩|fail)<;>conv=>whnf)
 all_goals(try dsimp only)
 (show RL _ _ _;refine goR ?_)
 refine congrArg AV.bool ?_
 rw[ByteArray.toList_eq,ByteArray.toList_eq,Bool.eq_iff_iff]
 simp
theorem fpk{b:List UInt8}{c f e:Int}(h:qp b=(c,f,e)):LP Tryz.prog G 125 [bv b] [] (fun _=>(.tup [iAV c,iAV f,iAV e],[])):=by
 have:=wA (G:=G) b
 rwa [h] at this
end Go.Proofs.YtndpmpnmkpaklaaGreatDoor
