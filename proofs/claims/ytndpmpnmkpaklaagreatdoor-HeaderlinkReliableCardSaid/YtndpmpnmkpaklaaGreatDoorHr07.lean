/-
  Contracts of the functions that the laws reach.
-/
import Derived.Test.YtndpmpnmkpaklaaGreatDoorHr06
set_option maxHeartbeats 1000000
set_option linter.all false
namespace Go.Proofs.YtndpmpnmkpaklaaGreatDoor
open Go.RowKit
variable {G:Nat→AV}
theorem yy(n:Int):LP Tryz.prog G 209 [iAV n] [] (fun _=>(.bool (jD n),[])):=by
 refine goW [] Tryz.func209 rfl ?_
 conv=>whnf
 repeat'((first|refine T.s ?_|((first|apply goB|apply AB.dec|apply AB.gen)<;>intro h<;>try(exfalso;omega))|refine LQ.mk fun r=>?_|exact T.z|fail)<;>conv=>whnf)
 all_goals(try dsimp only)
 all_goals
   (show RL _ _ _;refine goR ?_)
   refine congrArg AV.bool ?_
   rw[Bool.eq_iff_iff]
   simp[jD,qr, *]
theorem jk(n v:Int)(h1:0≤n)(h2:n≤32):LP Tryz.prog G 210 [iAV n,iAV v] [] (fun _=>(.bool (xD n v),[])):=by
 have e:IntKind.i64.wrap (2^min n.toNat IntKind.i64.bits)=2^n.toNat:=by have:=shl1 h2;rwa [Int.one_mul] at this
 refine goW [] Tryz.func210 rfl ?_
 conv=>whnf
 repeat'((first|refine T.s ?_|((first|apply goB|apply AB.dec|apply AB.gen)<;>intro h<;>try(exfalso;omega))|refine LQ.mk fun r=>?_|exact T.z|fail)<;>conv=>whnf)
 all_goals(try dsimp only)
 all_goals
   (show RL _ _ _;refine goR ?_)
   simp[xD,qr, *]
theorem off_e{k:Int}(h1:3≤k)(h2:k≤32):q7 .sub .i64 (IntKind.i64.wrap (1*2^min (q7 .sub .i64 k 3).toNat 64)) 1=offK k:=by
 have e:q7 .sub .i64 k 3=k-3:=by(exact T.num)
 rw[e]
 exact mask_e (by omega)
theorem loffset_c(k:Int)(h1:3≤k)(h2:k≤32):LP Tryz.prog G 213 [iAV k] [] (fun _=>(iAV (offK k),[])):=by
 refine goW [] Tryz.func213 rfl ?_
 conv=>whnf
 repeat'((first|refine T.s ?_|((first|apply goB|apply AB.dec|apply AB.gen)<;>intro h<;>try(exfalso;omega))|refine LQ.mk fun r=>?_|exact T.z|fail)<;>conv=>whnf)
 all_goals(try dsimp only)
 (show RL _ _ _;refine goR ?_)
 exact congrArg iAV (off_e h1 h2)
theorem offK_rng{k:Int}(h2:k≤32):0≤offK k∧offK k<4294967296:=by
 have h3:=pw_pos (k-3)
 have h4:=pw_le (n:=k-3) (m:=32) (by omega)
 unfold offK
 omega
theorem first_e{r k:Int}(h2:k≤32)(hr:0≤r)(hr2:r<4294967296):q7 .sub .i64 r (offK k)=r-offK k:=by
 have:=offK_rng h2
 (exact T.num)
theorem val_rng{n v:Int}(h:xD n v=true)(hn:n≤32):0≤v∧v<4294967296:=by
 have h4:=pw_le (m:=32) hn
 simp[xD] at h
 omega
theorem ldec_c(n r k l:Int)(h1:3≤k)(h2:k≤n)(h3:n≤32)(hr:xD n r=true):LP Tryz.prog G 211 [iAV n,iAV r,iAV k,iAV l] [] (fun _=>(iAV (lsbV n r k l),[])):=by
 have hv:=val_rng hr h3
 have e:=first_e (k:=k) (by omega) hv.1 hv.2
 refine goW [] Tryz.func211 rfl ?_
 conv=>whnf
 repeat'((first|(show LC _ _ _ _ _ _;first|refine LC.pure (loffset_c _ h1 (by omega)) ?_|refine LC.pure (sdist_c _ _ _ (by omega) (by omega)) ?_|refine LC.pure (xQ _ _ (by omega) h3) ?_|refine goE ?_)|refine T.s ?_|((first|apply goB|apply AB.dec|apply AB.gen)<;>intro h<;>try(exfalso;omega))|refine LQ.mk fun r=>?_|exact T.z|fail)<;>conv=>whnf)
 all_goals(try dsimp only)
 (show RL _ _ _;refine goR ?_)
 rw[e]
 exact congrArg iAV (yx _ h3)
theorem lsbR_k{n:Int}(r k l:Int)(h:¬jD n=true):kg n r k l=(0,7):=by unfold kg;rw[if_neg h]
theorem lsbR_b{n r k l:Int}(h:jD n=true)(h2:k<3∨k > n∨xD n r=false∨xD k l=false):kg n r k l=(0,3):=by unfold kg;rw[if_pos h,if_pos h2]
theorem lsbR_g{n r k l:Int}(h:jD n=true)(h1:3≤k)(h2:k≤n)(h3:xD n r=true)(h4:xD k l=true):kg n r k l=(lsbV n r k l,0):=by
 unfold kg;rw[if_pos h,if_neg (by rw[h3,h4];simp;omega)]
theorem wide_le{n:Int}(h:jD n=true):8≤n∧n≤32:=by simp[jD] at h;omega
theorem ldecode_c(n r k l:Int):LP Tryz.prog G 205 [iAV n,iAV r,iAV k,iAV l] [] (fun _=>(.tup [iAV (kg n r k l).1,iAV (kg n r k l).2],[])):=by
 by_cases hw:jD n=true
 · have hn:=wide_le hw
   by_cases hb:k<3∨k > n∨xD n r=false∨xD k l=false
   · rw[lsbR_b hw hb]
     refine goW [] Tryz.func205 rfl ?_
     conv=>whnf
     repeat'((first|(show LC _ _ _ _ _ _;refine LC.eq (by rfl) (LC.pure (yy n) ?_);rw[hw];conv=>whnf)|(show LC _ _ _ _ _ _;first|refine LC.pure (jk _ _ (by omega) (by omega)) ?_|refine goE ?_)|refine T.s ?_|((first|apply goB|apply AB.dec|apply AB.gen)<;>intro h<;>try(exfalso;omega))|refine LQ.mk fun r=>?_|exact T.z|fail)<;>conv=>whnf)
     all_goals(try dsimp only)
     all_goals first|((show RL _ _ _;refine goR ?_);rfl)|(exfalso;simp_all [xD];done)|(exfalso;simp_all [xD];omega)
   · have h3:xD n r=true:=by cases h:xD n r<;>simp_all
     have h4:xD k l=true:=by cases h:xD k l<;>simp_all
     rw[lsbR_g hw (by omega) (by omega) h3 h4]
     refine goW [] Tryz.func205 rfl ?_
     conv=>whnf
     repeat'((first|(show LC _ _ _ _ _ _;refine LC.eq (by rfl) (LC.pure (yy n) ?_);rw[hw];conv=>whnf)|(show LC _ _ _ _ _ _;refine LC.eq (by rfl) (LC.pure (jk n r (by omega) (by omega)) ?_);rw[h3];conv=>whnf)|(show LC _ _ _ _ _ _;refine LC.eq (by rfl) (LC.pure (jk k l (by omega) (by omega)) ?_);rw[h4];conv=>whnf)|(show LC _ _ _ _ _ _;first|refine LC.pure (ldec_c _ _ _ _ (by omega) (by omega) (by omega) h3) ?_|refine goE ?_)|refine T.s ?_|((first|apply goB|apply AB.dec|apply AB.gen)<;>intro h<;>try(exfalso;omega))|refine LQ.mk fun r=>?_|exact T.z|fail)<;>conv=>whnf)
     all_goals(try dsimp only)
     all_goals first|((show RL _ _ _;refine goR ?_);rfl)
 · rw[lsbR_k r k l hw]
   have hw':jD n=false:=by simpa using hw
   refine goW [] Tryz.func205 rfl ?_
   conv=>whnf
   repeat'((first|(show LC _ _ _ _ _ _;refine LC.eq (by rfl) (LC.pure (yy n) ?_);rw[hw'];conv=>whnf)|refine T.s ?_|((first|apply goB|apply AB.dec|apply AB.gen)<;>intro h<;>try(exfalso;omega))|refine LQ.mk fun r=>?_|exact T.z|fail)<;>conv=>whnf)
   all_goals(try dsimp only)
   (show RL _ _ _;refine goR ?_)
   rfl
open Go.RowKit
variable {G:Nat→AV}
def Ky.ok(k:Ky):Bool:=decide (k.s.length=32∧k.g.length=16∧0≤k.n∧k.n≤4294967295∧0≤k.b∧k.b≤255∧(k.d=0∨k.d=1))
attribute [irreducible] Ky.ok
open Go.RowKit
variable {G:Nat→AV}
theorem same_c(a b:List UInt8):LP Tryz.prog G 15 [bv a,bv b] [] (fun _=>(.bool (decide (a=b)),[])):=by
 refine goW [] Tryz.func15 rfl ?_
 conv=>whnf
 repeat'((first|refine T.s ?_|((first|apply goB|apply AB.dec|apply AB.gen)<;>intro h<;>try(exfalso;omega))|refine LQ.mk fun r=>?_|exact T.z|refine⟨_,rfl,rfl,?_⟩|fail)<;>conv=>whnf)
 all_goals(try dsimp only)
 (show RL _ _ _;refine goR ?_)
 refine congrArg AV.bool ?_
 rw[ByteArray.toList_eq,ByteArray.toList_eq,Bool.eq_iff_iff]
 simp
def qn(n:Int):Nat→List UInt8
 | 0=>[]
 | k+1=>b8 (n.fdiv (2^min (8*k) 64))::qn n k
open Go.RowKit
def crcB(k p r b:Nat):Nat:=if r / 2^(k-1)=b then(2*r)%2^k else((2*r)%2^k) ^^^ p
def wc(k p r c:Nat):Nat→Nat
 | 0=>r
 | j+1=>crcB k p (wc k p r c j) (c / 2^(7-j)%2)
def kt(k p:Nat)(r:Nat):List UInt8→Nat
 | []=>r
 | c::l=>kt k p (wc k p r c.toNat 8) l
theorem crcL_app(k p:Nat):∀(l m:List UInt8) (r:Nat),kt k p r (l++m)=kt k p (kt k p r l) m
 | [],_,_=>rfl
 | c::l,m,r=>crcL_app k p l m _
theorem crcL_take(k p r:Nat)(l:List UInt8)(i:Nat)(h:i<l.length):kt k p r (l.take (i+1))=wc k p (kt k p r (l.take i)) (l.getD i 0).toNat 8:=by
 rw[List.take_succ_eq_append_getElem h,crcL_app]
 simp[kt,List.getD_eq_getElem?_getD,h]
theorem crcB_lt{k p r b:Nat}(hp:p<2^k):crcB k p r b<2^k:=by
 have h:(2*r)%2^k<2^k:=Nat.mod_lt _ (Nat.pow_pos (by decide))
 unfold crcB
 split
 · exact h
 · exact Nat.xor_lt_two_pow h hp
theorem crcN_lt{k p r c:Nat}(hp:p<2^k)(hr:r<2^k):∀j,wc k p r c j<2^k
 | 0=>hr
 | _+1=>crcB_lt hp
theorem zE{k p:Nat}(hp:p<2^k):∀(l:List UInt8) {r:Nat},r<2^k→kt k p r l<2^k
 | [],_,h=>h
 | _::l,_,h=>zE hp l (crcN_lt hp h 8)
theorem j9(k p r c:Nat):wc k p r c 0=r:=rfl
theorem crcN_succ(k p r c j:Nat):wc k p r c (j+1)=crcB k p (wc k p r c j) (c / 2^(7-j)%2):=rfl
theorem jZ(k p r:Nat):kt k p r []=r:=rfl
attribute [irreducible] crcB wc kt
def kN(n:Int):Int:=if n=3 then 3 else if n=7 then 9 else if n=8 then 7 else if n=16 then 4129 else if n=24 then 8801531 else 0
def jp(n:Int)(l:List UInt8):Int:=(kt n.toNat (kN n).toNat (2^n.toNat-1) l:Nat)
theorem crcS_eq(n:Int)(l:List UInt8):(kt n.toNat (kN n).toNat (2^n.toNat-1) l:Int)=jp n l:=rfl
attribute [irreducible] jp
theorem ixor_nat(a b:Nat)(ha:a<4294967296)(hb:b<4294967296):qk .xor .i64 (a:Int) (b:Int)=((a ^^^ b:Nat):Int):=by
 show IntKind.i64.wrap ((BitVec.ofInt 64 (a:Int) ^^^ BitVec.ofInt 64 (b:Int)).toNat:Int)=_
 have h:a ^^^ b<2^32:=Nat.xor_lt_two_pow ha hb
 rw[BitVec.toNat_xor,BitVec.ofInt_natCast,BitVec.ofInt_natCast,BitVec.toNat_ofNat,BitVec.toNat_ofNat,Nat.mod_eq_of_lt (show a<2^64 by omega),Nat.mod_eq_of_lt (show b<2^64 by omega),IntKind.wrap_i64]
 omega
section
variable {n:Int}{R c j:Nat}
theorem top_e(hn:1≤n∧n≤32):(R:Int).fdiv (2^min (q7 .sub .i64 n 1).toNat IntKind.i64.bits)=((R / 2^(n.toNat-1):Nat):Int):=by
 have e:q7 .sub .i64 n 1=n-1:=by(exact T.num)
 rw[e,Int.fdiv_eq_ediv_of_nonneg _ (Int.le_of_lt (Int.pow_pos (by decide))),show min (n-1).toNat IntKind.i64.bits=n.toNat-1 by show min _ 64=_;omega]
 simp
theorem shc_e(hc:c<256)(hj:j<8):qk .and .i64 ((IntKind.i64.wrap (c:Int)).fdiv (2^min (7-(j:Int)).toNat IntKind.i64.bits)) 1=((c / 2^(7-j)%2:Nat):Int):=by
 rw[show IntKind.i64.wrap (c:Int)=c by rw[IntKind.wrap_i64];omega,Int.fdiv_eq_ediv_of_nonneg _ (Int.le_of_lt (Int.pow_pos (by decide))),show min (7-(j:Int)).toNat IntKind.i64.bits=7-j by show min _ 64=_;omega]
 refine(and_mask _ 1 (by decide)).trans ?_
 simp
theorem xor_ne{a b:Nat}(ha:a<2)(hb:b<2):a ^^^ b=1↔a≠b:=by
 obtain rfl|rfl:a=0∨a=1:=by omega
 · obtain rfl|rfl:b=0∨b=1:=by omega
   · decide
   · decide
 · obtain rfl|rfl:b=0∨b=1:=by omega
   · decide
   · decide
theorem shl_e(hn:1≤n∧n≤24)(hR:R<2^n.toNat):qk .and .i64 (IntKind.i64.wrap ((R:Int)*2^min (1:Int).toNat IntKind.i64.bits)) (q7 .sub .i64 (IntKind.i64.wrap (1*2^min n.toNat IntKind.i64.bits)) 1)=((2*R%2^n.toNat:Nat):Int):=by
 have h:=Nat.pow_le_pow_right (n:=2) (by decide) (show n.toNat≤24 by omega)
 refine(low_e _ (by omega)).trans ?_
 rw[yx _ (by omega)]
 unfold lw
 rw[show(R:Int)*2^min (1:Int).toNat IntKind.i64.bits=((2*R:Nat):Int) by show(R:Int)*2^1=_;push_cast;omega]
 simp
theorem topx{p r:Nat}(hn:1≤n∧n≤24)(hR:R<2^n.toNat)(hc:c<256)(hj:j<8):qk .xor .i64 ((R:Int).fdiv (2^min (q7 .sub .i64 n 1).toNat IntKind.i64.bits)) (qk .and .i64 ((IntKind.i64.wrap (c:Int)).fdiv (2^min (7-(j:Int)).toNat IntKind.i64.bits)) 1)=1↔R / 2^(n.toNat-1)≠c / 2^(7-j)%2:=by
 have h1:R / 2^(n.toNat-1)<2:=by
   rw[Nat.div_lt_iff_lt_mul (Nat.pow_pos (by decide)),Nat.mul_comm,←Nat.pow_succ,show(n.toNat-1).succ=n.toNat by omega]
   exact hR
 have h2:c / 2^(7-j)%2<2:=Nat.mod_lt _ (by decide)
 rw[top_e (by omega),shc_e hc hj,ixor_nat _ _ (by omega) (by omega),←xor_ne h1 h2]
 exact⟨fun h=>by exact_mod_cast h,fun h=>by exact_mod_cast h⟩
theorem crc_t{p r:Nat}(hn:1≤n∧n≤24)(hp:p<2^n.toNat)(hr:r<2^n.toNat)(hc:c<256)(hj0:(0:Int)≤7-(j:Int))
   (h:qk .xor .i64 ((wc n.toNat p r c j:Int).fdiv (2^min (q7 .sub .i64 n 1).toNat IntKind.i64.bits)) (qk .and .i64 ((IntKind.i64.wrap (c:Int)).fdiv (2^min (7-(j:Int)).toNat IntKind.i64.bits)) 1)=1) :
   qk .xor .i64 (qk .and .i64 (IntKind.i64.wrap ((wc n.toNat p r c j:Int)*2^min (1:Int).toNat IntKind.i64.bits)) (q7 .sub .i64 (IntKind.i64.wrap (1*2^min n.toNat IntKind.i64.bits)) 1)) (p:Int)=((wc n.toNat p r c (j+1):Nat):Int):=by
 have hj:j<8:=by omega
 have hR:=crcN_lt (c:=c) hp hr j
 have h24:=Nat.pow_le_pow_right (n:=2) (by decide) (show n.toNat≤24 by omega)
 rw[topx (p:=p) (r:=r) hn hR hc hj] at h
 have h3:2*wc n.toNat p r c j%2^n.toNat<2^n.toNat:=Nat.mod_lt _ (Nat.pow_pos (by decide))
 rw[shl_e hn hR,ixor_nat _ _ (by omega) (by omega),crcN_succ]
 unfold crcB
 rw[if_neg h]
theorem crc_f{p r:Nat}(hn:1≤n∧n≤24)(hp:p<2^n.toNat)(hr:r<2^n.toNat)(hc:c<256)(hj0:(0:Int)≤7-(j:Int))
   (h:¬qk .xor .i64 ((wc n.toNat p r c j:Int).fdiv (2^min (q7 .sub .i64 n 1).toNat IntKind.i64.bits)) (qk .and .i64 ((IntKind.i64.wrap (c:Int)).fdiv (2^min (7-(j:Int)).toNat IntKind.i64.bits)) 1)=1) :
   qk .and .i64 (IntKind.i64.wrap ((wc n.toNat p r c j:Int)*2^min (1:Int).toNat IntKind.i64.bits)) (q7 .sub .i64 (IntKind.i64.wrap (1*2^min n.toNat IntKind.i64.bits)) 1)=((wc n.toNat p r c (j+1):Nat):Int):=by
 have hj:j<8:=by omega
 have hR:=crcN_lt (c:=c) hp hr j
 rw[topx (p:=p) (r:=r) hn hR hc hj] at h
 rw[shl_e hn hR,crcN_succ]
 unfold crcB
 rw[if_pos (by omega)]
end
def qZ(x:Int):Int:=if x≤0 then 0 else(x-1)%65535+1
theorem foldR_small{x:Int}(h0:0≤x)(h:x≤65535):qZ x=x:=by unfold qZ;split<;>omega
theorem foldR_step{x:Int}(h:65535<x):qZ (x%65536+x / 65536)=qZ x:=by
 unfold qZ
 rw[if_neg (by omega),if_neg (by omega)]
 omega
theorem foldR_rng(x:Int):0≤qZ x∧qZ x≤65535:=by unfold qZ;split<;>omega
theorem foldR_add{x y:Int}(h0:0≤x)(h:0≤y):qZ (qZ x+y)=qZ (x+y):=by
 unfold qZ
 split
 · split<;>split<;>omega
 · split<;>split<;>omega
def zA:List UInt8→Int
 | []=>0
 | [a]=>256*(a.toNat:Int)
 | a::b::l=>256*(a.toNat:Int)+(b.toNat:Int)+zA l
theorem yS(l:List UInt8):∀(j:Nat),2*j<l.length→zA (l.take (2*(j+1)))=zA (l.take (2*j))+(256*((l.getD (2*j) 0).toNat:Int)+((l.getD (2*j+1) 0).toNat:Int)):=by
 intro j
 induction j generalizing l with
 | zero =>
   intro h
   match l,h with
   | [a],_=>simp[zA]
   | a::b::l,_=>simp[zA]
 | succ j ih =>
   intro h
   match l,h with
   | a::b::l,h =>
     have h2:2*j<l.length:=by simp at h;omega
     have:=ih l h2
     have e1:List.take (2*(j+1+1)) (a::b::l)=a::b::List.take (2*(j+1)) l:=rfl
     have e2:List.take (2*(j+1)) (a::b::l)=a::b::List.take (2*j) l:=rfl
     have e3:(a::b::l).getD (2*(j+1)) 0=l.getD (2*j) 0:=rfl
     have e4:(a::b::l).getD (2*(j+1)+1) 0=l.getD (2*j+1) 0:=rfl
     rw[e1,e2,e3,e4]
     simp only[zA]
     omega
theorem jO(l:List UInt8):∀n,l.length≤2*n→0≤zA l∧zA l≤65535*(n:Int):=by
 intro n
 induction n generalizing l with
 | zero=>intro h;obtain rfl:=List.eq_nil_of_length_eq_zero (by omega:l.length=0);exact⟨by decide,by decide⟩
 | succ n ih =>
   intro h
   match l,h with
   | [],_=>exact⟨by decide,by simp only[zA];omega⟩
   | [a],_=>have:=a.toNat_lt;simp only[zA];omega
   | a::b::l,h =>
     have h1:=a.toNat_lt
     have h2:=b.toNat_lt
     have:=ih l (by simp at h;omega)
     simp only[zA]
     omega
theorem foldR_id{x:Int}(h:¬65535<x)(h0:0≤x):qZ x=x:=foldR_small h0 (by omega)
theorem wsum_nil:zA []=0:=rfl
attribute [irreducible] zA qZ
def csR(l:List UInt8):Int:=65535-qZ (zA l)
def qJ(h:Hd):List UInt8 :=
 [69,b8 h.tos,0,0]++qn h.id 2++[b8 (64*h.fx),0,b8 h.ttl,17,0,0]++qn h.fr 4++qn h.to 4++qn h.fp 2++qn h.tp 2++[0,0]++qn h.ck 2 ++
   (if h.k=2 then[128,b8 (128*h.mr+h.ty)]++qn h.sq 2++qn h.tm 4++qn h.sr 4 else[])
@[simp] theorem putBlen(n:Int)(k:Nat):(qn n k).length=k:=by
 induction k with
 | zero=>rfl
 | succ k ih=>simp[qn,ih]
theorem zS(h:Hd):(qJ h).length=if h.k=2 then 40 else 28:=by unfold qJ;split<;>simp
def setW(l:List UInt8)(a:Nat)(xs:List UInt8):List UInt8:=l.take a++xs++l.drop (a+xs.length)
def bld1(h:Hd)(p:List UInt8):List UInt8:=setW (setW (qJ h++p) 2 (qn (((qJ h).length+p.length:Nat):Int) 2)) 24 (qn (((qJ h).length+p.length:Nat)-20) 2)
def bldL(h:Hd)(p:List UInt8):List UInt8:=setW (bld1 h p) 10 (qn (csR ((bld1 h p).take 20)) 2)
def zh(h:Hd)(p:List UInt8):List UInt8×Int :=
 if h.ok=true then(if(qJ h).length+p.length≤1500 then(bldL h p,0) else([],2)) else([],1)
def headO(h:Hd):List UInt8:=if h.ok=true then qJ h else[]
open Go.RowKit
section
variable {α:Type}{f:α→List AV}{n:Nat}
theorem qm(hf:∀x,(f x).length=n):∀l:List α,(l.flatMap f).length=l.length*n
 | []=>by simp
 | x::l=>by rw[List.flatMap_cons,List.length_append,qm hf l,hf,List.length_cons,Nat.succ_mul,Nat.add_comm]
theorem kj(hf:∀x,(f x).length=n):∀(l:List α) (i:Nat),(l.flatMap f).drop (i*n)=(l.drop i).flatMap f
 | _,0=>by simp
 | [],i+1=>by simp
 | x::l,i+1=>by
   rw[List.flatMap_cons,List.drop_append,hf,List.drop_of_length_le (by rw[hf,Nat.succ_mul];omega),List.nil_append,show(i+1)*n-n=i*n by rw[Nat.succ_mul];omega,kj hf l i]
   rfl
theorem fm_take(hf:∀x,(f x).length=n):∀(l:List α) (i:Nat),(l.flatMap f).take (i*n)=(l.take i).flatMap f
 | _,0=>by simp
 | [],i+1=>by simp
 | x::l,i+1=>by
   rw[List.flatMap_cons,List.take_append,hf,List.take_of_length_le (by rw[hf,Nat.succ_mul];omega),show(i+1)*n-n=i*n by rw[Nat.succ_mul];omega,fm_take hf l i]
   rfl
theorem drop_getD(l:List α)(i:Nat)(d:α)(h:i<l.length):l.drop i=l.getD i d::l.drop (i+1):=by
 rw[List.drop_eq_getElem_cons h]
 simp[List.getD_eq_getElem?_getD,h]
theorem vC(hf:∀x,(f x).length=n)(l:List α)(i:Nat)(d:α)(h:i<l.length):(l.flatMap f).drop (i*n)=f (l.getD i d)++(l.drop (i+1)).flatMap f:=by
 rw[kj hf,drop_getD l i d h,List.flatMap_cons]
theorem AC.recd{agg:Bool}{l:List α}{o m:Nat}{K:AV→Prop}(hf:∀x,(f x).length=n)(i:Nat)(d:α)(ho:o=i*n)(hm:m=n)(h:i<l.length)(k:K (mkv agg (f (l.getD i d)))):AC agg (((l.flatMap f).drop o).take m) K:=⟨by
 subst ho hm
 rw[vC hf l i d h,List.take_append_of_le_length (by rw[hf];omega),List.take_of_length_le (by rw[hf];omega)]
 exact k⟩
theorem AC.fld{l:List α}{o m:Nat}{K:AV→Prop}(hf:∀x,(f x).length=n)(i j:Nat)(d:α)(v:AV)(ho:o=i*n+j)(hj:j+m≤n)(h:i<l.length)(hv:mkv false (((f (l.getD i d)).drop j).take m)=v)(k:K v):AC false (((l.flatMap f).drop o).take m) K:=⟨by
 subst ho
 rw[←List.drop_drop,vC hf l i d h,List.drop_append_of_le_length (by rw[hf];omega),List.take_append_of_le_length (by simp[hf];omega),hv]
 exact k⟩
theorem yX(hf:∀x,(f x).length=n)(l:List α)(i j:Nat)(d y:α)(xs:List AV)(h:i<l.length)(hj:j+xs.length≤n)(hy:f y=qg (f (l.getD i d)) j xs):qg (l.flatMap f) (i*n+j) xs=(l.set i y).flatMap f:=by
 have h1:(l.flatMap f).take (i*n+j)=(l.take i).flatMap f++(f (l.getD i d)).take j:=by
   rw[List.take_add,fm_take hf,vC hf l i d h,List.take_append_of_le_length (by rw[hf];omega)]
 have h2:(l.flatMap f).drop (i*n+j+xs.length)=(f (l.getD i d)).drop (j+xs.length)++(l.drop (i+1)).flatMap f:=by
   rw[Nat.add_assoc,←List.drop_drop,vC hf l i d h,List.drop_append_of_le_length (by rw[hf];omega)]
 unfold qg at hy ⊢
 rw[h1,h2,List.set_eq_take_append_cons_drop,if_pos h,List.flatMap_append,List.flatMap_cons,hy]
 simp[List.append_assoc]
end
theorem drop_behind{A B:List AV}{o k:Nat}(h:o=A.length):(A++B).drop (o+k)=B.drop k:=by subst h;rw[List.drop_append];simp
theorem splice_behind{A B xs:List AV}{o k:Nat}(h:o=A.length):qg (A++B) (o+k) xs=A++qg B k xs:=by
 subst h
 unfold qg
 rw[List.take_append,List.take_of_length_le (by omega),Nat.add_assoc,List.drop_append,List.drop_of_length_le (by omega)]
 simp[List.append_assoc]
theorem AC.behind{agg:Bool}{A B:List AV}{o k m:Nat}{K:AV→Prop}(h:o=A.length)(g:AC agg ((B.drop k).take m) K):AC agg (((A++B).drop (o+k)).take m) K:=⟨by rw[drop_behind h];exact g.go⟩
theorem AQ.behind{A B xs:List AV}{o k:Nat}{K:List AV→Prop}(h:o=A.length)(g:AQ (qg B k xs) fun cs=>K (A++cs)):AQ (qg (A++B) (o+k) xs) K:=⟨by rw[splice_behind h];exact g.go⟩
open Go.RowKit
variable {G:Nat→AV}
structure Sm where
 cx:Int
 f:Int
 n:Int
 tm:Int
 mr:Int
 id:Int
 ud:Int
 h:Hd
 d:Dy
 ck:Int
 pl:List UInt8
@[reducible] def Sm.cs(s:Sm):List AV:=[iAV s.cx,iAV s.f,iAV s.n,iAV s.tm,iAV s.mr,iAV s.id,iAV s.ud,iAV s.h.k,iAV s.h.tos,iAV s.h.id,iAV s.h.fx,iAV s.h.ttl,iAV s.h.fr,iAV s.h.to,iAV s.h.fp,iAV s.h.tp,iAV s.h.ck,iAV s.h.mr,iAV s.h.ty,iAV s.h.sq,iAV s.h.tm,iAV s.h.sr,iAV s.d.st,iAV s.d.fo,iAV s.ck,bv s.pl]
@[reducible] def Sm.av(s:Sm):AV:=.agg s.cs
def cbR(f:Int):Int:=if f=1 then 3 else if f=2 then 7 else 8
theorem wg(f:Int):LP Tryz.prog G 170 [iAV f] [] (fun _=>(iAV (cbR f),[])):=by
 refine goW [] Tryz.func170 rfl ?_
 conv=>whnf
 repeat'((first|refine T.s ?_|((first|apply goB|apply AB.dec|apply AB.gen)<;>intro h<;>try(exfalso;omega))|refine LQ.mk fun r=>?_|exact T.z|fail)<;>conv=>whnf)
 all_goals(try dsimp only)
 all_goals
   (show RL _ _ _;refine goR ?_)
   simp[cbR,iAV, *]
def wid(f k:Int)(i:Nat):Int:=(if f=1 then[4,0,0,0] else if f=2∧k=2 then[5,16,1,0] else if f=2 then[5,0,0,0] else if k=2 then[8,32,1,16] else[16,0,0,0]:List Int).getD i 0
theorem widths_c(f k:Int):LP Tryz.prog G 197 [iAV f,iAV k] [] (fun _=>(.agg [iAV (wid f k 0),iAV (wid f k 1),iAV (wid f k 2),iAV (wid f k 3)],[])):=by
 refine goW [] Tryz.func197 rfl ?_
 conv=>whnf
 repeat'((first|refine T.s ?_|((first|apply goB|apply AB.dec|apply AB.gen)<;>intro h<;>try(exfalso;omega))|refine LQ.mk fun r=>?_|exact T.z|fail)<;>conv=>whnf)
 all_goals(try dsimp only)
 all_goals
   (show RL _ _ _;refine goR ?_)
   simp[wid,iAV,qr, *]
theorem wu(f k:Int):LP Tryz.prog G 151 [iAV f,iAV k] [] (fun _=>(iAV (wid f k 0),[])):=by
 refine goW [] Tryz.func151 rfl ?_
 conv=>whnf
 repeat'((first|(show LC _ _ _ _ _ _;first|refine LC.pure (widths_c _ _) ?_|refine goE ?_)|refine T.s ?_|((first|apply goB|apply AB.dec|apply AB.gen)<;>intro h<;>try(exfalso;omega))|refine LQ.mk fun r=>?_|exact T.z|fail)<;>conv=>whnf)
 all_goals(try dsimp only)
 (show RL _ _ _;refine goR ?_)
 rfl
def qW(n v:Int):Bool:=decide (0≤v∧v<2^n.toNat)
theorem pow_w(n:Int)(h0:0≤n)(h1:n≤32):IntKind.i64.wrap (1*2^min n.toNat IntKind.i64.bits)=2^n.toNat:=by
 have e:min n.toNat IntKind.i64.bits=n.toNat:=Nat.min_eq_left (by show n.toNat≤64;omega)
 rw[e,Int.one_mul,IntKind.wrap_i64]
 have h2:(2:Int)^n.toNat≤2^32:=by exact_mod_cast Nat.pow_le_pow_right (by decide) (show n.toNat≤32 by omega)
 have h3:(0:Int)<2^n.toNat:=Int.pow_pos (by decide)
 omega
theorem ffits_c(n v:Int)(h0:0≤n)(h1:n≤32):LP Tryz.prog G 196 [iAV n,iAV v] [] (fun _=>(.bool (qW n v),[])):=by
 have hw:=pow_w n h0 h1
 refine goW [] Tryz.func196 rfl ?_
 conv=>whnf
 repeat'((first|refine T.s ?_|((first|apply goB|apply AB.dec|apply AB.gen)<;>intro h<;>try(exfalso;omega))|refine LQ.mk fun r=>?_|exact T.z|fail)<;>conv=>whnf)
 all_goals(try dsimp only)
 all_goals
   (show RL _ _ _;refine goR ?_)
   refine congrArg AV.bool ?_
   rw[Bool.eq_iff_iff]
   simp_all [qW,qr]<;>(intros;omega)
attribute [irreducible] qW
def ji(s:Sm):Bool:=decide (s.n=0∧s.tm=0∧s.mr=0∧s.id=0∧s.ud=0)
def hzR(h:Hd)(k:Int):Bool:=decide (h.k=k∧h.tos=0∧h.id=0∧h.fx=0∧h.ttl=0∧h.fr=0∧h.to=0∧h.fp=0∧h.tp=0∧h.ck=0∧h.mr=0∧h.ty=0∧h.sq=0∧h.tm=0∧h.sr=0)
def szR(h:Hd):Bool:=decide (h.fr=0∧h.to=0∧h.fp=0∧h.tp=0∧h.sr=0)
def dzR(d:Dy):Bool:=decide (d.st=0∧d.fo=0)
def jL(s:Sm):Bool:=s.h.ok&&(s.d.ok&&(!(decide (s.h.k=1)&&!(dzR s.d))&&(decide (s.f=5) || szR s.h)))
def zL(s:Sm):Bool:=qW (wid s.f s.h.k 0) s.n&&(qW (wid s.f s.h.k 1) s.tm&&(qW (wid s.f s.h.k 2) s.mr&&(qW (wid s.f s.h.k 3) s.id&&qW 16 s.ud)))
def topR(s:Sm):Bool:=decide (0≤s.cx∧s.cx<16∧s.pl.length≤1500)&&qW (cbR s.f) s.ck
def Sm.ok(s:Sm):Bool :=
 topR s&&(if s.f=1∨s.f=2∨s.f=3 then zL s&&(decide (s.h.k=1∨s.h.k=2)&&(hzR s.h s.h.k&&dzR s.d))
   else if s.f=4∨s.f=5 then ji s&&jL s
   else if s.f=6 then ji s&&(decide (s.cx=0∧s.ck=0)&&(hzR s.h 0&&dzR s.d)) else false)
theorem wid_le(f k:Int)(i:Nat):0≤wid f k i∧wid f k i≤32:=by
 unfold wid
 rcases i with _|_|_|_|i<;>(repeat' split)<;>simp
theorem cbR_le(f:Int):0≤cbR f∧cbR f≤32:=by
 unfold cbR
 (repeat' split)<;>omega
theorem fwhole_c(s:Sm):LP Tryz.prog G 198 [s.av] [] (fun _=>(.bool (jL s),[])):=by
 refine goW [] Tryz.func198 rfl ?_
 conv=>whnf
 repeat'((first|exact Nm.b 0|(show LC _ _ _ _ _ _;first|refine LC.pure (zG s.h) ?_|refine LC.pure (jl s.d) ?_|refine LC.pure (fstatic_c s.h) ?_|refine goE ?_)|refine T.s ?_|((first|apply goB|apply AB.dec|apply AB.gen)<;>intro h<;>try(exfalso;omega))|refine LQ.mk fun r=>?_|(show SWpL _ _ _ _ _ _ _;first|(apply goD tQ qc 4 [7,5] [0,1,2,3,4,6,7,8,5,9,10,11] [_] (by kernel_rfl))|(refine goD tQ qc 4 [7,5] [0,1,2,3,4,6,7,8,5,9,10,11] [] (by kernel_rfl) ?_))|exact T.z|fail)<;>try(show(_:Prop);conv=>whnf))
 all_goals(try dsimp only)
 all_goals
   (show RL _ _ _;refine goR ?_)
   refine congrArg AV.bool ?_
   rw[Bool.eq_iff_iff]
   simp_all [jL,dzR,szR,za,qr,Hd.static]
end Go.Proofs.YtndpmpnmkpaklaaGreatDoor
