/-
  Contracts of the functions that the laws reach.
-/
import Derived.Laws.BitsLemmas
import Derived.Test.YtndpmpnmkpaklaaGreatDoorHr03
set_option linter.all false
namespace Go.Proofs.YtndpmpnmkpaklaaGreatDoor
open Go.RowKit
theorem qc:Tryz.prog.follows .mixedOrders=true:=by kernel_rfl
section
variable {A B:Prop}{a b:Int}
theorem AB.lss(x:a<b→A)(y:¬a<b→B):AB (qr .lss a b) A B:=⟨fun h=>x (by simpa [qr] using h),fun h=>y (by simpa [qr] using h)⟩
theorem AB.leq(x:a≤b→A)(y:¬a≤b→B):AB (qr .leq a b) A B:=⟨fun h=>x (by simpa [qr] using h),fun h=>y (by simpa [qr] using h)⟩
theorem AB.gtr(x:b<a→A)(y:¬b<a→B):AB (qr .gtr a b) A B:=⟨fun h=>x (by simpa [qr] using h),fun h=>y (by simpa [qr] using h)⟩
theorem AB.geq(x:b≤a→A)(y:¬b≤a→B):AB (qr .geq a b) A B:=⟨fun h=>x (by simpa [qr] using h),fun h=>y (by simpa [qr] using h)⟩
theorem AB.eql(x:a=b→A)(y:¬a=b→B):AB (qr .eql a b) A B:=⟨fun h=>x (by simpa [qr] using h),fun h=>y (by simpa [qr] using h)⟩
theorem AB.neq(x:¬a=b→A)(y:a=b→B):AB (qr .neq a b) A B:=⟨fun h=>x (by simpa [qr] using h),fun h=>y (by simpa [qr] using h)⟩
theorem AB.neqT(h:¬a=b)(x:A):AB (qr .neq a b) A B:=.neq (fun _=>x) fun k=>absurd k h
theorem AB.neqF(h:a=b)(y:B):AB (qr .neq a b) A B:=.neq (fun k=>absurd h k) fun _=>y
theorem AB.dec{p:Prop}[Decidable p](x:p→A)(y:¬p→B):AB (decide p) A B:=⟨fun h=>x (by simpa using h),fun h=>y (by simpa using h)⟩
theorem AB.decF{p:Prop}[Decidable p](h:¬p)(y:B):AB (decide p) A B:=.dec (fun k=>absurd k h) fun _=>y
theorem AB.tt(x:A):AB true A B:=⟨fun _=>x,nofun⟩
theorem AB.ff(y:B):AB false A B:=⟨nofun,fun _=>y⟩
theorem AB.gen{t:Bool}(x:t=true→A)(y:t=false→B):AB t A B:=⟨x,y⟩
end
def b8(n:Int):UInt8:=UInt8.ofNat (n%256).toNat
theorem qS(n:Int):bAV (b8 n)=.int .u8 (IntKind.u8.wrap n):=by
 unfold bAV b8
 congr 1
 rw[IntKind.wrap_u8]
 simp
 omega
def bv(l:List UInt8):AV:=.sl l.length (l.map bAV)
def iAV(n:Int):AV:=.int .i64 n
def iv(l:List Int):AV:=.sl l.length (l.map iAV)
theorem all_iAV(l:List Int):((l.map iAV).all AV.one)=true:=all_one _ (fun _=>rfl) l
theorem AQ.app{α:Type}{f:α→AV}{l:List α}{m:Nat}{xs:List AV}{K:List AV→Prop}(h:l.length≤m)(k:K (l.map f++xs)):AQ (List.take m (List.drop 0 (l.map f))++xs) K:=⟨by
 rw[List.drop_zero,List.take_of_length_le (by simpa using h)];exact k⟩
theorem AQ.full{cs:List AV}{m:Nat}{xs:List AV}{K:List AV→Prop}(h:cs.length≤m)(k:K (cs++xs)):AQ (List.take m (List.drop 0 cs)++xs) K:=⟨by
 rw[List.drop_zero,List.take_of_length_le h];exact k⟩
theorem AQ.set{α:Type}{f:α→AV}{l:List α}{i:Nat}{x:α}{v:AV}{K:List AV→Prop}(hv:v=f x)(h:i<l.length)(k:K ((l.set i x).map f)):AQ (qg (l.map f) i [v]) K:=⟨by
 have e:qg (l.map f) i [v]=(l.set i x).map f:=by
   subst hv
   unfold qg
   rw[List.set_eq_take_append_cons_drop]
   simp[h,List.map_take,List.map_drop]
 rw[e];exact k⟩
theorem AQ.eq{cs cs':List AV}{K:List AV→Prop}(h:cs=cs')(k:K cs'):AQ cs K:=⟨h▸k⟩
theorem AC.cell{α:Type}{l:List α}{f:α→AV}{o:Nat}{K:AV→Prop}(d:α)(h:o<l.length)(k:K (f (l.getD o d))):AC false ((List.drop o (l.map f)).take 1) K:=AC.elem d h k
theorem AC.idx{α:Type}{l:List α}{f:α→AV}{o:Nat}{K:AV→Prop}(i:Nat)(d:α)(ho:o=i)(h:i<l.length)(k:K (f (l.getD i d))):AC false ((List.drop o (l.map f)).take 1) K:=by subst ho;exact AC.elem d h k
theorem vwc{p:Nm}{off n n' sz:Nat}(h:n=n'):AV.vw p off n sz=AV.vw p off n' sz:=h▸rfl
theorem q9{n n':Nat}{cs cs':List AV}(h:n=n')(k:cs=cs'):AV.sl n cs=AV.sl n' cs':=h▸k▸rfl
theorem AC.eq{agg:Bool}{cs:List AV}{v:AV}{K:AV→Prop}(h:mkv agg cs=v)(k:K v):AC agg cs K:=⟨h▸k⟩
theorem AQ.tailE{α:Type}{f:α→AV}{l:List α}{o' m:Nat}{K:List AV→Prop}(o:Nat)(h1:o'=o)(h2:l.length≤o+m)(k:K ((l.drop o).map f)):AQ (((l.map f).drop o').take m) K:=⟨by
 subst h1
 rw[←List.map_drop,List.take_of_length_le (by simp;omega)];exact k⟩
theorem AQ.subE{α:Type}{f:α→AV}{l:List α}{o' m':Nat}{K:List AV→Prop}(o m:Nat)(h1:o'=o)(h2:m'=m)(k:K (((l.drop o).take m).map f)):AQ (((l.map f).drop o').take m') K:=⟨by
 subst h1 h2
 rw[←List.map_drop,←List.map_take];exact k⟩
theorem AQ.headE{α:Type}{f:α→AV}{l:List α}{o' m':Nat}{K:List AV→Prop}(m:Nat)(h1:o'=0)(h2:m'=m)(k:K ((l.take m).map f)):AQ (((l.map f).drop o').take m') K:=⟨by
 subst h1 h2
 rw[List.drop_zero,←List.map_take];exact k⟩
theorem lset_lt{α:Type}{l:List α}{i j:Nat}{x:α}(h:i<l.length):i<(l.set j x).length:=by simpa using h
theorem lset_le{α:Type}{l:List α}{i j:Nat}{x:α}(h:i≤l.length):i≤(l.set j x).length:=by simpa using h
theorem map_le{α:Type}{f:α→AV}{l:List α}{i:Nat}(h:i≤l.length):i≤(l.map f).length:=by simpa using h
theorem RL.rowF{α:Type}{f:α→AV}{b:List α}{q:Nm}{n:Nat}{l m:LS}(h:LH l q fun c _ r=>c.cs=b.map f∧n=b.length∧LB m r):RL (fun _=>(.sl b.length (b.map f),m)) (.vw q 0 n 1) l:=by
 obtain⟨l1,c,l2,rfl,h1,rfl,h2⟩:=h.ex
 refine RL.frz [q] (LF.row InL.here ⟨l1,c,l2,rfl,by decide,by simp[h1],rfl,h1.symm⟩) ?_
 exact⟨l1,c,l2,rfl,h2⟩
theorem LF.rowF{α:Type}{f:α→AV}{b:List α}{q:Nm}{n:Nat}{l:LS}{F:List Nm}(hq:InL q F)(h:LH l q fun c _ _=>c.cs=b.map f∧n=b.length):LF l F (.vw q 0 n 1) (.sl b.length (b.map f)):=by
 obtain⟨l1,c,l2,rfl,h1,rfl⟩:=h.ex
 exact LF.row hq ⟨l1,c,l2,rfl,by decide,by simp[h1],rfl,h1.symm⟩
def ints:List AV→List Int
 | []=>[]
 | .int _ n::r=>n::ints r
 | _::r=>ints r
theorem LC.rowI{P:Program}{G:Nat→AV}{f:FuncId}{a:AV}{R:List Int→AV}{q:Nm}{n:Nat}{l:LS}{K:AV→LS→Prop}(hs:∀zs:List Int,zs.length=n→LP P G f [a,.sl zs.length (zs.map iAV)] [] fun _=>(R zs,[]))
   (h:LH l q fun c _ rest=>(ints c.cs).length=n∧(ints c.cs).map iAV=c.cs∧K (R (ints c.cs)) rest):LC P G f [a,.vw q 0 n 1] l K:=by
 obtain⟨l1,c,l2,rfl,h1,h2,h3⟩:=h.ex
 refine LC.mk' (hs (ints c.cs) h1) [q] ⟨LF.eq rfl,LF.row InL.here ⟨l1,c,l2,rfl,by decide,by rw[←h2];simp[h1],h1,h2⟩,trivial⟩ ?_
 exact⟨l1,c,l2,rfl,⟨fun _=>h3⟩⟩
theorem T.num{p:Prop}(h:p:=by(first|omega|(simp only[qr,q7,IntKind.wrap_i64,IntKind.wrap_u8,IntKind.wrap_u32,IntKind.wrap_u64,decide_eq_true_eq,decide_eq_false_iff_not,beq_iff_eq,bne_iff_ne,beq_eq_false_iff_ne,bne_eq_false_iff_eq,ne_eq,Bool.not_eq_true,List.length_map,List.length_append,List.length_cons,List.length_nil,List.length_range,List.length_take,List.length_drop,List.length_set] at * <;> omega))):p:=h
theorem T.side{p:Prop}(h:p:=by first|exact trivial|(show eqOK _ _=true;kernel_rfl)|exact rfl|exact InL.here|exact InL.next InL.here|(with_reducible exact KL.refl)|(show KL _ _ _;(repeat(refine KL.cons ?_;(repeat(with_reducible show LH _ _ _);first|apply LH.here|apply LH.next);(repeat(with_reducible show LH _ _ _);first|apply LH.here|apply LH.next);refine And.intro rfl ?_));exact KL.nil)|decide|exact Nat.le_of_ble_eq_true rfl|exact T.num|(refine map_le ?_;((try refine map_le ?_);(repeat first|refine lset_le ?_|refine lset_lt ?_);first|exact Nat.le_of_ble_eq_true rfl|exact T.num|(simp;done)|(simp;exact T.num)))|exact fun _ _=>rfl|assumption|exact all_bAV _|exact all_iAV _|((repeat first|exact all_bAV _|exact all_iAV _|exact all_one _ (fun _=>rfl) _|refine all_cons rfl ?_|refine all_app ?_ ?_|refine all_take _ ?_|refine all_drop _ ?_|exact rfl);done)|(intro h;exact absurd rfl h)|(simp;done)|(simp;exact T.num)):p:=h
class Cmp (c:Bool) (p q:outParam Prop):Prop where
 yes:c=true→p
 no:c=false→q
 yes':p→c=true
 no':q→c=false
section
variable {a b:Int}
instance:Cmp (qr .lss a b) (a<b) (¬a<b):=⟨by simp[qr],by simp[qr],by simp[qr],by simp[qr]⟩
instance:Cmp (qr .leq a b) (a≤b) (¬a≤b):=⟨by simp[qr],by simp[qr],by simp[qr],by simp[qr]⟩
instance:Cmp (qr .gtr a b) (b<a) (¬b<a):=⟨by simp[qr],by simp[qr],by simp[qr],by simp[qr]⟩
instance:Cmp (qr .geq a b) (b≤a) (¬b≤a):=⟨by simp[qr],by simp[qr],by simp[qr],by simp[qr]⟩
instance:Cmp (qr .eql a b) (a=b) (¬a=b):=⟨by simp[qr],by simp[qr],by simp[qr],by simp[qr]⟩
instance:Cmp (qr .neq a b) (¬a=b) (a=b):=⟨by simp[qr],by simp[qr],by simp[qr],by simp[qr]⟩
instance {p:Prop} [Decidable p]:Cmp (decide p) p (¬p):=⟨by simp,by simp,by simp,by simp⟩
end
theorem goT{c:Bool}{p q A B:Prop}[k:Cmp c p q](x:A)(h:p:=by with_reducible assumption):AB c A B:=.byT (k.yes' h) x
theorem goF{c:Bool}{p q A B:Prop}[k:Cmp c p q](x:B)(h:q:=by with_reducible assumption):AB c A B:=.byF (k.no' h) x
theorem goT'{c:Bool}{A B:Prop}(x:A)(h:c=true:=by with_reducible assumption):AB c A B:=.byT h x
theorem goF'{c:Bool}{A B:Prop}(x:B)(h:c=false:=by with_reducible assumption):AB c A B:=.byF h x
theorem goB{c:Bool}{p q A B:Prop}[k:Cmp c p q](x:p→A)(y:q→B):AB c A B:=⟨fun h=>x (k.yes h),fun h=>y (k.no h)⟩
class Hs (l:LS) (p:Nm) (K:Pl→(Pl→LS)→LS→Prop) (Q:outParam Prop):Prop where
 go:Q→LH l p K
instance {l:LS} {p:Nm} {c:Pl} {K:Pl→(Pl→LS)→LS→Prop}:Hs ((p,c)::l) p K (K c (fun d=>(p,d)::l) l):=⟨LH.here⟩
instance (priority:=low) {l:LS} {p:Nm} {x:Nm×Pl} {K:Pl→(Pl→LS)→LS→Prop} {Q:Prop} [h:Hs l p (fun c s r=>K c (fun d=>x::s d) (x::r)) Q]:Hs (x::l) p K Q:=⟨fun q=>.next (h.go q)⟩
theorem goH{l:LS}{p:Nm}{K:Pl→(Pl→LS)→LS→Prop}{Q:Prop}[h:Hs l p K Q](q:Q):LH l p K:=h.go q
theorem T.kx{p:Prop}(h:p:=by first
 | (show KeepX _ _ _;first|(with_reducible exact KeepX.refl)|(apply keepX_set InL.here;(repeat first|refine goH ?_|apply LH.here|apply LH.next);rfl))
 | (show NotX _ _ _;(repeat first|exact NotX.nil|(refine NotX.cons ?_;(repeat first|refine goH ?_|apply LH.here|apply LH.next)));first|done|fail)):p:=h
theorem T.kl{p:Prop}(h:p:=by(repeat' first
 | (show KL _ _ _;first|(with_reducible exact KL.refl)|(refine KL.cons ?_;(repeat first|refine goH ?_|apply LH.here|apply LH.next);refine And.intro rfl ?_)|exact KL.nil)
 | (show InL _ _;first|exact InL.here|refine InL.next ?_));first|done|fail):p:=h
theorem T.lu{p:Prop}(h:p:=by first|exact Nat.le_of_ble_eq_true rfl|(simp;done)|(simp;omega)):p:=h
theorem goLS{l:List UInt8}{i:Nat}{n:Int}{K:List AV→Prop}(h:i<l.length)(k:K ((l.set i (b8 n)).map bAV)):AQ (qg (l.map bAV) i [.int .u8 (IntKind.u8.wrap n)]) K:=.set (qS n).symm h k
theorem goLI{l:List Int}{i:Nat}{x:Int}{K:List AV→Prop}(h:i<l.length)(k:K ((l.set i x).map iAV)):AQ (qg (l.map iAV) i [.int .i64 x]) K:=.set (f:=iAV) rfl h k
theorem zqA{α:Type}{f:α→AV}{l:List α}{m:Nat}{xs:List AV}{K:List AV→Prop}(k:K (l.map f++xs))(h:l.length≤m:=by exact T.side):AQ (List.take m (List.drop 0 (l.map f))++xs) K:=.app h k
theorem zqF{cs:List AV}{m:Nat}{xs:List AV}{K:List AV→Prop}(k:K (cs++xs))(h:cs.length≤m:=by exact T.lu):AQ (List.take m (List.drop 0 cs)++xs) K:=.full h k
theorem zqC{α:Type}{l:List α}{f:α→AV}{o:Nat}{K:AV→Prop}(d:α)(k:K (f (l.getD o d)))(h:o<l.length:=by exact T.side):AC false ((List.drop o (l.map f)).take 1) K:=.cell d h k
theorem zqS{l:List UInt8}{i:Nat}{n:Int}{K:List AV→Prop}(k:K ((l.set i (b8 n)).map bAV))(h:i<l.length:=by exact T.side):AQ (qg (l.map bAV) i [.int .u8 (IntKind.u8.wrap n)]) K:=goLS h k
theorem zqI{l:List Int}{i:Nat}{x:Int}{K:List AV→Prop}(k:K ((l.set i x).map iAV))(h:i<l.length:=by exact T.side):AQ (qg (l.map iAV) i [.int .i64 x]) K:=goLI h k
theorem argA{n:Nat}{l:List UInt8}{m:List AV}(h:n=l.length):AV.sl n (l.map bAV)::m=bv l::m:=h▸rfl
theorem argB{a:AV}{m m':List AV}(h:m=m'):a::m=a::m':=h▸rfl
theorem T.pl{p:Prop}(h:p:=by first|(with_reducible rfl)|(refine congrArg (Pl.mk _) ?_;(first|rfl|(simp;done)|fail))|rfl):p:=h
theorem T.av{p:Prop}(h:p:=by first|(focus(apply Eq.trans;(conv=>lhs;whnf);(conv=>rhs;whnf);done))|rfl|((conv=>lhs;whnf);first|rfl|(refine congrArg (AV.int _) ?_;exact T.num)|(refine congrArg AV.bool ?_;exact T.num)|(refine vwc ?_;first|exact T.num|rfl|(simp;done))|(refine q9 ?_ ?_<;>first|exact T.num|rfl|(simp;done))|rfl|(simp;done)|fail)|fail):p:=h
theorem T.subs{p:Prop}(h:p:=by(fail_if_success (show LB [(Nm.b 0,⟨0,[]⟩)] _));(repeat' first|exact LB.nil|(with_reducible exact LB.refl)|(apply LB.cons;(repeat first|refine goH ?_|apply LH.here|apply LH.next);refine And.intro T.pl ?_));first|done|fail):p:=h
theorem T.end{p:Prop}(h:p:=by(repeat' first|exact trivial|(refine And.intro ?_ ?_)|exact LB.nil|(with_reducible exact LB.refl)|(apply LB.cons;(repeat first|refine goH ?_|apply LH.here|apply LH.next);refine And.intro T.pl ?_)|assumption|exact T.av|exact T.num|(dsimp only;exact T.num)|rfl|(simp;done)|fail);first|done|fail):p:=h
theorem goR{v r:AV}{l m:LS}(h:r=v)(hm:LB m l:=by exact T.subs):RL (fun _=>(v,m)) r l:=.val h hm
theorem T.s{p q:Prop}(k:q)(h:q→p:=by intro k;first
 | exact goH k|exact LH.here k|exact LH.next k
 | (show _∧_;refine And.intro ?_ k;clear k;first|exact T.kx|exact T.side)
 | (show AB _ _ _;first|exact AB.tt k|exact AB.ff k|exact AB.byN k|exact goT k|exact goF k|exact goT' k|exact goF' k)
 | (show AC _ _ _;first|(refine AC.cell 0 ?_ k;focus(clear k;exact T.side))|exact AC.mk k)
 | (show AQ _ _;first|(refine AQ.app ?_ k;focus(clear k;exact T.side))|(refine goLS ?_ k;focus(clear k;exact T.side))|(refine goLI ?_ k;focus(clear k;exact T.side))|exact AQ.part k|(refine AQ.force ?_;(conv=>whnf);exact Lit.mk k)|(refine AQ.full ?_ k;focus(clear k;exact T.lu))|exact AQ.mk k)
 | fail):p:=h k
theorem T.y{p q:Prop}(k:q)(h:q→p:=by intro k;first|(refine dec_yes ?_ k;clear k;first|exact .inl rfl|exact T.num)|(refine dec_no ?_ k;clear k;exact T.num)|fail):p:=h k
theorem T.z{p:Prop}(h:p:=by first|(show KL _ _ _;exact T.kl)|(show InL _ _;exact T.kl)|(show False;exact T.num)|fail):p:=h
structure LD where
 vs:List (Nat×AV)
 st:LS
 ok:Prop
 ms:Nat
def insN(l:List Nat)(x:Nat):List Nat:=match inL l x with|true=>l|false=>x::l
def yq(ops:Array Oper):Nat→List (List Nat)
 | 0=>[]
 | n+1=>yq ops n++[(j4 ops n).foldl (fun s k=>((yq ops n).getD k []).foldl insN (insN s k)) []]
section
variable {P:Program}{T:Tys}{G:Nat→AV}{N:Nat}{e:Env}{l:LS}
theorem goE{f:FuncId}{args args':List AV}{K:AV→LS→Prop}(k:LC P G f args' l K)(h:args=args':=by(repeat first|((with_reducible apply argA);first|rfl|(simp;done)|(simp;exact T.num))|(with_reducible apply argB));first|done|fail):LC P G f args l K:=h▸k
theorem goX(hT:TOk P T)(hm:P.follows .mixedOrders=true)(id:Nat){ops:Array Oper}{Q:Exit→Env→LS→Prop}(frs perm:List Nat)(wl:List Nm)
   (h:vz P T G N wl frs ops perm (Q .normal) e l) (hok:kr N ops (yq ops ops.size) frs perm=true:=by kernel_rfl):SWpL P G N (.region id ops true) Q e l:=SWpL.drawX hT hm _ frs perm wl hok h
theorem goD(hT:TOk P T)(hm:P.follows .mixedOrders=true)(id:Nat){ops:Array Oper}{Q:Exit→Env→LS→Prop}(frs perm:List Nat)(kp:List Nm)(hok:kr N ops (yq ops ops.size) frs perm=true)
   (h:APermL P T G N kp frs ops perm (Q .normal) e l):SWpL P G N (.region id ops true) Q e l:=SWpL.draw hT hm _ frs perm kp hok h
theorem goL(hT:TOk P T)(C:List Nat)(id:Nat){S:Type}(live:List Nat)(D:S→LD)(s0:S){c:Code}{Q:Exit→Env→LS→Prop}
   (hr:∀s,(D s).ok→AWpL P T G N C c (ka (AtL id (fun s=>(D s).vs) (fun s=>(D s).st) (fun s=>(D s).ok) (fun s=>(D s).ms) e live (D s).ms) Q) (over (D s).vs (pick live e)) (D s).st)
   (hid:zM c=some id:=by rfl) (h1:eqs e (D s0).vs∧LB (D s0).st l∧(D s0).ok:=by exact T.end):SWpL P G N (.loop c) Q e l :=
 SWpL.loopC id live _ _ _ (fun s=>(D s).ms) s0 hid h1 fun s hs=>AWpL.sound hT C _ _ _ _ (hr s hs)
theorem goO(hT:TOk P T)(C:List Nat)(id:Nat){S:Type}(live:List Nat)(D:S→LD)(s0:S){c:Code}{Q:Exit→Env→LS→Prop}
   (hid:zM c=some id) (h1:eqs e (D s0).vs∧LB (D s0).st l∧(D s0).ok)
   (hr:∀s,(D s).ok→AWpL P T G N C c (ka (AtL id (fun s=>(D s).vs) (fun s=>(D s).st) (fun s=>(D s).ok) (fun s=>(D s).ms) e live (D s).ms) Q) (over (D s).vs (pick live e)) (D s).st):SWpL P G N (.loop c) Q e l :=
 goL hT C id live D s0 hr hid h1
theorem goN(id:Nat){S:Type}{vs:S→List (Nat×AV)}{st:S→LS}{ok:S→Prop}{meas:S→Nat}{e0:Env}{live:List Nat}{m:Nat}(s:S)(h:eqs e (vs s)∧same e e0 live∧LB (st s) l∧ok s∧meas s<m:=by exact T.end):AtL id vs st ok meas e0 live m e l:=.mk' s h
theorem goM(id:Nat){S:Type}{vs:S→List (Nat×AV)}{st:S→LS}{ok:S→Prop}{e0:Env}{live:List Nat}(s:S)(h:eqs e (vs s)∧same e e0 live∧LB (st s) l∧ok s:=by exact T.end):AtC id vs st ok e0 live e l:=.mk' s h
theorem goK(hT:TOk P T)(C:List Nat)(id:Nat){S:Type}(live:List Nat)(D:S→LD){x y:Code}{Q:Exit→Env→LS→Prop}
   (h2:∀s,(D s).ok→AWpL P T G N C y Q (over (D s).vs (pick live e)) (D s).st) (h1:AWpL P T G N C x (ka (AtC id (fun s=>(D s).vs) (fun s=>(D s).st) (fun s=>(D s).ok) e live) Q) e l) (hid:zM x=some id:=by rfl):CutL P G N x y Q e l :=
 CutL.cut hT C id live _ _ _ hid h1 h2
end
theorem gX{G:Nat→AV}{N:Nat}{e:Env}{l:LS}(id:Nat){ops:Array Oper}{Q:Exit→Env→LS→Prop}(frs perm:List Nat)(wl:List Nm)
   (h:vz Tryz.prog tys G N wl frs ops perm (Q .normal) e l) (hok:kr N ops (yq ops ops.size) frs perm=true:=by kernel_rfl):SWpL Tryz.prog G N (.region id ops true) Q e l:=goX tQ qc id frs perm wl h hok
theorem T.sm{p:Prop}(h:p:=by(repeat' first|exact trivial|(refine And.intro ?_ ?_)|kernel_rfl);first|done|fail):p:=h
theorem T.a5{a b c d e:Prop}(h4:d)(h5:e)(h1:a)(h3:c)(h2:b:=by exact T.sm):a∧b∧c∧d∧e:=⟨h1,h2,h3,h4,h5⟩
theorem T.a4{a b c d:Prop}(h4:d)(h1:a)(h3:c)(h2:b:=by exact T.sm):a∧b∧c∧d:=⟨h1,h2,h3,h4⟩
theorem goW{G:Nat→AV}(C:List Nat){f:FuncId}{fn:Func}{c:Code}{args:List AV}{ps:LS}{post:Nm→AV×LS}(hf:Tryz.prog.funcs[f]? = some fn)(hb:fn.body=some c)(h:AWpL Tryz.prog tys G fn.ntmps C c (retQL tys fn.results.toList (RL post)) (jJ args) ps)
   (hname:(fn.name == "runtime.NumGoroutine")=false:=by kernel_rfl) (hl:args.length≤fn.ntmps:=by simp) (hpost:∀q,(∀x∈(post q).2,x.1=q∨x.1∈ps.map (·.1))∧(q∉ps.map (·.1)→((post q).2.map (·.1)).Nodup):=by exact fun q=>⟨by simp,by first|(simp;done)|(simp[*];done)|simp_all⟩):LP Tryz.prog G f args ps post :=
 LP.introL tQ hf hb hname hl hpost (AWpL.sound tQ C _ _ _ _ h)
end Go.Proofs.YtndpmpnmkpaklaaGreatDoor
