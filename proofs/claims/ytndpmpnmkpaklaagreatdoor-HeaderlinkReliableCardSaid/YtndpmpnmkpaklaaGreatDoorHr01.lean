/-
  Contracts of the functions that the laws reach.
-/
import Derived.WalkKit
import Derived.Laws.AppendOwn
import Derived.Laws.OwnMore
import Derived.Maps.AppendAt
import Derived.Laws.StructEq
import Derived.ChangeKeysEq
import Derived.Laws.BytesArg
import Derived.Scope
import Derived.Orders
import Derived.OrdersIn
import Derived.TacticsIn
import Derived.RangeFuncLeaves
import Derived.Lib.AppendZerosOnto
import Derived.RangeFuncRecord
import Derived.MapKept
set_option maxHeartbeats 1000000
set_option linter.all false
namespace Go.Proofs.YtndpmpnmkpaklaaGreatDoor
open Go.RowKit
inductive Nm where
 | b (n:Nat)
 | v (n:Nat)
 deriving DecidableEq
inductive AV where
 | any
 | int (k:IntKind) (n:Int)
 | bool (b:Bool)
 | str (s:ByteArray)
 | agg (cs:List AV)
 | tup (vs:List AV)
 | sl (n:Nat) (cs:List AV)
 | nils
 | vw (p:Nm) (off n sz:Nat)
 | ptr (p:Nm) (off:Nat)
 | ip (cs:List AV)
 | ap (p:Nm) (off n sz:Nat)
 | vc (p:Nm) (off n cap sz:Nat)
 | mp (f:Int→Option Int)
 | yl (l:Nat) (r:Loop) (e G:Nat→AV)
 | clo (fn:Fn) (first captured:List AV)
 | lit (v:Value)
instance:Inhabited AV:=⟨.any⟩
structure Pl where
 ty:TypeId
 cs:List AV
abbrev q8:=Nm→Option Pl
abbrev Env:=Nat→AV
def upd(σ:q8)(p:Nm)(c:Pl):q8:=fun x=>if x=p then some c else σ x
def era(σ:q8)(p:Nm):q8:=fun x=>if x=p then none else σ x
theorem qx(σ:q8)(p:Nm)(c:Pl):upd σ p c p=some c:=if_pos rfl
theorem qe(σ:q8){p q:Nm}(c:Pl)(h:q≠p):upd σ p c q=σ q:=if_neg h
theorem qR(σ:q8)(p:Nm):era σ p p=none:=if_pos rfl
theorem z6(σ:q8){p q:Nm}(h:q≠p):era σ p q=σ q:=if_neg h
theorem upd_upd(σ:q8)(p:Nm)(c d:Pl):upd (upd σ p c) p d=upd σ p d:=by
 funext x;unfold upd;split<;>rfl
theorem vS(σ:q8)(p:Nm)(d:Pl):upd (era σ p) p d=upd σ p d:=by
 funext x;unfold upd era;split<;>rfl
theorem xq(σ:q8){p q:Nm}(c d:Pl)(h:p≠q):upd (upd σ p c) q d=upd (upd σ q d) p c:=by
 funext x
 simp only[upd]
 by_cases h1:x=q
 · subst h1;simp[Ne.symm h]
 · simp[h1]
theorem yG(σ:q8){p q:Nm}(c:Pl)(h:p≠q):era (upd σ p c) q=upd (era σ q) p c:=by
 funext x
 simp only[upd,era]
 by_cases h1:x=q
 · subst h1;simp[Ne.symm h]
 · simp[h1]
theorem era_upd_same(σ:q8)(p:Nm)(c:Pl)(h:σ p=none):era (upd σ p c) p=σ:=by
 funext x
 simp only[upd,era]
 by_cases h1:x=p
 · subst h1;simp[h]
 · simp[h1]
inductive Rd(σ:q8)(w:World):AV→Value→Prop where
 | any (v:Value):Rd σ w .any v
 | int (k:IntKind) (n:Int):Rd σ w (.int k n) (.int k n)
 | bool (b:Bool):Rd σ w (.bool b) (.bool b)
 | str (s:ByteArray):Rd σ w (.str s) (.string s)
 | agg (cs:List AV) (vs:Array Value) (h:cs.length=vs.size) (hc:∀i,i<cs.length→Rd σ w (cs.getD i .any) (vs.getD i undef)):Rd σ w (.agg cs) (.agg vs)
 | tup (cs:List AV) (vs:Array Value) (h:cs.length=vs.size) (hc:∀i,i<cs.length→Rd σ w (cs.getD i .any) (vs.getD i undef)):Rd σ w (.tup cs) (.tuple vs)
 | slnil:Rd σ w (.sl 0 []) (.slice none 0 0)
 | sle (a:Addr) (cap:Nat) (hm:cap≤maxLen):Rd σ w (.sl 0 []) (.slice (some a) 0 cap)
 | sl (n:Nat) (cs:List AV) (b off cap:Nat) (f:Nat→Value) (hb:0<cs.length→σ (.b b)=none) (hn:n≤cap) (hm:cap≤maxLen)
     (hf:∀i,i<cs.length→w.cell? ⟨b,off+i,none⟩=some (f i)) (hc:∀i,i<cs.length→Rd σ w (cs.getD i .any) (f i)) :
     Rd σ w (.sl n cs) (.slice (some ⟨b,off,none⟩) n cap)
 | vw (p off n sz cap:Nat) (cur:Array Value) (t:TypeId) (hp:w.heap[p]? = some (.cells cur t (0,0))) (hn:n≤cap) (hm:cap≤maxLen) (hs:off+cap*sz≤cur.size) :
     Rd σ w (.vw (.b p) off n sz) (.slice (some ⟨p,off,none⟩) n cap)
 | vwnil (k sz:Nat):Rd σ w (.vw (.v k) 0 0 sz) (.slice none 0 0)
 | vw0 (p off sz:Nat) (a:Addr):Rd σ w (.vw (.b p) off 0 sz) (.slice (some a) 0 0)
 | vc (p off n sz cap:Nat) (cur:Array Value) (t:TypeId) (hp:w.heap[p]? = some (.cells cur t (0,0))) (hn:n≤cap) (hm:cap≤maxLen) (hs:off+cap*sz≤cur.size) :
     Rd σ w (.vc (.b p) off n cap sz) (.slice (some ⟨p,off,none⟩) n cap)
 | mp (f:Int→Option Int) (b:Nat) (es:Array MapEntry) (clock:Nat) (hb:σ (.b b)=none) (hh:w.heap[b]? = some (.map es clock))
     (hf:∀n,(∃i v,f n=some v∧Instr.findNow (.int .i64) (.int .i64 n) es.toList 0=some (some (i,.int .i64 v)))∨(f n=none∧Instr.findNow (.int .i64) (.int .i64 n) es.toList 0=some none)):Rd σ w (.mp f) (.map (some b))
 | nils:Rd σ w .nils (.slice none 0 0)
 | ap (p off n sz cap:Nat) (hn:n≤cap) (hm:cap≤maxLen):Rd σ w (.ap (.b p) off n sz) (.slice (some ⟨p,off,none⟩) n cap)
 | ptr (p off:Nat):Rd σ w (.ptr (.b p) off) (.pointer (some ⟨p,off,none⟩))
 | ip (cs:List AV) (b off:Nat) (f:Nat→Value) (hb:0<cs.length→σ (.b b)=none)
     (hf:∀i,i<cs.length→w.cell? ⟨b,off+i,none⟩=some (f i)) (hc:∀i,i<cs.length→Rd σ w (cs.getD i .any) (f i)) :
     Rd σ w (.ip cs) (.pointer (some ⟨b,off,none⟩))
 | clo (fn:Fn) (fs cs:List AV) (vs us:Array Value) (hf:fs.length=vs.size) (hc:cs.length=us.size)
     (h1:∀i,i<fs.length→Rd σ w (fs.getD i .any) (vs.getD i undef)) (h2:∀i,i<cs.length→Rd σ w (cs.getD i .any) (us.getD i undef)) :
     Rd σ w (.clo fn fs cs) (.func fn vs us)
 | lit (v:Value):Rd σ w (.lit v) v
structure Stp(σ:q8)(w:World)(σ':q8)(w':World):Prop where
 os:w'.os=w.os
 tape:w'.tape=w.tape
 output:w'.output=w.output
 size:w.heap.size≤w'.heap.size
 old:∀b,b<w.heap.size→σ (.b b)=none→σ' (.b b)=none∧w'.heap[b]? = w.heap[b]?
 row:∀(b:Nat) (cur:Array Value) (t:TypeId),w.heap[b]? = some (.cells cur t (0,0))→∃cur':Array Value,w'.heap[b]? = some (.cells cur' t (0,0))∧cur'.size=cur.size
theorem Stp.refl(σ:q8)(w:World):Stp σ w σ w:=⟨rfl,rfl,rfl,Nat.le_refl _,fun _ _ h=>⟨h,rfl⟩,fun _ cur _ h=>⟨cur,h,rfl⟩⟩
theorem Stp.trans{σ σ' σ'':q8}{w w' w'':World}(h:Stp σ w σ' w')(k:Stp σ' w' σ'' w''):Stp σ w σ'' w'' :=
 ⟨k.os.trans h.os,k.tape.trans h.tape,k.output.trans h.output,Nat.le_trans h.size k.size,
   fun b hb hn=>by
     obtain⟨h1,h2⟩:=h.old b hb hn
     obtain⟨h3,h4⟩:=k.old b (Nat.lt_of_lt_of_le hb h.size) h1
     exact⟨h3,h4.trans h2⟩,
   fun b cur t hb=>by
     obtain⟨c1,h1,h2⟩:=h.row b cur t hb
     obtain⟨c2,h3,h4⟩:=k.row b c1 t h1
     exact⟨c2,h3,h4.trans h2⟩⟩
theorem Stp.drew{σ σ':q8}{w w':World}(h:Stp σ w σ' w'):Stp σ w σ' w'.drew:=⟨h.os,h.tape,h.output,h.size,h.old,h.row⟩
theorem Stp.forget(σ σ':q8)(w:World)(h:∀b,σ (.b b)=none→σ' (.b b)=none):Stp σ w σ' w :=
 ⟨rfl,rfl,rfl,Nat.le_refl _,fun b _ hn=>⟨h b hn,rfl⟩,fun _ cur _ h=>⟨cur,h,rfl⟩⟩
theorem cell_eq{w w':World}{b o:Nat}(h:w'.heap[b]? = w.heap[b]?):w'.cell? ⟨b,o,none⟩=w.cell? ⟨b,o,none⟩:=by simp[World.cell?,h]
theorem cell_lt{w:World}{b o:Nat}{v:Value}(h:w.cell? ⟨b,o,none⟩=some v):b<w.heap.size:=World.block_lt_of_cell? w _ h
theorem Rd.mono{σ σ':q8}{w w':World}(hs:Stp σ w σ' w'){a:AV}{v:Value}(h:Rd σ w a v):Rd σ' w' a v:=by
 induction h with
 | any v=>exact .any v
 | int k n=>exact .int k n
 | bool b=>exact .bool b
 | str s=>exact .str s
 | agg cs vs h _ ih=>exact .agg cs vs h ih
 | tup cs vs h _ ih=>exact .tup cs vs h ih
 | slnil=>exact .slnil
 | sle a cap hm=>exact .sle a cap hm
 | sl n cs b off cap f hb hn hm hf _ ih =>
   refine .sl n cs b off cap f (fun h0=>?_) hn hm (fun i hi=>?_) ih
   · exact(hs.old b (cell_lt (hf 0 h0)) (hb h0)).1
   · rw[cell_eq (hs.old b (cell_lt (hf i hi)) (hb (by omega))).2];exact hf i hi
 | vw p off n sz cap cur t hp hn hm hz =>
   obtain⟨c',h1,h2⟩:=hs.row p cur t hp
   exact .vw p off n sz cap c' t h1 hn hm (h2▸hz)
 | vwnil k sz=>exact .vwnil k sz
 | vw0 p off sz a=>exact .vw0 p off sz a
 | vc p off n sz cap cur t hp hn hm hz =>
   obtain⟨c',h1,h2⟩:=hs.row p cur t hp
   exact .vc p off n sz cap c' t h1 hn hm (h2▸hz)
 | mp f b es clock hb hh hf=>exact .mp f b es clock (hs.old b (Array.getElem?_eq_some_iff.1 hh).1 hb).1 (by rw[(hs.old b (Array.getElem?_eq_some_iff.1 hh).1 hb).2];exact hh) hf
 | nils=>exact .nils
 | ap p off n sz cap hn hm=>exact .ap p off n sz cap hn hm
 | ptr p off=>exact .ptr p off
 | ip cs b off f hb hf _ ih =>
   refine .ip cs b off f (fun h0=>?_) (fun i hi=>?_) ih
   · exact(hs.old b (cell_lt (hf 0 h0)) (hb h0)).1
   · rw[cell_eq (hs.old b (cell_lt (hf i hi)) (hb (by omega))).2];exact hf i hi
 | clo fn fs cs vs us hf hc _ _ i1 i2=>exact .clo fn fs cs vs us hf hc i1 i2
 | lit v=>exact .lit v
structure Mem(σ:q8)(w:World):Prop where
 pl:∀(p:Nat) (c:Pl),σ (.b p)=some c→∃cur:Array Value,w.heap[p]? = some (.cells cur c.ty (0,0))∧c.cs.length≤cur.size∧∀i,i<c.cs.length→Rd σ w (c.cs.getD i .any) (cur.getD i undef)
 vl:∀(k:Nat) (c:Pl),σ (.v k)=some c→c.cs=[]
 fin:∃B,∀k,B≤k→σ (.v k)=none
theorem Mem.lt{σ:q8}{w:World}(h:Mem σ w){p:Nat}{c:Pl}(hp:σ (.b p)=some c):p<w.heap.size:=by
 obtain⟨cur,h1,-⟩:=h.pl p c hp
 exact(Array.getElem?_eq_some_iff.1 h1).1
theorem Mem.fresh{σ:q8}{w:World}(h:Mem σ w){p:Nat}(hp:w.heap.size≤p):σ (.b p)=none:=by
 cases hc:σ (.b p) with
 | none=>rfl
 | some c=>have:=h.lt hc;omega
theorem Mem.cell{σ:q8}{w:World}(h:Mem σ w){p:Nat}{c:Pl}(hp:σ (.b p)=some c){i:Nat}(hi:i<c.cs.length):∃v,w.cell? ⟨p,i,none⟩=some v∧Rd σ w (c.cs.getD i .any) v:=by
 obtain⟨cur,h1,h2,h3⟩:=h.pl p c hp
 refine⟨cur.getD i undef,?_,h3 i hi⟩
 have hlt:i<cur.size:=Nat.lt_of_lt_of_le hi h2
 simp[World.cell?,h1,hlt]
theorem Mem.forget{σ σ':q8}{w:World}(h:Mem σ w)(hs:∀b c,σ' b=some c→σ b=some c):Mem σ' w:=by
 have hn:∀b,σ b=none→σ' b=none:=fun b hb=>by
   cases hc:σ' b with
   | none=>rfl
   | some c=>rw[hs b c hc] at hb;cases hb
 refine⟨fun p c hp=>?_,fun k c hk=>h.vl k c (hs _ c hk),?_⟩
 · obtain⟨cur,h1,h2,h3⟩:=h.pl p c (hs _ c hp)
   exact⟨cur,h1,h2,fun i hi=>(h3 i hi).mono (Stp.forget σ σ' w fun b hb=>hn _ hb)⟩
 · obtain⟨B,hB⟩:=h.fin
   exact⟨B,fun k hk=>hn _ (hB k hk)⟩
theorem Mem.drew{σ:q8}{w:World}(h:Mem σ w):Mem σ w.drew:=⟨fun p c hp=>by
 obtain⟨cur,h1,h2,h3⟩:=h.pl p c hp
 exact⟨cur,h1,h2,fun i hi=>(h3 i hi).mono (Stp.refl σ w).drew⟩,h.vl,h.fin⟩
theorem j3{σ:q8}(h:∃B,∀k,B≤k→σ (.v k)=none)(p:Nm)(c:Pl):∃B,∀k,B≤k→upd σ p c (.v k)=none:=by
 obtain⟨B,hB⟩:=h
 cases p with
 | b n=>exact⟨B,fun k hk=>by rw[qe _ _ (by simp)];exact hB k hk⟩
 | v n=>exact⟨B+n+1,fun k hk=>by rw[qe _ _ (by simp;omega)];exact hB k (by omega)⟩
theorem Stp.alloc(σ:q8)(w:World)(c:Pl)(cur:Array Value):Stp σ w (upd σ (.b w.heap.size) c) (w.alloc (.cells cur c.ty)):=by
 refine⟨rfl,rfl,rfl,by simp,fun b hb hn=>⟨?_,?_⟩,fun b c2 t hb=>⟨c2,?_,rfl⟩⟩
 · rw[qe _ _ (by simp;omega)];exact hn
 · exact heap_alloc_old w _ hb
 · rw[heap_alloc_old w _ (Array.getElem?_eq_some_iff.1 hb).1];exact hb
theorem Mem.alloc{σ:q8}{w:World}(h:Mem σ w)(c:Pl)(cur:Array Value)(hl:c.cs.length≤cur.size)(hr:∀i,i<c.cs.length→Rd σ w (c.cs.getD i .any) (cur.getD i undef)) :
   Mem (upd σ (.b w.heap.size) c) (w.alloc (.cells cur c.ty)):=by
 have hst:=Stp.alloc σ w c cur
 refine⟨fun p c2 hp=>?_,fun k c2 hk=>h.vl k c2 (by rw[qe _ _ (by simp)] at hk;exact hk),j3 h.fin _ _⟩
 by_cases he:p=w.heap.size
 · subst he
   rw[qx] at hp
   cases hp
   exact⟨cur,heap_alloc_new w _,hl,fun i hi=>(hr i hi).mono hst⟩
 · rw[qe _ _ (by simp;exact he)] at hp
   obtain⟨cu,h1,h2,h3⟩:=h.pl p c2 hp
   exact⟨cu,by rw[heap_alloc_old w _ (h.lt hp)];exact h1,h2,fun i hi=>(h3 i hi).mono hst⟩
theorem wq{σ:q8}{w:World}{p:Nat}{c:Pl}{cur:Array Value}(hm:Mem σ w)(hp:σ (.b p)=some c)(hh:w.heap[p]? = some (.cells cur c.ty (0,0)))(cur':Array Value)(hz:cur'.size=cur.size)
   (cs':List AV) (hl:cs'.length≤cur'.size) (hr:∀i,i<cs'.length→Rd σ w (cs'.getD i .any) (cur'.getD i undef)) :
   Mem (upd σ (.b p) ⟨c.ty,cs'⟩) (w.setRow p cur')∧Stp σ w (upd σ (.b p) ⟨c.ty,cs'⟩) (w.setRow p cur'):=by
 have hst:Stp σ w (upd σ (.b p) ⟨c.ty,cs'⟩) (w.setRow p cur'):=by
   refine⟨rfl,rfl,rfl,by simp,fun b hb hn=>?_,fun b c2 t hb=>?_⟩
   · have hne:b≠p:=fun e=>by subst e;rw[hp] at hn;cases hn
     exact⟨by rw[qe _ _ (by simp;exact hne)];exact hn,setRow_other w p b cur' hne⟩
   · by_cases he:b=p
     · subst he
       rw[hh] at hb
       cases hb
       exact⟨cur',setRow_heap w b cur cur' c.ty (0,0) hh,hz⟩
     · exact⟨c2,by rw[setRow_other w p b cur' he];exact hb,rfl⟩
 refine⟨⟨fun q c2 hq=>?_,fun k c2 hk=>hm.vl k c2 (by rw[qe _ _ (by simp)] at hk;exact hk),j3 hm.fin _ _⟩,hst⟩
 by_cases he:q=p
 · subst he
   rw[qx] at hq
   cases hq
   exact⟨cur',setRow_heap w q cur cur' c.ty (0,0) hh,hl,fun i hi=>(hr i hi).mono hst⟩
 · rw[qe _ _ (by simp;exact he)] at hq
   obtain⟨cu,h1,h2,h3⟩:=hm.pl q c2 hq
   exact⟨cu,by rw[setRow_other w p q cur' he];exact h1,h2,fun i hi=>(h3 i hi).mono hst⟩
attribute [irreducible] upd era
open Go.RowKit
inductive TD where
 | one
 | int (k:IntKind)
 | bool
 | str
 | slice (e:TypeId)
 | array (n:Nat) (e:TypeId)
 | struct (fs:List (Nat×TypeId))
 | ptr (e:TypeId)
 | map (k e:TypeId)
structure TI where
 size:Nat
 bytes:Nat
 agg:Bool
 desc:TD
 zero:AV
abbrev Tys:=TypeId→Option TI
def aggD:TypeDesc→Bool
 | .struct _|.array _ _=>true
 | _=>false
def TD.rel:TD→TypeDesc→Bool
 | .one,_=>true
 | .int k,.int k'=>k==k'
 | .bool,.bool=>true
 | .str,.string=>true
 | .slice e,.slice e'=>e==e'
 | .ptr e,.pointer e'=>e==e'
 | .map k e,.map k' e'=>k==k'&&e==e'
 | .array n e,.array n' e'=>n==n'&&e==e'
 | .struct fs,.struct gs=>gs.toList.map (fun f=>(f.offset,f.type))==fs
 | _,_=>false
def zr1:AV→Value→Bool
 | .int k n,.int k' m=>k==k'&&n==m
 | .bool b,.bool c=>b==c
 | .str s,.string t=>decide (s=t)
 | .nils,.slice none 0 0=>true
 | .lit (.pointer none),.pointer none=>true
 | .lit .nilFunc,.nilFunc=>true
 | .lit .nilIface,.nilIface=>true
 | .lit (.map none),.map none=>true
 | _,_=>false
def zr:AV→Value→Bool
 | .agg cs,.agg vs=>cs.length==vs.size&&(List.range cs.length).all fun i=>zr1 (cs.getD i .any) (vs.getD i undef)
 | a,v=>zr1 a v
theorem Rd.zr1{σ:q8}{w:World}{a:AV}{v:Value}(h:zr1 a v=true):Rd σ w a v:=by
 unfold Go.Proofs.YtndpmpnmkpaklaaGreatDoor.zr1 at h
 split at h<;>first
   | (simp at h;done)
   | (simp at h;obtain⟨rfl,rfl⟩:=h;exact .int _ _)
   | (simp at h;subst h;first|exact .bool _|exact .str _)
   | exact .nils
   | exact .lit _
theorem Rd.zr{σ:q8}{w:World}{a:AV}{v:Value}(h:zr a v=true):Rd σ w a v:=by
 unfold Go.Proofs.YtndpmpnmkpaklaaGreatDoor.zr at h
 split at h
 · simp at h
   exact .agg _ _ h.1 fun i hi=>Rd.zr1 (by simpa using h.2 i hi)
 · exact Rd.zr1 h
def TI.chk(P:Program)(t:TypeId)(i:TI):Bool :=
 (match P.info? t with
   | some j=>j.size==i.size&&j.bytes==i.bytes&&(match j.zero with|some z=>zr i.zero z&&z.cells.size==i.size|none=>false)
   | none=>false) &&
 (match P.underlying t with
   | some d=>aggD d==i.agg&&i.desc.rel d
   | none=>false)
structure TIok(P:Program)(t:TypeId)(i:TI):Prop where
 info:∃j z,P.info? t=some j∧j.size=i.size∧j.bytes=i.bytes∧j.zero=some z∧zr i.zero z=true∧z.cells.size=i.size
 und:∃d,P.underlying t=some d∧aggD d=i.agg∧i.desc.rel d=true
theorem TIok.of_chk{P:Program}{t:TypeId}{i:TI}(h:i.chk P t=true):TIok P t i:=by
 unfold TI.chk at h
 simp only[Bool.and_eq_true] at h
 obtain⟨h1,h2⟩:=h
 constructor
 · cases hj:P.info? t with
   | none=>simp[hj] at h1
   | some j =>
     simp only[hj,Bool.and_eq_true,beq_iff_eq] at h1
     obtain⟨⟨a,b⟩,c⟩:=h1
     cases hz:j.zero with
     | none=>simp[hz] at c
     | some z=>simp only[hz,Bool.and_eq_true,beq_iff_eq] at c;exact⟨j,z,rfl,a,b,hz,c.1,c.2⟩
 · cases hd:P.underlying t with
   | none=>simp[hd] at h2
   | some d=>simp only[hd,Bool.and_eq_true,beq_iff_eq] at h2;exact⟨d,rfl,h2.1,h2.2⟩
def TOk(P:Program)(T:Tys):Prop:=∀t i,T t=some i→TIok P t i
def tyGet:List (TypeId×TI)→TypeId→Option TI
 | [],_=>none
 | (a,b)::l,t=>match Nat.beq a t with|true=>some b|false=>tyGet l t
theorem TOk.of_get{P:Program}(l:List (TypeId×TI))(h:(l.all fun x=>x.2.chk P x.1)=true):TOk P (tyGet l):=by
 induction l with
 | nil=>intro t i hi;cases hi
 | cons x l ih =>
   intro t i hi
   unfold tyGet at hi
   simp only[List.all_cons,Bool.and_eq_true] at h
   split at hi
   · rename_i hb
     have:=Nat.eq_of_beq_eq_true hb
     subst this
     cases hi
     exact TIok.of_chk h.1
   · exact ih h.2 t i hi
section
variable {P:Program}{T:Tys}
theorem TIok.size{t:TypeId}{i:TI}(h:TIok P t i)(w:World):(sizeOf t).run P w=.ok i.size w:=by
 obtain⟨j,z,h1,h2,-⟩:=h.info
 simp[sizeOf,typeInfo,h1,h2]
theorem TIok.zeroV{t:TypeId}{i:TI}(h:TIok P t i):∃z,zr i.zero z=true∧∀w,(zeroValue t).run P w=.ok z w:=by
 obtain⟨j,z,h1,h2,-,h3,h4,-⟩:=h.info
 exact⟨z,h4,fun w=>by simp[zeroValue,typeInfo,h1,h3]⟩
theorem TIok.isAgg{t:TypeId}{i:TI}(h:TIok P t i)(w:World):(isAgg t).run P w=.ok i.agg w:=by
 obtain⟨d,h1,h2,-⟩:=h.und
 unfold Go.isAgg
 rw[Sem.run_bind,run_underlying h1 w]
 cases d<;>simp_all [aggD]
end
def AV.cells:AV→Option (List AV)
 | .agg cs=>some cs
 | .any|.tup _=>none
 | .lit v=>if v.oneCell' then some [.lit v] else none
 | a=>some [a]
def AV.one:AV→Bool
 | .any|.agg _|.tup _=>false
 | .lit v=>v.oneCell'
 | _=>true
def mkv(agg:Bool)(cs:List AV):AV:=match agg with|true=>.agg cs|false=>cs.headD .any
def ofC:Value→AV
 | .int k n=>.int k n
 | .bool b=>.bool b
 | .string s=>.str s
 | .slice none 0 0=>.nils
 | v=>.lit v
def ofV:Value→AV
 | .agg vs=>.agg (vs.toList.map ofC)
 | v=>ofC v
theorem Rd.ofC{σ:q8}{w:World}(v:Value):Rd σ w (ofC v) v:=by
 unfold Go.Proofs.YtndpmpnmkpaklaaGreatDoor.ofC
 split<;>constructor
theorem Rd.ofV{σ:q8}{w:World}(v:Value):Rd σ w (ofV v) v:=by
 unfold Go.Proofs.YtndpmpnmkpaklaaGreatDoor.ofV
 split
 · rename_i vs
   refine .agg _ _ (by simp) fun i hi=>?_
   simp at hi
   have:(vs.toList.map Go.Proofs.YtndpmpnmkpaklaaGreatDoor.ofC).getD i .any=Go.Proofs.YtndpmpnmkpaklaaGreatDoor.ofC (vs.getD i undef):=by simp[List.getD_eq_getElem?_getD,hi]
   rw[this]
   exact Rd.ofC _
 · exact Rd.ofC v
theorem Rd.cells{σ:q8}{w:World}{a:AV}{v:Value}(h:Rd σ w a v){cs:List AV}(hc:a.cells=some cs) :
   v.cells.size=cs.length∧∀i,i<cs.length→Rd σ w (cs.getD i .any) (v.cells.getD i undef):=by
 have one:∀{a:AV} {v:Value},Rd σ w a v→v.cells=#[v]→cs=[a]→v.cells.size=cs.length∧∀i,i<cs.length→Rd σ w (cs.getD i .any) (v.cells.getD i undef):=by
   intro a v h h1 h2
   subst h2
   rw[h1]
   refine⟨rfl,fun i hi=>?_⟩
   have:i=0:=by simp at hi;omega
   subst this
   exact h
 cases h with
 | any v=>simp[AV.cells] at hc
 | tup xs vs h1 h2=>simp[AV.cells] at hc
 | agg xs vs h1 h2=>simp[AV.cells] at hc;subst hc;exact⟨h1.symm,h2⟩
 | lit v =>
   simp only[AV.cells] at hc
   split at hc
   · rename_i h1
     simp at hc
     refine one (.lit v) ?_ hc.symm
     cases v<;>first|rfl|(simp[Value.oneCell'] at h1)
   · cases hc
 | int k n=>simp[AV.cells] at hc;exact one (.int k n) rfl hc.symm
 | bool b=>simp[AV.cells] at hc;exact one (.bool b) rfl hc.symm
 | str s=>simp[AV.cells] at hc;exact one (.str s) rfl hc.symm
 | slnil=>simp[AV.cells] at hc;exact one .slnil rfl hc.symm
 | sle a cap hm=>simp[AV.cells] at hc;exact one (.sle a cap hm) rfl hc.symm
 | sl n xs b off cap f hb hn hm hf hr=>simp[AV.cells] at hc;exact one (.sl n xs b off cap f hb hn hm hf hr) rfl hc.symm
 | vw p off n sz cap cur t hp hn hm hs=>simp[AV.cells] at hc;exact one (.vw p off n sz cap cur t hp hn hm hs) rfl hc.symm
 | vwnil k sz=>simp[AV.cells] at hc;exact one (.vwnil k sz) rfl hc.symm
 | vw0 p off sz a=>simp[AV.cells] at hc;exact one (.vw0 p off sz a) rfl hc.symm
 | vc p off n sz cap cur t hp hn hm hs=>simp[AV.cells] at hc;exact one (.vc p off n sz cap cur t hp hn hm hs) rfl hc.symm
 | nils=>simp[AV.cells] at hc;exact one .nils rfl hc.symm
 | mp f b es clock hb hh hf=>simp[AV.cells] at hc;exact one (.mp f b es clock hb hh hf) rfl hc.symm
 | ap p off n sz cap hn hm=>simp[AV.cells] at hc;exact one (.ap p off n sz cap hn hm) rfl hc.symm
 | ptr p off=>simp[AV.cells] at hc;exact one (.ptr p off) rfl hc.symm
 | ip xs b off f hb hf hr=>simp[AV.cells] at hc;exact one (.ip xs b off f hb hf hr) rfl hc.symm
 | clo fn fs xs vs us h1 h2 h3 h4=>simp[AV.cells] at hc;exact one (.clo fn fs xs vs us h1 h2 h3 h4) rfl hc.symm
theorem Rd.one{σ:q8}{w:World}{a:AV}{v:Value}(h:Rd σ w a v)(h1:a.one=true):v.oneCell'=true:=by
 cases h<;>first|rfl|(simp[AV.one] at h1;done)|exact h1
theorem zl{α:Type}(l:List α)(k i:Nat)(d:α):(l.drop k).getD i d=l.getD (k+i) d:=by simp[List.getD_eq_getElem?_getD]
theorem zj{α:Type}(l:List α)(k i:Nat)(d:α)(h:i<k):(l.take k).getD i d=l.getD i d:=by simp[List.getD_eq_getElem?_getD,h]
theorem qQ(b off j:Nat):(⟨b,off,none⟩:Addr).add j=⟨b,off+j,none⟩:=by unfold Addr.add;split<;>simp_all
section
variable {P:Program}{T:Tys}{σ:q8}{w:World}
structure Cells(σ:q8)(w:World)(b off:Nat)(cs:List AV):Prop where
 at_:∀i,i<cs.length→∃v,w.cell? ⟨b,off+i,none⟩=some v∧Rd σ w (cs.getD i .any) v
theorem Cells.sub{b off:Nat}{cs:List AV}(h:Cells σ w b off cs)(k n:Nat):Cells σ w b (off+k) ((cs.drop k).take n):=⟨fun i hi=>by
 simp at hi
 obtain⟨v,h1,h2⟩:=h.at_ (k+i) (by omega)
 exact⟨v,by rw[Nat.add_assoc];exact h1,by rw[zj _ _ _ _ (by omega),zl];exact h2⟩⟩
theorem Mem.cells(h:Mem σ w){p:Nat}{c:Pl}(hp:σ (.b p)=some c):Cells σ w p 0 c.cs:=⟨fun i hi=>by
 obtain⟨v,h1,h2⟩:=h.cell hp hi
 exact⟨v,by rw[Nat.zero_add];exact h1,h2⟩⟩
theorem Cells.fn{b off:Nat}{cs:List AV}(h:Cells σ w b off cs):∃f:Nat→Value,∀i,i<cs.length→w.cell? ⟨b,off+i,none⟩=some (f i)∧Rd σ w (cs.getD i .any) (f i) :=
 ⟨fun i=>(w.cell? ⟨b,off+i,none⟩).getD undef,fun i hi=>by
   obtain⟨v,h1,h2⟩:=h.at_ i hi
   simp only[h1]
   exact⟨rfl,h2⟩⟩
theorem Cells.load{t:TypeId}{i:TI}(ht:TIok P t i){b off:Nat}{cs:List AV}(h:Cells σ w b off cs)(hn:cs.length=i.size)(h0:i.agg=false→0<cs.length) :
   ∃v,(loadVar t ⟨b,off,none⟩).run P w=.ok v w∧Rd σ w (mkv i.agg cs) v:=by
 obtain⟨f,hf⟩:=h.fn
 cases ha:i.agg with
 | true =>
   have hl:=run_loadCells (P:=P) w ⟨b,off,none⟩ cs.length f (fun j hj=>by rw[qQ];exact(hf j hj).1)
   refine⟨.agg ((List.range cs.length).map f).toArray,?_,.agg _ _ (by simp) fun j hj=>?_⟩
   · unfold loadVar
     rw[Sem.run_bind,ht.isAgg w,ha]
     simp only[Result.andThen_ok,if_true]
     rw[Sem.run_bind,ht.size w]
     simp only[Result.andThen_ok]
     rw[←hn,Sem.run_bind,hl]
     rfl
   · have:((List.range cs.length).map f).toArray.getD j undef=f j:=by simp[hj]
     rw[this]
     exact(hf j hj).2
 | false =>
   have h1:=hf 0 (h0 ha)
   refine⟨f 0,?_,?_⟩
   · unfold loadVar
     rw[Sem.run_bind,ht.isAgg w,ha]
     simp only[Result.andThen_ok,Bool.false_eq_true,if_false]
     have h2:=h1.1
     rw[Nat.add_zero] at h2
     simp[h2]
   · cases cs with
     | nil=>simp at h0;exact absurd ha (by simp[h0])
     | cons x xs=>exact h1.2
def DoneV(P:Program)(s:Sem Value)(σ:q8)(w:World)(K:AV→q8→Prop):Prop :=
 ∃v w' r σ',s.run P w=.ok v w'∧K r σ'∧Rd σ' w' r v∧Mem σ' w'∧Stp σ w σ' w'
theorem DoneV.same{s:Sem Value}{K:AV→q8→Prop}{v:Value}{r:AV}(hm:Mem σ w)(h:s.run P w=.ok v w)(hr:Rd σ w r v)(hk:K r σ):DoneV P s σ w K :=
 ⟨v,w,r,σ,h,hk,hr,hm,Stp.refl σ w⟩
structure AHas(σ:q8)(p:Nm)(F:Pl→Prop):Prop where
 ex:∃c,σ p=some c∧F c
structure jw(σ:q8)(F:Nm→Prop):Prop where
 go:∀p,σ p=none→F p
theorem AHas.intro{σ:q8}{p:Nm}{F:Pl→Prop}{c:Pl}(h:σ p=some c)(k:F c):AHas σ p F:=⟨c,h,k⟩
structure AC(agg:Bool)(cs:List AV)(K:AV→Prop):Prop where
 go:K (mkv agg cs)
theorem AC.iff{agg:Bool}{cs:List AV}{K:AV→Prop}:AC agg cs K↔K (mkv agg cs):=⟨fun h=>h.go,fun h=>⟨h⟩⟩
theorem AC.elem{α:Type}{l:List α}{f:α→AV}{o:Nat}{K:AV→Prop}(d:α)(h:o<l.length)(k:K (f (l.getD o d))):AC false ((List.drop o (l.map f)).take 1) K:=⟨by
 have e:((List.drop o (l.map f)).take 1)=[f (l.getD o d)]:=by
   rw[List.drop_eq_getElem_cons (by simpa using h)]
   simp[List.getD_eq_getElem?_getD,h]
 rw[e]
 exact k⟩
structure AQ(cs:List AV)(K:List AV→Prop):Prop where
 go:K cs
theorem AQ.iff{cs:List AV}{K:List AV→Prop}:AQ cs K↔K cs:=⟨fun h=>h.go,fun h=>⟨h⟩⟩
theorem AQ.part{α:Type}{l:List α}{f:α→AV}{o n:Nat}{K:List AV→Prop}(k:K (((l.drop o).take n).map f)):AQ (((l.map f).drop o).take n) K:=⟨by
 rw[List.map_take,List.map_drop] at k;exact k⟩
def ALd(T:Tys)(t:TypeId)(x:AV)(σ:q8)(K:AV→Prop):Prop :=
 match T t,x with
 | some i,.ptr p off=>AHas σ p fun c=>off+i.size≤c.cs.length∧(i.agg=false→0<i.size)∧AC i.agg ((c.cs.drop off).take i.size) K
 | some i,.ip cs=>i.size≤cs.length∧(i.agg=false→0<i.size)∧AC i.agg (cs.take i.size) K
 | _,_=>False
theorem ALd.load{t:TypeId}{x:AV}{v:Value}{K:AV→Prop}(hT:TOk P T)(hm:Mem σ w)(hr:Rd σ w x v)(h:ALd T t x σ K):∃a u r,v=.pointer (some a)∧(loadVar t a).run P w=.ok u w∧Rd σ w r u∧K r:=by
 unfold ALd at h
 cases ht:T t with
 | none=>rw[ht] at h;cases x<;>simp at h
 | some i =>
   rw[ht] at h
   have hti:=hT t i ht
   cases hr<;>first|(simp at h;done)|skip
   case ptr p off =>
     obtain⟨⟨c,h1,h2,h3,h4⟩⟩:=h
     have hc:=(hm.cells h1).sub off i.size
     rw[Nat.zero_add] at hc
     obtain⟨v,h5,h6⟩:=hc.load hti (by simp;omega) (fun ha=>by have:=h3 ha;simp;omega)
     exact⟨_,v,_,rfl,h5,h6,h4.go⟩
   case ip cs b off f hb hf hc =>
     obtain⟨h2,h3,h4⟩:=h
     have hcs:Cells σ w b off cs:=⟨fun j hj=>⟨_,hf j hj,hc j hj⟩⟩
     have hcs:=hcs.sub 0 i.size
     rw[Nat.add_zero,List.drop_zero] at hcs
     obtain⟨v,h5,h6⟩:=hcs.load hti (by simp;omega) (fun ha=>by have:=h3 ha;simp;omega)
     exact⟨_,v,_,rfl,h5,h6,h4.go⟩
theorem ALd.sound{t:TypeId}{x:AV}{v:Value}{K:AV→q8→Prop}(hT:TOk P T)(hm:Mem σ w)(hr:Rd σ w x v)(h:ALd T t x σ fun r=>K r σ):DoneV P (Instr.loadAt t v) σ w K:=by
 obtain⟨a,u,r,rfl,h1,h2,h3⟩:=ALd.load hT hm hr h
 exact DoneV.same hm (by simp[Instr.loadAt,Instr.sureAddr,h1]) h2 h3
def qg(l:List AV)(off:Nat)(cs:List AV):List AV:=l.take off++cs++l.drop (off+cs.length)
def ASt(T:Tys)(t:TypeId)(a x:AV)(σ:q8)(K:q8→Prop):Prop :=
 match T t,a,x.cells with
 | some i,.ptr p off,some cs=>AHas σ p fun c=>cs.length=i.size∧off+cs.length≤c.cs.length∧(cs.all AV.one)=true∧AQ (qg c.cs off cs) fun cs'=>K (upd σ p ⟨c.ty,cs'⟩)
 | _,_,_=>False
theorem ASt.sound{t:TypeId}{a x:AV}{va vx:Value}{K:q8→Prop}(hT:TOk P T)(hm:Mem σ w)(ha:Rd σ w a va)(hx:Rd σ w x vx)(h:ASt T t a x σ K) :
   ∃w' σ',(Instr.storeAt t va vx).run P w=.ok () w'∧K σ'∧Mem σ' w'∧Stp σ w σ' w':=by
 unfold ASt at h
 cases ht:T t with
 | none=>rw[ht] at h;simp at h
 | some i =>
   rw[ht] at h
   have hti:=hT t i ht
   cases hcx:x.cells with
   | none=>rw[hcx] at h;simp at h
   | some cs =>
     rw[hcx] at h
     obtain⟨g1,g2⟩:=hx.cells hcx
     cases ha<;>first|(simp at h;done)|skip
     case ptr p off =>
       obtain⟨⟨c,h1,h2,h3,h4,⟨h5⟩⟩⟩:=h
       obtain⟨cur,k1,k2,k3⟩:=hm.pl p c h1
       have hone:∀v∈vx.cells.toList,v.oneCell'=true:=by
         intro v hv
         obtain⟨j,hj,rfl⟩:=List.getElem_of_mem hv
         simp at hj
         have:=g2 j (by omega)
         have h6:=this.one (by
           rw[List.getD_eq_getElem?_getD,List.getElem?_eq_getElem (by omega:j<cs.length),Option.getD_some]
           exact List.all_eq_true.1 h4 _ (List.getElem_mem _))
         simpa [hj] using h6
       have hs:=run_storeCells_at (P:=P) p off c.ty vx.cells.toList 0 cur w k1 (by simp;omega) hone
       have hlen:vx.cells.toList.length=cs.length:=by simp[g1]
       have hps:=wq hm h1 k1 (cur.toList.take (off+0)++vx.cells.toList++cur.toList.drop (off+0+vx.cells.toList.length)).toArray
         (by simp;omega) (qg c.cs off cs) (by simp[qg];omega) (fun j hj=>by
           simp[qg] at hj
           simp only[qg,Nat.add_zero,hlen]
           rcases Nat.lt_or_ge j off with hlo|hlo
           · have e1:(c.cs.take off++cs++c.cs.drop (off+cs.length)).getD j .any=c.cs.getD j .any:=by
               simp only[List.getD_eq_getElem?_getD,List.append_assoc]
               rw[List.getElem?_append_left (by simp;omega)]
               simp[hlo]
             have e2:(cur.toList.take off++vx.cells.toList++cur.toList.drop (off+cs.length)).toArray.getD j undef=cur.getD j undef:=by
               simp only[Array.getD_eq_getD_getElem?,List.getElem?_toArray,List.append_assoc]
               rw[List.getElem?_append_left (by simp;omega)]
               simp[hlo]
             rw[e1,e2]
             exact k3 j (by omega)
           · rcases Nat.lt_or_ge j (off+cs.length) with hmid|hmid
             · have e1:(c.cs.take off++cs++c.cs.drop (off+cs.length)).getD j .any=cs.getD (j-off) .any:=by
                 simp only[List.getD_eq_getElem?_getD,List.append_assoc]
                 rw[List.getElem?_append_right (by simp;omega),List.getElem?_append_left (by simp;omega)]
                 congr 2;simp;omega
               have e2:(cur.toList.take off++vx.cells.toList++cur.toList.drop (off+cs.length)).toArray.getD j undef=vx.cells.getD (j-off) undef:=by
                 simp only[Array.getD_eq_getD_getElem?,List.getElem?_toArray,List.append_assoc]
                 rw[List.getElem?_append_right (by simp;omega),List.getElem?_append_left (by simp;omega)]
                 simp
                 congr 2;omega
               rw[e1,e2]
               exact g2 (j-off) (by omega)
             · have e1:(c.cs.take off++cs++c.cs.drop (off+cs.length)).getD j .any=c.cs.getD j .any:=by
                 simp only[List.getD_eq_getElem?_getD,List.append_assoc]
                 rw[List.getElem?_append_right (by simp;omega),List.getElem?_append_right (by simp;omega)]
                 simp
                 congr 2;omega
               have e2:(cur.toList.take off++vx.cells.toList++cur.toList.drop (off+cs.length)).toArray.getD j undef=cur.getD j undef:=by
                 simp only[Array.getD_eq_getD_getElem?,List.getElem?_toArray,List.append_assoc]
                 rw[List.getElem?_append_right (by simp;omega),List.getElem?_append_right (by simp;omega)]
                 simp
                 congr 2;omega
               rw[e1,e2]
               exact k3 j (by omega))
       refine⟨_,_,?_,h5,hps.1,hps.2⟩
       unfold Instr.storeAt storeVar
       simp only[Instr.sureAddr,Sem.run_bind,Sem.run_pure,Result.andThen_ok,hti.size w,g1,h2]
       simpa using hs
end
open Go.RowKit
def layF(P:Program):List Field→Nat→Nat→Bool
 | [],o,n=>o==n
 | f::fs,o,n=>f.offset==o&&layF P fs (o+P.cellsOf f.type) n
def eqTy(P:Program):Nat→TypeId→Bool
 | 0,_=>false
 | d+1,t =>
   match P.underlying t with
   | some (.int _)=>P.cellsOf t==1
   | some (.struct fs) => !P.stoodInHeld t&&(fs.toList.all fun f=>f.name != "_"&&eqTy P d f.type)&&layF P fs.toList 0 (P.cellsOf t)
   | _=>false
def intPairs:List Value→List Value→List (Int×Int)→Prop
 | [],[],[]=>True
 | .int k a::xs,.int k' b::ys,(c,d)::ps=>k=k'∧a=c∧b=d∧intPairs xs ys ps
 | _,_,_=>False
def za:List (Int×Int)→Bool
 | []=>true
 | (a,b)::ps=>(a==b)&&za ps
theorem alleq_app(ps qs:List (Int×Int)):za (ps++qs)=(za ps&&za qs):=by
 induction ps with
 | nil=>simp[za]
 | cons p ps ih=>obtain⟨a,b⟩:=p;simp[za,ih,Bool.and_assoc]
theorem intPairs.len:∀{xs ys:List Value} {ps:List (Int×Int)},intPairs xs ys ps→xs.length=ps.length∧ys.length=ps.length
 | [],[],[],_=>⟨rfl,rfl⟩
 | .int k a::xs,.int k' b::ys,(c,d)::ps,h=>by
   obtain⟨-,-,-,h⟩:=h
   have:=h.len
   simp[this.1,this.2]
theorem intPairs.drop:∀(n:Nat) {xs ys:List Value} {ps:List (Int×Int)},intPairs xs ys ps→intPairs (xs.drop n) (ys.drop n) (ps.drop n)
 | 0,_,_,_,h=>by simpa using h
 | n+1,[],[],[],_=>by simp[intPairs]
 | n+1,.int k a::xs,.int k' b::ys,(c,d)::ps,h=>by
   obtain⟨-,-,-,h⟩:=h
   simpa using h.drop n
theorem intPairs.take:∀(n:Nat) {xs ys:List Value} {ps:List (Int×Int)},intPairs xs ys ps→intPairs (xs.take n) (ys.take n) (ps.take n)
 | 0,_,_,_,_=>by simp[intPairs]
 | n+1,[],[],[],_=>by simp[intPairs]
 | n+1,.int k a::xs,.int k' b::ys,(c,d)::ps,h=>by
   obtain⟨h1,h2,h3,h⟩:=h
   exact⟨h1,h2,h3,h.take n⟩
def xd(P:Program)(t:TypeId)(xs:List Value):Value :=
 match P.underlying t with
 | some (.struct _)=>.agg xs.toArray
 | _=>xs.headD undef
section
variable {P:Program}
theorem vB{e:TypeId}{m off:Nat}{xs:List Value}(w:World)(he:eqTy P m e=true)(hl:off+P.cellsOf e≤xs.length) :
   (part e xs.toArray off).run P w=.ok (xd P e ((xs.drop off).take (P.cellsOf e))) w:=by
 cases m with
 | zero=>simp[eqTy] at he
 | succ m =>
   unfold eqTy at he
   cases hu:P.underlying e with
   | none=>simp[hu] at he
   | some d =>
     rw[hu] at he
     cases d<;>try(simp at he;done)
     case int k =>
       have hc:P.cellsOf e=1:=by simpa using he
       rw[hc] at hl ⊢
       have ho:off<xs.length:=by omega
       have hx:xs.toArray[off]? = some xs[off]:=by simp[ho]
       rw[run_part_plain w (by simp[Program.plainKey,hu]) hx]
       unfold xd
       rw[hu]
       simp only
       rw[List.drop_eq_getElem_cons ho]
       rfl
     case struct fs =>
       obtain⟨i,hi⟩:=info_of_underlying hu
       unfold xd
       rw[hu]
       simp only
       simp[part,isAgg,run_underlying hu,run_sizeOf w hi]
theorem run_eqF(w:World)(dd m:Nat)(IH:∀t,eqTy P m t=true→∀(xs ys:List Value) (ps:List (Int×Int)),xs.length=P.cellsOf t→intPairs xs ys ps→(Op.equalIn dd t (xd P t xs) (xd P t ys)).run P w=.ok (za ps) w) :
   ∀ (fs:List Field) (o:Nat) (xs ys:List Value) (ps:List (Int×Int)),(fs.all fun f=>f.name != "_"&&eqTy P m f.type)=true→layF P fs o xs.length=true→intPairs xs ys ps →
     (Op.eqFields dd xs.toArray ys.toArray fs).run P w=.ok (za (ps.drop o)) w
 | [],o,xs,ys,ps,_,hl,hp=>by
   have hl:o=xs.length:=by simpa [layF] using hl
   rw[List.drop_of_length_le (by have:=hp.len;omega)]
   simp[Op.eqFields,za]
 | f::fs,o,xs,ys,ps,ha,hl,hp=>by
   simp only[List.all_cons,Bool.and_eq_true,bne_iff_ne,ne_eq] at ha
   obtain⟨⟨hn,ht⟩,ha⟩:=ha
   simp only[layF,Bool.and_eq_true,beq_iff_eq] at hl
   obtain⟨ho,hl⟩:=hl
   have hlen:=hp.len
   have hle:∀(fs:List Field) (o n:Nat),layF P fs o n=true→o≤n:=by
     intro fs
     induction fs with
     | nil => intro o n h;have:o=n:=by simpa [layF] using h
              omega
     | cons g gs ih =>
       intro o n h
       simp only[layF,Bool.and_eq_true,beq_iff_eq] at h
       have:=ih _ _ h.2
       omega
   have h1:=hle _ _ _ hl
   have k:=IH f.type ht ((xs.drop o).take (P.cellsOf f.type)) ((ys.drop o).take (P.cellsOf f.type)) ((ps.drop o).take (P.cellsOf f.type)) (by simp;omega) ((hp.drop o).take _)
   have r:=run_eqF w dd m IH fs (o+P.cellsOf f.type) xs ys ps (by simpa using ha) hl hp
   simp only[Op.eqFields,ne_eq,hn,not_false_eq_true,if_true,Sem.run_bind,ho]
   rw[vB w ht (by omega),Result.andThen_ok,vB w ht (by omega),Result.andThen_ok,k,Result.andThen_ok]
   have e:ps.drop o=(ps.drop o).take (P.cellsOf f.type)++ps.drop (o+P.cellsOf f.type):=by
     rw[←List.drop_drop,List.take_append_drop]
   have e4:za (ps.drop o)=(za ((ps.drop o).take (P.cellsOf f.type))&&za (ps.drop (o+P.cellsOf f.type))):=by rw[←alleq_app,←e]
   rw[e4]
   cases hq:za ((ps.drop o).take (P.cellsOf f.type)) with
   | false=>simp
   | true=>simpa using r
theorem run_eqT:∀(m:Nat) (t:TypeId),eqTy P m t=true→∀(d:Nat) (w:World) (xs ys:List Value) (ps:List (Int×Int)),xs.length=P.cellsOf t→intPairs xs ys ps →
   (Op.equalIn (d+m) t (xd P t xs) (xd P t ys)).run P w=.ok (za ps) w
 | 0,_,h,_,_,_,_,_,_,_=>by simp[eqTy] at h
 | m+1,t,h,d,w,xs,ys,ps,hx,hp=>by
   unfold eqTy at h
   cases hu:P.underlying t with
   | none=>simp[hu] at h
   | some k =>
     rw[hu] at h
     cases k<;>try(simp at h;done)
     case int q =>
       have hc:P.cellsOf t=1:=by simpa using h
       unfold xd
       rw[hu]
       rw[hc] at hx
       have hl:=hp.len
       obtain⟨x,rfl⟩:=List.length_eq_one_iff.1 hx
       obtain⟨⟨c,e⟩,rfl⟩:=List.length_eq_one_iff.1 (hl.1.symm.trans hx)
       obtain⟨y,rfl⟩:=List.length_eq_one_iff.1 (hl.2.trans rfl)
       cases x<;>try exact hp.elim
       rename_i k a
       cases y<;>try exact hp.elim
       rename_i k' b
       obtain⟨h1,h2,h3,-⟩:=hp
       subst h1
       have:=run_equalIn_int w (d+m) t k q a b hu
       rw[Nat.add_assoc] at this
       simpa [za,←h2,←h3] using this
     case struct fs =>
       simp only[Bool.and_eq_true,Bool.not_eq_true'] at h
       obtain⟨⟨h1,h2⟩,h3⟩:=h
       have hf:P.fieldsOf t=fs:=by unfold Program.fieldsOf;rw[hu]
       have e:∀zs,xd P t zs=.agg zs.toArray:=fun zs=>by unfold xd;rw[hu]
       rw[e,e]
       have r:=run_equalIn_struct w (d+m) t xs.toArray ys.toArray (by rw[hu,hf]) h1
       rw[show d+(m+1)=d+m+1 from rfl,r,hf]
       have:=run_eqF (P:=P) w (d+m) m (fun t ht xs ys ps hx hp=>run_eqT m t ht d w xs ys ps hx hp) fs.toList 0 xs ys ps h2 (by rw[hx];exact h3) hp
       simpa using this
def eqOK(P:Program)(t:TypeId):Bool:=eqTy P 6 t&&!P.eqGuardType P.depth t
theorem run_eqAgg{t:TypeId}{fs:Array Field}(hu:P.underlying t=some (.struct fs))(h:eqOK P t=true)(w:World){xs ys:List Value}{ps:List (Int×Int)}(hx:xs.length=P.cellsOf t)(hp:intPairs xs ys ps) :
   (Op.equal t (.agg xs.toArray) (.agg ys.toArray)).run P w=.ok (za ps) w:=by
 unfold eqOK at h
 simp only[Bool.and_eq_true] at h
 have:=run_eqT 6 t h.1 9994 w xs ys ps hx hp
 have e:∀zs,xd P t zs=.agg zs.toArray:=fun zs=>by unfold xd;rw[hu]
 rw[e,e] at this
 exact this
theorem yk{t:TypeId}(h:eqOK P t=true)(op:BinOp)(ox oy:Operand)(xs ys:Array Value)(w:World):(eqGuard op t ox oy (.agg xs) (.agg ys)).run P w=.ok () w:=by
 unfold eqOK at h
 simp only[Bool.and_eq_true,Bool.not_eq_true'] at h
 exact run_eqGuard_agg w op t ox oy xs ys h.2
end
open Go.RowKit
section
variable {P:Program}{T:Tys}{σ:q8}{w:World}
theorem DoneV.mono{s:Sem Value}{K K':AV→q8→Prop}(h:DoneV P s σ w K)(hk:∀r σ',K r σ'→K' r σ'):DoneV P s σ w K':=by
 obtain⟨v,w',r,σ',h1,h2,h3⟩:=h
 exact⟨v,w',r,σ',h1,hk _ _ h2,h3⟩
def ABox(t:TypeId)(x:AV)(σ:q8)(K:AV→q8→Prop):Prop :=
 match x.cells with
 | some cs=>jw σ fun p=>K (.ptr p 0) (upd σ p ⟨t,cs⟩)
 | none=>False
theorem ABox.sound{t:TypeId}{x:AV}{v:Value}{K:AV→q8→Prop}(hm:Mem σ w)(hr:Rd σ w x v)(h:ABox t x σ K):DoneV P (Instr.box t v) σ w K:=by
 unfold ABox at h
 cases hc:x.cells with
 | none=>rw[hc] at h;simp at h
 | some cs =>
   rw[hc] at h
   obtain⟨h1,h2⟩:=hr.cells hc
   refine⟨.pointer (some ⟨w.heap.size,0,none⟩),w.alloc (.cells v.cells t),.ptr (.b w.heap.size) 0,upd σ (.b w.heap.size) ⟨t,cs⟩,?_,h.go _ (hm.fresh (Nat.le_refl _)),.ptr _ _,hm.alloc ⟨t,cs⟩ v.cells (by simp[h1]) h2,Stp.alloc σ w ⟨t,cs⟩ v.cells⟩
   simp[Instr.box,newVar,newRow]
def AAlloc(T:Tys)(t:TypeId)(σ:q8)(K:AV→q8→Prop):Prop :=
 match T t with
 | some i=>ABox t i.zero σ K
 | none=>False
theorem AAlloc.sound{t:TypeId}{K:AV→q8→Prop}(hT:TOk P T)(hm:Mem σ w)(h:AAlloc T t σ K):DoneV P (Instr.alloc t true (.tuple #[])) σ w K:=by
 unfold AAlloc at h
 cases ht:T t with
 | none=>rw[ht] at h;simp at h
 | some i =>
   rw[ht] at h
   obtain⟨z,h1,h2⟩:=(hT t i ht).zeroV
   obtain⟨v,w',r,σ',h3,h4⟩:=ABox.sound (P:=P) hm (Rd.zr (σ:=σ) (w:=w) h1) h
   refine⟨v,w',r,σ',?_,h4⟩
   simp only[Instr.alloc,Sem.run_bind,h2,Result.andThen_ok]
   exact h3
def AFa(T:Tys)(t:TypeId)(x:AV)(f:Nat)(K:AV→Prop):Prop :=
 match T t with
 | some ⟨_,_,_,.struct fs,_⟩ =>
   match fs[f]? with
   | some (off,ft) =>
     match T ft with
     | some j=>0<j.size∧(match x with
       | .ptr p o=>K (.ptr p (o+off))
       | .ip cs=>K (.ip (cs.drop off))
       | _=>False)
     | none=>False
   | none=>False
 | _=>False
theorem wn{t:TypeId}{i:TI}(h:TIok P t i){fs:List (Nat×TypeId)}(hd:i.desc=.struct fs):∃gs:Array Field,P.underlying t=some (.struct gs)∧gs.toList.map (fun f=>(f.offset,f.type))=fs:=by
 obtain⟨d,h1,-,h3⟩:=h.und
 rw[hd] at h3
 cases d<;>simp[TD.rel] at h3
 exact⟨_,h1,h3⟩
theorem zb{t:TypeId}{i:TI}(h:TIok P t i){e:TypeId}(hd:i.desc=.slice e):P.underlying t=some (.slice e):=by
 obtain⟨d,h1,-,h3⟩:=h.und
 rw[hd] at h3
 cases d<;>simp[TD.rel] at h3
 subst h3;exact h1
theorem yK{t:TypeId}{i:TI}(h:TIok P t i){n:Nat}{e:TypeId}(hd:i.desc=.array n e):P.underlying t=some (.array n e):=by
 obtain⟨d,h1,-,h3⟩:=h.und
 rw[hd] at h3
 cases d<;>simp[TD.rel] at h3
 obtain⟨rfl,rfl⟩:=h3;exact h1
theorem int_of{t:TypeId}{i:TI}(h:TIok P t i){k:IntKind}(hd:i.desc=.int k):P.underlying t=some (.int k):=by
 obtain⟨d,h1,-,h3⟩:=h.und
 rw[hd] at h3
 cases d<;>simp[TD.rel] at h3
 subst h3;exact h1
theorem str_of{t:TypeId}{i:TI}(h:TIok P t i)(hd:i.desc=.str):P.underlying t=some .string:=by
 obtain⟨d,h1,-,h3⟩:=h.und
 rw[hd] at h3
 cases d<;>simp[TD.rel] at h3
 exact h1
theorem bool_of{t:TypeId}{i:TI}(h:TIok P t i)(hd:i.desc=.bool):P.underlying t=some .bool:=by
 obtain⟨d,h1,-,h3⟩:=h.und
 rw[hd] at h3
 cases d<;>simp[TD.rel] at h3
 exact h1
theorem field_of{gs:Array Field}{fs:List (Nat×TypeId)}(h:gs.toList.map (fun f=>(f.offset,f.type))=fs){f off ft:Nat}(hf:fs[f]? = some (off,ft)):∃g,gs[f]? = some g∧g.offset=off∧g.type=ft:=by
 rw[←h] at hf
 simp at hf
 obtain⟨g,h1,h2,h3⟩:=hf
 exact⟨g,h1,h2,h3⟩
theorem AFa.sound{t:TypeId}{x:AV}{v:Value}{f:Nat}{K:AV→q8→Prop}(hT:TOk P T)(hm:Mem σ w)(hr:Rd σ w x v)(h:AFa T t x f fun r=>K r σ):DoneV P (Instr.fieldAt t v f) σ w K:=by
 unfold AFa at h
 split at h
 case h_2=>exact h.elim
 rename_i sz by_ ag fs z ht
 split at h
 case h_2=>exact h.elim
 rename_i off ft hf
 split at h
 case h_2=>exact h.elim
 rename_i j hj
 obtain⟨h0,h⟩:=h
 obtain⟨gs,h1,h2⟩:=wn (hT t _ ht) rfl
 obtain⟨g,h3,h4,h5⟩:=field_of h2 hf
 have hsz:∀w,(sizeOf g.type).run P w=.ok j.size w:=fun w=>by rw[h5];exact(hT ft j hj).size w
 have hz:¬j.size=0:=by omega
 cases hr<;>simp at h
 case ptr p o =>
   refine DoneV.same hm (v:=.pointer (some ⟨p,o+off,none⟩)) ?_ (.ptr _ _) h
   unfold Instr.fieldAt
   simp[run_underlying h1,h3,Instr.sureAddr,fieldPlace,hsz,hz,qQ,h4]
 case ip cs b o f' hb hf' hc =>
   refine DoneV.same hm (v:=.pointer (some ⟨b,o+off,none⟩)) ?_ (.ip (cs.drop off) b (o+off) (fun i=>f' (off+i)) ?_ ?_ ?_) h
   · unfold Instr.fieldAt
     simp[run_underlying h1,h3,Instr.sureAddr,fieldPlace,hsz,hz,qQ,h4]
   · intro h6;simp at h6;exact hb (by omega)
   · intro i hi;simp at hi;rw[Nat.add_assoc];exact hf' _ (by omega)
   · intro i hi;simp at hi;rw[zl];exact hc _ (by omega)
def AIx(T:Tys)(t:TypeId)(x i:AV)(K:AV→Prop):Prop :=
 match T t,i with
 | some ⟨_,_,_,.slice e,_⟩,.int _ j =>
   match T e with
   | some ei =>
     (match x with
     | .sl n cs=>0≤j∧j<n∧K (.ip (cs.drop (j.toNat*ei.size)))
     | .vw p off n _=>0≤j∧j<n∧K (.ptr p (off+j.toNat*ei.size))
     | .vc p off n _ _=>0≤j∧j<n∧K (.ptr p (off+j.toNat*ei.size))
     | _=>False)
   | none=>False
 | some ⟨_,_,_,.array n e,_⟩,.int _ j =>
   match T e with
   | some ei=>0≤j∧j<n∧(match x with
     | .ptr p off=>K (.ptr p (off+j.toNat*ei.size))
     | .ip cs=>K (.ip (cs.drop (j.toNat*ei.size)))
     | _=>False)
   | none=>False
 | _,_=>False
theorem Rd.ipdrop{cs:List AV}{b off:Nat}{f:Nat→Value}(hb:0<cs.length→σ (.b b)=none)(hf:∀i,i<cs.length→w.cell? ⟨b,off+i,none⟩=some (f i))(hc:∀i,i<cs.length→Rd σ w (cs.getD i .any) (f i))(k:Nat) :
   Rd σ w (.ip (cs.drop k)) (.pointer (some ⟨b,off+k,none⟩)):=by
 refine .ip (cs.drop k) b (off+k) (fun i=>f (k+i)) ?_ ?_ ?_
 · intro h6;simp at h6;exact hb (by omega)
 · intro i hi;simp at hi;rw[Nat.add_assoc];exact hf _ (by omega)
 · intro i hi;simp at hi;rw[zl];exact hc _ (by omega)
theorem AIx.sound{t:TypeId}{x i:AV}{v vi:Value}{K:AV→q8→Prop}(hT:TOk P T)(hm:Mem σ w)(hr:Rd σ w x v)(hi:Rd σ w i vi)(h:AIx T t x i fun r=>K r σ):DoneV P (Instr.indexAt t v vi) σ w K:=by
 unfold AIx at h
 split at h
 · rename_i sz by_ ag e z k j ht
   cases hi
   split at h
   case h_2=>exact h.elim
   rename_i ei he
   have hsl:=zb (hT t _ ht) rfl
   have hsz:=fun w=>(hT e ei he).size w
   cases hr<;>simp at h
   case slnil =>
     obtain⟨h1,h2,-⟩:=h
     omega
   case sle a cap hm' =>
     obtain⟨h1,h2,-⟩:=h
     omega
   case sl n cs b off cap f hb hn hm' hf hc =>
     obtain⟨h1,h2,h3⟩:=h
     refine DoneV.same hm (v:=.pointer (some ⟨b,off+j.toNat*ei.size,none⟩)) ?_ (Rd.ipdrop hb hf hc _) h3
     unfold Instr.indexAt
     simp[asIntOf,run_underlying hsl,h1,h2,hsz,qQ]
   case vw p off n sz cap cur t' hp hn hm' hs =>
     obtain⟨h1,h2,h3⟩:=h
     refine DoneV.same hm (v:=.pointer (some ⟨p,off+j.toNat*ei.size,none⟩)) ?_ (.ptr _ _) h3
     unfold Instr.indexAt
     simp[asIntOf,run_underlying hsl,h1,h2,hsz,qQ]
   case vwnil k' sz =>
     obtain⟨h1,h2,-⟩:=h
     omega
   case vw0 p off sz a =>
     obtain⟨h1,h2,-⟩:=h
     omega
   case vc p off n sz cap cur t' hp hn hm' hs =>
     obtain⟨h1,h2,h3⟩:=h
     refine DoneV.same hm (v:=.pointer (some ⟨p,off+j.toNat*ei.size,none⟩)) ?_ (.ptr _ _) h3
     unfold Instr.indexAt
     simp[asIntOf,run_underlying hsl,h1,h2,hsz,qQ]
 · rename_i sz by_ ag n e z k j ht
   cases hi
   split at h
   case h_2=>exact h.elim
   rename_i ei he
   have hsl:=yK (hT t _ ht) rfl
   have hsz:=fun w=>(hT e ei he).size w
   obtain⟨h1,h2,h⟩:=h
   cases hr<;>simp at h
   case ptr p off =>
     refine DoneV.same hm (v:=.pointer (some ⟨p,off+j.toNat*ei.size,none⟩)) ?_ (.ptr _ _) h
     unfold Instr.indexAt
     simp[asIntOf,run_underlying hsl,h1,h2,hsz,qQ,Instr.sureAddr]
   case ip cs b off f hb hf hc =>
     refine DoneV.same hm (v:=.pointer (some ⟨b,off+j.toNat*ei.size,none⟩)) ?_ (Rd.ipdrop hb hf hc _) h
     unfold Instr.indexAt
     simp[asIntOf,run_underlying hsl,h1,h2,hsz,qQ,Instr.sureAddr]
 · exact h.elim
def AFd(T:Tys)(t:TypeId)(x:AV)(f:Nat)(K:AV→Prop):Prop :=
 match T t,x with
 | some ⟨_,_,_,.struct fs,_⟩,.agg cs =>
   match fs[f]? with
   | some (off,ft) =>
     match T ft with
     | some j=>off+j.size≤cs.length∧(j.agg=false→0<j.size)∧K (mkv j.agg ((cs.drop off).take j.size))
     | none=>False
   | none=>False
 | _,_=>False
def AEl(T:Tys)(t:TypeId)(x i:AV)(K:AV→Prop):Prop :=
 match T t,x,i with
 | some ⟨_,_,_,.array n e,_⟩,.agg cs,.int _ j =>
   match T e with
   | some ei=>0≤j∧j<n∧j.toNat*ei.size+ei.size≤cs.length∧(ei.agg=false→0<ei.size)∧AC ei.agg ((cs.drop (j.toNat*ei.size)).take ei.size) K
   | none=>False
 | _,_,_=>False
theorem Rd.part{t:TypeId}{j:TI}(hj:TIok P t j){cs:List AV}{vs:Array Value}(hl:cs.length=vs.size)(hc:∀i,i<cs.length→Rd σ w (cs.getD i .any) (vs.getD i undef)){off:Nat}(ho:off+j.size≤cs.length)(h0:j.agg=false→0<j.size) :
   ∃v,(part t vs off).run P w=.ok v w∧Rd σ w (mkv j.agg ((cs.drop off).take j.size)) v:=by
 cases ha:j.agg with
 | true =>
   refine⟨.agg (vs.extract off (off+j.size)),?_,.agg _ _ (by simp;omega) fun i hi=>?_⟩
   · unfold Go.part
     simp[hj.isAgg,ha,hj.size]
   · simp at hi
     have e1:((cs.drop off).take j.size).getD i .any=cs.getD (off+i) .any:=by rw[zj _ _ _ _ (by omega),zl]
     have e2:(vs.extract off (off+j.size)).getD i undef=vs.getD (off+i) undef:=by
       simp only[Array.getD_eq_getD_getElem?,Array.getElem?_extract]
       rw[if_pos (by omega)]
     rw[e1,e2]
     exact hc _ (by omega)
 | false =>
   have h1:=h0 ha
   have hlt:off<vs.size:=by omega
   refine⟨vs.getD off undef,?_,?_⟩
   · unfold Go.part
     simp[hj.isAgg,ha,hlt]
   · have e:mkv false ((cs.drop off).take j.size)=cs.getD off .any:=by
       have:=zj (cs.drop off) j.size 0 AV.any h1
       rw[zl,Nat.add_zero] at this
       rw[←this]
       cases (cs.drop off).take j.size<;>rfl
     rw[e]
     exact hc off (by omega)
theorem AFd.sound{t:TypeId}{x:AV}{v:Value}{f:Nat}{K:AV→q8→Prop}(hT:TOk P T)(hm:Mem σ w)(hr:Rd σ w x v)(h:AFd T t x f fun r=>K r σ):DoneV P (Instr.field t v f) σ w K:=by
 unfold AFd at h
 split at h
 case h_2=>exact h.elim
 rename_i sz by_ ag fs z _ cs ht
 split at h
 case h_2=>exact h.elim
 rename_i off ft hf
 split at h
 case h_2=>exact h.elim
 rename_i j hj
 obtain⟨h1,h2,h3⟩:=h
 cases hr with
 | agg cs vs hl hc =>
   obtain⟨gs,k1,k2⟩:=wn (hT t _ ht) rfl
   obtain⟨g,k3,k4,k5⟩:=field_of k2 hf
   obtain⟨v,r1,r2⟩:=Rd.part (hT ft j hj) hl hc h1 h2
   refine DoneV.same hm ?_ r2 h3
   unfold Instr.field
   simp[run_underlying k1,k3,asAgg,k4,k5,r1]
theorem AEl.sound{t:TypeId}{x i:AV}{v vi:Value}{K:AV→q8→Prop}(hT:TOk P T)(hm:Mem σ w)(hr:Rd σ w x v)(hi:Rd σ w i vi)(h:AEl T t x i fun r=>K r σ):DoneV P (Instr.index t v vi) σ w K:=by
 unfold AEl at h
 split at h
 case h_2=>exact h.elim
 rename_i sz by_ ag n e z cs k j ht
 cases hi
 split at h
 case h_2=>exact h.elim
 rename_i ei he
 obtain⟨h1,h2,h3,h4,⟨h5⟩⟩:=h
 cases hr with
 | agg cs vs hl hc =>
   have hsl:=yK (hT t _ ht) rfl
   obtain⟨v,r1,r2⟩:=Rd.part (hT e ei he) hl hc h3 h4
   refine DoneV.same hm ?_ r2 h5
   unfold Instr.index
   simp[asIntOf,run_underlying hsl,h1,h2,(hT e ei he).size,r1]
def qk(op:BinOp)(k:IntKind)(a b:Int):Int :=
 match op with
 | .and=>k.wrap (BitVec.ofInt k.bits a &&& BitVec.ofInt k.bits b).toNat
 | .or=>k.wrap (BitVec.ofInt k.bits a ||| BitVec.ofInt k.bits b).toNat
 | .xor=>k.wrap (BitVec.ofInt k.bits a ^^^ BitVec.ofInt k.bits b).toNat
 | _=>k.wrap (BitVec.ofInt k.bits a &&& ~~~ BitVec.ofInt k.bits b).toNat
def qr(op:BinOp)(a b:Int):Bool :=
 match op with
 | .eql=>a==b
 | .neq=>a != b
 | .lss=>decide (a<b)
 | .leq=>decide (a≤b)
 | .gtr=>decide (a > b)
 | _=>decide (a ≥ b)
def q7(op:BinOp)(k:IntKind)(a b:Int):Int :=
 match op with
 | .add=>k.wrap (a+b)
 | .sub=>k.wrap (a-b)
 | _=>k.wrap (a*b)
def ANil(T:Tys)(op:BinOp)(t:TypeId)(isnil:Bool)(ok:Prop)(K:AV→Prop):Prop :=
 match T t with
 | some ⟨_,_,_,.slice _,_⟩ =>
   (match op with
   | .eql=>ok∧K (.bool isnil)
   | .neq=>ok∧K (.bool (!isnil))
   | _=>False)
 | _=>False
theorem ANil.sound{op:BinOp}{t:TypeId}{b:Bool}{ok:Prop}{vx vy:Value}{a:Option Addr}{n c:Nat}{K:AV→q8→Prop}(hT:TOk P T)(hm:Mem σ w)(hx:vx=.slice a n c)(hy:vy=.slice none 0 0)(hb:ok→a.isNone=b)(ox oy:Operand)(h:ANil T op t b ok fun r=>K r σ) :
   DoneV P (do eqGuard op t ox oy vx vy;binOp op t vx vy) σ w K:=by
 subst hx hy
 unfold ANil at h
 split at h
 case h_2=>exact h.elim
 rename_i sz_ by_ ag e z ht
 have hu:=zb (hT t _ ht) rfl
 have g:(eqGuard op t ox oy (.slice a n c) (.slice none 0 0)).run P w=.ok () w:=by
   have h3:∀(x:Sem Unit) (c:Bool),(x.run P w=.ok () w)→((if c=true then pure () else x:Sem Unit).run P w=.ok () w):=by
     intro x c hx
     split
     · rfl
     · exact hx
   unfold eqGuard
   exact h3 _ _ rfl
 have heq:(Op.equal t (.slice a n c) (.slice none 0 0)).run P w=.ok a.isNone w:=by
   have h9:∀d,(Op.equalIn (d+1) t (.slice a n c) (.slice none 0 0)).run P w=.ok a.isNone w:=fun d=>by
     cases a<;>simp[Op.equalIn,run_underlying hu]
   simp[Op.equal,Op.maxDepth,h9 9999]
 split at h
 · obtain⟨h1,h⟩:=h
   refine DoneV.same hm ?_ (.bool _) h
   rw[Sem.run_bind,g,Result.andThen_ok]
   rw[show binOp .eql t (.slice a n c) (.slice none 0 0)=(do pure (.bool (←Op.equal t (.slice a n c) (.slice none 0 0)))) from rfl,Sem.run_bind,heq,hb h1]
   rfl
 · obtain⟨h1,h⟩:=h
   refine DoneV.same hm ?_ (.bool _) h
   rw[Sem.run_bind,g,Result.andThen_ok]
   rw[show binOp .neq t (.slice a n c) (.slice none 0 0)=(do pure (.bool (!(←Op.equal t (.slice a n c) (.slice none 0 0))))) from rfl,Sem.run_bind,heq,hb h1]
   rfl
 · exact h.elim
def jN:List AV→List AV→Option (List (Int×Int))
 | [],[]=>some []
 | .int k a::xs,.int k' b::ys=>if k=k' then(match jN xs ys with|some ps=>some ((a,b)::ps)|none=>none) else none
 | _,_=>none
theorem apairs_sound{xs ys:List AV}{vs us:List Value}{ps:List (Int×Int)}(hx:xs.length=vs.length)(hy:ys.length=us.length)(h1:∀i,i<xs.length→Rd σ w (xs.getD i .any) (vs.getD i undef))(h2:∀i,i<ys.length→Rd σ w (ys.getD i .any) (us.getD i undef))(h:jN xs ys=some ps):intPairs vs us ps:=by
 induction xs generalizing ys vs us ps with
 | nil =>
   cases ys with
   | nil =>
     cases vs<;>simp at hx
     cases us<;>simp at hy
     simp[jN] at h
     subst h
     trivial
   | cons y ys=>simp[jN] at h
 | cons x xs ih =>
   cases ys with
   | nil=>cases x<;>simp[jN] at h
   | cons y ys =>
     cases vs with
     | nil=>simp at hx
     | cons v vs =>
       cases us with
       | nil=>simp at hy
       | cons u us =>
         have a1:=h1 0 (by simp)
         have a2:=h2 0 (by simp)
         simp only[List.getD_cons_zero] at a1 a2
         cases x<;>try(simp[jN] at h;done)
         cases y<;>try(simp[jN] at h;done)
         rename_i k a k' b
         cases a1;cases a2
         unfold jN at h
         split at h
         case isFalse=>cases h
         rename_i hk
         cases hp:jN xs ys with
         | none=>simp[hp] at h
         | some qs =>
           simp only[hp,Option.some.injEq] at h
           subst h
           exact⟨hk,rfl,rfl,ih (by simpa using hx) (by simpa using hy) (fun i hi=>by have:=h1 (i+1) (by simpa using hi);simpa using this) (fun i hi=>by have:=h2 (i+1) (by simpa using hi);simpa using this) hp⟩
def AEq(P:Program)(T:Tys)(op:BinOp)(t:TypeId)(cs ds:List AV)(K:AV→Prop):Prop :=
 match T t with
 | some ⟨sz,_,_,.struct _,_⟩ =>
   (match Nat.beq cs.length sz with
   | true=>(match jN cs ds with
     | some ps=>(match op with
       | .eql=>eqOK P t=true∧K (.bool (za ps))
       | .neq=>eqOK P t=true∧K (.bool (!(za ps)))
       | _=>False)
     | none=>False)
   | false=>False)
 | _=>False
def ABin(P:Program)(T:Tys)(op:BinOp)(t:TypeId)(x y:AV)(K:AV→Prop):Prop :=
 match x,y with
 | .int k a,.int k' b =>
   (match op with
   | .shl=>0≤b∧K (.int k (k.wrap (a*2^(min b.toNat k.bits))))
   | .shr=>0≤b∧K (.int k (a.fdiv (2^(min b.toNat k.bits))))
   | .add|.sub|.mul=>if k=k' then K (.int k (q7 op k a b)) else False
   | .quo=>if k=k' then(b≠0∧K (.int k (k.wrap (a.tdiv b)))) else False
   | .rem=>if k=k' then(b≠0∧K (.int k (a.tmod b))) else False
   | .and|.or|.xor|.andNot=>if k=k' then K (.int k (qk op k a b)) else False
   | .eql|.neq|.lss|.leq|.gtr|.geq=>if k=k' then K (.bool (qr op a b)) else False)
 | .str a,.str b =>
   (match op with
   | .eql=>K (.bool (a.toList==b.toList))
   | .neq=>K (.bool (!(a.toList==b.toList)))
   | _=>False)
 | .bool a,.bool b =>
   (match T t with
   | some ⟨_,_,_,.bool,_⟩ =>
     (match op with
     | .eql=>K (.bool (a==b))
     | .neq=>K (.bool (!(a==b)))
     | _=>False)
   | _=>False)
 | .sl n _,.nils=>ANil T op t false (0<n) K
 | .vw _ _ n _,.nils=>ANil T op t false (0<n) K
 | .vc _ _ _ _ _,.nils=>ANil T op t false True K
 | .nils,.nils=>ANil T op t true True K
 | .lit (.slice a _ _),.nils=>ANil T op t a.isNone True K
 | .agg cs,.agg ds=>AEq P T op t cs ds K
 | _,_=>False
theorem AEq.sound{op:BinOp}{t:TypeId}{cs ds:List AV}{vx vy:Value}{K:AV→q8→Prop}(hT:TOk P T)(hm:Mem σ w)(hx:Rd σ w (.agg cs) vx)(hy:Rd σ w (.agg ds) vy)(ox oy:Operand)(h:AEq P T op t cs ds fun r=>K r σ) :
   DoneV P (do eqGuard op t ox oy vx vy;binOp op t vx vy) σ w K:=by
 unfold AEq at h
 split at h
 case h_2=>exact h.elim
 rename_i sz by_ ag fs z ht
 have hi:=hT t _ ht
 obtain⟨gs,hu,-⟩:=wn hi rfl
 split at h
 case h_2=>exact h.elim
 rename_i hb
 have hlen:=Nat.eq_of_beq_eq_true hb
 split at h
 case h_2=>exact h.elim
 rename_i ps hps
 cases hx with
 | agg _ vs hl hc =>
   cases hy with
   | agg _ us hl2 hc2 =>
     obtain⟨vs⟩:=vs
     obtain⟨us⟩:=us
     have hp:intPairs vs us ps:=apairs_sound (by simpa using hl) (by simpa using hl2) (fun i hi=>by simpa using hc i hi) (fun i hi=>by simpa using hc2 i hi) hps
     have hcells:vs.length=P.cellsOf t:=by
       have h3:cs.length=vs.length:=by simpa using hl
       rw[←h3,hlen]
       obtain⟨j,z,hj,hs,-⟩:=hi.info
       simp[Program.cellsOf,hj,hs]
     split at h
     · obtain⟨h1,h⟩:=h
       refine DoneV.same hm ?_ (.bool _) h
       rw[Sem.run_bind,yk h1,Result.andThen_ok]
       rw[show binOp .eql t (.agg ⟨vs⟩) (.agg ⟨us⟩)=(do pure (.bool (←Op.equal t (.agg ⟨vs⟩) (.agg ⟨us⟩)))) from rfl,Sem.run_bind,run_eqAgg hu h1 w hcells hp]
       rfl
     · obtain⟨h1,h⟩:=h
       refine DoneV.same hm ?_ (.bool _) h
       rw[Sem.run_bind,yk h1,Result.andThen_ok]
       rw[show binOp .neq t (.agg ⟨vs⟩) (.agg ⟨us⟩)=(do pure (.bool (!(←Op.equal t (.agg ⟨vs⟩) (.agg ⟨us⟩))))) from rfl,Sem.run_bind,run_eqAgg hu h1 w hcells hp]
       rfl
     · exact h.elim
theorem kM{t:TypeId}(hb:P.underlying t=some .bool)(a b:Bool)(w:World):(Op.equal t (.bool a) (.bool b)).run P w=.ok (a==b) w:=by
 obtain⟨d,hd⟩:∃d,d+1=Op.maxDepth:=⟨9999,rfl⟩
 unfold Op.equal
 rw[←hd,Op.equalIn]
 simp[run_underlying hb]
theorem ABin.sound{op:BinOp}{t:TypeId}{x y:AV}{vx vy:Value}{K:AV→q8→Prop}(hT:TOk P T)(hm:Mem σ w)(hx:Rd σ w x vx)(hy:Rd σ w y vy)(ox oy:Operand)(h:ABin P T op t x y fun r=>K r σ) :
   DoneV P (do eqGuard op t ox oy vx vy;binOp op t vx vy) σ w K:=by
 have gd:∀{a b:Value},(∀c,a≠.agg c)→a≠.nilIface→(eqGuard op t ox oy a b).run P w=.ok () w:=by
   intro a b h1 h2
   have h3:∀(x:Sem Unit) (c:Bool),(x.run P w=.ok () w)→((if c=true then pure () else x:Sem Unit).run P w=.ok () w):=by
     intro x c hx
     split
     · rfl
     · exact hx
   unfold eqGuard
   refine h3 _ _ ?_
   cases a<;>first
     | exact absurd rfl (h1 _)
     | exact absurd rfl h2
     | (cases b<;>rfl)
 unfold ABin at h
 split at h
 · rename_i k a k' b
   cases hx;cases hy
   have g:=gd (a:=.int k a) (b:=.int k' b) (by simp) (by simp)
   cases op<;>simp only at h
   case shl|shr =>
     obtain⟨h0,h⟩:=h
     refine DoneV.same hm ?_ (.int _ _) h
     rw[Sem.run_bind,g]
     simp[binOp,Op.shift,Int.not_lt.2 h0]
   case quo|rem =>
     split at h
     · rename_i e;subst e
       obtain⟨h0,h⟩:=h
       refine DoneV.same hm ?_ (.int _ _) h
       rw[Sem.run_bind,g]
       simp[binOp,Op.intDiv,h0]
     · exact h.elim
   all_goals
     split at h
     · rename_i e;subst e
       refine DoneV.same hm ?_ (by first|exact .int _ _|exact .bool _) h
       rw[Sem.run_bind,g]
       simp[binOp,Op.intArith,Op.intBits,Op.intCmp,qk,qr,q7]
     · exact h.elim
 · rename_i a b
   cases hx;cases hy
   have g:=gd (a:=.string a) (b:=.string b) (by simp) (by simp)
   split at h
   · refine DoneV.same hm ?_ (.bool _) h
     rw[Sem.run_bind,g]
     simp[binOp,Op.stringOp]
   · refine DoneV.same hm ?_ (.bool _) h
     rw[Sem.run_bind,g]
     simp[binOp,Op.stringOp]
   · exact h.elim
 · rename_i a b
   cases hx;cases hy
   have g:=gd (a:=.bool a) (b:=.bool b) (by simp) (by simp)
   split at h
   case h_2=>exact h.elim
   rename_i sz by_ ag z ht
   have hb:=bool_of (hT t _ ht) rfl
   split at h
   · refine DoneV.same hm ?_ (.bool _) h
     rw[Sem.run_bind,g,Result.andThen_ok]
     rw[show binOp .eql t (.bool a) (.bool b)=(do pure (.bool (←Op.equal t (.bool a) (.bool b)))) from rfl,Sem.run_bind,kM hb]
     rfl
   · refine DoneV.same hm ?_ (.bool _) h
     rw[Sem.run_bind,g,Result.andThen_ok]
     rw[show binOp .neq t (.bool a) (.bool b)=(do pure (.bool (!(←Op.equal t (.bool a) (.bool b))))) from rfl,Sem.run_bind,kM hb]
     rfl
   · exact h.elim
 · cases hy
   cases hx with
   | slnil=>exact ANil.sound hT hm rfl rfl (fun h=>absurd h (by simp)) ox oy h
   | sle a cap hm'=>exact ANil.sound hT hm rfl rfl (fun h=>absurd h (by simp)) ox oy h
   | sl n cs b off cap f hb hn hm' hf hc=>exact ANil.sound hT hm rfl rfl (fun _=>rfl) ox oy h
 · cases hy
   cases hx with
   | vwnil k sz=>exact ANil.sound hT hm rfl rfl (fun h=>absurd h (by simp)) ox oy h
   | vw0 p off sz a=>exact ANil.sound hT hm rfl rfl (fun h=>absurd h (by simp)) ox oy h
   | vw p off n sz cap cur t' hp hn hm' hs=>exact ANil.sound hT hm rfl rfl (fun _=>rfl) ox oy h
 · cases hy
   cases hx with
   | vc p off n sz cap cur t' hp hn hm' hs=>exact ANil.sound hT hm rfl rfl (fun _=>rfl) ox oy h
 · cases hx;cases hy
   exact ANil.sound hT hm rfl rfl (fun _=>rfl) ox oy h
 · cases hx;cases hy
   exact ANil.sound hT hm rfl rfl (fun _=>rfl) ox oy h
 · exact AEq.sound hT hm hx hy ox oy h
 · exact h.elim
def AUn(op:UnOp)(x:AV)(K:AV→Prop):Prop :=
 match op,x with
 | .not,.bool b=>K (.bool (!b))
 | .neg,.int k n=>K (.int k (k.wrap (0-n)))
 | .xor,.int k n=>K (.int k (qk .xor k (if k.signed then -1 else k.max) n))
 | _,_=>False
theorem AUn.sound{op:UnOp}{x:AV}{v:Value}{K:AV→q8→Prop}(hm:Mem σ w)(hx:Rd σ w x v)(h:AUn op x fun r=>K r σ):DoneV P (Op.unary op v) σ w K:=by
 unfold AUn at h
 split at h
 · cases hx;exact DoneV.same hm (by simp[Op.unary]) (.bool _) h
 · cases hx;exact DoneV.same hm (by simp[Op.unary,Op.intArith]) (.int _ _) h
 · cases hx;exact DoneV.same hm (by simp[Op.unary,Op.intBits,qk]) (.int _ _) h
 · exact h.elim
end
open Go.RowKit
theorem wT(l:List AV)(off:Nat)(cs:List AV)(h:off+cs.length≤l.length):(qg l off cs).length=l.length:=by
 simp[qg];omega
theorem splice_getD(l:List AV)(off:Nat)(cs:List AV)(h:off+cs.length≤l.length)(j:Nat) :
   (qg l off cs).getD j .any=if off≤j∧j<off+cs.length then cs.getD (j-off) .any else l.getD j .any:=by
 simp only[qg,List.getD_eq_getElem?_getD,List.append_assoc]
 rcases Nat.lt_or_ge j off with hlo|hlo
 · rw[if_neg (by omega),List.getElem?_append_left (by simp;omega)]
   simp[hlo]
 · rcases Nat.lt_or_ge j (off+cs.length) with hmid|hmid
   · rw[if_pos ⟨hlo,hmid⟩,List.getElem?_append_right (by simp;omega),List.getElem?_append_left (by simp;omega)]
     congr 2;simp;omega
   · rw[if_neg (by omega),List.getElem?_append_right (by simp;omega),List.getElem?_append_right (by simp;omega)]
     simp
     congr 2;omega
theorem fold_set:∀(vs:List Value) (k off:Nat) (cs:Array Value),
   ((vs.zipIdx k).foldl (fun cs (x:Value×Nat)=>cs.setIfInBounds (off+x.2) x.1) cs).size=cs.size ∧
   ∀j,off+k+vs.length≤cs.size→((vs.zipIdx k).foldl (fun cs (x:Value×Nat)=>cs.setIfInBounds (off+x.2) x.1) cs).getD j undef=if off+k≤j∧j<off+k+vs.length then vs.getD (j-(off+k)) undef else cs.getD j undef:=by
 intro vs
 induction vs with
 | nil=>intro k off cs;simp;intro j _ h1 h2;omega
 | cons v vs ih =>
   intro k off cs
   obtain⟨i1,i2⟩:=ih (k+1) off (cs.setIfInBounds (off+k) v)
   refine⟨by simp only[List.zipIdx_cons,List.foldl_cons];rw[i1];simp,fun j hl=>?_⟩
   simp only[List.zipIdx_cons,List.foldl_cons]
   simp at hl
   rw[i2 j (by simp;omega)]
   by_cases h1:j=off+k
   · subst h1
     rw[if_neg (by omega),if_pos (by simp)]
     simp only[Array.getD_eq_getD_getElem?,Array.getElem?_setIfInBounds]
     simp
     rw[if_pos (by omega)]
     rfl
   · by_cases h2:off+(k+1)≤j∧j<off+(k+1)+vs.length
     · rw[if_pos h2,if_pos (by simp;omega)]
       rw[show j-(off+k)=(j-(off+(k+1)))+1 by omega]
       simp
     · rw[if_neg h2,if_neg (by simp;omega)]
       simp only[Array.getD_eq_getD_getElem?,Array.getElem?_setIfInBounds]
       rw[if_neg (by omega)]
def splc:List AV→Nat→List AV→List AV
 | [],_,_=>[]
 | x::l,n+1,cs=>x::splc l n cs
 | x::l,0,[]=>x::l
 | _::l,0,c::cs=>c::splc l 0 cs
theorem splc_eq:∀(l:List AV) (off:Nat) (cs:List AV),off+cs.length≤l.length→splc l off cs=qg l off cs:=by
 intro l
 induction l with
 | nil =>
   intro off cs h
   have h:off+cs.length≤0:=h
   have h1:off=0:=by omega
   have h2:cs=[]:=List.eq_nil_of_length_eq_zero (by omega)
   subst h1 h2
   rfl
 | cons x l ih =>
   intro off cs h
   cases off with
   | succ n =>
     show x::splc l n cs=_
     rw[ih n cs (by simp at h;omega)]
     simp only[qg]
     rw[show n+1+cs.length=(n+cs.length)+1 by omega]
     rfl
   | zero =>
     cases cs with
     | nil=>simp[splc,qg]
     | cons c cs =>
       show c::splc l 0 cs=_
       rw[ih 0 cs (by simp at h;omega)]
       simp[qg]
def wi(place:Nat→Option (Nat×Nat))(cs:List AV):List (Nat×AV)→Option (List AV)
 | []=>some cs
 | (i,v)::rest =>
   match place i,v.cells with
   | some (off,size),some vs=>if vs.length=size∧off+size≤cs.length then wi place (splc cs off vs) rest else none
   | _,_=>none
section
variable {P:Program}{T:Tys}{σ:q8}{w:World}
def RdL(σ:q8)(w:World)(cs:List AV)(vs:Array Value):Prop:=cs.length=vs.size∧∀i,i<cs.length→Rd σ w (cs.getD i .any) (vs.getD i undef)
theorem wh{place:Nat→Option (Nat×Nat)}:∀(ps:List (Nat×AV)) (qs:List (Nat×Value)) (cs:List AV) (vs:Array Value) (out:List AV),
   ps.map (·.1)=qs.map (·.1)→(∀i,i<ps.length→Rd σ w (ps.getD i (0,.any)).2 (qs.getD i (0,undef)).2)→RdL σ w cs vs→wi place cs ps=some out →
   ∃us,Instr.fill place vs qs=some us∧RdL σ w out us:=by
 intro ps
 induction ps with
 | nil =>
   intro qs cs vs out h1 _ h3 h4
   cases qs with
   | nil=>simp[wi] at h4;subst h4;exact⟨vs,rfl,h3⟩
   | cons q qs=>simp at h1
 | cons p ps ih =>
   intro qs cs vs out h1 h2 h3 h4
   cases qs with
   | nil=>simp at h1
   | cons q qs =>
     obtain⟨i,a⟩:=p
     obtain⟨i',v⟩:=q
     simp at h1
     obtain⟨rfl,h1⟩:=h1
     unfold wi at h4
     split at h4
     case h_2=>cases h4
     rename_i off size xs hp hc
     split at h4
     case isFalse=>cases h4
     rename_i hlen
     rw[splc_eq _ _ _ (by omega)] at h4
     have hr:Rd σ w a v:=h2 0 (by simp)
     obtain⟨g1,g2⟩:=hr.cells hc
     obtain⟨f1,f2⟩:=fold_set v.cells.toList 0 off vs
     have hbound:off+0+v.cells.toList.length≤vs.size:=by have:=h3.1;simp[g1];omega
     have hfa:v.cells.zipIdx.foldl (fun cs (x:Value×Nat)=>cs.setIfInBounds (off+x.2) x.1) vs=(v.cells.toList.zipIdx 0).foldl (fun cs (x:Value×Nat)=>cs.setIfInBounds (off+x.2) x.1) vs:=by
       rw[←Array.foldl_toList,Array.toList_zipIdx]
     have hnew:RdL σ w (qg cs off xs) (v.cells.zipIdx.foldl (fun cs (x:Value×Nat)=>cs.setIfInBounds (off+x.2) x.1) vs):=by
       rw[hfa]
       refine⟨by rw[f1,wT _ _ _ (by omega)];exact h3.1,fun j hj=>?_⟩
       rw[wT _ _ _ (by omega)] at hj
       rw[splice_getD _ _ _ (by omega),f2 j hbound]
       simp only[Nat.add_zero,Array.length_toList,g1]
       by_cases hin:off≤j∧j<off+xs.length
       · rw[if_pos hin,if_pos hin]
         have:=g2 (j-off) (by omega)
         simpa [Array.getD_eq_getD_getElem?,List.getD_eq_getElem?_getD] using this
       · rw[if_neg hin,if_neg hin]
         exact h3.2 j hj
     obtain⟨us,k1,k2⟩:=ih qs _ _ out h1 (fun j hj=>h2 (j+1) (by simp;omega)) hnew h4
     refine⟨us,?_,k2⟩
     unfold Instr.fill
     rw[hp]
     simp only[]
     rw[if_neg]
     · exact k1
     · have:=h3.1
       simp[g1,hlen.1]
       omega
def yB(T:Tys)(fs:List (Nat×TypeId)):Option (List (Nat×Nat)) :=
 match fs with
 | []=>some []
 | (o,t)::r=>match T t,yB T r with
   | some j,some l=>some ((o,j.size)::l)
   | _,_=>none
def ABd(T:Tys)(t:TypeId)(ps:List (Nat×AV))(K:AV→Prop):Prop :=
 match T t with
 | some ⟨_,_,_,.struct fs,.agg z⟩ =>
   match yB T fs with
   | some l=>(match wi (fun i=>l[i]?) z ps with|some cs=>K (.agg cs)|none=>False)
   | none=>False
 | some ⟨_,_,_,.array _ e,.agg z⟩ =>
   match T e with
   | some j=>(match wi (fun i=>some (i*j.size,j.size)) z ps with|some cs=>K (.agg cs)|none=>False)
   | none=>False
 | _=>False
theorem fplaces_run(hT:TOk P T):∀(gs:List Field) (fs:List (Nat×TypeId)) (l:List (Nat×Nat)),gs.map (fun f=>(f.offset,f.type))=fs→yB T fs=some l →
   ∀w,(gs.mapM fun f=>(do pure (f.offset,←sizeOf f.type):Sem (Nat×Nat))).run P w=.ok l w:=by
 intro gs
 induction gs with
 | nil=>intro fs l h1 h2 w;simp at h1;subst h1;simp[yB] at h2;subst h2;rfl
 | cons g gs ih =>
   intro fs l h1 h2 w
   cases fs with
   | nil=>simp at h1
   | cons f fs =>
     obtain⟨o,t⟩:=f
     simp at h1
     obtain⟨⟨rfl,rfl⟩,h1⟩:=h1
     unfold yB at h2
     split at h2
     case h_2=>cases h2
     rename_i j r hj hr
     simp at h2
     subst h2
     simp only[List.mapM_cons,Sem.run_bind,Sem.run_pure,(hT _ j hj).size,Result.andThen_ok,ih fs r h1 hr]
theorem ABd.sound{t:TypeId}{ps:List (Nat×AV)}{qs:Array (Nat×Value)}{K:AV→q8→Prop}(hT:TOk P T)(hm:Mem σ w)(h1:ps.map (·.1)=qs.toList.map (·.1))(h2:∀i,i<ps.length→Rd σ w (ps.getD i (0,.any)).2 (qs.toList.getD i (0,undef)).2)
   (h:ABd T t ps fun r=>K r σ):DoneV P (Instr.build t qs) σ w K:=by
 unfold ABd at h
 split at h
 · rename_i sz by_ ag fs z ht
   split at h
   case h_2=>exact h.elim
   rename_i l hl
   split at h
   case h_2=>exact h.elim
   rename_i cs hcs
   obtain⟨gs,k1,k2⟩:=wn (hT t _ ht) rfl
   obtain⟨zv,k3,k4⟩:=(hT t _ ht).zeroV
   have hz:Rd σ w (.agg z) zv:=Rd.zr k3
   cases hz with
   | agg z vs hl2 hc2 =>
     obtain⟨us,k5,k6⟩:=wh ps qs.toList z vs cs h1 h2 ⟨hl2,hc2⟩ hcs
     refine DoneV.same hm (v:=.agg us) ?_ (.agg _ _ k6.1 k6.2) h
     unfold Instr.build
     have hfp:(gs.mapM fun f=>(do pure (f.offset,←sizeOf f.type):Sem (Nat×Nat))).run P w=.ok l.toArray w:=by
       rw[Array.mapM_eq_mapM_toList]
       have:=fplaces_run hT gs.toList fs l k2 hl w
       simp only[map_eq_pure_bind,Sem.run_bind] at this ⊢
       rw[this]
       rfl
     simp only[Sem.run_bind,k4,Result.andThen_ok,run_underlying k1,hfp,Value.cells]
     have e:(fun(x:Nat)=>l.toArray[x]?)=fun(i:Nat)=>l[i]? := by funext i;simp
     rw[e,k5]
     rfl
 · rename_i sz by_ ag n e z ht
   split at h
   case h_2=>exact h.elim
   rename_i j hj
   split at h
   case h_2=>exact h.elim
   rename_i cs hcs
   have k1:=yK (hT t _ ht) rfl
   obtain⟨zv,k3,k4⟩:=(hT t _ ht).zeroV
   have hz:Rd σ w (.agg z) zv:=Rd.zr k3
   cases hz with
   | agg z vs hl2 hc2 =>
     obtain⟨us,k5,k6⟩:=wh ps qs.toList z vs cs h1 h2 ⟨hl2,hc2⟩ hcs
     refine DoneV.same hm (v:=.agg us) ?_ (.agg _ _ k6.1 k6.2) h
     unfold Instr.build
     simp only[Sem.run_bind,k4,Result.andThen_ok,run_underlying k1,(hT e j hj).size,Value.cells]
     rw[k5]
     rfl
 · exact h.elim
def qB(z:List AV)(n:Nat):List AV:=(List.range n).map fun i=>z.getD (i%z.length) .any
def ABs(T:Tys)(t:TypeId)(len:Nat)(ps:List (Nat×AV))(σ:q8)(K:AV→q8→Prop):Prop :=
 match T t with
 | some ⟨_,_,_,.slice e,_⟩ =>
   match T e with
   | some j=>0<j.size∧len*j.size≤16777216∧(match j.zero.cells with
     | some z=>(match wi (fun i=>some (i*j.size,j.size)) (qB z (len*j.size)) ps with
       | some cs=>AQ cs fun cs=>jw σ fun p=>K (.vw p 0 len j.size) (upd σ p ⟨e,cs⟩)
       | none=>False)
     | none=>False)
   | none=>False
 | _=>False
theorem wj{z:List AV}{v:Value}(hr:∀i,i<z.length→Rd σ w (z.getD i .any) (v.cells.getD i undef))(hl:v.cells.size=z.length)(h0:0<z.length)(n:Nat) :
   RdL σ w (qB z n) ((Array.range n).map (v.cells[·%v.cells.size]!)):=by
 refine⟨by simp[qB],fun i hi=>?_⟩
 simp[qB] at hi
 have e1:(qB z n).getD i .any=z.getD (i%z.length) .any:=by simp[qB,List.getD_eq_getElem?_getD,hi]
 have e2:((Array.range n).map (v.cells[·%v.cells.size]!)).getD i undef=v.cells.getD (i%z.length) undef:=by
   have hlt:i%z.length<v.cells.size:=by rw[hl];exact Nat.mod_lt _ h0
   simp[hi,hl,Array.getElem!_eq_getD]
   rw[Array.getElem?_eq_getElem hlt]
   rfl
 rw[e1,e2]
 exact hr _ (Nat.mod_lt _ h0)
theorem ABs.sound{t:TypeId}{len:Nat}{ps:List (Nat×AV)}{qs:Array (Nat×Value)}{K:AV→q8→Prop}(hT:TOk P T)(hm:Mem σ w)(h1:ps.map (·.1)=qs.toList.map (·.1))(h2:∀i,i<ps.length→Rd σ w (ps.getD i (0,.any)).2 (qs.toList.getD i (0,undef)).2)
   (hcap:len≤maxLen) (h:ABs T t len ps σ K):DoneV P (Instr.buildSlice t len qs) σ w K:=by
 unfold ABs at h
 split at h
 case h_2=>exact h.elim
 rename_i sz by_ ag e z0 ht
 split at h
 case h_2=>exact h.elim
 rename_i j hj
 obtain⟨hs0,hs1,h⟩:=h
 split at h
 case h_2=>exact h.elim
 rename_i z hz
 split at h
 case h_2=>exact h.elim
 rename_i cs hcs
 replace h:=h.go
 have k1:=zb (hT t _ ht) rfl
 obtain⟨zv,k3,k4⟩:=(hT e j hj).zeroV
 have hzr:Rd σ w j.zero zv:=Rd.zr k3
 obtain⟨c1,c2⟩:=hzr.cells hz
 have hsz:=(hT e j hj).size
 -- the initial cells
 have hinit:∃ini:Array Value,RdL σ w (qB z (len*j.size)) ini∧((len*j.size=0∧ini=#[])∨(¬len*j.size=0∧ini=(Array.range (len*j.size)).map (zv.cells[·%zv.cells.size]!))):=by
   by_cases h0:len*j.size=0
   · exact⟨#[],⟨by simp[qB,h0],fun i hi=>by simp[qB,h0] at hi⟩,.inl ⟨h0,rfl⟩⟩
   · rcases Nat.eq_zero_or_pos z.length with hzl|hzl
     · refine⟨_,⟨by simp[qB],fun i hi=>?_⟩,.inr ⟨h0,rfl⟩⟩
       simp[qB] at hi
       have e1:(qB z (len*j.size)).getD i .any=.any:=by
         have:z=[]:=List.eq_nil_of_length_eq_zero hzl
         subst this
         simp[qB,List.getD_eq_getElem?_getD,hi]
       rw[e1]
       exact .any _
     · exact⟨_,wj c2 c1 hzl _,.inr ⟨h0,rfl⟩⟩
 obtain⟨ini,i1,i2⟩:=hinit
 obtain⟨us,k5,k6⟩:=wh ps qs.toList _ ini cs h1 h2 i1 hcs
 have hlen:us.size=len*j.size:=by
   have a1:∀(ps:List (Nat×AV)) (cs out:List AV),wi (fun i=>some (i*j.size,j.size)) cs ps=some out→out.length=cs.length:=by
     intro ps
     induction ps with
     | nil=>intro cs out h;simp[wi] at h;rw[h]
     | cons p ps ih =>
       intro cs out h
       obtain⟨i,a⟩:=p
       unfold wi at h
       split at h
       case h_2=>cases h
       rename_i off size xs hp hc
       split at h
       case isFalse=>cases h
       rename_i hl
       rw[ih _ _ h,splc_eq _ _ _ (by omega),wT _ _ _ (by omega)]
   have:=a1 ps _ cs hcs
   rw[←k6.1,this]
   simp[qB]
 refine⟨.slice (some ⟨w.heap.size,0,none⟩) len len,w.alloc (.cells us e),.vw (.b w.heap.size) 0 len j.size,upd σ (.b w.heap.size) ⟨e,cs⟩,?_,h.go _ (hm.fresh (Nat.le_refl _)),?_,hm.alloc ⟨e,cs⟩ us (Nat.le_of_eq k6.1) k6.2,Stp.alloc σ w ⟨e,cs⟩ us⟩
 · unfold Instr.buildSlice
   simp only[Sem.run_bind,run_underlying k1,Result.andThen_ok,hsz]
   rw[if_neg (by omega)]
   rcases i2 with ⟨h0,rfl⟩|⟨h0,rfl⟩
   · simp only[h0,if_true,Array.range_zero',Array.map_empty,k5]
     simp[newRow]
   · simp only[h0,if_false,Sem.run_bind,k4,Sem.run_pure,Result.andThen_ok,k5]
     simp[newRow]
 · exact .vw _ _ _ _ len us e (heap_alloc_new w _) (Nat.le_refl _) hcap (by omega)
end
open Go.RowKit
section
variable {P:Program}{T:Tys}{σ:q8}{w:World}
def AMk(T:Tys)(t:TypeId)(l c:AV)(σ:q8)(K:AV→q8→Prop):Prop :=
 match T t,l,c with
 | some ⟨_,_,_,.slice e,_⟩,.int _ n,.int _ m =>
   match T e with
   | some j=>0<j.size∧0≤n∧n≤m∧m*j.bytes≤140737488355328∧m≤4611686018427387904∧(match j.zero.cells with
     | some z=>0<z.length∧AQ (qB z (n.toNat*j.size)) fun cs=>jw σ fun p=>K (.vw p 0 n.toNat j.size) (upd σ p ⟨e,cs⟩)
     | none=>False)
   | none=>False
 | _,_,_=>False
theorem AMk.sound{t:TypeId}{l c:AV}{vl vc:Value}{K:AV→q8→Prop}(hT:TOk P T)(hm:Mem σ w)(hl:Rd σ w l vl)(hc:Rd σ w c vc)(h:AMk T t l c σ K):DoneV P (Instr.makeSlice t vl vc) σ w K:=by
 unfold AMk at h
 split at h
 case h_2=>exact h.elim
 rename_i sz by_ ag e z0 kl n km m ht
 split at h
 case h_2=>exact h.elim
 rename_i j hj
 cases hl;cases hc
 obtain⟨h1,h2,h3,h4,h5,h⟩:=h
 split at h
 case h_2=>exact h.elim
 rename_i z hz
 obtain⟨h0,⟨h⟩⟩:=h
 obtain⟨jt,zv,q1,q2,q3,q4,q5,-⟩:=(hT e j hj).info
 have hzr:Rd σ w j.zero zv:=Rd.zr q5
 obtain⟨c1,c2⟩:=hzr.cells hz
 have hb:(jt.bytes:Int)*m≤281474976710656:=by rw[q3,Int.mul_comm];omega
 have hr:=run_make (P:=P) w t e jt zv (zb (hT t _ ht) rfl) q1 q4 kl km n m h2 h3 hb (by omega)
 rw[q2] at hr
 have hle:n.toNat≤m.toNat:=by omega
 have hle2:n.toNat*j.size≤m.toNat*j.size:=Nat.mul_le_mul_right _ hle
 refine⟨_,_,.vw (.b w.heap.size) 0 n.toNat j.size,_,hr,h.go _ (hm.fresh (Nat.le_refl _)),?_,hm.alloc ⟨e,qB z (n.toNat*j.size)⟩ _ (by simp[qB,size_madeCells];exact hle2) ?_,Stp.alloc σ w _ _⟩
 · exact .vw _ _ _ _ m.toNat _ e (heap_alloc_new w _) hle (by unfold maxLen;omega) (by rw[size_madeCells,Nat.zero_add];exact Nat.le_refl _)
 · intro i hi
   have hzr:=wj (σ:=σ) (w:=w) c2 c1 h0 (m.toNat*j.size)
   have h6:i<n.toNat*j.size:=by simpa [qB] using hi
   have h7:=hzr.2 i (by simp[qB];omega)
   have e1:(qB z (m.toNat*j.size)).getD i .any=(qB z (n.toNat*j.size)).getD i .any:=by
     simp[qB,List.getD_eq_getElem?_getD,h6,show i<m.toNat*j.size by omega]
   rw[e1] at h7
   exact h7
def AMkC(T:Tys)(t:TypeId)(l c:AV)(σ:q8)(K:AV→q8→Prop):Prop :=
 match T t,l,c with
 | some ⟨_,_,_,.slice e,_⟩,.int _ n,.int _ m =>
   match T e with
   | some j=>0<j.size∧0≤n∧n≤m∧m*j.bytes≤140737488355328∧m≤4611686018427387904∧(match j.zero.cells with
     | some z=>0<z.length∧AQ (qB z (m.toNat*j.size)) fun cs=>jw σ fun p=>K (.vc p 0 n.toNat m.toNat j.size) (upd σ p ⟨e,cs⟩)
     | none=>False)
   | none=>False
 | _,_,_=>False
def vu(l c:Operand):Bool :=
 match l,c with
 | .const (.int _ (.ofNat a)),.const (.int _ (.ofNat b))=>Nat.blt 0 a&&Nat.blt a b
 | _,_=>false
theorem AMkC.sound{t:TypeId}{l c:AV}{vl vc:Value}{K:AV→q8→Prop}(hT:TOk P T)(hm:Mem σ w)(hl:Rd σ w l vl)(hc:Rd σ w c vc)(h:AMkC T t l c σ K):DoneV P (Instr.makeSlice t vl vc) σ w K:=by
 unfold AMkC at h
 split at h
 case h_2=>exact h.elim
 rename_i sz by_ ag e z0 kl n km m ht
 split at h
 case h_2=>exact h.elim
 rename_i j hj
 cases hl;cases hc
 obtain⟨h1,h2,h3,h4,h5,h⟩:=h
 split at h
 case h_2=>exact h.elim
 rename_i z hz
 obtain⟨h0,⟨h⟩⟩:=h
 obtain⟨jt,zv,q1,q2,q3,q4,q5,-⟩:=(hT e j hj).info
 have hzr:Rd σ w j.zero zv:=Rd.zr q5
 obtain⟨c1,c2⟩:=hzr.cells hz
 have hb:(jt.bytes:Int)*m≤281474976710656:=by rw[q3,Int.mul_comm];omega
 have hr:=run_make (P:=P) w t e jt zv (zb (hT t _ ht) rfl) q1 q4 kl km n m h2 h3 hb (by omega)
 rw[q2] at hr
 have hle:n.toNat≤m.toNat:=by omega
 refine⟨_,_,.vc (.b w.heap.size) 0 n.toNat m.toNat j.size,_,hr,h.go _ (hm.fresh (Nat.le_refl _)),?_,hm.alloc ⟨e,qB z (m.toNat*j.size)⟩ _ (by simp[qB,size_madeCells]) ?_,Stp.alloc σ w _ _⟩
 · exact .vc _ _ _ _ m.toNat _ e (heap_alloc_new w _) hle (by unfold maxLen;omega) (by rw[size_madeCells,Nat.zero_add];exact Nat.le_refl _)
 · intro i hi
   exact(wj (σ:=σ) (w:=w) c2 c1 h0 (m.toNat*j.size)).2 i hi
structure AB(t:Bool)(A B:Prop):Prop where
 yes:t=true→A
 no:t=false→B
def bnd(d:Int):Option AV→Option Int
 | none=>some d
 | some (.int _ l)=>some l
 | _=>none
def ASl(T:Tys)(t:TypeId)(x:AV)(lo hi:Option AV)(K:AV→Prop):Prop :=
 match T t with
 | some ⟨_,_,_,.array n e,_⟩ =>
   (match T e,x with
     | some j,.ptr p off=>(match bnd 0 lo,bnd n hi with
       | some l,some h=>0≤l∧l≤h∧h≤n∧l<n∧n≤1073741824∧K (.ap p (off+l.toNat*j.size) (h.toNat-l.toNat) j.size)
       | _,_=>False)
     | _,_=>False)
 | some ⟨_,_,_,.slice e,_⟩ =>
   match T e with
   | some j =>
     (match x with
     | .sl n cs=>(match bnd 0 lo,bnd n hi with
       | some l,some h=>0≤l∧l≤h∧h≤n∧n*j.size≤cs.length∧AQ ((cs.drop (l.toNat*j.size)).take ((h.toNat-l.toNat)*j.size)) fun cs'=>K (.sl (h.toNat-l.toNat) cs')
       | _,_=>False)
     | .vw p off n sz=>(match bnd 0 lo,bnd n hi with
       | some l,some h=>sz=j.size∧0≤l∧l≤h∧h≤n∧K (.vw p (off+l.toNat*sz) (h.toNat-l.toNat) sz)
       | _,_=>False)
     | .vc p off n cap sz=>(match bnd 0 lo,bnd n hi with
       | some l,some h=>sz=j.size∧0≤l∧l≤h∧h≤cap∧(l=0∨l<cap)∧AB (decide (l=0∧h<n)) (K (.vc p off h.toNat cap sz)) (K (.vw p (off+l.toNat*sz) (h.toNat-l.toNat) sz))
       | _,_=>False)
     | .nils=>(match bnd 0 lo,bnd 0 hi with
       | some l,some h=>l=0∧h=0∧K .nils
       | _,_=>False)
     | _=>False)
   | none=>False
 | _=>False
theorem ja{k:IntKind}{i:Int}{y:Nat}{code:BoundsCode}(h0:0≤i)(h1:i≤y)(w:World):(Instr.sliceBound (.int k i) y code).run P w=.ok i.toNat w:=by
 simp[Instr.sliceBound,asIntOf,h0,h1]
def RdO(σ:q8)(w:World):Option AV→Option Value→Prop
 | none,none=>True
 | some a,some v=>Rd σ w a v
 | _,_=>False
theorem sboundsC{isS:Bool}{lo hi:Option AV}{vlo vhi:Option Value}{l h:Int}{len cap:Nat}(hlo:RdO σ w lo vlo)(hhi:RdO σ w hi vhi)(bl:bnd 0 lo=some l)(bh:bnd len hi=some h)(h0:0≤l)(h1:l≤h)(h2:h≤cap) :
   (Instr.sliceBounds isS len cap vlo vhi none).run P w=.ok (l.toNat,h.toNat,cap) w:=by
 have hh:(vhi=none∧h=len)∨∃k,vhi=some (.int k h):=by
   cases hi with
   | none =>
     cases vhi with
     | none=>simp[bnd] at bh;exact .inl ⟨rfl,bh.symm⟩
     | some v=>exact hhi.elim
   | some a =>
     cases vhi with
     | none=>exact hhi.elim
     | some v =>
       cases a<;>simp[bnd] at bh
       subst bh
       cases hhi
       exact .inr ⟨_,rfl⟩
 have hl:(vlo=none∧l=0)∨∃k,vlo=some (.int k l):=by
   cases lo with
   | none =>
     cases vlo with
     | none=>simp[bnd] at bl;exact .inl ⟨rfl,bl.symm⟩
     | some v=>exact hlo.elim
   | some a =>
     cases vlo with
     | none=>exact hlo.elim
     | some v =>
       cases a<;>simp[bnd] at bl
       subst bl
       cases hlo
       exact .inr ⟨_,rfl⟩
 have e1:∀k code,(Instr.sliceBound (.int k h) cap code).run P w=.ok h.toNat w:=fun k code=>ja (by omega) (by omega) w
 have e2:∀k code,(Instr.sliceBound (.int k l) h.toNat code).run P w=.ok l.toNat w:=fun k code=>ja h0 (by omega) w
 have e3:∀k code,h=len→(Instr.sliceBound (.int k l) len code).run P w=.ok l.toNat w:=fun k code _=>ja h0 (by omega) w
 rcases hh with ⟨rfl,hh⟩|⟨k,rfl⟩<;>rcases hl with ⟨rfl,hl⟩|⟨k',rfl⟩
 · simp[Instr.sliceBounds,hh,hl]
 · simp[Instr.sliceBounds,e3 _ _ hh,hh]
 · simp[Instr.sliceBounds,e1,hl]
 · simp[Instr.sliceBounds,e1,e2]
theorem jE{isS:Bool}{lo hi:Option AV}{vlo vhi:Option Value}{l h:Int}{len cap:Nat}(hlo:RdO σ w lo vlo)(hhi:RdO σ w hi vhi)(bl:bnd 0 lo=some l)(bh:bnd len hi=some h)(h0:0≤l)(h1:l≤h)(h2:h≤len)(hc:len≤cap) :
   (Instr.sliceBounds isS len cap vlo vhi none).run P w=.ok (l.toNat,h.toNat,cap) w:=sboundsC hlo hhi bl bh h0 h1 (by omega)
theorem ASl.sound{t:TypeId}{x:AV}{v:Value}{lo hi:Option AV}{vlo vhi:Option Value}{K:AV→q8→Prop}(hT:TOk P T)(hm:Mem σ w)(hx:Rd σ w x v)(hlo:RdO σ w lo vlo)(hhi:RdO σ w hi vhi)(h:ASl T t x lo hi fun r=>K r σ) :
   DoneV P (Instr.sliceAt t v vlo vhi none) σ w K:=by
 unfold ASl at h
 split at h
 case h_3=>exact h.elim
 case h_1 =>
   rename_i sz by_ ag n e z ht
   split at h
   case h_2=>exact h.elim
   rename_i j p off hj
   split at h
   case h_2=>exact h.elim
   rename_i l h' bl bh
   obtain⟨h0,h1,h2,h3,h5,h4⟩:=h
   cases hx with
   | ptr p off =>
     have hua:=yK (hT t _ ht) rfl
     have hb:=jE (P:=P) (w:=w) (isS:=false) (len:=n) (cap:=n) hlo hhi bl bh h0 h1 h2 (Nat.le_refl _)
     refine DoneV.same hm (v:=.slice (some ⟨p,off+l.toNat*j.size,none⟩) (h'.toNat-l.toNat) (n-l.toNat)) ?_ (.ap p _ _ _ _ (by omega) (by unfold maxLen;omega)) h4
     unfold Instr.sliceAt
     simp only[Sem.run_bind,run_underlying hua,Result.andThen_ok,Instr.sureAddr,Sem.run_pure,hb,(hT e j hj).size]
     rw[if_neg (by omega:¬n=l.toNat),qQ]
 rename_i sz by_ ag e z ht
 have hu:=zb (hT t _ ht) rfl
 split at h
 case h_2=>exact h.elim
 rename_i j hj
 have hsz:=(hT e j hj).size
 have hrun:∀(a:Option Addr) (len cap l h:Nat),(Instr.sliceBounds true len cap vlo vhi none).run P w=.ok (l,h,cap) w →
     (Instr.sliceAt t (.slice a len cap) vlo vhi none).run P w=.ok (.slice (if cap=l then a else a.map (·.add (l*j.size))) (h-l) (cap-l)) w:=by
   intro a len cap l h hb
   unfold Instr.sliceAt Instr.slice
   simp only[Sem.run_bind,run_underlying hu,Result.andThen_ok,hb,hsz]
   rfl
 split at h
 · rename_i n cs
   split at h
   case h_2=>exact h.elim
   rename_i l h' bl bh
   obtain⟨h0,h1,h2,h3,⟨h4⟩⟩:=h
   cases hx with
   | slnil =>
     have hb:=jE (P:=P) (isS:=true) (len:=0) (cap:=0) hlo hhi bl bh h0 h1 h2 (Nat.le_refl _)
     have e1:l=0:=by omega
     have e2:h'=0:=by omega
     subst e1 e2
     refine DoneV.same hm (hrun _ _ _ _ _ hb) ?_ h4
     simp
     exact .slnil
   | sle a cap hm' =>
     have hb:=jE (P:=P) (isS:=true) (len:=0) (cap:=cap) hlo hhi bl bh h0 h1 h2 (Nat.zero_le _)
     have e1:l=0:=by omega
     have e2:h'=0:=by omega
     subst e1 e2
     refine DoneV.same hm (hrun _ _ _ _ _ hb) ?_ h4
     simp only[Int.toNat_zero,Nat.sub_self,Nat.zero_mul,List.take_zero,Nat.sub_zero]
     split
     · exact .sle _ _ hm'
     · exact .sle _ _ hm'
   | sl n cs b off cap f hb hn hm' hf hc =>
     have hbd:=jE (P:=P) (isS:=true) (len:=n) (cap:=cap) hlo hhi bl bh h0 h1 h2 hn
     refine DoneV.same hm (hrun _ _ _ _ _ hbd) ?_ h4
     have hle:(h'.toNat-l.toNat)*j.size+l.toNat*j.size≤cs.length:=by
       rw[←Nat.add_mul]
       exact Nat.le_trans (Nat.mul_le_mul_right _ (by omega)) h3
     by_cases hcl:cap=l.toNat
     · rw[if_pos hcl]
       have e0:h'.toNat-l.toNat=0:=by omega
       rw[e0,Nat.zero_mul,List.take_zero]
       exact .sl 0 [] b off _ f (by simp) (Nat.zero_le _) (by omega) (by simp) (by simp)
     · rw[if_neg hcl]
       simp only[Option.map_some,qQ]
       refine .sl _ _ b (off+l.toNat*j.size) _ (fun i=>f (l.toNat*j.size+i)) (fun h5=>hb (by simp at h5;omega)) (by omega) (by omega) (fun i hi=>?_) (fun i hi=>?_)
       · simp at hi
         rw[Nat.add_assoc]
         exact hf _ (by omega)
       · simp at hi
         rw[zj _ _ _ _ (by omega),zl]
         exact hc _ (by omega)
 · rename_i p off n sz'
   split at h
   case h_2=>exact h.elim
   rename_i l h' bl bh
   obtain⟨rfl,h0,h1,h2,h3⟩:=h
   cases hx with
   | vwnil k sz =>
     have hb:=jE (P:=P) (isS:=true) (len:=0) (cap:=0) hlo hhi bl bh h0 h1 h2 (Nat.le_refl _)
     have e1:l=0:=by omega
     have e2:h'=0:=by omega
     subst e1 e2
     refine DoneV.same hm (hrun _ _ _ _ _ hb) ?_ h3
     simp
     exact .vwnil _ _
   | vw0 p off sz a =>
     have hb:=jE (P:=P) (isS:=true) (len:=0) (cap:=0) hlo hhi bl bh h0 h1 h2 (Nat.le_refl _)
     have e1:l=0:=by omega
     have e2:h'=0:=by omega
     subst e1 e2
     refine DoneV.same hm (hrun _ _ _ _ _ hb) ?_ h3
     simp
     exact .vw0 _ _ _ _
   | vw p off n sz cap cur t' hp hn hm' hs =>
     have hbd:=jE (P:=P) (isS:=true) (len:=n) (cap:=cap) hlo hhi bl bh h0 h1 h2 hn
     by_cases hcl:l=0∨l<cap
     · refine DoneV.same hm (hrun _ _ _ _ _ hbd) ?_ h3
       have ea:(if cap=l.toNat then some (⟨p,off,none⟩:Addr) else Option.map (fun(q:Addr)=>q.add (l.toNat*j.size)) (some ⟨p,off,none⟩))=some ⟨p,off+l.toNat*j.size,none⟩:=by
         split
         · have:l.toNat=0:=by omega
           simp[this]
         · simp only[Option.map_some,qQ]
       rw[ea]
       refine .vw p _ _ _ (cap-l.toNat) cur t' hp (by omega) (by omega) ?_
       refine Nat.le_trans (Nat.le_of_eq ?_) hs
       rw[Nat.add_assoc,←Nat.add_mul]
       congr 2
       omega
     · refine DoneV.same hm (hrun _ _ _ _ _ hbd) ?_ h3
       have e0:h'.toNat-l.toNat=0:=by omega
       have e3:cap-l.toNat=0:=by omega
       rw[e0,e3]
       split
       · exact .vw0 _ _ _ _
       · simp only[Option.map_some]
         exact .vw0 _ _ _ _
 · rename_i p off n cp sz'
   split at h
   case h_2=>exact h.elim
   rename_i l h' bl bh
   obtain⟨rfl,h0,h1,h2,hlc,h3⟩:=h
   cases hx with
   | vc p off n sz cap cur t' hp hn hm' hs =>
     have hbd:=sboundsC (P:=P) (w:=w) (isS:=true) (len:=n) (cap:=cp) hlo hhi bl bh h0 h1 h2
     have ea:(if cp=l.toNat then some (⟨p,off,none⟩:Addr) else Option.map (fun(q:Addr)=>q.add (l.toNat*j.size)) (some ⟨p,off,none⟩))=some ⟨p,off+l.toNat*j.size,none⟩:=by
       split
       · have:l.toNat=0:=by omega
         simp[this]
       · simp only[Option.map_some,qQ]
     by_cases hc:l=0∧h'<n
     · refine DoneV.same hm (hrun _ _ _ _ _ hbd) ?_ (h3.yes (decide_eq_true hc))
       rw[ea]
       obtain⟨rfl,hc2⟩:=hc
       simp only[Int.toNat_zero,Nat.zero_mul,Nat.add_zero,Nat.sub_zero]
       exact .vc p off _ _ _ cur t' hp (by omega) hm' hs
     · refine DoneV.same hm (hrun _ _ _ _ _ hbd) ?_ (h3.no (decide_eq_false hc))
       rw[ea]
       refine .vw p _ _ _ (cp-l.toNat) cur t' hp (by omega) (by omega) ?_
       refine Nat.le_trans (Nat.le_of_eq ?_) hs
       rw[Nat.add_assoc,←Nat.add_mul]
       congr 2
       omega
 · split at h
   case h_2=>exact h.elim
   rename_i l h' bl bh
   obtain⟨rfl,rfl,h4⟩:=h
   cases hx
   have hb:=jE (P:=P) (isS:=true) (len:=0) (cap:=0) hlo hhi bl bh (by omega) (by omega) (by omega) (Nat.le_refl _)
   refine DoneV.same hm (hrun _ _ _ _ _ hb) ?_ h4
   simp
   exact .nils
 · exact h.elim
def ASl3(T:Tys)(t:TypeId)(x:AV)(lo:Option AV)(hi mx:AV)(K:AV→Prop):Prop :=
 match T t with
 | some ⟨_,_,_,.slice e,_⟩ =>
   match T e with
   | some j =>
     (match x,hi,mx with
     | .sl n cs,.int _ h,.int _ m=>(match bnd 0 lo with
       | some l=>0≤l∧l≤h∧h≤m∧m≤n∧n*j.size≤cs.length∧AQ ((cs.drop (l.toNat*j.size)).take ((h.toNat-l.toNat)*j.size)) fun cs'=>K (.sl (h.toNat-l.toNat) cs')
       | _=>False)
     | _,_,_=>False)
   | none=>False
 | _=>False
theorem ASl3.sound{t:TypeId}{x:AV}{v:Value}{lo:Option AV}{hi mx:AV}{vlo:Option Value}{vhi vmx:Value}{K:AV→q8→Prop}(hT:TOk P T)(hm:Mem σ w)(hx:Rd σ w x v)(hlo:RdO σ w lo vlo)(hhi:Rd σ w hi vhi)(hmx:Rd σ w mx vmx)(h:ASl3 T t x lo hi mx fun r=>K r σ) :
   DoneV P (Instr.sliceAt t v vlo (some vhi) (some vmx)) σ w K:=by
 unfold ASl3 at h
 split at h
 case h_2=>exact h.elim
 rename_i sz by_ ag e z ht
 have hu:=zb (hT t _ ht) rfl
 split at h
 case h_2=>exact h.elim
 rename_i j hj
 have hsz:=(hT e j hj).size
 split at h
 case h_2=>exact h.elim
 rename_i n cs kh h' km m
 split at h
 case h_2=>exact h.elim
 rename_i l bl
 cases hhi;cases hmx
 obtain⟨h0,h1,h2,h3,h4,⟨h5⟩⟩:=h
 have hl:(vlo=none∧l=0)∨∃k,vlo=some (.int k l):=by
   cases lo with
   | none =>
     cases vlo with
     | none=>simp[bnd] at bl;exact .inl ⟨rfl,bl.symm⟩
     | some v=>exact hlo.elim
   | some a =>
     cases vlo with
     | none=>exact hlo.elim
     | some v =>
       cases a<;>simp[bnd] at bl
       subst bl
       cases hlo
       exact .inr ⟨_,rfl⟩
 have hb:∀cap:Nat,n≤cap→(Instr.sliceBounds true n cap vlo (some (.int kh h')) (some (.int km m))).run P w=.ok (l.toNat,h'.toNat,m.toNat) w:=fun cap hc=>by
   have e1:∀code,(Instr.sliceBound (.int km m) cap code).run P w=.ok m.toNat w:=fun code=>ja (by omega) (by omega) w
   have e2:∀code,(Instr.sliceBound (.int kh h') m.toNat code).run P w=.ok h'.toNat w:=fun code=>ja (by omega) (by omega) w
   have e3:∀k code,(Instr.sliceBound (.int k l) h'.toNat code).run P w=.ok l.toNat w:=fun k code=>ja h0 (by omega) w
   rcases hl with ⟨rfl,rfl⟩|⟨k,rfl⟩
   · simp[Instr.sliceBounds,e1,e2]
   · simp[Instr.sliceBounds,e1,e2,e3]
 have hrun:∀(a:Option Addr) (cap:Nat),n≤cap →
     (Instr.sliceAt t (.slice a n cap) vlo (some (.int kh h')) (some (.int km m))).run P w=.ok (.slice (if m.toNat=l.toNat then a else a.map (·.add (l.toNat*j.size))) (h'.toNat-l.toNat) (m.toNat-l.toNat)) w:=by
   intro a cap hc
   unfold Instr.sliceAt Instr.slice
   simp only[Sem.run_bind,run_underlying hu,Result.andThen_ok,hb cap hc,hsz]
   rfl
 cases hx with
 | slnil =>
   have e1:l=0:=by omega
   have e2:h'=0:=by omega
   have e3:m=0:=by omega
   subst e1 e2 e3
   refine DoneV.same hm (hrun _ _ (Nat.le_refl _)) ?_ h5
   simp
   exact .slnil
 | sle a cap hm' =>
   have e1:l=0:=by omega
   have e2:h'=0:=by omega
   subst e1 e2
   refine DoneV.same hm (hrun _ _ (Nat.zero_le _)) ?_ h5
   simp only[Int.toNat_zero,Nat.sub_self,Nat.zero_mul,List.take_zero,Nat.sub_zero]
   split
   · exact .sle _ _ (by omega)
   · exact .sle _ _ (by omega)
 | sl n cs b off cap f hb' hn hm' hf hc =>
   refine DoneV.same hm (hrun _ _ hn) ?_ h5
   have hle:(h'.toNat-l.toNat)*j.size+l.toNat*j.size≤cs.length:=by
     rw[←Nat.add_mul]
     exact Nat.le_trans (Nat.mul_le_mul_right _ (by omega)) h4
   by_cases hcl:m.toNat=l.toNat
   · rw[if_pos hcl]
     have e0:h'.toNat-l.toNat=0:=by omega
     rw[e0,Nat.zero_mul,List.take_zero]
     exact .sl 0 [] b off _ f (by simp) (Nat.zero_le _) (by omega) (by simp) (by simp)
   · rw[if_neg hcl]
     simp only[Option.map_some,qQ]
     refine .sl _ _ b (off+l.toNat*j.size) _ (fun i=>f (l.toNat*j.size+i)) (fun h5=>hb' (by simp at h5;omega)) (by omega) (by omega) (fun i hi=>?_) (fun i hi=>?_)
     · simp at hi
       rw[Nat.add_assoc]
       exact hf _ (by omega)
     · simp at hi
       rw[zj _ _ _ _ (by omega),zl]
       exact hc _ (by omega)
structure AFind(o:Option Int)(K:Option Int→Prop):Prop where
 go:K o
theorem AFind.iff{o:Option Int}{K:Option Int→Prop}:AFind o K↔K o:=⟨fun h=>h.go,fun h=>⟨h⟩⟩
theorem AFind.is{o:Option Int}{K:Option Int→Prop}(x:Option Int)(h:o=x)(k:K x):AFind o K:=⟨h▸k⟩
def ALk(T:Tys)(t:TypeId)(m x:AV)(ok:Bool)(K:AV→Prop):Prop :=
 match T t,m,x with
 | some ⟨_,_,_,.map k e,_⟩,.mp f,.int .i64 n =>
   (match T k,T e with
   | some ⟨_,_,_,.int .i64,_⟩,some ⟨_,_,_,_,.int .i64 z⟩=>AFind (f n) fun o=>(match o with
     | some v=>K (match ok with|true=>.tup [.int .i64 v,.bool true]|false=>.int .i64 v)
     | none=>K (match ok with|true=>.tup [.int .i64 z,.bool false]|false=>.int .i64 z))
   | _,_=>False)
 | _,_,_=>False
theorem Rd.two{σ:q8}{w:World}{k:IntKind}{n:Int}{b:Bool}:Rd σ w (.tup [.int k n,.bool b]) (.tuple #[.int k n,.bool b]):=by
 refine .tup _ _ rfl fun i hi=>?_
 match i,hi with
 | 0,_=>exact .int _ _
 | 1,_=>exact .bool _
theorem ALk.sound{t:TypeId}{m x:AV}{vm vx:Value}{ok:Bool}{K:AV→q8→Prop}(hT:TOk P T)(hm:Mem σ w)(h1:Rd σ w m vm)(h2:Rd σ w x vx)(h:ALk T t m x ok fun r=>K r σ):DoneV P (Instr.lookup t vm vx ok) σ w K:=by
 unfold ALk at h
 split at h
 case h_2=>exact h.elim
 rename_i sz by_ ag k e z0 f n ht
 split at h
 case h_2=>exact h.elim
 rename_i s1 b1 a1 z1 s2 b2 a2 d2 z hk he
 cases h1 with
 | mp f b es clock hb hh hf =>
   cases h2
   have hu:P.underlying t=some (.map k e):=by
     obtain⟨d,q1,q2,q3⟩:=(hT t _ ht).und
     cases d<;>simp[TD.rel] at q3
     obtain⟨rfl,rfl⟩:=q3
     exact q1
   have hku:P.underlying k=some (.int .i64):=by
     obtain⟨d,q1,q2,q3⟩:=(hT k _ hk).und
     cases d<;>simp[TD.rel] at q3
     subst q3
     exact q1
   obtain⟨zv,q1,q2⟩:=(hT e _ he).zeroV
   have hz:zv=.int .i64 z:=by
     unfold zr at q1
     unfold zr1 at q1
     cases zv<;>simp at q1
     obtain⟨rfl,rfl⟩:=q1
     rfl
   subst hz
   have hik:MapKept.IsKey (.int .i64) (.int .i64 n):=by simp[MapKept.IsKey]
   have hrun:∀(r:Option (Nat×Value)),Instr.findNow (.int .i64) (.int .i64 n) es.toList 0=some r→(Instr.lookup t (.map (some b)) (.int .i64 n) ok).run P w=.ok (match r with
       | some (_,v)=>(if ok then .tuple #[v,.bool true] else v)
       | none=>(if ok then .tuple #[.int .i64 z,.bool false] else .int .i64 z)) w:=by
     intro r hr
     cases r with
     | none=>simp[Instr.lookup,run_underlying hu,MapKept.run_getObj_map hh,MapKept.run_checkKey hku hik,MapKept.run_findKey hku hr,q2,Result.andThen]
     | some p =>
       obtain⟨i,v⟩:=p
       simp[Instr.lookup,run_underlying hu,MapKept.run_getObj_map hh,MapKept.run_checkKey hku hik,MapKept.run_findKey hku hr,Result.andThen]
   have h:=h.go
   rcases hf n with ⟨i,v,f1,f2⟩|⟨f1,f2⟩
   · rw[f1] at h
     refine DoneV.same hm (hrun _ f2) ?_ h
     cases ok
     · exact .int _ _
     · exact Rd.two
   · rw[f1] at h
     refine DoneV.same hm (hrun _ f2) ?_ h
     cases ok
     · exact .int _ _
     · exact Rd.two
def ALen(x:AV)(K:AV→Prop):Prop :=
 match x with
 | .sl n _|.vw _ _ n _|.ap _ _ n _|.vc _ _ n _ _=>K (.int .i64 n)
 | .nils=>K (.int .i64 0)
 | _=>False
theorem ALen.sound{t:TypeId}{e:TypeId}{ty:TypeId}{x:AV}{v:Value}{K:AV→q8→Prop}(hu:P.underlying t=some (.slice e))(hm:Mem σ w)(hx:Rd σ w x v)(h:ALen x fun r=>K r σ):DoneV P (Builtin.len_ #[t] ty #[v]) σ w K:=by
 have hrun:∀a n c,(Builtin.len_ #[t] ty #[.slice a n c]).run P w=.ok (.int .i64 n) w:=by
   intro a n c
   simp[Builtin.len_,run_underlying hu,goInt]
 unfold ALen at h
 split at h
 · cases hx
   · exact DoneV.same hm (hrun _ _ _) (.int _ _) h
   · exact DoneV.same hm (hrun _ _ _) (.int _ _) h
   · exact DoneV.same hm (hrun _ _ _) (.int _ _) h
 · cases hx
   · exact DoneV.same hm (hrun _ _ _) (.int _ _) h
   · exact DoneV.same hm (hrun _ _ _) (.int _ _) h
   · exact DoneV.same hm (hrun _ _ _) (.int _ _) h
 · cases hx
   exact DoneV.same hm (hrun _ _ _) (.int _ _) h
 · cases hx
   exact DoneV.same hm (hrun _ _ _) (.int _ _) h
 · cases hx
   exact DoneV.same hm (hrun _ _ _) (.int _ _) h
 · exact h.elim
def ACap(x:AV)(K:AV→Prop):Prop :=
 match x with
 | .nils=>K (.int .i64 0)
 | .vc _ _ _ c _=>K (.int .i64 c)
 | _=>False
theorem ACap.sound{t:TypeId}{e:TypeId}{ty:TypeId}{x:AV}{v:Value}{K:AV→q8→Prop}(hu:P.underlying t=some (.slice e))(hm:Mem σ w)(hx:Rd σ w x v)(h:ACap x fun r=>K r σ):DoneV P (Builtin.cap_ #[t] ty #[v]) σ w K:=by
 unfold ACap at h
 split at h
 · cases hx
   exact DoneV.same hm (by simp[Builtin.cap_,run_underlying hu,goInt]) (.int _ _) h
 · cases hx
   exact DoneV.same hm (by simp[Builtin.cap_,run_underlying hu,goInt]) (.int _ _) h
 · exact h.elim
def AGz(T:Tys)(t t':TypeId)(n:Int)(σ:q8)(K:AV→q8→Prop):Prop :=
 match T t,T t' with
 | some ⟨_,_,_,.slice e,_⟩,some ⟨_,_,_,.int _,_⟩ =>
   match T e with
   | some j=>0<j.size∧0<n∧n.toNat*j.bytes≤140737488355328∧n≤4611686018427387904∧jw σ fun q=>K (.vw q 0 n.toNat j.size) (upd σ q ⟨e,[]⟩)
   | none=>False
 | _,_=>False
theorem yZ(t tn ty e:TypeId)(i:TypeInfo)(z:Value)(kq kn:IntKind)(ht:P.underlying t=some (.slice e))(htn:P.underlying tn=some (.int kn))(hi:P.info? e=some i)(hz:i.zero=some z)(k:Nat)(h0:0<k)(hs:0<i.size)(hm:k≤4611686018427387904)(hb:k*i.bytes≤140737488355328) :
   (Builtin.append_ #[t,tn] ty #[.slice none 0 0,.int kq k]).run P w =
     .ok (.slice (some ⟨w.heap.size,0,none⟩) k (grownCap w k 0 e)) (w.drew.alloc (.cells (Builtin.zeroCells z.cells k++Builtin.zeroCells z.cells (grownCap w k 0 e-k)) e)):=by
 have hw:IntKind.i64.wrap (k:Int)=k:=by rw[IntKind.wrap_i64];omega
 have hk:k≠0:=by omega
 have hf:¬(281474976710656<Builtin.nextslicecap k 0*i.bytes):=by have:=growslice_fits (bytes:=i.bytes) (show 0<k by omega) hb;omega
 have h48:¬(281474976710656<(k:Int)*(i.bytes:Int)):=by rw[←Int.natCast_mul];omega
 have hneg:¬((k:Int)<0):=by omega
 have h63:¬(9223372036854775807<(k:Int)):=by omega
 have hns:¬(k*i.size=0):=Nat.mul_ne_zero hk (by omega)
 simp[Builtin.append_,run_underlying ht,run_underlying htn,sizeOf,typeInfo,zeroValue,hi,hz,asInt,asIntOf,hw,hk,hneg,hns,h63,h48,hf,Question.forced,Builtin.firstCells,newRow,grownCap]
theorem AGz.sound{t t' ty:TypeId}{k:IntKind}{n:Int}{K:AV→q8→Prop}(hT:TOk P T)(hm:Mem σ w)(h:AGz T t t' n σ K):DoneV P (Builtin.append_ #[t,t'] ty #[.slice none 0 0,.int k n]) σ w K:=by
 unfold AGz at h
 split at h
 case h_2=>exact h.elim
 rename_i sz0 by_ ag e z0 sz1 by1 ag1 kn z1 ht ht'
 have hu:=zb (hT t _ ht) rfl
 have hu':=int_of (hT t' _ ht') rfl
 split at h
 case h_2=>exact h.elim
 rename_i j hj
 obtain⟨jt,zv,q1,q2,q3,q4,q5,q6⟩:=(hT e j hj).info
 obtain⟨hs0,h1,hb,hmx,h⟩:=h
 rw[←q2] at q6
 rw[←q3] at hb
 obtain⟨m,rfl⟩:∃m:Nat,n=m:=⟨n.toNat,by omega⟩
 rw[Int.toNat_natCast] at hb h
 have hr:=yZ (P:=P) (w:=w) t t' ty e jt zv k kn hu hu' q1 q4 m (by omega) (by rw[q2];exact hs0) (by omega) hb
 have hge:=grownCap_ge w m 0 e
 have hcm:=grownCap_le_maxLen w m 0 e (by unfold maxLen;omega)
 have hf:σ (.b w.heap.size)=none:=hm.fresh (Nat.le_refl _)
 have hsz:(Builtin.zeroCells zv.cells m++Builtin.zeroCells zv.cells (grownCap w m 0 e-m)).size=grownCap w m 0 e*jt.size:=by
   rw[Array.size_append,size_zeroCells,size_zeroCells,q6,←Nat.add_mul];congr 1;omega
 have s2:=Stp.alloc σ w.drew ⟨e,[]⟩ (Builtin.zeroCells zv.cells m++Builtin.zeroCells zv.cells (grownCap w m 0 e-m))
 refine⟨_,_,_,_,hr,h.go _ hf,.vw _ _ _ _ _ _ e (heap_alloc_new w.drew _) hge hcm (by rw[hsz,q2];omega),hm.drew.alloc ⟨e,[]⟩ _ (by simp) (fun i hi=>by simp at hi),(Stp.refl σ w).drew.trans s2⟩
def AGc(T:Tys)(t t':TypeId)(p:Nm)(off n cap sz:Nat)(k:Int)(σ:q8)(K:AV→q8→Prop):Prop :=
 match T t,T t' with
 | some ⟨_,_,_,.slice e,_⟩,some ⟨_,_,_,.int _,_⟩ =>
   match T e with
   | some j=>0<j.size∧sz=j.size∧0<k∧(cap:Int)<n+k∧(n+k.toNat)*j.bytes≤140737488355328∧(n:Int)+k≤4611686018427387904∧AHas σ p fun c=>off+n*sz≤c.cs.length ∧
     (match j.zero.cells with
     | some z=>0<z.length∧AQ ((c.cs.drop off).take (n*sz)++qB z (k.toNat*j.size)) fun cs=>jw σ fun q=>K (.vw q 0 (n+k.toNat) j.size) (upd σ q ⟨e,cs⟩)
     | none=>False)
   | none=>False
 | _,_=>False
theorem zeroCells_rd{z:List AV}{v:Value}(hr:∀i,i<z.length→Rd σ w (z.getD i .any) (v.cells.getD i undef))(hl:v.cells.size=z.length)(h0:0<z.length)(n:Nat) :
   RdL σ w (qB z (n*z.length)) (Builtin.zeroCells v.cells n):=by
 have:=wj (σ:=σ) (w:=w) hr hl h0 (n*z.length)
 unfold Builtin.zeroCells
 rw[hl] at this ⊢
 exact this
def bAV(c:UInt8):AV:=.int .u8 (c.toNat:Int)
def ACv(T:Tys)(s d:TypeId)(x:AV)(K:AV→Prop):Prop :=
 match T s,T d,x with
 | some _,some ⟨_,_,_,.int k,_⟩,.int _ n=>K (.int k (k.wrap n))
 | some ⟨_,_,_,.slice e,_⟩,some ⟨_,_,_,.str,_⟩,.sl n cs =>
   match T e with
   | some ⟨_,_,_,.int .u8,_⟩=>∃l:List UInt8,cs=l.map bAV∧n=l.length∧K (.str ⟨l.toArray⟩)
   | _=>False
 | some ⟨_,_,_,.slice e,_⟩,some ⟨_,_,_,.str,_⟩,.nils =>
   match T e with
   | some ⟨_,_,_,.int .u8,_⟩=>K (.str ⟨#[]⟩)
   | _=>False
 | _,_,_=>False
theorem Rd.int_eq{k:IntKind}{n:Int}{v:Value}(h:Rd σ w (.int k n) v):v=.int k n:=by cases h;rfl
theorem str_nums(l:List UInt8):strOfNums (l.map fun c=>(c.toNat:Int))=⟨l.toArray⟩:=by
 unfold strOfNums
 congr 1
 simp only[List.map_map]
 congr 1
 conv=>rhs;rw[←List.map_id l]
 apply List.map_congr_left
 intro c _
 simp
theorem kD{P:Program}(w:World)(src e:TypeId)(hs:P.underlying src=some (.slice e))(he:P.underlying e=some (.int .u8))(a:Addr)(cap:Nat) :
   ∀dst,P.underlying dst=some .string→(convert src dst (.slice (some a) 0 cap)).run P w=.ok (.string ByteArray.empty) w:=by
 intro dst hd
 have hl:(loadCells a 0).run P w=.ok #[] w:=by simpa using run_loadCells_list (P:=P) w a [] (by simp)
 rw[run_convert_bytes_string w src dst e _ 0 cap hs he hd,run_bytesToString w a 0 cap [] (by simpa using hl)]
 rfl
theorem ACv.sound{s d:TypeId}{x:AV}{v:Value}{K:AV→q8→Prop}(hT:TOk P T)(hm:Mem σ w)(hx:Rd σ w x v)(h:ACv T s d x fun r=>K r σ):DoneV P (convert s d v) σ w K:=by
 unfold ACv at h
 split at h
 · rename_i i sz by_ ag k z k' n hs hd
   cases hx
   obtain⟨ds,q1,-⟩:=(hT s i hs).und
   refine DoneV.same hm ?_ (.int _ _) h
   have hd:=int_of (hT d _ hd) rfl
   unfold convert
   simp only[Sem.run_bind,run_underlying q1,run_underlying hd,Result.andThen_ok]
   cases ds<;>rfl
 · rename_i sz by_ ag e z sz2 by2 ag2 z2 n cs hs hd
   split at h
   case h_2=>exact h.elim
   rename_i sz3 by3 ag3 z3 he
   obtain⟨l,rfl,rfl,h⟩:=h
   have hs:=zb (hT s _ hs) rfl
   have hd:=str_of (hT d _ hd) rfl
   have he:=int_of (hT e _ he) rfl
   generalize hcs:l.map bAV=cs at hx
   generalize hn:l.length=n at hx
   cases hx with
   | slnil =>
     have:l=[]:=List.eq_nil_of_length_eq_zero hn
     subst this
     exact DoneV.same hm (run_convert_bytes_nil w s e hs he 0 0 d hd) (.str _) h
   | sle a cap hm' =>
     have:l=[]:=List.eq_nil_of_length_eq_zero hn
     subst this
     exact DoneV.same hm (kD w s e hs he a cap d hd) (.str _) h
   | sl n cs b off cap f hb hn' hm' hf hc =>
     subst hcs
     have hr:=run_convert_bytes_arg w (P:=P) s e hs he b off n cap (l.map fun c=>(c.toNat:Int)) (by simp[hn]) (fun i hi=>by
       have h1:=hf i (by simp;omega)
       have h2:=hc i (by simp;omega)
       rw[h1]
       have e1:(l.map bAV).getD i .any=bAV (l.getD i 0):=by simp[List.getD_eq_getElem?_getD,show i<l.length by omega]
       rw[e1] at h2
       rw[h2.int_eq]
       simp[List.getD_eq_getElem?_getD,show i<l.length by omega]) d hd
     rw[str_nums] at hr
     exact DoneV.same hm hr (.str _) h
 · rename_i sz by_ ag e z sz2 by2 ag2 z2 hs hd
   split at h
   case h_2=>exact h.elim
   rename_i sz3 by3 ag3 z3 he
   have hs:=zb (hT s _ hs) rfl
   have hd:=str_of (hT d _ hd) rfl
   have he:=int_of (hT e _ he) rfl
   cases hx
   exact DoneV.same hm (run_convert_bytes_nil w s e hs he 0 0 d hd) (.str _) h
 · exact h.elim
def Src(σ:q8)(sz:Nat)(x:AV)(m:Nat)(xs:List AV):Prop :=
 match x with
 | .sl n cs=>m=n∧xs=cs∧cs.length=n*sz
 | .nils=>m=0∧xs=[]
 | .vw q off n sz'|.ap q off n sz'=>sz'=sz∧m=n∧AHas σ q fun c=>off+n*sz≤c.cs.length∧xs=(c.cs.drop off).take (n*sz)
 | .lit (.slice (some _) 0 _)=>m=0∧xs=[]
 | _=>False
theorem wG(t ty e:TypeId)(i:TypeInfo)(ht:P.underlying t=some (.slice e))(hi:P.info? e=some i)
   (g off sLen sCap:Nat) (cur:Array Value) (hg:w.heap[g]? = some (.cells cur e (0,0)))
   (a:Addr) (m c:Nat) (news:List Value) (hl:news.length=m*i.size) (hnews:∀j u,news[j]? = some u→w.cell? (a.add j)=some u) (h1:∀u∈news,u.oneCell'=true)
   (hroom:sLen+m≤sCap) (hfit:off+sLen*i.size+news.length≤cur.size) :
   (Builtin.append_ #[t,t] ty #[.slice (some ⟨g,off,none⟩) sLen sCap,.slice (some a) m c]).run P w =
     .ok (.slice (some ⟨g,off,none⟩) (sLen+m) sCap) (w.setRow g (cur.toList.take (off+sLen*i.size)++news++cur.toList.drop (off+sLen*i.size+news.length)).toArray):=by
 have hf:=run_firstCells_some (P:=P) w i.size m a m c news hl hnews
 have hst:=run_storeCells_at P g (off+sLen*i.size) e news 0 cur w hg (by simpa using hfit) h1
 simp only[Nat.add_zero] at hst
 simp[Builtin.append_,run_underlying ht,sizeOf,typeInfo,hi,Builtin.lenOf,hroom,hf,qQ,hst]
theorem xr(t ty e:TypeId)(i:TypeInfo)(ht:P.underlying t=some (.slice e))(hi:P.info? e=some i)(a:Option Addr)(n cap:Nat)(hn:n≤cap) :
   (Builtin.append_ #[t,t] ty #[.slice a n cap,.slice none 0 0]).run P w=.ok (.slice a n cap) w:=by
 cases a<;>simp[Builtin.append_,run_underlying ht,sizeOf,typeInfo,hi,Builtin.lenOf,Builtin.firstCells,hn,storeCells]
def devc:AV→AV
 | .vc p off n _ sz=>.vw p off n sz
 | d=>d
theorem Rd.devc{d:AV}{v:Value}(h:Rd σ w d v):Rd σ w (devc d) v:=by
 cases d<;>first|exact h|skip
 cases h with
 | vc _ _ _ _ _ _ _ hp hn hm hs=>exact .vw _ _ _ _ _ _ _ hp hn hm hs
def AAp(T:Tys)(t:TypeId)(d x:AV)(σ:q8)(K:AV→q8→Prop):Prop :=
 match T t with
 | some ⟨_,_,_,.slice e,_⟩ =>
   match T e with
   | some j=>0<j.size∧∃m xs,Src σ j.size x m xs∧(xs.all AV.one)=true∧(match d with
     | .nils=>m*j.bytes≤140737488355328∧m≤4611686018427387904∧jw σ fun q=>K (.vw q 0 m j.size) (upd σ q ⟨e,xs⟩)
     | .vw p off n sz=>sz=j.size∧AHas σ p fun c=>c.ty=e∧off+n*sz≤c.cs.length∧(n+m)*j.bytes≤140737488355328∧n+m≤4611686018427387904 ∧
         (off≠0→K (.vw p off (n+m) sz) (upd σ p ⟨e,c.cs.take (off+n*sz)++xs⟩)) ∧
         jw (era σ p) fun q=>K (.vw q 0 (n+m) sz) (upd (era σ p) q ⟨e,(c.cs.drop off).take (n*sz)++xs⟩)
     | _=>False)
   | none=>False
 | _=>False
theorem Cells.vals{b off:Nat}{cs:List AV}(h:Cells σ w b off cs)(h1:(cs.all AV.one)=true) :
   ∃news:List Value,news.length=cs.length∧(∀j u,news[j]? = some u→w.cell? ((⟨b,off,none⟩:Addr).add j)=some u)∧(∀u∈news,u.oneCell'=true)∧∀i,i<cs.length→Rd σ w (cs.getD i .any) (news.getD i undef):=by
 obtain⟨f,hf⟩:=h.fn
 refine⟨(List.range cs.length).map f,by simp,fun j u hj=>?_,fun u hu=>?_,fun i hi=>?_⟩
 · have hj1:j<cs.length:=by
     rcases Nat.lt_or_ge j cs.length with h2|h2
     · exact h2
     · simp[List.getElem?_eq_none (show((List.range cs.length).map f).length≤j by simpa using h2)] at hj
   simp[hj1] at hj
   subst hj
   rw[qQ]
   exact(hf j hj1).1
 · simp at hu
   obtain⟨i,hi,rfl⟩:=hu
   refine(hf i hi).2.one ?_
   rw[List.getD_eq_getElem?_getD,List.getElem?_eq_getElem hi,Option.getD_some]
   exact List.all_eq_true.1 h1 _ (List.getElem_mem _)
 · have:((List.range cs.length).map f).getD i undef=f i:=by simp[List.getD_eq_getElem?_getD,hi]
   rw[this]
   exact(hf i hi).2
structure NewsA(σ:q8)(w:World)(a:Addr)(cs:List AV):Prop where
 valsK:∀k,((cs.take k).all AV.one)=true→∃news:List Value,news.length=(cs.take k).length∧(∀j u,news[j]? = some u→w.cell? (a.add j)=some u)∧(∀u∈news,u.oneCell'=true)∧∀i,i<(cs.take k).length→Rd σ w ((cs.take k).getD i .any) (news.getD i undef)
theorem NewsA.vals{a:Addr}{cs:List AV}(h:NewsA σ w a cs)(h1:(cs.all AV.one)=true):∃news:List Value,news.length=cs.length∧(∀j u,news[j]? = some u→w.cell? (a.add j)=some u)∧(∀u∈news,u.oneCell'=true)∧∀i,i<cs.length→Rd σ w (cs.getD i .any) (news.getD i undef):=by
 have:=h.valsK cs.length (by rw[List.take_length];exact h1)
 rwa [List.take_length] at this
theorem NewsA.nil{a:Addr}:NewsA σ w a []:=⟨fun _ _=>⟨[],by simp,by simp,by simp,by simp⟩⟩
theorem NewsA.of{b off:Nat}{cs:List AV}(h:Cells σ w b off cs):NewsA σ w ⟨b,off,none⟩ cs:=⟨fun k h1=>by
 have h2:=h.sub 0 k
 rw[List.drop_zero,Nat.add_zero] at h2
 exact h2.vals h1⟩
theorem Src.news{sz m:Nat}{x:AV}{xs:List AV}{v:Value}(hm:Mem σ w)(hx:Rd σ w x v)(h:Src σ sz x m xs) :
   xs.length=m*sz∧((v=.slice none 0 0∧m=0∧xs=[])∨∃a cap,v=.slice (some a) m cap∧NewsA σ w a xs):=by
 unfold Src at h
 split at h
 · obtain⟨rfl,rfl,h3⟩:=h
   refine⟨h3,?_⟩
   cases hx with
   | slnil=>exact .inl ⟨rfl,rfl,rfl⟩
   | sle a cap hm'=>exact .inr ⟨a,cap,rfl,.nil⟩
   | sl n cs b off cap f hb hn hm' hf hc=>exact .inr ⟨_,cap,rfl,.of ⟨fun i hi=>⟨_,hf i hi,hc i hi⟩⟩⟩
 · obtain⟨rfl,rfl⟩:=h
   cases hx
   exact⟨by simp,.inl ⟨rfl,rfl,rfl⟩⟩
 · rename_i q off n sz'
   obtain⟨rfl,rfl,⟨c,h1,h2,rfl⟩⟩:=h
   refine⟨by simp;omega,?_⟩
   cases hx with
   | vw p off n sz cap cur t hp hn hm' hs =>
     have:=fun k n=>(hm.cells h1).sub k n
     simp only[Nat.zero_add] at this
     exact .inr ⟨_,cap,rfl,.of (this _ _)⟩
   | vwnil k sz =>
     exact .inl ⟨rfl,rfl,by simp⟩
   | vw0 p off sz a =>
     rw[Nat.zero_mul,List.take_zero]
     exact .inr ⟨a,0,rfl,.nil⟩
 · rename_i q off n sz'
   obtain⟨rfl,rfl,⟨c,h1,h2,rfl⟩⟩:=h
   refine⟨by simp;omega,?_⟩
   cases hx with
   | ap p off n sz cap hn hm' =>
     have:=fun k n=>(hm.cells h1).sub k n
     simp only[Nat.zero_add] at this
     exact .inr ⟨_,cap,rfl,.of (this _ _)⟩
 · obtain⟨rfl,rfl⟩:=h
   cases hx
   exact⟨by simp,.inr ⟨_,_,rfl,.nil⟩⟩
 · exact h.elim
theorem new_row{K:AV→q8→Prop}{σ1:q8}(hm:Mem σ w)(h1:∀b c,σ1 b=some c→σ b=some c)(h2:∀b,σ (.b b)=none→σ1 (.b b)=none)(e:TypeId)(n cap sz:Nat)(cs:List AV)(cur:Array Value)(hl:cs.length=n*sz)(hn:n≤cap)(hc:cap≤maxLen)(hs:cur.size=cap*sz)
   (hr:∀i,i<cs.length→Rd σ w (cs.getD i .any) (cur.getD i undef)) (h:∀q,σ1 q=none→K (.vw q 0 n sz) (upd σ1 q ⟨e,cs⟩)) :
   ∃r σ',K r σ'∧Rd σ' (w.drew.alloc (.cells cur e)) r (.slice (some ⟨w.heap.size,0,none⟩) n cap)∧Mem σ' (w.drew.alloc (.cells cur e))∧Stp σ w σ' (w.drew.alloc (.cells cur e)):=by
 have hf:σ1 (.b w.heap.size)=none:=h2 _ (hm.fresh (Nat.le_refl _))
 have s1:=Stp.forget σ σ1 w h2
 have hm1:Mem σ1 w.drew:=(hm.forget h1).drew
 have s2:=Stp.alloc σ1 w.drew ⟨e,cs⟩ cur
 refine⟨_,_,h _ hf,?_,hm1.alloc ⟨e,cs⟩ cur ?_ (fun i hi=>(hr i hi).mono s1.drew),s1.drew.trans s2⟩
 · exact .vw _ _ _ _ cap cur e (heap_alloc_new w.drew _) hn hc (by omega)
 · rw[hl,hs];exact Nat.mul_le_mul_right _ hn
theorem yR{zv:Value}{news:List Value}{m cap sz:Nat}(hz:zv.cells.size=sz)(hl:news.length=m*sz)(hc:m≤cap):(news.toArray++Builtin.zeroCells zv.cells (cap-m)).size=cap*sz:=by
 rw[Array.size_append,size_zeroCells,hz,List.size_toArray,hl,←Nat.add_mul]
 congr 1;omega
theorem app_getD{news:List Value}{a:Array Value}{i:Nat}(h:i<news.length):(news.toArray++a).getD i undef=news.getD i undef:=by
 simp only[Array.getD_eq_getD_getElem?,List.getD_eq_getElem?_getD]
 rw[Array.getElem?_append_left (by simpa using h)]
 simp
theorem AGc.sound{t t' ty:TypeId}{k:IntKind}{p:Nm}{off n cap sz:Nat}{m0:Int}{vd:Value}{K:AV→q8→Prop}(hT:TOk P T)(hm:Mem σ w)(hd:Rd σ w (.vc p off n cap sz) vd)(h:AGc T t t' p off n cap sz m0 σ K):DoneV P (Builtin.append_ #[t,t'] ty #[vd,.int k m0]) σ w K:=by
 unfold AGc at h
 split at h
 case h_2=>exact h.elim
 rename_i sz0 by_ ag e z0 sz1 by1 ag1 kn z1 ht ht'
 have hu:=zb (hT t _ ht) rfl
 have hu':=int_of (hT t' _ ht') rfl
 split at h
 case h_2=>exact h.elim
 rename_i j hj
 obtain⟨jt,zv,q1,q2,q3,q4,q5,q6⟩:=(hT e j hj).info
 obtain⟨hs0,rfl,h1,hroom,hb,hmx,⟨c,hp,hlen,h⟩⟩:=h
 split at h
 case h_2=>exact h.elim
 rename_i z hz
 obtain⟨hz0,⟨h⟩⟩:=h
 have hzr:Rd σ w j.zero zv:=Rd.zr q5
 obtain⟨c1,c2⟩:=hzr.cells hz
 obtain⟨m,rfl⟩:∃m:Nat,m0=m:=⟨m0.toNat,by omega⟩
 rw[Int.toNat_natCast] at hb h
 cases hd with
 | vc p off n sz cap cur tt hcur hn hm' hs =>
 obtain⟨f,hf⟩:=((hm.cells hp).sub off (n*j.size)).fn
 simp only[Nat.zero_add] at hf
 have hol:((c.cs.drop off).take (n*j.size)).length=n*j.size:=by simp;omega
 have hold:(Builtin.firstCells jt.size n (.slice (some ⟨p,off,none⟩) n cap)).run P w.drew=.ok ((List.range (n*j.size)).map f).toArray w.drew:=by
   refine run_firstCells_some (P:=P) (w:=w.drew) jt.size n ⟨p,off,none⟩ n cap ((List.range (n*j.size)).map f) (by simp[q2]) (fun i v hi=>?_)
   have hi1:i<n*j.size:=by
     rcases Nat.lt_or_ge i (n*j.size) with h9|h9
     · exact h9
     · simp[List.getElem?_eq_none (show((List.range (n*j.size)).map f).length≤i by simpa using h9)] at hi
   simp[hi1] at hi
   subst hi
   rw[qQ]
   exact(hf i (by omega)).1
 have hjs:j.size=z.length:=by
   rw[←c1,q6]
 have hr:=Go.Lib.run_append_grow_zeros (P:=P) w t t' ty e jt zv k kn hu hu' q1 q4 (some ⟨p,off,none⟩) n cap _ hold m (by omega) (by rw[q2];exact hs0) (by omega) (by omega) (by rw[q3];have:=Nat.mul_le_mul_right j.bytes (Nat.le_add_left m n);omega) (growslice_fits (by omega) (by rw[q3];exact hb))
 have hge:=grownCap_ge w (n+m) cap e
 have hcm:=grownCap_le_maxLen w (n+m) cap e (by unfold maxLen;omega)
 have hzc:=zeroCells_rd (σ:=σ) (w:=w) c2 c1 hz0 m
 rw[←hjs] at hzc
 obtain⟨r,σ',g1,g2,g3,g4⟩:=new_row hm (fun _ _ h=>h) (fun _ h=>h) e (n+m) (grownCap w (n+m) cap e) j.size ((c.cs.drop off).take (n*j.size)++qB z (m*j.size))
   (((List.range (n*j.size)).map f).toArray++Builtin.zeroCells zv.cells m++Builtin.zeroCells zv.cells (grownCap w (n+m) cap e-(n+m)))
   (by rw[List.length_append,hol];simp[qB,Nat.add_mul]) hge hcm (by
     rw[Array.size_append,Array.size_append,size_zeroCells,size_zeroCells,c1,←hjs]
     simp only[List.size_toArray,List.length_map,List.length_range]
     rw[←Nat.add_mul,←Nat.add_mul];congr 1;omega)
   (fun i hi=>by
     rw[List.length_append,hol] at hi
     have hzl:(qB z (m*j.size)).length=m*j.size:=by simp[qB]
     have hzs:(Builtin.zeroCells zv.cells m).size=m*j.size:=by rw[size_zeroCells,c1,←hjs]
     by_cases hlo:i<n*j.size
     · have e1:((c.cs.drop off).take (n*j.size)++qB z (m*j.size)).getD i .any=((c.cs.drop off).take (n*j.size)).getD i .any:=by
         simp only[List.getD_eq_getElem?_getD]
         rw[List.getElem?_append_left (by omega)]
       rw[e1]
       have e2:(((List.range (n*j.size)).map f).toArray++Builtin.zeroCells zv.cells m++Builtin.zeroCells zv.cells (grownCap w (n+m) cap e-(n+m))).getD i undef=f i:=by
         simp only[Array.getD_eq_getD_getElem?]
         rw[Array.getElem?_append_left (by simp;omega),Array.getElem?_append_left (by simp;omega)]
         simp[hlo]
       rw[e2]
       exact(hf i (by omega)).2
     · have e1:((c.cs.drop off).take (n*j.size)++qB z (m*j.size)).getD i .any=(qB z (m*j.size)).getD (i-n*j.size) .any:=by
         simp only[List.getD_eq_getElem?_getD]
         rw[List.getElem?_append_right (by omega),hol]
       rw[e1]
       have e2:(((List.range (n*j.size)).map f).toArray++Builtin.zeroCells zv.cells m++Builtin.zeroCells zv.cells (grownCap w (n+m) cap e-(n+m))).getD i undef=(Builtin.zeroCells zv.cells m).getD (i-n*j.size) undef:=by
         simp only[Array.getD_eq_getD_getElem?]
         rw[Array.getElem?_append_left (by rw[Array.size_append,hzs];simp;omega),Array.getElem?_append_right (by simp;omega)]
         simp
       rw[e2]
       exact hzc.2 _ (by omega))
   h.go
 exact⟨_,_,r,σ',hr,g1,g2,g3,g4⟩
theorem app_nil{t ty e:TypeId}{jt:TypeInfo}{zv vx:Value}{m:Nat}{xs:List AV}{K:AV→q8→Prop}(σ1:q8)(hm:Mem σ w)(hs1:∀b c,σ1 b=some c→σ b=some c)(hs2:∀b,σ (.b b)=none→σ1 (.b b)=none)
   (hu:P.underlying t=some (.slice e)) (q1:P.info? e=some jt) (q4:jt.zero=some zv) (hz:zv.cells.size=jt.size)
   (hxl:xs.length=m*jt.size) (hone:(xs.all AV.one)=true) (hv:(vx=.slice none 0 0∧m=0∧xs=[])∨∃a cap,vx=.slice (some a) m cap∧NewsA σ w a xs)
   (hb:m*jt.bytes≤140737488355328) (hmx:m≤4611686018427387904) (h:∀q,σ1 q=none→K (.vw q 0 m jt.size) (upd σ1 q ⟨e,xs⟩)):DoneV P (Builtin.append_ #[t,t] ty #[.slice none 0 0,vx]) σ w K:=by
 have hempty:m=0→(Builtin.append_ #[t,t] ty #[.slice none 0 0,vx]).run P w=.ok (.slice none 0 0) w→DoneV P (Builtin.append_ #[t,t] ty #[.slice none 0 0,vx]) σ w K:=by
   intro h0 hr
   subst h0
   obtain rfl:xs=[]:=List.eq_nil_of_length_eq_zero (by simpa using hxl)
   have hm1:=hm.forget hs1
   obtain⟨B,hB⟩:=hm1.fin
   refine⟨_,w,.vw (.v B) 0 0 jt.size,upd σ1 (.v B) ⟨e,[]⟩,hr,h _ (hB B (Nat.le_refl _)),.vwnil _ _,?_,?_⟩
   · refine⟨fun p c hp=>?_,fun k c hk=>?_,j3 hm1.fin _ _⟩
     · rw[qe _ _ (by simp)] at hp
       obtain⟨cur,k1,k2,k3⟩:=hm1.pl p c hp
       exact⟨cur,k1,k2,fun i hi=>(k3 i hi).mono (Stp.forget _ _ w fun b hb=>by rw[qe _ _ (by simp)];exact hb)⟩
     · by_cases hk2:k=B
       · subst hk2;rw[qx] at hk;cases hk;rfl
       · rw[qe _ _ (by simp;exact hk2)] at hk;exact hm1.vl k c hk
   · exact Stp.forget _ _ w fun b hb=>by rw[qe _ _ (by simp)];exact hs2 b hb
 rcases hv with ⟨rfl,rfl,rfl⟩|⟨a0,cap,rfl,hcells⟩
 · exact hempty rfl (xr t ty e jt hu q1 none 0 0 (Nat.le_refl _))
 · obtain⟨news,n1,n2,n3,n4⟩:=hcells.vals hone
   by_cases hm0:m=0
   · subst hm0
     obtain rfl:xs=[]:=List.eq_nil_of_length_eq_zero (by simpa using hxl)
     obtain rfl:news=[]:=List.eq_nil_of_length_eq_zero (by simpa using n1)
     exact hempty rfl (by simp[Builtin.append_,run_underlying hu,sizeOf,typeInfo,q1,Builtin.lenOf,Builtin.firstCells,loadCells,loadCellsFrom])
   · have hr:=run_append_nil (P:=P) w t ty e jt zv hu q1 q4 a0 m cap news (by rw[n1,hxl]) n2 (by omega) (by omega) (by omega)
     have hge:=grownCap_ge w m 0 e
     have hcm:=grownCap_le_maxLen w m 0 e (by unfold maxLen;omega)
     obtain⟨r,σ',k1,k2,k3,k4⟩:=new_row hm hs1 hs2 e m (grownCap w m 0 e) jt.size xs (news.toArray++Builtin.zeroCells zv.cells (grownCap w m 0 e-m)) hxl hge hcm (yR hz (by rw[n1,hxl]) hge)
       (fun i hi=>by rw[app_getD (by omega)];exact n4 i hi) h
     exact⟨_,_,r,σ',hr,k1,k2,k3,k4⟩
theorem AAp.sound{t ty:TypeId}{d x:AV}{vd vx:Value}{K:AV→q8→Prop}(hT:TOk P T)(hm:Mem σ w)(hd:Rd σ w d vd)(hx:Rd σ w x vx)(h:AAp T t d x σ K):DoneV P (Builtin.append_ #[t,t] ty #[vd,vx]) σ w K:=by
 unfold AAp at h
 split at h
 case h_2=>exact h.elim
 rename_i sz0 by_ ag e z0 ht
 have hu:=zb (hT t _ ht) rfl
 split at h
 case h_2=>exact h.elim
 rename_i j hj
 obtain⟨jt,zv,q1,q2,q3,q4,q5,q6⟩:=(hT e j hj).info
 obtain⟨hs0,m,xs,hsrc,hone,h⟩:=h
 obtain⟨hxl,hv⟩:=hsrc.news hm hx
 rw[←q2] at q6
 rw[←q3,←q2] at h
 rw[←q2] at hxl
 split at h
 · obtain⟨hb,hmx,h⟩:=h
   cases hd
   exact app_nil σ hm (fun _ _ h=>h) (fun _ h=>h) hu q1 q4 q6 hxl hone hv hb hmx h.go
 · rename_i p off n sz
   obtain⟨rfl,⟨⟨ty,cs⟩,hp,hty,hlen,hb,hmx,h2,⟨h⟩⟩⟩:=h
   obtain rfl:e=ty:=hty.symm
   simp only at hlen h h2
   have es1:∀b c,era σ p b=some c→σ b=some c:=fun b c hc=>by
     by_cases hbp:b=p
     · subst hbp;rw[qR] at hc;cases hc
     · rw[z6 _ hbp] at hc;exact hc
   have es2:∀b,σ (.b b)=none→era σ p (.b b)=none:=fun b hc=>by
     by_cases hbp:Nm.b b=p
     · subst hbp;exact qR _ _
     · rw[z6 _ hbp];exact hc
   cases hd with
   | vw0 p off sz a =>
     obtain⟨cur2,k1,k2,k3⟩:=hm.pl p _ hp
     simp only at k1 k2 k3
     simp only[Nat.zero_add,Nat.zero_mul,List.take_zero,List.nil_append,Nat.add_zero] at h h2 hb hmx hlen
     have hempty:m=0→xs=[]→(Builtin.append_ #[t,t] ty #[.slice (some a) 0 0,vx]).run P w=.ok (.slice (some a) 0 0) w→DoneV P (Builtin.append_ #[t,t] ty #[.slice (some a) 0 0,vx]) σ w K:=by
       rintro rfl rfl hr
       have ms:=wq hm hp k1 cur2 rfl (cs.take off) (by simp;omega) (fun i hi=>by
         simp at hi
         rw[zj _ _ _ _ (by omega)]
         exact k3 i (by omega))
       rw[setRow_self w p cur2 e (0,0) k1] at ms
       by_cases ho:off=0
       · subst ho
         have h:=h (.b p) (qR _ _)
         rw[vS] at h
         rw[List.take_zero] at ms
         exact⟨_,w,_,_,hr,h,.vw0 _ _ _ _,ms.1,ms.2⟩
       · have h2:=h2 ho
         rw[List.append_nil] at h2
         exact⟨_,w,_,_,hr,h2,.vw0 _ _ _ _,ms.1,ms.2⟩
     rcases hv with ⟨rfl,rfl,rfl⟩|⟨a0,bc,rfl,hcells⟩
     · exact hempty rfl rfl (xr t ty e jt hu q1 (some a) 0 0 (Nat.le_refl _))
     · obtain⟨news,n1,n2,n3,n4⟩:=hcells.vals hone
       by_cases hm0:m=0
       · subst hm0
         obtain rfl:xs=[]:=List.eq_nil_of_length_eq_zero (by simpa using hxl)
         obtain rfl:news=[]:=List.eq_nil_of_length_eq_zero (by simpa using n1)
         exact hempty rfl rfl (by simp[Builtin.append_,run_underlying hu,sizeOf,typeInfo,q1,Builtin.lenOf,Builtin.firstCells,loadCells,loadCellsFrom,storeCells])
       · have hr:=run_append_grow (P:=P) w t ty e jt zv hu q1 q4 a 0 0 [] (by simp) (fun i v hi=>by simp at hi) a0 m bc news (by rw[n1,hxl]) n2 (by omega) (by omega) (growslice_fits (by omega) (by simpa using hb))
         simp only[Nat.zero_add] at hr
         have hge:=grownCap_ge w m 0 e
         have hcm:=grownCap_le_maxLen w m 0 e (by unfold maxLen;omega)
         obtain⟨r,σ',g1,g2,g3,g4⟩:=new_row hm es1 es2 e m (grownCap w m 0 e) jt.size xs (news.toArray++Builtin.zeroCells zv.cells (grownCap w m 0 e-m)) hxl hge hcm (yR q6 (by rw[n1,hxl]) hge)
           (fun i hi=>by rw[app_getD (by omega)];exact n4 i hi) h
         exact⟨_,_,r,σ',by simpa using hr,g1,g2,g3,g4⟩
   | vwnil k sz =>
     have hcs:cs=[]:=hm.vl k _ hp
     subst hcs
     simp only[Nat.zero_add,List.drop_nil,List.take_nil,List.nil_append] at h hb hmx
     exact app_nil (era σ (.v k)) hm es1 es2 hu q1 q4 q6 hxl hone hv hb hmx h
   | vw p off n sz cap cur t' hcur hn hm' hs =>
     obtain⟨cur2,k1,k2,k3⟩:=hm.pl p _ hp
     simp only at k1 k2 k3
     have hce:cur2=cur∧e=t':=by rw[hcur] at k1;injection k1 with k1;injection k1 with k1 k4;exact⟨k1.symm,k4.symm⟩
     obtain⟨rfl,rfl⟩:=hce
     -- the row as it was,or written in place
     have inplace:∀(cur':Array Value),cur'.size=cur2.size→(∀i,i<(cs.take (off+n*jt.size)++xs).length→Rd σ w ((cs.take (off+n*jt.size)++xs).getD i .any) (cur'.getD i undef))→off+n*jt.size+xs.length≤cur2.size→n+m≤cap →
         (Builtin.append_ #[t,t] ty #[.slice (some ⟨p,off,none⟩) n cap,vx]).run P w=.ok (.slice (some ⟨p,off,none⟩) (n+m) cap) (w.setRow p cur')→DoneV P (Builtin.append_ #[t,t] ty #[.slice (some ⟨p,off,none⟩) n cap,vx]) σ w K:=by
       intro cur' hz hrd hfit hnm hr
       obtain⟨m1,m2⟩:=wq hm hp hcur cur' hz (cs.take (off+n*jt.size)++xs) (by simp;omega) hrd
       have hvw:Rd (upd σ (.b p) ⟨e,cs.take (off+n*jt.size)++xs⟩) (w.setRow p cur') (.vw (.b p) off (n+m) jt.size) (.slice (some ⟨p,off,none⟩) (n+m) cap) :=
         .vw p off _ _ cap cur' e (setRow_heap w p cur2 cur' e (0,0) hcur) hnm hm' (by omega)
       by_cases ho:off=0
       · subst ho
         have:=h (.b p) (qR _ _)
         rw[vS,List.drop_zero] at this
         rw[Nat.zero_add] at hvw m1 m2
         exact⟨_,_,_,_,hr,this,hvw,m1,m2⟩
       · exact⟨_,_,_,_,hr,h2 ho,hvw,m1,m2⟩
     have hold:∀i,i<off+n*jt.size→Rd σ w (cs.getD i .any) (cur2.getD i undef):=fun i hi=>k3 i (by omega)
     have htl:(cs.take (off+n*jt.size)).length=off+n*jt.size:=by simp;omega
     rcases hv with ⟨rfl,rfl,rfl⟩|⟨a0,bc,rfl,hcells⟩
     · refine inplace cur2 rfl (fun i hi=>?_) (by simp;omega) (by omega) ?_
       · rw[List.append_nil] at hi ⊢
         rw[htl] at hi
         rw[zj _ _ _ _ hi]
         exact hold i hi
       · rw[setRow_self w p cur2 e (0,0) hcur]
         exact xr t ty e jt hu q1 _ n cap hn
     · obtain⟨news,n1,n2,n3,n4⟩:=hcells.vals hone
       by_cases hroom:n+m≤cap
       · have hfit:off+n*jt.size+news.length≤cur2.size:=by
           rw[n1,hxl,Nat.add_assoc,←Nat.add_mul]
           exact Nat.le_trans (Nat.add_le_add_left (Nat.mul_le_mul_right _ hroom) _) hs
         refine inplace _ ?_ (fun i hi=>?_) (by rw[←n1];exact hfit) hroom (wG t ty e jt hu q1 p off n cap cur2 hcur a0 m bc news (by rw[n1,hxl]) n2 n3 hroom hfit)
         · simp;omega
         · rw[List.length_append,htl] at hi
           by_cases hlo:i<off+n*jt.size
           · have e1:(cs.take (off+n*jt.size)++xs).getD i .any=cs.getD i .any:=by
               simp only[List.getD_eq_getElem?_getD]
               rw[List.getElem?_append_left (by omega)]
               simp[hlo]
             have e2:(cur2.toList.take (off+n*jt.size)++news++cur2.toList.drop (off+n*jt.size+news.length)).toArray.getD i undef=cur2.getD i undef:=by
               simp only[Array.getD_eq_getD_getElem?,List.getElem?_toArray,List.append_assoc]
               rw[List.getElem?_append_left (by simp;omega)]
               simp[hlo]
             rw[e1,e2]
             exact hold i hlo
           · have e1:(cs.take (off+n*jt.size)++xs).getD i .any=xs.getD (i-(off+n*jt.size)) .any:=by
               simp only[List.getD_eq_getElem?_getD]
               rw[List.getElem?_append_right (by omega),htl]
             have e2:(cur2.toList.take (off+n*jt.size)++news++cur2.toList.drop (off+n*jt.size+news.length)).toArray.getD i undef=news.getD (i-(off+n*jt.size)) undef:=by
               simp only[Array.getD_eq_getD_getElem?,List.getElem?_toArray,List.append_assoc,List.getD_eq_getElem?_getD]
               rw[List.getElem?_append_right (by simp;omega),List.getElem?_append_left (by simp;omega)]
               congr 2;simp;omega
             rw[e1,e2]
             exact n4 _ (by omega)
       · obtain⟨f,hf⟩:=((hm.cells hp).sub off (n*jt.size)).fn
         simp only[Nat.zero_add] at hf
         have hol:((cs.drop off).take (n*jt.size)).length=n*jt.size:=by simp;omega
         have hr:=run_append_grow (P:=P) w t ty e jt zv hu q1 q4 ⟨p,off,none⟩ n cap ((List.range (n*jt.size)).map f) (by simp) (fun i v hi=>by
             have hi1:i<n*jt.size:=by
               rcases Nat.lt_or_ge i (n*jt.size) with h9|h9
               · exact h9
               · simp[List.getElem?_eq_none (show((List.range (n*jt.size)).map f).length≤i by simpa using h9)] at hi
             simp[hi1] at hi
             subst hi
             rw[qQ]
             exact(hf i (by omega)).1) a0 m bc news (by rw[n1,hxl]) n2 (by omega) (by omega) (growslice_fits (by omega) hb)
         have hge:=grownCap_ge w (n+m) cap e
         have hcm:=grownCap_le_maxLen w (n+m) cap e (by unfold maxLen;omega)
         have hcat:((List.range (n*jt.size)).map f).toArray++news.toArray=(((List.range (n*jt.size)).map f)++news).toArray:=by simp
         rw[hcat] at hr
         have hl2:(((List.range (n*jt.size)).map f)++news).length=(n+m)*jt.size:=by simp[n1,hxl,Nat.add_mul]
         obtain⟨r,σ',g1,g2,g3,g4⟩:=new_row hm es1 es2 e (n+m) (grownCap w (n+m) cap e) jt.size ((cs.drop off).take (n*jt.size)++xs) ((((List.range (n*jt.size)).map f)++news).toArray++Builtin.zeroCells zv.cells (grownCap w (n+m) cap e-(n+m)))
           (by rw[List.length_append,hol,hxl,Nat.add_mul]) hge hcm (yR q6 hl2 hge)
           (fun i hi=>by
             rw[List.length_append,hol] at hi
             rw[app_getD (by rw[hl2,Nat.add_mul];omega)]
             by_cases hlo:i<n*jt.size
             · have e1:((cs.drop off).take (n*jt.size)++xs).getD i .any=((cs.drop off).take (n*jt.size)).getD i .any:=by
                 simp only[List.getD_eq_getElem?_getD]
                 rw[List.getElem?_append_left (by omega)]
               have e2:(((List.range (n*jt.size)).map f)++news).getD i undef=f i:=by
                 simp only[List.getD_eq_getElem?_getD]
                 rw[List.getElem?_append_left (by simp;omega)]
                 simp[hlo]
               rw[e1,e2]
               exact(hf i (by omega)).2
             · have e1:((cs.drop off).take (n*jt.size)++xs).getD i .any=xs.getD (i-n*jt.size) .any:=by
                 simp only[List.getD_eq_getElem?_getD]
                 rw[List.getElem?_append_right (by omega),hol]
               have e2:(((List.range (n*jt.size)).map f)++news).getD i undef=news.getD (i-n*jt.size) undef:=by
                 simp only[List.getD_eq_getElem?_getD]
                 rw[List.getElem?_append_right (by simp;omega)]
                 simp
               rw[e1,e2]
               exact n4 _ (by omega)) h
         exact⟨_,_,r,σ',hr,g1,g2,g3,g4⟩
 · exact h.elim
theorem cells_set{p:Nat}{c:Pl}(hm:Mem σ w)(h1:σ (.b p)=some c){off:Nat}{cs:List AV}{us:List Value}(hl:us.length=cs.length)(hr:∀i,i<cs.length→Rd σ w (cs.getD i .any) (us.getD i undef))(hone:∀v∈us,v.oneCell'=true)(h3:off+cs.length≤c.cs.length) :
   ∃w',(storeCells ⟨p,off,none⟩ us 0).run P w=.ok () w'∧Mem (upd σ (.b p) ⟨c.ty,qg c.cs off cs⟩) w'∧Stp σ w (upd σ (.b p) ⟨c.ty,qg c.cs off cs⟩) w':=by
 obtain⟨cur,k1,k2,k3⟩:=hm.pl p c h1
 have hs:=run_storeCells_at (P:=P) p off c.ty us 0 cur w k1 (by omega) hone
 simp only[Nat.add_zero] at hs
 have hps:=wq hm h1 k1 (cur.toList.take off++us++cur.toList.drop (off+us.length)).toArray
   (by simp;omega) (qg c.cs off cs) (by simp[qg];omega) (fun j hj=>by
     simp[qg] at hj
     simp only[qg,hl]
     rcases Nat.lt_or_ge j off with hlo|hlo
     · have e1:(c.cs.take off++cs++c.cs.drop (off+cs.length)).getD j .any=c.cs.getD j .any:=by
         simp only[List.getD_eq_getElem?_getD,List.append_assoc]
         rw[List.getElem?_append_left (by simp;omega)]
         simp[hlo]
       have e2:(cur.toList.take off++us++cur.toList.drop (off+cs.length)).toArray.getD j undef=cur.getD j undef:=by
         simp only[Array.getD_eq_getD_getElem?,List.getElem?_toArray,List.append_assoc]
         rw[List.getElem?_append_left (by simp;omega)]
         simp[hlo]
       rw[e1,e2]
       exact k3 j (by omega)
     · rcases Nat.lt_or_ge j (off+cs.length) with hmid|hmid
       · have e1:(c.cs.take off++cs++c.cs.drop (off+cs.length)).getD j .any=cs.getD (j-off) .any:=by
           simp only[List.getD_eq_getElem?_getD,List.append_assoc]
           rw[List.getElem?_append_right (by simp;omega),List.getElem?_append_left (by simp;omega)]
           congr 2;simp;omega
         have e2:(cur.toList.take off++us++cur.toList.drop (off+cs.length)).toArray.getD j undef=us.getD (j-off) undef:=by
           simp only[Array.getD_eq_getD_getElem?,List.getElem?_toArray,List.append_assoc,List.getD_eq_getElem?_getD]
           rw[List.getElem?_append_right (by simp;omega),List.getElem?_append_left (by simp;omega)]
           congr 2;simp;omega
         rw[e1,e2]
         exact hr (j-off) (by omega)
       · have e1:(c.cs.take off++cs++c.cs.drop (off+cs.length)).getD j .any=c.cs.getD j .any:=by
           simp only[List.getD_eq_getElem?_getD,List.append_assoc]
           rw[List.getElem?_append_right (by simp;omega),List.getElem?_append_right (by simp;omega)]
           simp
           congr 2;omega
         have e2:(cur.toList.take off++us++cur.toList.drop (off+cs.length)).toArray.getD j undef=cur.getD j undef:=by
           simp only[Array.getD_eq_getD_getElem?,List.getElem?_toArray,List.append_assoc]
           rw[List.getElem?_append_right (by simp;omega),List.getElem?_append_right (by simp;omega)]
           simp
           congr 2;omega
         rw[e1,e2]
         exact k3 j (by omega))
 exact⟨_,hs,hps.1,hps.2⟩
def ACp(T:Tys)(t:TypeId)(d x:AV)(σ:q8)(K:AV→q8→Prop):Prop :=
 match T t with
 | some ⟨_,_,_,.slice e,_⟩ =>
   match T e with
   | some j=>∃m xs,Src σ j.size x m xs∧(match d with
     | .vw p off n sz|.ap p off n sz=>((xs.take (Nat.min m n*j.size)).all AV.one)=true∧sz=j.size∧AHas σ p fun c=>off+n*sz≤c.cs.length∧K (.int .i64 (Nat.min m n:Nat)) (upd σ p ⟨c.ty,qg c.cs off (xs.take (Nat.min m n*sz))⟩)
     | _=>False)
   | none=>False
 | _=>False
theorem wS(l:List AV)(off:Nat):qg l off []=l:=by simp[qg]
theorem upd_self(σ:q8){p:Nm}{c:Pl}(h:σ p=some c):upd σ p c=σ:=by
 funext x;unfold upd;split
 · rename_i hx;subst hx;exact h.symm
 · rfl
theorem ACp.sound{t t' ty:TypeId}{d x:AV}{vd vx:Value}{K:AV→q8→Prop}(hT:TOk P T)(hm:Mem σ w)(hd:Rd σ w d vd)(hx:Rd σ w x vx)(h:ACp T t d x σ K):DoneV P (Builtin.copy_ #[t,t'] ty #[vd,vx]) σ w K:=by
 unfold ACp at h
 split at h
 case h_2=>exact h.elim
 rename_i sz0 by_ ag e z0 ht
 have hu:=zb (hT t _ ht) rfl
 split at h
 case h_2=>exact h.elim
 rename_i j hj
 have hsz:=(hT e j hj).size
 obtain⟨m,xs,hsrc,h⟩:=h
 obtain⟨hxl,hv⟩:=hsrc.news hm hx
 have main:∀(p:Nat) (off n cap:Nat) (c:Pl),((xs.take (Nat.min m n*j.size)).all AV.one)=true→σ (.b p)=some c→off+n*j.size≤c.cs.length→K (.int .i64 (Nat.min m n:Nat)) (upd σ (.b p) ⟨c.ty,qg c.cs off (xs.take (Nat.min m n*j.size))⟩) →
     DoneV P (Builtin.copy_ #[t,t'] ty #[.slice (some ⟨p,off,none⟩) n cap,vx]) σ w K:=by
   intro p off n cap c hone hp hlen hk
   rcases hv with ⟨rfl,rfl,rfl⟩|⟨a0,bc,rfl,hcells⟩
   · simp only[List.take_nil,wS] at hk
     rw[upd_self σ hp] at hk
     refine DoneV.same hm (v:=goInt 0) ?_ (.int _ _) (by simpa using hk)
     simp[Builtin.copy_,run_underlying hu,Builtin.lenOf,Builtin.firstCells,hsz,storeCells]
   · obtain⟨news,n1,n2,n3,n4⟩:=hcells.valsK _ hone
     have hle:Nat.min m n*j.size≤xs.length:=by rw[hxl];exact Nat.mul_le_mul_right _ (Nat.min_le_left _ _)
     have hle2:Nat.min m n*j.size≤n*j.size:=Nat.mul_le_mul_right _ (Nat.min_le_right _ _)
     have hlx:(xs.take (Nat.min m n*j.size)).length=Nat.min m n*j.size:=by simp only[List.length_take];omega
     obtain⟨w',g1,g2,g3⟩:=cells_set (P:=P) hm hp (off:=off) (cs:=xs.take (Nat.min m n*j.size)) (us:=news) n1 n4 n3 (by omega)
     have hf:=run_firstCells_some (P:=P) (w:=w) j.size (Nat.min m n) a0 m bc news (by omega) n2
     refine⟨goInt (Nat.min m n:Nat),w',_,_,?_,hk,.int _ _,g2,g3⟩
     simp only[Builtin.copy_,Builtin.lenOf]
     simp[run_underlying hu,hsz,hf,g1]
 split at h
 · rename_i p off n sz
   obtain⟨hone,rfl,⟨c,hp,hlen,hk⟩⟩:=h
   cases hd with
   | vw p off n sz cap cur t' hcur hn hm' hs=>exact main p off n cap c hone hp hlen hk
   | vw0 p off sz a =>
     have hz:Nat.min m 0=0:=Nat.min_zero m
     rw[hz] at hk
     simp only[Nat.zero_mul,List.take_zero,wS] at hk
     rw[upd_self σ hp] at hk
     refine DoneV.same hm (v:=goInt 0) ?_ (.int _ _) (by simpa using hk)
     have hld:∀a:Addr,(loadCells a 0).run P w=.ok #[] w:=fun a=>by simpa using run_loadCells_list (P:=P) w a [] (by simp)
     have hst:(storeCells a [] 0).run P w=.ok () w:=rfl
     rcases hv with ⟨rfl,rfl,rfl⟩|⟨a0,bc,rfl,hcells⟩
     · simp[Builtin.copy_,run_underlying hu,Builtin.lenOf,Builtin.firstCells,hsz,hst]
     · simp[Builtin.copy_,run_underlying hu,Builtin.lenOf,Builtin.firstCells,hsz,hld,hst]
   | vwnil k sz =>
     have hcs:c.cs=[]:=hm.vl k _ hp
     have hz:Nat.min m 0=0:=Nat.min_zero m
     rw[hz] at hk
     simp only[Nat.zero_mul,List.take_zero,wS] at hk
     rw[upd_self σ hp] at hk
     refine DoneV.same hm (v:=goInt 0) ?_ (.int _ _) (by simpa using hk)
     have hld:∀a:Addr,(loadCells a 0).run P w=.ok #[] w:=fun a=>by simpa using run_loadCells_list (P:=P) w a [] (by simp)
     rcases hv with ⟨rfl,rfl,rfl⟩|⟨a0,bc,rfl,hcells⟩
     · simp[Builtin.copy_,run_underlying hu,Builtin.lenOf,Builtin.firstCells,hsz]
     · simp[Builtin.copy_,run_underlying hu,Builtin.lenOf,Builtin.firstCells,hsz,hld]
 · rename_i p off n sz
   obtain⟨hone,rfl,⟨c,hp,hlen,hk⟩⟩:=h
   cases hd with
   | ap p off n sz cap hn hm'=>exact main p off n cap c hone hp hlen hk
 · exact h.elim
end
open Go.RowKit
inductive Frz(σ:q8)(F:List Nm):AV→AV→Prop where
 | refl (a:AV):Frz σ F a a
 | any (a:AV):Frz σ F a .any
 | nils:Frz σ F .nils (.sl 0 [])
 | vw (p:Nm) (off n sz:Nat) (c:Pl) (cs:List AV) (hp:p∈F) (hc:σ p=some c) (hl:off+n*sz≤c.cs.length) (hn:cs.length=n*sz) (h0:0<sz) (h:∀i,i<n*sz→Frz σ F (c.cs.getD (off+i) .any) (cs.getD i .any)) :
     Frz σ F (.vw p off n sz) (.sl n cs)
 | ap (p:Nm) (off n sz:Nat) (c:Pl) (cs:List AV) (hp:p∈F) (hc:σ p=some c) (hl:off+n*sz≤c.cs.length) (hn:cs.length=n*sz) (h:∀i,i<n*sz→Frz σ F (c.cs.getD (off+i) .any) (cs.getD i .any)) :
     Frz σ F (.ap p off n sz) (.sl n cs)
 | vc (p:Nm) (off n cap sz:Nat) (a:AV) (h:Frz σ F (.vw p off n sz) a):Frz σ F (.vc p off n cap sz) a
 | agg (xs ys:List AV) (hl:xs.length=ys.length) (h:∀i,i<xs.length→Frz σ F (xs.getD i .any) (ys.getD i .any)):Frz σ F (.agg xs) (.agg ys)
 | tup (xs ys:List AV) (hl:xs.length=ys.length) (h:∀i,i<xs.length→Frz σ F (xs.getD i .any) (ys.getD i .any)):Frz σ F (.tup xs) (.tup ys)
 | sl (n:Nat) (xs ys:List AV) (hl:xs.length=ys.length) (h:∀i,i<xs.length→Frz σ F (xs.getD i .any) (ys.getD i .any)):Frz σ F (.sl n xs) (.sl n ys)
def eraN(σ:q8):List Nm→q8
 | []=>σ
 | p::l=>era (eraN σ l) p
theorem j8(σ:q8)(l:List Nm){p:Nm}(h:p∈l):eraN σ l p=none:=by
 induction l with
 | nil=>cases h
 | cons q l ih =>
   unfold eraN
   by_cases hq:p=q
   · subst hq;exact qR _ _
   · rw[z6 _ hq]
     exact ih (by simpa [hq] using h)
theorem xx(σ:q8)(l:List Nm):∀b c,eraN σ l b=some c→σ b=some c:=by
 induction l with
 | nil=>exact fun _ _ h=>h
 | cons q l ih =>
   intro b c h
   unfold eraN at h
   by_cases hq:b=q
   · subst hq;rw[qR] at h;cases h
   · rw[z6 _ hq] at h;exact ih b c h
theorem qF(σ:q8)(l:List Nm){b:Nm}(h:σ b=none):eraN σ l b=none:=by
 cases hc:eraN σ l b with
 | none=>rfl
 | some c=>rw[xx σ l b c hc] at h;cases h
section
variable {P:Program}{T:Tys}{G:Nat→AV}{σ:q8}{w:World}
theorem Frz.sound{F:List Nm}(hm:Mem σ w){a a':AV}(h:Frz σ F a a'):∀{v:Value},Rd σ w a v→Rd (eraN σ F) w a' v:=by
 have hst:Stp σ w (eraN σ F) w:=Stp.forget σ _ w fun b hb=>qF σ F hb
 induction h with
 | refl a=>exact fun h=>h.mono hst
 | any a=>exact fun _=>.any _
 | nils=>intro v h;cases h;exact .slnil
 | vw p off n sz c cs hp hc hl hn h0 _ ih =>
   intro v h
   cases h with
   | vw p off n sz cap cur t hcur hnc hm' hs =>
     have hcells:=(hm.cells hc).sub off (n*sz)
     rw[Nat.zero_add] at hcells
     obtain⟨f,hf⟩:=hcells.fn
     have hlen:((c.cs.drop off).take (n*sz)).length=n*sz:=by simp;omega
     refine .sl n cs p off cap f (fun _=>j8 σ F hp) hnc hm' (fun i hi=>(hf i (by omega)).1) (fun i hi=>?_)
     have:=(hf i (by omega)).2
     rw[zj _ _ _ _ (by omega),zl] at this
     exact ih i (by omega) this
   | vwnil k sz =>
     obtain rfl:cs=[]:=List.eq_nil_of_length_eq_zero (by simpa using hn)
     exact .slnil
   | vw0 p off sz a =>
     obtain rfl:cs=[]:=List.eq_nil_of_length_eq_zero (by simpa using hn)
     exact .sle a 0 (Nat.zero_le _)
 | ap p off n sz c cs hp hc hl hn _ ih =>
   intro v h
   cases h with
   | ap p off n sz cap hnc hm' =>
     have hcells:=(hm.cells hc).sub off (n*sz)
     rw[Nat.zero_add] at hcells
     obtain⟨f,hf⟩:=hcells.fn
     have hlen:((c.cs.drop off).take (n*sz)).length=n*sz:=by simp;omega
     refine .sl n cs p off cap f (fun _=>j8 σ F hp) hnc hm' (fun i hi=>(hf i (by omega)).1) (fun i hi=>?_)
     have:=(hf i (by omega)).2
     rw[zj _ _ _ _ (by omega),zl] at this
     exact ih i (by omega) this
 | vc p off n cap sz a _ ih =>
   intro v h
   cases h with
   | vc p off n sz cap cur t hcur hnc hm' hs=>exact ih (.vw p off n sz cap cur t hcur hnc hm' hs)
 | agg xs ys hl _ ih =>
   intro v h
   cases h with
   | agg xs vs hl2 hc=>exact .agg ys vs (by omega) fun i hi=>ih i (by omega) (hc i (by omega))
 | tup xs ys hl _ ih =>
   intro v h
   cases h with
   | tup xs vs hl2 hc=>exact .tup ys vs (by omega) fun i hi=>ih i (by omega) (hc i (by omega))
 | sl n xs ys hl _ ih =>
   intro v h
   cases h with
   | slnil =>
     obtain rfl:ys=[]:=List.eq_nil_of_length_eq_zero (by simpa using hl.symm)
     exact .slnil
   | sle a cap hm' =>
     obtain rfl:ys=[]:=List.eq_nil_of_length_eq_zero (by simpa using hl.symm)
     exact .sle a cap hm'
   | sl n xs b off cap f hb hn hm' hf hc =>
     refine .sl n ys b off cap f (fun h0=>qF σ F (hb (by omega))) hn hm' (fun i hi=>hf i (by omega)) (fun i hi=>ih i (by omega) (hc i (by omega)))
def GlobR(σ:q8)(w:World)(g:Nat)(x:AV):Prop:=match x with
 | .yl l r e G=>σ (.b l)=none∧w.heap[l]? = some (.loop r)∧(∀i,Rd σ w (e i) (r.tmps.getD i undef))∧∀k,Rd σ w (G k) (.pointer (some ⟨k,0,none⟩))
 | x=>Rd σ w x (.pointer (some ⟨g,0,none⟩))
def AV.isYl:AV→Bool|.yl .. => true|_=>false
theorem GlobR.of{σ:q8}{w:World}{g:Nat}{x:AV}(hx:x.isYl=false)(h:Rd σ w x (.pointer (some ⟨g,0,none⟩))):GlobR σ w g x:=by
 cases x<;>first|exact h|cases hx
def Glob(G:Nat→AV)(σ:q8)(w:World):Prop:=∀g,GlobR σ w g (G g)
theorem Glob.of{G:Nat→AV}{σ:q8}{w:World}(hG:∀g,(G g).isYl=false)(h:∀g,Rd σ w (G g) (.pointer (some ⟨g,0,none⟩))):Glob G σ w:=fun g=>.of (hG g) (h g)
theorem Glob.mono{σ':q8}{w':World}(h:Glob G σ w)(hs:Stp σ w σ' w'):Glob G σ' w':=fun g=>by
 have hg:=h g
 revert hg
 cases G g<;>first
   | exact fun k=>Rd.mono hs k
   | (rintro⟨h1,h2,h3,h4⟩
      obtain⟨k1,k2⟩:=hs.old _ (Array.getElem?_eq_some_iff.1 h2).1 h1
      exact⟨k1,k2.trans h2,fun i=>(h3 i).mono hs,fun k=>(h4 k).mono hs⟩)
def pQ(σ:q8):List (Nm×Pl)→q8
 | []=>σ
 | x::l=>upd (pQ σ l) x.1 x.2
def LP(P:Program)(G:Nat→AV)(f:FuncId)(args:List AV)(ps:List (Nm×Pl))(post:Nm→AV×List (Nm×Pl)):Prop :=
 (∃fn,P.funcs[f]? = some fn∧(fn.name == "runtime.NumGoroutine")=false∧fn.body.isNone=false) ∧
 (∀q,(∀x∈(post q).2,x.1=q∨x.1∈ps.map (·.1))∧(q∉ps.map (·.1)→((post q).2.map (·.1)).Nodup)) ∧
 ∀ (τ:q8) (w:World) (vs:Array Value),Mem τ w→Glob G τ w→(∀x∈ps,τ x.1=some x.2)→(ps.map (·.1)).Nodup→RdL τ w args vs →
   Calls P f vs w fun e w'=>∃v q,e=.returned v∧eraN τ (ps.map (·.1)) q=none∧((post q).2.map (·.1)).Nodup ∧
     Rd (pQ (eraN τ (ps.map (·.1))) (post q).2) w' (post q).1 v∧Mem (pQ (eraN τ (ps.map (·.1))) (post q).2) w'∧Stp τ w (pQ (eraN τ (ps.map (·.1))) (post q).2) w'
def LSpecN(P:Program)(G:Nat→AV)(f:FuncId)(args:List AV)(ps:List (Nm×Pl))(k:Nat)(post:List Nm→AV×List (Nm×Pl)):Prop :=
 (∃fn,P.funcs[f]? = some fn∧(fn.name == "runtime.NumGoroutine")=false∧fn.body.isNone=false) ∧
 (∀qs,qs.length=k→(∀x∈(post qs).2,x.1∈qs∨x.1∈ps.map (·.1))∧(qs.Nodup→(∀q∈qs,q∉ps.map (·.1))→((post qs).2.map (·.1)).Nodup)) ∧
 ∀ (τ:q8) (w:World) (vs:Array Value),Mem τ w→Glob G τ w→(∀x∈ps,τ x.1=some x.2)→(ps.map (·.1)).Nodup→RdL τ w args vs →
   Calls P f vs w fun e w'=>∃v qs,e=.returned v∧qs.length=k∧qs.Nodup∧(∀q∈qs,eraN τ (ps.map (·.1)) q=none)∧((post qs).2.map (·.1)).Nodup ∧
     Rd (pQ (eraN τ (ps.map (·.1))) (post qs).2) w' (post qs).1 v∧Mem (pQ (eraN τ (ps.map (·.1))) (post qs).2) w'∧Stp τ w (pQ (eraN τ (ps.map (·.1))) (post qs).2) w'
def LSpecF(ι:Type)(P:Program)(G:Nat→AV)(f:FuncId)(args:List AV)(ps:List (Nm×Pl))(k:Nat)(post:ι→List Nm→AV×List (Nm×Pl)):Prop :=
 (∃fn,P.funcs[f]? = some fn∧(fn.name == "runtime.NumGoroutine")=false∧fn.body.isNone=false) ∧
 (∀i qs,qs.length=k→(∀x∈(post i qs).2,x.1∈qs∨x.1∈ps.map (·.1))∧(qs.Nodup→(∀q∈qs,q∉ps.map (·.1))→((post i qs).2.map (·.1)).Nodup))∧(∃_:ι,True) ∧
 ∀ (τ:q8) (w:World) (vs:Array Value),Mem τ w→Glob G τ w→(∀x∈ps,τ x.1=some x.2)→(ps.map (·.1)).Nodup→RdL τ w args vs →
   Calls P f vs w fun e w'=>∃v i qs,e=.returned v∧qs.length=k∧qs.Nodup∧(∀q∈qs,eraN τ (ps.map (·.1)) q=none)∧((post i qs).2.map (·.1)).Nodup ∧
     Rd (pQ (eraN τ (ps.map (·.1))) (post i qs).2) w' (post i qs).1 v∧Mem (pQ (eraN τ (ps.map (·.1))) (post i qs).2) w'∧Stp τ w (pQ (eraN τ (ps.map (·.1))) (post i qs).2) w'
theorem LSpecN.toF{P:Program}{G:Nat→AV}{f:FuncId}{args:List AV}{ps:List (Nm×Pl)}{k:Nat}{post:List Nm→AV×List (Nm×Pl)}(h:LSpecN P G f args ps k post):LSpecF Unit P G f args ps k (fun _=>post) :=
 ⟨h.1,fun _=>h.2.1,⟨(),trivial⟩,fun τ w vs h1 h2 h3 h4 h5=>(h.2.2 τ w vs h1 h2 h3 h4 h5).mono fun e w' ⟨v,qs,hq⟩=>⟨v,(),qs,hq⟩⟩
def Flat(a:AV):Prop:=∀σ w σ' w' v,Rd σ w a v→Rd σ' w' a v
structure ACall(P:Program)(G:Nat→AV)(f:FuncId)(args:List AV)(σ:q8)(K:AV→q8→Prop):Prop where
 ex:(∃(F:List Nm) (args':List AV) (ps:List (Nm×Pl)) (post:Nm→AV×List (Nm×Pl)),
   args.length=args'.length∧(∀i,i<args.length→Frz σ F (args.getD i .any) (args'.getD i .any))∧LP P G f args' ps post∧(∀x∈ps,eraN σ F x.1=some x.2)∧(ps.map (·.1)).Nodup ∧
   ∀q,eraN (eraN σ F) (ps.map (·.1)) q=none→((post q).2.map (·.1)).Nodup→K (post q).1 (pQ (eraN (eraN σ F) (ps.map (·.1))) (post q).2)) ∨
   (∃(F:List Nm) (args':List AV) (r:AV),args.length=args'.length∧(∀i,i<args.length→Frz σ F (args.getD i .any) (args'.getD i .any))∧LP P G f args' [] (fun _=>(r,[]))∧Flat r∧K r σ) ∨
   ∃(F:List Nm) (args':List AV) (ps:List (Nm×Pl)) (k:Nat) (ι:Type) (post:ι→List Nm→AV×List (Nm×Pl)),
   args.length=args'.length∧(∀i,i<args.length→Frz σ F (args.getD i .any) (args'.getD i .any))∧LSpecF ι P G f args' ps k post∧(∀x∈ps,eraN σ F x.1=some x.2)∧(ps.map (·.1)).Nodup ∧
   ∀i qs,qs.length=k→qs.Nodup→(∀q∈qs,eraN (eraN σ F) (ps.map (·.1)) q=none)→((post i qs).2.map (·.1)).Nodup→K (post i qs).1 (pQ (eraN (eraN σ F) (ps.map (·.1))) (post i qs).2)
theorem ACall.sound{f:FuncId}{args:List AV}{vs:Array Value}{K:AV→q8→Prop}(hm:Mem σ w)(hg:Glob G σ w)(hr:RdL σ w args vs)(h:ACall P G f args σ K) :
   (∀w,(callFunc f vs).run P w=.ok (.enter f vs) w) ∧
   Calls P f vs w fun e w'=>∃v r σ',e=.returned v∧K r σ'∧Rd σ' w' r v∧Mem σ' w'∧Stp σ w σ' w':=by
 have go:∀(fn:Func),P.funcs[f]? = some fn→(fn.name == "runtime.NumGoroutine")=false→fn.body.isNone=false→∀w,(callFunc f vs).run P w=.ok (.enter f vs) w:=by
   intro fn hf hn hb w
   unfold callFunc
   rw[Sem.run_bind,show(program:Sem Program).run P w=.ok P w from rfl]
   simp only[Result.andThen_ok,hf,hn,hb,Bool.false_eq_true,if_false]
   rfl
 rcases h.ex with ⟨F,args',ps,post,h1,h2,⟨⟨fn,hf,hn,hb⟩,-,h3⟩,h4,hnd,h5⟩|⟨F,args',r,h1,h2,⟨⟨fn,hf,hn,hb⟩,-,h3⟩,hfl,hk⟩|⟨F,args',ps,k,ι,post,h1,h2,⟨⟨fn,hf,hn,hb⟩,-,-,h3⟩,h4,hnd,h5⟩
 rotate_left
 · refine⟨go fn hf hn hb,?_⟩
   have hst0:Stp (fun _=>none) w (fun _=>none) w:=Stp.refl _ _
   have hsE:Stp σ w (eraN σ F) w:=Stp.forget σ _ w fun b hb=>qF σ F hb
   have hsN:Stp σ w (fun _=>none) w:=Stp.forget σ _ w fun _ _=>rfl
   have hsF:Stp (eraN σ F) w (fun _=>none) w:=Stp.forget _ _ w fun _ _=>rfl
   refine(h3 (fun _=>none) w vs ⟨nofun,nofun,⟨0,fun _ _=>rfl⟩⟩ (hg.mono hsN) (fun _ h=>by cases h) List.nodup_nil ⟨h1▸hr.1,fun i hi=>((h2 i (by omega)).sound hm (hr.2 i (by omega))).mono hsF⟩).mono ?_
   rintro e w' ⟨v,q,rfl,g1,gn,g2,g3,g4⟩
   have g4:Stp (fun _=>none) w (fun _=>none) w':=g4
   have hold:∀b,b<w.heap.size→w'.heap[b]? = w.heap[b]? := fun b hb=>(g4.old b hb rfl).2
   have hst:Stp σ w σ w':=⟨g4.os,g4.tape,g4.output,g4.size,fun b hb hn=>⟨hn,hold b hb⟩,g4.row⟩
   refine⟨v,r,σ,rfl,hk,hfl _ _ _ _ _ g2,⟨fun p c hp=>?_,hm.vl,hm.fin⟩,hst⟩
   obtain⟨cur,k1,k2,k3⟩:=hm.pl p c hp
   exact⟨cur,by rw[hold p (hm.lt hp)];exact k1,k2,fun i hi=>(k3 i hi).mono hst⟩
 · have hst:Stp σ w (eraN σ F) w:=Stp.forget σ _ w fun b hb=>qF σ F hb
   have hm':Mem (eraN σ F) w:=hm.forget (xx σ F)
   refine⟨go fn hf hn hb,?_⟩
   refine(h3 (eraN σ F) w vs hm' (hg.mono hst) h4 hnd ⟨h1▸hr.1,fun i hi=>(h2 i (by omega)).sound hm (hr.2 i (by omega))⟩).mono ?_
   rintro e w' ⟨v,i,qs,rfl,gl,gi,g1,gn,g2,g3,g4⟩
   exact⟨v,_,_,rfl,h5 i qs gl gi g1 gn,g2,g3,hst.trans g4⟩
 have hst:Stp σ w (eraN σ F) w:=Stp.forget σ _ w fun b hb=>qF σ F hb
 have hm':Mem (eraN σ F) w:=hm.forget (xx σ F)
 refine⟨go fn hf hn hb,?_⟩
 refine(h3 (eraN σ F) w vs hm' (hg.mono hst) h4 hnd ⟨h1▸hr.1,fun i hi=>(h2 i (by omega)).sound hm (hr.2 i (by omega))⟩).mono ?_
 rintro e w' ⟨v,q,rfl,g1,gn,g2,g3,g4⟩
 exact⟨v,_,_,rfl,h5 q g1 gn,g2,g3,hst.trans g4⟩
theorem ACall.pure{f:FuncId}{args:List AV}{r:AV}{K:AV→q8→Prop}(hs:LP P G f args [] fun _=>(r,[]))(hk:K r σ):ACall P G f args σ K :=
 ⟨.inl ⟨[],args,[],_,rfl,fun _ _=>.refl _,hs,fun _ h=>(by cases h),List.nodup_nil,fun _ _ _=>hk⟩⟩
theorem ACall.own{f:FuncId}{args:List AV}{r:Nm→AV}{c:Nm→Pl}{K:AV→q8→Prop}(hs:LP P G f args [] fun q=>(r q,[(q,c q)]))(hk:jw σ fun q=>K (r q) (upd σ q (c q))):ACall P G f args σ K :=
 ⟨.inl ⟨[],args,[],_,rfl,fun _ _=>.refl _,hs,fun _ h=>(by cases h),List.nodup_nil,fun q hq _=>hk.go q hq⟩⟩
theorem ACall.upd{f:FuncId}{args:List AV}{r:AV}{p:Nm}{c d:Pl}{K:AV→q8→Prop}(hs:LP P G f args [(p,c)] fun _=>(r,[(p,d)]))(hp:σ p=some c)(hk:K r (Go.Proofs.YtndpmpnmkpaklaaGreatDoor.upd σ p d)):ACall P G f args σ K :=
 ⟨.inl ⟨[],args,[(p,c)],_,rfl,fun _ _=>.refl _,hs,fun x h=>(by simp at h;subst h;exact hp),(by simp),fun q hq _=>by
   show K r (Go.Proofs.YtndpmpnmkpaklaaGreatDoor.upd (era σ p) p d)
   rw[vS];exact hk⟩⟩
theorem ACall.take{f:FuncId}{args:List AV}{r:Nm→AV}{p:Nm}{c:Pl}{d:Nm→Pl}{K:AV→q8→Prop}(hs:LP P G f args [(p,c)] fun q=>(r q,[(q,d q)]))(hp:σ p=some c)(hk:jw (era σ p) fun q=>K (r q) (Go.Proofs.YtndpmpnmkpaklaaGreatDoor.upd (era σ p) q (d q))):ACall P G f args σ K :=
 ⟨.inl ⟨[],args,[(p,c)],_,rfl,fun _ _=>.refl _,hs,fun x h=>(by simp at h;subst h;exact hp),(by simp),fun q hq _=>hk.go q hq⟩⟩
theorem ACall.frz{f:FuncId}{args args':List AV}{r:AV}{K:AV→q8→Prop}(F:List Nm)(h1:args.length=args'.length)(h2:∀i,i<args.length→Frz σ F (args.getD i .any) (args'.getD i .any))(hs:LP P G f args' [] fun _=>(r,[]))(hk:K r (eraN σ F)):ACall P G f args σ K :=
 ⟨.inl ⟨F,args',[],_,h1,h2,hs,fun _ h=>(by cases h),List.nodup_nil,fun _ _ _=>hk⟩⟩
def ev(G:Nat→AV)(e:Env):Operand→AV
 | .tmp t=>e t
 | .const v=>ofV v
 | .global g=>(match G g with|.yl .. => .any|x=>x)
 | .func f=>.lit (.func (.func f) #[] #[])
theorem ev_sound{e:Env}{a:Act}(he:∀x,Rd σ w (e x) (a.tmps.getD x undef))(hg:Glob G σ w)(x:Operand):Rd σ w (ev G e x) (a.eval x):=by
 cases x with
 | tmp t=>exact he t
 | const v=>exact Rd.ofV v
 | global g =>
   have h:=hg g
   show Rd σ w (match G g with|.yl .. => .any|x=>x) _
   revert h
   cases G g<;>first|exact fun k=>k|exact fun _=>.any _
 | func f=>exact .lit _
theorem AB.byT{t:Bool}{A B:Prop}(h:t=true)(a:A):AB t A B:=⟨fun _=>a,fun e=>absurd (h.symm.trans e) (by decide)⟩
theorem AB.byF{t:Bool}{A B:Prop}(h:t=false)(b:B):AB t A B:=⟨fun e=>absurd (h.symm.trans e) (by decide),fun _=>b⟩
theorem AB.byN{t:Bool}{A B:Prop}(h:AB t B A):AB (!t) A B:=⟨fun e=>h.no (by simpa using e),fun e=>h.yes (by simpa using e)⟩
def AMin(mx:Bool)(x y:AV)(K:AV→Prop):Prop :=
 match x,y with
 | .int k a,.int _ b=>K (.int k (if mx then(if a<b then b else a) else(if b<a then b else a)))
 | _,_=>False
def opA(P:Program)(T:Tys)(G:Nat→AV)(op:Op)(ρ:Operand→AV)(σ:q8)(K:AV→q8→Prop):Prop :=
 match op with
 | .move x|.assign x=>K (ρ x) σ
 | .pick c a b=>(match ρ c with|.bool t=>AB t (K (ρ a) σ) (K (ρ b) σ)|_=>False)
 | .alloc t=>AAlloc T t σ K
 | .box t x=>ABox t (ρ x) σ K
 | .build t ps=>ABd T t (ps.toList.map fun x=>(x.1,ρ x.2)) fun v=>K v σ
 | .buildSlice t n ps=>n≤16777216∧ABs T t n (ps.toList.map fun x=>(x.1,ρ x.2)) σ K
 | .load t x=>ALd T t (ρ x) σ fun v=>K v σ
 | .store t a x=>ASt T t (ρ a) (ρ x) σ fun σ'=>K (.tup []) σ'
 | .nilCheck x=>(match ρ x with|.ptr p o=>K (.ptr p o) σ|.ip cs=>K (.ip cs) σ|_=>False)
 | .binOp op t x y _=>ABin P T op t (ρ x) (ρ y) fun v=>K v σ
 | .unOp op _ x=>AUn op (ρ x) fun v=>K v σ
 | .convert s d x=>ACv T s d (ρ x) fun v=>K v σ
 | .makeSlice t l c=>(match vu l c with|true=>AMkC T t (ρ l) (ρ c) σ K|false=>AMk T t (ρ l) (ρ c) σ K)
 | .slice t x lo hi none=>ASl T t (ρ x) (lo.map ρ) (hi.map ρ) fun v=>K v σ
 | .slice t x lo (some hi) (some mx)=>ASl3 T t (ρ x) (lo.map ρ) (ρ hi) (ρ mx) fun v=>K v σ
 | .fieldAddr t x f=>AFa T t (ρ x) f fun v=>K v σ
 | .field t x f=>AFd T t (ρ x) f fun v=>K v σ
 | .indexAddr t x i=>AIx T t (ρ x) (ρ i) fun v=>K v σ
 | .index t x i=>AEl T t (ρ x) (ρ i) fun v=>K v σ
 | .extract x i=>(match ρ x with|.tup vs=>i<vs.length∧K (vs.getD i .any) σ|_=>False)
 | .lookup t m x ok=>ALk T t (ρ m) (ρ x) ok fun v=>K v σ
 | .makeFunc fn first captured=>K (.clo fn (first.toList.map ρ) (captured.toList.map ρ)) σ
 | .call c =>
   (match c.callee with
   | .value (.func f)=>ACall P G f (c.args.toList.map ρ) σ K
   | .value x=>(match ρ x with
     | .clo (.func f) fs cs=>ACall P G f (fs++c.args.toList.map ρ++cs) σ K
     | _=>False)
   | .builtin .len=>(match c.argTypes.toList,c.args.toList with
     | [t],[x]=>(match T t with|some ⟨_,_,_,.slice _,_⟩=>ALen (ρ x) fun v=>K v σ|_=>False)
     | _,_=>False)
   | .builtin .cap=>(match c.argTypes.toList,c.args.toList with
     | [t],[x]=>(match T t with|some ⟨_,_,_,.slice _,_⟩=>ACap (ρ x) fun v=>K v σ|_=>False)
     | _,_=>False)
   | .builtin .append=>(match c.argTypes.toList,c.args.toList with
     | [t,t'],[d,x]=>(match ρ d,ρ x with|.nils,.int _ n=>AGz T t t' n σ K|.vc p off n cap sz,.int _ k=>AGc T t t' p off n cap sz k σ K|d,x=>t=t'∧AAp T t (devc d) x σ K)
     | _,_=>False)
   | .builtin .copy=>(match c.argTypes.toList,c.args.toList with
     | [t,_],[d,x]=>ACp T t (ρ d) (ρ x) σ K
     | _,_=>False)
   | .builtin .min=>(match c.args.toList with|[x,y]=>AMin false (ρ x) (ρ y) fun v=>K v σ|_=>False)
   | .builtin .max=>(match c.args.toList with|[x,y]=>AMin true (ρ x) (ρ y) fun v=>K v σ|_=>False)
   | _=>False)
 | _=>False
end
open Go.RowKit
section
variable {P:Program}{T:Tys}{G:Nat→AV}{σ:q8}{w:World}
def FW(ro:Option Nat):Fence:={ Fence.wide with round:=ro }
theorem callsIn_FW{ro:Option Nat}{n:Nat}{f:FuncId}{vs:Array Value}{R:Ending→World→Prop}:CallsIn (FW ro) n P f vs w R↔Calls P f vs w R:=callsIn_wide (n:=n)
theorem yj{o:Oper}{ρ:Operand→Value}{x:Next}{w':World}(ro:Option Nat)(h:(execOp ρ o).run P w=.ok x w')(hx:∀d,x≠.defer d):(o.semAt ro ρ).run P w=.ok x w':=by
 by_cases hd:∃c,o.op=.defer c
 · obtain⟨c,hc⟩:=hd
   exfalso
   unfold execOp at h
   rw[hc] at h
   simp only[Sem.run_bind] at h
   generalize (resolve ρ c o.type).run P w=r at h
   cases r with
   | ok d w2=>simp[Result.andThen,Sem.run_pure] at h;exact hx _ h.1.symm
   | _=>simp[Result.andThen] at h
 · rw[Oper.semAt_eq ro ρ o fun c hc=>hd ⟨c,hc⟩];exact h
theorem qo{ro:Option Nat}{o:Oper}{a:Act}{next:Act→World→Prop}{Q:Exit→Act→World→Prop}{s:Sem Value}{K:AV→q8→Prop}(he:execOp a.eval o=(do pure (.value (←s))))(hd:DoneV P s σ w K)
   (hn:∀v w' r σ',K r σ'→Rd σ' w' r v→Mem σ' w'→Stp σ w σ' w'→next (a.put o.dst v) w'):o.wpIn (FW ro) 0 P a w next Q:=by
 obtain⟨v,w',r,σ',h1,h2,h3,h4,h5⟩:=hd
 unfold Oper.wpIn
 refine⟨fun _ _=>trivial,?_⟩
 rw[yj (x:=.value v) (w':=w') _ (by rw[he,Sem.run_bind,h1];rfl) nofun]
 exact hn v w' r σ' h2 h3 h4 h5
theorem done_call{ro:Option Nat}{o:Oper}{a:Act}{next:Act→World→Prop}{Q:Exit→Act→World→Prop}{f:FuncId}{vs:Array Value}{K:AV→q8→Prop}(he:(execOp a.eval o).run P w=.ok (.enter f vs) w)
   (hd:Calls P f vs w fun e w'=>∃v r σ',e=.returned v∧K r σ'∧Rd σ' w' r v∧Mem σ' w'∧Stp σ w σ' w')
   (hn:∀v w' r σ',K r σ'→Rd σ' w' r v→Mem σ' w'→Stp σ w σ' w'→next (a.put o.dst v) w'):o.wpIn (FW ro) 0 P a w next Q:=by
 unfold Oper.wpIn
 refine⟨fun _ _=>trivial,?_⟩
 rw[yj (x:=.enter f vs) (w':=w) _ he nofun]
 refine⟨fun h=>(by cases h),callsIn_FW.2 (hd.mono ?_)⟩
 rintro e w' ⟨v,r,σ',rfl,h1,h2,h3,h4⟩
 exact hn v w' r σ' h1 h2 h3 h4
theorem RdL.map{ρ:Operand→AV}{ρ':Operand→Value}(hr:∀x,Rd σ w (ρ x) (ρ' x))(xs:Array Operand):RdL σ w (xs.toList.map ρ) (xs.map ρ'):=by
 refine⟨by simp,fun i hi=>?_⟩
 simp at hi
 have e1:(xs.toList.map ρ).getD i .any=ρ xs[i]:=by simp[List.getD_eq_getElem?_getD,hi]
 have e2:(xs.map ρ').getD i undef=ρ' xs[i]:=by simp[hi]
 rw[e1,e2]
 exact hr _
theorem RdL.app{xs ys:List AV}{vs us:Array Value}(h1:RdL σ w xs vs)(h2:RdL σ w ys us):RdL σ w (xs++ys) (vs++us):=by
 refine⟨by simp[h1.1,h2.1],fun i hi=>?_⟩
 simp at hi
 by_cases hlt:i<xs.length
 · have e1:(xs++ys).getD i .any=xs.getD i .any:=by simp only[List.getD_eq_getElem?_getD];rw[List.getElem?_append_left hlt]
   have e2:(vs++us).getD i undef=vs.getD i undef:=by simp only[Array.getD_eq_getD_getElem?];rw[Array.getElem?_append_left (by rw[←h1.1];exact hlt)]
   rw[e1,e2];exact h1.2 i hlt
 · have e1:(xs++ys).getD i .any=ys.getD (i-xs.length) .any:=by simp only[List.getD_eq_getElem?_getD];rw[List.getElem?_append_right (by omega)]
   have e2:(vs++us).getD i undef=us.getD (i-xs.length) undef:=by simp only[Array.getD_eq_getD_getElem?];rw[Array.getElem?_append_right (by rw[←h1.1];omega),h1.1]
   rw[e1,e2];exact h2.2 _ (by omega)
theorem pairs_fst{ρ:Operand→AV}{ρ':Operand→Value}(ps:Array (Nat×Operand)):(ps.toList.map fun x=>(x.1,ρ x.2)).map (·.1)=(ps.map fun(i,x)=>(i,ρ' x)).toList.map (·.1):=by simp
theorem pairs_rd{ρ:Operand→AV}{ρ':Operand→Value}(hr:∀x,Rd σ w (ρ x) (ρ' x))(ps:Array (Nat×Operand)):∀i,i<(ps.toList.map fun x=>(x.1,ρ x.2)).length →
   Rd σ w ((ps.toList.map fun x=>(x.1,ρ x.2)).getD i (0,.any)).2 ((ps.map fun(i,x)=>(i,ρ' x)).toList.getD i (0,undef)).2:=by
 intro i hi
 simp at hi
 simp[List.getD_eq_getElem?_getD,hi]
 exact hr _
theorem RdO.map{ρ:Operand→AV}{ρ':Operand→Value}(hr:∀x,Rd σ w (ρ x) (ρ' x))(x:Option Operand):RdO σ w (x.map ρ) (x.map ρ'):=by
 cases x with
 | none=>trivial
 | some x=>exact hr x
theorem opA.sound{ro:Option Nat}(hT:TOk P T){o:Oper}{ρ:Operand→AV}{a:Act}{next:Act→World→Prop}{Q:Exit→Act→World→Prop}{K:AV→q8→Prop}(hr:∀x,Rd σ w (ρ x) (a.eval x))(hm:Mem σ w)(hg:Glob G σ w)
   (h:opA P T G o.op ρ σ K) (hn:∀v w' r σ',K r σ'→Rd σ' w' r v→Mem σ' w'→Stp σ w σ' w'→next (a.put o.dst v) w'):o.wpIn (FW ro) 0 P a w next Q:=by
 obtain⟨dst,op,type,pos,after,guard⟩:=o
 simp only at h hn
 have val:∀{v:Value} {r:AV},execOp a.eval ⟨dst,op,type,pos,after,guard⟩=pure (.value v)→Rd σ w r v→K r σ→Oper.wpIn (FW ro) 0 P ⟨dst,op,type,pos,after,guard⟩ a w next Q:=by
   intro v r he hr hk
   unfold Oper.wpIn
   refine⟨fun _ _=>trivial,?_⟩
   rw[yj (x:=.value v) (w':=w) _ (by rw[he];rfl) nofun]
   exact hn v w r σ hk hr hm (Stp.refl σ w)
 cases op<;>simp only[opA] at h
 case move x=>exact val rfl (hr x) h
 case assign x=>exact val rfl (hr x) h
 case pick c x y =>
   split at h
   case h_2=>exact h.elim
   rename_i t hc
   have h1:=hr c
   rw[hc] at h1
   generalize hcv:a.eval c=cv at h1
   cases h1
   cases t with
   | true=>exact val (by simp[execOp,hcv,asBool]) (hr x) (h.yes rfl)
   | false=>exact val (by simp[execOp,hcv,asBool]) (hr y) (h.no rfl)
 case alloc t=>exact qo rfl (AAlloc.sound hT hm h) hn
 case box t x=>exact qo rfl (ABox.sound hm (hr x) h) hn
 case build t ps=>exact qo rfl (ABd.sound hT hm (pairs_fst ps) (pairs_rd hr ps) h) hn
 case buildSlice t n ps=>exact qo rfl (ABs.sound hT hm (pairs_fst ps) (pairs_rd hr ps) (by have:=h.1;unfold maxLen;omega) h.2) hn
 case load t x=>exact qo rfl (ALd.sound hT hm (hr x) h) hn
 case store t x y =>
   obtain⟨w',σ',h1,h2,h3,h4⟩:=ASt.sound (P:=P) hT hm (hr x) (hr y) h
   unfold Oper.wpIn
   refine⟨fun _ _=>trivial,?_⟩
   have he:(execOp a.eval ⟨dst,.store t x y,type,pos,after,guard⟩).run P w=.ok .skip w':=by
     simp only[execOp]
     rw[Sem.run_bind,h1]
     rfl
   rw[yj (x:=.skip) (w':=w') _ he nofun]
   exact hn undef w' (.tup []) σ' h2 (.tup [] #[] rfl (by simp)) h3 h4
 case nilCheck x =>
   have h1:=hr x
   generalize hcv:a.eval x=cv at h1
   split at h
   · rename_i p off hx
     rw[hx] at h1
     cases h1
     exact val (v:=.pointer (some ⟨_,off,none⟩)) (by simp[execOp,hcv]) (.ptr _ _) h
   · rename_i cs hx
     rw[hx] at h1
     cases h1
     case ip b off f hb hf hc =>
     exact val (v:=.pointer (some ⟨b,off,none⟩)) (by simp[execOp,hcv]) (.ip cs b off f hb hf hc) h
   · exact h.elim
 case binOp op t x y yt=>exact qo rfl (ABin.sound hT hm (hr x) (hr y) x y h) hn
 case unOp op t x=>exact qo rfl (AUn.sound hm (hr x) h) hn
 case convert s d x=>exact qo rfl (ACv.sound hT hm (hr x) h) hn
 case makeFunc fn first captured =>
   have h1:=RdL.map hr first
   have h2:=RdL.map hr captured
   exact val (v:=.func fn (first.map a.eval) (captured.map a.eval)) (by simp[execOp,Instr.makeFunc]) (.clo _ _ _ _ _ h1.1 h2.1 h1.2 h2.2) h
 case makeSlice t l c =>
   replace h:(match vu l c with|true=>AMkC T t (ρ l) (ρ c) σ K|false=>AMk T t (ρ l) (ρ c) σ K):=h
   split at h
   · exact qo rfl (AMkC.sound hT hm (hr l) (hr c) h) hn
   · exact qo rfl (AMk.sound hT hm (hr l) (hr c) h) hn
 case slice t x lo hi mx =>
   cases mx with
   | none=>exact qo rfl (ASl.sound hT hm (hr x) (RdO.map hr lo) (RdO.map hr hi) h) hn
   | some m =>
     cases hi with
     | none=>exact h.elim
     | some hi=>exact qo rfl (ASl3.sound hT hm (hr x) (RdO.map hr lo) (hr hi) (hr m) h) hn
 case fieldAddr t x f=>exact qo rfl (AFa.sound hT hm (hr x) h) hn
 case field t x f=>exact qo rfl (AFd.sound hT hm (hr x) h) hn
 case indexAddr t x i=>exact qo rfl (AIx.sound hT hm (hr x) (hr i) h) hn
 case index t x i=>exact qo rfl (AEl.sound hT hm (hr x) (hr i) h) hn
 case lookup t m x ok=>exact qo rfl (ALk.sound hT hm (hr m) (hr x) h) hn
 case extract x i =>
   split at h
   case h_2=>exact h.elim
   rename_i vs hx
   have h1:=hr x
   rw[hx] at h1
   generalize hcv:a.eval x=cv at h1
   cases h1 with
   | tup vs us hl hc =>
     have hlt:i<us.size:=by rw[←hl];exact h.1
     have hv:=hc i h.1
     exact val (v:=us.getD i undef) (by simp[execOp,hcv,Instr.extract,hlt]) hv h.2
 case call c =>
   obtain⟨callee,args,argTypes⟩:=c
   simp only at h
   split at h
   · rename_i f
     have hal:=RdL.map hr args
     obtain⟨k1,k2⟩:=ACall.sound hm hg hal h
     refine done_call ?_ k2 hn
     have hfe:a.eval (.func f)=.func (.func f) #[] #[]:=rfl
     simp only[execOp,resolve,hfe,Deferred.ofValue,Sem.run_bind,Sem.run_pure,Result.andThen_ok,invoke,Array.append_empty,Array.empty_append]
     exact k1 w
   · rename_i x hx
     split at h
     case h_2=>exact h.elim
     rename_i f fs cs hc
     have h1:=hr x
     rw[hc] at h1
     generalize hcv:a.eval x=cv at h1
     cases h1 with
     | clo fn fs cs vs us l1 l2 c1 c2 =>
       have hal:RdL σ w (fs++args.toList.map ρ++cs) (vs++args.map a.eval++us):=((show RdL σ w fs vs from⟨l1,c1⟩).app (RdL.map hr args)).app ⟨l2,c2⟩
       obtain⟨k1,k2⟩:=ACall.sound hm hg hal h
       refine done_call ?_ k2 hn
       simp only[execOp,resolve,hcv,Deferred.ofValue,Sem.run_bind,Sem.run_pure,Result.andThen_ok,invoke]
       exact k1 w
   · split at h
     case h_2=>exact h.elim
     rename_i t x ht hx
     split at h
     case h_2=>exact h.elim
     rename_i sz by_ ag e z hi
     have hu:=zb (hT t _ hi) rfl
     refine qo ?_ (ALen.sound (ty:=type) hu hm (hr x) h) hn
     have e1:argTypes=#[t]:=by apply Array.ext';simpa using ht
     have e2:args=#[x]:=by apply Array.ext';simpa using hx
     subst e1 e2
     simp[execOp,resolve,invoke,builtin]
   · split at h
     case h_2=>exact h.elim
     rename_i t x ht hx
     split at h
     case h_2=>exact h.elim
     rename_i sz by_ ag e z hi
     have hu:=zb (hT t _ hi) rfl
     refine qo ?_ (ACap.sound (ty:=type) hu hm (hr x) h) hn
     have e1:argTypes=#[t]:=by apply Array.ext';simpa using ht
     have e2:args=#[x]:=by apply Array.ext';simpa using hx
     subst e1 e2
     simp[execOp,resolve,invoke,builtin]
   · split at h
     case h_2=>exact h.elim
     rename_i t t' d x ht hx
     have e1:argTypes=#[t,t']:=by apply Array.ext';simpa using ht
     have e2:args=#[d,x]:=by apply Array.ext';simpa using hx
     subst e1 e2
     split at h
     · rename_i k n hd hx'
       have g1:=hr d
       have g2:=hr x
       rw[hd] at g1
       rw[hx'] at g2
       generalize hdv:a.eval d=dv at g1
       generalize hxv:a.eval x=xv at g2
       cases g1;cases g2
       refine qo ?_ (AGz.sound (ty:=type) (k:=k) hT hm h) hn
       simp[execOp,resolve,invoke,builtin,hdv,hxv]
     · rename_i p off n cap sz k m hd hx'
       have g1:=hr d
       have g2:=hr x
       rw[hd] at g1
       rw[hx'] at g2
       generalize hdv:a.eval d=dv at g1
       generalize hxv:a.eval x=xv at g2
       cases g2
       refine qo ?_ (AGc.sound (ty:=type) (k:=k) hT hm g1 h) hn
       simp[execOp,resolve,invoke,builtin,hdv,hxv]
     · obtain⟨rfl,h⟩:=h
       refine qo ?_ (AAp.sound (ty:=type) hT hm (hr d).devc (hr x) h) hn
       simp[execOp,resolve,invoke,builtin]
   · split at h
     case h_2=>exact h.elim
     rename_i t t' d x ht hx
     refine qo ?_ (ACp.sound (t':=t') (ty:=type) hT hm (hr d) (hr x) h) hn
     have e1:argTypes=#[t,t']:=by apply Array.ext';simpa using ht
     have e2:args=#[d,x]:=by apply Array.ext';simpa using hx
     subst e1 e2
     simp[execOp,resolve,invoke,builtin]
   · split at h
     case h_2=>exact h.elim
     rename_i x y hx
     have e2:args=#[x,y]:=by apply Array.ext';simpa using hx
     subst e2
     unfold AMin at h
     split at h
     case h_2=>exact h.elim
     rename_i k p k' q h1 h2
     have r1:=hr x
     have r2:=hr y
     rw[h1] at r1
     rw[h2] at r2
     have g1:=r1.int_eq
     have g2:=r2.int_eq
     refine qo (s:=Builtin.min_ argTypes type #[a.eval x,a.eval y]) (by simp[execOp,resolve,invoke,builtin]) (DoneV.same hm (v:=.int k (if q<p then q else p)) ?_ (.int _ _) (by simpa using h)) hn
     simp[Builtin.min_,g1,g2,Builtin.min2]
   · split at h
     case h_2=>exact h.elim
     rename_i x y hx
     have e2:args=#[x,y]:=by apply Array.ext';simpa using hx
     subst e2
     unfold AMin at h
     split at h
     case h_2=>exact h.elim
     rename_i k p k' q h1 h2
     have r1:=hr x
     have r2:=hr y
     rw[h1] at r1
     rw[h2] at r2
     have g1:=r1.int_eq
     have g2:=r2.int_eq
     refine qo (s:=Builtin.max_ argTypes type #[a.eval x,a.eval y]) (by simp[execOp,resolve,invoke,builtin]) (DoneV.same hm (v:=.int k (if p<q then q else p)) ?_ (.int _ _) (by simpa using h)) hn
     simp[Builtin.max_,g1,g2,Builtin.max2]
   · exact h.elim
end
open Go.RowKit
def Dfr(σ:q8)(w0 w:World)(ds:List Deferred):Prop :=
 ∃Ds:List Nat,ds=Ds.map (fun D=>{ target:=.collected D,args:=#[] })∧Ds.Nodup∧∀D∈Ds,w0.heap.size≤D∧σ (.b D)=none∧w.heap[D]? = some (.deferred (some []))
theorem Dfr.nil{σ:q8}{w0 w:World}:Dfr σ w0 w []:=⟨[],rfl,List.nodup_nil,nofun⟩
theorem Dfr.mono{σ σ':q8}{w0 w w':World}{ds:List Deferred}(h:Dfr σ w0 w ds)(hs:Stp σ w σ' w'):Dfr σ' w0 w' ds:=by
 obtain⟨Ds,h1,h2,h3⟩:=h
 refine⟨Ds,h1,h2,fun D hD=>?_⟩
 obtain⟨k1,k2,k3⟩:=h3 D hD
 obtain⟨g1,g2⟩:=hs.old D (Array.getElem?_eq_some_iff.1 k3).1 k2
 exact⟨k1,g1,g2.trans k3⟩
structure Rel(G:Nat→AV)(N:Nat)(e:Env)(σ:q8)(σ0:q8)(w0:World)(a:Act)(w:World):Prop where
 n:a.tmps.size=N
 d:Dfr σ w0 w a.defers
 env:∀x,Rd σ w (e x) (a.tmps.getD x undef)
 mem:Mem σ w
 st:Stp σ0 w0 σ w
 glob:Glob G σ w
def put(e:Env)(d:Nat)(v:AV):Env:=fun x=>match Nat.beq x d with|true=>v|false=>e x
def force0(v:AV)(K:AV→Prop):Prop :=
 match v with
 | .any=>K .any
 | .int k n=>K (.int k n)
 | .bool b=>K (.bool b)
 | .str s=>K (.str s)
 | .agg cs=>K (.agg cs)
 | .tup vs=>K (.tup vs)
 | .sl n cs=>K (.sl n cs)
 | .nils=>K .nils
 | .vw p off n sz=>K (.vw p off n sz)
 | .ptr p off=>K (.ptr p off)
 | .ip cs=>K (.ip cs)
 | .ap p off n sz=>K (.ap p off n sz)
 | .clo f xs ys=>K (.clo f xs ys)
 | .vc p off n cap sz=>K (.vc p off n cap sz)
 | .mp f=>K (.mp f)
 | .yl l r e G=>K (.yl l r e G)
 | .lit v=>K (.lit v)
def yC:List AV→(List AV→Prop)→Prop
 | [],K=>K []
 | x::r,K=>force0 x fun x=>yC r fun r=>K (x::r)
def force1(v:AV)(K:AV→Prop):Prop :=
 match v with
 | .agg cs=>yC cs fun cs=>K (.agg cs)
 | v=>force0 v K
def wB:List AV→(List AV→Prop)→Prop
 | [],K=>K []
 | x::r,K=>force1 x fun x=>wB r fun r=>K (x::r)
def force(v:AV)(K:AV→Prop):Prop :=
 match v with
 | .tup cs=>wB cs fun cs=>K (.tup cs)
 | v=>force1 v K
theorem vj(v:AV)(K:AV→Prop):force0 v K=K v:=by cases v<;>rfl
theorem ki:∀(l:List AV) (K:List AV→Prop),yC l K=K l
 | [],_=>rfl
 | x::r,K=>by simp only[yC,vj,ki r]
theorem vh(v:AV)(K:AV→Prop):force1 v K=K v:=by cases v<;>first|rfl|exact ki _ _
theorem xI:∀(l:List AV) (K:List AV→Prop),wB l K=K l
 | [],_=>rfl
 | x::r,K=>by simp only[wB,vh,xI r]
theorem zx(v:AV)(K:AV→Prop):force v K=K v:=by
 cases v with
 | tup cs=>exact xI _ _
 | agg cs=>exact ki cs fun cs=>K (.agg cs)
 | _=>rfl
def zi(N:Nat)(e:Env)(dst:Option Tmp)(v:AV)(K:Env→Prop):Prop :=
 match dst with
 | none=>K e
 | some d=>match Nat.ble (d+1) N with|true=>force v fun v=>K (put e d v)|false=>False
section
variable {P:Program}{T:Tys}{G:Nat→AV}{N:Nat}{e:Env}{σ σ0:q8}{w w0:World}{a:Act}
theorem Rel.step{σ':q8}{w':World}{v:AV}{u:Value}{dst:Option Tmp}{K:Env→Prop}(h:Rel G N e σ σ0 w0 a w)(hs:Stp σ w σ' w')(hm:Mem σ' w')(hr:Rd σ' w' v u)(hp:zi N e dst v K) :
   ∃e',K e'∧Rel G N e' σ' σ0 w0 (a.put dst u) w':=by
 unfold zi at hp
 cases dst with
 | none=>exact⟨e,hp,h.n,h.d.mono hs,fun x=>(h.env x).mono hs,hm,h.st.trans hs,h.glob.mono hs⟩
 | some d =>
   simp only at hp
   split at hp
   case h_2=>exact hp.elim
   rename_i hb
   rw[zx] at hp
   have hd:d<N:=Nat.le_of_ble_eq_true hb
   refine⟨_,hp,by simp[Act.put,h.n],h.d.mono hs,fun x=>?_,hm,h.st.trans hs,h.glob.mono hs⟩
   unfold put
   by_cases hx:x=d
   · subst hx
     have:Nat.beq x x=true:=Nat.beq_refl x
     rw[this]
     simp[Act.put,h.n,hd]
     exact hr
   · have:Nat.beq x d=false:=by
       cases hbq:Nat.beq x d with
       | false=>rfl
       | true=>exact absurd (Nat.eq_of_beq_eq_true hbq) hx
     rw[this]
     have e1:(a.put (some d) u).tmps.getD x undef=a.tmps.getD x undef:=by
       simp only[Act.put,Array.getD_eq_getD_getElem?,Array.getElem?_setIfInBounds]
       rw[if_neg (fun e=>hx e.symm)]
     rw[e1]
     exact(h.env x).mono hs
def AOp1(P:Program)(T:Tys)(G:Nat→AV)(N:Nat)(ops:Array Oper)(o:Oper)(K:Env→q8→Prop)(e:Env)(σ:q8):Prop :=
 match o.guard with
 | none=>opA P T G o.op (ev G e) σ fun v σ'=>zi N e o.dst v fun e'=>K e' σ'
 | some (j,want) =>
   match (ops[j]?).bind (·.dst) with
   | none=>False
   | some t=>(match e t with
     | .bool b=>(match want with
       | true=>AB b (opA P T G o.op (ev G e) σ fun v σ'=>zi N e o.dst v fun e'=>K e' σ') (zi N e o.dst (.tup []) fun e'=>K e' σ)
       | false=>AB b (zi N e o.dst (.tup []) fun e'=>K e' σ) (opA P T G o.op (ev G e) σ fun v σ'=>zi N e o.dst v fun e'=>K e' σ'))
     | .tup _=>zi N e o.dst (.tup []) fun e'=>K e' σ
     | _=>False)
theorem AOp1.sound{ro:Option Nat}(hT:TOk P T){ops:Array Oper}{o:Oper}{K:Env→q8→Prop}{next:Act→World→Prop}{Q:Exit→Act→World→Prop}(hr:Rel G N e σ σ0 w0 a w)(h:AOp1 P T G N ops o K e σ)
   (hn:∀a' w' e' σ',K e' σ'→Rel G N e' σ' σ0 w0 a' w'→next a' w'):if Region.wanted o (yielded ops a.tmps) then o.wpIn (FW ro) 0 P a w next Q else(∀f,o.about P w a.eval=some f→(FW ro).fn f)∧next (a.put o.dst undef) w:=by
 have run:(opA P T G o.op (ev G e) σ fun v σ'=>zi N e o.dst v fun e'=>K e' σ')→o.wpIn (FW ro) 0 P a w next Q:=fun h =>
   opA.sound hT (ev_sound hr.env hr.glob) hr.mem hr.glob h fun v w' r σ' hk h1 h2 h3=>by
     obtain⟨e',k1,k2⟩:=hr.step h3 h2 h1 hk
     exact hn _ _ _ _ k1 k2
 have skip:(zi N e o.dst (.tup []) fun e'=>K e' σ)→(∀f,o.about P w a.eval=some f→(FW ro).fn f)∧next (a.put o.dst undef) w:=fun h=>by
   obtain⟨e',k1,k2⟩:=hr.step (Stp.refl σ w) hr.mem (.tup [] #[] rfl (by simp)) h
   exact⟨fun _ _=>trivial,hn _ _ _ _ k1 k2⟩
 unfold AOp1 at h
 cases hg:o.guard with
 | none =>
   rw[hg] at h
   simp only[Region.wanted,hg,if_true]
   exact(run h)
 | some x =>
   obtain⟨j,want⟩:=x
   rw[hg] at h
   simp only at h
   cases ht:(ops[j]?).bind (·.dst) with
   | none=>rw[ht] at h;exact h.elim
   | some t =>
     rw[ht] at h
     simp only at h
     have hy:yielded ops a.tmps j=match a.tmps.getD t undef with|.bool b=>some b|_=>none:=by
       unfold yielded
       rw[ht]
       simp only[Option.bind_some,Array.getD_eq_getD_getElem?]
       cases a.tmps[t]? with
       | none=>rfl
       | some v=>cases v<;>rfl
     have he:=hr.env t
     simp only[Region.wanted,hg,hy]
     split at h
     · rename_i b hb
       rw[hb] at he
       generalize a.tmps.getD t undef=u at he
       cases he
       simp only[beq_iff_eq,Option.some.injEq]
       cases b<;>cases want
       · rw[if_pos rfl];exact(run (h.no rfl))
       · rw[if_neg (by simp)];exact skip (h.no rfl)
       · rw[if_neg (by simp)];exact skip (h.yes rfl)
       · rw[if_pos rfl];exact(run (h.yes rfl))
     · rename_i vs hb
       rw[hb] at he
       generalize a.tmps.getD t undef=u at he
       cases he
       simp only
       rw[if_neg (by simp)]
       exact skip h
     · exact h.elim
def AOps(P:Program)(T:Tys)(G:Nat→AV)(N:Nat)(ops:Array Oper):List Oper→(Env→q8→Prop)→Env→q8→Prop
 | [],K,e,σ=>K e σ
 | o::r,K,e,σ=>AOp1 P T G N ops o (AOps P T G N ops r K) e σ
theorem AOps.sound{ro:Option Nat}(hT:TOk P T){ops:Array Oper}{K:Env→q8→Prop}{Q:Exit→Act→World→Prop}:∀(l:List Oper) (e:Env) (σ:q8) (a:Act) (w:World),Rel G N e σ σ0 w0 a w→AOps P T G N ops l K e σ →
   (∀a' w' e' σ',K e' σ'→Rel G N e' σ' σ0 w0 a' w'→Q .normal a' w')→wpListIn (FW ro) 0 P ops Q l a w:=by
 intro l
 induction l with
 | nil=>exact fun e σ a w hr h hq=>hq a w e σ h hr
 | cons o l ih =>
   intro e σ a w hr h hq
   exact AOp1.sound hT hr h fun a' w' e' σ' hk hr'=>ih e' σ' a' w' hr' hk hq
def QR(G:Nat→AV)(N:Nat)(Q:Exit→Env→q8→Prop)(σ0:q8)(w0:World):Exit→Act→World→Prop:=fun x a w=>∃e σ,Q x e σ∧Rel G N e σ σ0 w0 a w
def noRF:Code→Bool
 | .seq a b|.cond _ a b=>noRF a&&noRF b
 | .block _ c|.loop c|.scope c=>noRF c
 | .rangeFunc .. => false
 | _=>true
def okR:Option Nat→Code→Bool
 | none,_=>true
 | some _,c=>noRF c
theorem okR.seq{ro:Option Nat}{x y:Code}(h:okR ro (.seq x y)=true):okR ro x=true∧okR ro y=true:=by cases ro<;>simp_all [okR,noRF]
theorem okR.cond{ro:Option Nat}{c:Operand}{x y:Code}(h:okR ro (.cond c x y)=true):okR ro x=true∧okR ro y=true:=by cases ro<;>simp_all [okR,noRF]
theorem okR.block{ro:Option Nat}{id:Nat}{x:Code}(h:okR ro (.block id x)=true):okR ro x=true:=by cases ro<;>simp_all [okR,noRF]
theorem okR.loop{ro:Option Nat}{x:Code}(h:okR ro (.loop x)=true):okR ro x=true:=by cases ro<;>simp_all [okR,noRF]
theorem okR.scope{ro:Option Nat}{x:Code}(h:okR ro (.scope x)=true):okR ro x=true:=by cases ro<;>simp_all [okR,noRF]
section
variable {b:Frame}{a:Act}{k:List Item}{cs:List Frame}{w:World}{Q:Exit→Act→World→Prop}{P:Program}{F:Fence}{n:Nat}
theorem zP{c:Code}:step P (lone (b.atR a (.code (.scope c)::k)) cs w)=.next (lone (b.atR a (.code c :: .inScope c::k)) cs w) :=
 step_lone_go (by simp[stepG,stepG.exec,Frame.atR])
theorem stepR_inScope'{c:Code}:step P (lone (b.atR a (.inScope c::k)) cs w)=.next (lone (b.atR a k) cs w) :=
 step_lone_go (by simp[stepG,stepG.exec,Frame.atR])
theorem xW{c:Code}(h:c.wpIn F n P (Exit.noGoto Q) a w):(Code.scope c).wpIn F n P Q a w:=by
 intro b k cs hro hb hr
 have h0:(lone (b.atR a (.code (.scope c)::k)) cs w).fenced P F:=fenced_calm hb hr rfl
 obtain⟨e,a₁,w₁,hq,harr⟩:=h b (.inScope c::k) cs hro hb hr
 cases e with
 | normal=>exact⟨.normal,a₁,w₁,hq,.head h0 zP (StepsIn.trans harr (.one (fenced_calm hb hr rfl) stepR_inScope'))⟩
 | exit id =>
   have hx:exitTo id (.inScope c::k)=exitTo id k:=by simp[exitTo]
   exact⟨.exit id,a₁,w₁,hq,fun k' hk=>.head h0 zP (harr.1 k' (by rw[hx];exact hk)),
     fun hr' hk=>let ⟨k₁,h1,h2⟩:=harr.2 hr' (by rw[hx];exact hk);⟨k₁,h1,.head h0 zP h2⟩⟩
 | goto l=>exact hq.elim
 | ret=>exact⟨_,a₁,w₁,hq,.of_steps (.one h0 zP) harr⟩
 | panic ch=>exact⟨_,a₁,w₁,hq,.of_steps (.one h0 zP) harr⟩
 | outgrown=>exact⟨_,a₁,w₁,hq,.of_steps (.one h0 zP) harr⟩
end
structure SWp(P:Program)(G:Nat→AV)(N:Nat)(c:Code)(Q:Exit→Env→q8→Prop)(e:Env)(σ:q8):Prop where
 run:∀{ro:Option Nat} σ0 w0 a w,Rel G N e σ σ0 w0 a w→okR ro c=true→c.wpIn (FW ro) 0 P (QR G N Q σ0 w0) a w
structure Wks(G:Nat→AV)(N:Nat)(e:Env)(σ:q8)(R:Env→q8→Prop):Prop where
 go:∀σ0 w0 a w,Rel G N e σ σ0 w0 a w→∃e' σ',R e' σ'∧Rel G N e' σ' σ0 w0 a w
theorem SWp.weak{c:Code}{Q:Exit→Env→q8→Prop}(h:Wks G N e σ (SWp P G N c Q)):SWp P G N c Q e σ:=⟨fun σ0 w0 a w hr hok=>by
 obtain⟨e',σ',h1,h2⟩:=h.go σ0 w0 a w hr
 exact h1.run σ0 w0 a w h2 hok⟩
def Qseq(K:Env→q8→Prop)(Q:Exit→Env→q8→Prop):Exit→Env→q8→Prop
 | .normal,e,σ=>K e σ
 | x,e,σ=>Q x e σ
def Qblock(id:Nat)(Q:Exit→Env→q8→Prop):Exit→Env→q8→Prop
 | .exit i,e,σ=>(match Nat.beq i id with|true=>Q .normal e σ|false=>Q (.exit i) e σ)
 | x,e,σ=>Q x e σ
def Qscope(Q:Exit→Env→q8→Prop):Exit→Env→q8→Prop
 | .goto _,_,_=>False
 | x,e,σ=>Q x e σ
def AWp(P:Program)(T:Tys)(G:Nat→AV)(N:Nat):Code→(Exit→Env→q8→Prop)→Env→q8→Prop
 | .skip,Q,e,σ=>Q .normal e σ
 | .region id ops draw,Q,e,σ=>(match draw with
   | false=>AOps P T G N ops ops.toList (Q .normal) e σ
   | true=>SWp P G N (.region id ops true) Q e σ)
 | .seq x y,Q,e,σ=>AWp P T G N x (Qseq (AWp P T G N y Q) Q) e σ
 | .cond c x y,Q,e,σ=>(match ev G e c with|.bool t=>AB t (AWp P T G N x Q e σ) (AWp P T G N y Q e σ)|_=>False)
 | .block id c,Q,e,σ=>AWp P T G N c (Qblock id Q) e σ
 | .loop c,Q,e,σ=>SWp P G N (.loop c) Q e σ
 | .exit id,Q,e,σ=>Q (.exit id) e σ
 | .scope c,Q,e,σ=>AWp P T G N c (Qscope Q) e σ
 | .label _,Q,e,σ=>Q .normal e σ
 | .ret,Q,e,σ=>Q .ret e σ
 | c,Q,e,σ=>SWp P G N c Q e σ
theorem SWp.seq{x y:Code}{Q:Exit→Env→q8→Prop}(h:SWp P G N x (Qseq (SWp P G N y Q) Q) e σ):SWp P G N (.seq x y) Q e σ:=⟨fun σ0 w0 a w hr hok=>by
 refine wpIn_seq (wpIn_mono (h.run σ0 w0 a w hr (okR.seq hok).1) ?_)
 rintro x a' w' ⟨e',σ',h1,h2⟩
 cases x<;>first|exact SWp.run h1 σ0 w0 a' w' h2 (okR.seq hok).2|exact⟨e',σ',h1,h2⟩⟩
theorem SWp.mono{c:Code}{Q Q':Exit→Env→q8→Prop}(h:SWp P G N c Q e σ)(hq:∀x e σ,Q x e σ→Q' x e σ):SWp P G N c Q' e σ:=⟨fun σ0 w0 a w hr hok =>
 wpIn_mono (h.run σ0 w0 a w hr hok) fun _ _ _ ⟨e',σ',h1,h2⟩=>⟨e',σ',hq _ _ _ h1,h2⟩⟩
theorem AWp.sound(hT:TOk P T):∀(c:Code) (Q:Exit→Env→q8→Prop) (e:Env) (σ:q8),AWp P T G N c Q e σ→SWp P G N c Q e σ:=by
 intro c
 induction c with
 | skip=>exact fun Q e σ h=>⟨fun σ0 w0 a w hr _=>wpIn_skip ⟨e,σ,h,hr⟩⟩
 | region id ops draw =>
   intro Q e σ h
   cases draw with
   | true=>exact h
   | false=>exact⟨fun σ0 w0 a w hr _=>wpIn_region_list (AOps.sound hT ops.toList e σ a w hr h fun a' w' e' σ' hk hr'=>⟨e',σ',hk,hr'⟩)⟩
 | seq x y ihx ihy =>
   intro Q e σ h
   refine SWp.seq ((ihx _ e σ h).mono ?_)
   intro x e' σ' hq
   cases x<;>first|exact ihy Q e' σ' hq|exact hq
 | cond c x y ihx ihy =>
   intro Q e σ h
   refine⟨fun σ0 w0 a w hr hok=>?_⟩
   simp only[AWp] at h
   split at h
   case h_2=>exact h.elim
   rename_i t hc
   have hv:=ev_sound hr.env hr.glob c
   rw[hc] at hv
   generalize hcv:a.eval c=cv at hv
   cases hv
   cases t with
   | true=>exact wpIn_cond_true hcv ((ihx Q e σ (h.yes rfl)).run σ0 w0 a w hr (okR.cond hok).1)
   | false=>exact wpIn_cond_false hcv ((ihy Q e σ (h.no rfl)).run σ0 w0 a w hr (okR.cond hok).2)
 | block id c ih =>
   intro Q e σ h
   refine⟨fun σ0 w0 a w hr hok=>?_⟩
   refine wpIn_block (wpIn_mono ((ih _ e σ h).run σ0 w0 a w hr (okR.block hok)) ?_)
   rintro x a' w' ⟨e',σ',h1,h2⟩
   cases x with
   | exit i =>
     simp only[Qblock] at h1
     simp only[Exit.inBlock]
     split at h1
     · rename_i hb
       rw[if_pos (Nat.eq_of_beq_eq_true hb)]
       exact⟨e',σ',h1,h2⟩
     · rename_i hb
       rw[if_neg (fun e=>by subst e;rw[Nat.beq_refl] at hb;cases hb)]
       exact⟨e',σ',h1,h2⟩
   | _=>exact⟨e',σ',h1,h2⟩
 | loop c ih=>exact fun Q e σ h=>h
 | exit id=>exact fun Q e σ h=>⟨fun σ0 w0 a w hr _=>wpIn_exit ⟨e,σ,h,hr⟩⟩
 | scope c ih =>
   intro Q e σ h
   refine⟨fun σ0 w0 a w hr hok=>?_⟩
   refine xW (wpIn_mono ((ih _ e σ h).run σ0 w0 a w hr (okR.scope hok)) ?_)
   rintro x a' w' ⟨e',σ',h1,h2⟩
   cases x<;>first|exact h1.elim|exact⟨e',σ',h1,h2⟩
 | label l=>exact fun Q e σ h=>⟨fun σ0 w0 a w hr _=>wpIn_label ⟨e,σ,h,hr⟩⟩
 | ret=>exact fun Q e σ h=>⟨fun σ0 w0 a w hr _=>wpIn_ret ⟨e,σ,h,hr⟩⟩
 | rangeFunc f ps as b iha ihb=>exact fun Q e σ h=>h
 | goto l=>exact fun Q e σ h=>h
 | refuse why=>exact fun Q e σ h=>h
theorem SWp.loop{c:Code}{Q:Exit→Env→q8→Prop}(I:Nat→Env→q8→Prop)(h0:Wks G N e σ fun e' σ'=>∃n,I n e' σ')
   (hr:∀n e σ,I n e σ→SWp P G N c (Qseq (fun e1 σ1=>Wks G N e1 σ1 fun e' σ'=>∃m,m<n∧I m e' σ') Q) e σ):SWp P G N (.loop c) Q e σ:=by
 refine⟨fun {ro} σ0 w0 a w hrel hok b k cs hro hb hroom=>?_⟩
 have key:∀n a w e σ,I n e σ→Rel G N e σ σ0 w0 a w →
     ∃x a' w',QR G N Q σ0 w0 x a' w'∧ArrivesIn (Machine.fenced P (FW ro)) P (lone (b.atR a (.code c :: .inLoop c::k)) cs w) b k cs x a' w':=by
   intro n
   induction n using Nat.strongRecOn with
   | _ n ih =>
     intro a w e σ hI hrel
     obtain⟨x,a₁,w₁,⟨e1,σ1,hq,hr1⟩,harr⟩:=(hr n e σ hI).run σ0 w0 a w hrel (okR.loop hok) b (.inLoop c::k) cs hro hb hroom
     cases x with
     | normal =>
       obtain⟨e2,σ2,⟨m,hm,hI2⟩,hr2⟩:=Wks.go hq σ0 w0 a₁ w₁ hr1
       obtain⟨x2,a₂,w₂,hq₂,harr₂⟩:=ih m hm a₁ w₁ e2 σ2 hI2 hr2
       exact⟨x2,a₂,w₂,hq₂,.of_steps (StepsIn.trans harr (.one (fenced_calm hb hroom rfl) stepR_inLoop)) harr₂⟩
     | exit id=>exact⟨_,a₁,w₁,⟨e1,σ1,hq,hr1⟩,.pass (x:=.inLoop c) rfl (fun _ _=>.inl (by simp)) harr⟩
     | goto l=>exact⟨_,a₁,w₁,⟨e1,σ1,hq,hr1⟩,.pass (x:=.inLoop c) rfl (fun _ _=>.inl (by simp)) harr⟩
     | ret=>exact⟨_,a₁,w₁,⟨e1,σ1,hq,hr1⟩,.pass (x:=.inLoop c) rfl (fun _ _=>.inl (by simp)) harr⟩
     | panic ch=>exact⟨_,a₁,w₁,⟨e1,σ1,hq,hr1⟩,.pass (x:=.inLoop c) rfl (fun _ _=>.inl (by simp)) harr⟩
     | outgrown=>exact⟨_,a₁,w₁,⟨e1,σ1,hq,hr1⟩,.pass (x:=.inLoop c) rfl (fun _ _=>.inl (by simp)) harr⟩
 obtain⟨e2,σ2,⟨n,hI⟩,hr2⟩:=h0.go σ0 w0 a w hrel
 obtain⟨x,a',w',hq,harr⟩:=key n a w e2 σ2 hI hr2
 exact⟨x,a',w',hq,.of_steps (.one (fenced_calm hb hroom rfl) stepR_loop) harr⟩
def v8(T:Tys)(e:Env)(σ:q8):List ResultVar→(List AV→Prop)→Prop
 | [],K=>K []
 | .tmp t::r,K=>v8 T e σ r fun vs=>K (e t::vs)
 | .cell x t::r,K=>ALd T t (e x) σ fun v=>v8 T e σ r fun vs=>K (v::vs)
def one(vs:List AV):AV:=match vs with|[v]=>v|vs=>.tup vs
def Sub(τ σ:q8):Prop:=∀p c,τ p=some c→σ p=some c
theorem Sub.refl(σ:q8):Sub σ σ:=fun _ _ h=>h
theorem Sub.upd{τ σ:q8}{p:Nm}{c:Pl}(h:Sub τ σ)(hp:τ p=none):Sub τ (upd σ p c):=fun q d hq=>by
 rw[qe _ _ (fun e=>by subst e;rw[hp] at hq;cases hq)];exact h q d hq
theorem Sub.era{τ σ:q8}{p:Nm}(h:Sub τ σ)(hp:τ p=none):Sub τ (era σ p):=fun q d hq=>by
 rw[z6 _ (fun e=>by subst e;rw[hp] at hq;cases hq)];exact h q d hq
structure Ret(τ:q8)(ps:List (Nm×Pl))(post:Nm→AV×List (Nm×Pl))(r:AV)(σ:q8):Prop where
 ex:∃(F:List Nm) (q:Nm),eraN τ (ps.map (·.1)) q=none∧((post q).2.map (·.1)).Nodup∧Frz σ F r (post q).1∧Sub (pQ (eraN τ (ps.map (·.1))) (post q).2) (eraN σ F)
theorem Ret.val{τ σ:q8}{v r:AV}(hq:∃q,eraN τ [] q=none)(h:r=v)(hs:Sub τ σ):Ret τ [] (fun _=>(v,[])) r σ:=by
 obtain⟨q,hq⟩:=hq
 exact⟨⟨[],q,hq,by simp,h▸.refl r,hs⟩⟩
theorem Ret.frz{τ σ:q8}{v r:AV}(F:List Nm)(hq:∃q,eraN τ [] q=none)(h:Frz σ F r v)(hs:Sub τ (eraN σ F)):Ret τ [] (fun _=>(v,[])) r σ:=by
 obtain⟨q,hq⟩:=hq
 exact⟨⟨F,q,hq,by simp,h,hs⟩⟩
theorem Ret.own{τ σ:q8}{r:AV}{f:Nm→AV}{c:Nm→Pl}(q:Nm)(hq:τ q=none)(h:r=f q)(hs:Sub (Go.Proofs.YtndpmpnmkpaklaaGreatDoor.upd τ q (c q)) σ):Ret τ [] (fun q=>(f q,[(q,c q)])) r σ :=
 ⟨⟨[],q,hq,by simp,h▸.refl r,hs⟩⟩
def retQ(T:Tys)(rs:List ResultVar)(R:AV→q8→Prop):Exit→Env→q8→Prop
 | .normal,e,σ|.ret,e,σ=>v8 T e σ rs fun vs=>force (one vs) fun r=>R r σ
 | _,_,_=>False
def resOne(tmps:Array Value)(r:ResultVar):Sem Value :=
 match r with
 | .tmp t=>pure (tmps.getD t undef)
 | .cell x t=>do loadVar t (←asAddr (tmps.getD x undef))
theorem results_eq(fn:Func)(tmps:Array Value):results fn tmps=(do
   let vs ←fn.results.mapM (resOne tmps)
   pure (if h:vs.size=1 then vs[0] else .tuple vs)):=by
 unfold results
 congr 2
theorem wV(hT:TOk P T){fn:Func}{K:List AV→Prop}(hr:Rel G N e σ σ0 w0 a w)(h:v8 T e σ fn.results.toList K):∃v vs,(results fn a.tmps).run P w=.ok v w∧K vs∧Rd σ w (one vs) v:=by
 have main:∀(l:List ResultVar) (K:List AV→Prop),v8 T e σ l K→∃(us:List Value) (vs:List AV),(l.mapM (resOne a.tmps)).run P w=.ok us w∧K vs∧vs.length=us.length∧∀i,i<vs.length→Rd σ w (vs.getD i .any) (us.getD i undef):=by
   intro l
   induction l with
   | nil=>intro K h;exact⟨[],[],rfl,h,rfl,by simp⟩
   | cons r l ih =>
     intro K h
     have step:∀(u:Value) (v:AV),(resOne a.tmps r).run P w=.ok u w→Rd σ w v u→(v8 T e σ l fun vs=>K (v::vs))→∃(us:List Value) (vs:List AV),((r::l).mapM (resOne a.tmps)).run P w=.ok us w∧K vs∧vs.length=us.length∧∀i,i<vs.length→Rd σ w (vs.getD i .any) (us.getD i undef):=by
       intro u v g1 g2 g3
       obtain⟨us,vs,h1,h2,h3,h4⟩:=ih _ g3
       refine⟨u::us,v::vs,?_,h2,by simp[h3],fun i hi=>?_⟩
       · rw[List.mapM_cons,Sem.run_bind,g1,Result.andThen_ok,Sem.run_bind,h1]
         rfl
       · cases i with
         | zero=>exact g2
         | succ i=>simp at hi;simpa using h4 i (by omega)
     cases r with
     | cell x t =>
       obtain⟨ad,u,v,g1,g2,g3,g4⟩:=ALd.load hT hr.mem (hr.env x) h
       refine step u v ?_ g3 g4
       show(do loadVar t (←asAddr (a.tmps.getD x undef))).run P w=_
       rw[g1]
       simpa [asAddr] using g2
     | tmp t=>exact step _ _ rfl (hr.env t) h
 obtain⟨us,vs,h1,hK,h2,h3⟩:=main _ _ h
 have hrun:(results fn a.tmps).run P w=.ok (if h:us.toArray.size=1 then us.toArray[0] else .tuple us.toArray) w:=by
   rw[results_eq,Array.mapM_eq_mapM_toList]
   simp only[map_eq_pure_bind,Sem.run_bind]
   rw[h1]
   rfl
 refine⟨_,vs,hrun,hK,?_⟩
 clear hK hrun h1
 match vs,us,h2,h3 with
 | [],[],_,_=>exact .tup [] #[] rfl (by simp)
 | [v],[u],_,h3=>exact h3 0 (by simp)
 | v::v2::vs,u::u2::us,h2,h3 =>
   have:one (v::v2::vs)=.tup (v::v2::vs):=rfl
   rw[this,dif_neg (by simp)]
   exact .tup _ _ (by simpa using h2) fun i hi=>by
     have:=h3 i hi
     simpa [Array.getD_eq_getD_getElem?,List.getD_eq_getElem?_getD] using this
def jJ(args:List AV):Env:=fun x=>args.getD x .any
theorem Rd.mark{σ:q8}{w w':World}{D:Nat}{od:Obj}(hD:w.heap[D]? = some od)(h1:∀c t k,od≠.cells c t k)(h2:∀es c,od≠.map es c)(hs:∀b,b≠D→w'.heap[b]? = w.heap[b]?){a:AV}{v:Value}(h:Rd σ w a v):Rd σ w' a v:=by
 have cell:∀{b o:Nat} {u:Value},w.cell? ⟨b,o,none⟩=some u→w'.cell? ⟨b,o,none⟩=some u:=fun {b o u} hc=>by
   have:b≠D:=fun e=>by
     subst e
     unfold World.cell? at hc
     rw[hD] at hc
     cases od<;>first|exact h1 _ _ _ rfl|exact h2 _ _ rfl|(simp at hc)
   rw[cell_eq (hs b this)];exact hc
 have row:∀{b:Nat} {c:Array Value} {t:TypeId} {k:Nat×Nat},w.heap[b]? = some (.cells c t k)→w'.heap[b]? = some (.cells c t k):=fun {b c t k} hb=>by
   rw[hs b fun e=>by subst e;rw[hD] at hb;cases hb;exact h1 _ _ _ rfl];exact hb
 induction h with
 | any v=>exact .any v
 | int k n=>exact .int k n
 | bool b=>exact .bool b
 | str s=>exact .str s
 | agg cs vs h _ ih=>exact .agg cs vs h ih
 | tup cs vs h _ ih=>exact .tup cs vs h ih
 | slnil=>exact .slnil
 | sle a cap hm=>exact .sle a cap hm
 | sl n cs b off cap f hb hn hm hf _ ih=>exact .sl n cs b off cap f hb hn hm (fun i hi=>cell (hf i hi)) ih
 | vw p off n sz cap cur t hp hn hm hz=>exact .vw p off n sz cap cur t (row hp) hn hm hz
 | vwnil k sz=>exact .vwnil k sz
 | vw0 p off sz a=>exact .vw0 p off sz a
 | vc p off n sz cap cur t hp hn hm hz=>exact .vc p off n sz cap cur t (row hp) hn hm hz
 | mp f b es clock hb hh hf=>exact .mp f b es clock hb (by rw[hs b fun e=>by subst e;rw[hD] at hh;cases hh;exact h2 _ _ rfl];exact hh) hf
 | nils=>exact .nils
 | ap p off n sz cap hn hm=>exact .ap p off n sz cap hn hm
 | ptr p off=>exact .ptr p off
 | ip cs b off f hb hf _ ih=>exact .ip cs b off f hb (fun i hi=>cell (hf i hi)) ih
 | clo fn fs cs vs us hf hc _ _ i1 i2=>exact .clo fn fs cs vs us hf hc i1 i2
 | lit v=>exact .lit v
theorem Mem.mark{σ:q8}{w w':World}{D:Nat}{od:Obj}(hD:w.heap[D]? = some od)(h1:∀c t k,od≠.cells c t k)(h2:∀es c,od≠.map es c)(hs:∀b,b≠D→w'.heap[b]? = w.heap[b]?)(h:Mem σ w):Mem σ w':=by
 refine⟨fun p c hp=>?_,h.vl,h.fin⟩
 obtain⟨cur,g1,g2,g3⟩:=h.pl p c hp
 exact⟨cur,(hs p fun e=>by subst e;rw[hD] at g1;cases g1;exact h1 _ _ _ rfl).trans g1,g2,fun i hi=>(g3 i hi).mark hD h1 h2 hs⟩
theorem Glob.mark{G:Nat→AV}{σ:q8}{w w':World}{D:Nat}{od:Obj}(hD:w.heap[D]? = some od)(h1:∀c t k,od≠.cells c t k)(h2:∀es c,od≠.map es c)(h3:∀r,od≠.loop r)(hs:∀b,b≠D→w'.heap[b]? = w.heap[b]?)(h:Glob G σ w):Glob G σ w':=fun g=>by
 have hg:=h g
 revert hg
 cases G g<;>first
   | exact fun k=>Rd.mark hD h1 h2 hs k
   | (rintro⟨k1,k2,k3,k4⟩
      exact⟨k1,(hs _ fun e=>by subst e;rw[hD] at k2;cases k2;exact h3 _ rfl).trans k2,fun i=>(k3 i).mark hD h1 h2 hs,fun k=>(k4 k).mark hD h1 h2 hs⟩)
theorem Rel.taken{D:Nat}{ds:List Deferred}(h:Rel G N e σ σ0 w0 a w)(hd:a.defers={ target:=.collected D,args:=#[] }::ds):(Instr.takeDeferred D).run P w=.ok [] (w.putObj D (.deferred none))∧Rel G N e σ σ0 w0 { a with defers:=ds } (w.putObj D (.deferred none)):=by
 obtain⟨Ds,h1,h2,h3⟩:=h.d
 rw[hd] at h1
 cases Ds with
 | nil=>cases h1
 | cons D' Ds =>
   simp only[List.map_cons,List.cons.injEq,Deferred.mk.injEq,Target.collected.injEq,and_true] at h1
   obtain⟨rfl,rfl⟩:=h1
   obtain⟨k1,k2,k3⟩:=h3 D (List.mem_cons_self ..)
   have hs:∀b,b≠D→(w.putObj D (.deferred none)).heap[b]? = w.heap[b]? := fun b hb=>World.putObj_heap_other hb
   have hrd:∀{x:AV} {v:Value},Rd σ w x v→Rd σ (w.putObj D (.deferred none)) x v:=fun hx=>hx.mark k3 nofun nofun hs
   refine⟨run_takeDeferred k3,h.n,⟨Ds,rfl,(List.nodup_cons.1 h2).2,fun E hE=>?_⟩,fun x=>hrd (h.env x),h.mem.mark k3 nofun nofun hs,⟨h.st.os,h.st.tape,h.st.output,?_,fun b hb hn=>?_,fun b cur t hb=>?_⟩,h.glob.mark k3 nofun nofun nofun hs⟩
   · obtain⟨g1,g2,g3⟩:=h3 E (List.mem_cons_of_mem _ hE)
     exact⟨g1,g2,(hs E fun e=>(List.nodup_cons.1 h2).1 (e▸hE)).trans g3⟩
   · have:=h.st.size;simp at this ⊢;omega
   · obtain⟨g1,g2⟩:=h.st.old b hb hn
     exact⟨g1,(hs b (by omega)).trans g2⟩
   · obtain⟨cur',g1,g2⟩:=h.st.row b cur t hb
     exact⟨cur',(hs b fun e=>by subst e;rw[k3] at g1;cases g1).trans g1,g2⟩
theorem Rel.leaves{fn:Func}{R:Ending→World→Prop}{ro:Option Nat}:∀(ds:List Deferred) {a:Act} {w:World},a.defers=ds→Rel G N e σ σ0 w0 a w→(∀(b:Act) (w':World),b.tmps=a.tmps→Rel G N e σ σ0 w0 b w'→∃v,(results fn b.tmps).run P w'=.ok v w'∧R (.returned v) w')→LeavesInM (FW ro) 0 P fn a.tmps R ds .returning w
 | [],a,w,_,hr,h=>h a w rfl hr
 | d::ds,a,w,hd,hr,h=>by
   obtain⟨Ds,h1,-,-⟩:=hr.d
   cases Ds with
   | nil=>rw[hd] at h1;cases h1
   | cons D Ds =>
     rw[hd] at h1
     obtain⟨rfl,-⟩:=List.cons.inj h1
     obtain⟨k1,k2⟩:=hr.taken (P:=P) hd
     refine⟨nofun,.inl ⟨D,_,rfl,k1,?_⟩⟩
     exact Rel.leaves (a:={ a with defers:=ds }) ds rfl k2 h
theorem LP.intro(hT:TOk P T){f:FuncId}{fn:Func}{c:Code}{args:List AV}{ps:List (Nm×Pl)}{post:Nm→AV×List (Nm×Pl)}(hf:P.funcs[f]? = some fn)(hb:fn.body=some c)(hname:(fn.name == "runtime.NumGoroutine")=false)(hl:args.length≤fn.ntmps)(hpost:∀q,(∀x∈(post q).2,x.1=q∨x.1∈ps.map (·.1))∧(q∉ps.map (·.1)→((post q).2.map (·.1)).Nodup))
   (h:∀τ:q8,(∃q,eraN τ (ps.map (·.1)) q=none)→(∀x∈ps,τ x.1=some x.2)→(ps.map (·.1)).Nodup→SWp P G fn.ntmps c (retQ T fn.results.toList (Ret τ ps post)) (jJ args) τ):LP P G f args ps post:=by
 refine⟨⟨fn,hf,hname,by rw[hb];rfl⟩,hpost,fun τ w vs hm hg hps hnd hr=>?_⟩
 refine callsIn_wide.1 (callsIn_of_wp_marks (n:=0) hf hb trivial ?_)
 have hrel:Rel G fn.ntmps (jJ args) τ τ w ⟨vs++Array.replicate (fn.ntmps-vs.size) undef,[]⟩ w:=by
   refine⟨by have:=hr.1;simp;omega,Dfr.nil,fun x=>?_,hm,Stp.refl τ w,hg⟩
   unfold jJ
   by_cases hx:x<args.length
   · have e1:(vs++Array.replicate (fn.ntmps-vs.size) undef).getD x undef=vs.getD x undef:=by
       simp only[Array.getD_eq_getD_getElem?];rw[Array.getElem?_append_left (by rw[←hr.1];exact hx)]
     rw[e1]
     exact hr.2 x hx
   · have e1:args.getD x .any=.any:=by simp[List.getD_eq_getElem?_getD,List.getElem?_eq_none (Nat.le_of_not_lt hx)]
     rw[e1]
     exact .any _
 refine wpIn_mono ((h τ ⟨.b w.heap.size,qF τ _ (hm.fresh (Nat.le_refl _))⟩ hps hnd).run (ro:=none) τ w _ w hrel rfl) ?_
 rintro x a' w' ⟨e',σ',h1,h2⟩
 have fin:(v8 T e' σ' fn.results.toList fun vs=>force (one vs) fun r=>Ret τ ps post r σ')→∀(b':Act) (w2:World),b'.tmps=a'.tmps→Rel G fn.ntmps e' σ' τ w b' w2→∃v,(results fn b'.tmps).run P w2=.ok v w2∧∃u q,Ending.returned v=.returned u∧eraN τ (ps.map (·.1)) q=none∧((post q).2.map (·.1)).Nodup ∧
     Rd (pQ (eraN τ (ps.map (·.1))) (post q).2) w2 (post q).1 u∧Mem (pQ (eraN τ (ps.map (·.1))) (post q).2) w2∧Stp τ w (pQ (eraN τ (ps.map (·.1))) (post q).2) w2:=by
   intro h1 b' w2 hbt h2
   obtain⟨v,us,k1,h1,k2⟩:=wV hT h2 h1
   rw[zx] at h1
   obtain⟨⟨F,q,g1,gn,g2,g3⟩⟩:=h1
   have hsub:∀b,eraN σ' F b=none→pQ (eraN τ (ps.map (·.1))) (post q).2 b=none:=fun b hb=>by
     cases hc:pQ (eraN τ (ps.map (·.1))) (post q).2 b with
     | none=>rfl
     | some c=>rw[g3 b c hc] at hb;cases hb
   have hs1:Stp σ' w2 (eraN σ' F) w2:=Stp.forget _ _ w2 fun b hb=>qF σ' F hb
   have hs2:Stp (eraN σ' F) w2 (pQ (eraN τ (ps.map (·.1))) (post q).2) w2:=Stp.forget _ _ w2 fun b hb=>hsub _ hb
   refine⟨v,k1,v,q,rfl,g1,gn,(g2.sound h2.mem k2).mono hs2,(h2.mem.forget (xx σ' F)).forget g3,(h2.st.trans hs1).trans hs2⟩
 cases x<;>first|exact Rel.leaves _ rfl h2 (fin h1)|exact h1.elim
structure RetN(τ:q8)(ps:List (Nm×Pl))(k:Nat)(post:List Nm→AV×List (Nm×Pl))(r:AV)(σ:q8):Prop where
 ex:∃(F:List Nm) (qs:List Nm),qs.length=k∧qs.Nodup∧(∀q∈qs,eraN τ (ps.map (·.1)) q=none)∧((post qs).2.map (·.1)).Nodup∧Frz σ F r (post qs).1∧Sub (pQ (eraN τ (ps.map (·.1))) (post qs).2) (eraN σ F)
theorem LSpecN.intro(hT:TOk P T){f:FuncId}{fn:Func}{c:Code}{args:List AV}{ps:List (Nm×Pl)}{k:Nat}{post:List Nm→AV×List (Nm×Pl)}(hf:P.funcs[f]? = some fn)(hb:fn.body=some c)(hname:(fn.name == "runtime.NumGoroutine")=false)(hl:args.length≤fn.ntmps)(hpost:∀qs,qs.length=k→(∀x∈(post qs).2,x.1∈qs∨x.1∈ps.map (·.1))∧(qs.Nodup→(∀q∈qs,q∉ps.map (·.1))→((post qs).2.map (·.1)).Nodup))
   (h:∀τ:q8,(∀x∈ps,τ x.1=some x.2)→(ps.map (·.1)).Nodup→SWp P G fn.ntmps c (retQ T fn.results.toList (RetN τ ps k post)) (jJ args) τ):LSpecN P G f args ps k post:=by
 refine⟨⟨fn,hf,hname,by rw[hb];rfl⟩,hpost,fun τ w vs hm hg hps hnd hr=>?_⟩
 refine callsIn_wide.1 (callsIn_of_wp_marks (n:=0) hf hb trivial ?_)
 have hrel:Rel G fn.ntmps (jJ args) τ τ w ⟨vs++Array.replicate (fn.ntmps-vs.size) undef,[]⟩ w:=by
   refine⟨by have:=hr.1;simp;omega,Dfr.nil,fun x=>?_,hm,Stp.refl τ w,hg⟩
   unfold jJ
   by_cases hx:x<args.length
   · have e1:(vs++Array.replicate (fn.ntmps-vs.size) undef).getD x undef=vs.getD x undef:=by
       simp only[Array.getD_eq_getD_getElem?];rw[Array.getElem?_append_left (by rw[←hr.1];exact hx)]
     rw[e1]
     exact hr.2 x hx
   · have e1:args.getD x .any=.any:=by simp[List.getD_eq_getElem?_getD,List.getElem?_eq_none (Nat.le_of_not_lt hx)]
     rw[e1]
     exact .any _
 refine wpIn_mono ((h τ hps hnd).run (ro:=none) τ w _ w hrel rfl) ?_
 rintro x a' w' ⟨e',σ',h1,h2⟩
 have fin:(v8 T e' σ' fn.results.toList fun vs=>force (one vs) fun r=>RetN τ ps k post r σ')→∀(b':Act) (w2:World),b'.tmps=a'.tmps→Rel G fn.ntmps e' σ' τ w b' w2→∃v,(results fn b'.tmps).run P w2=.ok v w2∧∃u q,Ending.returned v=.returned u∧q.length=k∧q.Nodup∧(∀x∈q,eraN τ (ps.map (·.1)) x=none)∧((post q).2.map (·.1)).Nodup ∧
     Rd (pQ (eraN τ (ps.map (·.1))) (post q).2) w2 (post q).1 u∧Mem (pQ (eraN τ (ps.map (·.1))) (post q).2) w2∧Stp τ w (pQ (eraN τ (ps.map (·.1))) (post q).2) w2:=by
   intro h1 b' w2 hbt h2
   obtain⟨v,us,k1,h1,k2⟩:=wV hT h2 h1
   rw[zx] at h1
   obtain⟨⟨F,q,gl,gi,g1,gn,g2,g3⟩⟩:=h1
   have hsub:∀b,eraN σ' F b=none→pQ (eraN τ (ps.map (·.1))) (post q).2 b=none:=fun b hb=>by
     cases hc:pQ (eraN τ (ps.map (·.1))) (post q).2 b with
     | none=>rfl
     | some c=>rw[g3 b c hc] at hb;cases hb
   have hs1:Stp σ' w2 (eraN σ' F) w2:=Stp.forget _ _ w2 fun b hb=>qF σ' F hb
   have hs2:Stp (eraN σ' F) w2 (pQ (eraN τ (ps.map (·.1))) (post q).2) w2:=Stp.forget _ _ w2 fun b hb=>hsub _ hb
   refine⟨v,k1,v,q,rfl,gl,gi,g1,gn,(g2.sound h2.mem k2).mono hs2,(h2.mem.forget (xx σ' F)).forget g3,(h2.st.trans hs1).trans hs2⟩
 cases x<;>first|exact Rel.leaves _ rfl h2 (fin h1)|exact h1.elim
theorem LSpecF.intro(hT:TOk P T){ι:Type}(i0:ι){f:FuncId}{fn:Func}{c:Code}{args:List AV}{ps:List (Nm×Pl)}{k:Nat}{post:ι→List Nm→AV×List (Nm×Pl)}(hf:P.funcs[f]? = some fn)(hb:fn.body=some c)(hname:(fn.name == "runtime.NumGoroutine")=false)(hl:args.length≤fn.ntmps)(hpost:∀i qs,qs.length=k→(∀x∈(post i qs).2,x.1∈qs∨x.1∈ps.map (·.1))∧(qs.Nodup→(∀q∈qs,q∉ps.map (·.1))→((post i qs).2.map (·.1)).Nodup))
   (h:∀τ:q8,(∀x∈ps,τ x.1=some x.2)→(ps.map (·.1)).Nodup→SWp P G fn.ntmps c (retQ T fn.results.toList (fun r σ=>∃i,RetN τ ps k (post i) r σ)) (jJ args) τ):LSpecF ι P G f args ps k post:=by
 refine⟨⟨fn,hf,hname,by rw[hb];rfl⟩,hpost,⟨i0,trivial⟩,fun τ w vs hm hg hps hnd hr=>?_⟩
 refine callsIn_wide.1 (callsIn_of_wp_marks (n:=0) hf hb trivial ?_)
 have hrel:Rel G fn.ntmps (jJ args) τ τ w ⟨vs++Array.replicate (fn.ntmps-vs.size) undef,[]⟩ w:=by
   refine⟨by have:=hr.1;simp;omega,Dfr.nil,fun x=>?_,hm,Stp.refl τ w,hg⟩
   unfold jJ
   by_cases hx:x<args.length
   · have e1:(vs++Array.replicate (fn.ntmps-vs.size) undef).getD x undef=vs.getD x undef:=by
       simp only[Array.getD_eq_getD_getElem?];rw[Array.getElem?_append_left (by rw[←hr.1];exact hx)]
     rw[e1]
     exact hr.2 x hx
   · have e1:args.getD x .any=.any:=by simp[List.getD_eq_getElem?_getD,List.getElem?_eq_none (Nat.le_of_not_lt hx)]
     rw[e1]
     exact .any _
 refine wpIn_mono ((h τ hps hnd).run (ro:=none) τ w _ w hrel rfl) ?_
 rintro x a' w' ⟨e',σ',h1,h2⟩
 have fin:(v8 T e' σ' fn.results.toList fun vs=>force (one vs) fun r=>∃i,RetN τ ps k (post i) r σ')→∀(b':Act) (w2:World),b'.tmps=a'.tmps→Rel G fn.ntmps e' σ' τ w b' w2→∃v,(results fn b'.tmps).run P w2=.ok v w2∧∃u i q,Ending.returned v=.returned u∧q.length=k∧q.Nodup∧(∀x∈q,eraN τ (ps.map (·.1)) x=none)∧((post i q).2.map (·.1)).Nodup ∧
     Rd (pQ (eraN τ (ps.map (·.1))) (post i q).2) w2 (post i q).1 u∧Mem (pQ (eraN τ (ps.map (·.1))) (post i q).2) w2∧Stp τ w (pQ (eraN τ (ps.map (·.1))) (post i q).2) w2:=by
   intro h1 b' w2 hbt h2
   obtain⟨v,us,k1,h1,k2⟩:=wV hT h2 h1
   rw[zx] at h1
   obtain⟨i,⟨F,q,gl,gi,g1,gn,g2,g3⟩⟩:=h1
   have hsub:∀b,eraN σ' F b=none→pQ (eraN τ (ps.map (·.1))) (post i q).2 b=none:=fun b hb=>by
     cases hc:pQ (eraN τ (ps.map (·.1))) (post i q).2 b with
     | none=>rfl
     | some c=>rw[g3 b c hc] at hb;cases hb
   have hs1:Stp σ' w2 (eraN σ' F) w2:=Stp.forget _ _ w2 fun b hb=>qF σ' F hb
   have hs2:Stp (eraN σ' F) w2 (pQ (eraN τ (ps.map (·.1))) (post i q).2) w2:=Stp.forget _ _ w2 fun b hb=>hsub _ hb
   refine⟨v,k1,v,i,q,rfl,gl,gi,g1,gn,(g2.sound h2.mem k2).mono hs2,(h2.mem.forget (xx σ' F)).forget g3,(h2.st.trans hs1).trans hs2⟩
 cases x<;>first|exact Rel.leaves _ rfl h2 (fin h1)|exact h1.elim
end
open Go.RowKit
section
variable {P:Program}{T:Tys}{G:Nat→AV}{N:Nat}
theorem AB.mono{t:Bool}{A B A' B':Prop}(h:AB t A B)(ha:A→A')(hb:B→B'):AB t A' B':=⟨fun e=>ha (h.yes e),fun e=>hb (h.no e)⟩
theorem ABox.mono{t:TypeId}{x:AV}{σ:q8}{K K':AV→q8→Prop}(h:ABox t x σ K)(hk:∀v σ',K v σ'→K' v σ'):ABox t x σ K':=by
 unfold ABox at *
 split at h
 · exact⟨fun p hp=>hk _ _ (h.go p hp)⟩
 · exact h
def cls:Op→Nat
 | .move _|.assign _|.pick .. | .build .. | .nilCheck _|.binOp .. | .unOp .. | .convert .. | .slice .. | .fieldAddr .. | .field .. | .indexAddr .. | .index .. | .extract .. | .makeFunc .. | .lookup .. => 0
 | .load .. => 1
 | .alloc _|.box .. | .buildSlice .. | .makeSlice .. => 2
 | .call c=>(match c.callee with
   | .builtin .len|.builtin .cap|.builtin .min|.builtin .max=>0
   | _=>3)
 | _=>3
theorem bAV_inj:∀{l m:List UInt8},l.map bAV=m.map bAV→l=m:=by
 intro l
 induction l with
 | nil=>intro m h;cases m with
   | nil=>rfl
   | cons y m=>simp at h
 | cons x l ih=>intro m h;cases m with
   | nil=>simp at h
   | cons y m =>
     simp only[List.map_cons,List.cons.injEq] at h
     obtain⟨h1,h2⟩:=h
     unfold bAV at h1
     injection h1 with _ h1
     have:x=y:=UInt8.toNat_inj.1 (by omega)
     rw[this,ih h2]
def Pure(X:q8→(AV→q8→Prop)→Prop):Prop:=∀σ1 K1,X σ1 K1→∃u,∀σ K,X σ K↔K u σ
def PureV(Y:(AV→Prop)→Prop):Prop:=∀K1,Y K1→∃u,∀K,Y K↔K u
theorem PureV.lift{Y:(AV→Prop)→Prop}(h:PureV Y):Pure fun σ K=>Y fun v=>K v σ:=fun σ1 K1 h1=>by
 obtain⟨u,hu⟩:=h _ h1
 exact⟨u,fun σ K=>hu fun v=>K v σ⟩
theorem pv_pick(t:Bool)(a b:AV):Pure fun σ K=>AB t (K a σ) (K b σ):=fun _ _ _=>by
 cases t with
 | true=>exact⟨a,fun σ K=>⟨fun h=>h.yes rfl,fun h=>⟨fun _=>h,fun e=>absurd e (by decide)⟩⟩⟩
 | false=>exact⟨b,fun σ K=>⟨fun h=>h.no rfl,fun h=>⟨fun e=>absurd e (by decide),fun _=>h⟩⟩⟩
theorem pv_AFa(t:TypeId)(x:AV)(f:Nat):PureV (AFa T t x f):=by
 intro K1 h
 unfold AFa at h ⊢
 split at h
 case h_2=>exact h.elim
 split at h
 case h_2=>exact h.elim
 split at h
 case h_2=>exact h.elim
 obtain⟨h0,h⟩:=h
 split at h
 · exact⟨_,fun K=>⟨fun h=>h.2,fun h=>⟨h0,h⟩⟩⟩
 · exact⟨_,fun K=>⟨fun h=>h.2,fun h=>⟨h0,h⟩⟩⟩
 · exact h.elim
theorem pv_AIx(t:TypeId)(x i:AV):PureV (AIx T t x i):=by
 intro K1 h
 unfold AIx at h ⊢
 split at h
 · split at h
   case h_2=>exact h.elim
   split at h
   · obtain⟨h1,h2,h⟩:=h
     exact⟨_,fun K=>⟨fun h=>h.2.2,fun h=>⟨h1,h2,h⟩⟩⟩
   · obtain⟨h1,h2,h⟩:=h
     exact⟨_,fun K=>⟨fun h=>h.2.2,fun h=>⟨h1,h2,h⟩⟩⟩
   · obtain⟨h1,h2,h⟩:=h
     exact⟨_,fun K=>⟨fun h=>h.2.2,fun h=>⟨h1,h2,h⟩⟩⟩
   · exact h.elim
 · split at h
   case h_2=>exact h.elim
   obtain⟨h1,h2,h⟩:=h
   split at h
   · exact⟨_,fun K=>⟨fun h=>h.2.2,fun h=>⟨h1,h2,h⟩⟩⟩
   · exact⟨_,fun K=>⟨fun h=>h.2.2,fun h=>⟨h1,h2,h⟩⟩⟩
   · exact h.elim
 · exact h.elim
theorem pv_AFd(t:TypeId)(x:AV)(f:Nat):PureV (AFd T t x f):=by
 intro K1 h
 unfold AFd at h ⊢
 split at h
 case h_2=>exact h.elim
 split at h
 case h_2=>exact h.elim
 split at h
 case h_2=>exact h.elim
 obtain⟨h1,h2,h⟩:=h
 exact⟨_,fun K=>⟨fun h=>h.2.2,fun h=>⟨h1,h2,h⟩⟩⟩
theorem pv_AEl(t:TypeId)(x i:AV):PureV (AEl T t x i):=by
 intro K1 h
 unfold AEl at h ⊢
 split at h
 case h_2=>exact h.elim
 split at h
 case h_2=>exact h.elim
 obtain⟨h1,h2,h3,h4,h⟩:=h
 exact⟨_,fun K=>⟨fun h=>h.2.2.2.2.go,fun h=>⟨h1,h2,h3,h4,⟨h⟩⟩⟩⟩
theorem pv_ABd(t:TypeId)(ps:List (Nat×AV)):PureV (ABd T t ps):=by
 intro K1 h
 unfold ABd at h ⊢
 split at h
 · split at h
   case h_2=>exact h.elim
   split at h
   case h_2=>exact h.elim
   exact⟨_,fun K=>Iff.rfl⟩
 · split at h
   case h_2=>exact h.elim
   split at h
   case h_2=>exact h.elim
   exact⟨_,fun K=>Iff.rfl⟩
 · exact h.elim
theorem yp(op:BinOp)(t:TypeId)(b:Bool)(ok:Prop):PureV (ANil T op t b ok):=by
 intro K1 h
 unfold ANil at h ⊢
 split at h
 case h_2=>exact h.elim
 split at h
 · exact⟨_,fun K=>⟨fun h=>h.2,fun k=>⟨h.1,k⟩⟩⟩
 · exact⟨_,fun K=>⟨fun h=>h.2,fun k=>⟨h.1,k⟩⟩⟩
 · exact h.elim
theorem pv_AEq(op:BinOp)(t:TypeId)(cs ds:List AV):PureV (AEq P T op t cs ds):=by
 intro K1 h
 unfold AEq at h ⊢
 split at h
 case h_2=>exact h.elim
 split at h
 case h_2=>exact h.elim
 split at h
 case h_2=>exact h.elim
 split at h
 · exact⟨_,fun K=>⟨fun h=>h.2,fun k=>⟨h.1,k⟩⟩⟩
 · exact⟨_,fun K=>⟨fun h=>h.2,fun k=>⟨h.1,k⟩⟩⟩
 · exact h.elim
theorem pv_ABin(op:BinOp)(t:TypeId)(x y:AV):PureV (ABin P T op t x y):=by
 intro K1 h
 unfold ABin at h ⊢
 split at h
 · cases op<;>simp only at h ⊢
   case shl|shr=>exact⟨_,fun K=>⟨fun h=>h.2,fun k=>⟨h.1,k⟩⟩⟩
   case quo|rem =>
     split at h
     · rename_i hk
       simp only[if_pos hk]
       exact⟨_,fun K=>⟨fun h=>h.2,fun k=>⟨h.1,k⟩⟩⟩
     · exact h.elim
   all_goals
     split at h
     · rename_i hk
       simp only[if_pos hk]
       exact⟨_,fun K=>Iff.rfl⟩
     · exact h.elim
 · split at h
   · exact⟨_,fun K=>Iff.rfl⟩
   · exact⟨_,fun K=>Iff.rfl⟩
   · exact h.elim
 · split at h
   case h_2=>exact h.elim
   split at h
   · exact⟨_,fun K=>Iff.rfl⟩
   · exact⟨_,fun K=>Iff.rfl⟩
   · exact h.elim
 · exact yp _ _ _ _ _ h
 · exact yp _ _ _ _ _ h
 · exact yp _ _ _ _ _ h
 · exact yp _ _ _ _ _ h
 · exact yp _ _ _ _ _ h
 · exact pv_AEq _ _ _ _ _ h
 · exact h.elim
theorem pv_ACap(x:AV):PureV (ACap x):=by
 intro K1 h
 unfold ACap at h ⊢
 split at h
 · exact⟨_,fun K=>Iff.rfl⟩
 · exact⟨_,fun K=>Iff.rfl⟩
 · exact h.elim
theorem pv_AUn(op:UnOp)(x:AV):PureV (AUn op x):=by
 intro K1 h
 unfold AUn at h ⊢
 split at h
 · exact⟨_,fun K=>Iff.rfl⟩
 · exact⟨_,fun K=>Iff.rfl⟩
 · exact⟨_,fun K=>Iff.rfl⟩
 · exact h.elim
theorem pv_AMin(m:Bool)(x y:AV):PureV (AMin m x y):=by
 intro K1 h
 unfold AMin at h ⊢
 split at h
 · exact⟨_,fun K=>Iff.rfl⟩
 · exact h.elim
theorem pv_ALen(x:AV):PureV (ALen x):=by
 intro K1 h
 unfold ALen at h ⊢
 split at h
 · exact⟨_,fun K=>Iff.rfl⟩
 · exact⟨_,fun K=>Iff.rfl⟩
 · exact⟨_,fun K=>Iff.rfl⟩
 · exact⟨_,fun K=>Iff.rfl⟩
 · exact⟨_,fun K=>Iff.rfl⟩
 · exact h.elim
theorem pv_ACv(s d:TypeId)(x:AV):PureV (ACv T s d x):=by
 intro K1 h
 unfold ACv at h ⊢
 split at h
 · exact⟨_,fun K=>Iff.rfl⟩
 · split at h
   case h_2=>exact h.elim
   obtain⟨l,h1,h2,h⟩:=h
   refine⟨_,fun K=>⟨?_,fun k=>⟨l,h1,h2,k⟩⟩⟩
   rintro⟨m,k1,-,k⟩
   rw[h1] at k1
   rw[bAV_inj k1]
   exact k
 · split at h
   case h_2=>exact h.elim
   exact⟨_,fun K=>Iff.rfl⟩
 · exact h.elim
theorem pv_ASl(t:TypeId)(x:AV)(lo hi:Option AV):PureV (ASl T t x lo hi):=by
 intro K1 h
 unfold ASl at h ⊢
 simp only[AQ.iff] at h ⊢
 split at h
 case h_3=>exact h.elim
 case h_1 =>
   split at h
   case h_2=>exact h.elim
   split at h
   case h_2=>exact h.elim
   obtain⟨h1,h2,h3,h4,h5,h⟩:=h
   exact⟨_,fun K=>⟨fun h=>h.2.2.2.2.2,fun k=>⟨h1,h2,h3,h4,h5,k⟩⟩⟩
 split at h
 case h_2=>exact h.elim
 split at h
 · split at h
   case h_2=>exact h.elim
   obtain⟨h1,h2,h3,h4,h⟩:=h
   exact⟨_,fun K=>⟨fun h=>h.2.2.2.2,fun k=>⟨h1,h2,h3,h4,k⟩⟩⟩
 · split at h
   case h_2=>exact h.elim
   rename_i p off n sz _ _ l h' _ _
   obtain⟨h1,h2,h3,h4,h5⟩:=h
   exact⟨_,fun K=>⟨fun h=>h.2.2.2.2,fun k=>⟨h1,h2,h3,h4,k⟩⟩⟩
 · split at h
   case h_2=>exact h.elim
   rename_i p off n cap sz _ _ l h' _ _
   obtain⟨h1,h2,h3,h4,h5,h6⟩:=h
   by_cases hc:l=0∧h'<n
   · exact⟨_,fun K=>⟨fun h=>h.2.2.2.2.2.yes (decide_eq_true hc),fun k=>⟨h1,h2,h3,h4,h5,⟨fun _=>k,fun n=>absurd hc (of_decide_eq_false n)⟩⟩⟩⟩
   · exact⟨_,fun K=>⟨fun h=>h.2.2.2.2.2.no (decide_eq_false hc),fun k=>⟨h1,h2,h3,h4,h5,⟨fun n=>absurd (of_decide_eq_true n) hc,fun _=>k⟩⟩⟩⟩
 · split at h
   case h_2=>exact h.elim
   obtain⟨h1,h2,h⟩:=h
   exact⟨_,fun K=>⟨fun h=>h.2.2,fun k=>⟨h1,h2,k⟩⟩⟩
 · exact h.elim
theorem pv_ASl3(t:TypeId)(x:AV)(lo:Option AV)(hi mx:AV):PureV (ASl3 T t x lo hi mx):=by
 intro K1 h
 unfold ASl3 at h ⊢
 simp only[AQ.iff] at h ⊢
 split at h
 case h_2=>exact h.elim
 split at h
 case h_2=>exact h.elim
 split at h
 case h_2=>exact h.elim
 split at h
 case h_2=>exact h.elim
 obtain⟨h1,h2,h3,h4,h5,h⟩:=h
 exact⟨_,fun K=>⟨fun h=>h.2.2.2.2.2,fun k=>⟨h1,h2,h3,h4,h5,k⟩⟩⟩
theorem pv_ALk(t:TypeId)(m x:AV)(ok:Bool):PureV (ALk T t m x ok):=by
 intro K1 h
 unfold ALk at h ⊢
 simp only[AFind.iff] at h ⊢
 split at h
 case h_2=>exact h.elim
 split at h
 case h_2=>exact h.elim
 split at h
 · exact⟨_,fun K=>Iff.rfl⟩
 · exact⟨_,fun K=>Iff.rfl⟩
theorem wt{op:Op}(hc:cls op=0)(ρ:Operand→AV):Pure (opA P T G op ρ):=by
 intro σ1 K1 h
 cases op<;>simp only[cls] at hc<;>first|(cases hc;done)|skip
 case move x=>exact⟨ρ x,fun σ K=>Iff.rfl⟩
 case assign x=>exact⟨ρ x,fun σ K=>Iff.rfl⟩
 case pick c a b =>
   simp only[opA] at h ⊢
   split at h
   · exact pv_pick _ _ _ _ _ h
   · exact h.elim
 case build t ps=>exact(pv_ABd t _).lift σ1 K1 h
 case nilCheck x =>
   simp only[opA] at h ⊢
   split at h
   · exact⟨_,fun σ K=>Iff.rfl⟩
   · exact⟨_,fun σ K=>Iff.rfl⟩
   · exact h.elim
 case binOp op t x y yt=>exact(pv_ABin op t _ _).lift σ1 K1 h
 case unOp op t x=>exact(pv_AUn op _).lift σ1 K1 h
 case convert s d x=>exact(pv_ACv s d _).lift σ1 K1 h
 case makeFunc fn first captured=>exact⟨_,fun σ K=>Iff.rfl⟩
 case slice t x lo hi mx =>
   cases mx with
   | none=>exact(pv_ASl t _ _ _).lift σ1 K1 h
   | some m =>
     cases hi with
     | none=>exact h.elim
     | some hi=>exact(pv_ASl3 t _ _ _ _).lift σ1 K1 h
 case fieldAddr t x f=>exact(pv_AFa t _ f).lift σ1 K1 h
 case field t x f=>exact(pv_AFd t _ f).lift σ1 K1 h
 case indexAddr t x i=>exact(pv_AIx t _ _).lift σ1 K1 h
 case index t x i=>exact(pv_AEl t _ _).lift σ1 K1 h
 case lookup t m x ok=>exact(pv_ALk t _ _ ok).lift σ1 K1 h
 case extract x i =>
   simp only[opA] at h ⊢
   split at h
   · exact⟨_,fun σ K=>⟨fun h=>h.2,fun k=>⟨h.1,k⟩⟩⟩
   · exact h.elim
 case call c =>
   obtain⟨callee,args,argTypes⟩:=c
   cases callee with
   | value f=>cases hc
   | invoke r m=>cases hc
   | builtin b =>
     cases b<;>first|(cases hc;done)|skip
     case len =>
       simp only[opA] at h ⊢
       split at h
       case h_2=>exact h.elim
       split at h
       case h_2=>exact h.elim
       exact(pv_ALen _).lift σ1 K1 h
     case cap =>
       simp only[opA] at h ⊢
       split at h
       case h_2=>exact h.elim
       split at h
       case h_2=>exact h.elim
       exact(pv_ACap _).lift σ1 K1 h
     case min =>
       simp only[opA] at h ⊢
       split at h
       case h_2=>exact h.elim
       exact(pv_AMin false _ _).lift σ1 K1 h
     case max =>
       simp only[opA] at h ⊢
       split at h
       case h_2=>exact h.elim
       exact(pv_AMin true _ _).lift σ1 K1 h
end
open Go.RowKit
section
variable {P:Program}{T:Tys}{G:Nat→AV}{N:Nat}
def Fin(σ:q8):Prop:=∃B,∀b,B≤b→σ (.b b)=none∧σ (.v b)=none
theorem Mem.toFin{σ:q8}{w:World}(h:Mem σ w):Fin σ:=by
 obtain⟨B,hB⟩:=h.fin
 exact⟨B+w.heap.size,fun b hb=>⟨h.fresh (by omega),hB b (by omega)⟩⟩
theorem Fin.upd{σ:q8}(h:Fin σ)(p:Nm)(c:Pl):Fin (upd σ p c):=by
 obtain⟨B,hB⟩:=h
 cases p with
 | b n=>exact⟨B+n+1,fun b hb=>⟨by rw[qe _ _ (by simp;omega)];exact(hB b (by omega)).1,by rw[qe _ _ (by simp)];exact(hB b (by omega)).2⟩⟩
 | v n=>exact⟨B+n+1,fun b hb=>⟨by rw[qe _ _ (by simp)];exact(hB b (by omega)).1,by rw[qe _ _ (by simp;omega)];exact(hB b (by omega)).2⟩⟩
theorem Fin.sub{σ σ':q8}(h:Fin σ)(hs:∀b,σ b=none→σ' b=none):Fin σ':=by
 obtain⟨B,hB⟩:=h
 exact⟨B,fun b hb=>⟨hs _ (hB b hb).1,hs _ (hB b hb).2⟩⟩
theorem Fin.era{σ:q8}(h:Fin σ)(p:Nm):Fin (era σ p):=h.sub fun b hb=>by unfold Go.Proofs.YtndpmpnmkpaklaaGreatDoor.era;split<;>first|rfl|exact hb
theorem Fin.eraN{σ:q8}(h:Fin σ)(l:List Nm):Fin (eraN σ l):=h.sub fun _ hb=>qF σ l hb
theorem Fin.pQ{σ:q8}(h:Fin σ):∀l:List (Nm×Pl),Fin (pQ σ l)
 | []=>h
 | _::l=>(Fin.pQ h l).upd _ _
theorem Fin.some2{σ:q8}(h:Fin σ)(L:List Nm):∃q,σ q=none∧q∉L:=by
 obtain⟨B,hB⟩:=h
 have hb:∃M,∀k,M≤k→Nm.b k∉L:=by
   induction L with
   | nil=>exact⟨0,by simp⟩
   | cons x L ih =>
     obtain⟨M,hM⟩:=ih
     cases x with
     | b n=>exact⟨M+n+1,fun k hk=>by simp only[List.mem_cons,not_or];exact⟨fun e=>by injection e with e;omega,hM k (by omega)⟩⟩
     | v n=>exact⟨M,fun k hk=>by simp only[List.mem_cons,not_or];exact⟨nofun,hM k hk⟩⟩
 obtain⟨M,hM⟩:=hb
 exact⟨.b (B+M),(hB _ (by omega)).1,hM _ (by omega)⟩
theorem Fin.some{σ:q8}(h:Fin σ):∃q,σ q=none:=by
 obtain⟨B,hB⟩:=h
 exact⟨.b B,(hB B (Nat.le_refl _)).1⟩
abbrev XF:=q8→(AV→q8→Prop)→Prop
def yd(X:XF):Prop:=∀σ K K',X σ K→(∀v σ',K v σ'→K' v σ')→X σ K'
def vQ(X:XF):Prop:=∀σ K,Fin σ→X σ K→∃v σ',K v σ'
def vR(X:XF):Prop:=∀σ K,Fin σ→X σ K→X σ fun v σ'=>Fin σ'∧K v σ'
def yP(X:XF):Prop:=∀σ K q c,X σ K→σ q=none→X (upd σ q c) fun v σ2=>∃σ1,σ2=upd σ1 q c∧σ1 q=none∧K v σ1
def Alloc(X:XF):Prop:=∀σ1 K1,X σ1 K1→∃(c:Pl) (r:Nm→AV),∀σ K,X σ K↔∀q,σ q=none→K (r q) (upd σ q c)
theorem Pure.mono{X:XF}(h:Pure X):yd X:=fun σ K K' hx hk=>by
 obtain⟨u,hu⟩:=h σ K hx
 exact(hu σ K').2 (hk _ _ ((hu σ K).1 hx))
theorem Pure.nonv{X:XF}(h:Pure X):vQ X:=fun σ K _ hx=>by
 obtain⟨u,hu⟩:=h σ K hx
 exact⟨u,σ,(hu σ K).1 hx⟩
theorem Pure.fin{X:XF}(h:Pure X):vR X:=fun σ K hf hx=>by
 obtain⟨u,hu⟩:=h σ K hx
 exact(hu σ _).2 ⟨hf,(hu σ K).1 hx⟩
theorem Alloc.mono{X:XF}(h:Alloc X):yd X:=fun σ K K' hx hk=>by
 obtain⟨c,r,hu⟩:=h σ K hx
 exact(hu σ K').2 fun q hq=>hk _ _ ((hu σ K).1 hx q hq)
theorem Alloc.nonv{X:XF}(h:Alloc X):vQ X:=fun σ K hf hx=>by
 obtain⟨c,r,hu⟩:=h σ K hx
 obtain⟨q,hq⟩:=hf.some
 exact⟨_,_,(hu σ K).1 hx q hq⟩
theorem Alloc.fin{X:XF}(h:Alloc X):vR X:=fun σ K hf hx=>by
 obtain⟨c,r,hu⟩:=h σ K hx
 exact(hu σ _).2 fun q hq=>⟨hf.upd _ _,(hu σ K).1 hx q hq⟩
theorem wx{t:TypeId}{x:AV}{σ1:q8}{K1:AV→Prop}(h:ALd T t x σ1 K1) :
   ∃u,K1 u∧∀σ K,(∀p o,x=.ptr p o→σ p=σ1 p)→(ALd T t x σ K↔K u):=by
 unfold ALd at h ⊢
 simp only[AC.iff] at h ⊢
 split at h
 · rename_i i p off _
   obtain⟨⟨c,h1,h2,h3,h⟩⟩:=h
   refine⟨_,h,fun σ K ha=>⟨?_,fun k=>⟨c,(ha p off rfl).trans h1,h2,h3,k⟩⟩⟩
   rintro⟨⟨c',k1,-,-,k⟩⟩
   rw[ha p off rfl,h1] at k1
   cases k1
   exact k
 · obtain⟨h1,h2,h⟩:=h
   exact⟨_,h,fun σ K _=>⟨fun k=>k.2.2,fun k=>⟨h1,h2,k⟩⟩⟩
 · exact h.elim
theorem load_mono{t:TypeId}{x:Operand}{ρ:Operand→AV}:yd (opA P T G (.load t x) ρ):=fun σ K K' hx hk=>by
 have hx:ALd T t (ρ x) σ fun v=>K v σ:=hx
 obtain⟨u,h1,h2⟩:=wx hx
 exact(h2 σ (fun v=>K' v σ) fun _ _ _=>rfl).2 (hk _ _ h1)
theorem box_alloc(t:TypeId)(x:AV):Alloc (ABox t x):=fun σ1 K1 h=>by
 unfold ABox at h ⊢
 split at h
 · exact⟨_,fun q=>.ptr q 0,fun σ K=>⟨fun h=>h.go,fun h=>⟨h⟩⟩⟩
 · exact h.elim
theorem jh{op:Op}(hc:cls op=2)(ρ:Operand→AV):Alloc (opA P T G op ρ):=by
 intro σ1 K1 h
 cases op<;>simp only[cls] at hc<;>first|(cases hc;done)|skip
 case alloc t =>
   simp only[opA,AAlloc] at h ⊢
   split at h
   · exact box_alloc _ _ σ1 K1 h
   · exact h.elim
 case box t x=>exact box_alloc _ _ σ1 K1 h
 case buildSlice t n ps =>
   simp only[opA,ABs] at h ⊢
   obtain⟨h0,h⟩:=h
   split at h
   case h_2=>exact h.elim
   split at h
   case h_2=>exact h.elim
   obtain⟨h1,h2,h⟩:=h
   split at h
   case h_2=>exact h.elim
   split at h
   case h_2=>exact h.elim
   rename_i e _ _ _ j _ _ z _ _ cs _
   exact⟨_,fun q=>.vw q 0 n j.size,fun σ K=>⟨fun k=>k.2.2.2.go.go,fun k=>⟨h0,h1,h2,⟨⟨k⟩⟩⟩⟩⟩
 case makeSlice t l c =>
   simp only[opA] at h ⊢
   split at h
   · simp only[AMkC] at h ⊢
     split at h
     case h_2=>exact h.elim
     split at h
     case h_2=>exact h.elim
     obtain⟨h1,h2,h3,h4,h5,h⟩:=h
     split at h
     case h_2=>exact h.elim
     obtain⟨h6,h⟩:=h
     rename_i n _ _ _ _ _ _ j _ _ z _
     exact⟨_,fun q=>.vc q 0 _ _ j.size,fun σ K=>⟨fun k=>k.2.2.2.2.2.2.go.go,fun k=>⟨h1,h2,h3,h4,h5,h6,⟨⟨k⟩⟩⟩⟩⟩
   simp only[AMk] at h ⊢
   split at h
   case h_2=>exact h.elim
   split at h
   case h_2=>exact h.elim
   obtain⟨h1,h2,h3,h4,h5,h⟩:=h
   split at h
   case h_2=>exact h.elim
   obtain⟨h6,h⟩:=h
   rename_i n _ _ _ _ _ _ j _ _ z _
   exact⟨_,fun q=>.vw q 0 _ j.size,fun σ K=>⟨fun k=>k.2.2.2.2.2.2.go.go,fun k=>⟨h1,h2,h3,h4,h5,h6,⟨⟨k⟩⟩⟩⟩⟩
 case call c =>
   obtain⟨callee,args,argTypes⟩:=c
   cases callee with
   | value f=>cases hc
   | invoke r m=>cases hc
   | builtin b=>cases b<;>cases hc
theorem Frz.local{σ:q8}{F:List Nm}{a a':AV}(h:Frz σ F a a'){q:Nm}(c:Pl)(hq:σ q=none):Frz (upd σ q c) (F.filter fun p=>decide (p≠q)) a a':=by
 induction h with
 | refl a=>exact .refl a
 | any a=>exact .any a
 | nils=>exact .nils
 | vw p off n sz c' cs hp hc hl hn h0 _ ih =>
   have hne:p≠q:=fun e=>by subst e;rw[hq] at hc;cases hc
   exact .vw p off n sz c' cs (by simp[hp,hne]) (by rw[qe _ _ hne];exact hc) hl hn h0 ih
 | ap p off n sz c' cs hp hc hl hn _ ih =>
   have hne:p≠q:=fun e=>by subst e;rw[hq] at hc;cases hc
   exact .ap p off n sz c' cs (by simp[hp,hne]) (by rw[qe _ _ hne];exact hc) hl hn ih
 | vc p off n cap sz a _ ih=>exact .vc p off n cap sz a ih
 | agg xs ys hl _ ih=>exact .agg xs ys hl ih
 | tup xs ys hl _ ih=>exact .tup xs ys hl ih
 | sl n xs ys hl _ ih=>exact .sl n xs ys hl ih
theorem w8(σ:q8)(q:Nm)(c:Pl):∀l:List Nm,q∉l→eraN (upd σ q c) l=upd (eraN σ l) q c
 | [],_=>rfl
 | p::l,h=>by
   simp only[List.mem_cons,not_or] at h
   unfold eraN
   rw[w8 σ q c l h.2,yG _ _ h.1]
theorem jI(σ:q8)(q:Nm)(hq:σ q=none):∀l:List Nm,eraN σ (l.filter fun p=>decide (p≠q))=eraN σ l
 | []=>rfl
 | p::l=>by
   by_cases hp:p=q
   · subst hp
     rw[List.filter_cons_of_neg (by simp),jI σ p hq l]
     show _=era (eraN σ l) p
     funext x
     by_cases hx:x=p
     · subst hx;rw[qR];exact qF σ l hq
     · rw[z6 _ hx]
   · rw[List.filter_cons_of_pos (by simp[hp])]
     show era _ p=era _ p
     rw[jI σ q hq l]
theorem jg(σ:q8)(q:Nm)(c:Pl):∀l:List (Nm×Pl),(∀x∈l,x.1≠q)→pQ (upd σ q c) l=upd (pQ σ l) q c
 | [],_=>rfl
 | x::l,h=>by
   show Go.Proofs.YtndpmpnmkpaklaaGreatDoor.upd _ x.1 x.2=Go.Proofs.YtndpmpnmkpaklaaGreatDoor.upd (Go.Proofs.YtndpmpnmkpaklaaGreatDoor.upd _ x.1 x.2) q c
   rw[jg σ q c l (fun y hy=>h y (by simp[hy])),xq _ _ _ (fun e=>h x (by simp) e.symm)]
theorem wp(σ:q8)(q:Nm):∀l:List (Nm×Pl),(∀x∈l,x.1≠q)→pQ σ l q=σ q
 | [],_=>rfl
 | x::l,h=>by
   show Go.Proofs.YtndpmpnmkpaklaaGreatDoor.upd _ x.1 x.2 q=_
   rw[qe _ _ (fun e=>h x (by simp) e.symm),wp σ q l (fun y hy=>h y (by simp[hy]))]
theorem call_mono{f:FuncId}{args:List AV}:yd (ACall P G f args):=fun σ K K' hx hk=>by
 rcases hx.ex with ⟨F,args',ps,post,h1,h2,h3,h4,hnd,h5⟩|⟨F,args',r,h1,h2,h3,h4,h5⟩|⟨F,args',ps,k,ι,post,h1,h2,h3,h4,hnd,h5⟩
 · exact⟨.inl ⟨F,args',ps,post,h1,h2,h3,h4,hnd,fun q hq hn=>hk _ _ (h5 q hq hn)⟩⟩
 · exact⟨.inr (.inl ⟨F,args',r,h1,h2,h3,h4,hk _ _ h5⟩)⟩
 · exact⟨.inr (.inr ⟨F,args',ps,k,ι,post,h1,h2,h3,h4,hnd,fun i qs hl hi hq hn=>hk _ _ (h5 i qs hl hi hq hn)⟩)⟩
theorem call_nonv{f:FuncId}{args:List AV}:vQ (ACall P G f args):=fun σ K hf hx=>by
 rcases hx.ex with ⟨F,args',ps,post,h1,h2,h3,h4,hnd,h5⟩|⟨F,args',r,h1,h2,h3,h4,h5⟩|⟨F,args',ps,k,ι,post,h1,h2,h3,h4,hnd,h5⟩
 · obtain⟨q,hq,hqp⟩:=((hf.eraN F).eraN (ps.map (·.1))).some2 (ps.map (·.1))
   exact⟨_,_,h5 q hq ((h3.2.1 q).2 hqp)⟩
 · exact⟨_,_,h5⟩
 · have hfin:=(hf.eraN F).eraN (ps.map (·.1))
   have fresh:∀n,∃qs:List Nm,qs.length=n∧qs.Nodup∧∀q∈qs,eraN (eraN σ F) (ps.map (·.1)) q=none∧q∉ps.map (·.1):=by
     intro n
     induction n with
     | zero=>exact⟨[],rfl,by simp,by simp⟩
     | succ n ih =>
       obtain⟨qs,k1,k2,k3⟩:=ih
       obtain⟨q,m1,m2⟩:=hfin.some2 (ps.map (·.1)++qs)
       simp only[List.mem_append,not_or] at m2
       exact⟨q::qs,by simp[k1],List.nodup_cons.2 ⟨m2.2,k2⟩,fun x hx=>by
         rcases List.mem_cons.1 hx with rfl|hx
         · exact⟨m1,m2.1⟩
         · exact k3 x hx⟩
   obtain⟨qs,k1,k2,k3⟩:=fresh k
   obtain⟨i0,-⟩:=h3.2.2.1
   exact⟨_,_,h5 i0 qs k1 k2 (fun q hq=>(k3 q hq).1) ((h3.2.1 i0 qs k1).2 k2 fun q hq=>(k3 q hq).2)⟩
theorem call_fin{f:FuncId}{args:List AV}:vR (ACall P G f args):=fun σ K hf hx=>by
 rcases hx.ex with ⟨F,args',ps,post,h1,h2,h3,h4,hnd,h5⟩|⟨F,args',r,h1,h2,h3,h4,h5⟩|⟨F,args',ps,k,ι,post,h1,h2,h3,h4,hnd,h5⟩
 · exact⟨.inl ⟨F,args',ps,post,h1,h2,h3,h4,hnd,fun q hq hn=>⟨((hf.eraN F).eraN (ps.map (·.1))).pQ _,h5 q hq hn⟩⟩⟩
 · exact⟨.inr (.inl ⟨F,args',r,h1,h2,h3,h4,hf,h5⟩)⟩
 · exact⟨.inr (.inr ⟨F,args',ps,k,ι,post,h1,h2,h3,h4,hnd,fun i qs hl hi hq hn=>⟨((hf.eraN F).eraN (ps.map (·.1))).pQ _,h5 i qs hl hi hq hn⟩⟩)⟩
theorem call_local{f:FuncId}{args:List AV}:yP (ACall P G f args):=fun σ K q c hx hq=>by
 rcases hx.ex with ⟨F,args',ps,post,h1,h2,h3,h4,hnd,h5⟩|⟨F,args',r,h1,h2,h3,h4,h5⟩|⟨F,args',ps,k,ι,post,h1,h2,h3,h4,hnd,h5⟩
 rotate_left
 · exact⟨.inr (.inl ⟨_,args',r,h1,fun i hi=>(h2 i hi).local c hq,h3,h4,σ,rfl,hq,h5⟩)⟩
 · have hqF:q∉F.filter fun p=>decide (p≠q):=by simp
   have e1:eraN (upd σ q c) (F.filter fun p=>decide (p≠q))=upd (eraN σ F) q c:=by rw[w8 _ _ _ _ hqF,jI σ q hq]
   have hqe:eraN σ F q=none:=qF σ F hq
   have hqp:q∉ps.map (·.1):=fun hm=>by
     obtain⟨x,hx,rfl⟩:=List.mem_map.1 hm
     rw[h4 x hx] at hqe
     cases hqe
   refine⟨.inr (.inr ⟨F.filter fun p=>decide (p≠q),args',ps,k,ι,post,h1,fun i hi=>(h2 i hi).local c hq,h3,fun x hx=>?_,hnd,fun i qs hl hi hq' hn'=>?_⟩)⟩
   · rw[e1,qe _ _ (fun e=>hqp (List.mem_map.2 ⟨x,hx,e⟩))]
     exact h4 x hx
   · rw[e1,w8 _ _ _ _ hqp] at hq' ⊢
     have hne:∀q'∈qs,q'≠q:=fun q' hm e=>by have:=hq' q' hm;subst e;rw[qx] at this;cases this
     have hq2:∀q'∈qs,eraN (eraN σ F) (ps.map (·.1)) q'=none:=fun q' hm=>by have:=hq' q' hm;rw[qe _ _ (hne q' hm)] at this;exact this
     have hnn:∀x∈(post i qs).2,x.1≠q:=fun x hx e=>by
       rcases(h3.2.1 i qs hl).1 x hx with h|h
       · exact hne _ h e
       · exact hqp (e▸h)
     exact⟨_,jg _ _ _ _ hnn,by rw[wp _ _ _ hnn];exact qF _ _ hqe,h5 i qs hl hi hq2 hn'⟩
 have hqF:q∉F.filter fun p=>decide (p≠q):=by simp
 have e1:eraN (upd σ q c) (F.filter fun p=>decide (p≠q))=upd (eraN σ F) q c:=by rw[w8 _ _ _ _ hqF,jI σ q hq]
 have hqe:eraN σ F q=none:=qF σ F hq
 have hqp:q∉ps.map (·.1):=fun hm=>by
   obtain⟨x,hx,rfl⟩:=List.mem_map.1 hm
   rw[h4 x hx] at hqe
   cases hqe
 refine⟨.inl ⟨F.filter fun p=>decide (p≠q),args',ps,post,h1,fun i hi=>(h2 i hi).local c hq,h3,fun x hx=>?_,hnd,fun q' hq' hn'=>?_⟩⟩
 · rw[e1,qe _ _ (fun e=>hqp (List.mem_map.2 ⟨x,hx,e⟩))]
   exact h4 x hx
 · rw[e1,w8 _ _ _ _ hqp] at hq' ⊢
   have hne:q'≠q:=fun e=>by subst e;rw[qx] at hq';cases hq'
   rw[qe _ _ hne] at hq'
   have hnn:∀x∈(post q').2,x.1≠q:=fun x hx e=>by
     rcases(h3.2.1 q').1 x hx with h|h
     · exact hne (h▸e)
     · exact hqp (e▸h)
   exact⟨_,jg _ _ _ _ hnn,by rw[wp _ _ _ hnn];exact qF _ _ hqe,h5 q' hq' hn'⟩
theorem store_all{t:TypeId}{a x:AV}{σ:q8}{K:q8→Prop}(h:ASt T t a x σ K):∃p c d,σ p=some c∧K (upd σ p d)∧∀σ' K',σ' p=some c→K' (upd σ' p d)→ASt T t a x σ' K':=by
 unfold ASt at h ⊢
 split at h
 · obtain⟨⟨c,h1,h2,h3,h4,⟨h⟩⟩⟩:=h
   exact⟨_,c,_,h1,h,fun σ' K' g1 g2=>⟨c,g1,h2,h3,h4,⟨g2⟩⟩⟩
 · exact h.elim
theorem yW{σ:q8}{sz m:Nat}{x:AV}{xs:List AV}{q:Nm}(c:Pl)(hq:σ q=none)(h:Src σ sz x m xs):Src (upd σ q c) sz x m xs:=by
 unfold Src at h ⊢
 split at h
 · exact h
 · exact h
 · obtain⟨h1,h2,⟨c',h3,h4⟩⟩:=h
   exact⟨h1,h2,⟨c',by rw[qe _ _ (fun e=>by subst e;rw[hq] at h3;cases h3)];exact h3,h4⟩⟩
 · obtain⟨h1,h2,⟨c',h3,h4⟩⟩:=h
   exact⟨h1,h2,⟨c',by rw[qe _ _ (fun e=>by subst e;rw[hq] at h3;cases h3)];exact h3,h4⟩⟩
 · exact h
 · exact h.elim
theorem app_mono{t:TypeId}{d x:AV}:yd (AAp T t d x):=fun σ K K' h hk=>by
 unfold AAp at h ⊢
 split at h
 case h_2=>exact h.elim
 split at h
 case h_2=>exact h.elim
 obtain⟨h0,m,xs,h1,h2,h⟩:=h
 refine⟨h0,m,xs,h1,h2,?_⟩
 split at h
 · obtain⟨h3,h4,h⟩:=h
   exact⟨h3,h4,⟨fun q hq=>hk _ _ (h.go q hq)⟩⟩
 · obtain⟨h3,⟨c,h4,h5,h6,h7,h9,h8,h⟩⟩:=h
   exact⟨h3,⟨c,h4,h5,h6,h7,h9,fun ho=>hk _ _ (h8 ho),⟨fun q hq=>hk _ _ (h.go q hq)⟩⟩⟩
 · exact h.elim
theorem app_nonv{t:TypeId}{d x:AV}:vQ (AAp T t d x):=fun σ K hf h=>by
 unfold AAp at h
 split at h
 case h_2=>exact h.elim
 split at h
 case h_2=>exact h.elim
 obtain⟨h0,m,xs,h1,h2,h⟩:=h
 split at h
 · obtain⟨h3,h4,h⟩:=h
   obtain⟨q,hq⟩:=hf.some
   exact⟨_,_,h.go q hq⟩
 · obtain⟨h3,⟨c,h4,h5,h6,h7,h9,h8,h⟩⟩:=h
   exact⟨_,_,h.go _ (qR _ _)⟩
 · exact h.elim
theorem app_fin{t:TypeId}{d x:AV}:vR (AAp T t d x):=fun σ K hf h=>by
 unfold AAp at h ⊢
 split at h
 case h_2=>exact h.elim
 split at h
 case h_2=>exact h.elim
 obtain⟨h0,m,xs,h1,h2,h⟩:=h
 refine⟨h0,m,xs,h1,h2,?_⟩
 split at h
 · obtain⟨h3,h4,h⟩:=h
   exact⟨h3,h4,⟨fun q hq=>⟨hf.upd _ _,h.go q hq⟩⟩⟩
 · obtain⟨h3,⟨c,h4,h5,h6,h7,h9,h8,h⟩⟩:=h
   exact⟨h3,⟨c,h4,h5,h6,h7,h9,fun ho=>⟨hf.upd _ _,h8 ho⟩,⟨fun q hq=>⟨(hf.era _).upd _ _,h.go q hq⟩⟩⟩⟩
 · exact h.elim
theorem app_local{t:TypeId}{d x:AV}:yP (AAp T t d x):=fun σ K q c h hq=>by
 unfold AAp at h ⊢
 split at h
 case h_2=>exact h.elim
 split at h
 case h_2=>exact h.elim
 obtain⟨h0,m,xs,h1,h2,h⟩:=h
 refine⟨h0,m,xs,yW c hq h1,h2,?_⟩
 split at h
 · obtain⟨h3,h4,h⟩:=h
   refine⟨h3,h4,⟨fun q' hq'=>?_⟩⟩
   have hne:q'≠q:=fun e=>by subst e;rw[qx] at hq';cases hq'
   rw[qe _ _ hne] at hq'
   exact⟨_,xq _ _ _ (Ne.symm hne),by rw[qe _ _ (Ne.symm hne)];exact hq,h.go q' hq'⟩
 · rename_i p off n sz
   obtain⟨h3,⟨c1,h4,h5,h6,h7,h9,h8,h⟩⟩:=h
   have hpq:p≠q:=fun e=>by subst e;rw[hq] at h4;cases h4
   have e1:era (upd σ q c) p=upd (era σ p) q c:=yG _ _ (Ne.symm hpq)
   refine⟨h3,⟨c1,by rw[qe _ _ hpq];exact h4,h5,h6,h7,h9,fun ho=>?_,⟨fun q' hq'=>?_⟩⟩⟩
   case refine_2 =>
     rw[e1] at hq' ⊢
     have hne:q'≠q:=fun e=>by subst e;rw[qx] at hq';cases hq'
     rw[qe _ _ hne] at hq'
     exact⟨_,xq _ _ _ (Ne.symm hne),by rw[qe _ _ (Ne.symm hne),z6 _ (Ne.symm hpq)];exact hq,h.go q' hq'⟩
   case refine_1=>exact⟨_,xq _ _ _ (Ne.symm hpq),by rw[qe _ _ (Ne.symm hpq)];exact hq,h8 ho⟩
 · exact h.elim
theorem gz_all{t t':TypeId}{n:Int}:yd (AGz T t t' n)∧vQ (AGz T t t' n)∧vR (AGz T t t' n)∧yP (AGz T t t' n):=by
 refine⟨fun σ K K' h hk=>?_,fun σ K hf h=>?_,fun σ K hf h=>?_,fun σ K q c h hq=>?_⟩
 all_goals
   first|unfold AGz at h ⊢|unfold AGz at h
   split at h
   case h_2=>exact h.elim
   split at h
   case h_2=>exact h.elim
   obtain⟨h1,h2,h3,h4,h⟩:=h
 · exact⟨h1,h2,h3,h4,⟨fun q hq=>hk _ _ (h.go q hq)⟩⟩
 · obtain⟨q,hq⟩:=hf.some
   exact⟨_,_,h.go q hq⟩
 · exact⟨h1,h2,h3,h4,⟨fun q hq=>⟨hf.upd _ _,h.go q hq⟩⟩⟩
 · refine⟨h1,h2,h3,h4,⟨fun q' hq'=>?_⟩⟩
   have hne:q'≠q:=fun e=>by subst e;rw[qx] at hq';cases hq'
   rw[qe _ _ hne] at hq'
   exact⟨_,xq _ _ _ (Ne.symm hne),by rw[qe _ _ (Ne.symm hne)];exact hq,h.go q' hq'⟩
theorem gc_all{t t':TypeId}{p:Nm}{off n cap sz:Nat}{k:Int}:yd (AGc T t t' p off n cap sz k)∧vQ (AGc T t t' p off n cap sz k)∧vR (AGc T t t' p off n cap sz k)∧yP (AGc T t t' p off n cap sz k):=by
 refine⟨fun σ K K' h hk=>?_,fun σ K hf h=>?_,fun σ K hf h=>?_,fun σ K q c h hq=>?_⟩
 all_goals
   first|unfold AGc at h ⊢|unfold AGc at h
   split at h
   case h_2=>exact h.elim
   split at h
   case h_2=>exact h.elim
   obtain⟨h1,h2,h3,h4,h5,h6,⟨c1,h7,h8,h⟩⟩:=h
   split at h
   case h_2=>exact h.elim
   obtain⟨h9,⟨h⟩⟩:=h
 · exact⟨h1,h2,h3,h4,h5,h6,⟨c1,h7,h8,h9,⟨⟨fun q hq=>hk _ _ (h.go q hq)⟩⟩⟩⟩
 · obtain⟨q,hq⟩:=hf.some
   exact⟨_,_,h.go q hq⟩
 · exact⟨h1,h2,h3,h4,h5,h6,⟨c1,h7,h8,h9,⟨⟨fun q hq=>⟨hf.upd _ _,h.go q hq⟩⟩⟩⟩⟩
 · refine⟨h1,h2,h3,h4,h5,h6,⟨c1,by rw[qe _ _ (fun e=>by subst e;rw[hq] at h7;cases h7)];exact h7,h8,h9,⟨⟨fun q' hq'=>?_⟩⟩⟩⟩
   have hne:q'≠q:=fun e=>by subst e;rw[qx] at hq';cases hq'
   rw[qe _ _ hne] at hq'
   exact⟨_,xq _ _ _ (Ne.symm hne),by rw[qe _ _ (Ne.symm hne)];exact hq,h.go q' hq'⟩
theorem cp_all{t:TypeId}{d x:AV}{σ:q8}{K:AV→q8→Prop}(h:ACp T t d x σ K):∃v p c e,σ p=some c∧K v (upd σ p e)∧(∀K',K' v (upd σ p e)→ACp T t d x σ K')∧∀q c' K',σ q=none→K' v (upd (upd σ q c') p e)→ACp T t d x (upd σ q c') K':=by
 unfold ACp at h ⊢
 split at h
 case h_2=>exact h.elim
 split at h
 case h_2=>exact h.elim
 obtain⟨m,xs,h1,h⟩:=h
 split at h
 · obtain⟨h2,h3,⟨c1,h4,h5,h⟩⟩:=h
   exact⟨_,_,_,_,h4,h,fun K' g=>⟨m,xs,h1,h2,h3,⟨c1,h4,h5,g⟩⟩,fun q c' K' hq g =>
     ⟨m,xs,yW c' hq h1,h2,h3,⟨c1,by rw[qe _ _ (fun e=>by subst e;rw[hq] at h4;cases h4)];exact h4,h5,g⟩⟩⟩
 · obtain⟨h2,h3,⟨c1,h4,h5,h⟩⟩:=h
   exact⟨_,_,_,_,h4,h,fun K' g=>⟨m,xs,h1,h2,h3,⟨c1,h4,h5,g⟩⟩,fun q c' K' hq g =>
     ⟨m,xs,yW c' hq h1,h2,h3,⟨c1,by rw[qe _ _ (fun e=>by subst e;rw[hq] at h4;cases h4)];exact h4,h5,g⟩⟩⟩
 · exact h.elim
theorem yu{op:Op}(hc:cls op=3)(ρ:Operand→AV):yd (opA P T G op ρ)∧vQ (opA P T G op ρ)∧vR (opA P T G op ρ)∧yP (opA P T G op ρ):=by
 have none:(∀σ K,¬opA P T G op ρ σ K)→yd (opA P T G op ρ)∧vQ (opA P T G op ρ)∧vR (opA P T G op ρ)∧yP (opA P T G op ρ):=fun h =>
   ⟨fun σ K _ hx _=>absurd hx (h σ K),fun σ K _ hx=>absurd hx (h σ K),fun σ K _ hx=>absurd hx (h σ K),fun σ K _ _ hx _=>absurd hx (h σ K)⟩
 cases op<;>simp only[cls] at hc<;>first|(cases hc;done)|skip
 case store t a x =>
   refine⟨fun σ K K' h hk=>?_,fun σ K hf h=>?_,fun σ K hf h=>?_,fun σ K q c h hq=>?_⟩<;>obtain⟨p,c1,d,h1,h2,h3⟩:=store_all h
   · exact h3 σ _ h1 (hk _ _ h2)
   · exact⟨_,_,h2⟩
   · exact h3 σ _ h1 ⟨hf.upd _ _,h2⟩
   · have hpq:p≠q:=fun e=>by subst e;rw[hq] at h1;cases h1
     exact h3 _ _ (by rw[qe _ _ hpq];exact h1) ⟨_,xq _ _ _ (Ne.symm hpq),by rw[qe _ _ (Ne.symm hpq)];exact hq,h2⟩
 case call c =>
   obtain⟨callee,args,argTypes⟩:=c
   cases callee with
   | value f =>
     have hcall:∀x,yd (fun σ K=>(match ρ x with
         | .clo (.func f) fs cs=>ACall P G f (fs++args.toList.map ρ++cs) σ K
         | _=>False:Prop))∧vQ (fun σ K=>(match ρ x with
         | .clo (.func f) fs cs=>ACall P G f (fs++args.toList.map ρ++cs) σ K
         | _=>False:Prop))∧vR (fun σ K=>(match ρ x with
         | .clo (.func f) fs cs=>ACall P G f (fs++args.toList.map ρ++cs) σ K
         | _=>False:Prop))∧yP (fun σ K=>(match ρ x with
         | .clo (.func f) fs cs=>ACall P G f (fs++args.toList.map ρ++cs) σ K
         | _=>False:Prop)):=by
       intro x
       split
       · exact⟨call_mono,call_nonv,call_fin,call_local⟩
       · exact⟨fun _ _ _ h _=>h,fun _ _ _ h=>h.elim,fun _ _ _ h=>h,fun _ _ _ _ h _=>h⟩
     cases f with
     | func f=>exact⟨call_mono,call_nonv,call_fin,call_local⟩
     | tmp t=>exact hcall (.tmp t)
     | const v=>exact hcall (.const v)
     | global g=>exact hcall (.global g)
   | invoke r m=>exact none fun _ _ h=>h
   | builtin b =>
     cases b<;>first|(cases hc;done)|exact none (fun _ _ h=>h)|skip
     case append =>
       have happ:yd (fun σ K=>opA P T G (.call ⟨.builtin .append,args,argTypes⟩) ρ σ K)∧vQ (fun σ K=>opA P T G (.call ⟨.builtin .append,args,argTypes⟩) ρ σ K)∧vR (fun σ K=>opA P T G (.call ⟨.builtin .append,args,argTypes⟩) ρ σ K)∧yP (fun σ K=>opA P T G (.call ⟨.builtin .append,args,argTypes⟩) ρ σ K):=by
         simp only[opA]
         split
         · split
           · exact gz_all
           · exact gc_all
           · exact⟨fun σ K K' h hk=>⟨h.1,app_mono _ _ _ h.2 hk⟩,fun σ K hf h=>app_nonv _ _ hf h.2,fun σ K hf h=>⟨h.1,app_fin _ _ hf h.2⟩,fun σ K q c h hq=>⟨h.1,app_local _ _ q c h.2 hq⟩⟩
         · exact⟨fun _ _ _ h _=>h,fun _ _ _ h=>h.elim,fun _ _ _ h=>h,fun _ _ _ _ h _=>h⟩
       exact happ
     case copy =>
       have hcp:yd (fun σ K=>(match argTypes.toList,args.toList with
           | [t,_],[d,x]=>ACp T t (ρ d) (ρ x) σ K
           | _,_=>False:Prop))∧vQ (fun σ K=>(match argTypes.toList,args.toList with
           | [t,_],[d,x]=>ACp T t (ρ d) (ρ x) σ K
           | _,_=>False:Prop))∧vR (fun σ K=>(match argTypes.toList,args.toList with
           | [t,_],[d,x]=>ACp T t (ρ d) (ρ x) σ K
           | _,_=>False:Prop))∧yP (fun σ K=>(match argTypes.toList,args.toList with
           | [t,_],[d,x]=>ACp T t (ρ d) (ρ x) σ K
           | _,_=>False:Prop)):=by
         split
         · refine⟨fun σ K K' h hk=>?_,fun σ K hf h=>?_,fun σ K hf h=>?_,fun σ K q c h hq=>?_⟩<;>obtain⟨v,p,c1,d,h1,h2,h3,h4⟩:=cp_all h
           · exact h3 _ (hk _ _ h2)
           · exact⟨_,_,h2⟩
           · exact h3 _ ⟨hf.upd _ _,h2⟩
           · have hpq:p≠q:=fun e=>by subst e;rw[hq] at h1;cases h1
             exact h4 _ _ _ hq ⟨_,xq _ _ _ (Ne.symm hpq),by rw[qe _ _ (Ne.symm hpq)];exact hq,h2⟩
         · exact⟨fun _ _ _ h _=>h,fun _ _ _ h=>h.elim,fun _ _ _ h=>h,fun _ _ _ _ h _=>h⟩
       exact hcp
 all_goals exact none fun _ _ h=>h
theorem zR(op:Op)(ρ:Operand→AV):yd (opA P T G op ρ):=by
 have h:cls op=0∨cls op=1∨cls op=2∨cls op=3:=by
   unfold cls
   split<;>first|simp|(split<;>simp)
 rcases h with h|h|h|h
 · exact(wt h ρ).mono
 · cases op<;>first|(cases h;done)|skip
   case load t x=>exact load_mono
   case call c =>
     obtain⟨callee,args,argTypes⟩:=c
     cases callee with
     | value f=>cases h
     | invoke r m=>cases h
     | builtin b=>cases b<;>cases h
 · exact(jh h ρ).mono
 · exact(yu h ρ).1
end
open Go.RowKit
section
variable {P:Program}{T:Tys}{G:Nat→AV}{N:Nat}
def ldPr(Pr:Nm→Prop)(fr:Bool)(op:Op)(ρ:Operand→AV):Prop :=
 match fr,op with
 | true,.load _ x=>(match ρ x with|.ptr p _=>Pr p|_=>True)
 | _,_=>True
def keepC(Pr:Nm→Prop)(fr:Bool)(σ σ':q8):Prop :=
 match fr with
 | true=>∀p,Pr p→σ' p=σ p
 | false=>True
def opD(P:Program)(T:Tys)(G:Nat→AV)(Pr:Nm→Prop)(fr:Bool)(op:Op)(ρ:Operand→AV)(σ:q8)(K:AV→q8→Prop):Prop :=
 match cls op with
 | 3=>opA P T G op ρ σ fun v σ'=>keepC Pr fr σ σ'∧K v σ'
 | 1=>ldPr Pr fr op ρ∧opA P T G op ρ σ K
 | _=>opA P T G op ρ σ K
theorem opD.imp{Pr:Nm→Prop}{fr:Bool}{op:Op}{ρ:Operand→AV}{σ:q8}{K:AV→q8→Prop}(h:opD P T G Pr fr op ρ σ K):opA P T G op ρ σ K:=by
 unfold opD at h
 split at h
 · exact zR op ρ _ _ _ h fun _ _ h=>h.2
 · exact h.2
 · exact h
theorem wD(op:Op):cls op=0∨cls op=1∨cls op=2∨cls op=3:=by
 unfold cls
 split<;>first|simp|(split<;>simp)
theorem opD0{Pr:Nm→Prop}{fr:Bool}{op:Op}(h:cls op=0)(ρ:Operand→AV):opD P T G Pr fr op ρ=opA P T G op ρ:=by
 funext σ K;simp only[opD,h]
theorem opD2{Pr:Nm→Prop}{fr:Bool}{op:Op}(h:cls op=2)(ρ:Operand→AV):opD P T G Pr fr op ρ=opA P T G op ρ:=by
 funext σ K;simp only[opD,h]
theorem opD3{Pr:Nm→Prop}{fr:Bool}{op:Op}(h:cls op=3)(ρ:Operand→AV):opD P T G Pr fr op ρ=fun σ K=>opA P T G op ρ σ fun v σ'=>keepC Pr fr σ σ'∧K v σ':=by
 funext σ K;simp only[opD,h]
theorem load_of{op:Op}(h:cls op=1):∃t x,op=.load t x:=by
 cases op<;>first|(cases h;done)|exact⟨_,_,rfl⟩|skip
 case call c =>
   obtain⟨callee,args,argTypes⟩:=c
   cases callee with
   | value f=>cases h
   | invoke r m=>cases h
   | builtin b=>cases b<;>cases h
theorem opD1{Pr:Nm→Prop}{fr:Bool}{op:Op}(h:cls op=1){ρ:Operand→AV}{σ:q8}{K:AV→q8→Prop}(hx:opD P T G Pr fr op ρ σ K) :
   ∃u,K u σ∧∀σ' K',(∀p,(fr=true→Pr p)→σ p≠none→σ' p=σ p)→(opD P T G Pr fr op ρ σ' K'↔K' u σ'):=by
 obtain⟨t,x,rfl⟩:=load_of h
 have hc:ldPr Pr fr (.load t x) ρ∧ALd T t (ρ x) σ fun v=>K v σ:=hx
 obtain⟨h1,h2⟩:=hc
 obtain⟨u,h3,h4⟩:=wx h2
 refine⟨u,h3,fun σ' K' ha=>?_⟩
 have key:ALd T t (ρ x) σ' (fun v=>K' v σ')↔K' u σ':=h4 σ' _ fun p o hp=>by
   refine ha p (fun hf=>?_) (fun hn=>?_)
   · subst hf
     have h5:(match ρ x with|.ptr p _=>Pr p|_=>True):=h1
     rw[hp] at h5
     exact h5
   · unfold ALd at h2
     rw[hp] at h2
     cases ht:T t with
     | none=>simp[ht] at h2
     | some i =>
       simp only[ht] at h2
       obtain⟨⟨c,g1,-⟩⟩:=h2
       rw[hn] at g1
       cases g1
 constructor
 · intro hd
   exact key.1 hd.2
 · intro hk
   exact⟨h1,key.2 hk⟩
theorem zg(Pr:Nm→Prop)(fr:Bool)(op:Op)(ρ:Operand→AV):yd (opD P T G Pr fr op ρ):=fun σ K K' hx hk=>by
 unfold opD at hx ⊢
 split at hx
 · exact zR op ρ _ _ _ hx fun _ _ h=>⟨h.1,hk _ _ h.2⟩
 · exact⟨hx.1,zR op ρ _ _ _ hx.2 hk⟩
 · exact zR op ρ _ _ _ hx hk
theorem opD_nonv(Pr:Nm→Prop)(fr:Bool)(op:Op)(ρ:Operand→AV):vQ (opD P T G Pr fr op ρ):=fun σ K hf hx=>by
 rcases wD op with h|h|h|h
 · rw[opD0 h] at hx;exact(wt h ρ).nonv σ K hf hx
 · obtain⟨u,hu,-⟩:=opD1 h hx
   exact⟨u,σ,hu⟩
 · rw[opD2 h] at hx;exact(jh h ρ).nonv σ K hf hx
 · rw[opD3 h] at hx
   obtain⟨v,σ',h1⟩:=(yu h ρ).2.1 σ _ hf hx
   exact⟨v,σ',h1.2⟩
theorem opD_fin(Pr:Nm→Prop)(fr:Bool)(op:Op)(ρ:Operand→AV):vR (opD P T G Pr fr op ρ):=fun σ K hf hx=>by
 rcases wD op with h|h|h|h
 · rw[opD0 h] at hx ⊢;exact(wt h ρ).fin σ K hf hx
 · obtain⟨u,hu,h2⟩:=opD1 h hx
   exact(h2 σ _ fun _ _ _=>rfl).2 ⟨hf,hu⟩
 · rw[opD2 h] at hx ⊢;exact(jh h ρ).fin σ K hf hx
 · rw[opD3 h] at hx ⊢
   exact zR op ρ _ _ _ ((yu h ρ).2.2.1 σ _ hf hx) fun _ _ h=>⟨h.2.1,h.1,h.2.2⟩
def allowed(cx cy:Nat)(fx fy:Bool):Bool :=
 match cx,cy with
 | _,0=>true
 | 0,_=>true
 | 1,1=>true
 | 1,2=>true
 | 1,3=>fx&&fy
 | 2,2=>true
 | 3,2=>true
 | 3,1=>fx&&fy
 | _,_=>false
theorem op_swap{Pr:Nm→Prop}{fx fy:Bool}{x y:Op}{ρx ρy:Operand→AV}{σ:q8}{K:AV→AV→q8→Prop}(hf:Fin σ)(ha:allowed (cls x) (cls y) fx fy=true)
   (h:opD P T G Pr fx x ρx σ fun v σ1=>opD P T G Pr fy y ρy σ1 fun u σ2=>K v u σ2) :
   opD P T G Pr fy y ρy σ fun u σ1=>opD P T G Pr fx x ρx σ1 fun v σ2=>K v u σ2:=by
 have mx:=zg (P:=P) (T:=T) (G:=G) Pr fx x ρx
 have my:=zg (P:=P) (T:=T) (G:=G) Pr fy y ρy
 have nx:=opD_nonv (P:=P) (T:=T) (G:=G) Pr fx x ρx
 rcases wD y with hy|hy|hy|hy
 · -- y only reckons
   obtain⟨v0,s0,h0⟩:=nx σ _ hf h
   rw[opD0 hy] at h0
   obtain⟨u,hu⟩:=wt hy ρy _ _ h0
   rw[opD0 hy]
   refine(hu σ _).2 (mx _ _ _ h fun v σ1 h1=>?_)
   rw[opD0 hy] at h1
   exact(hu σ1 _).1 h1
 all_goals
   rcases wD x with hx|hx|hx|hx
   · -- x only reckons
     rw[opD0 hx] at h
     obtain⟨v,hv⟩:=wt hx ρx _ _ h
     refine my _ _ _ ((hv σ _).1 h) fun u σ1 h1=>?_
     rw[opD0 hx]
     exact(hv σ1 _).2 h1
   all_goals(rw[hx,hy] at ha;first|(cases ha;done)|skip)
 · -- load,load
   obtain⟨v,h1,h2⟩:=opD1 hx h
   obtain⟨u,h3,h4⟩:=opD1 hy h1
   exact(h4 σ _ fun _ _ _=>rfl).2 ((h2 σ _ fun _ _ _=>rfl).2 h3)
 · -- a call,load
   have ha:(fx&&fy)=true:=ha
   simp only[Bool.and_eq_true] at ha
   obtain⟨hfx,hfy⟩:=ha
   subst hfx hfy
   rw[opD3 hx] at h
   obtain⟨v0,s0,h0,h1⟩:=(yu hx ρx).2.1 σ _ hf h
   obtain⟨u,-,h3⟩:=opD1 hy h1
   have h0:∀p,Pr p→s0 p=σ p:=h0
   refine(h3 σ _ fun p hp _=>(h0 p (hp rfl)).symm).2 ?_
   rw[opD3 hx]
   refine zR x ρx _ _ _ h fun v σ1 ⟨h4,h5⟩=>⟨h4,?_⟩
   have h4:∀p,Pr p→σ1 p=σ p:=h4
   exact(h3 σ1 _ fun p hp _=>(h4 p (hp rfl)).trans (h0 p (hp rfl)).symm).1 h5
 · -- load,memory
   obtain⟨v,h1,h2⟩:=opD1 hx h
   rw[opD2 hy] at h1 ⊢
   obtain⟨c,r,hu⟩:=jh hy ρy _ _ h1
   refine(hu σ _).2 fun q hq=>(h2 _ _ fun p _ hp=>qe _ _ fun e=>hp (by rw[e];exact hq)).2 ((hu σ _).1 h1 q hq)
 · -- memory,memory
   rw[opD2 hx] at h
   rw[opD2 hy] at h ⊢
   obtain⟨cx,rx,hvx⟩:=jh hx ρx _ _ h
   have h1:=(hvx σ _).1 h
   obtain⟨q0,hq0⟩:=hf.some
   obtain⟨cy,ry,hvy⟩:=jh hy ρy _ _ (h1 q0 hq0)
   refine(hvy σ _).2 fun q' hq'=>?_
   rw[opD2 hx]
   refine(hvx _ _).2 fun q hq=>?_
   have hne:q≠q':=fun e=>by subst e;rw[qx] at hq;cases hq
   rw[qe _ _ hne] at hq
   have:=(hvy _ _).1 (h1 q hq) q' (by rw[qe _ _ (Ne.symm hne)];exact hq')
   rw[xq _ _ _ hne] at this
   exact this
 · -- a call,memory
   obtain⟨v0,s0,h0⟩:=nx σ _ hf h
   rw[opD2 hy] at h0 ⊢
   obtain⟨c,r,hu⟩:=jh hy ρy _ _ h0
   refine(hu σ _).2 fun q hq=>?_
   rw[opD3 hx] at h ⊢
   have h1:=(yu hx ρx).2.2.2 σ _ q c h hq
   refine zR x ρx _ _ _ h1 ?_
   rintro v σ2 ⟨σ1,rfl,h2,h3,h4⟩
   rw[opD2 hy] at h4
   refine⟨?_,(hu _ _).1 h4 q h2⟩
   cases fx with
   | false=>exact trivial
   | true =>
     intro p hp
     by_cases hpq:p=q
     · subst hpq;rw[qx,qx]
     · rw[qe _ _ hpq,qe _ _ hpq];exact h3 p hp
 · -- load,a call
   obtain⟨v,h1,h2⟩:=opD1 hx h
   rw[opD3 hy] at h1 ⊢
   refine zR y ρy _ _ _ h1 fun u σ1 h3=>⟨h3.1,?_⟩
   have ha:(fx&&fy)=true:=ha
   simp only[Bool.and_eq_true] at ha
   obtain⟨hfx,hfy⟩:=ha
   subst hfx hfy
   exact(h2 σ1 _ fun p hp _=>h3.1 p (hp rfl)).2 h3.2
end
open Go.RowKit
section
variable {P:Program}{T:Tys}{G:Nat→AV}{N:Nat}
def gst(ops:Array Oper)(o:Oper)(e:Env):Option Bool :=
 match o.guard with
 | none=>some true
 | some (j,want) =>
   match (ops[j]?).bind (·.dst) with
   | none=>none
   | some t=>(match e t with
     | .bool b=>some (b==want)
     | .tup _=>some false
     | _=>none)
def AOpG(X:XF)(N:Nat)(ops:Array Oper)(o:Oper)(K:Env→q8→Prop)(e:Env)(σ:q8):Prop :=
 match o.guard with
 | none=>X σ fun v σ'=>zi N e o.dst v fun e'=>K e' σ'
 | some (j,want) =>
   match (ops[j]?).bind (·.dst) with
   | none=>False
   | some t=>(match e t with
     | .bool b=>(match want with
       | true=>AB b (X σ fun v σ'=>zi N e o.dst v fun e'=>K e' σ') (zi N e o.dst (.tup []) fun e'=>K e' σ)
       | false=>AB b (zi N e o.dst (.tup []) fun e'=>K e' σ) (X σ fun v σ'=>zi N e o.dst v fun e'=>K e' σ'))
     | .tup _=>zi N e o.dst (.tup []) fun e'=>K e' σ
     | _=>False)
theorem AOpG.iff(X:XF)(ops:Array Oper)(o:Oper)(K:Env→q8→Prop)(e:Env)(σ:q8):AOpG X N ops o K e σ ↔
   (match gst ops o e with
   | some true=>X σ fun v σ'=>zi N e o.dst v fun e'=>K e' σ'
   | some false=>zi N e o.dst (.tup []) fun e'=>K e' σ
   | none=>False):=by
 unfold AOpG gst
 cases o.guard with
 | none=>exact Iff.rfl
 | some x =>
   obtain⟨j,want⟩:=x
   simp only
   cases (ops[j]?).bind (·.dst) with
   | none=>exact Iff.rfl
   | some t =>
     simp only
     generalize e t=v
     cases v with
     | bool b=>cases b<;>cases want<;>first|exact⟨fun h=>h.yes rfl,fun h=>⟨fun _=>h,fun e=>absurd e (by decide)⟩⟩|exact⟨fun h=>h.no rfl,fun h=>⟨fun e=>absurd e (by decide),fun _=>h⟩⟩
     | _=>exact Iff.rfl
theorem AOp1_eq(ops:Array Oper)(o:Oper)(K:Env→q8→Prop)(e:Env)(σ:q8):AOp1 P T G N ops o K e σ=AOpG (opA P T G o.op (ev G e)) N ops o K e σ:=rfl
def jY(N:Nat)(dst:Option Tmp):Bool:=match dst with|none=>true|some d=>Nat.ble (d+1) N
def xS(e:Env)(dst:Option Tmp)(v:AV):Env:=match dst with|none=>e|some d=>put e d v
theorem qH{e:Env}{dst:Option Tmp}(h:jY N dst=true)(v:AV)(K:Env→Prop):zi N e dst v K↔K (xS e dst v):=by
 unfold zi xS
 cases dst with
 | none=>exact Iff.rfl
 | some d =>
   simp only[jY] at h
   simp only[h,zx]
theorem put_comm(e:Env){d1 d2:Nat}(v u:AV)(h:d1≠d2):put (put e d1 v) d2 u=put (put e d2 u) d1 v:=by
 funext x
 unfold put
 cases h1:Nat.beq x d1<;>cases h2:Nat.beq x d2<;>simp
 exact absurd ((Nat.eq_of_beq_eq_true h1).symm.trans (Nat.eq_of_beq_eq_true h2)) h
theorem putF_comm(e:Env){x y:Option Tmp}(v u:AV)(h:∀d,x=some d→y≠some d):xS (xS e x v) y u=xS (xS e y u) x v:=by
 cases x with
 | none=>rfl
 | some d1 =>
   cases y with
   | none=>rfl
   | some d2=>exact put_comm e v u fun e=>h d1 rfl (by rw[e])
theorem put_other(e:Env){d x:Nat}(v:AV)(h:x≠d):put e d v x=e x:=by
 unfold put
 cases h1:Nat.beq x d with
 | false=>rfl
 | true=>exact absurd (Nat.eq_of_beq_eq_true h1) h
theorem putF_other{e:Env}{dst:Option Tmp}{x:Nat}(v:AV)(h:∀d,dst=some d→x≠d):xS e dst v x=e x:=by
 cases dst with
 | none=>rfl
 | some d=>exact put_other e v (h d rfl)
theorem opA_congr{op:Op}{ρ ρ':Operand→AV}(h:∀x∈op.operands,ρ x=ρ' x):opA P T G op ρ=opA P T G op ρ':=by
 funext σ K
 have pairs:∀ps:Array (Nat×Operand),(∀x∈ps.toList.map (·.2),ρ x=ρ' x)→(ps.toList.map fun x=>(x.1,ρ x.2))=(ps.toList.map fun x=>(x.1,ρ' x.2)):=fun ps hp =>
   List.map_congr_left fun p hm=>by rw[hp p.2 (List.mem_map.2 ⟨p,hm,rfl⟩)]
 cases op<;>simp only[Op.operands] at h<;>simp only[opA]
 case build t ps=>rw[pairs ps fun x hx=>h x (by simpa using hx)]
 case buildSlice t n ps=>rw[pairs ps fun x hx=>h x (by simpa using hx)]
 case makeFunc fn first captured =>
   rw[List.map_congr_left (l:=first.toList) fun x hx=>h x (by simp at hx ⊢;exact .inl hx),List.map_congr_left (l:=captured.toList) fun x hx=>h x (by simp at hx ⊢;exact .inr hx)]
 case call c =>
   obtain⟨callee,args,argTypes⟩:=c
   have hargs:args.toList.map ρ=args.toList.map ρ':=List.map_congr_left fun x hx=>h x (by simp[Call.operands];exact .inr (by simpa using hx))
   have hmem:∀x∈args.toList,ρ x=ρ' x:=fun x hx=>h x (by simp[Call.operands];exact .inr (by simpa using hx))
   cases callee with
   | value f =>
     have hf:ρ f=ρ' f:=h f (by simp[Call.operands])
     cases f<;>simp only[hargs,hf]
   | invoke r m=>rfl
   | builtin b =>
     cases b<;>first|rfl|skip
     case len =>
       simp only
       split
       · rename_i t x h1 h2
         rw[h2] at hmem
         rw[hmem x (by simp)]
       · rfl
     case cap =>
       simp only
       split
       · rename_i t x h1 h2
         rw[h2] at hmem
         rw[hmem x (by simp)]
       · rfl
     case append =>
       simp only
       split
       · rename_i t t' d x h1 h2
         rw[h2] at hmem
         rw[hmem d (by simp),hmem x (by simp)]
       · rfl
     case copy =>
       simp only
       split
       · rename_i t t' d x h1 h2
         rw[h2] at hmem
         rw[hmem d (by simp),hmem x (by simp)]
       · rfl
     case min =>
       simp only
       split
       · rename_i x y h2
         rw[h2] at hmem
         rw[hmem x (by simp),hmem y (by simp)]
       · rfl
     case max =>
       simp only
       split
       · rename_i x y h2
         rw[h2] at hmem
         rw[hmem x (by simp),hmem y (by simp)]
       · rfl
 case slice t x lo hi mx =>
   cases mx with
   | none=>cases lo<;>cases hi<;>simp_all
   | some m=>cases lo<;>cases hi<;>simp_all
 all_goals(first|rfl|(simp_all;done))
end
open Go.RowKit
section
variable {P:Program}{T:Tys}{G:Nat→AV}{N:Nat}
theorem opD_congr{Pr:Nm→Prop}{fr:Bool}{op:Op}{ρ ρ':Operand→AV}(h:∀x∈op.operands,ρ x=ρ' x):opD P T G Pr fr op ρ=opD P T G Pr fr op ρ':=by
 funext σ K
 unfold opD
 have hl:ldPr Pr fr op ρ=ldPr Pr fr op ρ':=by
   cases fr<;>cases op<;>first|rfl|skip
   case true.load t x =>
     show(match ρ x with|.ptr p _=>Pr p|_=>True)=(match ρ' x with|.ptr p _=>Pr p|_=>True)
     rw[h x (by simp[Op.operands])]
 rw[opA_congr h,hl]
theorem ev_put{ops:Array Oper}{y:Oper}{e:Env}{dst:Option Tmp}(v:AV)(h:∀d,dst=some d→d∉y.looksAt ops):∀x∈y.op.operands,ev G (xS e dst v) x=ev G e x:=by
 intro x hx
 cases x with
 | tmp t =>
   refine putF_other v fun d hd e=>h d hd ?_
   subst e
   exact List.mem_append_left _ (List.mem_filterMap.2 ⟨.tmp t,by simpa using hx,rfl⟩)
 | const v=>rfl
 | global g=>rfl
 | func f=>rfl
theorem gst_put{ops:Array Oper}{y:Oper}{e:Env}{dst:Option Tmp}(v:AV)(h:∀d,dst=some d→d∉y.looksAt ops):gst ops y (xS e dst v)=gst ops y e:=by
 unfold gst
 cases hg:y.guard with
 | none=>rfl
 | some x =>
   obtain⟨j,want⟩:=x
   simp only
   cases ht:(ops[j]?).bind (·.dst) with
   | none=>rfl
   | some t =>
     simp only
     rw[putF_other v fun d hd e=>h d hd (by subst e;simp[Oper.looksAt,hg,ht])]
def AOpd(P:Program)(T:Tys)(G:Nat→AV)(N:Nat)(Pr:Nm→Prop)(fr:Bool)(ops:Array Oper)(o:Oper)(K:Env→q8→Prop)(e:Env)(σ:q8):Prop :=
 AOpG (opD P T G Pr fr o.op (ev G e)) N ops o K e σ
theorem AOpd.mono{Pr:Nm→Prop}{fr:Bool}{ops:Array Oper}{o:Oper}{K K':Env→q8→Prop}{e:Env}{σ:q8}(hd:jY N o.dst=true)(h:AOpd P T G N Pr fr ops o K e σ)(hk:∀e σ,K e σ→K' e σ):AOpd P T G N Pr fr ops o K' e σ:=by
 unfold AOpd at *
 rw[AOpG.iff] at *
 split at h
 · rename_i hg
   exact zg _ _ _ _ _ _ _ h fun v σ' h1=>(qH hd v _).2 (hk _ _ ((qH hd v _).1 h1))
 · exact(qH hd _ _).2 (hk _ _ ((qH hd _ _).1 h))
 · exact h
theorem AOpd.fin{Pr:Nm→Prop}{fr:Bool}{ops:Array Oper}{o:Oper}{K:Env→q8→Prop}{e:Env}{σ:q8}(hd:jY N o.dst=true)(hf:Fin σ)(h:AOpd P T G N Pr fr ops o K e σ):AOpd P T G N Pr fr ops o (fun e σ=>Fin σ∧K e σ) e σ:=by
 unfold AOpd at *
 rw[AOpG.iff] at *
 split at h
 · exact zg _ _ _ _ _ _ _ (opD_fin _ _ _ _ _ _ hf h) fun v σ' h1=>(qH hd v _).2 ⟨h1.1,(qH hd v _).1 h1.2⟩
 · exact(qH hd _ _).2 ⟨hf,(qH hd _ _).1 h⟩
 · exact h
theorem AOpd.to1{Pr:Nm→Prop}{fr:Bool}{ops:Array Oper}{o:Oper}{K:Env→q8→Prop}{e:Env}{σ:q8}(h:AOpd P T G N Pr fr ops o K e σ):AOp1 P T G N ops o K e σ:=by
 rw[AOp1_eq]
 unfold AOpd at h
 rw[AOpG.iff] at *
 split at h
 · exact h.imp
 · exact h
 · exact h
theorem step_swap{Pr:Nm→Prop}{fx fy:Bool}{ops:Array Oper}{x y:Oper}{K:Env→q8→Prop}{e:Env}{σ:q8}(hf:Fin σ)(hap:x.apart ops y=true)(ha:allowed (cls x.op) (cls y.op) fx fy=true)(hdx:jY N x.dst=true)(hdy:jY N y.dst=true)
   (h:AOpd P T G N Pr fx ops x (AOpd P T G N Pr fy ops y K) e σ):AOpd P T G N Pr fy ops y (AOpd P T G N Pr fx ops x K) e σ:=by
 obtain⟨a1,a2,a3⟩:=Oper.apart_spec hap
 have hcomm:∀v u,xS (xS e x.dst v) y.dst u=xS (xS e y.dst u) x.dst v:=fun v u=>putF_comm e v u a2
 -- what y does behind x,and x behind y
 have yin:∀v σ1,AOpd P T G N Pr fy ops y K (xS e x.dst v) σ1↔(match gst ops y e with
     | some true=>opD P T G Pr fy y.op (ev G e) σ1 fun u σ2=>K (xS (xS e y.dst u) x.dst v) σ2
     | some false=>K (xS (xS e y.dst (.tup [])) x.dst v) σ1
     | none=>False):=by
   intro v σ1
   unfold AOpd
   rw[AOpG.iff,gst_put v a1,opD_congr (ev_put (G:=G) (e:=e) v a1)]
   cases gst ops y e with
   | none=>exact Iff.rfl
   | some b =>
     cases b with
     | true =>
       constructor
       · exact fun h=>zg _ _ _ _ _ _ _ h fun u σ2 h1=>by rw[←hcomm];exact(qH hdy u _).1 h1
       · exact fun h=>zg _ _ _ _ _ _ _ h fun u σ2 h1=>(qH hdy u _).2 (by rw[hcomm];exact h1)
     | false =>
       simp only
       rw[qH hdy,hcomm]
 have xin:∀u σ1,AOpd P T G N Pr fx ops x K (xS e y.dst u) σ1↔(match gst ops x e with
     | some true=>opD P T G Pr fx x.op (ev G e) σ1 fun v σ2=>K (xS (xS e y.dst u) x.dst v) σ2
     | some false=>K (xS (xS e y.dst u) x.dst (.tup [])) σ1
     | none=>False):=by
   intro u σ1
   unfold AOpd
   rw[AOpG.iff,gst_put u a3,opD_congr (ev_put (G:=G) (e:=e) u a3)]
   cases gst ops x e with
   | none=>exact Iff.rfl
   | some b =>
     cases b with
     | true =>
       constructor
       · exact fun h=>zg _ _ _ _ _ _ _ h fun v σ2 h1=>(qH hdx v _).1 h1
       · exact fun h=>zg _ _ _ _ _ _ _ h fun v σ2 h1=>(qH hdx v _).2 h1
     | false =>
       simp only
       rw[qH hdx]
 rw[AOpd,AOpG.iff] at h
 rw[AOpd,AOpG.iff]
 cases hgx:gst ops x e with
 | none=>rw[hgx] at h;exact h.elim
 | some gx =>
   rw[hgx] at h
   cases hgy:gst ops y e with
   | none =>
     simp only[hgy] at yin
     cases gx with
     | true =>
       simp only at h
       obtain⟨v,σ1,h1⟩:=opD_nonv _ _ _ _ _ _ hf h
       exact((yin v σ1).1 ((qH hdx v _).1 h1)).elim
     | false=>exact((yin _ σ).1 ((qH hdx _ _).1 h)).elim
   | some gy =>
     simp only[hgx] at xin
     simp only[hgy] at yin
     cases gx with
     | true =>
       simp only at h xin
       cases gy with
       | true =>
         simp only at yin ⊢
         have h1:=zg _ _ _ _ _ _ _ h fun v σ1 h1=>(yin v σ1).1 ((qH hdx v _).1 h1)
         have h2:=op_swap (K:=fun v u σ2=>K (xS (xS e y.dst u) x.dst v) σ2) hf ha h1
         exact zg _ _ _ _ _ _ _ h2 fun u σ1 h3=>(qH hdy u _).2 ((xin u σ1).2 h3)
       | false =>
         simp only at yin ⊢
         have h1:=zg _ _ _ _ _ _ _ h fun v σ1 h1=>(yin v σ1).1 ((qH hdx v _).1 h1)
         exact(qH hdy _ _).2 ((xin _ σ).2 h1)
     | false =>
       simp only at h xin
       have h0:=(qH hdx _ _).1 h
       cases gy with
       | true =>
         simp only at yin ⊢
         have h1:=(yin _ σ).1 h0
         exact zg _ _ _ _ _ _ _ h1 fun u σ1 h3=>(qH hdy u _).2 ((xin u σ1).2 h3)
       | false =>
         simp only at yin ⊢
         exact(qH hdy _ _).2 ((xin _ σ).2 ((yin _ σ).1 h0))
def inL:List Nat→Nat→Bool
 | [],_=>false
 | x::l,n=>match Nat.beq x n with|true=>true|false=>inL l n
theorem inL_iff:∀(l:List Nat) (n:Nat),inL l n=true↔n∈l
 | [],n=>by simp[inL]
 | x::l,n=>by
   simp only[inL]
   cases h:Nat.beq x n with
   | true=>have:=Nat.eq_of_beq_eq_true h;subst this;simp
   | false =>
     have hne:n≠x:=fun e=>by subst e;rw[Nat.beq_refl] at h;cases h
     simp[inL_iff l n,hne]
def APerm(P:Program)(T:Tys)(G:Nat→AV)(N:Nat)(Pr:Nm→Prop)(frs:List Nat)(ops:Array Oper):List Nat→(Env→q8→Prop)→Env→q8→Prop
 | [],K,e,σ=>K e σ
 | i::r,K,e,σ=>(match ops[i]? with
   | some o=>AOpd P T G N Pr (inL frs i) ops o (APerm P T G N Pr frs ops r K) e σ
   | none=>False)
def j4(ops:Array Oper)(i:Nat):List Nat:=match ops[i]? with|some o=>(o.after.toList.filter fun e=>Region.binds .any e).map (·.on)|none=>[]
def kR(ops:Array Oper)(prs:List (List Nat))(frs:List Nat)(x y:Nat):Bool :=
 x != y&&!(inL (prs.getD x []) y)&&(inL (prs.getD y []) x || (match ops[x]?,ops[y]? with
   | some a,some b=>a.apart ops b&&allowed (cls a.op) (cls b.op) (inL frs x) (inL frs y)
   | _,_=>false))
def pwOk(ops:Array Oper)(prs:List (List Nat))(frs:List Nat):List Nat→Bool
 | []=>true
 | x::r=>r.all (kR ops prs frs x)&&pwOk ops prs frs r
def kr(N:Nat)(ops:Array Oper)(prs:List (List Nat))(frs perm:List Nat):Bool :=
 perm.length==ops.size&&perm.all (fun i=>decide (i<ops.size))&&(List.range ops.size).all (inL perm) &&
 (List.range ops.size).all (fun i=>(match ops[i]? with|some o=>jY N o.dst|none=>false) &&
   !(inL (prs.getD i []) i)&&(prs.getD i []).all (fun j=>(j4 ops i).any fun k=>k==j || inL (prs.getD k []) j)&&(j4 ops i).all (fun k=>decide (k<ops.size)&&inL (prs.getD i []) k)) &&
 pwOk ops prs frs perm
theorem APerm.mono{Pr:Nm→Prop}{frs:List Nat}{ops:Array Oper}(hd:∀(i:Nat) (o:Oper),ops[i]? = some o→jY N o.dst=true):∀(l:List Nat) {K K':Env→q8→Prop} (e:Env) (σ:q8),APerm P T G N Pr frs ops l K e σ→(∀e σ,K e σ→K' e σ)→APerm P T G N Pr frs ops l K' e σ:=by
 intro l
 induction l with
 | nil=>exact fun e σ h hk=>hk e σ h
 | cons i r ih =>
   intro K K' e σ h hk
   simp only[APerm] at h ⊢
   split at h
   · rename_i o ho
     exact AOpd.mono (hd i o ho) h fun e σ h=>ih e σ h hk
   · exact h
theorem APerm.front{Pr:Nm→Prop}{prs:List (List Nat)}{frs:List Nat}{ops:Array Oper}(hd:∀(i:Nat) (o:Oper),ops[i]? = some o→jY N o.dst=true){i:Nat}{o:Oper}(ho:ops[i]? = some o){l2:List Nat}{K:Env→q8→Prop} :
   ∀(l1:List Nat) (e:Env) (σ:q8),Fin σ→(∀x∈l1,kR ops prs frs x i=true∧inL (prs.getD i []) x=false)→APerm P T G N Pr frs ops (l1++i::l2) K e σ →
   AOpd P T G N Pr (inL frs i) ops o (APerm P T G N Pr frs ops (l1++l2) K) e σ:=by
 intro l1
 induction l1 with
 | nil=>intro e σ _ _ h;simpa [APerm,ho] using h
 | cons x l1 ih =>
   intro e σ hf hok h
   obtain⟨h1,h2⟩:=hok x (by simp)
   simp only[List.cons_append,APerm] at h
   cases hx:ops[x]? with
   | none=>rw[hx] at h;exact h.elim
   | some ox =>
     rw[hx] at h
     simp only at h
     simp only[kR,h2,hx,ho,Bool.false_or,Bool.and_eq_true] at h1
     have h3:=AOpd.mono (hd x ox hx) (AOpd.fin (hd x ox hx) hf h) fun e1 σ1 hk=>ih e1 σ1 hk.1 (fun y hy=>hok y (by simp[hy])) hk.2
     have h4:=step_swap hf h1.2.1 h1.2.2 (hd x ox hx) (hd i o ho) h3
     refine AOpd.mono (hd i o ho) h4 fun e1 σ1 hk=>?_
     simp only[List.cons_append,APerm,hx]
     exact hk
theorem mem_mid{l1 l2:List Nat}{i y:Nat}(h:y∈l1++l2):y∈l1++i::l2:=by
 rcases List.mem_append.1 h with h|h
 · exact List.mem_append_left _ h
 · exact List.mem_append_right _ (List.mem_cons_of_mem _ h)
theorem APerm.sound{ro:Option Nat}(hT:TOk P T){Pr:Nm→Prop}{prs:List (List Nat)}{frs:List Nat}{ops:Array Oper}{K:Env→q8→Prop}{Q:Exit→Act→World→Prop}{σ0:q8}{w0:World}(hd:∀(i:Nat) (o:Oper),ops[i]? = some o→jY N o.dst=true)
   (hc1:∀i,i<ops.size→∀j,inL (prs.getD i []) j=true→∃k∈j4 ops i,k=j∨inL (prs.getD k []) j=true) (hc2:∀i,i<ops.size→∀k∈j4 ops i,k<ops.size∧inL (prs.getD i []) k=true) (hself:∀i,i<ops.size→inL (prs.getD i []) i=false)
   (hq:∀a' w' e' σ',K e' σ'→Rel G N e' σ' σ0 w0 a' w'→Q .normal a' w') :
   ∀ (n:Nat) (l:List Nat) (listed:Array Bool) (e:Env) (σ:q8) (a:Act) (w:World),l.length=n→listed.size=ops.size→(∀i∈l,i<ops.size)→(∀i,i<ops.size→(i∈l↔listed.getD i false=false)) →
     (∀i,i<ops.size→listed.getD i false=true→∀j,inL (prs.getD i []) j=true→listed.getD j false=true)→pwOk ops prs frs l=true →
     Rel G N e σ σ0 w0 a w→APerm P T G N Pr frs ops l K e σ→wpAnyIn (FW ro) 0 P .any ops Q n listed a w:=by
 intro n
 induction n with
 | zero =>
   intro l listed e σ a w hl hz hlt hin hdc hpw hr h
   obtain rfl:l=[]:=List.eq_nil_of_length_eq_zero hl
   refine⟨?_,hq a w e σ h hr⟩
   unfold Region.ready
   rw[List.filter_eq_nil_iff]
   intro i hi
   have hi:i<ops.size:=by simpa using hi
   have:listed.getD i true=true:=by
     have hs:i<listed.size:=by omega
     cases hb:listed.getD i false with
     | true=>simpa [hs] using hb
     | false=>exact absurd ((hin i hi).2 hb) (by simp)
   simp[this]
 | succ n ih =>
   intro l listed e σ a w hl hz hlt hin hdc hpw hr h
   have hgd:∀i,i<ops.size→listed.getD i true=listed.getD i false:=fun i hi=>by
     have:i<listed.size:=by omega
     simp[this]
   have hedge:∀i o,ops[i]? = some o→((o.after.all fun e => !Region.binds .any e || listed.getD e.on false)=true↔∀k∈j4 ops i,listed.getD k false=true):=by
     intro i o ho
     unfold j4
     rw[ho]
     simp only[Array.all_eq_true_iff_forall_mem,List.mem_map,List.mem_filter]
     constructor
     · rintro h k ⟨e,⟨h1,h2⟩,rfl⟩
       have:=h e (by simpa using h1)
       simpa [h2] using this
     · intro h e he
       cases hb:Region.binds .any e with
       | false=>rfl
       | true=>simpa using h e.on ⟨e,⟨by simpa using he,hb⟩,rfl⟩
   have hready:∀i,i∈Region.ready .any ops listed↔i∈l∧∀k∈j4 ops i,listed.getD k false=true:=by
     intro i
     unfold Region.ready
     rw[List.mem_filter]
     constructor
     · rintro⟨h1,h2⟩
       have hi:i<ops.size:=by simpa using h1
       have ho:ops[i]? = some ops[i]:=by simp[hi]
       rw[ho,hgd i hi] at h2
       simp only[Option.map_some,Option.getD_some,Bool.and_eq_true,Bool.not_eq_true'] at h2
       exact⟨(hin i hi).2 h2.1,(hedge i _ ho).1 h2.2⟩
     · rintro⟨h1,h2⟩
       have hi:=hlt i h1
       have ho:ops[i]? = some ops[i]:=by simp[hi]
       refine⟨by simpa using hi,?_⟩
       rw[ho,hgd i hi]
       simp only[Option.map_some,Option.getD_some,Bool.and_eq_true,Bool.not_eq_true']
       exact⟨(hin i hi).1 h1,(hedge i _ ho).2 h2⟩
   have hpre:∀i,i<ops.size→(∀k∈j4 ops i,listed.getD k false=true)→∀j,inL (prs.getD i []) j=true→listed.getD j false=true:=by
     intro i hi hk j hj
     obtain⟨k,hk1,hk2⟩:=hc1 i hi j hj
     rcases hk2 with rfl|hk2
     · exact hk k hk1
     · exact hdc k (hc2 i hi k hk1).1 (hk k hk1) j hk2
   have pw_mem:∀(l1:List Nat) (i:Nat) (l2:List Nat),pwOk ops prs frs (l1++i::l2)=true→(∀x∈l1,kR ops prs frs x i=true)∧(∀y∈l2,kR ops prs frs i y=true)∧pwOk ops prs frs (l1++l2)=true:=by
     intro l1
     induction l1 with
     | nil =>
       intro i l2 h
       simp only[List.nil_append,pwOk,Bool.and_eq_true,List.all_eq_true] at h
       exact⟨by simp,h.1,h.2⟩
     | cons x l1 ih1 =>
       intro i l2 h
       simp only[List.cons_append,pwOk,Bool.and_eq_true,List.all_eq_true] at h
       obtain⟨h1,h2⟩:=h
       obtain⟨g1,g2,g3⟩:=ih1 i l2 h2
       refine⟨?_,g2,?_⟩
       · intro y hy
         rcases List.mem_cons.1 hy with rfl|hy
         · exact h1 i (by simp)
         · exact g1 y hy
       · simp only[List.cons_append,pwOk,Bool.and_eq_true,List.all_eq_true]
         exact⟨fun y hy=>h1 y (mem_mid hy),g3⟩
   refine⟨fun hnil=>?_,fun i hi=>?_⟩
   · -- the first one may come
     cases l with
     | nil=>simp at hl
     | cons x r =>
       have hx:x∈Region.ready .any ops listed:=(hready x).2 ⟨by simp,fun k hk=>by
         obtain⟨hk1,hk2⟩:=hc2 x (hlt x (by simp)) k hk
         cases hb:listed.getD k false with
         | true=>rfl
         | false =>
           have hkl:=(hin k hk1).2 hb
           simp only[pwOk,Bool.and_eq_true,List.all_eq_true] at hpw
           rcases List.mem_cons.1 hkl with rfl|hkr
           · rw[hself k hk1] at hk2;cases hk2
           · have:=hpw.1 k hkr
             simp only[kR,Bool.and_eq_true,Bool.not_eq_true'] at this
             rw[hk2] at this
             cases this.1.2⟩
       rw[hnil] at hx
       cases hx
   · obtain⟨hil,hie⟩:=(hready i).1 hi
     have hi':=hlt i hil
     have ho:ops[i]? = some ops[i]:=by simp[hi']
     obtain⟨l1,l2,rfl⟩:=List.append_of_mem hil
     obtain⟨p1,p2,p3⟩:=pw_mem l1 i l2 hpw
     have hfr:=APerm.front hd ho l1 e σ hr.mem.toFin (fun x hx=>⟨p1 x hx,by
       cases hb:inL (prs.getD i []) x with
       | false=>rfl
       | true =>
         have h1:=hpre i hi' hie x hb
         have h2:=(hin x (hlt x (by simp[hx]))).1 (by simp[hx])
         rw[h1] at h2;cases h2⟩) h
     have hne:∀x,x∈l1++l2→x≠i:=by
       intro x hx e
       subst e
       rcases List.mem_append.1 hx with hx|hx
       · have:=p1 x hx;simp[kR] at this
       · have:=p2 x hx;simp[kR] at this
     have hs:=AOp1.sound (ro:=ro) hT hr hfr.to1 (Q:=Q) (next:=wpAnyIn (FW ro) 0 P .any ops Q n (listed.setIfInBounds i true)) fun a' w' e' σ' hk hr'=>by
       refine ih (l1++l2) (listed.setIfInBounds i true) e' σ' a' w' (by simp at hl ⊢;omega) (by simpa using hz) (fun x hx=>hlt x (mem_mid hx)) (fun x hx=>?_) (fun x hx hlx j hj=>?_) p3 hr' hk
       · by_cases hxi:x=i
         · subst hxi
           constructor
           · intro hm;exact absurd rfl (hne x hm)
           · intro hm;simp[hz,hx] at hm
         · have e1:(listed.setIfInBounds i true).getD x false=listed.getD x false:=by
             simp only[Array.getD_eq_getD_getElem?,Array.getElem?_setIfInBounds]
             rw[if_neg (fun e=>hxi e.symm)]
           rw[e1,←hin x hx]
           simp[hxi]
       · have up:∀j,listed.getD j false=true→(listed.setIfInBounds i true).getD j false=true:=fun j hj=>by
           simp only[Array.getD_eq_getD_getElem?,Array.getElem?_setIfInBounds] at hj ⊢
           split
           · rw[if_pos (by omega)];rfl
           · exact hj
         by_cases hxi:x=i
         · subst hxi
           exact up j (hpre x hx hie j hj)
         · have e1:(listed.setIfInBounds i true).getD x false=listed.getD x false:=by
             simp only[Array.getD_eq_getD_getElem?,Array.getElem?_setIfInBounds]
             rw[if_neg (fun e=>hxi e.symm)]
           rw[e1] at hlx
           exact up j (hdc x hx hlx j hj)
     unfold wpOpIn
     rw[ho]
     exact hs
theorem SWp.draw(hT:TOk P T)(hm:P.follows .mixedOrders=true){id:Nat}{ops:Array Oper}{Q:Exit→Env→q8→Prop}{e:Env}{σ:q8}(prs:List (List Nat))(frs perm:List Nat)(Pr:Nm→Prop)(hok:kr N ops prs frs perm=true)
   (h:APerm P T G N Pr frs ops perm (Q .normal) e σ):SWp P G N (.region id ops true) Q e σ:=by
 refine⟨fun σ0 w0 a w hr _=>?_⟩
 refine wpIn_region_any hm ?_
 unfold kr at hok
 simp only[Bool.and_eq_true,beq_iff_eq,List.all_eq_true,decide_eq_true_eq,List.mem_range] at hok
 obtain⟨⟨⟨⟨k1,k2⟩,k3⟩,k4⟩,k5⟩:=hok
 have hr':Rel G N e σ σ0 w0 a { w with drawn:=w.drawn+1 }:=⟨hr.n,hr.d.mono (Stp.refl σ w).drew,fun x=>(hr.env x).mono (Stp.refl σ w).drew,hr.mem.drew,hr.st.drew,hr.glob.mono (Stp.refl σ w).drew⟩
 have hget:∀i,i<ops.size→(Array.replicate ops.size false).getD i false=false:=fun i hi=>by simp[hi]
 have hd:∀(i:Nat) (o:Oper),ops[i]? = some o→jY N o.dst=true:=fun i o ho=>by
   have hi:i<ops.size:=(Array.getElem?_eq_some_iff.1 ho).1
   have:=(k4 i hi).1.1.1
   rw[ho] at this
   exact this
 refine APerm.sound hT hd (fun i hi j hj=>?_) (fun i hi k hk=>?_) (fun i hi=>?_) (fun a' w' e' σ' hk hr'=>⟨e',σ',hk,hr'⟩) ops.size perm (Array.replicate ops.size false) e σ a _ k1 (by simp) (fun i hi=>k2 i hi) (fun i hi=>?_) (fun i hi hl=>?_) k5 hr' h
 · have:=(k4 i hi).1.2 j ((inL_iff _ _).1 hj)
   simp only[List.any_eq_true,Bool.or_eq_true,beq_iff_eq] at this
   exact this
 · exact(k4 i hi).2 k hk
 · simpa using(k4 i hi).1.1.2
 · exact⟨fun _=>hget i hi,fun _=>(inL_iff _ _).1 (k3 i hi)⟩
 · rw[hget i hi] at hl;cases hl
end
theorem LP.nm{P:Program}{G:Nat→AV}{f:FuncId}{args:List AV}{ps:List (Nm×Pl)}{post:Nm→AV×List (Nm×Pl)}(h:LP P G f args ps post):∀q,(∀x∈(post q).2,x.1=q∨x.1∈ps.map (·.1))∧(q∉ps.map (·.1)→((post q).2.map (·.1)).Nodup):=h.2.1
theorem LSpecN.nm{P:Program}{G:Nat→AV}{f:FuncId}{args:List AV}{ps:List (Nm×Pl)}{k:Nat}{post:List Nm→AV×List (Nm×Pl)}(h:LSpecN P G f args ps k post):∀qs,qs.length=k→(∀x∈(post qs).2,x.1∈qs∨x.1∈ps.map (·.1))∧(qs.Nodup→(∀q∈qs,q∉ps.map (·.1))→((post qs).2.map (·.1)).Nodup):=h.2.1
theorem LSpecF.nm{ι:Type}{P:Program}{G:Nat→AV}{f:FuncId}{args:List AV}{ps:List (Nm×Pl)}{k:Nat}{post:ι→List Nm→AV×List (Nm×Pl)}(h:LSpecF ι P G f args ps k post):∀i qs,qs.length=k→(∀x∈(post i qs).2,x.1∈qs∨x.1∈ps.map (·.1))∧(qs.Nodup→(∀q∈qs,q∉ps.map (·.1))→((post i qs).2.map (·.1)).Nodup):=h.2.1
attribute [irreducible] LP LSpecN LSpecF
end Go.Proofs.YtndpmpnmkpaklaaGreatDoor
