/-
  Contracts of the functions that the laws reach.
-/
import Derived.Test.YtndpmpnmkpaklaaGreatDoorHr17
set_option linter.all false
namespace Go.Proofs.YtndpmpnmkpaklaaGreatDoor
open Go.RowKit
variable {G:Nat→AV}
theorem qA{α β:Type}{f:α→β}(l:List α)(i:Nat)(d:α)(h:i<l.length):(l.take (i+1)).map f=(l.take i).map f++[f (l.getD i d)]:=by
 rw[List.take_succ_eq_append_getElem h,List.map_append]
 simp[List.getD_eq_getElem?_getD,h]
theorem kc{α:Type}{f:α→List AV}{n i:Nat}{l:List α}(hf:∀x,(f x).length=n)(h:(i:Int)<(l.length:Int)):n≤(List.drop ((i:Int).toNat*n) (l.flatMap f)).length:=by
 rw[List.length_drop,qm hf,←Nat.sub_mul]
 exact Nat.le_mul_of_pos_left _ (by omega)
section
variable {s:Sn}{h:Hd}{f:Int}
theorem v9(i:Nat)(hi:i<s.rf.length)(hb:jf s h f (s.rf.getD i Hd.z)=false):z9 s h f=false:=by
 unfold z9
 rw[allg_bad s.rf i Hd.z hi hb]
 rfl
theorem possR_tt(hall:s.rf.all (jf s h f)=true)(hf:f=3∧h.k≠2∨jH 16 (s.rf.map Hd.num) (wid f h.k 0) h.num=true)(h2:¬(f=2∧h.k=2)):z9 s h f=true:=by
 unfold z9
 rw[hall,decide_eq_true h2]
 rcases hf with hf|hf
 · rw[decide_eq_true hf];rfl
 · rw[hf];simp
theorem refB_c{r:Hd}(h1:¬jq r h=0):jf s h f r=false:=by unfold jf;rw[decide_eq_false h1];rfl
end
theorem Hd.eqs(a b:Hd):za [(a.k,b.k),(a.tos,b.tos),(a.id,b.id),(a.fx,b.fx),(a.ttl,b.ttl),(a.fr,b.fr),(a.to,b.to),(a.fp,b.fp),(a.tp,b.tp),(a.ck,b.ck),(a.mr,b.mr),(a.ty,b.ty),(a.sq,b.sq),(a.tm,b.tm),(a.sr,b.sr)]=decide (a=b):=by
 rw[Bool.eq_iff_iff]
 obtain⟨a1,a2,a3,a4,a5,a6,a7,a8,a9,a10,a11,a12,a13,a14,a15⟩:=a
 obtain⟨b1,b2,b3,b4,b5,b6,b7,b8,b9,b10,b11,b12,b13,b14,b15⟩:=b
 simp[za]
theorem refB_1{s:Sn}{h r:Hd}(h1:jq r h=0):jf s h 1 r=decide (zq s h r=h):=by unfold jf;rw[decide_eq_true h1];simp
theorem refB_2{s:Sn}{h r:Hd}(h1:jq r h=0)(h2:h.k=2):jf s h 2 r=decide ((zq s h r).id=h.id):=by unfold jf;rw[decide_eq_true h1];simp[h2]
theorem refB_o{s:Sn}{h r:Hd}{f:Int}(h1:jq r h=0)(h2:f≠1)(h3:¬(f=2∧h.k=2)):jf s h f r=true:=by unfold jf;rw[decide_eq_true h1];simp[h2];by_cases h4:f=2<;>by_cases h5:h.k=2<;>simp_all
open Go.RowKit
variable {G:Nat→AV}
@[reducible] def Sn.cv(s:Sn)(R:AV):List AV:=[.bool s.act,iAV s.full,iAV s.refr,iAV s.ser,iAV s.sin,iAV s.lng,iAV s.dy.st,iAV s.dy.fo,R]
open Go.RowKit
variable {G:Nat→AV}
def ownP(h:Hd)(s:Sn):Bool:=s.act&&qy s.fst h
def kE:Option Nat→Int
 | some i=>i
 | none => -1
def fndV(o:Option Nat):AV:=.tup [iAV (kE o),.bool o.isSome]
theorem AC.fld2{α:Type}{f:α→List AV}{n:Nat}{l:List α}{o m:Nat}{K:AV→Prop}(hf:∀x,(f x).length=n)(i j:Nat)(d:α)(v:AV)(ho:o=i*n)(hj:j+m≤n)(h:i<l.length)(hv:mkv false (((f (l.getD i d)).drop j).take m)=v)(k:K v):AC false ((List.drop j (List.drop o (l.flatMap f))).take m) K:=by
 rw[List.drop_drop,ho]
 exact AC.fld hf i j d v rfl hj h hv k
theorem rec0_le{l:List Hd}(h:0<l.length):15≤(List.drop (Int.toNat 0*15) (l.flatMap Hd.cs)).length:=kc (i:=0) Hd.cs_len (by omega)
attribute [local irreducible] qy
theorem fndV_e(o:Option Nat):AV.tup [.int .i64 (kE o),.bool (qr .geq (kE o) 0)]=fndV o:=by
 cases o with
 | none=>rfl
 | some j=>simp[fndV,kE,qr,iAV]
end Go.Proofs.YtndpmpnmkpaklaaGreatDoor
