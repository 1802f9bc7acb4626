/-
  Contracts of the functions that the laws reach.
-/
import Derived.Test.YtndpmpnmkpaklaaGreatDoorHr18
set_option linter.all false
namespace Go.Proofs.YtndpmpnmkpaklaaGreatDoor
open Go.RowKit
variable {G:Nat→AV}
def rngP(m w:Int)(s:Sn):Prop:=1≤s.rf.length∧(s.rf.length:Int)≤kU m w∧(0≤s.ser∧s.ser≤s.rf.length)∧(0≤s.full∧s.full≤w)∧(0≤s.refr∧s.refr≤w)∧¬(0<s.full∧0<s.refr)∧(0≤s.sin∧s.sin≤32)∧(0≤s.lng∧s.lng≤3)
def refG(s:Sn)(r:Hd):Bool:=r.ok&&qy r s.fst
def endR(s:Sn):Bool:=decide (s.fst.k=2∨s.dy=Dy.z)
theorem inR_iff{n m:Int}:inR n m=true↔0≤n∧n≤m:=in_iff n m
theorem Sn.ok_e{m w:Int}{s:Sn}(h:s.act=true):s.ok m w=true↔rngP m w s∧s.dy.ok=true∧s.rf.all (refG s)=true∧endR s=true:=by
 unfold Sn.ok rngP refG endR
 rw[if_pos h]
 simp only[Bool.and_eq_true,decide_eq_true_eq,inR_iff]
 constructor
 · rintro⟨⟨a1,a2⟩,a3,a4,a5,a6,a7,a8,a9,a10,a11⟩
   exact⟨⟨a1,a2,a3,a4,a5,a6,a7,a8⟩,a9,a11,a10⟩
 · rintro⟨⟨a1,a2,a3,a4,a5,a6,a7,a8⟩,a9,a11,a10⟩
   exact⟨⟨a1,a2⟩,a3,a4,a5,a6,a7,a8,a9,a10,a11⟩
theorem Dy.eqs(a b:Dy):za [(a.st,b.st),(a.fo,b.fo)]=decide (a=b):=by
 obtain⟨a1,a2⟩:=a
 obtain⟨b1,b2⟩:=b
 rw[Bool.eq_iff_iff]
 simp[za]
theorem emptyR_e(s:Sn):y9 s=(decide (s.full=0)&&(decide (s.refr=0)&&(decide (s.ser=0)&&(decide (s.sin=0)&&(decide (s.lng=0)&&(decide (s.dy=Dy.z)&&decide ((s.rf.length:Int)=0))))))):=by
 rw[Bool.eq_iff_iff]
 simp[y9]
theorem Dy.eqz(d:Dy):decide (d=Dy.z)=za [(d.st,0),(d.fo,0)]:=(Dy.eqs d Dy.z).symm
attribute [local irreducible] qy
end Go.Proofs.YtndpmpnmkpaklaaGreatDoor
