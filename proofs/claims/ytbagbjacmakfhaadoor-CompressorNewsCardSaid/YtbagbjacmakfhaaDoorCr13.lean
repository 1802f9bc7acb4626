/-
  Contracts of the functions that the laws reach.
-/
import Derived.Test.YtbagbjacmakfhaaDoorCr01
import Derived.Test.YtbagbjacmakfhaaDoorCr02
import Derived.Test.YtbagbjacmakfhaaDoorCr03
import Derived.Test.YtbagbjacmakfhaaDoorCr04
import Derived.Test.YtbagbjacmakfhaaDoorCr05
import Derived.Test.YtbagbjacmakfhaaDoorCr06
import Derived.Test.YtbagbjacmakfhaaDoorCr07
import Derived.Test.YtbagbjacmakfhaaDoorCr08
import Derived.Test.YtbagbjacmakfhaaDoorCr11
import Derived.Test.YtbagbjacmakfhaaDoorCr12
set_option linter.all false
namespace Go.Proofs.YtbagbjacmakfhaaDoor
open Go.RowKit
variable {G : Nat → AV}
theorem zX {α : Type} {g : α → Bool} (l : List α) (i : Nat) (d : α) (h : i < l.length) : (l.take (i + 1)).all g = ((l.take i).all g && g (l.getD i d)) := by
 rw [List.take_succ_eq_append_getElem h, List.all_append]
 simp [List.getD_eq_getElem?_getD, h]
theorem kw {α : Type} {g : α → Bool} (l : List α) (i : Nat) (d : α) (h : i < l.length) (hb : g (l.getD i d) = false) : l.all g = false := by
 cases hc : l.all g with
 | false => rfl
 | true =>
   rw [List.all_eq_true] at hc
   have := hc (l.getD i d) (by simp [List.getD_eq_getElem?_getD, h])
   rw [hb] at this; cases this
theorem xK {α : Type} {g : α → Bool} {l : List α} {i : Nat} (h : l.length ≤ i) (hk : (l.take i).all g = true) : l.all g = true := by rwa [List.take_of_length_le h] at hk
def yh (width k v : Int) : Bool := jP width && (decide (3 ≤ k ∧ k ≤ width) && j0 width v)
theorem poly_cb (f : Int) : zR (cbR f) = true := by
 unfold zR cbR
 (repeat' split) <;> simp
theorem crcO_cb (f : Int) (l : List UInt8) : crcO (cbR f) l = (vv (cbR f) l, 0) := crcO_y (poly_cb f) l
theorem headL_le (h : Hd) : (qq h).length ≤ 40 := by rw [qT]; split <;> omega
open Go.RowKit
variable {G : Nat → AV}
theorem qh {α β : Type} {f : α → β} (l : List α) (i : Nat) (d : α) (h : i < l.length) : (l.take (i + 1)).map f = (l.take i).map f ++ [f (l.getD i d)] := by
 rw [List.take_succ_eq_append_getElem h, List.map_append]
 simp [List.getD_eq_getElem?_getD, h]
theorem xt {α : Type} {f : α → List AV} {n i : Nat} {l : List α} (hf : ∀ x, (f x).length = n) (h : (i : Int) < (l.length : Int)) : n ≤ (List.drop ((i : Int).toNat * n) (l.flatMap f)).length := by
 rw [List.length_drop, qJ hf, ← Nat.sub_mul]
 exact Nat.le_mul_of_pos_left _ (by omega)
section
variable {s : Sn} {h : Hd} {f : Int}
theorem kI (i : Nat) (hi : i < s.rf.length) (hb : zp s h f (s.rf.getD i Hd.z) = false) : qO s h f = false := by
 unfold qO
 rw [kw s.rf i Hd.z hi hb]
 rfl
theorem possR_tt (hall : s.rf.all (zp s h f) = true) (hf : f = 3 ∧ h.k ≠ 2 ∨ jc 16 (s.rf.map Hd.num) (wid f h.k 0) h.num = true) (h2 : ¬ (f = 2 ∧ h.k = 2)) : qO s h f = true := by
 unfold qO
 rw [hall, decide_eq_true h2]
 rcases hf with hf | hf
 · rw [decide_eq_true hf]; rfl
 · rw [hf]; simp
theorem refB_c {r : Hd} (h1 : ¬ xo r h = 0) : zp s h f r = false := by unfold zp; rw [decide_eq_false h1]; rfl
end
theorem Hd.eqs (a b : Hd) : qH [(a.k, b.k), (a.tos, b.tos), (a.id, b.id), (a.fx, b.fx), (a.ttl, b.ttl), (a.fr, b.fr), (a.to, b.to), (a.fp, b.fp), (a.tp, b.tp), (a.ck, b.ck), (a.mr, b.mr), (a.ty, b.ty), (a.sq, b.sq), (a.tm, b.tm), (a.sr, b.sr)] = decide (a = b) := by
 rw [Bool.eq_iff_iff]
 obtain ⟨a1, a2, a3, a4, a5, a6, a7, a8, a9, a10, a11, a12, a13, a14, a15⟩ := a
 obtain ⟨b1, b2, b3, b4, b5, b6, b7, b8, b9, b10, b11, b12, b13, b14, b15⟩ := b
 simp [qH]
theorem refB_1 {s : Sn} {h r : Hd} (h1 : xo r h = 0) : zp s h 1 r = decide (qS s h r = h) := by unfold zp; rw [decide_eq_true h1]; simp
theorem refB_2 {s : Sn} {h r : Hd} (h1 : xo r h = 0) (h2 : h.k = 2) : zp s h 2 r = decide ((qS s h r).id = h.id) := by unfold zp; rw [decide_eq_true h1]; simp [h2]
theorem yU {s : Sn} {h r : Hd} {f : Int} (h1 : xo r h = 0) (h2 : f ≠ 1) (h3 : ¬ (f = 2 ∧ h.k = 2)) : zp s h f r = true := by unfold zp; rw [decide_eq_true h1]; simp [h2]; by_cases h4 : f = 2 <;> by_cases h5 : h.k = 2 <;> simp_all
open Go.RowKit
variable {G : Nat → AV}
@[reducible] def Sn.cv (s : Sn) (R : AV) : List AV := [.bool s.act, iAV s.full, iAV s.refr, iAV s.ser, iAV s.sin, iAV s.lng, iAV s.dy.st, iAV s.dy.fo, R]
end Go.Proofs.YtbagbjacmakfhaaDoor
