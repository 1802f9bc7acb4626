/-
  Contracts of the functions that the laws reach.
-/
import Derived.Test.YtkfpgdckdmlhkaaGreatDoorDq01
import Derived.Test.YtkfpgdckdmlhkaaGreatDoorDq02
import Derived.Test.YtkfpgdckdmlhkaaGreatDoorDq03
import Derived.Test.YtkfpgdckdmlhkaaGreatDoorDq04
import Derived.Test.YtkfpgdckdmlhkaaGreatDoorDq05
import Derived.Test.YtkfpgdckdmlhkaaGreatDoorDq06
import Derived.Test.YtkfpgdckdmlhkaaGreatDoorDq07
import Derived.Test.YtkfpgdckdmlhkaaGreatDoorDq08
import Derived.Test.YtkfpgdckdmlhkaaGreatDoorDq10
import Derived.Test.YtkfpgdckdmlhkaaGreatDoorDq14
import Derived.Test.YtkfpgdckdmlhkaaGreatDoorDq15
import Derived.Test.YtkfpgdckdmlhkaaGreatDoorDq16
import Derived.Test.YtkfpgdckdmlhkaaGreatDoorDq17
set_option linter.all false
namespace Go.Proofs.YtkfpgdckdmlhkaaGreatDoor
open Go.RowKit
theorem xa {a b : Hd} : qA a b = true ↔ (a.k = b.k ∧ a.fr = b.fr ∧ a.to = b.to ∧ a.fp = b.fp ∧ a.tp = b.tp ∧ a.sr = b.sr) := by unfold qA; rw [decide_eq_true_iff]
theorem wa {a b : Hd} (h : qA a b = true) : qA b a = true := by
 rw [xa] at h ⊢
 exact ⟨h.1.symm, h.2.1.symm, h.2.2.1.symm, h.2.2.2.1.symm, h.2.2.2.2.1.symm, h.2.2.2.2.2.symm⟩
theorem j1 {a b c : Hd} (h : qA a b = true) (k : qA b c = true) : qA a c = true := by
 rw [xa] at h k ⊢
 exact ⟨h.1.trans k.1, h.2.1.trans k.2.1, h.2.2.1.trans k.2.2.1, h.2.2.2.1.trans k.2.2.2.1, h.2.2.2.2.1.trans k.2.2.2.2.1, h.2.2.2.2.2.trans k.2.2.2.2.2⟩
theorem sameR_rfl (a : Hd) : qA a a = true := xa.2 ⟨rfl, rfl, rfl, rfl, rfl, rfl⟩
theorem mem_lst {s : Sn} (h : 0 < s.rf.length) : s.lst ∈ s.rf := by
 unfold Sn.lst
 rw [List.getD_eq_getElem?_getD, List.getElem?_eq_getElem (by omega)]
 exact List.getElem_mem _
theorem mem_fst {s : Sn} (h : 0 < s.rf.length) : s.fst ∈ s.rf := by
 unfold Sn.fst
 rw [List.getD_eq_getElem?_getD, List.getElem?_eq_getElem (by omega)]
 exact List.getElem_mem _
theorem dyz_ok : Dy.z.ok = true := by unfold Dy.ok Dy.z inR; decide
theorem yo (a b : Hd) : (zR a b).ok = true ∧ (a.k = 2 ∨ zR a b = Dy.z) := by
 unfold zR
 split
 · rename_i h
   refine ⟨?_, .inl h.2.2.1⟩
   unfold Dy.ok
   simp only [Bool.and_eq_true, decide_eq_true_eq]
   constructor
   · split
     · rename_i h2; exact inR_t ⟨h2.2.2.1, h2.2.2.2⟩
     · exact inR_t ⟨by decide, by decide⟩
   · split
     · exact .inr rfl
     · exact .inl rfl
 · exact ⟨dyz_ok, .inr rfl⟩
structure Mid (m w : Int) (h : Hd) (x : Sn) : Prop where
 act : x.act = true
 full : 0 ≤ x.full ∧ x.full ≤ w
 refr : 0 ≤ x.refr ∧ x.refr ≤ w
 both : ¬ (0 < x.full ∧ 0 < x.refr)
 ser : 0 ≤ x.ser ∧ x.ser ≤ x.rf.length
 sin : 0 ≤ x.sin ∧ x.sin ≤ 32
 lng : 0 ≤ x.lng ∧ x.lng ≤ 3
 dok : x.dy.ok = true
 dz : h.k = 2 ∨ x.dy = Dy.z
 refs : ∀ r ∈ x.rf, r.ok = true ∧ qA r h = true
 len : (m ≠ 3 → (x.rf.length : Int) ≤ w) ∧ (m = 3 → x.rf.length ≤ 32)
section
variable {m w : Int} {s x : Sn} {h : Hd}
theorem sn_refs (hs : s.ok m w = true) (ha : s.act = true) (hh : qA s.fst h = true) : ∀ r ∈ s.rf, r.ok = true ∧ qA r h = true := fun r hr => by
 have h1 := ((Sn.ok_e ha).1 hs).2.2.1
 rw [List.all_eq_true] at h1
 have h2 := h1 r hr
 unfold wV at h2
 rw [Bool.and_eq_true] at h2
 exact ⟨h2.1, j1 h2.2 hh⟩
theorem sn_off (hs : s.ok m w = true) (ha : s.act = false) : s.full = 0 ∧ s.refr = 0 ∧ s.ser = 0 ∧ s.sin = 0 ∧ s.lng = 0 ∧ s.dy = Dy.z ∧ s.rf = [] := by
 unfold Sn.ok at hs
 rw [if_neg (by rw [ha]; decide)] at hs
 unfold wJ at hs
 exact of_decide_eq_true hs
theorem mid_of (hs : s.ok m w = true) (ha : s.act = true) (hh : qA s.fst h = true) : Mid m w h s := by
 have h1 := (Sn.ok_e ha).1 hs
 have h2 := h1.1
 unfold vG vz at h2
 have he : endR s = true := h1.2.2.2
 unfold endR at he
 have he := of_decide_eq_true he
 rw [(xa.1 hh).1] at he
 exact ⟨ha, h2.2.2.2.1, h2.2.2.2.2.1, h2.2.2.2.2.2.1, h2.2.2.1, h2.2.2.2.2.2.2.1, h2.2.2.2.2.2.2.2, h1.2.1, he, sn_refs hs ha hh, fun hm => by have := h2.2.1; rw [if_neg hm] at this; exact this, fun hm => by have := h2.2.1; rw [if_pos hm] at this; omega⟩
def Beg (y : Sn × Bool) : Prop := y.2 = true → 0 < y.1.full ∨ 0 < y.1.refr
theorem csA_mid (hw : 1 ≤ w) (hs : s.ok m w = true) (hh : s.act = true → qA s.fst h = true) : Mid m w h (csA w s h).1 ∧ Beg (csA w s h) ∧ (csA w s h).1.rf = s.rf := by
 unfold csA
 cases ha : s.act with
 | false =>
   rw [if_pos rfl]
   obtain ⟨a1, a2, a3, a4, a5, a6, a7⟩ := sn_off hs ha
   refine ⟨⟨rfl, ⟨by dsimp only; omega, by dsimp only; omega⟩, ⟨by dsimp only; omega, by dsimp only; omega⟩, by dsimp only; omega, ⟨by dsimp only; omega, by dsimp only; omega⟩, ⟨by dsimp only; omega, by dsimp only; omega⟩, ⟨by dsimp only; omega, by dsimp only; omega⟩, by rw [a6]; exact dyz_ok, .inr a6, fun r hr => ?_, ?_⟩, fun _ => .inl (by dsimp only; omega), rfl⟩
   · dsimp only at hr; rw [a7] at hr; cases hr
   · dsimp only; rw [a7]; exact ⟨fun _ => by show (0 : Int) ≤ w; omega, fun _ => by decide⟩
 | true =>
   rw [if_neg (by decide)]
   have h0 := mid_of hs ha (hh ha)
   split
   · split
     · exact ⟨{ h0 with full := ⟨by dsimp only; omega, by dsimp only; omega⟩, both := by have := h0.both; dsimp only; omega, lng := ⟨by dsimp only; omega, by dsimp only; omega⟩, act := rfl }, fun _ => .inl (by dsimp only; omega), rfl⟩
     · exact ⟨{ h0 with refr := ⟨by dsimp only; omega, by dsimp only; omega⟩, both := by have := h0.both; dsimp only; omega, lng := ⟨by dsimp only; omega, by dsimp only; omega⟩, act := rfl }, fun _ => .inr (by dsimp only; omega), rfl⟩
   · exact ⟨h0, fun k => Bool.noConfusion k, rfl⟩
theorem csB_mid (hw : 1 ≤ w) {y : Sn × Bool} (h0 : Mid m w h y.1) (hb : Beg y) : Mid m w h (csB m w y).1 ∧ Beg (csB m w y) ∧ (csB m w y).1.rf = y.1.rf := by
 unfold csB
 split
 · exact ⟨{ h0 with full := ⟨by dsimp only; omega, by dsimp only; omega⟩, refr := ⟨by dsimp only; omega, by dsimp only; omega⟩, both := by dsimp only; omega }, fun _ => .inl (by dsimp only; omega), rfl⟩
 · exact ⟨h0, hb, rfl⟩
theorem csD_mid (hw : 1 ≤ w) {y : Sn × Bool} {n : Nat} {last : Hd} {had : Bool} (hn : n = y.1.rf.length) (h0 : Mid m w h y.1) (hb : Beg y) (hl : had = true → last.k = h.k) :
   Mid m w h (csD last had h (csC m w n y)) ∧ (m = 3 → (csD last had h (csC m w n y)).rf.length < 32) ∧ ((csD last had h (csC m w n y)).rf = y.1.rf ∨ (csD last had h (csC m w n y)).rf = []) := by
 have key : ∀ z : Sn, Mid m w h { z with ser := 0 } → Mid m w h (begR z last had h) := fun z hz => by
   unfold begR
   refine { hz with ser := ⟨by dsimp only; omega, by dsimp only; omega⟩, dok := ?_, dz := ?_ }
   · dsimp only
     split
     · exact (yo last h).1
     · exact dyz_ok
   · dsimp only
     split
     · rename_i hd
       have := (yo last h).2
       rw [hl hd] at this
       exact this
     · exact .inr rfl
 unfold csC
 split
 · rename_i hc
   have e : csD last had h ({ y.1 with full := w, refr := 0, rf := [] }, true) = begR { y.1 with full := w, refr := 0, rf := [] } last had h := (csD_y (.inl rfl)).symm
   rw [e]
   refine ⟨key _ { h0 with full := ⟨by dsimp only; omega, by dsimp only; omega⟩, refr := ⟨by dsimp only; omega, by dsimp only; omega⟩, both := by dsimp only; omega, ser := ⟨by dsimp only; omega, by show (0 : Int) ≤ _; omega⟩, refs := fun r hr => (by cases hr), len := ⟨fun _ => by show (0 : Int) ≤ w; omega, fun _ => by show 0 ≤ 32; decide⟩ }, fun _ => by show 0 < 32; decide, .inr rfl⟩
 · rename_i hc
   have hlt : m = 3 → y.1.rf.length < 32 := fun hm => by have := h0.len.2 hm; rw [hn] at hc; omega
   unfold csD
   split
   · exact ⟨key _ { h0 with ser := ⟨by dsimp only; omega, by dsimp only; omega⟩ }, hlt, .inl rfl⟩
   · exact ⟨h0, hlt, .inl rfl⟩
theorem csE_mid (hw : 1 ≤ w) {u last : Hd} {had : Bool} (h0 : Mid m w h x) (hl : had = true → last.k = h.k) :
   Mid m w h (csE w last had h x).1 ∧ (1 ≤ (csE w last had h x).2 ∧ (csE w last had h x).2 ≤ 5) ∧ ((csE w last had h x).2 = 5 ↔ 0 < (csE w last had h x).1.full) ∧ ((csE w last had h x).2 = 4 ↔ 0 < (csE w last had h x).1.refr) ∧ (csE w last had h x).1.rf = x.rf := by
 have hb := h0.both
 have h1 := h0.full
 have h2 := h0.refr
 unfold csE
 split
 · exact ⟨h0, by dsimp only; omega, ⟨fun _ => by assumption, fun _ => rfl⟩, ⟨fun k => by dsimp only at k; omega, fun k => by dsimp only at k; omega⟩, rfl⟩
 · split
   · exact ⟨h0, by dsimp only; omega, ⟨fun k => by dsimp only at k; omega, fun k => by dsimp only at k; omega⟩, ⟨fun _ => by assumption, fun _ => rfl⟩, rfl⟩
   · split
     · exact ⟨h0, by dsimp only; omega, ⟨fun k => by dsimp only at k; omega, fun k => by dsimp only at k; omega⟩, ⟨fun k => by dsimp only at k; omega, fun k => by dsimp only at k; omega⟩, rfl⟩
     · split
       · exact ⟨h0, by dsimp only; omega, ⟨fun k => by dsimp only at k; omega, fun k => by dsimp only at k; omega⟩, ⟨fun k => by dsimp only at k; omega, fun k => by dsimp only at k; omega⟩, rfl⟩
       · split
         · exact ⟨h0, by dsimp only; omega, ⟨fun k => by dsimp only at k; omega, fun k => by dsimp only at k; omega⟩, ⟨fun k => by dsimp only at k; omega, fun k => by dsimp only at k; omega⟩, rfl⟩
         · unfold begR
           refine ⟨{ h0 with ser := ⟨by dsimp only; omega, by dsimp only; omega⟩, dok := ?_, dz := ?_, refr := ⟨by dsimp only; omega, by dsimp only; omega⟩, lng := ⟨by dsimp only; omega, by dsimp only; omega⟩, both := by dsimp only; omega }, by dsimp only; omega, ⟨fun k => by dsimp only at k; omega, fun k => by dsimp only at k; omega⟩, ⟨fun _ => by dsimp only; omega, fun _ => rfl⟩, rfl⟩
           · dsimp only
             split
             · exact (yo last h).1
             · exact dyz_ok
           · dsimp only
             split
             · rename_i hd
               have := (yo last h).2
               rw [hl hd] at this
               exact this
             · exact .inr rfl
theorem lst_k (hs : s.ok m w = true) (hh : s.act = true → qA s.fst h = true) (ha : s.act = true) : s.lst.k = h.k := (xa.1 (sn_refs hs ha (hh ha) _ (mem_lst (yh hs ha))).2).1
theorem ctx_mid (hw : 1 ≤ w) (hs : s.ok m w = true) (hh : s.act = true → qA s.fst h = true) :
   Mid m w h (k8 m w s h).1 ∧ (1 ≤ (k8 m w s h).2 ∧ (k8 m w s h).2 ≤ 5) ∧ ((k8 m w s h).2 = 5 ↔ 0 < (k8 m w s h).1.full) ∧ ((k8 m w s h).2 = 4 ↔ 0 < (k8 m w s h).1.refr) ∧ (m = 3 → (k8 m w s h).1.rf.length < 32) := by
 have hl := lst_k hs hh
 have h1 := csA_mid (m := m) hw hs hh
 have h2 := csB_mid hw h1.1 h1.2.1
 have h3 := csD_mid (n := s.rf.length) (last := s.lst) (had := s.act) hw (by rw [h2.2.2, h1.2.2]) h2.1 h2.2.1 hl
 have h4 := csE_mid (last := s.lst) (had := s.act) (u := h) hw h3.1 hl
 unfold k8
 exact ⟨h4.1, h4.2.1, h4.2.2.1, h4.2.2.2.1, fun hm => by rw [h4.2.2.2.2]; exact h3.2.1 hm⟩
theorem all_of {l : List Hd} {p : Hd → Bool} (k : ∀ r ∈ l, p r = true) : l.all p = true := List.all_eq_true.2 k
theorem sn_ok_of (ha : x.act = true) (hr : vG m w x) (hd : x.dy.ok = true) (hk : x.fst.k = 2 ∨ x.dy = Dy.z) (hrf : ∀ r ∈ x.rf, r.ok = true ∧ qA r x.fst = true) : x.ok m w = true := by
 refine (Sn.ok_e ha).2 ⟨hr, hd, all_of fun r hr => ?_, ?_⟩
 · unfold wV
   rw [(hrf r hr).1, (hrf r hr).2]; rfl
 · unfold endR
   exact decide_eq_true hk
def cutN (m w : Int) (x : Sn) : Nat := if m ≠ 3 ∧ w < (x.rf.length : Int) + 1 then ((x.rf.length : Int) + 1 - w).toNat else 0
theorem csF_rf (f : Int) : (csF m w h x f).rf = (x.rf ++ [h]).drop (cutN m w x) := by
 unfold csF cutN
 dsimp only
 split
 · rfl
 · rw [List.drop_zero]
theorem cutN_le (hw : 1 ≤ w) : cutN m w x ≤ x.rf.length := by unfold cutN; split <;> omega
theorem csF_len (hw : 1 ≤ w) (f : Int) : (csF m w h x f).rf.length = x.rf.length + 1 - cutN m w x := by rw [csF_rf]; simp
theorem csF_ok (hw : 1 ≤ w) (hw8 : w ≤ 8) (h0 : Mid m w h x) (ho : h.ok = true) {f : Int} (h5 : f = 5 → 0 < x.full) (h4 : f = 4 → 0 < x.refr) (h3 : m = 3 → x.rf.length < 32) : (csF m w h x f).ok m w = true ∧ (csF m w h x f).act = true ∧ qA (csF m w h x f).fst h = true := by
 have hl := csF_len (m := m) (h := h) (x := x) hw f
 have hc := cutN_le (m := m) (x := x) hw
 have hpos : 0 < (csF m w h x f).rf.length := by omega
 have hmem : ∀ r ∈ (csF m w h x f).rf, r.ok = true ∧ qA r h = true := fun r hr => by
   rw [csF_rf] at hr
   have := List.mem_of_mem_drop hr
   rw [List.mem_append, List.mem_singleton] at this
   rcases this with k | rfl
   · exact h0.refs r k
   · exact ⟨ho, sameR_rfl _⟩
 have hf := hmem _ (mem_fst hpos)
 have a1 := h0.full
 have a2 := h0.refr
 have a3 := h0.both
 have a4 := h0.ser
 have a5 := h0.sin
 have a6 := h0.lng
 have a7 := h0.len
 refine ⟨sn_ok_of h0.act ?_ h0.dok ?_ fun r hr => ⟨(hmem r hr).1, j1 (hmem r hr).2 (wa hf.2)⟩, h0.act, hf.2⟩
 · have e : (csF m w h x f).ser = if m ≠ 3 ∧ w < (x.rf.length : Int) + 1 then max 0 (x.ser - ((x.rf.length : Int) + 1 - w)) else x.ser := rfl
   refine ⟨hpos, ?_, ?_, ?_, ?_, ?_, ?_, ?_⟩
   · rw [hl]
     unfold vz cutN
     by_cases hm : m = 3
     · have := h3 hm; rw [if_pos hm, if_neg (by omega)]; omega
     · have := a7.1 hm; rw [if_neg hm]; split <;> omega
   · rw [hl, e]
     unfold cutN
     split <;> omega
   · show 0 ≤ (if m ≠ 3 ∧ f = 5 then x.full - 1 else x.full) ∧ (if m ≠ 3 ∧ f = 5 then x.full - 1 else x.full) ≤ w
     split <;> omega
   · show 0 ≤ (if m ≠ 3 ∧ f = 4 then x.refr - 1 else x.refr) ∧ (if m ≠ 3 ∧ f = 4 then x.refr - 1 else x.refr) ≤ w
     split <;> omega
   · show ¬ (0 < (if m ≠ 3 ∧ f = 5 then x.full - 1 else x.full) ∧ 0 < (if m ≠ 3 ∧ f = 4 then x.refr - 1 else x.refr))
     split <;> split <;> omega
   · show 0 ≤ (if f = 5 then 0 else min (x.sin + 1) 32) ∧ (if f = 5 then 0 else min (x.sin + 1) 32) ≤ 32
     split <;> omega
   · show 0 ≤ (if (f = 2 ∨ f = 3) ∧ h.k = 2 then min (x.lng + 1) 3 else 0) ∧ (if (f = 2 ∨ f = 3) ∧ h.k = 2 then min (x.lng + 1) 3 else 0) ≤ 3
     split <;> omega
 · rw [(xa.1 hf.2).1]
   exact h0.dz
end
theorem vn {c : Co} : c.ok = true ↔ (1 ≤ c.m ∧ c.m ≤ 3 ∧ 1 ≤ c.w ∧ c.w ≤ 8) ∧ c.cx.length = 16 ∧ (∀ i, i < 16 → (c.at i).ok c.m c.w = true) ∧ ∀ i k, k < i → i < 16 → zF (c.at i) (c.at k) = false := by
 constructor
 · intro h
   refine ⟨co_w h, zS h, fun i hi => co_sn h i (by rw [zS h]; exact hi), fun i k hk hi => ?_⟩
   have h1 := rng_get (co_oks h) hi
   rw [Bool.and_eq_true] at h1
   have h2 := rng_get h1.2 hk
   simpa using h2
 · rintro ⟨h1, h2, h3, h4⟩
   refine okc ?_ h2 ?_
   · unfold jP; exact decide_eq_true h1
   · rw [oks_e, List.all_eq_true]
     intro i hi
     have hi := List.mem_range.1 hi
     unfold oksG
     rw [h3 i hi, Bool.true_and, List.all_eq_true]
     intro k hk
     rw [h4 i k (List.mem_range.1 hk) hi]; rfl
theorem alike_e {s t : Sn} : zF s t = true ↔ s.act = true ∧ t.act = true ∧ qA s.fst t.fst = true := by unfold zF; simp
theorem alike_f {s t : Sn} (h : s.act = true → t.act = true → qA s.fst t.fst = true → False) : zF s t = false := by
 cases hc : zF s t with
 | false => rfl
 | true => rw [alike_e] at hc; exact (h hc.1 hc.2.1 hc.2.2).elim
theorem co_set {c : Co} {i : Nat} {s : Sn} {h : Hd} (hc : c.ok = true) (hi : i < 16) (hs : s.ok c.m c.w = true) (hf : s.act = true → qA s.fst h = true) (ho : ∀ k, k < 16 → k ≠ i → (c.at k).act = true → qA (c.at k).fst h = false) : (c.set i s).ok = true := by
 obtain ⟨h1, h2, h3, h4⟩ := vn.1 hc
 have hat : ∀ k, k < 16 → (c.set i s).at k = if k = i then s else c.at k := fun k hk => by
   unfold Co.set Co.at
   rw [List.getD_eq_getElem?_getD, List.getElem?_set]
   split
   · rename_i e; subst e; rw [if_pos (by omega), if_pos rfl]; rfl
   · rename_i e; rw [if_neg (fun k => e k.symm), List.getD_eq_getElem?_getD]
 refine vn.2 ⟨h1, by show (c.cx.set i s).length = 16; rw [List.length_set]; exact h2, fun k hk => ?_, fun a b hb ha => ?_⟩
 · rw [hat k hk]
   split
   · exact hs
   · exact h3 k hk
 · rw [hat a ha, hat b (by omega)]
   split
   · rename_i e
     rw [if_neg (by omega)]
     refine alike_f fun x1 x2 x3 => ?_
     have := ho b (by omega) (by omega) x2
     rw [j1 (wa x3) (hf x1)] at this
     cases this
   · rename_i e
     split
     · refine alike_f fun x1 x2 x3 => ?_
       have := ho a ha e x1
       rw [j1 x3 (hf x2)] at this
       cases this
     · exact h4 a b hb ha
theorem jj {c : Co} {h : Hd} {i : Nat} (hc : c.ok = true) (hf : zD c.cx h = some i) : i < 16 ∧ (c.at i).ok c.m c.w = true ∧ ((c.at i).act = true → qA (c.at i).fst h = true) ∧ ∀ k, k < 16 → k ≠ i → (c.at k).act = true → qA (c.at k).fst h = false := by
 have hl := zS hc
 have hi := findR_lt hf
 obtain ⟨h1, h2, h3, h4⟩ := vn.1 hc
 have ga : ∀ k, (hk : k < c.cx.length) → c.at k = c.cx[k] := fun k hk => by unfold Co.at; simp [List.getD_eq_getElem?_getD, hk]
 refine ⟨by omega, h3 i (by omega), ?_⟩
 unfold zD at hf
 split at hf
 · rename_i j hj
   cases hf
   unfold ownI at hj
   rw [List.findIdx?_eq_some_iff_getElem] at hj
   obtain ⟨hx, h5, -⟩ := hj
   rw [← ga i hi, Bool.and_eq_true] at h5
   refine ⟨fun _ => h5.2, fun k hk hne hka => ?_⟩
   cases hs : qA (c.at k).fst h with
   | false => rfl
   | true =>
     have h6 := j1 hs (wa h5.2)
     rcases Nat.lt_or_gt_of_ne hne with hlt | hgt
     · have := h4 i k hlt (by omega)
       rw [alike_e.2 ⟨h5.1, hka, wa h6⟩] at this; cases this
     · have := h4 k i hgt hk
       rw [alike_e.2 ⟨hka, h5.1, h6⟩] at this; cases this
 · rename_i hj
   unfold ownI at hj
   rw [List.findIdx?_eq_none_iff] at hj
   have h7 : ∀ k, k < 16 → (c.at k).act = true → qA (c.at k).fst h = false := fun k hk hka => by
     have := hj (c.cx[k]) (List.getElem_mem _)
     rw [← ga k (by omega), hka] at this
     simpa using this
   unfold freeI at hf
   rw [List.findIdx?_eq_some_iff_getElem] at hf
   obtain ⟨hx, h5, -⟩ := hf
   rw [← ga i hi] at h5
   refine ⟨fun ha => (by rw [ha] at h5; cases h5), fun k hk _ hka => h7 k hk hka⟩
theorem comp_ok {c : Co} {h : Hd} {pl : List UInt8} {i : Nat} (hc : c.ok = true) (ho : h.ok = true) (hf : zD c.cx h = some i) : (z8 c i h pl).1.ok = true := by
 obtain ⟨hi, hs, hh, hoth⟩ := jj hc hf
 obtain ⟨h1, h2, h3, h4⟩ := co_w hc
 have hm := ctx_mid h3 hs hh
 have h5 := csF_ok h3 h4 hm.1 ho (f := (k8 c.m c.w (c.at i) h).2) hm.2.2.1.1 hm.2.2.2.1.1 hm.2.2.2.2
 exact co_set hc hi h5.1 (fun _ => h5.2.2) hoth
theorem pars_ok {b pl : List UInt8} {h : Hd} (hp : qv b = ((h, pl), 0)) : h.ok = true ∧ zm h pl = (b, 0) ∧ b.length ≤ 1500 ∧ b ≠ [] ∧ pl.length ≤ 1500 := by
 unfold qv at hp
 split at hp
 · exact absurd (congrArg Prod.snd hp) (show ¬ (2 : Int) = 0 by decide)
 · rename_i hl
   split at hp
   · rename_i he
     have e1 : wC b = h := congrArg (fun x => x.1.1) hp
     have e2 : b.drop (prsN b) = pl := congrArg (fun x => x.1.2) hp
     rw [e1, e2] at he
     refine ⟨?_, he, by omega, fun e => hl (.inl (by rw [e]; decide)), by rw [← e2, List.length_drop]; omega⟩
     cases ho : h.ok with
     | true => rfl
     | false => rw [bldR_n ho] at he; exact absurd (congrArg Prod.snd he) (show ¬ (1 : Int) = 0 by decide)
   · exact absurd (congrArg Prod.snd hp) (show ¬ (4 : Int) = 0 by decide)
theorem compr_ok {c : Co} {b : List UInt8} (hc : c.ok = true) (hb : ¬ (b = [] ∨ 1500 < b.length)) : (qe c b).1.1.ok = true ∧ (qe c b).2 = 0 ∧ (qe c b).1.1.m = c.m ∧ (qe c b).1.1.w = c.w := by
 unfold qe
 rw [if_pos hc, if_neg hb]
 split
 · rename_i hp
   have ho := (pars_ok (b := b) (h := (qv b).1.1) (pl := (qv b).1.2) (by rw [← hp])).1
   split
   · rename_i i hf
     split
     · exact ⟨hc, rfl, rfl, rfl⟩
     · exact ⟨comp_ok hc ho hf, rfl, rfl, rfl⟩
   · exact ⟨hc, rfl, rfl, rfl⟩
 · exact ⟨hc, rfl, rfl, rfl⟩
open Go.RowKit
variable {G : Nat → AV}
theorem LC.possL {x : Sn} {hd : Hd} {f : Int} {rf : List Hd} {p : Nm} {l : LS} {K : AV → LS → Prop} (hf : f = 1 ∨ f = 2 ∨ f = 3) (hr : x.rf = rf) (hl : rf.length ≤ 100000) (hp : LH l p fun c _ _ => c.cs = rf.flatMap Hd.cs) (k : K (.bool (zT x hd f)) l) :
   LC Tryz.prog G 53 [.agg (x.cv (.vw p 0 rf.length 15)), hd.av, .int .i64 f] l K := by
 subst hr
 exact LC.lend (r9poss_c x hd f hf hl) [p] ⟨LF.agg (xs := x.cv (.vw p 0 x.rf.length 15)) (ys := x.cs) ⟨.eq rfl, .eq rfl, .eq rfl, .eq rfl, .eq rfl, .eq rfl, .eq rfl, .eq rfl, LF.row InL.here (LH.mono hp fun c _ _ e => ⟨by decide, by rw [e]; exact qy Hd.cs_len _, rfl, e.symm⟩), trivial⟩, .eq rfl, .eq rfl, trivial⟩ (Flat.bool _) k
theorem xG {n : Nat} (h : 0 < n ∧ n ≤ 32) : 0 + (q7 .sub .i64 (n : Int) 1).toNat * 15 = (n - 1) * 15 := by
 have : q7 .sub .i64 (n : Int) 1 = ((n - 1 : Nat) : Int) := by (exact T.num)
 rw [this]; omega
theorem kD {l : List Hd} (h : 0 < l.length ∧ l.length ≤ 32) : 0 + (q7 .sub .i64 (l.length : Int) 1).toNat * 15 + 15 ≤ (l.flatMap Hd.cs).length := by
 rw [xG h, qy Hd.cs_len]
 omega
theorem AC.lstc {s : Sn} {o m : Nat} {K : AV → Prop} (ho : o = (s.rf.length - 1) * 15) (hm : m = 15) (h : 0 < s.rf.length) (k : K (.agg s.lst.cs)) : AC true (((s.rf.flatMap Hd.cs).drop o).take m) K := AC.recd Hd.cs_len (s.rf.length - 1) Hd.z ho hm (by omega) k
theorem n0_e (x y : Nm) : n0 [x, y] = x := rfl
theorem n1_e (x y : Nm) : n1 [x, y] = y := rfl
theorem csA_k1 {w : Int} {s : Sn} {h : Hd} (ha : s.act = true) (h1 : vo s.lst h = 0) (h2 : ¬ s.lng = 3) : (s, false) = csA w s h := csA_k ha h1 fun hh => h2 hh.1
theorem alq {a d : Dy} : qU [(a.st, d.st), (a.fo, d.fo)] = decide (a = d) := Dy.eqs a d
theorem csA_k2 {w : Int} {s : Sn} {h : Hd} (ha : s.act = true) (h1 : vo s.lst h = 0) (_ : s.lng = 3) (h3 : qU [((zR s.lst h).st, s.dy.st), ((zR s.lst h).fo, s.dy.fo)] = true) : (s, false) = csA w s h :=
 csA_k ha h1 fun hh => hh.2 (by rw [alq] at h3; exact of_decide_eq_true h3)
theorem csA_f2 {w : Int} {s : Sn} {h : Hd} (ha : s.act = true) (h2 : s.lng = 3) (h3 : qU [((zR s.lst h).st, s.dy.st), ((zR s.lst h).fo, s.dy.fo)] = false) (h4 : 0 < s.full) : ({ s with lng := 0, full := w }, true) = csA w s h :=
 csA_f ha (.inr ⟨h2, by rw [alq] at h3; exact of_decide_eq_false h3⟩) h4
theorem csA_r2 {w : Int} {s : Sn} {h : Hd} (ha : s.act = true) (h2 : s.lng = 3) (h3 : qU [((zR s.lst h).st, s.dy.st), ((zR s.lst h).fo, s.dy.fo)] = false) (h4 : ¬ 0 < s.full) : ({ s with lng := 0, refr := w }, true) = csA w s h :=
 csA_r ha (.inr ⟨h2, by rw [alq] at h3; exact of_decide_eq_false h3⟩) h4
section
variable {m w : Int} {x y u v s : Sn} {bg bh had : Bool} {X Y : Sn × Bool} {U : Sn} {last h : Hd} {rf : List Hd} {f : Int}
theorem csB_q1 (e : (x, bg) = X) (h1 : ¬ (m = 1 ∧ x.sin = 32 ∧ x.full = 0)) : (x, bg) = csB m w X := e ▸ csB_n h1
theorem csB_q2 (e : (x, bg) = X) (h1 : m = 1) (h2 : x.sin = 32) (h3 : x.full = 0) : ({ x with full := w, refr := 0 }, true) = csB m w X := e ▸ csB_y h1 h2 h3
theorem csD_q1 (e : (y, bh) = Y) (er : y.rf = rf) (h1 : bh = true) : ({ y with ser := rf.length, dy := xL last had h } : Sn) = csD last had h Y := by subst er; exact e ▸ csD_y (.inl h1)
theorem csD_q2 (e : (y, bh) = Y) (er : y.rf = rf) (h1 : y.ser = (rf.length : Int)) (h2 : 0 < y.full) : ({ y with ser := rf.length, dy := xL last had h } : Sn) = csD last had h Y := by subst er; exact e ▸ csD_y (.inr ⟨h1, .inl h2⟩)
theorem csD_q3 (e : (y, bh) = Y) (er : y.rf = rf) (h1 : y.ser = (rf.length : Int)) (h2 : 0 < y.refr) : ({ y with ser := rf.length, dy := xL last had h } : Sn) = csD last had h Y := by subst er; exact e ▸ csD_y (.inr ⟨h1, .inr h2⟩)
theorem csD_q4 (e : (y, bh) = Y) (er : y.rf = rf) (h0 : bh = false) (h1 : ¬ y.ser = (rf.length : Int)) : y = csD last had h Y := by subst er; exact e ▸ csD_n fun hh => by rcases hh with hh | hh; rw [h0] at hh; cases hh; exact h1 hh.1
theorem csD_q5 (e : (y, bh) = Y) (h0 : bh = false) (h1 : ¬ 0 < y.full) (h2 : ¬ 0 < y.refr) : y = csD last had h Y := e ▸ csD_n fun hh => by rcases hh with hh | hh; rw [h0] at hh; cases hh; rcases hh.2 with h3 | h3; exact h1 h3; exact h2 h3
theorem csE_q5 (e : u = U) (h1 : 0 < u.full) : (u, (5 : Int)) = csE w last had h U := e ▸ csE_5 h1
theorem csE_q4 (e : u = U) (h1 : ¬ 0 < u.full) (h2 : 0 < u.refr) : (u, (4 : Int)) = csE w last had h U := e ▸ csE_4 h1 h2
theorem csE_qf (e : u = U) (h1 : ¬ 0 < u.full) (h2 : ¬ 0 < u.refr) (h3 : zJ u h f) (h4 : f ≤ 3) (h5 : zT u h f = true) : (u, f) = csE w last had h U := e ▸ csE_f h1 h2 h3 h4 h5
theorem csE_qr (e : u = U) (er : u.rf = rf) (h1 : ¬ 0 < u.full) (h2 : ¬ 0 < u.refr) (h3 : zJ u h f) (h4 : ¬ f ≤ 3) : (({ ({ u with refr := w, lng := 0 } : Sn) with ser := rf.length, dy := xL last had h } : Sn), (4 : Int)) = csE w last had h U := by subst er; exact e ▸ csE_r h1 h2 h3 h4
theorem leastF_3 (h3 : zJ u h f) (h4 : f ≤ 3) : f = 1 ∨ f = 2 ∨ f = 3 := by have := h3.1; omega
theorem jT (h3 : zJ u h f) (h4 : f ≤ 3) : 1 ≤ f ∧ f ≤ 5 := by have := h3.1; omega
theorem leastF_i (h3 : zJ u h f) : q7 .add .i64 f 1 = f + 1 := by have h1 := h3.1; have h2 := h3.2.1; clear h3; (exact T.num)
theorem leastF_m (h3 : zJ u h f) : (5 - (f + 1)).toNat < (5 - f).toNat := by have h1 := h3.1; have h2 := h3.2.1; omega
theorem rfB (hw : 1 ≤ w) (hs : s.ok m w = true) (hh : s.act = true → qA s.fst h = true) (e : (y, bh) = csB m w (csA w s h)) : y.rf = s.rf := by
 have h1 := csA_mid (m := m) hw hs hh
 have h2 := csB_mid hw h1.1 h1.2.1
 have := congrArg (fun x => x.1.rf) e
 exact this.trans (h2.2.2.trans h1.2.2)
theorem rfD (hw : 1 ≤ w) (hs : s.ok m w = true) (hh : s.act = true → qA s.fst h = true) (e : u = csD last had h (csB m w (csA w s h))) : u.rf = s.rf := by
 have h1 := csA_mid (m := m) hw hs hh
 have h2 := csB_mid hw h1.1 h1.2.1
 have h3 : (csD last had h (csB m w (csA w s h))).rf = (csB m w (csA w s h)).1.rf := by unfold csD begR; split <;> rfl
 rw [e, h3, h2.2.2, h1.2.2]
theorem midE (hw : 1 ≤ w) (hs : s.ok m w = true) (hh : s.act = true → qA s.fst h = true) (h32 : ¬ (m = 3 ∧ (s.rf.length : Int) = 32)) (e : (v, f) = csE w s.lst s.act h (csD s.lst s.act h (csB m w (csA w s h)))) :
   Mid m w h v ∧ (1 ≤ f ∧ f ≤ 5) ∧ (f = 5 → 0 < v.full) ∧ (f = 4 → 0 < v.refr) ∧ v.rf = s.rf := by
 have hl := lst_k hs hh
 have h1 := csA_mid (m := m) hw hs hh
 have h2 := csB_mid hw h1.1 h1.2.1
 have hC : csC m w s.rf.length (csB m w (csA w s h)) = csB m w (csA w s h) := by unfold csC; rw [if_neg (by omega)]
 have h3 := csD_mid (n := s.rf.length) (last := s.lst) (had := s.act) hw (by rw [h2.2.2, h1.2.2]) h2.1 h2.2.1 hl
 rw [hC] at h3
 have h4 := csE_mid (last := s.lst) (had := s.act) (u := h) hw h3.1 hl
 rw [← e] at h4
 exact ⟨h4.1, h4.2.1, h4.2.2.1.1, h4.2.2.2.1.1, h4.2.2.2.2.trans (rfD hw hs hh rfl)⟩
end
theorem xD {a : Int} (h : 0 ≤ a ∧ a ≤ 32) : (if false = true then (if q7 .add .i64 a 1 < 32 then 32 else q7 .add .i64 a 1) else if 32 < q7 .add .i64 a 1 then 32 else q7 .add .i64 a 1) = min (a + 1) 32 := by
 have e : q7 .add .i64 a 1 = a + 1 := by (exact T.num)
 rw [e, if_neg (by decide)]
 split <;> omega
theorem kf {a : Int} (h : 0 ≤ a ∧ a ≤ 3) : (if false = true then (if q7 .add .i64 a 1 < 3 then 3 else q7 .add .i64 a 1) else if 3 < q7 .add .i64 a 1 then 3 else q7 .add .i64 a 1) = min (a + 1) 3 := by
 have e : q7 .add .i64 a 1 = a + 1 := by (exact T.num)
 rw [e, if_neg (by decide)]
 split <;> omega
theorem zL {a w : Int} (h : 0 ≤ a ∧ a ≤ w) (hw : w ≤ 8) : q7 .sub .i64 a 1 = a - 1 := by (exact T.num)
theorem rf_side (l : List Hd) : 0 + l.length * 15 ≤ (l.flatMap Hd.cs).length := by rw [qy Hd.cs_len]; omega
theorem rf_app (l : List Hd) (h : Hd) {n : Nat} (hn : n = l.length * 15) : List.take n (List.drop 0 (l.flatMap Hd.cs)) ++ h.cs = (l ++ [h]).flatMap Hd.cs := by
 rw [List.drop_zero, List.take_of_length_le (by rw [qy Hd.cs_len]; omega), List.flatMap_append]
 simp
theorem LTo.comp {c : Co} {i0 : Nat} (s' : Sn) {R r : Nm} {off n : Nat} {L : List Hd} {m l : LS} (ys : List AV) (hi : i0 < c.cx.length) (hn : n = s'.rf.length) (hL : s'.rf.flatMap Hd.cs = ((L.flatMap Hd.cs).drop off).take (n * 15)) (hb : off + n * 15 ≤ L.length * 15) (hy : ys = s'.cv (.vw r off n 15))
   (hr : LH l r fun cc _ _ => cc.cs = L.flatMap Hd.cs) (h : LH l R fun cc s _ => cc.cs = (List.range i0).flatMap (fun k => (c.at k).cs) ++ (ys ++ frs c (i0 + 1) c.cx.length) ∧ LEra (s ⟨cc.ty, (c.cx.set i0 s').flatMap Sn.cs⟩) [r] (LB m)) : LTo m l := by
 refine LTo.frz R [r] ((c.cx.set i0 s').flatMap Sn.cs) (LH.mono h fun cc s _ hh => ⟨?_, hh.2⟩)
 rw [hh.1, set_fm c i0 hi s', hy]
 refine LFs.app (LFs.same _) (LFs.app ⟨.eq rfl, .eq rfl, .eq rfl, .eq rfl, .eq rfl, .eq rfl, .eq rfl, .eq rfl, LF.part InL.here (LH.mono hr fun cc _ _ e => ⟨by decide, by rw [e, qy Hd.cs_len]; exact hb, hn.symm, by rw [e]; exact hL⟩), trivial⟩ (LFs.same _))
section
variable {l : List Hd} {h : Hd} {X : Int} {k : Nat}
theorem over_n (hX : X = (k : Int)) : ((l.length + 1 : Nat) : Int).toNat - X.toNat = ((l ++ [h]).drop k).length := by subst hX; simp
theorem over_L (hX : X = (k : Int)) : ((l ++ [h]).drop k).flatMap Hd.cs = (((l ++ [h]).flatMap Hd.cs).drop (0 + X.toNat * 15)).take ((((l.length + 1 : Nat) : Int).toNat - X.toNat) * 15) := by
 subst hX
 rw [Nat.zero_add, yy Hd.cs_len, Int.toNat_natCast, List.take_of_length_le (by rw [qy Hd.cs_len]; simp)]
 rfl
theorem over_b (hX : X = (k : Int)) (hk : k ≤ l.length) : 0 + X.toNat * 15 + (((l.length + 1 : Nat) : Int).toNat - X.toNat) * 15 ≤ (l ++ [h]).length * 15 := by subst hX; simp; omega
theorem max0 {a b e : Int} (h : q7 .sub .i64 a b = e) : (if true = true then (if 0 < q7 .sub .i64 a b then q7 .sub .i64 a b else 0) else (if q7 .sub .i64 a b < 0 then q7 .sub .i64 a b else 0)) = max 0 e := by
 rw [h, if_pos rfl]
 split <;> omega
theorem ser_e {a b e : Int} (h : 0 ≤ a ∧ a ≤ 1000) (hb : b = e) (he : 0 ≤ e ∧ e ≤ 1000) : q7 .sub .i64 a b = a - e := by subst hb; (exact T.num)
end
section
variable {m w : Int} {v : Sn} {h : Hd} {f : Int}
theorem csF_n (hc : ¬ (m ≠ 3 ∧ w < (v.rf.length : Int) + 1)) : csF m w h v f = { csF1 m h v f with rf := v.rf ++ [h] } := by unfold csF csF1; rw [if_neg hc, if_neg hc]
theorem csF_o (hc : m ≠ 3 ∧ w < (v.rf.length : Int) + 1) : csF m w h v f = { csF1 m h v f with ser := max 0 (v.ser - ((v.rf.length : Int) + 1 - w)), rf := (v.rf ++ [h]).drop ((v.rf.length : Int) + 1 - w).toNat } := by unfold csF csF1; rw [if_pos hc, if_pos hc]
end
section
variable {P : Program} {G : Nat → AV}
theorem LP.data {f : FuncId} {args : List AV} {v : Nm → AV} {c : Nm → Pl} {v' : AV} (h : LP P G f args [] (fun q => (v q, [(q, c q)]))) (hf : ∀ q, LF [(q, c q)] [q] (v q) v') : LP P G f args [] (fun _ => (v', [])) := by
 unfold LP at h ⊢
 refine ⟨h.1, fun q => ⟨by simp, by simp⟩, fun τ w vs h1 h2 h3 h4 h5 => (h.2.2 τ w vs h1 h2 h3 h4 h5).mono ?_⟩
 rintro e w' ⟨u, q, k1, k2, k3, k4, k5, k6⟩
 have hs : Sep τ [(q, c q)] := ⟨by simp, fun x hx => by simp at hx; subst hx; exact k2⟩
 have hz := (hf q).run τ hs
 have e1 : eraN (pQ τ [(q, c q)]) [q] = τ := by
   funext y
   show era (Go.Proofs.YtkfpgdckdmlhkaaGreatDoor.upd τ q (c q)) q y = τ y
   by_cases hy : y = q
   · subst hy; rw [qZ]; exact k2.symm
   · rw [z6 _ hy, qj _ _ hy]
 have k4 : Rd (pQ τ [(q, c q)]) w' (v q) u := k4
 have k5 : Mem (pQ τ [(q, c q)]) w' := k5
 have k6 : Stp τ w (pQ τ [(q, c q)]) w' := k6
 have a1 := hz.sound k5 k4
 have a2 := k5.forget (j8 (pQ τ [(q, c q)]) [q])
 have a3 := k6.trans (Stp.forget _ (eraN (pQ τ [(q, c q)]) [q]) w' fun b hb => qP _ [q] hb)
 rw [e1] at a1 a2 a3
 exact ⟨u, q, k1, k2, by simp, a1, a2, a3⟩
end
def cpo (c : Co) (y : List UInt8) (q : Nm) : AV × LS := (.tup [.agg [iAV c.m, iAV c.w, .vw q 0 c.cx.length 9], bv y, iAV 0], [(q, ⟨59, c.cx.flatMap Sn.cs⟩)])
theorem cpo_lf (c : Co) (y : List UInt8) (q : Nm) : LF (cpo c y q).2 [q] (cpo c y q).1 (cpr ((c, y), 0)) :=
 LF.tup (xs := [.agg [iAV c.m, iAV c.w, .vw q 0 c.cx.length 9], bv y, iAV 0]) (ys := [c.av, bv y, iAV 0]) ⟨LF.agg (xs := [iAV c.m, iAV c.w, .vw q 0 c.cx.length 9]) (ys := [iAV c.m, iAV c.w, snv c.cx]) ⟨.eq rfl, .eq rfl, LF.row InL.here (.here ⟨by decide, qy Sn.cs_len _, rfl, rfl⟩), trivial⟩, .eq rfl, .eq rfl, trivial⟩
theorem RL.cpo {c : Co} {y : List UInt8} {R : Nm} {n : Nat} {l : LS} (hn : n = c.cx.length) (h : LH l R fun cc _ _ => cc = ⟨59, c.cx.flatMap Sn.cs⟩) : RL (fun q => cpo c y q) (.tup [.agg [.int .i64 c.m, .int .i64 c.w, .vw R 0 n 9], bv y, .int .i64 0]) l := by
 subst hn
 obtain ⟨l1, cc, l2, rfl, rfl⟩ := h.ex
 exact RL.own R rfl ⟨l1, _, l2, rfl, trivial⟩ (LB.cons ⟨l1, _, l2, rfl, rfl, LB.nil⟩)
theorem comp_end {c : Co} {i0 : Nat} {hd : Hd} {pl : List UInt8} {v : Sn} {f : Int} (h32 : ¬ (c.m = 3 ∧ ((c.at i0).rf.length : Int) = 32)) (e : (v, f) = csE c.w (c.at i0).lst (c.at i0).act hd (csD (c.at i0).lst (c.at i0).act hd (csB c.m c.w (csA c.w (c.at i0) hd)))) :
   z8 c i0 hd pl = (c.set i0 (csF c.m c.w hd v f), (zu (xo v.dy i0 f hd pl)).1) := by
 have hC : csC c.m c.w (c.at i0).rf.length (csB c.m c.w (csA c.w (c.at i0) hd)) = csB c.m c.w (csA c.w (c.at i0) hd) := by unfold csC; rw [if_neg (by omega)]
 have h2 : k8 c.m c.w (c.at i0) hd = (v, f) := by unfold k8; rw [hC, e]
 unfold z8
 rw [h2]
theorem leastF_4 {u : Sn} {h : Hd} {f : Int} (h3 : zJ u h f) (h4 : ¬ f ≤ 3) : f = 4 := by have h1 := h3.2.1; omega
theorem rf_all (l : List Hd) (h : Hd) : (l ++ [h]).flatMap Hd.cs = (((l ++ [h]).flatMap Hd.cs).drop 0).take ((l.length + 1) * 15) := by
 rw [List.drop_zero, List.take_of_length_le (by rw [qy Hd.cs_len]; simp)]
def fA (m : Int) (v : Sn) (f : Int) : Sn := { v with full := if m ≠ 3 ∧ f = 5 then v.full - 1 else v.full, refr := if m ≠ 3 ∧ f = 4 then v.refr - 1 else v.refr }
theorem fA_5 {m : Int} {v : Sn} {f : Int} (hm : ¬ m = 3) (h : f = 5) : ({ v with full := v.full - 1 } : Sn) = fA m v f := by unfold fA; rw [if_pos ⟨hm, h⟩, if_neg (by omega)]
theorem fA_4 {m : Int} {v : Sn} {f : Int} (hm : ¬ m = 3) (h : f = 4) : ({ v with refr := v.refr - 1 } : Sn) = fA m v f := by unfold fA; rw [if_neg (by omega), if_pos ⟨hm, h⟩]
theorem fA_0 {m : Int} {v : Sn} {f : Int} (h5 : ¬ (m ≠ 3 ∧ f = 5)) (h4 : ¬ (m ≠ 3 ∧ f = 4)) : v = fA m v f := by unfold fA; rw [if_neg h5, if_neg h4]
theorem F1_dy {m : Int} {h : Hd} {v : Sn} {f : Int} : (csF1 m h v f).dy = v.dy ∧ (csF1 m h v f).ser = v.ser ∧ (csF1 m h v f).rf = v.rf := ⟨rfl, rfl, rfl⟩
end Go.Proofs.YtkfpgdckdmlhkaaGreatDoor
