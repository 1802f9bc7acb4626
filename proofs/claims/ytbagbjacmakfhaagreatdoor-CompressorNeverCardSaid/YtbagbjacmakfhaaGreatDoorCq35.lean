/-
  Contracts of the functions that the laws reach.
-/
import Derived.Test.YtbagbjacmakfhaaGreatDoorCq01
import Derived.Test.YtbagbjacmakfhaaGreatDoorCq02
import Derived.Test.YtbagbjacmakfhaaGreatDoorCq03
import Derived.Test.YtbagbjacmakfhaaGreatDoorCq04
import Derived.Test.YtbagbjacmakfhaaGreatDoorCq05
import Derived.Test.YtbagbjacmakfhaaGreatDoorCq06
import Derived.Test.YtbagbjacmakfhaaGreatDoorCq08
import Derived.Test.YtbagbjacmakfhaaGreatDoorCq09
import Derived.Test.YtbagbjacmakfhaaGreatDoorCq10
import Derived.Test.YtbagbjacmakfhaaGreatDoorCq13
import Derived.Test.YtbagbjacmakfhaaGreatDoorCq14
import Derived.Test.YtbagbjacmakfhaaGreatDoorCq15
import Derived.Test.YtbagbjacmakfhaaGreatDoorCq18
import Derived.Test.YtbagbjacmakfhaaGreatDoorCq19
import Derived.Test.YtbagbjacmakfhaaGreatDoorCq20
import Derived.Test.YtbagbjacmakfhaaGreatDoorCq22
import Derived.Test.YtbagbjacmakfhaaGreatDoorCq26
import Derived.Test.YtbagbjacmakfhaaGreatDoorCq28
set_option linter.all false
namespace Go.Proofs.YtbagbjacmakfhaaGreatDoor
open Go.RowKit
theorem hdL_le (s : Sm) : (hdL s).length ≤ 36 ∧ (s.h.k ≠ 2 → (hdL s).length ≤ 23) := by
 have h1 : (xh s).length ≤ 1 := by unfold xh; split <;> simp
 have h2 : (if jp s = 0 then [] else qx (jp s) 2 : List UInt8).length ≤ 2 := by split <;> simp
 have h3 : (xJ s.h).length ≤ 17 ∧ (s.h.k ≠ 2 → (xJ s.h).length = 13) := by unfold xJ; refine ⟨?_, fun h => ?_⟩ <;> split <;> simp_all
 have h4 : (jZ s.h s.d).length ≤ 14 ∧ (s.h.k ≠ 2 → (jZ s.h s.d).length = 5) := by unfold jZ; refine ⟨?_, fun h => ?_⟩ <;> split <;> simp_all
 have h5 : (qG s).length ≤ 33 ∧ (s.h.k ≠ 2 → (qG s).length ≤ 20) := by
   unfold qG
   refine ⟨?_, fun h => ?_⟩
   · (repeat' split) <;> simp <;> omega
   · have := h3.2 h
     have := h4.2 h
     (repeat' split) <;> simp_all
 unfold hdL
 simp only [List.length_append]
 exact ⟨by omega, fun h => by have := h5.2 h; omega⟩
theorem bld_len {h : Hd} {pl b : List UInt8} (hb : zp h pl = (b, 0)) : b.length = (qy h).length + pl.length := by
 unfold zp at hb
 split at hb
 · split at hb
   · have e : bldL h pl = b := congrArg Prod.fst hb
     rw [← e]; exact bldL_len h pl
   · have := congrArg Prod.snd hb; cases this
 · have := congrArg Prod.snd hb; cases this
theorem partsR_k {dy : Dy} {c f : Int} {h : Hd} {pl : List UInt8} (hf : 1 ≤ f ∧ f ≤ 5) : (qz dy c f h pl).h.k = h.k := by
 by_cases h3 : f ≤ 3
 · exact (partsR_lo ⟨hf.1, h3⟩).1
 · have : f = 4 ∨ f = 5 := by omega
   rcases this with rfl | rfl <;> rfl
structure Nev (b y : List UInt8) : Prop where
 len : y.length ≤ b.length + 1
 pk : ∃ c f, jx y = (c, f, 0) ∧ ((qg b).2 ≠ 0 → f = 6) ∧ ((qg b).2 = 0 → f = 6 ∨ ∃ x, y = x ++ (qg b).1.2)
 num : (qg b).2 = 0 → ¬ (qg b).1.1.num < 0
theorem never_step {c : Co} {b : List UInt8} (hc : c.ok = true) (hb : zt b) : Nev b (qf c b).1.2 := by
 have h1 := hb.2
 have hn : (qg b).2 = 0 → ¬ (qg b).1.1.num < 0 := fun hp => by
   have := num_rng (je (b := b) (h := (qg b).1.1) (pl := (qg b).1.2) (by rw [← hp])).1
   omega
 have raw : Nev b (zd (xy b)).1 := by
   rw [raw_enc h1]
   exact ⟨by simp, ⟨0, 6, rfl, fun _ => rfl, fun _ => .inl rfl⟩, hn⟩
 unfold qf
 rw [if_pos hc, if_neg (by rintro (k | k); exact hb.1 k; omega)]
 split
 · rename_i hp
   have hp2 : qg b = (((qg b).1.1, (qg b).1.2), 0) := by rw [← hp]
   split
   · rename_i i hf
     split
     · exact raw
     · obtain ⟨ho, hbld, -, -, hpl⟩ := je hp2
       obtain ⟨hi, hs, hh, -⟩ := zA hc hf
       have hm := ctx_mid (wc hc).2.2.1 hs hh
       have hPok := parts_ok (c := (i : Int)) (pl := (qg b).1.2) ho hm.1.dok hm.1.dz ⟨by omega, by omega⟩ hm.2.1 hpl
       obtain ⟨p1, p2, p3, p4⟩ := partsR_f (dy := (xd c.m c.w (c.at i) (qg b).1.1).1.dy) (c := (i : Int)) (h := (qg b).1.1) (pl := (qg b).1.2) hm.2.1
       have e : (qS c i (qg b).1.1 (qg b).1.2).2 = hdL (qz (xd c.m c.w (c.at i) (qg b).1.1).1.dy i (xd c.m c.w (c.at i) (qg b).1.1).2 (qg b).1.1 (qg b).1.2) ++ (qg b).1.2 := by
         show (zd _).1 = _
         rw [enc_ok hPok, p3]
       show Nev b (qS c i (qg b).1.1 (qg b).1.2).2
       rw [e]
       have hl := bld_len hbld
       have hk := partsR_k (dy := (xd c.m c.w (c.at i) (qg b).1.1).1.dy) (c := (i : Int)) (h := (qg b).1.1) (pl := (qg b).1.2) hm.2.1
       have hL := hdL_le (qz (xd c.m c.w (c.at i) (qg b).1.1).1.dy i (xd c.m c.w (c.at i) (qg b).1.1).2 (qg b).1.1 (qg b).1.2)
       rw [hk] at hL
       have hH := z8 (qg b).1.1
       refine ⟨?_, ⟨_, _, ret_peek _ hPok _, fun k => absurd hp k, fun _ => .inr ⟨_, rfl⟩⟩, hn⟩
       rw [List.length_append, hl, hH]
       split
       · omega
       · rename_i k2
         have := hL.2 k2
         omega
   · exact raw
 · exact raw
end Go.Proofs.YtbagbjacmakfhaaGreatDoor
