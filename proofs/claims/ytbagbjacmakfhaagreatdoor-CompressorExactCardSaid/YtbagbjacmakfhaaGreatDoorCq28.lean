/-
  Contracts of the functions that the laws reach.
-/
import Derived.Test.YtbagbjacmakfhaaGreatDoorCq01
import Derived.Test.YtbagbjacmakfhaaGreatDoorCq02
import Derived.Test.YtbagbjacmakfhaaGreatDoorCq03
import Derived.Test.YtbagbjacmakfhaaGreatDoorCq04
import Derived.Test.YtbagbjacmakfhaaGreatDoorCq05
import Derived.Test.YtbagbjacmakfhaaGreatDoorCq09
import Derived.Test.YtbagbjacmakfhaaGreatDoorCq14
import Derived.Test.YtbagbjacmakfhaaGreatDoorCq15
import Derived.Test.YtbagbjacmakfhaaGreatDoorCq18
import Derived.Test.YtbagbjacmakfhaaGreatDoorCq20
import Derived.Test.YtbagbjacmakfhaaGreatDoorCq21
set_option linter.all false
namespace Go.Proofs.YtbagbjacmakfhaaGreatDoor
open Go.RowKit
theorem raw_enc {b : List UInt8} (h : b.length ≤ 1500) : (zd (xy b)).1 = 210 :: b := by
 have e : xy b = rawD b := rfl
 rw [e, enc_ok (by rw [rawD_ok]; exact decide_eq_true h), rawD_hd]
 rfl
theorem partsR_f {dy : Dy} {c f : Int} {h : Hd} {pl : List UInt8} (hf : 1 ≤ f ∧ f ≤ 5) : (qz dy c f h pl).f = f ∧ (qz dy c f h pl).cx = c ∧ (qz dy c f h pl).pl = pl ∧ (qz dy c f h pl).ck = ky f h := by
 have : f = 1 ∨ f = 2 ∨ f = 3 ∨ f = 4 ∨ f = 5 := by omega
 rcases this with rfl | rfl | rfl | rfl | rfl
 · exact ⟨rfl, rfl, rfl, rfl⟩
 · unfold qz; rw [if_neg (by decide), if_neg (by decide), if_neg (by decide), if_pos rfl]; split <;> exact ⟨rfl, rfl, rfl, rfl⟩
 · unfold qz; rw [if_neg (by decide), if_neg (by decide), if_neg (by decide), if_neg (by decide)]; split <;> exact ⟨rfl, rfl, rfl, rfl⟩
 · exact ⟨rfl, rfl, rfl, rfl⟩
 · exact ⟨rfl, rfl, rfl, rfl⟩
theorem partsR_lo {dy : Dy} {c f : Int} {h : Hd} {pl : List UInt8} (hf : 1 ≤ f ∧ f ≤ 3) : (qz dy c f h pl).h.k = h.k ∧ (qz dy c f h pl).ud = h.ck := by
 have : f = 1 ∨ f = 2 ∨ f = 3 := by omega
 rcases this with rfl | rfl | rfl
 · exact ⟨rfl, rfl⟩
 · unfold qz; rw [if_neg (by decide), if_neg (by decide), if_neg (by decide), if_pos rfl]; split <;> exact ⟨rfl, rfl⟩
 · unfold qz; rw [if_neg (by decide), if_neg (by decide), if_neg (by decide), if_neg (by decide)]; split <;> exact ⟨rfl, rfl⟩
theorem co_at {c : Co} {i k : Nat} {s : Sn} (hl : c.cx.length = 16) (hi : i < 16) : (c.set i s).at k = if k = i then s else c.at k := by
 unfold Co.set Co.at
 rw [List.getD_eq_getElem?_getD, List.getElem?_set]
 split
 · rename_i e; subst e; rw [if_pos (by omega), if_pos rfl]; rfl
 · rename_i e; rw [if_neg (fun k => e k.symm), List.getD_eq_getElem?_getD]
end Go.Proofs.YtbagbjacmakfhaaGreatDoor
