/-
  Contracts of the functions that the laws reach.
-/
import Derived.Test.YtbagbjacmakfhaaGreatDoorCq01
import Derived.Test.YtbagbjacmakfhaaGreatDoorCq02
import Derived.Test.YtbagbjacmakfhaaGreatDoorCq03
import Derived.Test.YtbagbjacmakfhaaGreatDoorCq04
import Derived.Test.YtbagbjacmakfhaaGreatDoorCq05
import Derived.Test.YtbagbjacmakfhaaGreatDoorCq06
import Derived.Test.YtbagbjacmakfhaaGreatDoorCq09
import Derived.Test.YtbagbjacmakfhaaGreatDoorCq10
import Derived.Test.YtbagbjacmakfhaaGreatDoorCq11
import Derived.Test.YtbagbjacmakfhaaGreatDoorCq14
import Derived.Test.YtbagbjacmakfhaaGreatDoorCq15
import Derived.Test.YtbagbjacmakfhaaGreatDoorCq18
set_option linter.all false
namespace Go.Proofs.YtbagbjacmakfhaaGreatDoor
open Go.RowKit
theorem b8_v {v : Int} (h : 0 ≤ v ∧ v ≤ 255) : ((b8 v).toNat : Int) = v := by rw [b8_nat]; omega
theorem body_head (s : Sm) (h : s.ok = true) : ∃ c r, qG s = c :: r ∧ fmR c = s.f ∧ c.toNat < 224 ∧ (c.toNat = 210 → s.cx = 0) := by
 obtain ⟨h1, h2, h3⟩ := s.of h
 rcases h3 with ⟨h3, h4, h5, -, -⟩ | ⟨h3 | h3, -⟩ | ⟨h3, -, h4, -⟩
 · rcases h3 with hf | hf | hf
   · have a := low1 s hf h4 h2
     have e : ((b8 (8 * s.n + s.ck)).toNat : Int) = 8 * s.n + s.ck := b8_v (by omega)
     exact ⟨_, _, bL1 s hf, by rw [hf]; exact fm1 (by omega), by omega, by omega⟩
   · rcases h5 with hk | hk
     · have a := low2U s hf hk h4 h2
       have e : ((b8 (32 * (4 + s.mr) + s.n)).toNat : Int) = 32 * (4 + s.mr) + s.n := b8_v (by omega)
       exact ⟨_, _, bL2U s hf hk, by rw [hf]; exact fm2 (by omega), by omega, by omega⟩
     · have a := low2T s hf hk h4 h2
       have e : ((b8 (32 * (4 + s.mr) + s.n)).toNat : Int) = 32 * (4 + s.mr) + s.n := b8_v (by omega)
       exact ⟨_, _, bL2T s hf hk, by rw [hf]; exact fm2 (by omega), by omega, by omega⟩
   · rcases h5 with hk | hk
     · have a := low3U s hf hk h4 h2
       have e : ((b8 (192 + s.mr)).toNat : Int) = 192 + s.mr := b8_v (by omega)
       exact ⟨_, _, bL3U s hf hk, by rw [hf]; exact fm3 (by omega), by omega, by omega⟩
     · have a := low3T s hf hk h4 h2
       have e : ((b8 (192 + s.mr)).toNat : Int) = 192 + s.mr := b8_v (by omega)
       exact ⟨_, _, bL3T s hf hk, by rw [hf]; exact fm3 (by omega), by omega, by omega⟩
 · exact ⟨_, _, bL4 s h3, by rw [h3]; rfl, by decide, fun hh => absurd hh (by decide)⟩
 · exact ⟨_, _, bL5 s h3, by rw [h3]; rfl, by decide, fun hh => absurd hh (by decide)⟩
 · exact ⟨_, _, bL6 s h3, by rw [h3]; rfl, by decide, fun _ => h4.1⟩
theorem hdL_s (s : Sm) : hdL s = xh s ++ (qG s ++ sumL s) := rfl
theorem pre_pos {s : Sm} (h : 0 < s.cx) : xh s = [b8 (224 + s.cx)] := if_pos h
theorem pre_neg {s : Sm} (h : ¬ 0 < s.cx) : xh s = [] := if_neg h
theorem ret_peek (s : Sm) (h : s.ok = true) (l : List UInt8) : jx (hdL s ++ l) = (s.cx, s.f, 0) := by
 obtain ⟨c, r, e, hf, hc, h0⟩ := body_head s h
 obtain ⟨h1, -, -⟩ := s.of h
 have h6 : 1 ≤ s.f := by
   obtain ⟨-, -, h3⟩ := s.of h
   omega
 rw [hdL_s, e]
 by_cases hx : 0 < s.cx
 · rw [pre_pos hx]
   have e1 : ((b8 (224 + s.cx)).toNat : Int) = 224 + s.cx := b8_v (by omega)
   show (if 224 ≤ (b8 (224 + s.cx)).toNat ∧ (b8 (224 + s.cx)).toNat < 240 then (if (b8 (224 + s.cx)).toNat = 224 ∨ fmR c = 0 ∨ c.toNat = 210 then ((0, 0, 4) : Int × Int × Int) else (((b8 (224 + s.cx)).toNat : Int) - 224, fmR c, 0)) else if fmR (b8 (224 + s.cx)) = 0 then (0, 0, 4) else (0, fmR (b8 (224 + s.cx)), 0)) = _
   rw [if_pos (by omega), if_neg (by omega), hf, e1]
   rw [show 224 + s.cx - 224 = s.cx by omega]
 · rw [pre_neg hx]
   show (if 224 ≤ c.toNat ∧ c.toNat < 240 then _ else if fmR c = 0 then ((0, 0, 4) : Int × Int × Int) else (0, fmR c, 0)) = _
   rw [if_neg (by omega), if_neg (by omega), hf, show s.cx = 0 by omega]
end Go.Proofs.YtbagbjacmakfhaaGreatDoor
