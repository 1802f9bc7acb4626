/-
  Contracts of the functions that the laws reach.
-/
import Derived.Test.YtbagbjacmakfhaaGreatDoorCq01
import Derived.Test.YtbagbjacmakfhaaGreatDoorCq02
import Derived.Test.YtbagbjacmakfhaaGreatDoorCq03
import Derived.Test.YtbagbjacmakfhaaGreatDoorCq04
import Derived.Test.YtbagbjacmakfhaaGreatDoorCq10
set_option maxHeartbeats 4000000
set_option linter.all false
namespace Go.Proofs.YtbagbjacmakfhaaGreatDoor
open Go.RowKit
variable {G : Nat → AV}
theorem shr4 : ∀ n : Nat, n < 256 → ((n : Int).fdiv (2 ^ min (Int.toNat 4) IntKind.u8.bits) = 14 ↔ (224 ≤ n ∧ n < 240)) := by decide +kernel
theorem and15 : ∀ n : Nat, n < 256 → (224 ≤ n ∧ n < 240) → IntKind.i64.wrap (qu .and .u8 (n : Int) 15) = (n : Int) - 224 := by decide +kernel
theorem fm0 {c : UInt8} (h : 192 < c.toNat ∧ c.toNat ≠ 193 ∧ c.toNat ≠ 208 ∧ c.toNat ≠ 209 ∧ c.toNat ≠ 210) : fmR c = 0 := by
 unfold fmR
 repeat' split
 all_goals omega
theorem fm1 {c : UInt8} (h : c.toNat < 128) : fmR c = 1 := by
 unfold fmR
 repeat' split
 all_goals omega
theorem fm2 {c : UInt8} (h : ¬ c.toNat < 128 ∧ c.toNat < 192) : fmR c = 2 := by
 unfold fmR
 repeat' split
 all_goals omega
theorem fm3 {c : UInt8} (h : c.toNat = 192 ∨ c.toNat = 193) : fmR c = 3 := by
 unfold fmR
 repeat' split
 all_goals omega
theorem fm4 {c : UInt8} (h : c.toNat = 208) : fmR c = 4 := by
 unfold fmR
 repeat' split
 all_goals omega
theorem fm5 {c : UInt8} (h : c.toNat = 209) : fmR c = 5 := by
 unfold fmR
 repeat' split
 all_goals omega
theorem fm6 {c : UInt8} (h : c.toNat = 210) : fmR c = 6 := by
 unfold fmR
 repeat' split
 all_goals omega
set_option maxRecDepth 100000 in
theorem rpeek_c (l : List UInt8) : LP Tryz.prog G 26 [bv l] [] (fun _ => (pe (jx l), [])) := by
 match l with
 | [] =>
   refine goW [] Tryz.func26 rfl ?_
   conv => whnf
   repeat' ((first | refine T.s ?_ | ((first | apply goB | apply AB.dec | apply AB.gen) <;> intro h <;> try (exfalso; omega)) | refine LQ.mk fun r => ?_ | exact T.z | refine ⟨_, rfl, rfl, ?_⟩ | fail) <;> conv => whnf)
   all_goals (try dsimp only)
   (show RL _ _ _; refine goR ?_)
   rfl
 | [a] =>
   have hlt : a.toNat < 256 := a.toNat_lt
   have ha := shr4 _ hlt
   refine goW [] Tryz.func26 rfl ?_
   conv => whnf
   repeat' ((first | refine T.s ?_ | ((first | apply goB | apply AB.dec | apply AB.gen) <;> intro h <;> try (exfalso; omega)) | refine LQ.mk fun r => ?_ | exact T.z | refine ⟨_, rfl, rfl, ?_⟩ | fail) <;> conv => whnf)
   all_goals (try dsimp only)
   all_goals
     dsimp only at *
     simp only [show Int.toNat 0 * 1 = 0 from rfl, show Int.toNat 1 * 1 = 1 from rfl, List.getD_cons_zero, List.getD_cons_succ] at *
     (show RL _ _ _; refine goR ?_)
     refine congrArg AV.tup ?_
     simp only [jx, iAV]
     first
       | (have hA : 224 ≤ a.toNat ∧ a.toNat < 240 := ha.1 (by assumption)
          rewrite [if_pos hA]
          (try rewrite [hb hA] at *)
          first
            | rfl
            | (have h24 : a.toNat = 224 := (by omega); rewrite [if_pos (Or.inl h24)]; rfl)
            | (have hf : fmR b = 0 := fm0 (by omega); rewrite [hf]; (split <;> first | rfl | (exfalso; omega) | (simp only [List.cons.injEq, AV.int.injEq, true_and, and_true]; omega)))
            | (have hf : fmR b = 1 := fm1 (by omega); rewrite [hf]; (split <;> first | rfl | (exfalso; omega) | (simp only [List.cons.injEq, AV.int.injEq, true_and, and_true]; omega)))
            | (have hf : fmR b = 2 := fm2 (by omega); rewrite [hf]; (split <;> first | rfl | (exfalso; omega) | (simp only [List.cons.injEq, AV.int.injEq, true_and, and_true]; omega)))
            | (have hf : fmR b = 3 := fm3 (by omega); rewrite [hf]; (split <;> first | rfl | (exfalso; omega) | (simp only [List.cons.injEq, AV.int.injEq, true_and, and_true]; omega)))
            | (have hf : fmR b = 4 := fm4 (by omega); rewrite [hf]; (split <;> first | rfl | (exfalso; omega) | (simp only [List.cons.injEq, AV.int.injEq, true_and, and_true]; omega)))
            | (have hf : fmR b = 5 := fm5 (by omega); rewrite [hf]; (split <;> first | rfl | (exfalso; omega) | (simp only [List.cons.injEq, AV.int.injEq, true_and, and_true]; omega)))
            | (have hf : fmR b = 6 := fm6 (by omega); rewrite [hf]; (split <;> first | rfl | (exfalso; omega) | (simp only [List.cons.injEq, AV.int.injEq, true_and, and_true]; omega))))
       | (have hA : ¬ (224 ≤ a.toNat ∧ a.toNat < 240) := fun h => absurd (ha.2 h) (by assumption)
          rewrite [if_neg hA]
          first
            | (have hf : fmR a = 0 := fm0 (by omega); rewrite [hf]; (split <;> first | rfl | (exfalso; omega) | (simp only [List.cons.injEq, AV.int.injEq, true_and, and_true]; omega)))
            | (have hf : fmR a = 1 := fm1 (by omega); rewrite [hf]; (split <;> first | rfl | (exfalso; omega) | (simp only [List.cons.injEq, AV.int.injEq, true_and, and_true]; omega)))
            | (have hf : fmR a = 2 := fm2 (by omega); rewrite [hf]; (split <;> first | rfl | (exfalso; omega) | (simp only [List.cons.injEq, AV.int.injEq, true_and, and_true]; omega)))
            | (have hf : fmR a = 3 := fm3 (by omega); rewrite [hf]; (split <;> first | rfl | (exfalso; omega) | (simp only [List.cons.injEq, AV.int.injEq, true_and, and_true]; omega)))
            | (have hf : fmR a = 4 := fm4 (by omega); rewrite [hf]; (split <;> first | rfl | (exfalso; omega) | (simp only [List.cons.injEq, AV.int.injEq, true_and, and_true]; omega)))
            | (have hf : fmR a = 5 := fm5 (by omega); rewrite [hf]; (split <;> first | rfl | (exfalso; omega) | (simp only [List.cons.injEq, AV.int.injEq, true_and, and_true]; omega)))
            | (have hf : fmR a = 6 := fm6 (by omega); rewrite [hf]; (split <;> first | rfl | (exfalso; omega) | (simp only [List.cons.injEq, AV.int.injEq, true_and, and_true]; omega))))
 | a :: b :: r =>
   have hlt : a.toNat < 256 := a.toNat_lt
   have ha := shr4 _ hlt
   have hb := and15 _ hlt
   refine goW [] Tryz.func26 rfl ?_
   conv => whnf
   repeat' ((first | refine T.s ?_ | ((first | apply goB | apply AB.dec | apply AB.gen) <;> intro h <;> try (exfalso; omega)) | refine LQ.mk fun r => ?_ | exact T.z | refine ⟨_, rfl, rfl, ?_⟩ | fail) <;> conv => whnf)
   all_goals (try dsimp only)
   all_goals
     dsimp only at *
     simp only [show Int.toNat 0 * 1 = 0 from rfl, show Int.toNat 1 * 1 = 1 from rfl, List.getD_cons_zero, List.getD_cons_succ] at *
     (show RL _ _ _; refine goR ?_)
     refine congrArg AV.tup ?_
     simp only [jx, iAV]
     first
       | (have hA : 224 ≤ a.toNat ∧ a.toNat < 240 := ha.1 (by assumption)
          rewrite [if_pos hA]
          (try rewrite [hb hA] at *)
          first
            | rfl
            | (have h24 : a.toNat = 224 := (by omega); rewrite [if_pos (Or.inl h24)]; rfl)
            | (have hf : fmR b = 0 := fm0 (by omega); rewrite [hf]; (split <;> first | rfl | (exfalso; omega) | (simp only [List.cons.injEq, AV.int.injEq, true_and, and_true]; omega)))
            | (have hf : fmR b = 1 := fm1 (by omega); rewrite [hf]; (split <;> first | rfl | (exfalso; omega) | (simp only [List.cons.injEq, AV.int.injEq, true_and, and_true]; omega)))
            | (have hf : fmR b = 2 := fm2 (by omega); rewrite [hf]; (split <;> first | rfl | (exfalso; omega) | (simp only [List.cons.injEq, AV.int.injEq, true_and, and_true]; omega)))
            | (have hf : fmR b = 3 := fm3 (by omega); rewrite [hf]; (split <;> first | rfl | (exfalso; omega) | (simp only [List.cons.injEq, AV.int.injEq, true_and, and_true]; omega)))
            | (have hf : fmR b = 4 := fm4 (by omega); rewrite [hf]; (split <;> first | rfl | (exfalso; omega) | (simp only [List.cons.injEq, AV.int.injEq, true_and, and_true]; omega)))
            | (have hf : fmR b = 5 := fm5 (by omega); rewrite [hf]; (split <;> first | rfl | (exfalso; omega) | (simp only [List.cons.injEq, AV.int.injEq, true_and, and_true]; omega)))
            | (have hf : fmR b = 6 := fm6 (by omega); rewrite [hf]; (split <;> first | rfl | (exfalso; omega) | (simp only [List.cons.injEq, AV.int.injEq, true_and, and_true]; omega))))
       | (have hA : ¬ (224 ≤ a.toNat ∧ a.toNat < 240) := fun h => absurd (ha.2 h) (by assumption)
          rewrite [if_neg hA]
          first
            | (have hf : fmR a = 0 := fm0 (by omega); rewrite [hf]; (split <;> first | rfl | (exfalso; omega) | (simp only [List.cons.injEq, AV.int.injEq, true_and, and_true]; omega)))
            | (have hf : fmR a = 1 := fm1 (by omega); rewrite [hf]; (split <;> first | rfl | (exfalso; omega) | (simp only [List.cons.injEq, AV.int.injEq, true_and, and_true]; omega)))
            | (have hf : fmR a = 2 := fm2 (by omega); rewrite [hf]; (split <;> first | rfl | (exfalso; omega) | (simp only [List.cons.injEq, AV.int.injEq, true_and, and_true]; omega)))
            | (have hf : fmR a = 3 := fm3 (by omega); rewrite [hf]; (split <;> first | rfl | (exfalso; omega) | (simp only [List.cons.injEq, AV.int.injEq, true_and, and_true]; omega)))
            | (have hf : fmR a = 4 := fm4 (by omega); rewrite [hf]; (split <;> first | rfl | (exfalso; omega) | (simp only [List.cons.injEq, AV.int.injEq, true_and, and_true]; omega)))
            | (have hf : fmR a = 5 := fm5 (by omega); rewrite [hf]; (split <;> first | rfl | (exfalso; omega) | (simp only [List.cons.injEq, AV.int.injEq, true_and, and_true]; omega)))
            | (have hf : fmR a = 6 := fm6 (by omega); rewrite [hf]; (split <;> first | rfl | (exfalso; omega) | (simp only [List.cons.injEq, AV.int.injEq, true_and, and_true]; omega))))
theorem rpk {b : List UInt8} {c f e : Int} (h : jx b = (c, f, e)) : LP Tryz.prog G 26 [bv b] [] (fun _ => (.tup [iAV c, iAV f, iAV e], [])) := by
 have := rpeek_c (G := G) b
 rwa [h] at this
end Go.Proofs.YtbagbjacmakfhaaGreatDoor
