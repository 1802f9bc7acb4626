/-
  Contracts of the functions that the laws reach.
-/
import Derived.Test.YtbagbjacmakfhaaGreatDoorCq01
import Derived.Test.YtbagbjacmakfhaaGreatDoorCq02
import Derived.Test.YtbagbjacmakfhaaGreatDoorCq03
import Derived.Test.YtbagbjacmakfhaaGreatDoorCq04
import Derived.Test.YtbagbjacmakfhaaGreatDoorCq05
import Derived.Test.YtbagbjacmakfhaaGreatDoorCq06
set_option maxHeartbeats 4000000
set_option linter.all false
namespace Go.Proofs.YtbagbjacmakfhaaGreatDoor
open Go.RowKit
variable {G : Nat → AV}
theorem fvalid8_c (s : Sm) : LP Tryz.prog G 83 [s.av] [] (fun _ => (.bool s.ok, [])) := by
 refine goW [3, 10] Tryz.func83 rfl ?_
 conv => whnf
 repeat' ((first | exact Nm.b 0 | (show LC _ _ _ _ _ _; first | refine LC.pure (cbits_c8 _) ?_ | refine LC.pure (widths_c _ _) ?_ | refine LC.pure (ffits_c _ _ (cbR_le _).1 (cbR_le _).2) ?_ | refine LC.pure (ffits_c _ _ (wid_le _ _ _).1 (wid_le _ _ _).2) ?_ | refine LC.pure (ffits_c _ _ (by decide) (by decide)) ?_ | refine LC.pure (fwhole_c s) ?_ | refine goE ?_) | refine T.s ?_ | ((first | apply goB | apply AB.dec | apply AB.gen) <;> intro h <;> try (exfalso; omega)) | refine LQ.mk fun r => ?_ | (show SQ _ _ _ _ _ _ _; first | (apply goD tQ qd 1 [19, 17] [0, 1, 2, 3, 4, 5, 6, 7, 8, 9, 10, 11, 12, 13, 14, 15, 16, 18, 19, 17, 20, 21, 22] [_] (by kernel_rfl)) | (refine goD tQ qd 1 [19, 17] [0, 1, 2, 3, 4, 5, 6, 7, 8, 9, 10, 11, 12, 13, 14, 15, 16, 18, 19, 17, 20, 21, 22] [] (by kernel_rfl) ?_)) | (show CutL _ _ _ _ _ _ _ _; first | (refine goK tQ [3, 10] 3 (S := Nm) [] (fun p => ⟨[(3, .bool (jy s)), (1, .ptr p 0)], [(p, ⟨81, s.cs⟩)], True, 0⟩) ?_ ?_; (rintro p -); rotate_left) | (refine goK tQ [3, 10] 10 (S := Nm) [4] (fun p => ⟨[(6, .bool (zq s)), (1, .ptr p 0)], [(p, ⟨81, s.cs⟩)], True, 0⟩) ?_ ?_; (rintro p -); rotate_left) | refine CutL.go tQ [3, 10] ?_) | (show AtC _ _ _ _ _ _ _ _; first | (apply AtC.mk' (id := 3) (S := Nm) (_); all_goals (try exact K476); done) | (apply AtC.mk' (id := 10) (S := Nm) (_); all_goals (try exact K476); done) | (apply AtC.mk' (id := 3) (S := Nm) (_); all_goals (try exact K476)) | (apply AtC.mk' (id := 10) (S := Nm) (_); all_goals (try exact K476))) | exact T.z | fail) <;> try (show (_ : Prop); conv => whnf))
 all_goals (try dsimp only)
 all_goals
   (show RL _ _ _; refine goR ?_)
   refine congrArg AV.bool ?_
   rw [Bool.eq_iff_iff]
   simp_all [Sm.ok, kV, jy, hzR, dzR, qJ, qo] <;> (intros; omega)
def yW (s : Sm) : Bool := decide (s.h.k = 1 ∨ s.h.k = 2) && (hzR s.h s.h.k && (dzR s.d && (inR s.ud 65535 &&
 (inR s.n (if s.f = 2 then 31 else if s.f = 3 then (if s.h.k = 2 then 255 else 65535) else 15) && (inR s.tm (if s.h.k = 2 then (if s.f = 2 then 65535 else if s.f = 3 then 4294967295 else 0) else 0) &&
 (inR s.mr (if s.h.k = 2 ∧ (s.f = 2 ∨ s.f = 3) then 1 else 0) && (inR s.id (if s.h.k = 2 ∧ s.f = 3 then 65535 else 0) && inR s.ck (if s.f = 2 then 127 else if s.f = 3 then 255 else 7))))))))
theorem rfields_c (s : Sm) : LP Tryz.prog G 137 [s.av] [] (fun _ => (.bool (yW s), [])) := by
 refine goW [] Tryz.func137 rfl ?_
 conv => whnf
 repeat' ((first | (show LC _ _ _ _ _ _; first | refine LC.pure (in8_c _ _) ?_ | refine goE ?_) | refine T.s ?_ | ((first | apply goB | apply AB.dec | apply AB.gen) <;> intro h <;> try (exfalso; omega)) | refine LQ.mk fun r => ?_ | exact T.z | fail) <;> conv => whnf)
 all_goals (try dsimp only)
 all_goals
   ((show RL _ _ _; refine goR ?_); (focus (refine congrArg AV.bool ?_; rw [Bool.eq_iff_iff])))
   simp_all [yW, hzR, dzR, qJ, qo] <;> (intros; simp_all [inR] <;> (intros; omega))
open Go.RowKit
variable {G : Nat → AV}
def xj (s : Sm) : Bool := inR s.cx 15 && (decide (1 ≤ s.f ∧ s.f ≤ 6 ∧ s.pl.length ≤ 1500) && (if s.f < 4 then yW s else jy s && (if s.f = 6 then decide (s.cx = 0 ∧ s.ck = 0) && (hzR s.h 0 && dzR s.d) else
 s.h.ok && (s.d.ok && (!(decide (s.h.k = 1) && !(dzR s.d)) && (inR s.ck 255 && (decide (s.f = 5) || szR s.h)))))))
theorem jm (n : Nat) (v : Int) : qO (n : Int) v = inR v (2 ^ n - 1) := by
 unfold qO inR
 rw [Int.toNat_natCast]
 have : (v < 2 ^ n) ↔ (v ≤ 2 ^ n - 1) := by omega
 rw [decide_eq_decide]
 simp only [this]
theorem rval_ok (s : Sm) : xj s = s.ok := by
 have f0 : ∀ v, qO 0 v = inR v 0 := fun v => jm 0 v
 have f1 : ∀ v, qO 1 v = inR v 1 := fun v => jm 1 v
 have f3 : ∀ v, qO 3 v = inR v 7 := fun v => jm 3 v
 have f4 : ∀ v, qO 4 v = inR v 15 := fun v => jm 4 v
 have f5 : ∀ v, qO 5 v = inR v 31 := fun v => jm 5 v
 have f7 : ∀ v, qO 7 v = inR v 127 := fun v => jm 7 v
 have f8 : ∀ v, qO 8 v = inR v 255 := fun v => jm 8 v
 have f16 : ∀ v, qO 16 v = inR v 65535 := fun v => jm 16 v
 have f32 : ∀ v, qO 32 v = inR v 4294967295 := fun v => jm 32 v
 have hcx : inR s.cx 15 = decide (0 ≤ s.cx ∧ s.cx < 16) := by
   unfold inR
   rw [decide_eq_decide]
   omega
 have key : ∀ f : Int, s.f = f → (f = 1 ∨ f = 2 ∨ f = 3 ∨ f = 4 ∨ f = 5 ∨ f = 6) → xj s = s.ok := by
   intro f hf hc
   rcases hc with rfl | rfl | rfl | rfl | rfl | rfl
   · by_cases h1 : s.h.k = 1
     · simp [xj, Sm.ok, kV, zq, yW, wid, cbR, hf, h1, f0, f3, f4, f16, hcx, Bool.and_assoc, Bool.and_comm, Bool.and_left_comm]
     · by_cases h2 : s.h.k = 2
       · simp [xj, Sm.ok, kV, zq, yW, wid, cbR, hf, h2, f0, f3, f4, f16, hcx, Bool.and_assoc, Bool.and_comm, Bool.and_left_comm]
       · simp [xj, Sm.ok, yW, hf, h1, h2]
   · by_cases h1 : s.h.k = 1
     · simp [xj, Sm.ok, kV, zq, yW, wid, cbR, hf, h1, f0, f5, f7, f16, hcx, Bool.and_assoc, Bool.and_comm, Bool.and_left_comm]
     · by_cases h2 : s.h.k = 2
       · simp [xj, Sm.ok, kV, zq, yW, wid, cbR, hf, h2, f0, f1, f5, f7, f16, hcx, Bool.and_assoc, Bool.and_comm, Bool.and_left_comm]
       · simp [xj, Sm.ok, yW, hf, h1, h2]
   · by_cases h1 : s.h.k = 1
     · simp [xj, Sm.ok, kV, zq, yW, wid, cbR, hf, h1, f0, f8, f16, hcx, Bool.and_assoc, Bool.and_comm, Bool.and_left_comm]
     · by_cases h2 : s.h.k = 2
       · simp [xj, Sm.ok, kV, zq, yW, wid, cbR, hf, h2, f0, f1, f8, f16, f32, hcx, Bool.and_assoc, Bool.and_comm, Bool.and_left_comm]
       · simp [xj, Sm.ok, yW, hf, h1, h2]
   · simp [xj, Sm.ok, kV, xF, cbR, hf, f8, hcx, Bool.and_assoc, Bool.and_comm, Bool.and_left_comm]
   · simp [xj, Sm.ok, kV, xF, cbR, hf, f8, hcx, Bool.and_assoc, Bool.and_comm, Bool.and_left_comm]
   · by_cases h : s.ck = 0
     · simp [xj, Sm.ok, kV, cbR, hf, f8, hcx, h, inR, Bool.and_assoc, Bool.and_comm, Bool.and_left_comm]
     · simp [xj, Sm.ok, hf, h]
 by_cases h : 1 ≤ s.f ∧ s.f ≤ 6
 · exact key s.f rfl (by omega)
 · have e1 : xj s = false := by
     have : ¬ (1 ≤ s.f ∧ s.f ≤ 6 ∧ s.pl.length ≤ 1500) := fun k => h ⟨k.1, k.2.1⟩
     simp [xj, this]
   have e2 : s.ok = false := by
     unfold Sm.ok
     rw [if_neg (by omega), if_neg (by omega), if_neg (by omega), Bool.and_false]
   rw [e1, e2]
theorem rvalid8_c (s : Sm) : LP Tryz.prog G 111 [s.av] [] (fun _ => (.bool s.ok, [])) := by
 rw [← rval_ok]
 refine goW [] Tryz.func111 rfl ?_
 conv => whnf
 repeat' ((first | exact Nm.b 0 | (show LC _ _ _ _ _ _; first | refine LC.pure (in8_c _ _) ?_ | refine LC.pure (rfields_c s) ?_ | refine LC.pure (zg s.h) ?_ | refine LC.pure (xP s.d) ?_ | refine LC.pure (vz s.h) ?_ | refine goE ?_) | refine T.s ?_ | ((first | apply goB | apply AB.dec | apply AB.gen) <;> intro h <;> try (exfalso; omega)) | refine LQ.mk fun r => ?_ | (show SQ _ _ _ _ _ _ _; first | (apply goD tQ qd 12 [7, 5] [0, 1, 2, 3, 4, 6, 7, 8, 5, 9, 10, 11] [_] (by kernel_rfl)) | (refine goD tQ qd 12 [7, 5] [0, 1, 2, 3, 4, 6, 7, 8, 5, 9, 10, 11] [] (by kernel_rfl) ?_)) | exact T.z | fail) <;> try (show (_ : Prop); conv => whnf))
 all_goals (try dsimp only)
 all_goals
   ((show RL _ _ _; refine goR ?_); (focus (refine congrArg AV.bool ?_; rw [Bool.eq_iff_iff])))
   simp_all [xj, jy, hzR, szR, dzR, qJ, qo, Hd.static] <;> (intros; first | omega | (rw [if_neg (by omega)]; first | omega | (simp_all; done) | (simp_all; omega)))
end Go.Proofs.YtbagbjacmakfhaaGreatDoor
