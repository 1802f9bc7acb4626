import Derived.Test.YtnlpjbedkdhlbaaFmt2
namespace Go.Proofs.Ytnlpjbedkdhlbaa
open Go.RowKit
set_option linter.all false
variable {G : Nat → AV}
def rvalR (s : Sm) : Bool := inR s.cx 15 && (decide (1 ≤ s.f ∧ s.f ≤ 6 ∧ s.pl.length ≤ 1500) && (if s.f < 4 then fldR s else noneR s && (if s.f = 6 then decide (s.cx = 0 ∧ s.ck = 0) && (hzR s.h 0 && dzR s.d) else
  s.h.ok && (s.d.ok && (!(decide (s.h.k = 1) && !(dzR s.d)) && (inR s.ck 255 && (decide (s.f = 5) || szR s.h)))))))
theorem fit_in (n : Nat) (v : Int) : fitR (n : Int) v = inR v (2 ^ n - 1) := by
  unfold fitR inR
  rw [Int.toNat_natCast]
  have : (v < 2 ^ n) ↔ (v ≤ 2 ^ n - 1) := by omega
  rw [decide_eq_decide]
  simp only [this]
theorem rval_ok (s : Sm) : rvalR s = s.ok := by
  have f0 : ∀ v, fitR 0 v = inR v 0 := fun v => fit_in 0 v
  have f1 : ∀ v, fitR 1 v = inR v 1 := fun v => fit_in 1 v
  have f3 : ∀ v, fitR 3 v = inR v 7 := fun v => fit_in 3 v
  have f4 : ∀ v, fitR 4 v = inR v 15 := fun v => fit_in 4 v
  have f5 : ∀ v, fitR 5 v = inR v 31 := fun v => fit_in 5 v
  have f7 : ∀ v, fitR 7 v = inR v 127 := fun v => fit_in 7 v
  have f8 : ∀ v, fitR 8 v = inR v 255 := fun v => fit_in 8 v
  have f16 : ∀ v, fitR 16 v = inR v 65535 := fun v => fit_in 16 v
  have f32 : ∀ v, fitR 32 v = inR v 4294967295 := fun v => fit_in 32 v
  have hcx : inR s.cx 15 = decide (0 ≤ s.cx ∧ s.cx < 16) := by
    unfold inR
    rw [decide_eq_decide]
    omega
  have key : ∀ f : Int, s.f = f → (f = 1 ∨ f = 2 ∨ f = 3 ∨ f = 4 ∨ f = 5 ∨ f = 6) → rvalR s = s.ok := by
    intro f hf hc
    rcases hc with rfl | rfl | rfl | rfl | rfl | rfl
    · by_cases h1 : s.h.k = 1
      · simp [rvalR, Sm.ok, topR, lowbR, fldR, wid, cbR, hf, h1, f0, f3, f4, f16, hcx, Bool.and_assoc, Bool.and_comm, Bool.and_left_comm]
      · by_cases h2 : s.h.k = 2
        · simp [rvalR, Sm.ok, topR, lowbR, fldR, wid, cbR, hf, h2, f0, f3, f4, f16, hcx, Bool.and_assoc, Bool.and_comm, Bool.and_left_comm]
        · simp [rvalR, Sm.ok, fldR, hf, h1, h2]
    · by_cases h1 : s.h.k = 1
      · simp [rvalR, Sm.ok, topR, lowbR, fldR, wid, cbR, hf, h1, f0, f5, f7, f16, hcx, Bool.and_assoc, Bool.and_comm, Bool.and_left_comm]
      · by_cases h2 : s.h.k = 2
        · simp [rvalR, Sm.ok, topR, lowbR, fldR, wid, cbR, hf, h2, f0, f1, f5, f7, f16, hcx, Bool.and_assoc, Bool.and_comm, Bool.and_left_comm]
        · simp [rvalR, Sm.ok, fldR, hf, h1, h2]
    · by_cases h1 : s.h.k = 1
      · simp [rvalR, Sm.ok, topR, lowbR, fldR, wid, cbR, hf, h1, f0, f8, f16, hcx, Bool.and_assoc, Bool.and_comm, Bool.and_left_comm]
      · by_cases h2 : s.h.k = 2
        · simp [rvalR, Sm.ok, topR, lowbR, fldR, wid, cbR, hf, h2, f0, f1, f8, f16, f32, hcx, Bool.and_assoc, Bool.and_comm, Bool.and_left_comm]
        · simp [rvalR, Sm.ok, fldR, hf, h1, h2]
    · simp [rvalR, Sm.ok, topR, wholeR, cbR, hf, f8, hcx, Bool.and_assoc, Bool.and_comm, Bool.and_left_comm]
    · simp [rvalR, Sm.ok, topR, wholeR, cbR, hf, f8, hcx, Bool.and_assoc, Bool.and_comm, Bool.and_left_comm]
    · by_cases h : s.ck = 0
      · simp [rvalR, Sm.ok, topR, cbR, hf, f8, hcx, h, inR, Bool.and_assoc, Bool.and_comm, Bool.and_left_comm]
      · simp [rvalR, Sm.ok, hf, h]
  by_cases h : 1 ≤ s.f ∧ s.f ≤ 6
  · exact key s.f rfl (by omega)
  · have e1 : rvalR s = false := by
      have : ¬ (1 ≤ s.f ∧ s.f ≤ 6 ∧ s.pl.length ≤ 1500) := fun k => h ⟨k.1, k.2.1⟩
      simp [rvalR, this]
    have e2 : s.ok = false := by
      unfold Sm.ok
      rw [if_neg (by omega), if_neg (by omega), if_neg (by omega), Bool.and_false]
    rw [e1, e2]
set_option maxHeartbeats 4000000 in
theorem rvalid8_c (s : Sm) : LSpec Try.prog G 14 [s.av] [] (fun _ => (.bool s.ok, [])) := by
  rw [← rval_ok]
  refine LSpec.introL tyOk Try.func14 rfl (by kernel_rfl) (by simp) (fun q => ⟨by simp, by simp⟩) ?_
  refine AWpL.sound tyOk [] _ _ _ _ ?_
  conv => whnf
  repeat' first
    | (show LHas _ _ _; ((try show LHas _ _ _); repeat (with_reducible show LHas _ _ _); first | apply LHas.here | apply LHas.next); conv => whnf)
    | ((first | (with_reducible refine And.intro ?_ ?_) | refine And.intro ?_ ?_); (focus (first | exact T.side)); conv => whnf)
    | (show LCall _ _ _ _ _ _; first | (refine LCall.pure (in8_c _ _) ?_; conv => whnf) | (refine LCall.pure (rfields_c s) ?_; conv => whnf) | (refine LCall.pure (r5valid_c s.h) ?_; conv => whnf) | (refine LCall.pure (r6valid_c s.d) ?_; conv => whnf) | (refine LCall.pure (r6static_c s.h) ?_; conv => whnf) | (apply LCall.eq; (focus (repeat first | (apply cons_congr; (focus (first | exact sl_bv rfl | exact sl_bv (by first | (simp; done) | (simp; (exact T.num))) | exact rfl))) | exact rfl)); first | (refine LCall.pure (in8_c _ _) ?_; conv => whnf) | (refine LCall.pure (rfields_c s) ?_; conv => whnf) | (refine LCall.pure (r5valid_c s.h) ?_; conv => whnf) | (refine LCall.pure (r6valid_c s.d) ?_; conv => whnf) | (refine LCall.pure (r6static_c s.h) ?_; conv => whnf)))
    | (show ABr _ _ _; first | (refine ABr.tt ?_; conv => whnf) | (refine ABr.ff ?_; conv => whnf) | (refine ABr.byN ?_) | ((with_reducible refine ABr.lssT (by assumption) ?_); conv => whnf) | ((with_reducible refine ABr.lssF (by assumption) ?_); conv => whnf) | ((with_reducible refine ABr.lss (fun h => ?_) (fun h => ?_)) <;> first | (exfalso; omega) | conv => whnf) | ((with_reducible refine ABr.gtrT (by assumption) ?_); conv => whnf) | ((with_reducible refine ABr.gtrF (by assumption) ?_); conv => whnf) | ((with_reducible refine ABr.gtr (fun h => ?_) (fun h => ?_)) <;> first | (exfalso; omega) | conv => whnf) | ((with_reducible refine ABr.eqlT (by assumption) ?_); conv => whnf) | ((with_reducible refine ABr.eqlF (by assumption) ?_); conv => whnf) | ((with_reducible refine ABr.eql (fun h => ?_) (fun h => ?_)) <;> first | (exfalso; omega) | conv => whnf) | ((with_reducible refine ABr.neqT (by assumption) ?_); conv => whnf) | ((with_reducible refine ABr.neqF (by assumption) ?_); conv => whnf) | ((with_reducible refine ABr.neq (fun h => ?_) (fun h => ?_)) <;> first | (exfalso; omega) | conv => whnf) | (refine ABr.byT (by with_reducible assumption) ?_; conv => whnf) | (refine ABr.byF (by with_reducible assumption) ?_; conv => whnf) | ((with_reducible refine ABr.decT rfl ?_); conv => whnf) | ((with_reducible refine ABr.decT (by assumption) ?_); conv => whnf) | ((with_reducible refine ABr.decF (by assumption) ?_); conv => whnf) | (refine ABr.dec (fun h => ?_) (fun h => ?_) <;> first | (exfalso; omega) | conv => whnf) | (refine ABr.gen (fun h => ?_) (fun h => ?_) <;> conv => whnf))
    | (show ACell _ _ _; first | (refine ACell.cell 0 ?_ ?_; (focus (first | exact T.side)); conv => whnf) | (refine ACell.mk ?_; conv => whnf))
    | (show AList _ _; first | (refine AList.app ?_ ?_; (focus (first | exact T.side)); conv => whnf) | (refine AList.set (x := b8 _) (bAV_b8 _).symm ?_ ?_; (focus (first | exact T.side)); conv => whnf) | (refine AList.set (f := iAV) rfl ?_ ?_; (focus (first | exact T.side)); conv => whnf) | (refine AList.part ?_; conv => whnf) | (refine AList.force ?_; (conv => whnf); refine Lit.mk ?_; conv => whnf) | (refine AList.full ?_ ?_; (focus (first | exact Nat.le_of_ble_eq_true rfl | (simp; done) | (simp; omega))); conv => whnf) | (refine AList.mk ?_; conv => whnf))
    | (refine LFresh.mk fun r => ?_; conv => whnf)
    | (show SWpL _ _ _ _ _ _ _; first | (apply SWpL.draw tyOk mixed (id := 12) [[], [0], [1, 0], [2, 1, 0], [3, 2, 1, 0], [4, 3, 2, 1, 0], [3, 2, 1, 0], [6, 3, 2, 1, 0], [7, 6, 3, 2, 1, 0], [5, 4, 3, 2, 1, 0, 8, 7, 6], [3, 2, 1, 0, 9, 5, 4, 8, 7, 6], [10, 3, 2, 1, 0, 9, 5, 4, 8, 7, 6]] [7, 5] [0, 1, 2, 3, 4, 6, 7, 8, 5, 9, 10, 11] [_] (by kernel_rfl); conv => whnf) | (apply SWpL.draw tyOk mixed (id := 12) [[], [0], [1, 0], [2, 1, 0], [3, 2, 1, 0], [4, 3, 2, 1, 0], [3, 2, 1, 0], [6, 3, 2, 1, 0], [7, 6, 3, 2, 1, 0], [5, 4, 3, 2, 1, 0, 8, 7, 6], [3, 2, 1, 0, 9, 5, 4, 8, 7, 6], [10, 3, 2, 1, 0, 9, 5, 4, 8, 7, 6]] [7, 5] [0, 1, 2, 3, 4, 6, 7, 8, 5, 9, 10, 11] [] (by kernel_rfl); conv => whnf))
    | (show KeepL _ _ _; first | (with_reducible exact KeepL.refl) | (refine KeepL.cons ?_; ((try show LHas _ _ _); repeat (with_reducible show LHas _ _ _); first | apply LHas.here | apply LHas.next); ((try show LHas _ _ _); repeat (with_reducible show LHas _ _ _); first | apply LHas.here | apply LHas.next); refine And.intro rfl ?_) | exact KeepL.nil)
    | (show InL _ _; first | exact InL.here | refine InL.next ?_)
    | (show False; (exact T.num))
    | exact Nm.b 0
  all_goals (try dsimp only)
  all_goals
    ((refine RetL.val ?_ ?_; rotate_left; (focus ((repeat' first | exact LSub.nil | (with_reducible exact LSub.refl) | (apply LSub.cons; ((try show LHas _ _ _); repeat (with_reducible show LHas _ _ _); first | apply LHas.here | apply LHas.next); refine And.intro ?_ ?_; (focus (try (first | (with_reducible rfl) | (refine congrArg (Pl.mk _) ?_; (first | rfl | (simp; done))) | rfl | (with_reducible refine congrArg (Pl.mk _) ?_))))))))); (focus (refine congrArg AV.bool ?_; rw [Bool.eq_iff_iff])))
    simp_all [rvalR, noneR, hzR, szR, dzR, alleq, icmp, Hd.static] <;> (intros; first | omega | (rw [if_neg (by omega)]; first | omega | (simp_all; done) | (simp_all; omega)))
end Go.Proofs.Ytnlpjbedkdhlbaa
