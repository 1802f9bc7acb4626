import Derived.Test.YtnlpjbedkdhlbaaFmt16
import Derived.Test.YtnlpjbedkdhlbaaFmt17
import Derived.Test.YtnlpjbedkdhlbaaFmt19
import Derived.Test.YtnlpjbedkdhlbaaFmt20
namespace Go.Proofs.Ytnlpjbedkdhlbaa
open Go.RowKit
set_option linter.all false
variable {G : Nat → AV}
theorem fmR_rng (c : UInt8) : 0 ≤ fmR c ∧ fmR c ≤ 6 := by unfold fmR; (repeat' split) <;> omega
theorem peek_rng {b : List UInt8} {c f : Int} (h : peekR b = (c, f, 0)) : (0 ≤ c ∧ c < 16) ∧ 1 ≤ f ∧ f ≤ 6 := by
  unfold peekR at h
  split at h
  · injection h with h1 h; injection h with h2 h3; cases h3
  · rename_i a r
    split at h
    · rename_i ha
      split at h
      · injection h with h1 h; injection h with h2 h3; cases h3
      · rename_i d l
        split at h
        · injection h with h1 h; injection h with h2 h3; cases h3
        · injection h with h1 h; injection h with h2 h3
          have := fmR_rng d
          omega
    · split at h
      · injection h with h1 h; injection h with h2 h3; cases h3
      · injection h with h1 h; injection h with h2 h3
        have := fmR_rng a
        omega
theorem fdecE_c (b : List UInt8) (k : Int) (ck : Bool) (c f e : Int) (hp : peekR b = (c, f, e)) (he : e ≠ 0) : LSpec Try.prog G 23 [bv b, iAV k, .bool ck] [] (fun _ => (de (.inr e), [])) := by
  refine LSpec.introL tyOk Try.func23 rfl (by kernel_rfl) (by simp) (fun q => ⟨by simp, by simp⟩) ?_
  refine AWpL.sound tyOk [] _ _ _ _ ?_
  conv => whnf
  repeat' first
    | (show LHas _ _ _; ((try show LHas _ _ _); repeat (with_reducible show LHas _ _ _); first | apply LHas.here | apply LHas.next); conv => whnf)
    | ((first | (with_reducible refine And.intro ?_ ?_) | refine And.intro ?_ ?_); (focus (first | exact T.side)); conv => whnf)
    | (show LCall _ _ _ _ _ _; first | (refine LCall.pure (fpk hp) ?_; conv => whnf) | (apply LCall.eq; (focus (repeat first | (apply cons_congr; (focus (first | exact sl_bv rfl | exact sl_bv (by first | (simp; done) | (simp; (exact T.num))) | exact rfl))) | exact rfl)); first | (refine LCall.pure (fpk hp) ?_; conv => whnf)))
    | (show ABr _ _ _; first | (refine ABr.tt ?_; conv => whnf) | (refine ABr.ff ?_; conv => whnf) | (refine ABr.byN ?_) | ((with_reducible refine ABr.gtrT (by assumption) ?_); conv => whnf) | ((with_reducible refine ABr.gtrF (by assumption) ?_); conv => whnf) | ((with_reducible refine ABr.gtr (fun h => ?_) (fun h => ?_)) <;> first | (exfalso; omega) | conv => whnf) | ((with_reducible refine ABr.eqlT (by assumption) ?_); conv => whnf) | ((with_reducible refine ABr.eqlF (by assumption) ?_); conv => whnf) | ((with_reducible refine ABr.eql (fun h => ?_) (fun h => ?_)) <;> first | (exfalso; omega) | conv => whnf) | ((with_reducible refine ABr.neqT (by assumption) ?_); conv => whnf) | ((with_reducible refine ABr.neqF (by assumption) ?_); conv => whnf) | ((with_reducible refine ABr.neq (fun h => ?_) (fun h => ?_)) <;> first | (exfalso; omega) | conv => whnf) | (refine ABr.byT (by with_reducible assumption) ?_; conv => whnf) | (refine ABr.byF (by with_reducible assumption) ?_; conv => whnf) | ((with_reducible refine ABr.decT rfl ?_); conv => whnf) | ((with_reducible refine ABr.decT (by assumption) ?_); conv => whnf) | ((with_reducible refine ABr.decF (by assumption) ?_); conv => whnf) | (refine ABr.dec (fun h => ?_) (fun h => ?_) <;> first | (exfalso; omega) | conv => whnf) | (refine ABr.gen (fun h => ?_) (fun h => ?_) <;> conv => whnf))
    | (show ACell _ _ _; first | (refine ACell.cell 0 ?_ ?_; (focus (first | exact T.side)); conv => whnf) | (refine ACell.mk ?_; conv => whnf))
    | (show AList _ _; first | (refine AList.app ?_ ?_; (focus (first | exact T.side)); conv => whnf) | (refine AList.set (x := b8 _) (bAV_b8 _).symm ?_ ?_; (focus (first | exact T.side)); conv => whnf) | (refine AList.set (f := iAV) rfl ?_ ?_; (focus (first | exact T.side)); conv => whnf) | (refine AList.part ?_; conv => whnf) | (refine AList.force ?_; (conv => whnf); refine Lit.mk ?_; conv => whnf) | (refine AList.full ?_ ?_; (focus (first | exact Nat.le_of_ble_eq_true rfl | (simp; done) | (simp; omega))); conv => whnf) | (refine AList.mk ?_; conv => whnf))
    | (refine LFresh.mk fun r => ?_; conv => whnf)
    | (show KeepL _ _ _; first | (with_reducible exact KeepL.refl) | (refine KeepL.cons ?_; ((try show LHas _ _ _); repeat (with_reducible show LHas _ _ _); first | apply LHas.here | apply LHas.next); ((try show LHas _ _ _); repeat (with_reducible show LHas _ _ _); first | apply LHas.here | apply LHas.next); refine And.intro rfl ?_) | exact KeepL.nil)
    | (show InL _ _; first | exact InL.here | refine InL.next ?_)
    | (show False; (exact T.num))
  all_goals (try dsimp only)
  (refine RetL.val ?_ ?_; rotate_left; (focus ((repeat' first | exact LSub.nil | (with_reducible exact LSub.refl) | (apply LSub.cons; ((try show LHas _ _ _); repeat (with_reducible show LHas _ _ _); first | apply LHas.here | apply LHas.next); refine And.intro ?_ ?_; (focus (try (first | (with_reducible rfl) | (refine congrArg (Pl.mk _) ?_; (first | rfl | (simp; done))) | rfl | (with_reducible refine congrArg (Pl.mk _) ?_)))))))))
  rfl
theorem rdecE_c (b : List UInt8) (k : Int) (ck : Bool) (c f e : Int) (hp : peekR b = (c, f, e)) (he : e ≠ 0) : LSpec Try.prog G 24 [bv b, iAV k, .bool ck] [] (fun _ => (de (.inr e), [])) := by
  refine LSpec.introL tyOk Try.func24 rfl (by kernel_rfl) (by simp) (fun q => ⟨by simp, by simp⟩) ?_
  refine AWpL.sound tyOk [] _ _ _ _ ?_
  conv => whnf
  repeat' first
    | (show LHas _ _ _; ((try show LHas _ _ _); repeat (with_reducible show LHas _ _ _); first | apply LHas.here | apply LHas.next); conv => whnf)
    | ((first | (with_reducible refine And.intro ?_ ?_) | refine And.intro ?_ ?_); (focus (first | exact T.side)); conv => whnf)
    | (show LCall _ _ _ _ _ _; first | (refine LCall.pure (rpk hp) ?_; conv => whnf) | (apply LCall.eq; (focus (repeat first | (apply cons_congr; (focus (first | exact sl_bv rfl | exact sl_bv (by first | (simp; done) | (simp; (exact T.num))) | exact rfl))) | exact rfl)); first | (refine LCall.pure (rpk hp) ?_; conv => whnf)))
    | (show ABr _ _ _; first | (refine ABr.tt ?_; conv => whnf) | (refine ABr.ff ?_; conv => whnf) | (refine ABr.byN ?_) | ((with_reducible refine ABr.lssT (by assumption) ?_); conv => whnf) | ((with_reducible refine ABr.lssF (by assumption) ?_); conv => whnf) | ((with_reducible refine ABr.lss (fun h => ?_) (fun h => ?_)) <;> first | (exfalso; omega) | conv => whnf) | ((with_reducible refine ABr.leqT (by assumption) ?_); conv => whnf) | ((with_reducible refine ABr.leqF (by assumption) ?_); conv => whnf) | ((with_reducible refine ABr.leq (fun h => ?_) (fun h => ?_)) <;> first | (exfalso; omega) | conv => whnf) | ((with_reducible refine ABr.gtrT (by assumption) ?_); conv => whnf) | ((with_reducible refine ABr.gtrF (by assumption) ?_); conv => whnf) | ((with_reducible refine ABr.gtr (fun h => ?_) (fun h => ?_)) <;> first | (exfalso; omega) | conv => whnf) | ((with_reducible refine ABr.eqlT (by assumption) ?_); conv => whnf) | ((with_reducible refine ABr.eqlF (by assumption) ?_); conv => whnf) | ((with_reducible refine ABr.eql (fun h => ?_) (fun h => ?_)) <;> first | (exfalso; omega) | conv => whnf) | ((with_reducible refine ABr.neqT (by assumption) ?_); conv => whnf) | ((with_reducible refine ABr.neqF (by assumption) ?_); conv => whnf) | ((with_reducible refine ABr.neq (fun h => ?_) (fun h => ?_)) <;> first | (exfalso; omega) | conv => whnf) | (refine ABr.byT (by with_reducible assumption) ?_; conv => whnf) | (refine ABr.byF (by with_reducible assumption) ?_; conv => whnf) | ((with_reducible refine ABr.decT rfl ?_); conv => whnf) | ((with_reducible refine ABr.decT (by assumption) ?_); conv => whnf) | ((with_reducible refine ABr.decF (by assumption) ?_); conv => whnf) | (refine ABr.dec (fun h => ?_) (fun h => ?_) <;> first | (exfalso; omega) | conv => whnf) | (refine ABr.gen (fun h => ?_) (fun h => ?_) <;> conv => whnf))
    | (show ACell _ _ _; first | (refine ACell.cell 0 ?_ ?_; (focus (first | exact T.side)); conv => whnf) | (refine ACell.mk ?_; conv => whnf))
    | (show AList _ _; first | (refine AList.app ?_ ?_; (focus (first | exact T.side)); conv => whnf) | (refine AList.set (x := b8 _) (bAV_b8 _).symm ?_ ?_; (focus (first | exact T.side)); conv => whnf) | (refine AList.set (f := iAV) rfl ?_ ?_; (focus (first | exact T.side)); conv => whnf) | (refine AList.part ?_; conv => whnf) | (refine AList.force ?_; (conv => whnf); refine Lit.mk ?_; conv => whnf) | (refine AList.full ?_ ?_; (focus (first | exact Nat.le_of_ble_eq_true rfl | (simp; done) | (simp; omega))); conv => whnf) | (refine AList.mk ?_; conv => whnf))
    | (refine LFresh.mk fun r => ?_; conv => whnf)
    | (show KeepL _ _ _; first | (with_reducible exact KeepL.refl) | (refine KeepL.cons ?_; ((try show LHas _ _ _); repeat (with_reducible show LHas _ _ _); first | apply LHas.here | apply LHas.next); ((try show LHas _ _ _); repeat (with_reducible show LHas _ _ _); first | apply LHas.here | apply LHas.next); refine And.intro rfl ?_) | exact KeepL.nil)
    | (show InL _ _; first | exact InL.here | refine InL.next ?_)
    | (show False; (exact T.num))
  all_goals (try dsimp only)
  (refine RetL.val ?_ ?_; rotate_left; (focus ((repeat' first | exact LSub.nil | (with_reducible exact LSub.refl) | (apply LSub.cons; ((try show LHas _ _ _); repeat (with_reducible show LHas _ _ _); first | apply LHas.here | apply LHas.next); refine And.intro ?_ ?_; (focus (try (first | (with_reducible rfl) | (refine congrArg (Pl.mk _) ?_; (first | rfl | (simp; done))) | rfl | (with_reducible refine congrArg (Pl.mk _) ?_)))))))))
  rfl
theorem fdecK_c (b : List UInt8) (hb : b.length ≤ 140737488355328) (k : Int) (ck : Bool) (c f : Int) (hp : peekR b = (c, f, 0)) (hf : f ≤ 4) (h1 : k ≠ 1) (h2 : k ≠ 2) : LSpec Try.prog G 23 [bv b, iAV k, .bool ck] [] (fun _ => (de (.inr 7), [])) := by
  refine LSpec.introL tyOk Try.func23 rfl (by kernel_rfl) (by simp) (fun q => ⟨by simp, by simp⟩) ?_
  refine AWpL.sound tyOk [] _ _ _ _ ?_
  conv => whnf
  repeat' first
    | (show LHas _ _ _; ((try show LHas _ _ _); repeat (with_reducible show LHas _ _ _); first | apply LHas.here | apply LHas.next); conv => whnf)
    | ((first | (with_reducible refine And.intro ?_ ?_) | refine And.intro ?_ ?_); (focus (first | exact T.side)); conv => whnf)
    | (show LCall _ _ _ _ _ _; first | (refine LCall.pure (fpk hp) ?_; conv => whnf) | (apply LCall.upd (ftb_c _ b hb); ((try show LHas _ _ _); repeat (with_reducible show LHas _ _ _); first | apply LHas.here | apply LHas.next); refine And.intro rfl ?_; conv => whnf) | (apply LCall.eq; (focus (repeat first | (apply cons_congr; (focus (first | exact sl_bv rfl | exact sl_bv (by first | (simp; done) | (simp; (exact T.num))) | exact rfl))) | exact rfl)); first | (refine LCall.pure (fpk hp) ?_; conv => whnf) | (apply LCall.upd (ftb_c _ b hb); ((try show LHas _ _ _); repeat (with_reducible show LHas _ _ _); first | apply LHas.here | apply LHas.next); refine And.intro rfl ?_; conv => whnf)))
    | (show ABr _ _ _; first | (refine ABr.tt ?_; conv => whnf) | (refine ABr.ff ?_; conv => whnf) | (refine ABr.byN ?_) | ((with_reducible refine ABr.gtrT (by assumption) ?_); conv => whnf) | ((with_reducible refine ABr.gtrF (by assumption) ?_); conv => whnf) | ((with_reducible refine ABr.gtr (fun h => ?_) (fun h => ?_)) <;> first | (exfalso; omega) | conv => whnf) | ((with_reducible refine ABr.eqlT (by assumption) ?_); conv => whnf) | ((with_reducible refine ABr.eqlF (by assumption) ?_); conv => whnf) | ((with_reducible refine ABr.eql (fun h => ?_) (fun h => ?_)) <;> first | (exfalso; omega) | conv => whnf) | ((with_reducible refine ABr.neqT (by assumption) ?_); conv => whnf) | ((with_reducible refine ABr.neqF (by assumption) ?_); conv => whnf) | ((with_reducible refine ABr.neq (fun h => ?_) (fun h => ?_)) <;> first | (exfalso; omega) | conv => whnf) | (refine ABr.byT (by with_reducible assumption) ?_; conv => whnf) | (refine ABr.byF (by with_reducible assumption) ?_; conv => whnf) | ((with_reducible refine ABr.decT rfl ?_); conv => whnf) | ((with_reducible refine ABr.decT (by assumption) ?_); conv => whnf) | ((with_reducible refine ABr.decF (by assumption) ?_); conv => whnf) | (refine ABr.dec (fun h => ?_) (fun h => ?_) <;> first | (exfalso; omega) | conv => whnf) | (refine ABr.gen (fun h => ?_) (fun h => ?_) <;> conv => whnf))
    | (show ACell _ _ _; first | (refine ACell.cell 0 ?_ ?_; (focus (first | exact T.side)); conv => whnf) | (refine ACell.mk ?_; conv => whnf))
    | (show AList _ _; first | (refine AList.app ?_ ?_; (focus (first | exact T.side)); conv => whnf) | (refine AList.set (x := b8 _) (bAV_b8 _).symm ?_ ?_; (focus (first | exact T.side)); conv => whnf) | (refine AList.set (f := iAV) rfl ?_ ?_; (focus (first | exact T.side)); conv => whnf) | (refine AList.part ?_; conv => whnf) | (refine AList.force ?_; (conv => whnf); refine Lit.mk ?_; conv => whnf) | (refine AList.full ?_ ?_; (focus (first | exact Nat.le_of_ble_eq_true rfl | (simp; done) | (simp; omega))); conv => whnf) | (refine AList.mk ?_; conv => whnf))
    | (refine LFresh.mk fun r => ?_; conv => whnf)
    | (show KeepL _ _ _; first | (with_reducible exact KeepL.refl) | (refine KeepL.cons ?_; ((try show LHas _ _ _); repeat (with_reducible show LHas _ _ _); first | apply LHas.here | apply LHas.next); ((try show LHas _ _ _); repeat (with_reducible show LHas _ _ _); first | apply LHas.here | apply LHas.next); refine And.intro rfl ?_) | exact KeepL.nil)
    | (show InL _ _; first | exact InL.here | refine InL.next ?_)
    | (show False; (exact T.num))
  all_goals (try dsimp only)
  all_goals (refine RetL.val ?_ ?_; rotate_left; (focus ((repeat' first | exact LSub.nil | (with_reducible exact LSub.refl) | (apply LSub.cons; ((try show LHas _ _ _); repeat (with_reducible show LHas _ _ _); first | apply LHas.here | apply LHas.next); refine And.intro ?_ ?_; (focus (try (first | (with_reducible rfl) | (refine congrArg (Pl.mk _) ?_; (first | rfl | (simp; done))) | rfl | (with_reducible refine congrArg (Pl.mk _) ?_)))))))))
  all_goals rfl
theorem rdecK_c (b : List UInt8) (k : Int) (ck : Bool) (c f : Int) (hp : peekR b = (c, f, 0)) (hf : f ≤ 4) (h1 : k ≠ 1) (h2 : k ≠ 2) : LSpec Try.prog G 24 [bv b, iAV k, .bool ck] [] (fun _ => (de (.inr 7), [])) := by
  refine LSpec.introL tyOk Try.func24 rfl (by kernel_rfl) (by simp) (fun q => ⟨by simp, by simp⟩) ?_
  refine AWpL.sound tyOk [] _ _ _ _ ?_
  conv => whnf
  repeat' first
    | (show LHas _ _ _; ((try show LHas _ _ _); repeat (with_reducible show LHas _ _ _); first | apply LHas.here | apply LHas.next); conv => whnf)
    | ((first | (with_reducible refine And.intro ?_ ?_) | refine And.intro ?_ ?_); (focus (first | exact T.side)); conv => whnf)
    | (show LCall _ _ _ _ _ _; first | (refine LCall.pure (rpk hp) ?_; conv => whnf) | (apply LCall.eq; (focus (repeat first | (apply cons_congr; (focus (first | exact sl_bv rfl | exact sl_bv (by first | (simp; done) | (simp; (exact T.num))) | exact rfl))) | exact rfl)); first | (refine LCall.pure (rpk hp) ?_; conv => whnf)))
    | (show ABr _ _ _; first | (refine ABr.tt ?_; conv => whnf) | (refine ABr.ff ?_; conv => whnf) | (refine ABr.byN ?_) | ((with_reducible refine ABr.lssT (by assumption) ?_); conv => whnf) | ((with_reducible refine ABr.lssF (by assumption) ?_); conv => whnf) | ((with_reducible refine ABr.lss (fun h => ?_) (fun h => ?_)) <;> first | (exfalso; omega) | conv => whnf) | ((with_reducible refine ABr.leqT (by assumption) ?_); conv => whnf) | ((with_reducible refine ABr.leqF (by assumption) ?_); conv => whnf) | ((with_reducible refine ABr.leq (fun h => ?_) (fun h => ?_)) <;> first | (exfalso; omega) | conv => whnf) | ((with_reducible refine ABr.gtrT (by assumption) ?_); conv => whnf) | ((with_reducible refine ABr.gtrF (by assumption) ?_); conv => whnf) | ((with_reducible refine ABr.gtr (fun h => ?_) (fun h => ?_)) <;> first | (exfalso; omega) | conv => whnf) | ((with_reducible refine ABr.eqlT (by assumption) ?_); conv => whnf) | ((with_reducible refine ABr.eqlF (by assumption) ?_); conv => whnf) | ((with_reducible refine ABr.eql (fun h => ?_) (fun h => ?_)) <;> first | (exfalso; omega) | conv => whnf) | ((with_reducible refine ABr.neqT (by assumption) ?_); conv => whnf) | ((with_reducible refine ABr.neqF (by assumption) ?_); conv => whnf) | ((with_reducible refine ABr.neq (fun h => ?_) (fun h => ?_)) <;> first | (exfalso; omega) | conv => whnf) | (refine ABr.byT (by with_reducible assumption) ?_; conv => whnf) | (refine ABr.byF (by with_reducible assumption) ?_; conv => whnf) | ((with_reducible refine ABr.decT rfl ?_); conv => whnf) | ((with_reducible refine ABr.decT (by assumption) ?_); conv => whnf) | ((with_reducible refine ABr.decF (by assumption) ?_); conv => whnf) | (refine ABr.dec (fun h => ?_) (fun h => ?_) <;> first | (exfalso; omega) | conv => whnf) | (refine ABr.gen (fun h => ?_) (fun h => ?_) <;> conv => whnf))
    | (show ACell _ _ _; first | (refine ACell.cell 0 ?_ ?_; (focus (first | exact T.side)); conv => whnf) | (refine ACell.mk ?_; conv => whnf))
    | (show AList _ _; first | (refine AList.app ?_ ?_; (focus (first | exact T.side)); conv => whnf) | (refine AList.set (x := b8 _) (bAV_b8 _).symm ?_ ?_; (focus (first | exact T.side)); conv => whnf) | (refine AList.set (f := iAV) rfl ?_ ?_; (focus (first | exact T.side)); conv => whnf) | (refine AList.part ?_; conv => whnf) | (refine AList.force ?_; (conv => whnf); refine Lit.mk ?_; conv => whnf) | (refine AList.full ?_ ?_; (focus (first | exact Nat.le_of_ble_eq_true rfl | (simp; done) | (simp; omega))); conv => whnf) | (refine AList.mk ?_; conv => whnf))
    | (refine LFresh.mk fun r => ?_; conv => whnf)
    | (show KeepL _ _ _; first | (with_reducible exact KeepL.refl) | (refine KeepL.cons ?_; ((try show LHas _ _ _); repeat (with_reducible show LHas _ _ _); first | apply LHas.here | apply LHas.next); ((try show LHas _ _ _); repeat (with_reducible show LHas _ _ _); first | apply LHas.here | apply LHas.next); refine And.intro rfl ?_) | exact KeepL.nil)
    | (show InL _ _; first | exact InL.here | refine InL.next ?_)
    | (show False; (exact T.num))
  all_goals (try dsimp only)
  all_goals (refine RetL.val ?_ ?_; rotate_left; (focus ((repeat' first | exact LSub.nil | (with_reducible exact LSub.refl) | (apply LSub.cons; ((try show LHas _ _ _); repeat (with_reducible show LHas _ _ _); first | apply LHas.here | apply LHas.next); refine And.intro ?_ ?_; (focus (try (first | (with_reducible rfl) | (refine congrArg (Pl.mk _) ?_; (first | rfl | (simp; done))) | rfl | (with_reducible refine congrArg (Pl.mk _) ?_)))))))))
  all_goals rfl
/-- What a reader has taken. -/
theorem rtk_some {n : Nat} {X : Rdr} (h : rE (rtk n X) = false) : rE X = false ∧ (rL X).length = n + (rL (rtk n X)).length := by
  obtain ⟨_ | l, hl⟩ := X
  · exfalso
    unfold rE rtk at h
    cases h
  · unfold rE rtk at h
    unfold rE rL rtk
    refine ⟨rfl, ?_⟩
    show l.length = n + ((tkR n (some l)).getD []).length
    by_cases hn : l.length < n
    · have e : tkR n (some l) = none := if_pos hn
      have h : (tkR n (some l)).isNone = false := h
      rw [e] at h
      cases h
    · have e : tkR n (some l) = some (l.drop n) := if_neg hn
      rw [e]
      simp
      omega
/-- A checksum that is nought is not written again: the bytes are others. -/
theorem small_eq (ck : Bool) (X : Rdr) (s : Sm) (b : List UInt8) (N : Nat) (hf : s.f = 1 ∨ s.f = 2 ∨ s.f = 3) (hN : rE X = false → b.length = N + (rL X).length) (hd : (preL s).length + (bodyL s).length = N) : smallP ck X s b = smallR ck X s b := by
  cases ck with
  | false => rfl
  | true =>
    show finR (rtk 2 X) (wud s (rv 2 X)) b = _
    cases hE : rE (rtk 2 X) with
    | true => rw [small_e hE, fin_e hE]
    | false =>
      by_cases h0 : rv 2 X = 0
      · rw [small_0 hE h0, h0]
        refine fin_n1 hE fun e => ?_
        have h1 := rtk_some hE
        have h2 := hN h1.1
        have e2 := congrArg List.length e
        have h3 : ∀ s' : Sm, preL s' = preL s → bodyL s' = bodyL s → sumR s' = 0 → s'.pl = rL (rtk 2 X) → (encR s').1.length = b.length → False := by
          intro s' k1 k2 k3 k4 k5
          unfold encR at k5
          split at k5
          · unfold hdL at k5
            rw [if_pos k3, k1, k2, k4] at k5
            simp only [List.length_append, List.length_nil] at k5
            omega
          · simp only [List.length_nil] at k5
            omega
        refine h3 _ ?_ ?_ ?_ rfl e2
        · unfold preL; rfl
        · unfold bodyL; rfl
        · rw [sum_eq]; exact if_neg (show ¬ (s.f = 4 ∨ s.f = 5) by omega)
      · rw [small_t hE h0]
theorem pre_ln (s : Sm) : (preL s).length = if 0 < s.cx then 1 else 0 := by unfold preL; split <;> rfl
theorem body1 (s : Sm) (h : s.f = 1) : (bodyL s).length = 1 := by unfold bodyL; rw [if_pos h]; rfl
theorem body2T (s : Sm) (h : s.f = 2) (hk : s.h.k = 2) : (bodyL s).length = 4 := by unfold bodyL; rw [if_neg (by omega), if_pos h, if_pos hk]; simp
theorem body2U (s : Sm) (h : s.f = 2) (hk : s.h.k ≠ 2) : (bodyL s).length = 2 := by unfold bodyL; rw [if_neg (by omega), if_pos h, if_neg hk]; simp
theorem body3T (s : Sm) (h : s.f = 3) (hk : s.h.k = 2) : (bodyL s).length = 9 := by unfold bodyL; rw [if_neg (by omega), if_neg (by omega), if_pos h, if_pos hk, if_pos hk]; simp
theorem body3U (s : Sm) (h : s.f = 3) (hk : s.h.k ≠ 2) : (bodyL s).length = 4 := by unfold bodyL; rw [if_neg (by omega), if_neg (by omega), if_pos h, if_neg hk, if_neg hk]; simp
/-- The reader behind the context. -/
theorem start_ln {b : List UInt8} {hb : b.length ≤ 140737488355328} {c : Int} {X : Rdr} (hc : (0 < c ∧ X = rtk 1 (rdr b hb)) ∨ (¬ 0 < c ∧ X = rdr b hb)) (h : rE X = false) : b.length = (if 0 < c then 1 else 0) + (rL X).length := by
  have e : (rL (rdr b hb)).length = b.length := by unfold rL rdr; rfl
  rcases hc with ⟨h1, rfl⟩ | ⟨h1, rfl⟩
  · rw [if_pos h1, ← e]; exact (rtk_some h).2
  · rw [if_neg h1, Nat.zero_add, e]
theorem decR_e {b : List UInt8} {hb : b.length ≤ 140737488355328} {k : Int} {ck : Bool} {c f e : Int} (hp : peekR b = (c, f, e)) (he : e ≠ 0) : decR b hb k ck = .inr e := by
  unfold decR; rw [hp]; exact if_pos he
theorem decR_k {b : List UInt8} {hb : b.length ≤ 140737488355328} {k : Int} {ck : Bool} {c f : Int} (hp : peekR b = (c, f, 0)) (hf : f ≤ 4) (h1 : k ≠ 1) (h2 : k ≠ 2) : decR b hb k ck = .inr 7 := by
  unfold decR; rw [hp]; rw [if_neg (fun h => h rfl), if_pos ⟨hf, h1, h2⟩]
theorem decR_b {b : List UInt8} {hb : b.length ≤ 140737488355328} {k : Int} {ck : Bool} {c f : Int} (hp : peekR b = (c, f, 0)) (h : ¬ (f ≤ 4 ∧ k ≠ 1 ∧ k ≠ 2)) : decR b hb k ck = decB f c (if 0 < c then rtk 1 (rdr b hb) else rdr b hb) b k ck := by
  unfold decR; rw [hp]; rw [if_neg (fun h => h rfl), if_neg h]
theorem full_e {c : Int} {Y : Rdr} {b : List UInt8} (h : rE (rtk 1 Y) = true) : fullR c Y b = .inr 5 := if_pos h
theorem full_t {c : Int} {Y : Rdr} {b : List UInt8} (h : rE (rtk 1 Y) = false) (hk : rv 1 Y = 2) : fullR c Y b = bigR (dynTX (rtk 4 (stX Y))) (dynT (rtk 4 (stX Y)) (stT Y (s0 c 5))) (dynF (rtk 4 (stX Y))) b := by
  unfold fullR; rw [if_neg (by rw [h]; decide), if_pos hk]
theorem full_u {c : Int} {Y : Rdr} {b : List UInt8} (h : rE (rtk 1 Y) = false) (hk : rv 1 Y = 1) : fullR c Y b = bigR (dynUX (stX Y)) (dynU (stX Y) (stH Y (s0 c 5))) (dynF (stX Y)) b := by
  unfold fullR; rw [if_neg (by rw [h]; decide), if_neg (by omega), if_pos hk]
theorem full_f {c : Int} {Y : Rdr} {b : List UInt8} (h : rE (rtk 1 Y) = false) (h1 : rv 1 Y ≠ 1) (h2 : rv 1 Y ≠ 2) : fullR c Y b = .inr 4 := by
  unfold fullR; rw [if_neg (by rw [h]; decide), if_neg h2, if_neg h1]
/-- The reference's Decode. -/
theorem rdecode_c (b : List UInt8) (hb : b.length ≤ 140737488355328) (k : Int) (ck : Bool) : LSpec Try.prog G 24 [bv b, iAV k, .bool ck] [] (fun _ => (de (decR b hb k ck), [])) := by
  obtain ⟨c, f, e, hp⟩ : ∃ c f e, peekR b = (c, f, e) := ⟨_, _, _, rfl⟩
  by_cases he : ¬ e = 0
  · rw [decR_e hp he]; exact rdecE_c b k ck c f e hp he
  have he : e = 0 := Decidable.of_not_not he
  subst he
  obtain ⟨hc, hf⟩ := peek_rng hp
  by_cases hk : f ≤ 4 ∧ k ≠ 1 ∧ k ≠ 2
  · rw [decR_k hp hk.1 hk.2.1 hk.2.2]; exact rdecK_c b k ck c f hp hk.1 hk.2.1 hk.2.2
  rw [decR_b hp hk]
  have hX : (0 < c ∧ (if 0 < c then rtk 1 (rdr b hb) else rdr b hb) = rtk 1 (rdr b hb)) ∨ (¬ 0 < c ∧ (if 0 < c then rtk 1 (rdr b hb) else rdr b hb) = rdr b hb) := by
    by_cases h : 0 < c
    · exact .inl ⟨h, if_pos h⟩
    · exact .inr ⟨h, if_neg h⟩
  generalize (if 0 < c then rtk 1 (rdr b hb) else rdr b hb) = X at hX ⊢
  have h6 : f = 1 ∨ f = 2 ∨ f = 3 ∨ f = 4 ∨ f = 5 ∨ f = 6 := by omega
  have hkk : f ≤ 4 → k = 1 ∨ k = 2 := by omega
  unfold decB
  rcases h6 with rfl | rfl | rfl | rfl | rfl | rfl
  · exact rdec1_c b hb k ck c X hp (hkk (by decide)) hX
  · rcases hkk (by decide) with rfl | rfl
    · exact rdec2U_c b hb ck c X hp hX
    · exact rdec2T_c b hb ck c X hp hX
  · rcases hkk (by decide) with rfl | rfl
    · exact rdec3U_c b hb ck c X hp hX
    · exact rdec3T_c b hb ck c X hp hX
  · rcases hkk (by decide) with rfl | rfl
    · exact rdec4U_c b hb ck c X hp hX
    · exact rdec4T_c b hb ck c X hp hX
  · show LSpec _ G _ _ _ fun _ => (de (fullR c (rtk 1 X) b), [])
    cases hE : rE (rtk 1 (rtk 1 X)) with
    | true => rw [full_e hE]; exact rdec5E_c b hb k ck c X hp hE hX
    | false =>
      by_cases h2 : rv 1 (rtk 1 X) = 2
      · rw [full_t hE h2]; exact rdec5T_c b hb k ck c X hp hE h2 hX
      · by_cases h1 : rv 1 (rtk 1 X) = 1
        · rw [full_u hE h1]; exact rdec5U_c b hb k ck c X hp hE h1 hX
        · rw [full_f hE h1 h2]; exact rdec5F_c b hb k ck c X hp hE h1 h2 hX
  · exact rdec6_c b hb k ck c X hp hX
/-- The program's Decode. -/
theorem fdecode_c (b : List UInt8) (hb : b.length ≤ 140737488355328) (k : Int) (ck : Bool) : LSpec Try.prog G 23 [bv b, iAV k, .bool ck] [] (fun _ => (de (decR b hb k ck), [])) := by
  obtain ⟨c, f, e, hp⟩ : ∃ c f e, peekR b = (c, f, e) := ⟨_, _, _, rfl⟩
  by_cases he : ¬ e = 0
  · rw [decR_e hp he]; exact fdecE_c b k ck c f e hp he
  have he : e = 0 := Decidable.of_not_not he
  subst he
  obtain ⟨hc, hf⟩ := peek_rng hp
  by_cases hk : f ≤ 4 ∧ k ≠ 1 ∧ k ≠ 2
  · rw [decR_k hp hk.1 hk.2.1 hk.2.2]; exact fdecK_c b hb k ck c f hp hk.1 hk.2.1 hk.2.2
  rw [decR_b hp hk]
  have hX : (0 < c ∧ (if 0 < c then rtk 1 (rdr b hb) else rdr b hb) = rtk 1 (rdr b hb)) ∨ (¬ 0 < c ∧ (if 0 < c then rtk 1 (rdr b hb) else rdr b hb) = rdr b hb) := by
    by_cases h : 0 < c
    · exact .inl ⟨h, if_pos h⟩
    · exact .inr ⟨h, if_neg h⟩
  generalize (if 0 < c then rtk 1 (rdr b hb) else rdr b hb) = X at hX ⊢
  have h6 : f = 1 ∨ f = 2 ∨ f = 3 ∨ f = 4 ∨ f = 5 ∨ f = 6 := by omega
  have hkk : f ≤ 4 → k = 1 ∨ k = 2 := by omega
  unfold decB
  rcases h6 with rfl | rfl | rfl | rfl | rfl | rfl
  · have e : smallP ck (lwX1 X) (lw1 X k (s0 c 1)) b = smallR ck (lwX1 X) (lw1 X k (s0 c 1)) b := by
      refine small_eq _ _ _ _ _ (.inl rfl) (fun h => ?_) rfl
      have h1 := rtk_some h
      have := start_ln hX h1.1
      rw [pre_ln, body1 _ rfl]
      show b.length = (if 0 < c then 1 else 0) + 1 + (rL (rtk 1 X)).length
      omega
    exact e ▸ fdec1_c b hb k ck c X hp (hkk (by decide)) hX
  · rcases hkk (by decide) with rfl | rfl
    · have e : smallP ck (lwX2U X) (lw2U X 1 (s0 c 2)) b = smallR ck (lwX2U X) (lw2U X 1 (s0 c 2)) b := by
        refine small_eq _ _ _ _ _ (.inr (.inl rfl)) (fun h => ?_) rfl
        have h1 := rtk_some h
        have h2 := rtk_some h1.1
        have := start_ln hX h2.1
        rw [pre_ln, body2U _ rfl (show (1 : Int) ≠ 2 by decide)]
        show b.length = (if 0 < c then 1 else 0) + 2 + (rL (rtk 1 (rtk 1 X))).length
        omega
      exact e ▸ fdec2U_c b hb ck c X hp hX
    · have e : smallP ck (lwX2T X) (lw2T X 2 (s0 c 2)) b = smallR ck (lwX2T X) (lw2T X 2 (s0 c 2)) b := by
        refine small_eq _ _ _ _ _ (.inr (.inl rfl)) (fun h => ?_) rfl
        have h1 := rtk_some h
        have h2 := rtk_some h1.1
        have h3 := rtk_some h2.1
        have := start_ln hX h3.1
        rw [pre_ln, body2T _ rfl rfl]
        show b.length = (if 0 < c then 1 else 0) + 4 + (rL (rtk 1 (rtk 2 (rtk 1 X)))).length
        omega
      exact e ▸ fdec2T_c b hb ck c X hp hX
  · rcases hkk (by decide) with rfl | rfl
    · have e : smallP ck (lwX3U X) (lw3U X 1 (s0 c 3)) b = smallR ck (lwX3U X) (lw3U X 1 (s0 c 3)) b := by
        refine small_eq _ _ _ _ _ (.inr (.inr rfl)) (fun h => ?_) rfl
        have h1 := rtk_some h
        have h2 := rtk_some h1.1
        have h3 := rtk_some h2.1
        have := start_ln hX h3.1
        rw [pre_ln, body3U _ rfl (show (1 : Int) ≠ 2 by decide)]
        show b.length = (if 0 < c then 1 else 0) + 4 + (rL (rtk 1 (rtk 2 (rtk 1 X)))).length
        omega
      exact e ▸ fdec3U_c b hb ck c X hp hX
    · have e : smallP ck (lwX3T X) (lw3T X 2 (s0 c 3)) b = smallR ck (lwX3T X) (lw3T X 2 (s0 c 3)) b := by
        refine small_eq _ _ _ _ _ (.inr (.inr rfl)) (fun h => ?_) rfl
        have h1 := rtk_some h
        have h2 := rtk_some h1.1
        have h3 := rtk_some h2.1
        have h4 := rtk_some h3.1
        have h5 := rtk_some h4.1
        have := start_ln hX h5.1
        rw [pre_ln, body3T _ rfl rfl]
        show b.length = (if 0 < c then 1 else 0) + 9 + (rL (rtk 1 (rtk 2 (rtk 4 (rtk 1 (rtk 1 X)))))).length
        omega
      exact e ▸ fdec3T_c b hb ck c X hp hX
  · rcases hkk (by decide) with rfl | rfl
    · exact fdec4U_c b hb ck c X hp hX
    · exact fdec4T_c b hb ck c X hp hX
  · show LSpec _ G _ _ _ fun _ => (de (fullR c (rtk 1 X) b), [])
    cases hE : rE (rtk 1 (rtk 1 X)) with
    | true => rw [full_e hE]; exact fdec5E_c b hb k ck c X hp hE hX
    | false =>
      by_cases h2 : rv 1 (rtk 1 X) = 2
      · rw [full_t hE h2]; exact fdec5T_c b hb k ck c X hp hE h2 hX
      · by_cases h1 : rv 1 (rtk 1 X) = 1
        · rw [full_u hE h1]; exact fdec5U_c b hb k ck c X hp hE h1 hX
        · rw [full_f hE h1 h2]; exact fdec5F_c b hb k ck c X hp hE h1 h2 hX
  · exact fdec6_c b hb k ck c X hp hX
end Go.Proofs.Ytnlpjbedkdhlbaa
