import Derived.Test.YtnlpjbedkdhlbaaAm18
namespace Go.Proofs.Ytnlpjbedkdhlbaa
open Go.RowKit
set_option linter.all false
variable {G : Nat → AV}
/-- made.Mod -/
def modR (n m : Int) : Int := if m < 1 then 0 else if n.tmod m < 0 then IntKind.i64.wrap (n.tmod m + m) else n.tmod m
theorem mod_c (n m : Int) : LSpec Try.prog G 59 [iAV n, iAV m] [] (fun _ => (iAV (modR n m), [])) := by
  refine LSpec.introL tyOk Try.func59 rfl (by kernel_rfl) (by simp) (fun q => ⟨by simp, by simp⟩) ?_
  refine AWpL.sound tyOk [] _ _ _ _ ?_
  conv => whnf
  repeat' first
    | (show LHas _ _ _; ((try show LHas _ _ _); repeat (with_reducible show LHas _ _ _); first | apply LHas.here | apply LHas.next); conv => whnf)
    | ((first | (with_reducible refine And.intro ?_ ?_) | refine And.intro ?_ ?_); (focus (first | exact T.side)); conv => whnf)
    | (show ABr _ _ _; first | (refine ABr.tt ?_; conv => whnf) | (refine ABr.ff ?_; conv => whnf) | (refine ABr.byN ?_) | ((with_reducible refine ABr.lssT (by assumption) ?_); conv => whnf) | ((with_reducible refine ABr.lssF (by assumption) ?_); conv => whnf) | ((with_reducible refine ABr.lss (fun h => ?_) (fun h => ?_)) <;> first | (exfalso; omega) | conv => whnf) | (refine ABr.byT (by with_reducible assumption) ?_; conv => whnf) | (refine ABr.byF (by with_reducible assumption) ?_; conv => whnf) | ((with_reducible refine ABr.decT rfl ?_); conv => whnf) | ((with_reducible refine ABr.decT (by assumption) ?_); conv => whnf) | ((with_reducible refine ABr.decF (by assumption) ?_); conv => whnf) | (refine ABr.dec (fun h => ?_) (fun h => ?_) <;> first | (exfalso; omega) | conv => whnf) | (refine ABr.gen (fun h => ?_) (fun h => ?_) <;> conv => whnf))
    | (show ACell _ _ _; first | (refine ACell.cell 0 ?_ ?_; (focus (first | exact T.side)); conv => whnf) | (refine ACell.mk ?_; conv => whnf))
    | (show AList _ _; first | (refine AList.app ?_ ?_; (focus (first | exact T.side)); conv => whnf) | (refine AList.set (x := b8 _) (bAV_b8 _).symm ?_ ?_; (focus (first | exact T.side)); conv => whnf) | (refine AList.set (f := iAV) rfl ?_ ?_; (focus (first | exact T.side)); conv => whnf) | (refine AList.part ?_; conv => whnf) | (refine AList.force ?_; (conv => whnf); refine Lit.mk ?_; conv => whnf) | (refine AList.full ?_ ?_; (focus (first | exact Nat.le_of_ble_eq_true rfl | (simp; done) | (simp; omega))); conv => whnf) | (refine AList.mk ?_; conv => whnf))
    | (refine LFresh.mk fun r => ?_; conv => whnf)
    | (show KeepL _ _ _; first | (with_reducible exact KeepL.refl) | (refine KeepL.cons ?_; ((try show LHas _ _ _); repeat (with_reducible show LHas _ _ _); first | apply LHas.here | apply LHas.next); ((try show LHas _ _ _); repeat (with_reducible show LHas _ _ _); first | apply LHas.here | apply LHas.next); refine And.intro rfl ?_) | exact KeepL.nil)
    | (show InL _ _; first | exact InL.here | refine InL.next ?_)
    | (show False; (exact T.num))
  all_goals (try dsimp only)
  all_goals
    (refine RetL.val ?_ ?_; rotate_left; (focus ((repeat' first | exact LSub.nil | (with_reducible exact LSub.refl) | (apply LSub.cons; ((try show LHas _ _ _); repeat (with_reducible show LHas _ _ _); first | apply LHas.here | apply LHas.next); refine And.intro ?_ ?_; (focus (try (first | (with_reducible rfl) | (refine congrArg (Pl.mk _) ?_; (first | rfl | (simp; done))) | rfl | (with_reducible refine congrArg (Pl.mk _) ?_)))))))))
    unfold modR
    (repeat first | rw [if_pos (by first | assumption | omega)] | rw [if_neg (by first | assumption | omega)])
    rfl
/-- made.Filled -/
def fillB (seed : Int) (j : Nat) : UInt8 := b8 (iarith .add .i64 (iarith .add .i64 seed (iarith .mul .i64 7 j)) (IntKind.i64.wrap ((j : Int).tdiv 16)))
def filled (n seed : Int) : List UInt8 := (List.range n.toNat).map (fillB seed)
/-- made.Dice: the numbers and the place. -/
def dice (t : List Int) (a : Nat) : Pl := ⟨73, [iv t, iAV a]⟩
theorem light_c (t : List Int) : LSpec Try.prog G 16 [iv t] [] (fun _ => (.bool (decide (t.length ≤ 400)), [])) := by
  refine LSpec.introL tyOk Try.func16 rfl (by kernel_rfl) (by simp) (fun q => ⟨by simp, by simp⟩) ?_
  refine AWpL.sound tyOk [] _ _ _ _ ?_
  conv => whnf
  repeat' first
    | (show LHas _ _ _; ((try show LHas _ _ _); repeat (with_reducible show LHas _ _ _); first | apply LHas.here | apply LHas.next); conv => whnf)
    | ((first | (with_reducible refine And.intro ?_ ?_) | refine And.intro ?_ ?_); (focus (first | exact T.side)); conv => whnf)
    | (show ABr _ _ _; first | (refine ABr.tt ?_; conv => whnf) | (refine ABr.ff ?_; conv => whnf) | (refine ABr.byN ?_) | ((with_reducible refine ABr.leqT (by assumption) ?_); conv => whnf) | ((with_reducible refine ABr.leqF (by assumption) ?_); conv => whnf) | ((with_reducible refine ABr.leq (fun h => ?_) (fun h => ?_)) <;> first | (exfalso; omega) | conv => whnf) | (refine ABr.byT (by with_reducible assumption) ?_; conv => whnf) | (refine ABr.byF (by with_reducible assumption) ?_; conv => whnf) | ((with_reducible refine ABr.decT rfl ?_); conv => whnf) | ((with_reducible refine ABr.decT (by assumption) ?_); conv => whnf) | ((with_reducible refine ABr.decF (by assumption) ?_); conv => whnf) | (refine ABr.dec (fun h => ?_) (fun h => ?_) <;> first | (exfalso; omega) | conv => whnf) | (refine ABr.gen (fun h => ?_) (fun h => ?_) <;> conv => whnf))
    | (show ACell _ _ _; first | (refine ACell.cell 0 ?_ ?_; (focus (first | exact T.side)); conv => whnf) | (refine ACell.mk ?_; conv => whnf))
    | (show AList _ _; first | (refine AList.app ?_ ?_; (focus (first | exact T.side)); conv => whnf) | (refine AList.set (x := b8 _) (bAV_b8 _).symm ?_ ?_; (focus (first | exact T.side)); conv => whnf) | (refine AList.set (f := iAV) rfl ?_ ?_; (focus (first | exact T.side)); conv => whnf) | (refine AList.part ?_; conv => whnf) | (refine AList.force ?_; (conv => whnf); refine Lit.mk ?_; conv => whnf) | (refine AList.full ?_ ?_; (focus (first | exact Nat.le_of_ble_eq_true rfl | (simp; done) | (simp; omega))); conv => whnf) | (refine AList.mk ?_; conv => whnf))
    | (refine LFresh.mk fun r => ?_; conv => whnf)
    | (show KeepL _ _ _; first | (with_reducible exact KeepL.refl) | (refine KeepL.cons ?_; ((try show LHas _ _ _); repeat (with_reducible show LHas _ _ _); first | apply LHas.here | apply LHas.next); ((try show LHas _ _ _); repeat (with_reducible show LHas _ _ _); first | apply LHas.here | apply LHas.next); refine And.intro rfl ?_) | exact KeepL.nil)
    | (show InL _ _; first | exact InL.here | refine InL.next ?_)
    | (show False; (exact T.num))
  all_goals (try dsimp only)
  (refine RetL.val ?_ ?_; rotate_left; (focus ((repeat' first | exact LSub.nil | (with_reducible exact LSub.refl) | (apply LSub.cons; ((try show LHas _ _ _); repeat (with_reducible show LHas _ _ _); first | apply LHas.here | apply LHas.next); refine And.intro ?_ ?_; (focus (try (first | (with_reducible rfl) | (refine congrArg (Pl.mk _) ?_; (first | rfl | (simp; done))) | rfl | (with_reducible refine congrArg (Pl.mk _) ?_)))))))))
  simp [icmp]
  omega
theorem roll_c (t : List Int) : LSpec Try.prog G 17 [iv t] [] (fun q => (.ptr q 0, [(q, dice t 0)])) := by
  refine LSpec.introL tyOk Try.func17 rfl (by kernel_rfl) (by simp) (fun q => ⟨by simp, by simp⟩) ?_
  refine AWpL.sound tyOk [] _ _ _ _ ?_
  conv => whnf
  repeat' first
    | (show LHas _ _ _; ((try show LHas _ _ _); repeat (with_reducible show LHas _ _ _); first | apply LHas.here | apply LHas.next); conv => whnf)
    | ((first | (with_reducible refine And.intro ?_ ?_) | refine And.intro ?_ ?_); (focus (first | exact T.side)); conv => whnf)
    | (show ABr _ _ _; first | (refine ABr.tt ?_; conv => whnf) | (refine ABr.ff ?_; conv => whnf) | (refine ABr.byN ?_) | (refine ABr.byT (by with_reducible assumption) ?_; conv => whnf) | (refine ABr.byF (by with_reducible assumption) ?_; conv => whnf) | ((with_reducible refine ABr.decT rfl ?_); conv => whnf) | ((with_reducible refine ABr.decT (by assumption) ?_); conv => whnf) | ((with_reducible refine ABr.decF (by assumption) ?_); conv => whnf) | (refine ABr.dec (fun h => ?_) (fun h => ?_) <;> first | (exfalso; omega) | conv => whnf) | (refine ABr.gen (fun h => ?_) (fun h => ?_) <;> conv => whnf))
    | (show ACell _ _ _; first | (refine ACell.cell 0 ?_ ?_; (focus (first | exact T.side)); conv => whnf) | (refine ACell.mk ?_; conv => whnf))
    | (show AList _ _; first | (refine AList.app ?_ ?_; (focus (first | exact T.side)); conv => whnf) | (refine AList.set (x := b8 _) (bAV_b8 _).symm ?_ ?_; (focus (first | exact T.side)); conv => whnf) | (refine AList.set (f := iAV) rfl ?_ ?_; (focus (first | exact T.side)); conv => whnf) | (refine AList.part ?_; conv => whnf) | (refine AList.force ?_; (conv => whnf); refine Lit.mk ?_; conv => whnf) | (refine AList.full ?_ ?_; (focus (first | exact Nat.le_of_ble_eq_true rfl | (simp; done) | (simp; omega))); conv => whnf) | (refine AList.mk ?_; conv => whnf))
    | (refine LFresh.mk fun r => ?_; conv => whnf)
    | (show KeepL _ _ _; first | (with_reducible exact KeepL.refl) | (refine KeepL.cons ?_; ((try show LHas _ _ _); repeat (with_reducible show LHas _ _ _); first | apply LHas.here | apply LHas.next); ((try show LHas _ _ _); repeat (with_reducible show LHas _ _ _); first | apply LHas.here | apply LHas.next); refine And.intro rfl ?_) | exact KeepL.nil)
    | (show InL _ _; first | exact InL.here | refine InL.next ?_)
    | (show False; (exact T.num))
  all_goals (try dsimp only)
  refine RetL.own r ?_ ?_ ?_
  · rfl
  · ((try show LHas _ _ _); repeat (with_reducible show LHas _ _ _); first | apply LHas.here | apply LHas.next); trivial
  · (repeat' first | exact LSub.nil | (with_reducible exact LSub.refl) | (apply LSub.cons; ((try show LHas _ _ _); repeat (with_reducible show LHas _ _ _); first | apply LHas.here | apply LHas.next); refine And.intro ?_ ?_; (focus (try (first | (with_reducible rfl) | (refine congrArg (Pl.mk _) ?_; (first | rfl | (simp; done))) | rfl | (with_reducible refine congrArg (Pl.mk _) ?_))))))
def nextR (t : List Int) (a : Nat) (n : Int) : Int := if a < t.length then modR (t.getD a 0) n else 0
def nextA (t : List Int) (a : Nat) : Nat := if a < t.length then a + 1 else a
theorem modR_lt (n m : Int) (h0 : 0 < m) (h1 : m < 4611686018427387904) : 0 ≤ modR n m ∧ modR n m < m := by
  unfold modR
  rw [if_neg (by omega)]
  have h2 : n.tmod m < m := Int.tmod_lt_of_pos n h0
  have h3 : -m < n.tmod m := by
    have := Int.lt_tmod_of_pos n h0
    omega
  split
  · rw [IntKind.wrap_i64]; omega
  · omega
theorem nextR_lt (t : List Int) (a : Nat) (m : Int) (h0 : 0 < m) (h1 : m < 4611686018427387904) : 0 ≤ nextR t a m ∧ nextR t a m < m := by
  unfold nextR
  split
  · exact modR_lt _ _ h0 h1
  · omega
theorem next_c (t : List Int) (a : Nat) (n : Int) (ht : t.length ≤ 400) (p : Nm) : LSpec Try.prog G 26 [.ptr p 0, iAV n] [(p, dice t a)] (fun _ => (iAV (nextR t a n), [(p, dice t (nextA t a))])) := by
  refine LSpec.introL tyOk Try.func26 rfl (by kernel_rfl) (by simp) (fun q => ⟨by simp, by simp⟩) ?_
  refine AWpL.sound tyOk [] _ _ _ _ ?_
  conv => whnf
  repeat' first
    | (show LHas _ _ _; ((try show LHas _ _ _); repeat (with_reducible show LHas _ _ _); first | apply LHas.here | apply LHas.next); conv => whnf)
    | ((first | (with_reducible refine And.intro ?_ ?_) | refine And.intro ?_ ?_); (focus (first | exact T.side)); conv => whnf)
    | (show LCall _ _ _ _ _ _; first | (refine LCall.pure (mod_c _ _) ?_; conv => whnf) | (apply LCall.eq; (focus (repeat first | (apply cons_congr; (focus (first | exact sl_bv rfl | exact sl_bv (by first | (simp; done) | (simp; (exact T.num))) | exact rfl))) | exact rfl)); first | (refine LCall.pure (mod_c _ _) ?_; conv => whnf)))
    | (show ABr _ _ _; first | (refine ABr.tt ?_; conv => whnf) | (refine ABr.ff ?_; conv => whnf) | (refine ABr.byN ?_) | ((with_reducible refine ABr.geqT (by assumption) ?_); conv => whnf) | ((with_reducible refine ABr.geqF (by assumption) ?_); conv => whnf) | ((with_reducible refine ABr.geq (fun h => ?_) (fun h => ?_)) <;> first | (exfalso; omega) | conv => whnf) | (refine ABr.byT (by with_reducible assumption) ?_; conv => whnf) | (refine ABr.byF (by with_reducible assumption) ?_; conv => whnf) | ((with_reducible refine ABr.decT rfl ?_); conv => whnf) | ((with_reducible refine ABr.decT (by assumption) ?_); conv => whnf) | ((with_reducible refine ABr.decF (by assumption) ?_); conv => whnf) | (refine ABr.dec (fun h => ?_) (fun h => ?_) <;> first | (exfalso; omega) | conv => whnf) | (refine ABr.gen (fun h => ?_) (fun h => ?_) <;> conv => whnf))
    | (show ACell _ _ _; first | (refine ACell.cell 0 ?_ ?_; (focus (first | exact T.side)); conv => whnf) | (refine ACell.mk ?_; conv => whnf))
    | (show AList _ _; first | (refine AList.app ?_ ?_; (focus (first | exact T.side)); conv => whnf) | (refine AList.set (x := b8 _) (bAV_b8 _).symm ?_ ?_; (focus (first | exact T.side)); conv => whnf) | (refine AList.set (f := iAV) rfl ?_ ?_; (focus (first | exact T.side)); conv => whnf) | (refine AList.part ?_; conv => whnf) | (refine AList.force ?_; (conv => whnf); refine Lit.mk ?_; conv => whnf) | (refine AList.full ?_ ?_; (focus (first | exact Nat.le_of_ble_eq_true rfl | (simp; done) | (simp; omega))); conv => whnf) | (refine AList.mk ?_; conv => whnf))
    | (refine LFresh.mk fun r => ?_; conv => whnf)
    | (show SWpL _ _ _ _ _ _ _; first | (apply SWpL.draw tyOk mixed (id := 1) [[], [0], [1, 0], [2, 1, 0], [], [4], [5, 4], [6, 5, 4], [7, 6, 5, 4], [3, 2, 1, 0, 8, 7, 6, 5, 4]] [] [0, 1, 2, 3, 4, 5, 6, 7, 8, 9] [] (by kernel_rfl); conv => whnf) | (apply SWpL.draw tyOk mixed (id := 4) [[], [0], [1, 0], [2, 1, 0], [], [4], [5, 4], [6, 5, 4], [7, 6, 5, 4], [3, 2, 1, 0, 8, 7, 6, 5, 4], [9, 3, 2, 1, 0, 8, 7, 6, 5, 4], [], [10, 9, 3, 2, 1, 0, 8, 7, 6, 5, 4, 11], [12, 10, 9, 3, 2, 1, 0, 8, 7, 6, 5, 4, 11]] [] [0, 1, 2, 3, 4, 5, 6, 7, 8, 9, 10, 11, 12, 13] [] (by kernel_rfl); conv => whnf))
    | (show KeepL _ _ _; first | (with_reducible exact KeepL.refl) | (refine KeepL.cons ?_; ((try show LHas _ _ _); repeat (with_reducible show LHas _ _ _); first | apply LHas.here | apply LHas.next); ((try show LHas _ _ _); repeat (with_reducible show LHas _ _ _); first | apply LHas.here | apply LHas.next); refine And.intro rfl ?_) | exact KeepL.nil)
    | (show InL _ _; first | exact InL.here | refine InL.next ?_)
    | (show False; (exact T.num))
    | exact Nm.b 0
  all_goals (try dsimp only)
  · have e1 : nextA t a = a := by unfold nextA; (repeat first | rw [if_pos (by first | assumption | omega)] | rw [if_neg (by first | assumption | omega)])
    have e2 : nextR t a n = 0 := by unfold nextR; (repeat first | rw [if_pos (by first | assumption | omega)] | rw [if_neg (by first | assumption | omega)])
    rw [e1, e2]
    (refine RetL.val ?_ ?_; rotate_left; (focus ((repeat' first | exact LSub.nil | (with_reducible exact LSub.refl) | (apply LSub.cons; ((try show LHas _ _ _); repeat (with_reducible show LHas _ _ _); first | apply LHas.here | apply LHas.next); refine And.intro ?_ ?_; (focus (try (first | (with_reducible rfl) | (refine congrArg (Pl.mk _) ?_; (first | rfl | (simp; done))) | rfl | (with_reducible refine congrArg (Pl.mk _) ?_)))))))))
    rfl
  · have e1 : nextA t a = a + 1 := by unfold nextA; (repeat first | rw [if_pos (by first | assumption | omega)] | rw [if_neg (by first | assumption | omega)])
    have e2 : nextR t a n = modR (t.getD a 0) n := by unfold nextR; (repeat first | rw [if_pos (by first | assumption | omega)] | rw [if_neg (by first | assumption | omega)])
    have h1 : iarith .add .i64 (a : Int) 1 = ((a + 1 : Nat) : Int) := by (exact T.num)
    have h2 : iarith .sub .i64 ((a + 1 : Nat) : Int) 1 = (a : Int) := by (exact T.num)
    rw [e1, e2, h1, h2]
    (refine RetL.val ?_ ?_; rotate_left; (focus ((repeat' first | exact LSub.nil | (with_reducible exact LSub.refl) | (apply LSub.cons; ((try show LHas _ _ _); repeat (with_reducible show LHas _ _ _); first | apply LHas.here | apply LHas.next); refine And.intro ?_ ?_; (focus (try (first | (with_reducible rfl) | (refine congrArg (Pl.mk _) ?_; (first | rfl | (simp; done))) | rfl | (with_reducible refine congrArg (Pl.mk _) ?_)))))))))
    simp [iAV]
end Go.Proofs.Ytnlpjbedkdhlbaa
