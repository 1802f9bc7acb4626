import Derived.Test.YtnlpjbedkdhlbaaMade2
import Derived.Test.YtnlpjbedkdhlbaaHd1
namespace Go.Proofs.Ytnlpjbedkdhlbaa
open Go.RowKit
set_option linter.all false
variable {G : Nat → AV}
@[simp] theorem adv_adv (t : List Int) (a i j : Nat) : adv t (adv t a i) j = adv t a (i + j) := by
  induction j with
  | zero => rfl
  | succ j ih => exact congrArg (nextA t) ih
/-- made.word -/
def wordR (t : List Int) (a : Nat) (m : Int) : Int := if nextR t a 4 = 0 then nextR t (adv t a 1) 3 else if nextR t a 4 = 1 then iarith .sub .i64 m (nextR t (adv t a 1) 3) else nextR t (adv t a 1) (iarith .add .i64 m 1)
theorem wordR_rng (t : List Int) (a : Nat) (m : Int) (h : 2 ≤ m) (h2 : m < 4294967296) : 0 ≤ wordR t a m ∧ wordR t a m ≤ m := by
  unfold wordR
  have h3 := nextR_lt t (adv t a 1) 3 (by decide) (by decide)
  have e : iarith .add .i64 m 1 = m + 1 := by (exact T.num)
  have h4 := nextR_lt t (adv t a 1) (m + 1) (by omega) (by omega)
  have e2 : iarith .sub .i64 m (nextR t (adv t a 1) 3) = m - nextR t (adv t a 1) 3 := by (exact T.num)
  rw [e, e2]
  split
  · omega
  · split <;> omega
theorem word_c (t : List Int) (a : Nat) (m : Int) (ht : t.length ≤ 400) (p : Nm) : LSpec Try.prog G 48 [.ptr p 0, iAV m] [(p, dice t a)] (fun _ => (iAV (wordR t a m), [(p, dice t (adv t a 2))])) := by
  refine LSpec.introL tyOk Try.func48 rfl (by kernel_rfl) (by simp) (fun q => ⟨by simp, by simp⟩) ?_
  refine AWpL.sound tyOk [] _ _ _ _ ?_
  conv => whnf
  repeat' first
    | (show LHas _ _ _; ((try show LHas _ _ _); repeat (with_reducible show LHas _ _ _); first | apply LHas.here | apply LHas.next); conv => whnf)
    | ((first | (with_reducible refine And.intro ?_ ?_) | refine And.intro ?_ ?_); (focus (first | exact T.side)); conv => whnf)
    | (show LCall _ _ _ _ _ _; first | (apply LCall.upd (next_c t _ _ ht _); ((try show LHas _ _ _); repeat (with_reducible show LHas _ _ _); first | apply LHas.here | apply LHas.next); refine And.intro rfl ?_; conv => whnf) | (apply LCall.eq; (focus (repeat first | (apply cons_congr; (focus (first | exact sl_bv rfl | exact sl_bv (by first | (simp; done) | (simp; (exact T.num))) | exact rfl))) | exact rfl)); first | (apply LCall.upd (next_c t _ _ ht _); ((try show LHas _ _ _); repeat (with_reducible show LHas _ _ _); first | apply LHas.here | apply LHas.next); refine And.intro rfl ?_; conv => whnf)))
    | (show ABr _ _ _; first | (refine ABr.tt ?_; conv => whnf) | (refine ABr.ff ?_; conv => whnf) | (refine ABr.byN ?_) | ((with_reducible refine ABr.eqlT (by assumption) ?_); conv => whnf) | ((with_reducible refine ABr.eqlF (by assumption) ?_); conv => whnf) | ((with_reducible refine ABr.eql (fun h => ?_) (fun h => ?_)) <;> first | (exfalso; omega) | conv => whnf) | (refine ABr.byT (by with_reducible assumption) ?_; conv => whnf) | (refine ABr.byF (by with_reducible assumption) ?_; conv => whnf) | ((with_reducible refine ABr.decT rfl ?_); conv => whnf) | ((with_reducible refine ABr.decT (by assumption) ?_); conv => whnf) | ((with_reducible refine ABr.decF (by assumption) ?_); conv => whnf) | (refine ABr.dec (fun h => ?_) (fun h => ?_) <;> first | (exfalso; omega) | conv => whnf) | (refine ABr.gen (fun h => ?_) (fun h => ?_) <;> conv => whnf))
    | (show ACell _ _ _; first | (refine ACell.cell 0 ?_ ?_; (focus (first | exact T.side)); conv => whnf) | (refine ACell.mk ?_; conv => whnf))
    | (show AList _ _; first | (refine AList.app ?_ ?_; (focus (first | exact T.side)); conv => whnf) | (refine AList.set (x := b8 _) (bAV_b8 _).symm ?_ ?_; (focus (first | exact T.side)); conv => whnf) | (refine AList.set (f := iAV) rfl ?_ ?_; (focus (first | exact T.side)); conv => whnf) | (refine AList.part ?_; conv => whnf) | (refine AList.force ?_; (conv => whnf); refine Lit.mk ?_; conv => whnf) | (refine AList.full ?_ ?_; (focus (first | exact Nat.le_of_ble_eq_true rfl | (simp; done) | (simp; omega))); conv => whnf) | (refine AList.mk ?_; conv => whnf))
    | (refine LFresh.mk fun r => ?_; conv => whnf)
    | (show KeepL _ _ _; first | (with_reducible exact KeepL.refl) | (refine KeepL.cons ?_; ((try show LHas _ _ _); repeat (with_reducible show LHas _ _ _); first | apply LHas.here | apply LHas.next); ((try show LHas _ _ _); repeat (with_reducible show LHas _ _ _); first | apply LHas.here | apply LHas.next); refine And.intro rfl ?_) | exact KeepL.nil)
    | (show InL _ _; first | exact InL.here | refine InL.next ?_)
    | (show False; (exact T.num))
  all_goals (try dsimp only)
  all_goals
    (refine RetL.val ?_ ?_; rotate_left; (focus ((repeat' first | exact LSub.nil | (with_reducible exact LSub.refl) | (apply LSub.cons; ((try show LHas _ _ _); repeat (with_reducible show LHas _ _ _); first | apply LHas.here | apply LHas.next); refine And.intro ?_ ?_; (focus (try (first | (with_reducible rfl) | (refine congrArg (Pl.mk _) ?_; (first | rfl | (simp; done))) | rfl | (with_reducible refine congrArg (Pl.mk _) ?_)))))))))
    unfold wordR
    (repeat first | rw [if_pos (by first | assumption | omega)] | rw [if_neg (by first | assumption | omega)])
    rfl
attribute [irreducible] wordR
theorem oneR_iff (t : List Int) (a : Nat) (n : Int) : oneR t a n = true ↔ nextR t a n = iarith .sub .i64 n 1 := by simp [oneR, icmp]
/-- made.Header -/
def hckR (t : List Int) (a : Nat) : Int := if oneR t (adv t a 5) 2 = true then iarith .add .i64 1 (nextR t (adv t a 6) 65535) else 0
def hckN (t : List Int) (a : Nat) : Nat := if oneR t (adv t a 5) 2 = true then 7 else 6
def hkdR (fl : Int) : Int := iarith .add .i64 1 (modR fl 2)
def hdrR (t : List Int) (a : Nat) (fl : Int) : Hd :=
  { k := hkdR fl, tos := nextR t a 2, ttl := iarith .add .i64 64 (nextR t (adv t a 1) 2), fx := nextR t (adv t a 2) 2, id := wordR t (adv t a 3) 65535, fr := 167772161, to := iarith .add .i64 167772162 (IntKind.i64.wrap (fl.tdiv 2)), fp := 5000, tp := iarith .add .i64 6000 fl,
    ck := hckR t a
    ty := if hkdR fl = 2 then 96 else 0
    sq := if hkdR fl = 2 then wordR t (adv t a (hckN t a)) 65535 else 0
    tm := if hkdR fl = 2 then wordR t (adv t a (hckN t a + 2)) 4294967295 else 0
    sr := if hkdR fl = 2 then iarith .add .i64 77 fl else 0
    mr := if hkdR fl = 2 then nextR t (adv t a (hckN t a + 4)) 2 else 0 }
def hdrA (t : List Int) (a : Nat) (fl : Int) : Nat := adv t a (hckN t a + if hkdR fl = 2 then 5 else 0)
set_option maxHeartbeats 1000000 in
theorem dheader_c (t : List Int) (a : Nat) (fl : Int) (ht : t.length ≤ 400) (p : Nm) : LSpec Try.prog G 46 [.ptr p 0, iAV fl] [(p, dice t a)] (fun _ => ((hdrR t a fl).av, [(p, dice t (hdrA t a fl))])) := by
  refine LSpec.introL tyOk Try.func46 rfl (by kernel_rfl) (by simp) (fun q => ⟨by simp, by simp⟩) ?_
  refine AWpL.sound tyOk [] _ _ _ _ ?_
  conv => whnf
  repeat' first
    | (show LHas _ _ _; ((try show LHas _ _ _); repeat (with_reducible show LHas _ _ _); first | apply LHas.here | apply LHas.next); conv => whnf)
    | ((first | (with_reducible refine And.intro ?_ ?_) | refine And.intro ?_ ?_); (focus (first | exact T.side)); conv => whnf)
    | (show LCall _ _ _ _ _ _; first | (apply LCall.upd (next_c t _ _ ht _); ((try show LHas _ _ _); repeat (with_reducible show LHas _ _ _); first | apply LHas.here | apply LHas.next); refine And.intro rfl ?_; conv => whnf) | (apply LCall.upd (one_c t _ _ ht _); ((try show LHas _ _ _); repeat (with_reducible show LHas _ _ _); first | apply LHas.here | apply LHas.next); refine And.intro rfl ?_; conv => whnf) | (apply LCall.upd (word_c t _ _ ht _); ((try show LHas _ _ _); repeat (with_reducible show LHas _ _ _); first | apply LHas.here | apply LHas.next); refine And.intro rfl ?_; conv => whnf) | (refine LCall.pure (mod_c _ _) ?_; conv => whnf) | (apply LCall.eq; (focus (repeat first | (apply cons_congr; (focus (first | exact sl_bv rfl | exact sl_bv (by first | (simp; done) | (simp; (exact T.num))) | exact rfl))) | exact rfl)); first | (apply LCall.upd (next_c t _ _ ht _); ((try show LHas _ _ _); repeat (with_reducible show LHas _ _ _); first | apply LHas.here | apply LHas.next); refine And.intro rfl ?_; conv => whnf) | (apply LCall.upd (one_c t _ _ ht _); ((try show LHas _ _ _); repeat (with_reducible show LHas _ _ _); first | apply LHas.here | apply LHas.next); refine And.intro rfl ?_; conv => whnf) | (apply LCall.upd (word_c t _ _ ht _); ((try show LHas _ _ _); repeat (with_reducible show LHas _ _ _); first | apply LHas.here | apply LHas.next); refine And.intro rfl ?_; conv => whnf) | (refine LCall.pure (mod_c _ _) ?_; conv => whnf)))
    | (show ABr _ _ _; first | (refine ABr.tt ?_; conv => whnf) | (refine ABr.ff ?_; conv => whnf) | (refine ABr.byN ?_) | ((with_reducible refine ABr.eqlT (by assumption) ?_); conv => whnf) | ((with_reducible refine ABr.eqlF (by assumption) ?_); conv => whnf) | ((with_reducible refine ABr.eql (fun h => ?_) (fun h => ?_)) <;> first | (exfalso; omega) | conv => whnf) | (refine ABr.byT (by with_reducible assumption) ?_; conv => whnf) | (refine ABr.byF (by with_reducible assumption) ?_; conv => whnf) | ((with_reducible refine ABr.decT rfl ?_); conv => whnf) | ((with_reducible refine ABr.decT (by assumption) ?_); conv => whnf) | ((with_reducible refine ABr.decF (by assumption) ?_); conv => whnf) | (refine ABr.dec (fun h => ?_) (fun h => ?_) <;> first | (exfalso; omega) | conv => whnf) | (refine ABr.gen (fun h => ?_) (fun h => ?_) <;> conv => whnf))
    | (show ACell _ _ _; first | (refine ACell.cell 0 ?_ ?_; (focus (first | exact T.side)); conv => whnf) | (refine ACell.mk ?_; conv => whnf))
    | (show AList _ _; first | (refine AList.app ?_ ?_; (focus (first | exact T.side)); conv => whnf) | (refine AList.set (x := b8 _) (bAV_b8 _).symm ?_ ?_; (focus (first | exact T.side)); conv => whnf) | (refine AList.set (f := iAV) rfl ?_ ?_; (focus (first | exact T.side)); conv => whnf) | (refine AList.part ?_; conv => whnf) | (refine AList.force ?_; (conv => whnf); refine Lit.mk ?_; conv => whnf) | (refine AList.full ?_ ?_; (focus (first | exact Nat.le_of_ble_eq_true rfl | (simp; done) | (simp; omega))); conv => whnf) | (refine AList.mk ?_; conv => whnf))
    | (refine LFresh.mk fun r => ?_; conv => whnf)
    | (show KeepL _ _ _; first | (with_reducible exact KeepL.refl) | (refine KeepL.cons ?_; ((try show LHas _ _ _); repeat (with_reducible show LHas _ _ _); first | apply LHas.here | apply LHas.next); ((try show LHas _ _ _); repeat (with_reducible show LHas _ _ _); first | apply LHas.here | apply LHas.next); refine And.intro rfl ?_) | exact KeepL.nil)
    | (show InL _ _; first | exact InL.here | refine InL.next ?_)
    | (show False; (exact T.num))
  all_goals (try dsimp only)
  all_goals (refine RetL.val ?_ ?_; rotate_left; (focus ((repeat' first | exact LSub.nil | (with_reducible exact LSub.refl) | (apply LSub.cons; ((try show LHas _ _ _); repeat (with_reducible show LHas _ _ _); first | apply LHas.here | apply LHas.next); refine And.intro ?_ ?_; (focus (try (first | (with_reducible rfl) | (refine congrArg (Pl.mk _) ?_; (first | rfl | (simp; done))) | rfl | (with_reducible refine congrArg (Pl.mk _) ?_)))))))))
  all_goals rename_i h1
  all_goals first
    | (have ho : oneR t (adv t a 5) 2 = true := (oneR_iff _ _ _).2 h1
       have hk : hkdR fl = 2 := h
       (first | (unfold hdrA hckN; rewrite [if_pos ho, if_pos hk]; rfl) | (unfold hdrR hckR hckN; simp only [if_pos ho, if_pos hk]; rfl)))
    | (have ho : oneR t (adv t a 5) 2 = true := (oneR_iff _ _ _).2 h1
       have hk : ¬ hkdR fl = 2 := h
       (first | (unfold hdrA hckN; rewrite [if_pos ho, if_neg hk]; rfl) | (unfold hdrR hckR hckN; simp only [if_pos ho, if_neg hk]; rfl)))
    | (have ho : ¬ oneR t (adv t a 5) 2 = true := fun hh => h1 ((oneR_iff _ _ _).1 hh)
       have hk : hkdR fl = 2 := h
       (first | (unfold hdrA hckN; rewrite [if_neg ho, if_pos hk]; rfl) | (unfold hdrR hckR hckN; simp only [if_neg ho, if_pos hk]; rfl)))
    | (have ho : ¬ oneR t (adv t a 5) 2 = true := fun hh => h1 ((oneR_iff _ _ _).1 hh)
       have hk : ¬ hkdR fl = 2 := h
       (first | (unfold hdrA hckN; rewrite [if_neg ho, if_neg hk]; rfl) | (unfold hdrR hckR hckN; simp only [if_neg ho, if_neg hk]; rfl)))
    | trace_state
/-- made.Dynamic -/
def dydR (t : List Int) (a : Nat) (k : Int) : Dy := if k = 2 then ⟨[0, 1, 160, 65535, 3000].getD (nextR t a 5).toNat 0, nextR t (adv t a 1) 2⟩ else ⟨0, 0⟩
def dydA (t : List Int) (a : Nat) (k : Int) : Nat := if k = 2 then adv t a 2 else a
theorem ddynamic_c (t : List Int) (a : Nat) (k : Int) (ht : t.length ≤ 400) (p : Nm) : LSpec Try.prog G 47 [.ptr p 0, iAV k] [(p, dice t a)] (fun _ => ((dydR t a k).av, [(p, dice t (dydA t a k))])) := by
  have h5 := nextR_lt t a 5 (by decide) (by decide)
  refine LSpec.introL tyOk Try.func47 rfl (by kernel_rfl) (by simp) (fun q => ⟨by simp, by simp⟩) ?_
  refine AWpL.sound tyOk [] _ _ _ _ ?_
  conv => whnf
  repeat' first
    | (show LHas _ _ _; ((try show LHas _ _ _); repeat (with_reducible show LHas _ _ _); first | apply LHas.here | apply LHas.next); conv => whnf)
    | ((first | (with_reducible refine And.intro ?_ ?_) | refine And.intro ?_ ?_); (focus (first | (show KeepX _ _ _; first | (with_reducible exact KeepX.refl) | (apply keepX_set InL.here; ((try show LHas _ _ _); repeat (with_reducible show LHas _ _ _); first | apply LHas.here | apply LHas.next); rfl)) | (show NotX _ _ _; repeat first | exact NotX.nil | (refine NotX.cons ?_; ((try show LHas _ _ _); repeat (with_reducible show LHas _ _ _); first | apply LHas.here | apply LHas.next); ((try show LHas _ _ _); repeat (with_reducible show LHas _ _ _); first | apply LHas.here | apply LHas.next))) | exact T.side)); conv => whnf)
    | (show LCall _ _ _ _ _ _; first | (apply LCall.upd (next_c t _ _ ht _); ((try show LHas _ _ _); repeat (with_reducible show LHas _ _ _); first | apply LHas.here | apply LHas.next); refine And.intro rfl ?_; conv => whnf) | (apply LCall.eq; (focus (repeat first | (apply cons_congr; (focus (first | exact sl_bv rfl | exact sl_bv (by first | (simp; done) | (simp; (exact T.num))) | exact rfl))) | exact rfl)); first | (apply LCall.upd (next_c t _ _ ht _); ((try show LHas _ _ _); repeat (with_reducible show LHas _ _ _); first | apply LHas.here | apply LHas.next); refine And.intro rfl ?_; conv => whnf)))
    | (show ABr _ _ _; first | (refine ABr.tt ?_; conv => whnf) | (refine ABr.ff ?_; conv => whnf) | (refine ABr.byN ?_) | ((with_reducible refine ABr.neqT (by assumption) ?_); conv => whnf) | ((with_reducible refine ABr.neqF (by assumption) ?_); conv => whnf) | ((with_reducible refine ABr.neq (fun h => ?_) (fun h => ?_)) <;> first | (exfalso; omega) | conv => whnf) | (refine ABr.byT (by with_reducible assumption) ?_; conv => whnf) | (refine ABr.byF (by with_reducible assumption) ?_; conv => whnf) | ((with_reducible refine ABr.decT rfl ?_); conv => whnf) | ((with_reducible refine ABr.decT (by assumption) ?_); conv => whnf) | ((with_reducible refine ABr.decF (by assumption) ?_); conv => whnf) | (refine ABr.dec (fun h => ?_) (fun h => ?_) <;> first | (exfalso; omega) | conv => whnf) | (refine ABr.gen (fun h => ?_) (fun h => ?_) <;> conv => whnf))
    | (show ACell _ _ _; first | (refine ACell.elem (l := [0, 1, 160, 65535, 3000]) (f := iAV) 0 ?_ ?_; (focus (first | exact T.side)); conv => whnf) | (refine ACell.cell 0 ?_ ?_; (focus (first | exact T.side)); conv => whnf) | (refine ACell.mk ?_; conv => whnf))
    | (show AList _ _; first | (refine AList.app ?_ ?_; (focus (first | exact T.side)); conv => whnf) | (refine AList.set (x := b8 _) (bAV_b8 _).symm ?_ ?_; (focus (first | exact T.side)); conv => whnf) | (refine AList.set (f := iAV) rfl ?_ ?_; (focus (first | exact T.side)); conv => whnf) | (refine AList.part ?_; conv => whnf) | (refine AList.force ?_; (conv => whnf); refine Lit.mk ?_; conv => whnf) | (refine AList.full ?_ ?_; (focus (first | exact Nat.le_of_ble_eq_true rfl | (simp; done) | (simp; omega))); conv => whnf) | (refine AList.mk ?_; conv => whnf))
    | (refine LFresh.mk fun r => ?_; conv => whnf)
    | (show SWpL _ _ _ _ _ _ _; first | (apply SWpL.drawX tyOk mixed (id := 3) [[], [], [1], [0, 2, 1], [3, 0, 2, 1], [], [5, 2, 1], [4, 3, 0, 2, 1, 6, 5], [7, 4, 3, 0, 2, 1, 6, 5]] [4, 6] [1, 5, 2, 6, 0, 3, 4, 7, 8] [p] (by kernel_rfl); conv => whnf))
    | (show KeepL _ _ _; first | (with_reducible exact KeepL.refl) | (refine KeepL.cons ?_; ((try show LHas _ _ _); repeat (with_reducible show LHas _ _ _); first | apply LHas.here | apply LHas.next); ((try show LHas _ _ _); repeat (with_reducible show LHas _ _ _); first | apply LHas.here | apply LHas.next); refine And.intro rfl ?_) | exact KeepL.nil)
    | (show InL _ _; first | exact InL.here | refine InL.next ?_)
    | (show False; (exact T.num))
    | exact Nm.b 0
  all_goals (try dsimp only)
  all_goals (refine RetL.val ?_ ?_; rotate_left; (focus ((repeat' first | exact LSub.nil | (with_reducible exact LSub.refl) | (apply LSub.cons; ((try show LHas _ _ _); repeat (with_reducible show LHas _ _ _); first | apply LHas.here | apply LHas.next); refine And.intro ?_ ?_; (focus (try (first | (with_reducible rfl) | (refine congrArg (Pl.mk _) ?_; (first | rfl | (simp; done))) | rfl | (with_reducible refine congrArg (Pl.mk _) ?_)))))))))
  · unfold dydA; rewrite [if_pos h]; rfl
  · unfold dydR; simp [h, iAV, adv]
  · unfold dydA; rewrite [if_neg h]; rfl
  · unfold dydR; simp only [if_neg h]; rfl
end Go.Proofs.Ytnlpjbedkdhlbaa
