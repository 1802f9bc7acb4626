import Derived.Test.YtdpfcpkedaolfaaDoorMade2
namespace Go.Proofs.YtdpfcpkedaolfaaDoor
open Go.RowKit
set_option linter.all false
variable {G : Nat → AV}
/-- made.Some: the bytes, the place behind them. -/
def someR (t : List Int) (a : Nat) (most : Int) : List UInt8 := b8 (nextR t a 256) :: bytesL t (adv t a 2) (manyR t (adv t a 1) (iarith .sub .i64 most 1))
def someA (t : List Int) (a : Nat) (most : Int) : Nat := adv t (adv t a 2) (manyR t (adv t a 1) (iarith .sub .i64 most 1))
theorem dsome_c (t : List Int) (a : Nat) (most : Int) (h0 : 1 ≤ most) (h1 : most ≤ 1000) (ht : t.length ≤ 400) (p : Nm) : LSpec Tryd.prog G 16 [.ptr p 0, iAV most] [(p, dice t a)] (fun _ => (bv (someR t a most), [(p, dice t (someA t a most))])) := by
  have hm : iarith .sub .i64 most 1 = most - 1 := by (exact T.num)
  have hb := nextR_lt t (nextA t a) (iarith .add .i64 (iarith .sub .i64 most 1) 1) (by (exact T.num)) (by (exact T.num))
  have hN : manyR t (nextA t a) (iarith .sub .i64 most 1) ≤ 1000 := by unfold manyR; (exact T.num)
  refine LSpec.introL tyOk Tryd.func16 rfl (by kernel_rfl) (by simp) (fun q => ⟨by simp, by simp⟩) ?_
  refine AWpL.sound tyOk _ _ _ _ ?_
  conv => whnf
  repeat' first
    | (show LHas _ _ _; ((try show LHas _ _ _); repeat (with_reducible show LHas _ _ _); first | apply LHas.here | apply LHas.next); conv => whnf)
    | (refine And.intro ?_ ?_; (focus (first | exact T.side)); conv => whnf)
    | (show LCall _ _ _ _ _ _; first | (apply LCall.upd (next_c t _ _ ht _); ((try show LHas _ _ _); repeat (with_reducible show LHas _ _ _); first | apply LHas.here | apply LHas.next); refine And.intro rfl ?_; conv => whnf) | (apply LCall.upd (dbytes_c t _ _ (by (exact T.num)) (by (exact T.num)) ht _); ((try show LHas _ _ _); repeat (with_reducible show LHas _ _ _); first | apply LHas.here | apply LHas.next); refine And.intro rfl ?_; conv => whnf) | (apply LCall.eq; (focus (repeat first | (apply cons_congr; (focus (first | exact sl_bv rfl | exact sl_bv (by first | (simp; done) | (simp; (exact T.num))) | exact rfl))) | exact rfl)); first | (apply LCall.upd (next_c t _ _ ht _); ((try show LHas _ _ _); repeat (with_reducible show LHas _ _ _); first | apply LHas.here | apply LHas.next); refine And.intro rfl ?_; conv => whnf) | (apply LCall.upd (dbytes_c t _ _ (by (exact T.num)) (by (exact T.num)) ht _); ((try show LHas _ _ _); repeat (with_reducible show LHas _ _ _); first | apply LHas.here | apply LHas.next); refine And.intro rfl ?_; conv => whnf)))
    | (show ABr _ _ _; first | (refine ABr.tt ?_; conv => whnf) | (refine ABr.ff ?_; conv => whnf) | (refine ABr.byN ?_) | (refine ABr.byT (by with_reducible assumption) ?_; conv => whnf) | (refine ABr.byF (by with_reducible assumption) ?_; conv => whnf) | ((with_reducible refine ABr.decT rfl ?_); conv => whnf) | ((with_reducible refine ABr.decT (by assumption) ?_); conv => whnf) | ((with_reducible refine ABr.decF (by assumption) ?_); conv => whnf) | (refine ABr.dec (fun h => ?_) (fun h => ?_) <;> first | (exfalso; omega) | conv => whnf) | (refine ABr.gen (fun h => ?_) (fun h => ?_) <;> conv => whnf))
    | (show ACell _ _ _; first | (refine ACell.cell 0 ?_ ?_; (focus (first | exact T.side)); conv => whnf) | (refine ACell.mk ?_; conv => whnf))
    | (show AList _ _; first | (refine AList.app ?_ ?_; (focus (first | exact T.side)); conv => whnf) | (refine AList.set (x := b8 _) (bAV_b8 _).symm ?_ ?_; (focus (first | exact T.side)); conv => whnf) | (refine AList.set (f := iAV) rfl ?_ ?_; (focus (first | exact T.side)); conv => whnf) | (refine AList.part ?_; conv => whnf) | (refine AList.force ?_; (conv => whnf); refine Lit.mk ?_; conv => whnf) | (refine AList.full ?_ ?_; (focus (first | exact Nat.le_of_ble_eq_true rfl | (simp; done) | (simp; omega))); conv => whnf) | (refine AList.mk ?_; conv => whnf))
    | (refine LFresh.mk fun r => ?_; conv => whnf)
    | (show KeepL _ _ _; first | (refine KeepL.cons ?_; ((try show LHas _ _ _); repeat (with_reducible show LHas _ _ _); first | apply LHas.here | apply LHas.next); ((try show LHas _ _ _); repeat (with_reducible show LHas _ _ _); first | apply LHas.here | apply LHas.next); refine And.intro rfl ?_) | exact KeepL.nil)
    | (show InL _ _; first | exact InL.here | refine InL.next ?_)
    | (show False; (exact T.num))
    | (refine ⟨_, rfl, rfl, ?_⟩; conv => whnf)
  all_goals (try dsimp only)
  (refine RetL.rowF ?_; ((try show LHas _ _ _); repeat (with_reducible show LHas _ _ _); first | apply LHas.here | apply LHas.next); refine And.intro ?_ (And.intro ?_ ?_); rotate_left; rotate_left; (focus ((repeat' first | exact LSub.nil | (with_reducible exact LSub.refl) | (apply LSub.cons; ((try show LHas _ _ _); repeat (with_reducible show LHas _ _ _); first | apply LHas.here | apply LHas.next); refine And.intro ?_ ?_; (focus (try (first | (with_reducible rfl) | (refine congrArg (Pl.mk _) ?_; (first | rfl | (simp; done))) | rfl | (with_reducible refine congrArg (Pl.mk _) ?_)))))))))
  · simp [someR, bAV_b8, adv]
  · simp [someR, adv]; omega
def oddR (t : List Int) (a : Nat) (k : Ky) : Ky :=
  if nextR t a 5 = 0 then { k with s := k.s.take (nextR t (adv t a 1) 32).toNat }
  else if nextR t a 5 = 1 then { k with g := k.g ++ [1] }
  else if nextR t a 5 = 2 then { k with n := [-1, 4294967296, 4294967295].getD (nextR t (adv t a 1) 3).toNat 0 }
  else if nextR t a 5 = 3 then { k with b := [-1, 255, 256].getD (nextR t (adv t a 1) 3).toNat 0 }
  else { k with d := iarith .sub .i64 (nextR t (adv t a 1) 4) 1 }
def oddA (t : List Int) (a : Nat) : Nat := if nextR t a 5 = 1 then adv t a 1 else adv t a 2
theorem doddkey_c (t : List Int) (a : Nat) (k : Ky) (hs : 32 ≤ k.s.length) (hg : k.g.length ≤ 4000) (ht : t.length ≤ 400) (p : Nm) : LSpec Tryd.prog G 19 [.ptr p 0, k.av] [(p, dice t a)] (fun _ => ((oddR t a k).av, [(p, dice t (oddA t a))])) := by
  have hb1 := nextR_lt t (nextA t a) 32 (by decide) (by decide)
  have hb2 := nextR_lt t (nextA t a) 3 (by decide) (by decide)
  refine LSpec.introL tyOk Tryd.func19 rfl (by kernel_rfl) (by simp) (fun q => ⟨by simp, by simp⟩) ?_
  refine AWpL.sound tyOk _ _ _ _ ?_
  conv => whnf
  repeat' first
    | (show LHas _ _ _; ((try show LHas _ _ _); repeat (with_reducible show LHas _ _ _); first | apply LHas.here | apply LHas.next); conv => whnf)
    | (refine And.intro ?_ ?_; (focus (first | exact T.side)); conv => whnf)
    | (show LCall _ _ _ _ _ _; first | (apply LCall.upd (next_c t _ _ ht _); ((try show LHas _ _ _); repeat (with_reducible show LHas _ _ _); first | apply LHas.here | apply LHas.next); refine And.intro rfl ?_; conv => whnf) | (apply LCall.eq; (focus (repeat first | (apply cons_congr; (focus (first | exact sl_bv rfl | exact sl_bv (by first | (simp; done) | (simp; (exact T.num))) | exact rfl))) | exact rfl)); first | (apply LCall.upd (next_c t _ _ ht _); ((try show LHas _ _ _); repeat (with_reducible show LHas _ _ _); first | apply LHas.here | apply LHas.next); refine And.intro rfl ?_; conv => whnf)))
    | (show ABr _ _ _; first | (refine ABr.tt ?_; conv => whnf) | (refine ABr.ff ?_; conv => whnf) | (refine ABr.byN ?_) | ((with_reducible refine ABr.eqlT (by assumption) ?_); conv => whnf) | ((with_reducible refine ABr.eqlF (by assumption) ?_); conv => whnf) | ((with_reducible refine ABr.eql (fun h => ?_) (fun h => ?_)) <;> first | (exfalso; omega) | conv => whnf) | (refine ABr.byT (by with_reducible assumption) ?_; conv => whnf) | (refine ABr.byF (by with_reducible assumption) ?_; conv => whnf) | ((with_reducible refine ABr.decT rfl ?_); conv => whnf) | ((with_reducible refine ABr.decT (by assumption) ?_); conv => whnf) | ((with_reducible refine ABr.decF (by assumption) ?_); conv => whnf) | (refine ABr.dec (fun h => ?_) (fun h => ?_) <;> first | (exfalso; omega) | conv => whnf) | (refine ABr.gen (fun h => ?_) (fun h => ?_) <;> conv => whnf))
    | (show ACell _ _ _; first | (refine ACell.elem (l := [-1, 4294967296, 4294967295]) (f := iAV) 0 ?_ ?_; (focus (first | exact T.side)); conv => whnf) | (refine ACell.elem (l := [-1, 255, 256]) (f := iAV) 0 ?_ ?_; (focus (first | exact T.side)); conv => whnf) | (refine ACell.cell 0 ?_ ?_; (focus (first | exact T.side)); conv => whnf) | (refine ACell.mk ?_; conv => whnf))
    | (show AList _ _; first | (refine AList.app ?_ ?_; (focus (first | exact T.side)); conv => whnf) | (refine AList.set (x := b8 _) (bAV_b8 _).symm ?_ ?_; (focus (first | exact T.side)); conv => whnf) | (refine AList.set (f := iAV) rfl ?_ ?_; (focus (first | exact T.side)); conv => whnf) | (refine AList.part ?_; conv => whnf) | (refine AList.force ?_; (conv => whnf); refine Lit.mk ?_; conv => whnf) | (refine AList.full ?_ ?_; (focus (first | exact Nat.le_of_ble_eq_true rfl | (simp; done) | (simp; omega))); conv => whnf) | (refine AList.mk ?_; conv => whnf))
    | (refine LFresh.mk fun r => ?_; conv => whnf)
    | (show SWpL _ _ _ _ _ _ _; first | (apply SWpL.draw tyOk mixed (id := 4) [[], [0], [], [2], [1, 0, 3, 2], [0, 1, 2, 3, 4], [5, 0, 1, 2, 3, 4]] [1, 3] [0, 1, 2, 3, 4, 5, 6] [_] (by kernel_rfl); conv => whnf) | (apply SWpL.draw tyOk mixed (id := 4) [[], [0], [], [2], [1, 0, 3, 2], [0, 1, 2, 3, 4], [5, 0, 1, 2, 3, 4]] [1, 3] [0, 1, 2, 3, 4, 5, 6] [] (by kernel_rfl); conv => whnf))
    | (show KeepL _ _ _; first | (refine KeepL.cons ?_; ((try show LHas _ _ _); repeat (with_reducible show LHas _ _ _); first | apply LHas.here | apply LHas.next); ((try show LHas _ _ _); repeat (with_reducible show LHas _ _ _); first | apply LHas.here | apply LHas.next); refine And.intro rfl ?_) | exact KeepL.nil)
    | (show InL _ _; first | exact InL.here | refine InL.next ?_)
    | (refine dec_yes ?_ ?_; (focus (first | exact .inl rfl | (exact T.num))); conv => whnf)
    | (refine dec_no ?_ ?_; (focus (exact T.num)); conv => whnf)
    | (refine dec_both (fun h => ?_) (fun h => ?_) <;> conv => whnf)
    | (show False; (exact T.num))
    | exact Nm.b 0
  all_goals (try dsimp only)
  · (refine RetL.val ?_ ?_; rotate_left; (focus ((repeat' first | exact LSub.nil | (with_reducible exact LSub.refl) | (apply LSub.cons; ((try show LHas _ _ _); repeat (with_reducible show LHas _ _ _); first | apply LHas.here | apply LHas.next); refine And.intro ?_ ?_; (focus (try (first | (with_reducible rfl) | (refine congrArg (Pl.mk _) ?_; (first | rfl | (simp; done))) | rfl | (with_reducible refine congrArg (Pl.mk _) ?_)))))))))
    · simp [oddA, h, adv]
    · have hl : (nextR t (nextA t a) 32).toNat ≤ k.s.length := by omega
      simp [oddR, h, Ky.av, bv, adv, iAV, Nat.min_eq_left hl]
  · refine RetL.frz [r] (LF.agg ⟨LF.eq ?_, LF.row InL.here ?_, LF.eq ?_, LF.eq ?_, LF.eq ?_, trivial⟩) ?_
    · simp [oddR, h, bv]
    · apply LHas.here
      simp [oddR, h, bAV]
    · simp [oddR, h, iAV]
    · simp [oddR, h, iAV]
    · simp [oddR, h, iAV]
    · apply LHas.here
      (repeat' first | exact LSub.nil | (with_reducible exact LSub.refl) | (apply LSub.cons; ((try show LHas _ _ _); repeat (with_reducible show LHas _ _ _); first | apply LHas.here | apply LHas.next); refine And.intro ?_ ?_; (focus (try (first | (with_reducible rfl) | (refine congrArg (Pl.mk _) ?_; (first | rfl | (simp; done))) | rfl | (with_reducible refine congrArg (Pl.mk _) ?_))))))
      simp [oddA, h, adv]
  · (refine RetL.val ?_ ?_; rotate_left; (focus ((repeat' first | exact LSub.nil | (with_reducible exact LSub.refl) | (apply LSub.cons; ((try show LHas _ _ _); repeat (with_reducible show LHas _ _ _); first | apply LHas.here | apply LHas.next); refine And.intro ?_ ?_; (focus (try (first | (with_reducible rfl) | (refine congrArg (Pl.mk _) ?_; (first | rfl | (simp; done))) | rfl | (with_reducible refine congrArg (Pl.mk _) ?_)))))))))
    · simp [oddA, h, adv]
    · simp [oddR, h, Ky.av, bv, adv, iAV]
  · (refine RetL.val ?_ ?_; rotate_left; (focus ((repeat' first | exact LSub.nil | (with_reducible exact LSub.refl) | (apply LSub.cons; ((try show LHas _ _ _); repeat (with_reducible show LHas _ _ _); first | apply LHas.here | apply LHas.next); refine And.intro ?_ ?_; (focus (try (first | (with_reducible rfl) | (refine congrArg (Pl.mk _) ?_; (first | rfl | (simp; done))) | rfl | (with_reducible refine congrArg (Pl.mk _) ?_)))))))))
    · simp [oddA, h, adv]
    · simp [oddR, h, Ky.av, bv, adv, iAV]
  · (refine RetL.val ?_ ?_; rotate_left; (focus ((repeat' first | exact LSub.nil | (with_reducible exact LSub.refl) | (apply LSub.cons; ((try show LHas _ _ _); repeat (with_reducible show LHas _ _ _); first | apply LHas.here | apply LHas.next); refine And.intro ?_ ?_; (focus (try (first | (with_reducible rfl) | (refine congrArg (Pl.mk _) ?_; (first | rfl | (simp; done))) | rfl | (with_reducible refine congrArg (Pl.mk _) ?_)))))))))
    · simp [oddA, *, adv]
    · simp [oddR, *, Ky.av, bv, adv, iAV]
end Go.Proofs.YtdpfcpkedaolfaaDoor
