import Derived.Test.YtnlpjbedkdhlbaaMade5
import Derived.Test.YtnlpjbedkdhlbaaFmt1
namespace Go.Proofs.Ytnlpjbedkdhlbaa
open Go.RowKit
set_option linter.all false
variable {G : Nat → AV}
/-- made.Small -/
def smN (t : List Int) (a : Nat) : Nat := manyR t (adv t a 2) 12
def smF (t : List Int) (a : Nat) : Int := nextR t (adv t (adv t a 3) (smN t a)) 4
def smH (t : List Int) (a : Nat) : Hd := hdrR t (nextA t (adv t (adv t a 3) (smN t a))) (smF t a)
def sm2 (t : List Int) (a : Nat) : Nat := hdrA t (nextA t (adv t (adv t a 3) (smN t a))) (smF t a)
def smfm (t : List Int) (a : Nat) : Int := iarith .add .i64 1 (nextR t (adv t a 1) 6)
def smcx (t : List Int) (a : Nat) : Int := [0, 0, 1, 15].getD (0 + (nextR t a 4).toNat * 1) 0
def smpl (t : List Int) (a : Nat) : List UInt8 := bytesL t (adv t a 3) (smN t a)
@[reducible] def Hd.z (k : Int) : Hd := ⟨k, 0, 0, 0, 0, 0, 0, 0, 0, 0, 0, 0, 0, 0, 0⟩
def smallM (t : List Int) (a : Nat) : Sm :=
  if smfm t a = 6 then ⟨0, smfm t a, 0, 0, 0, 0, 0, Hd.z 0, ⟨0, 0⟩, 0, smpl t a⟩
  else if smfm t a = 4 then ⟨smcx t a, smfm t a, 0, 0, 0, 0, 0, { smH t a with fr := 0, to := 0, fp := 0, tp := 0, sr := 0 }, dydR t (sm2 t a) (smH t a).k, nextR t (dydA t (sm2 t a) (smH t a).k) 256, smpl t a⟩
  else if smfm t a = 5 then ⟨smcx t a, smfm t a, 0, 0, 0, 0, 0, smH t a, dydR t (sm2 t a) (smH t a).k, nextR t (dydA t (sm2 t a) (smH t a).k) 256, smpl t a⟩
  else if smfm t a = 1 then ⟨smcx t a, smfm t a, nextR t (sm2 t a) 16, 0, 0, 0, (smH t a).ck, Hd.z (smH t a).k, ⟨0, 0⟩, nextR t (adv t (sm2 t a) 1) 8, smpl t a⟩
  else if smfm t a = 2 then
    (if (smH t a).k = 2 then ⟨smcx t a, smfm t a, nextR t (sm2 t a) 32, nextR t (adv t (sm2 t a) 2) 65536, nextR t (adv t (sm2 t a) 3) 2, 0, (smH t a).ck, Hd.z (smH t a).k, ⟨0, 0⟩, nextR t (adv t (sm2 t a) 1) 128, smpl t a⟩
      else ⟨smcx t a, smfm t a, nextR t (sm2 t a) 32, 0, 0, 0, (smH t a).ck, Hd.z (smH t a).k, ⟨0, 0⟩, nextR t (adv t (sm2 t a) 1) 128, smpl t a⟩)
  else if (smH t a).k = 2 then ⟨smcx t a, smfm t a, nextR t (adv t (sm2 t a) 2) 256, wordR t (adv t (sm2 t a) 3) 4294967295, nextR t (adv t (sm2 t a) 5) 2, nextR t (adv t (sm2 t a) 6) 65536, (smH t a).ck, Hd.z (smH t a).k, ⟨0, 0⟩, nextR t (adv t (sm2 t a) 1) 256, smpl t a⟩
    else ⟨smcx t a, smfm t a, nextR t (sm2 t a) 65536, 0, 0, 0, (smH t a).ck, Hd.z (smH t a).k, ⟨0, 0⟩, nextR t (adv t (sm2 t a) 1) 256, smpl t a⟩
def smallA (t : List Int) (a : Nat) : Nat :=
  if smfm t a = 6 then sm2 t a else if smfm t a = 4 then nextA t (dydA t (sm2 t a) (smH t a).k) else if smfm t a = 5 then nextA t (dydA t (sm2 t a) (smH t a).k)
  else if smfm t a = 1 then adv t (sm2 t a) 2
  else if smfm t a = 2 then (if (smH t a).k = 2 then adv t (sm2 t a) 4 else adv t (sm2 t a) 2)
  else if (smH t a).k = 2 then adv t (sm2 t a) 7 else adv t (sm2 t a) 2
attribute [local irreducible] hdrR hdrA dydR dydA bytesL manyR nextR nextA
set_option maxHeartbeats 2000000 in
theorem dsmall_c (t : List Int) (a : Nat) (ht : t.length ≤ 400) (p : Nm) : LSpec Try.prog G 18 [.ptr p 0] [(p, dice t a)] (fun _ => ((smallM t a).av, [(p, dice t (smallA t a))])) := by
  have h4 := nextR_lt t a 4 (by decide) (by decide)
  refine LSpec.introL tyOk Try.func18 rfl (by kernel_rfl) (by simp) (fun q => ⟨by simp, by simp⟩) ?_
  refine AWpL.sound tyOk [] _ _ _ _ ?_
  conv => whnf
  repeat' first
    | (show LHas _ _ _; ((try show LHas _ _ _); repeat (with_reducible show LHas _ _ _); first | apply LHas.here | apply LHas.next); conv => whnf)
    | ((first | (with_reducible refine And.intro ?_ ?_) | refine And.intro ?_ ?_); (focus (first | (show KeepX _ _ _; first | (with_reducible exact KeepX.refl) | (apply keepX_set InL.here; ((try show LHas _ _ _); repeat (with_reducible show LHas _ _ _); first | apply LHas.here | apply LHas.next); rfl)) | (show NotX _ _ _; repeat first | exact NotX.nil | (refine NotX.cons ?_; ((try show LHas _ _ _); repeat (with_reducible show LHas _ _ _); first | apply LHas.here | apply LHas.next); ((try show LHas _ _ _); repeat (with_reducible show LHas _ _ _); first | apply LHas.here | apply LHas.next))) | exact T.side)); conv => whnf)
    | (show LCall _ _ _ _ _ _; first | (apply LCall.upd (next_c t _ _ ht _); ((try show LHas _ _ _); repeat (with_reducible show LHas _ _ _); first | apply LHas.here | apply LHas.next); refine And.intro rfl ?_; conv => whnf) | (apply LCall.upd (dbytes_c t _ _ (by decide) (by decide) ht _); ((try show LHas _ _ _); repeat (with_reducible show LHas _ _ _); first | apply LHas.here | apply LHas.next); refine And.intro rfl ?_; conv => whnf) | (apply LCall.upd (dheader_c t _ _ ht _); ((try show LHas _ _ _); repeat (with_reducible show LHas _ _ _); first | apply LHas.here | apply LHas.next); refine And.intro rfl ?_; conv => whnf) | (apply LCall.upd (ddynamic_c t _ _ ht _); ((try show LHas _ _ _); repeat (with_reducible show LHas _ _ _); first | apply LHas.here | apply LHas.next); refine And.intro rfl ?_; conv => whnf) | (apply LCall.upd (word_c t _ _ ht _); ((try show LHas _ _ _); repeat (with_reducible show LHas _ _ _); first | apply LHas.here | apply LHas.next); refine And.intro rfl ?_; conv => whnf) | (apply LCall.eq; (focus (repeat first | (apply cons_congr; (focus (first | exact sl_bv rfl | exact sl_bv (by first | (simp; done) | (simp; (exact T.num))) | exact rfl))) | exact rfl)); first | (apply LCall.upd (next_c t _ _ ht _); ((try show LHas _ _ _); repeat (with_reducible show LHas _ _ _); first | apply LHas.here | apply LHas.next); refine And.intro rfl ?_; conv => whnf) | (apply LCall.upd (dbytes_c t _ _ (by decide) (by decide) ht _); ((try show LHas _ _ _); repeat (with_reducible show LHas _ _ _); first | apply LHas.here | apply LHas.next); refine And.intro rfl ?_; conv => whnf) | (apply LCall.upd (dheader_c t _ _ ht _); ((try show LHas _ _ _); repeat (with_reducible show LHas _ _ _); first | apply LHas.here | apply LHas.next); refine And.intro rfl ?_; conv => whnf) | (apply LCall.upd (ddynamic_c t _ _ ht _); ((try show LHas _ _ _); repeat (with_reducible show LHas _ _ _); first | apply LHas.here | apply LHas.next); refine And.intro rfl ?_; conv => whnf) | (apply LCall.upd (word_c t _ _ ht _); ((try show LHas _ _ _); repeat (with_reducible show LHas _ _ _); first | apply LHas.here | apply LHas.next); refine And.intro rfl ?_; conv => whnf)))
    | (show ABr _ _ _; first | (refine ABr.tt ?_; conv => whnf) | (refine ABr.ff ?_; conv => whnf) | (refine ABr.byN ?_) | ((with_reducible refine ABr.eqlT (by assumption) ?_); conv => whnf) | ((with_reducible refine ABr.eqlF (by assumption) ?_); conv => whnf) | ((with_reducible refine ABr.eql (fun h => ?_) (fun h => ?_)) <;> first | (exfalso; omega) | conv => whnf) | (refine ABr.byT (by with_reducible assumption) ?_; conv => whnf) | (refine ABr.byF (by with_reducible assumption) ?_; conv => whnf) | ((with_reducible refine ABr.decT rfl ?_); conv => whnf) | ((with_reducible refine ABr.decT (by assumption) ?_); conv => whnf) | ((with_reducible refine ABr.decF (by assumption) ?_); conv => whnf) | (refine ABr.dec (fun h => ?_) (fun h => ?_) <;> first | (exfalso; omega) | conv => whnf) | (refine ABr.gen (fun h => ?_) (fun h => ?_) <;> conv => whnf))
    | (show ACell _ _ _; first | (refine ACell.elem (l := [0, 0, 1, 15]) (f := iAV) 0 ?_ ?_; (focus (first | exact T.side)); conv => whnf) | (refine ACell.cell 0 ?_ ?_; (focus (first | exact T.side)); conv => whnf) | (refine ACell.mk ?_; conv => whnf))
    | (show AList _ _; first | (refine AList.app ?_ ?_; (focus (first | exact T.side)); conv => whnf) | (refine AList.set (x := b8 _) (bAV_b8 _).symm ?_ ?_; (focus (first | exact T.side)); conv => whnf) | (refine AList.set (f := iAV) rfl ?_ ?_; (focus (first | exact T.side)); conv => whnf) | (refine AList.part ?_; conv => whnf) | (refine AList.force ?_; (conv => whnf); refine Lit.mk ?_; conv => whnf) | (refine AList.full ?_ ?_; (focus (first | exact Nat.le_of_ble_eq_true rfl | (simp; done) | (simp; omega))); conv => whnf) | (refine AList.mk ?_; conv => whnf))
    | (refine LFresh.mk fun r => ?_; conv => whnf)
    | (show SWpL _ _ _ _ _ _ _; first | (apply SWpL.drawX tyOk mixed (id := 1) [[], [], [1], [0, 2, 1], [3, 0, 2, 1], [], [5, 2, 1], [6, 5, 2, 1], [], [8, 6, 5, 2, 1], [4, 3, 0, 2, 1, 7, 6, 5, 9, 8], [], [11, 10, 4, 3, 0, 2, 1, 7, 6, 5, 9, 8]] [4, 6, 9] [1, 5, 8, 2, 6, 7, 9, 0, 3, 4, 10, 11, 12] [p] (by kernel_rfl); conv => whnf) | (apply SWpL.drawX tyOk mixed (id := 10) [[], [], [], [2], [1, 3, 2], [], [5, 4, 1, 3, 2], [0], [7, 0, 6, 5, 4, 1, 3, 2], [0, 1, 2, 3, 4, 7, 8, 6, 5], [9, 0, 1, 2, 3, 4, 7, 8, 6, 5], [0, 1, 2, 3, 4, 5, 6, 7, 8, 9, 10], [11, 0, 1, 2, 3, 4, 5, 6, 7, 8, 9, 10]] [0, 4, 6] [0, 1, 2, 3, 5, 7, 4, 6, 8, 9, 10, 11, 12] [p] (by kernel_rfl); conv => whnf) | (apply SWpL.draw tyOk mixed (id := 14) [[], [0], [], [2], [0, 1], [4, 0, 1], [5, 4, 0, 1], [0, 1, 2, 3, 4, 5, 6], [7, 0, 1, 2, 3, 4, 5, 6]] [3, 6] [0, 1, 2, 3, 4, 5, 6, 7, 8] [_] (by kernel_rfl); conv => whnf))
    | (show KeepL _ _ _; first | (with_reducible exact KeepL.refl) | (refine KeepL.cons ?_; ((try show LHas _ _ _); repeat (with_reducible show LHas _ _ _); first | apply LHas.here | apply LHas.next); ((try show LHas _ _ _); repeat (with_reducible show LHas _ _ _); first | apply LHas.here | apply LHas.next); refine And.intro rfl ?_) | exact KeepL.nil)
    | (show InL _ _; first | exact InL.here | refine InL.next ?_)
    | (show False; (exact T.num))
    | exact Nm.b 0
  all_goals (try dsimp only)
  all_goals (refine RetL.val ?_ ?_; rotate_left; (focus ((repeat' first | exact LSub.nil | (with_reducible exact LSub.refl) | (apply LSub.cons; ((try show LHas _ _ _); repeat (with_reducible show LHas _ _ _); first | apply LHas.here | apply LHas.next); refine And.intro ?_ ?_; (focus (try (first | (with_reducible rfl) | (refine congrArg (Pl.mk _) ?_; (first | rfl | (simp; done))) | rfl | (with_reducible refine congrArg (Pl.mk _) ?_)))))))))
  all_goals first
    | (have h6 : smfm t a = 6 := (by assumption)
       (first | (unfold smallA; rewrite [if_pos h6]; rfl) | (unfold smallM; rewrite [if_pos h6]; rfl)))
    | (have h6 : ¬ smfm t a = 6 := (by assumption)
       have h4 : smfm t a = 4 := (by assumption)
       (first | (unfold smallA; rewrite [if_neg h6, if_pos h4]; rfl) | (unfold smallM; rewrite [if_neg h6, if_pos h4]; rfl)))
    | (have h6 : ¬ smfm t a = 6 := (by assumption)
       have h4 : ¬ smfm t a = 4 := (by assumption)
       have h5 : smfm t a = 5 := (by assumption)
       (first | (unfold smallA; rewrite [if_neg h6, if_neg h4, if_pos h5]; rfl) | (unfold smallM; rewrite [if_neg h6, if_neg h4, if_pos h5]; rfl)))
    | (have h6 : ¬ smfm t a = 6 := (by assumption)
       have h4 : ¬ smfm t a = 4 := (by assumption)
       have h5 : ¬ smfm t a = 5 := (by assumption)
       have h1 : smfm t a = 1 := (by assumption)
       (first | (unfold smallA; rewrite [if_neg h6, if_neg h4, if_neg h5, if_pos h1]; rfl) | (unfold smallM; rewrite [if_neg h6, if_neg h4, if_neg h5, if_pos h1]; rfl)))
    | (have h6 : ¬ smfm t a = 6 := (by assumption)
       have h4 : ¬ smfm t a = 4 := (by assumption)
       have h5 : ¬ smfm t a = 5 := (by assumption)
       have h1 : ¬ smfm t a = 1 := (by assumption)
       have h2 : smfm t a = 2 := (by assumption)
       have hk : (smH t a).k = 2 := (by assumption)
       (first | (unfold smallA; rewrite [if_neg h6, if_neg h4, if_neg h5, if_neg h1, if_pos h2, if_pos hk]; rfl) | (unfold smallM; rewrite [if_neg h6, if_neg h4, if_neg h5, if_neg h1, if_pos h2, if_pos hk]; rfl)))
    | (have h6 : ¬ smfm t a = 6 := (by assumption)
       have h4 : ¬ smfm t a = 4 := (by assumption)
       have h5 : ¬ smfm t a = 5 := (by assumption)
       have h1 : ¬ smfm t a = 1 := (by assumption)
       have h2 : smfm t a = 2 := (by assumption)
       have hk : ¬ (smH t a).k = 2 := (by assumption)
       (first | (unfold smallA; rewrite [if_neg h6, if_neg h4, if_neg h5, if_neg h1, if_pos h2, if_neg hk]; rfl) | (unfold smallM; rewrite [if_neg h6, if_neg h4, if_neg h5, if_neg h1, if_pos h2, if_neg hk]; rfl)))
    | (have h6 : ¬ smfm t a = 6 := (by assumption)
       have h4 : ¬ smfm t a = 4 := (by assumption)
       have h5 : ¬ smfm t a = 5 := (by assumption)
       have h1 : ¬ smfm t a = 1 := (by assumption)
       have h2 : ¬ smfm t a = 2 := (by assumption)
       have hk : (smH t a).k = 2 := (by assumption)
       (first | (unfold smallA; rewrite [if_neg h6, if_neg h4, if_neg h5, if_neg h1, if_neg h2, if_pos hk]; rfl) | (unfold smallM; rewrite [if_neg h6, if_neg h4, if_neg h5, if_neg h1, if_neg h2, if_pos hk]; rfl)))
    | (have h6 : ¬ smfm t a = 6 := (by assumption)
       have h4 : ¬ smfm t a = 4 := (by assumption)
       have h5 : ¬ smfm t a = 5 := (by assumption)
       have h1 : ¬ smfm t a = 1 := (by assumption)
       have h2 : ¬ smfm t a = 2 := (by assumption)
       have hk : ¬ (smH t a).k = 2 := (by assumption)
       (first | (unfold smallA; rewrite [if_neg h6, if_neg h4, if_neg h5, if_neg h1, if_neg h2, if_neg hk]; rfl) | (unfold smallM; rewrite [if_neg h6, if_neg h4, if_neg h5, if_neg h1, if_neg h2, if_neg hk]; rfl)))
    | trace_state
end Go.Proofs.Ytnlpjbedkdhlbaa
