import Derived.Test.YtnlpjbedkdhlbaaMade6
namespace Go.Proofs.Ytnlpjbedkdhlbaa
open Go.RowKit
set_option linter.all false
variable {G : Nat → AV}
/-- made.OddHeader -/
def ohv (t : List Int) (a : Nat) : Int := [-1, 0, 1, 2, 127, 128, 255, 256, 65535, 65536, 4294967296, 4611686018427387904].getD (0 + (nextR t a 12).toNat * 1) 0
def ohs (t : List Int) (a : Nat) : Int := nextR t (adv t a 1) 15
def oddH (t : List Int) (a : Nat) (h : Hd) : Hd :=
  if ohs t a = 0 then { h with k := ohv t a }
  else if ohs t a = 1 then { h with tos := ohv t a }
  else if ohs t a = 2 then { h with id := ohv t a }
  else if ohs t a = 3 then { h with fx := ohv t a }
  else if ohs t a = 4 then { h with ttl := ohv t a }
  else if ohs t a = 5 then { h with fr := ohv t a }
  else if ohs t a = 6 then { h with to := ohv t a }
  else if ohs t a = 7 then { h with fp := ohv t a }
  else if ohs t a = 8 then { h with tp := ohv t a }
  else if ohs t a = 9 then { h with ck := ohv t a }
  else if ohs t a = 10 then { h with mr := ohv t a }
  else if ohs t a = 11 then { h with ty := ohv t a }
  else if ohs t a = 12 then { h with sq := ohv t a }
  else if ohs t a = 13 then { h with tm := ohv t a }
  else { h with sr := ohv t a }
attribute [local irreducible] nextR nextA
set_option maxHeartbeats 1000000 in
theorem doddheader_c (t : List Int) (a : Nat) (x : Hd) (ht : t.length ≤ 400) (p : Nm) : LSpec Try.prog G 49 [.ptr p 0, x.av] [(p, dice t a)] (fun _ => ((oddH t a x).av, [(p, dice t (adv t a 2))])) := by
  have h12 := nextR_lt t a 12 (by decide) (by decide)
  refine LSpec.introL tyOk Try.func49 rfl (by kernel_rfl) (by simp) (fun q => ⟨by simp, by simp⟩) ?_
  refine AWpL.sound tyOk [] _ _ _ _ ?_
  conv => whnf
  repeat' first
    | (show LHas _ _ _; ((try show LHas _ _ _); repeat (with_reducible show LHas _ _ _); first | apply LHas.here | apply LHas.next); conv => whnf)
    | ((first | (with_reducible refine And.intro ?_ ?_) | refine And.intro ?_ ?_); (focus (first | exact T.side)); conv => whnf)
    | (show LCall _ _ _ _ _ _; first | (apply LCall.upd (next_c t _ _ ht _); ((try show LHas _ _ _); repeat (with_reducible show LHas _ _ _); first | apply LHas.here | apply LHas.next); refine And.intro rfl ?_; conv => whnf) | (apply LCall.eq; (focus (repeat first | (apply cons_congr; (focus (first | exact sl_bv rfl | exact sl_bv (by first | (simp; done) | (simp; (exact T.num))) | exact rfl))) | exact rfl)); first | (apply LCall.upd (next_c t _ _ ht _); ((try show LHas _ _ _); repeat (with_reducible show LHas _ _ _); first | apply LHas.here | apply LHas.next); refine And.intro rfl ?_; conv => whnf)))
    | (show ABr _ _ _; first | (refine ABr.tt ?_; conv => whnf) | (refine ABr.ff ?_; conv => whnf) | (refine ABr.byN ?_) | ((with_reducible refine ABr.eqlT (by assumption) ?_); conv => whnf) | ((with_reducible refine ABr.eqlF (by assumption) ?_); conv => whnf) | ((with_reducible refine ABr.eql (fun h => ?_) (fun h => ?_)) <;> first | (exfalso; omega) | conv => whnf) | (refine ABr.byT (by with_reducible assumption) ?_; conv => whnf) | (refine ABr.byF (by with_reducible assumption) ?_; conv => whnf) | ((with_reducible refine ABr.decT rfl ?_); conv => whnf) | ((with_reducible refine ABr.decT (by assumption) ?_); conv => whnf) | ((with_reducible refine ABr.decF (by assumption) ?_); conv => whnf) | (refine ABr.dec (fun h => ?_) (fun h => ?_) <;> first | (exfalso; omega) | conv => whnf) | (refine ABr.gen (fun h => ?_) (fun h => ?_) <;> conv => whnf))
    | (show ACell _ _ _; first | (refine ACell.elem (l := [-1, 0, 1, 2, 127, 128, 255, 256, 65535, 65536, 4294967296, 4611686018427387904]) (f := iAV) 0 ?_ ?_; (focus (first | exact T.side)); conv => whnf) | (refine ACell.cell 0 ?_ ?_; (focus (first | exact T.side)); conv => whnf) | (refine ACell.mk ?_; conv => whnf))
    | (show AList _ _; first | (refine AList.app ?_ ?_; (focus (first | exact T.side)); conv => whnf) | (refine AList.set (x := b8 _) (bAV_b8 _).symm ?_ ?_; (focus (first | exact T.side)); conv => whnf) | (refine AList.set (f := iAV) rfl ?_ ?_; (focus (first | exact T.side)); conv => whnf) | (refine AList.part ?_; conv => whnf) | (refine AList.force ?_; (conv => whnf); refine Lit.mk ?_; conv => whnf) | (refine AList.full ?_ ?_; (focus (first | exact Nat.le_of_ble_eq_true rfl | (simp; done) | (simp; omega))); conv => whnf) | (refine AList.mk ?_; conv => whnf))
    | (refine LFresh.mk fun r => ?_; conv => whnf)
    | (show KeepL _ _ _; first | (with_reducible exact KeepL.refl) | (refine KeepL.cons ?_; ((try show LHas _ _ _); repeat (with_reducible show LHas _ _ _); first | apply LHas.here | apply LHas.next); ((try show LHas _ _ _); repeat (with_reducible show LHas _ _ _); first | apply LHas.here | apply LHas.next); refine And.intro rfl ?_) | exact KeepL.nil)
    | (show InL _ _; first | exact InL.here | refine InL.next ?_)
    | (show False; (exact T.num))
  all_goals (try dsimp only)
  all_goals (refine RetL.val ?_ ?_; rotate_left; (focus ((repeat' first | exact LSub.nil | (with_reducible exact LSub.refl) | (apply LSub.cons; ((try show LHas _ _ _); repeat (with_reducible show LHas _ _ _); first | apply LHas.here | apply LHas.next); refine And.intro ?_ ?_; (focus (try (first | (with_reducible rfl) | (refine congrArg (Pl.mk _) ?_; (first | rfl | (simp; done))) | rfl | (with_reducible refine congrArg (Pl.mk _) ?_)))))))))
  all_goals first
    | rfl
    | (have h0 : ohs t a = 0 := (by assumption)
       unfold oddH; rewrite [if_pos h0]; rfl)
    | (have h0 : ¬ ohs t a = 0 := (by assumption)
       have h1 : ohs t a = 1 := (by assumption)
       unfold oddH; rewrite [if_neg h0, if_pos h1]; rfl)
    | (have h0 : ¬ ohs t a = 0 := (by assumption)
       have h1 : ¬ ohs t a = 1 := (by assumption)
       have h2 : ohs t a = 2 := (by assumption)
       unfold oddH; rewrite [if_neg h0, if_neg h1, if_pos h2]; rfl)
    | (have h0 : ¬ ohs t a = 0 := (by assumption)
       have h1 : ¬ ohs t a = 1 := (by assumption)
       have h2 : ¬ ohs t a = 2 := (by assumption)
       have h3 : ohs t a = 3 := (by assumption)
       unfold oddH; rewrite [if_neg h0, if_neg h1, if_neg h2, if_pos h3]; rfl)
    | (have h0 : ¬ ohs t a = 0 := (by assumption)
       have h1 : ¬ ohs t a = 1 := (by assumption)
       have h2 : ¬ ohs t a = 2 := (by assumption)
       have h3 : ¬ ohs t a = 3 := (by assumption)
       have h4 : ohs t a = 4 := (by assumption)
       unfold oddH; rewrite [if_neg h0, if_neg h1, if_neg h2, if_neg h3, if_pos h4]; rfl)
    | (have h0 : ¬ ohs t a = 0 := (by assumption)
       have h1 : ¬ ohs t a = 1 := (by assumption)
       have h2 : ¬ ohs t a = 2 := (by assumption)
       have h3 : ¬ ohs t a = 3 := (by assumption)
       have h4 : ¬ ohs t a = 4 := (by assumption)
       have h5 : ohs t a = 5 := (by assumption)
       unfold oddH; rewrite [if_neg h0, if_neg h1, if_neg h2, if_neg h3, if_neg h4, if_pos h5]; rfl)
    | (have h0 : ¬ ohs t a = 0 := (by assumption)
       have h1 : ¬ ohs t a = 1 := (by assumption)
       have h2 : ¬ ohs t a = 2 := (by assumption)
       have h3 : ¬ ohs t a = 3 := (by assumption)
       have h4 : ¬ ohs t a = 4 := (by assumption)
       have h5 : ¬ ohs t a = 5 := (by assumption)
       have h6 : ohs t a = 6 := (by assumption)
       unfold oddH; rewrite [if_neg h0, if_neg h1, if_neg h2, if_neg h3, if_neg h4, if_neg h5, if_pos h6]; rfl)
    | (have h0 : ¬ ohs t a = 0 := (by assumption)
       have h1 : ¬ ohs t a = 1 := (by assumption)
       have h2 : ¬ ohs t a = 2 := (by assumption)
       have h3 : ¬ ohs t a = 3 := (by assumption)
       have h4 : ¬ ohs t a = 4 := (by assumption)
       have h5 : ¬ ohs t a = 5 := (by assumption)
       have h6 : ¬ ohs t a = 6 := (by assumption)
       have h7 : ohs t a = 7 := (by assumption)
       unfold oddH; rewrite [if_neg h0, if_neg h1, if_neg h2, if_neg h3, if_neg h4, if_neg h5, if_neg h6, if_pos h7]; rfl)
    | (have h0 : ¬ ohs t a = 0 := (by assumption)
       have h1 : ¬ ohs t a = 1 := (by assumption)
       have h2 : ¬ ohs t a = 2 := (by assumption)
       have h3 : ¬ ohs t a = 3 := (by assumption)
       have h4 : ¬ ohs t a = 4 := (by assumption)
       have h5 : ¬ ohs t a = 5 := (by assumption)
       have h6 : ¬ ohs t a = 6 := (by assumption)
       have h7 : ¬ ohs t a = 7 := (by assumption)
       have h8 : ohs t a = 8 := (by assumption)
       unfold oddH; rewrite [if_neg h0, if_neg h1, if_neg h2, if_neg h3, if_neg h4, if_neg h5, if_neg h6, if_neg h7, if_pos h8]; rfl)
    | (have h0 : ¬ ohs t a = 0 := (by assumption)
       have h1 : ¬ ohs t a = 1 := (by assumption)
       have h2 : ¬ ohs t a = 2 := (by assumption)
       have h3 : ¬ ohs t a = 3 := (by assumption)
       have h4 : ¬ ohs t a = 4 := (by assumption)
       have h5 : ¬ ohs t a = 5 := (by assumption)
       have h6 : ¬ ohs t a = 6 := (by assumption)
       have h7 : ¬ ohs t a = 7 := (by assumption)
       have h8 : ¬ ohs t a = 8 := (by assumption)
       have h9 : ohs t a = 9 := (by assumption)
       unfold oddH; rewrite [if_neg h0, if_neg h1, if_neg h2, if_neg h3, if_neg h4, if_neg h5, if_neg h6, if_neg h7, if_neg h8, if_pos h9]; rfl)
    | (have h0 : ¬ ohs t a = 0 := (by assumption)
       have h1 : ¬ ohs t a = 1 := (by assumption)
       have h2 : ¬ ohs t a = 2 := (by assumption)
       have h3 : ¬ ohs t a = 3 := (by assumption)
       have h4 : ¬ ohs t a = 4 := (by assumption)
       have h5 : ¬ ohs t a = 5 := (by assumption)
       have h6 : ¬ ohs t a = 6 := (by assumption)
       have h7 : ¬ ohs t a = 7 := (by assumption)
       have h8 : ¬ ohs t a = 8 := (by assumption)
       have h9 : ¬ ohs t a = 9 := (by assumption)
       have h10 : ohs t a = 10 := (by assumption)
       unfold oddH; rewrite [if_neg h0, if_neg h1, if_neg h2, if_neg h3, if_neg h4, if_neg h5, if_neg h6, if_neg h7, if_neg h8, if_neg h9, if_pos h10]; rfl)
    | (have h0 : ¬ ohs t a = 0 := (by assumption)
       have h1 : ¬ ohs t a = 1 := (by assumption)
       have h2 : ¬ ohs t a = 2 := (by assumption)
       have h3 : ¬ ohs t a = 3 := (by assumption)
       have h4 : ¬ ohs t a = 4 := (by assumption)
       have h5 : ¬ ohs t a = 5 := (by assumption)
       have h6 : ¬ ohs t a = 6 := (by assumption)
       have h7 : ¬ ohs t a = 7 := (by assumption)
       have h8 : ¬ ohs t a = 8 := (by assumption)
       have h9 : ¬ ohs t a = 9 := (by assumption)
       have h10 : ¬ ohs t a = 10 := (by assumption)
       have h11 : ohs t a = 11 := (by assumption)
       unfold oddH; rewrite [if_neg h0, if_neg h1, if_neg h2, if_neg h3, if_neg h4, if_neg h5, if_neg h6, if_neg h7, if_neg h8, if_neg h9, if_neg h10, if_pos h11]; rfl)
    | (have h0 : ¬ ohs t a = 0 := (by assumption)
       have h1 : ¬ ohs t a = 1 := (by assumption)
       have h2 : ¬ ohs t a = 2 := (by assumption)
       have h3 : ¬ ohs t a = 3 := (by assumption)
       have h4 : ¬ ohs t a = 4 := (by assumption)
       have h5 : ¬ ohs t a = 5 := (by assumption)
       have h6 : ¬ ohs t a = 6 := (by assumption)
       have h7 : ¬ ohs t a = 7 := (by assumption)
       have h8 : ¬ ohs t a = 8 := (by assumption)
       have h9 : ¬ ohs t a = 9 := (by assumption)
       have h10 : ¬ ohs t a = 10 := (by assumption)
       have h11 : ¬ ohs t a = 11 := (by assumption)
       have h12 : ohs t a = 12 := (by assumption)
       unfold oddH; rewrite [if_neg h0, if_neg h1, if_neg h2, if_neg h3, if_neg h4, if_neg h5, if_neg h6, if_neg h7, if_neg h8, if_neg h9, if_neg h10, if_neg h11, if_pos h12]; rfl)
    | (have h0 : ¬ ohs t a = 0 := (by assumption)
       have h1 : ¬ ohs t a = 1 := (by assumption)
       have h2 : ¬ ohs t a = 2 := (by assumption)
       have h3 : ¬ ohs t a = 3 := (by assumption)
       have h4 : ¬ ohs t a = 4 := (by assumption)
       have h5 : ¬ ohs t a = 5 := (by assumption)
       have h6 : ¬ ohs t a = 6 := (by assumption)
       have h7 : ¬ ohs t a = 7 := (by assumption)
       have h8 : ¬ ohs t a = 8 := (by assumption)
       have h9 : ¬ ohs t a = 9 := (by assumption)
       have h10 : ¬ ohs t a = 10 := (by assumption)
       have h11 : ¬ ohs t a = 11 := (by assumption)
       have h12 : ¬ ohs t a = 12 := (by assumption)
       have h13 : ohs t a = 13 := (by assumption)
       unfold oddH; rewrite [if_neg h0, if_neg h1, if_neg h2, if_neg h3, if_neg h4, if_neg h5, if_neg h6, if_neg h7, if_neg h8, if_neg h9, if_neg h10, if_neg h11, if_neg h12, if_pos h13]; rfl)
    | (have h0 : ¬ ohs t a = 0 := (by assumption)
       have h1 : ¬ ohs t a = 1 := (by assumption)
       have h2 : ¬ ohs t a = 2 := (by assumption)
       have h3 : ¬ ohs t a = 3 := (by assumption)
       have h4 : ¬ ohs t a = 4 := (by assumption)
       have h5 : ¬ ohs t a = 5 := (by assumption)
       have h6 : ¬ ohs t a = 6 := (by assumption)
       have h7 : ¬ ohs t a = 7 := (by assumption)
       have h8 : ¬ ohs t a = 8 := (by assumption)
       have h9 : ¬ ohs t a = 9 := (by assumption)
       have h10 : ¬ ohs t a = 10 := (by assumption)
       have h11 : ¬ ohs t a = 11 := (by assumption)
       have h12 : ¬ ohs t a = 12 := (by assumption)
       have h13 : ¬ ohs t a = 13 := (by assumption)
       unfold oddH; rewrite [if_neg h0, if_neg h1, if_neg h2, if_neg h3, if_neg h4, if_neg h5, if_neg h6, if_neg h7, if_neg h8, if_neg h9, if_neg h10, if_neg h11, if_neg h12, if_neg h13]; rfl)
    | trace_state
/-- made.OddSmall -/
def osv (t : List Int) (a : Nat) : Int := [-1, 0, 1, 7, 8, 15, 16, 128, 256, 65536].getD (0 + (nextR t a 10).toNat * 1) 0
def oss (t : List Int) (a : Nat) : Int := nextR t (adv t a 1) 9
def oddS (t : List Int) (a : Nat) (s : Sm) : Sm :=
  if oss t a = 0 then { s with cx := osv t a }
  else if oss t a = 1 then { s with f := nextR t (adv t a 2) 8 }
  else if oss t a = 2 then { s with n := osv t a }
  else if oss t a = 3 then { s with tm := osv t a }
  else if oss t a = 4 then { s with mr := osv t a }
  else if oss t a = 5 then { s with ud := osv t a }
  else if oss t a = 6 then { s with h := oddH t (adv t a 2) s.h }
  else if oss t a = 7 then { s with d := { s.d with st := osv t a } }
  else { s with ck := osv t a }
def oddSA (t : List Int) (a : Nat) : Nat :=
  if oss t a = 0 then adv t a 2
  else if oss t a = 1 then adv t a 3
  else if oss t a = 2 then adv t a 2
  else if oss t a = 3 then adv t a 2
  else if oss t a = 4 then adv t a 2
  else if oss t a = 5 then adv t a 2
  else if oss t a = 6 then adv t a 4
  else adv t a 2
attribute [local irreducible] oddH
set_option maxHeartbeats 1000000 in
theorem doddsmall_c (t : List Int) (a : Nat) (s : Sm) (ht : t.length ≤ 400) (p : Nm) : LSpec Try.prog G 20 [.ptr p 0, s.av] [(p, dice t a)] (fun _ => ((oddS t a s).av, [(p, dice t (oddSA t a))])) := by
  have h10 := nextR_lt t a 10 (by decide) (by decide)
  refine LSpec.introL tyOk Try.func20 rfl (by kernel_rfl) (by simp) (fun q => ⟨by simp, by simp⟩) ?_
  refine AWpL.sound tyOk [] _ _ _ _ ?_
  conv => whnf
  repeat' first
    | (show LHas _ _ _; ((try show LHas _ _ _); repeat (with_reducible show LHas _ _ _); first | apply LHas.here | apply LHas.next); conv => whnf)
    | ((first | (with_reducible refine And.intro ?_ ?_) | refine And.intro ?_ ?_); (focus (first | exact T.side)); conv => whnf)
    | (show LCall _ _ _ _ _ _; first | (apply LCall.upd (next_c t _ _ ht _); ((try show LHas _ _ _); repeat (with_reducible show LHas _ _ _); first | apply LHas.here | apply LHas.next); refine And.intro rfl ?_; conv => whnf) | (apply LCall.upd (doddheader_c t _ _ ht _); ((try show LHas _ _ _); repeat (with_reducible show LHas _ _ _); first | apply LHas.here | apply LHas.next); refine And.intro rfl ?_; conv => whnf) | (apply LCall.eq; (focus (repeat first | (apply cons_congr; (focus (first | exact sl_bv rfl | exact sl_bv (by first | (simp; done) | (simp; (exact T.num))) | exact rfl))) | exact rfl)); first | (apply LCall.upd (next_c t _ _ ht _); ((try show LHas _ _ _); repeat (with_reducible show LHas _ _ _); first | apply LHas.here | apply LHas.next); refine And.intro rfl ?_; conv => whnf) | (apply LCall.upd (doddheader_c t _ _ ht _); ((try show LHas _ _ _); repeat (with_reducible show LHas _ _ _); first | apply LHas.here | apply LHas.next); refine And.intro rfl ?_; conv => whnf)))
    | (show ABr _ _ _; first | (refine ABr.tt ?_; conv => whnf) | (refine ABr.ff ?_; conv => whnf) | (refine ABr.byN ?_) | ((with_reducible refine ABr.eqlT (by assumption) ?_); conv => whnf) | ((with_reducible refine ABr.eqlF (by assumption) ?_); conv => whnf) | ((with_reducible refine ABr.eql (fun h => ?_) (fun h => ?_)) <;> first | (exfalso; omega) | conv => whnf) | (refine ABr.byT (by with_reducible assumption) ?_; conv => whnf) | (refine ABr.byF (by with_reducible assumption) ?_; conv => whnf) | ((with_reducible refine ABr.decT rfl ?_); conv => whnf) | ((with_reducible refine ABr.decT (by assumption) ?_); conv => whnf) | ((with_reducible refine ABr.decF (by assumption) ?_); conv => whnf) | (refine ABr.dec (fun h => ?_) (fun h => ?_) <;> first | (exfalso; omega) | conv => whnf) | (refine ABr.gen (fun h => ?_) (fun h => ?_) <;> conv => whnf))
    | (show ACell _ _ _; first | (refine ACell.elem (l := [-1, 0, 1, 7, 8, 15, 16, 128, 256, 65536]) (f := iAV) 0 ?_ ?_; (focus (first | exact T.side)); conv => whnf) | (refine ACell.cell 0 ?_ ?_; (focus (first | exact T.side)); conv => whnf) | (refine ACell.mk ?_; conv => whnf))
    | (show AList _ _; first | (refine AList.app ?_ ?_; (focus (first | exact T.side)); conv => whnf) | (refine AList.set (x := b8 _) (bAV_b8 _).symm ?_ ?_; (focus (first | exact T.side)); conv => whnf) | (refine AList.set (f := iAV) rfl ?_ ?_; (focus (first | exact T.side)); conv => whnf) | (refine AList.part ?_; conv => whnf) | (refine AList.force ?_; (conv => whnf); refine Lit.mk ?_; conv => whnf) | (refine AList.full ?_ ?_; (focus (first | exact Nat.le_of_ble_eq_true rfl | (simp; done) | (simp; omega))); conv => whnf) | (refine AList.mk ?_; conv => whnf))
    | (refine LFresh.mk fun r => ?_; conv => whnf)
    | (show KeepL _ _ _; first | (with_reducible exact KeepL.refl) | (refine KeepL.cons ?_; ((try show LHas _ _ _); repeat (with_reducible show LHas _ _ _); first | apply LHas.here | apply LHas.next); ((try show LHas _ _ _); repeat (with_reducible show LHas _ _ _); first | apply LHas.here | apply LHas.next); refine And.intro rfl ?_) | exact KeepL.nil)
    | (show InL _ _; first | exact InL.here | refine InL.next ?_)
    | (show False; (exact T.num))
  all_goals (try dsimp only)
  all_goals (refine RetL.val ?_ ?_; rotate_left; (focus ((repeat' first | exact LSub.nil | (with_reducible exact LSub.refl) | (apply LSub.cons; ((try show LHas _ _ _); repeat (with_reducible show LHas _ _ _); first | apply LHas.here | apply LHas.next); refine And.intro ?_ ?_; (focus (try (first | (with_reducible rfl) | (refine congrArg (Pl.mk _) ?_; (first | rfl | (simp; done))) | rfl | (with_reducible refine congrArg (Pl.mk _) ?_)))))))))
  all_goals first
    | (have h0 : oss t a = 0 := (by assumption)
       (first | (unfold oddSA; rewrite [if_pos h0]; rfl) | (unfold oddS; rewrite [if_pos h0]; rfl)))
    | (have h0 : ¬ oss t a = 0 := (by assumption)
       have h1 : oss t a = 1 := (by assumption)
       (first | (unfold oddSA; rewrite [if_neg h0, if_pos h1]; rfl) | (unfold oddS; rewrite [if_neg h0, if_pos h1]; rfl)))
    | (have h0 : ¬ oss t a = 0 := (by assumption)
       have h1 : ¬ oss t a = 1 := (by assumption)
       have h2 : oss t a = 2 := (by assumption)
       (first | (unfold oddSA; rewrite [if_neg h0, if_neg h1, if_pos h2]; rfl) | (unfold oddS; rewrite [if_neg h0, if_neg h1, if_pos h2]; rfl)))
    | (have h0 : ¬ oss t a = 0 := (by assumption)
       have h1 : ¬ oss t a = 1 := (by assumption)
       have h2 : ¬ oss t a = 2 := (by assumption)
       have h3 : oss t a = 3 := (by assumption)
       (first | (unfold oddSA; rewrite [if_neg h0, if_neg h1, if_neg h2, if_pos h3]; rfl) | (unfold oddS; rewrite [if_neg h0, if_neg h1, if_neg h2, if_pos h3]; rfl)))
    | (have h0 : ¬ oss t a = 0 := (by assumption)
       have h1 : ¬ oss t a = 1 := (by assumption)
       have h2 : ¬ oss t a = 2 := (by assumption)
       have h3 : ¬ oss t a = 3 := (by assumption)
       have h4 : oss t a = 4 := (by assumption)
       (first | (unfold oddSA; rewrite [if_neg h0, if_neg h1, if_neg h2, if_neg h3, if_pos h4]; rfl) | (unfold oddS; rewrite [if_neg h0, if_neg h1, if_neg h2, if_neg h3, if_pos h4]; rfl)))
    | (have h0 : ¬ oss t a = 0 := (by assumption)
       have h1 : ¬ oss t a = 1 := (by assumption)
       have h2 : ¬ oss t a = 2 := (by assumption)
       have h3 : ¬ oss t a = 3 := (by assumption)
       have h4 : ¬ oss t a = 4 := (by assumption)
       have h5 : oss t a = 5 := (by assumption)
       (first | (unfold oddSA; rewrite [if_neg h0, if_neg h1, if_neg h2, if_neg h3, if_neg h4, if_pos h5]; rfl) | (unfold oddS; rewrite [if_neg h0, if_neg h1, if_neg h2, if_neg h3, if_neg h4, if_pos h5]; rfl)))
    | (have h0 : ¬ oss t a = 0 := (by assumption)
       have h1 : ¬ oss t a = 1 := (by assumption)
       have h2 : ¬ oss t a = 2 := (by assumption)
       have h3 : ¬ oss t a = 3 := (by assumption)
       have h4 : ¬ oss t a = 4 := (by assumption)
       have h5 : ¬ oss t a = 5 := (by assumption)
       have h6 : oss t a = 6 := (by assumption)
       (first | (unfold oddSA; rewrite [if_neg h0, if_neg h1, if_neg h2, if_neg h3, if_neg h4, if_neg h5, if_pos h6]; rfl) | (unfold oddS; rewrite [if_neg h0, if_neg h1, if_neg h2, if_neg h3, if_neg h4, if_neg h5, if_pos h6]; rfl)))
    | (have h0 : ¬ oss t a = 0 := (by assumption)
       have h1 : ¬ oss t a = 1 := (by assumption)
       have h2 : ¬ oss t a = 2 := (by assumption)
       have h3 : ¬ oss t a = 3 := (by assumption)
       have h4 : ¬ oss t a = 4 := (by assumption)
       have h5 : ¬ oss t a = 5 := (by assumption)
       have h6 : ¬ oss t a = 6 := (by assumption)
       have h7 : oss t a = 7 := (by assumption)
       (first | (unfold oddSA; rewrite [if_neg h0, if_neg h1, if_neg h2, if_neg h3, if_neg h4, if_neg h5, if_neg h6]; rfl) | (unfold oddS; rewrite [if_neg h0, if_neg h1, if_neg h2, if_neg h3, if_neg h4, if_neg h5, if_neg h6, if_pos h7]; rfl)))
    | (have h0 : ¬ oss t a = 0 := (by assumption)
       have h1 : ¬ oss t a = 1 := (by assumption)
       have h2 : ¬ oss t a = 2 := (by assumption)
       have h3 : ¬ oss t a = 3 := (by assumption)
       have h4 : ¬ oss t a = 4 := (by assumption)
       have h5 : ¬ oss t a = 5 := (by assumption)
       have h6 : ¬ oss t a = 6 := (by assumption)
       have h7 : ¬ oss t a = 7 := (by assumption)
       (first | (unfold oddSA; rewrite [if_neg h0, if_neg h1, if_neg h2, if_neg h3, if_neg h4, if_neg h5, if_neg h6]; rfl) | (unfold oddS; rewrite [if_neg h0, if_neg h1, if_neg h2, if_neg h3, if_neg h4, if_neg h5, if_neg h6, if_neg h7]; rfl)))
    | trace_state
end Go.Proofs.Ytnlpjbedkdhlbaa
