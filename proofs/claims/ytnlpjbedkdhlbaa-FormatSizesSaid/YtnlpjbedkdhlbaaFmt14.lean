import Derived.Test.YtnlpjbedkdhlbaaFmt13
namespace Go.Proofs.Ytnlpjbedkdhlbaa
open Go.RowKit
set_option linter.all false
variable {G : Nat → AV}
@[reducible] def hdk (s : Sm) (k : Int) : Sm := { s with h := { s.h with k := k } }
/-- The static part. -/
@[reducible] def stH (X : Rdr) (s : Sm) : Sm := { s with h := { s.h with k := rv 1 X, fr := rv 4 (rtk 1 X), to := rv 4 (rtk 4 (rtk 1 X)), fp := rv 2 (rtk 4 (rtk 4 (rtk 1 X))), tp := rv 2 (rtk 2 (rtk 4 (rtk 4 (rtk 1 X)))) } }
@[reducible] def stX (X : Rdr) : Rdr := rtk 2 (rtk 2 (rtk 4 (rtk 4 (rtk 1 X))))
@[reducible] def stT (X : Rdr) (s : Sm) : Sm := { stH X s with h := { (stH X s).h with sr := rv 4 (stX X) } }
set_option maxHeartbeats 1000000 in
theorem fstatF_c (r p : Nm) (X : Rdr) (s : Sm) (hrp : r ≠ p) (he : rE (rtk 1 X) = false) (h1 : rv 1 X ≠ 1) (h2 : rv 1 X ≠ 2) : LSpec Try.prog G 52 [.ptr r 0, .ptr p 7] [(r, ⟨82, rcs X⟩), (p, ⟨28, s.fs⟩)] (fun _ => (.bool false, [(r, ⟨82, rcs (rtk 1 X)⟩), (p, ⟨28, (hdk s (rv 1 X)).fs⟩)])) := by
  refine LSpec.introL tyOk Try.func52 rfl (by kernel_rfl) (by simp) (fun q => ⟨by simp, by (first | (simp [*]; done) | simp_all)⟩) ?_
  refine AWpL.sound tyOk [] _ _ _ _ ?_
  conv => whnf
  repeat' first
    | (show LHas _ _ _; ((try show LHas _ _ _); repeat (with_reducible show LHas _ _ _); first | apply LHas.here | apply LHas.next); conv => whnf)
    | ((first | (with_reducible refine And.intro ?_ ?_) | refine And.intro ?_ ?_); (focus (first | exact T.side)); conv => whnf)
    | (show LCall _ _ _ _ _ _; first | (apply LCall.upd (ft1_c _ _); ((try show LHas _ _ _); repeat (with_reducible show LHas _ _ _); first | apply LHas.here | apply LHas.next); refine And.intro rfl ?_; conv => whnf) | (apply LCall.upd (ft2_c _ _); ((try show LHas _ _ _); repeat (with_reducible show LHas _ _ _); first | apply LHas.here | apply LHas.next); refine And.intro rfl ?_; conv => whnf) | (apply LCall.upd (ft4_c _ _); ((try show LHas _ _ _); repeat (with_reducible show LHas _ _ _); first | apply LHas.here | apply LHas.next); refine And.intro rfl ?_; conv => whnf) | (apply LCall.eq; (focus (repeat first | (apply cons_congr; (focus (first | exact sl_bv rfl | exact sl_bv (by first | (simp; done) | (simp; (exact T.num))) | exact rfl))) | exact rfl)); first | (apply LCall.upd (ft1_c _ _); ((try show LHas _ _ _); repeat (with_reducible show LHas _ _ _); first | apply LHas.here | apply LHas.next); refine And.intro rfl ?_; conv => whnf) | (apply LCall.upd (ft2_c _ _); ((try show LHas _ _ _); repeat (with_reducible show LHas _ _ _); first | apply LHas.here | apply LHas.next); refine And.intro rfl ?_; conv => whnf) | (apply LCall.upd (ft4_c _ _); ((try show LHas _ _ _); repeat (with_reducible show LHas _ _ _); first | apply LHas.here | apply LHas.next); refine And.intro rfl ?_; conv => whnf)))
    | (show ABr _ _ _; first | (refine ABr.tt ?_; conv => whnf) | (refine ABr.ff ?_; conv => whnf) | (refine ABr.byN ?_) | ((with_reducible refine ABr.eqlT (by assumption) ?_); conv => whnf) | ((with_reducible refine ABr.eqlF (by assumption) ?_); conv => whnf) | ((with_reducible refine ABr.eql (fun h => ?_) (fun h => ?_)) <;> first | (exfalso; omega) | conv => whnf) | ((with_reducible refine ABr.neqT (by assumption) ?_); conv => whnf) | ((with_reducible refine ABr.neqF (by assumption) ?_); conv => whnf) | ((with_reducible refine ABr.neq (fun h => ?_) (fun h => ?_)) <;> first | (exfalso; omega) | conv => whnf) | (refine ABr.byT (by with_reducible assumption) ?_; conv => whnf) | (refine ABr.byF (by with_reducible assumption) ?_; conv => whnf) | ((with_reducible refine ABr.decT rfl ?_); conv => whnf) | ((with_reducible refine ABr.decT (by assumption) ?_); conv => whnf) | ((with_reducible refine ABr.decF (by assumption) ?_); conv => whnf) | (refine ABr.dec (fun h => ?_) (fun h => ?_) <;> first | (exfalso; omega) | conv => whnf) | (refine ABr.gen (fun h => ?_) (fun h => ?_) <;> conv => whnf))
    | (show ACell _ _ _; first | (refine ACell.cell 0 ?_ ?_; (focus (first | exact T.side)); conv => whnf) | (refine ACell.mk ?_; conv => whnf))
    | (show AList _ _; first | (refine AList.app ?_ ?_; (focus (first | exact T.side)); conv => whnf) | (refine AList.set (x := b8 _) (bAV_b8 _).symm ?_ ?_; (focus (first | exact T.side)); conv => whnf) | (refine AList.set (f := iAV) rfl ?_ ?_; (focus (first | exact T.side)); conv => whnf) | (refine AList.part ?_; conv => whnf) | (refine AList.force ?_; (conv => whnf); refine Lit.mk ?_; conv => whnf) | (refine AList.full ?_ ?_; (focus (first | exact Nat.le_of_ble_eq_true rfl | (simp; done) | (simp; omega))); conv => whnf) | (refine AList.mk ?_; conv => whnf))
    | (refine LFresh.mk fun r => ?_; conv => whnf)
    | (show KeepL _ _ _; first | (with_reducible exact KeepL.refl) | (refine KeepL.cons ?_; ((try show LHas _ _ _); repeat (with_reducible show LHas _ _ _); first | apply LHas.here | apply LHas.next); ((try show LHas _ _ _); repeat (with_reducible show LHas _ _ _); first | apply LHas.here | apply LHas.next); refine And.intro rfl ?_) | exact KeepL.nil)
    | (show InL _ _; first | exact InL.here | refine InL.next ?_)
    | (show False; (exact T.num))
  all_goals (try dsimp only)
  all_goals first
    | ((refine RetL.val ?_ ?_; rotate_left; (focus ((repeat' first | exact LSub.nil | (with_reducible exact LSub.refl) | (apply LSub.cons; ((try show LHas _ _ _); repeat (with_reducible show LHas _ _ _); first | apply LHas.here | apply LHas.next); refine And.intro ?_ ?_; (focus (try (first | (with_reducible rfl) | (refine congrArg (Pl.mk _) ?_; (first | rfl | (simp; done))) | rfl | (with_reducible refine congrArg (Pl.mk _) ?_))))))))); rfl)
    | (exfalso; simp_all)
set_option maxHeartbeats 1000000 in
theorem fstatT_c (r p : Nm) (X : Rdr) (s : Sm) (hrp : r ≠ p) (hk : rv 1 X = 2) : LSpec Try.prog G 52 [.ptr r 0, .ptr p 7] [(r, ⟨82, rcs X⟩), (p, ⟨28, s.fs⟩)] (fun _ => (.bool true, [(r, ⟨82, rcs (rtk 4 (stX X))⟩), (p, ⟨28, (stT X s).fs⟩)])) := by
  refine LSpec.introL tyOk Try.func52 rfl (by kernel_rfl) (by simp) (fun q => ⟨by simp, by (first | (simp [*]; done) | simp_all)⟩) ?_
  refine AWpL.sound tyOk [] _ _ _ _ ?_
  conv => whnf
  repeat' first
    | (show LHas _ _ _; ((try show LHas _ _ _); repeat (with_reducible show LHas _ _ _); first | apply LHas.here | apply LHas.next); conv => whnf)
    | ((first | (with_reducible refine And.intro ?_ ?_) | refine And.intro ?_ ?_); (focus (first | exact T.side)); conv => whnf)
    | (show LCall _ _ _ _ _ _; first | (apply LCall.upd (ft1_c _ _); ((try show LHas _ _ _); repeat (with_reducible show LHas _ _ _); first | apply LHas.here | apply LHas.next); refine And.intro rfl ?_; conv => whnf) | (apply LCall.upd (ft2_c _ _); ((try show LHas _ _ _); repeat (with_reducible show LHas _ _ _); first | apply LHas.here | apply LHas.next); refine And.intro rfl ?_; conv => whnf) | (apply LCall.upd (ft4_c _ _); ((try show LHas _ _ _); repeat (with_reducible show LHas _ _ _); first | apply LHas.here | apply LHas.next); refine And.intro rfl ?_; conv => whnf) | (apply LCall.eq; (focus (repeat first | (apply cons_congr; (focus (first | exact sl_bv rfl | exact sl_bv (by first | (simp; done) | (simp; (exact T.num))) | exact rfl))) | exact rfl)); first | (apply LCall.upd (ft1_c _ _); ((try show LHas _ _ _); repeat (with_reducible show LHas _ _ _); first | apply LHas.here | apply LHas.next); refine And.intro rfl ?_; conv => whnf) | (apply LCall.upd (ft2_c _ _); ((try show LHas _ _ _); repeat (with_reducible show LHas _ _ _); first | apply LHas.here | apply LHas.next); refine And.intro rfl ?_; conv => whnf) | (apply LCall.upd (ft4_c _ _); ((try show LHas _ _ _); repeat (with_reducible show LHas _ _ _); first | apply LHas.here | apply LHas.next); refine And.intro rfl ?_; conv => whnf)))
    | (show ABr _ _ _; first | (refine ABr.tt ?_; conv => whnf) | (refine ABr.ff ?_; conv => whnf) | (refine ABr.byN ?_) | ((with_reducible refine ABr.eqlT (by assumption) ?_); conv => whnf) | ((with_reducible refine ABr.eqlF (by assumption) ?_); conv => whnf) | ((with_reducible refine ABr.eql (fun h => ?_) (fun h => ?_)) <;> first | (exfalso; omega) | conv => whnf) | ((with_reducible refine ABr.neqT (by assumption) ?_); conv => whnf) | ((with_reducible refine ABr.neqF (by assumption) ?_); conv => whnf) | ((with_reducible refine ABr.neq (fun h => ?_) (fun h => ?_)) <;> first | (exfalso; omega) | conv => whnf) | (refine ABr.byT (by with_reducible assumption) ?_; conv => whnf) | (refine ABr.byF (by with_reducible assumption) ?_; conv => whnf) | ((with_reducible refine ABr.decT rfl ?_); conv => whnf) | ((with_reducible refine ABr.decT (by assumption) ?_); conv => whnf) | ((with_reducible refine ABr.decF (by assumption) ?_); conv => whnf) | (refine ABr.dec (fun h => ?_) (fun h => ?_) <;> first | (exfalso; omega) | conv => whnf) | (refine ABr.gen (fun h => ?_) (fun h => ?_) <;> conv => whnf))
    | (show ACell _ _ _; first | (refine ACell.cell 0 ?_ ?_; (focus (first | exact T.side)); conv => whnf) | (refine ACell.mk ?_; conv => whnf))
    | (show AList _ _; first | (refine AList.app ?_ ?_; (focus (first | exact T.side)); conv => whnf) | (refine AList.set (x := b8 _) (bAV_b8 _).symm ?_ ?_; (focus (first | exact T.side)); conv => whnf) | (refine AList.set (f := iAV) rfl ?_ ?_; (focus (first | exact T.side)); conv => whnf) | (refine AList.part ?_; conv => whnf) | (refine AList.force ?_; (conv => whnf); refine Lit.mk ?_; conv => whnf) | (refine AList.full ?_ ?_; (focus (first | exact Nat.le_of_ble_eq_true rfl | (simp; done) | (simp; omega))); conv => whnf) | (refine AList.mk ?_; conv => whnf))
    | (refine LFresh.mk fun r => ?_; conv => whnf)
    | (show KeepL _ _ _; first | (with_reducible exact KeepL.refl) | (refine KeepL.cons ?_; ((try show LHas _ _ _); repeat (with_reducible show LHas _ _ _); first | apply LHas.here | apply LHas.next); ((try show LHas _ _ _); repeat (with_reducible show LHas _ _ _); first | apply LHas.here | apply LHas.next); refine And.intro rfl ?_) | exact KeepL.nil)
    | (show InL _ _; first | exact InL.here | refine InL.next ?_)
    | (show False; (exact T.num))
  all_goals (try dsimp only)
  all_goals first
    | ((refine RetL.val ?_ ?_; rotate_left; (focus ((repeat' first | exact LSub.nil | (with_reducible exact LSub.refl) | (apply LSub.cons; ((try show LHas _ _ _); repeat (with_reducible show LHas _ _ _); first | apply LHas.here | apply LHas.next); refine And.intro ?_ ?_; (focus (try (first | (with_reducible rfl) | (refine congrArg (Pl.mk _) ?_; (first | rfl | (simp; done))) | rfl | (with_reducible refine congrArg (Pl.mk _) ?_))))))))); rfl)
    | (exfalso; simp_all)
set_option maxHeartbeats 1000000 in
theorem fstatU_c (r p : Nm) (X : Rdr) (s : Sm) (hrp : r ≠ p) (hk : rv 1 X ≠ 2) (h : rE (rtk 1 X) = true ∨ rv 1 X = 1) : LSpec Try.prog G 52 [.ptr r 0, .ptr p 7] [(r, ⟨82, rcs X⟩), (p, ⟨28, s.fs⟩)] (fun _ => (.bool true, [(r, ⟨82, rcs (stX X)⟩), (p, ⟨28, (stH X s).fs⟩)])) := by
  refine LSpec.introL tyOk Try.func52 rfl (by kernel_rfl) (by simp) (fun q => ⟨by simp, by (first | (simp [*]; done) | simp_all)⟩) ?_
  refine AWpL.sound tyOk [] _ _ _ _ ?_
  conv => whnf
  repeat' first
    | (show LHas _ _ _; ((try show LHas _ _ _); repeat (with_reducible show LHas _ _ _); first | apply LHas.here | apply LHas.next); conv => whnf)
    | ((first | (with_reducible refine And.intro ?_ ?_) | refine And.intro ?_ ?_); (focus (first | exact T.side)); conv => whnf)
    | (show LCall _ _ _ _ _ _; first | (apply LCall.upd (ft1_c _ _); ((try show LHas _ _ _); repeat (with_reducible show LHas _ _ _); first | apply LHas.here | apply LHas.next); refine And.intro rfl ?_; conv => whnf) | (apply LCall.upd (ft2_c _ _); ((try show LHas _ _ _); repeat (with_reducible show LHas _ _ _); first | apply LHas.here | apply LHas.next); refine And.intro rfl ?_; conv => whnf) | (apply LCall.upd (ft4_c _ _); ((try show LHas _ _ _); repeat (with_reducible show LHas _ _ _); first | apply LHas.here | apply LHas.next); refine And.intro rfl ?_; conv => whnf) | (apply LCall.eq; (focus (repeat first | (apply cons_congr; (focus (first | exact sl_bv rfl | exact sl_bv (by first | (simp; done) | (simp; (exact T.num))) | exact rfl))) | exact rfl)); first | (apply LCall.upd (ft1_c _ _); ((try show LHas _ _ _); repeat (with_reducible show LHas _ _ _); first | apply LHas.here | apply LHas.next); refine And.intro rfl ?_; conv => whnf) | (apply LCall.upd (ft2_c _ _); ((try show LHas _ _ _); repeat (with_reducible show LHas _ _ _); first | apply LHas.here | apply LHas.next); refine And.intro rfl ?_; conv => whnf) | (apply LCall.upd (ft4_c _ _); ((try show LHas _ _ _); repeat (with_reducible show LHas _ _ _); first | apply LHas.here | apply LHas.next); refine And.intro rfl ?_; conv => whnf)))
    | (show ABr _ _ _; first | (refine ABr.tt ?_; conv => whnf) | (refine ABr.ff ?_; conv => whnf) | (refine ABr.byN ?_) | ((with_reducible refine ABr.eqlT (by assumption) ?_); conv => whnf) | ((with_reducible refine ABr.eqlF (by assumption) ?_); conv => whnf) | ((with_reducible refine ABr.eql (fun h => ?_) (fun h => ?_)) <;> first | (exfalso; omega) | conv => whnf) | ((with_reducible refine ABr.neqT (by assumption) ?_); conv => whnf) | ((with_reducible refine ABr.neqF (by assumption) ?_); conv => whnf) | ((with_reducible refine ABr.neq (fun h => ?_) (fun h => ?_)) <;> first | (exfalso; omega) | conv => whnf) | (refine ABr.byT (by with_reducible assumption) ?_; conv => whnf) | (refine ABr.byF (by with_reducible assumption) ?_; conv => whnf) | ((with_reducible refine ABr.decT rfl ?_); conv => whnf) | ((with_reducible refine ABr.decT (by assumption) ?_); conv => whnf) | ((with_reducible refine ABr.decF (by assumption) ?_); conv => whnf) | (refine ABr.dec (fun h => ?_) (fun h => ?_) <;> first | (exfalso; omega) | conv => whnf) | (refine ABr.gen (fun h => ?_) (fun h => ?_) <;> conv => whnf))
    | (show ACell _ _ _; first | (refine ACell.cell 0 ?_ ?_; (focus (first | exact T.side)); conv => whnf) | (refine ACell.mk ?_; conv => whnf))
    | (show AList _ _; first | (refine AList.app ?_ ?_; (focus (first | exact T.side)); conv => whnf) | (refine AList.set (x := b8 _) (bAV_b8 _).symm ?_ ?_; (focus (first | exact T.side)); conv => whnf) | (refine AList.set (f := iAV) rfl ?_ ?_; (focus (first | exact T.side)); conv => whnf) | (refine AList.part ?_; conv => whnf) | (refine AList.force ?_; (conv => whnf); refine Lit.mk ?_; conv => whnf) | (refine AList.full ?_ ?_; (focus (first | exact Nat.le_of_ble_eq_true rfl | (simp; done) | (simp; omega))); conv => whnf) | (refine AList.mk ?_; conv => whnf))
    | (refine LFresh.mk fun r => ?_; conv => whnf)
    | (show KeepL _ _ _; first | (with_reducible exact KeepL.refl) | (refine KeepL.cons ?_; ((try show LHas _ _ _); repeat (with_reducible show LHas _ _ _); first | apply LHas.here | apply LHas.next); ((try show LHas _ _ _); repeat (with_reducible show LHas _ _ _); first | apply LHas.here | apply LHas.next); refine And.intro rfl ?_) | exact KeepL.nil)
    | (show InL _ _; first | exact InL.here | refine InL.next ?_)
    | (show False; (exact T.num))
  all_goals (try dsimp only)
  all_goals first
    | ((refine RetL.val ?_ ?_; rotate_left; (focus ((repeat' first | exact LSub.nil | (with_reducible exact LSub.refl) | (apply LSub.cons; ((try show LHas _ _ _); repeat (with_reducible show LHas _ _ _); first | apply LHas.here | apply LHas.next); refine And.intro ?_ ?_; (focus (try (first | (with_reducible rfl) | (refine congrArg (Pl.mk _) ?_; (first | rfl | (simp; done))) | rfl | (with_reducible refine congrArg (Pl.mk _) ?_))))))))); rfl)
    | (exfalso; simp_all)
@[reducible] def lw1 (X : Rdr) (k : Int) (s : Sm) : Sm := { hdk s k with n := shR (rv 1 X) 3, ck := andR (rv 1 X) 7 }
@[reducible] def lw2T (X : Rdr) (k : Int) (s : Sm) : Sm := { hdk s k with mr := bitR (rv 1 X) 5, n := andR (rv 1 X) 31, tm := rv 2 (rtk 1 X), ck := rv 1 (rtk 2 (rtk 1 X)) }
@[reducible] def lw2U (X : Rdr) (k : Int) (s : Sm) : Sm := { hdk s k with mr := bitR (rv 1 X) 5, n := andR (rv 1 X) 31, ck := rv 1 (rtk 1 X) }
@[reducible] def lw3T (X : Rdr) (k : Int) (s : Sm) : Sm := { hdk s k with mr := andR (rv 1 X) 1, n := rv 1 (rtk 1 X), tm := rv 4 (rtk 1 (rtk 1 X)), id := rv 2 (rtk 4 (rtk 1 (rtk 1 X))), ck := rv 1 (rtk 2 (rtk 4 (rtk 1 (rtk 1 X)))) }
@[reducible] def lw3U (X : Rdr) (k : Int) (s : Sm) : Sm := { hdk s k with mr := andR (rv 1 X) 1, n := rv 2 (rtk 1 X), ck := rv 1 (rtk 2 (rtk 1 X)) }
theorem nb3T_c (k : Int) (h : k = 2) : LSpec Try.prog G 29 [iAV 3, iAV k] [] (fun _ => (iAV 8, [])) := by
  have := nbits_c (G := G) 3 k
  rwa [show wid 3 k 0 = 8 from by simp [wid, h]] at this
theorem nb3U_c (k : Int) (h : k ≠ 2) : LSpec Try.prog G 29 [iAV 3, iAV k] [] (fun _ => (iAV 16, [])) := by
  have := nbits_c (G := G) 3 k
  rwa [show wid 3 k 0 = 16 from by simp [wid, h]] at this
@[reducible] def lwX1 (X : Rdr) : Rdr := rtk 1 X
set_option maxHeartbeats 1000000 in
theorem flow1_c (r p : Nm) (X : Rdr) (R : List AV) (hR : R = rcs X) (k : Int) (s : Sm) (hrp : r ≠ p) (hf : s.f = 1)  : LSpec Try.prog G 54 [.ptr r 0, .ptr p 0, iAV k] [(r, ⟨82, R⟩), (p, ⟨28, s.fs⟩)] (fun _ => (.tup [], [(r, ⟨82, rcs (lwX1 X)⟩), (p, ⟨28, (lw1 X k s).fs⟩)])) := by
  subst hR
  obtain ⟨cx, f, n, tm, mr, id, ud, h, d, ck, pl⟩ := s
  obtain rfl : f = 1 := hf
  refine LSpec.introL tyOk Try.func54 rfl (by kernel_rfl) (by simp) (fun q => ⟨by simp, by (first | (simp [*]; done) | simp_all)⟩) ?_
  refine AWpL.sound tyOk [] _ _ _ _ ?_
  conv => whnf
  repeat' first
    | (show LHas _ _ _; ((try show LHas _ _ _); repeat (with_reducible show LHas _ _ _); first | apply LHas.here | apply LHas.next); conv => whnf)
    | ((first | (with_reducible refine And.intro ?_ ?_) | refine And.intro ?_ ?_); (focus (first | exact T.side)); conv => whnf)
    | (show LCall _ _ _ _ _ _; first | (apply LCall.upd (ft1_c _ _); ((try show LHas _ _ _); repeat (with_reducible show LHas _ _ _); first | apply LHas.here | apply LHas.next); refine And.intro rfl ?_; conv => whnf) | (apply LCall.upd (ft2_c _ _); ((try show LHas _ _ _); repeat (with_reducible show LHas _ _ _); first | apply LHas.here | apply LHas.next); refine And.intro rfl ?_; conv => whnf) | (apply LCall.upd (ft4_c _ _); ((try show LHas _ _ _); repeat (with_reducible show LHas _ _ _); first | apply LHas.here | apply LHas.next); refine And.intro rfl ?_; conv => whnf) | (apply LCall.eq; (focus (repeat first | (apply cons_congr; (focus (first | exact sl_bv rfl | exact sl_bv (by first | (simp; done) | (simp; (exact T.num))) | exact rfl))) | exact rfl)); first | (apply LCall.upd (ft1_c _ _); ((try show LHas _ _ _); repeat (with_reducible show LHas _ _ _); first | apply LHas.here | apply LHas.next); refine And.intro rfl ?_; conv => whnf) | (apply LCall.upd (ft2_c _ _); ((try show LHas _ _ _); repeat (with_reducible show LHas _ _ _); first | apply LHas.here | apply LHas.next); refine And.intro rfl ?_; conv => whnf) | (apply LCall.upd (ft4_c _ _); ((try show LHas _ _ _); repeat (with_reducible show LHas _ _ _); first | apply LHas.here | apply LHas.next); refine And.intro rfl ?_; conv => whnf)))
    | (show ABr _ _ _; first | (refine ABr.tt ?_; conv => whnf) | (refine ABr.ff ?_; conv => whnf) | (refine ABr.byN ?_) | ((with_reducible refine ABr.eqlT (by assumption) ?_); conv => whnf) | ((with_reducible refine ABr.eqlF (by assumption) ?_); conv => whnf) | ((with_reducible refine ABr.eql (fun h => ?_) (fun h => ?_)) <;> first | (exfalso; omega) | conv => whnf) | (refine ABr.byT (by with_reducible assumption) ?_; conv => whnf) | (refine ABr.byF (by with_reducible assumption) ?_; conv => whnf) | ((with_reducible refine ABr.decT rfl ?_); conv => whnf) | ((with_reducible refine ABr.decT (by assumption) ?_); conv => whnf) | ((with_reducible refine ABr.decF (by assumption) ?_); conv => whnf) | (refine ABr.dec (fun h => ?_) (fun h => ?_) <;> first | (exfalso; omega) | conv => whnf) | (refine ABr.gen (fun h => ?_) (fun h => ?_) <;> conv => whnf))
    | (show ACell _ _ _; first | (refine ACell.cell 0 ?_ ?_; (focus (first | exact T.side)); conv => whnf) | (refine ACell.mk ?_; conv => whnf))
    | (show AList _ _; first | (refine AList.app ?_ ?_; (focus (first | exact T.side)); conv => whnf) | (refine AList.set (x := b8 _) (bAV_b8 _).symm ?_ ?_; (focus (first | exact T.side)); conv => whnf) | (refine AList.set (f := iAV) rfl ?_ ?_; (focus (first | exact T.side)); conv => whnf) | (refine AList.part ?_; conv => whnf) | (refine AList.force ?_; (conv => whnf); refine Lit.mk ?_; conv => whnf) | (refine AList.full ?_ ?_; (focus (first | exact Nat.le_of_ble_eq_true rfl | (simp; done) | (simp; omega))); conv => whnf) | (refine AList.mk ?_; conv => whnf))
    | (refine LFresh.mk fun r => ?_; conv => whnf)
    | (show KeepL _ _ _; first | (with_reducible exact KeepL.refl) | (refine KeepL.cons ?_; ((try show LHas _ _ _); repeat (with_reducible show LHas _ _ _); first | apply LHas.here | apply LHas.next); ((try show LHas _ _ _); repeat (with_reducible show LHas _ _ _); first | apply LHas.here | apply LHas.next); refine And.intro rfl ?_) | exact KeepL.nil)
    | (show InL _ _; first | exact InL.here | refine InL.next ?_)
    | (show False; (exact T.num))
  all_goals (try dsimp only)
  all_goals first
    | ((refine RetL.val ?_ ?_; rotate_left; (focus ((repeat' first | exact LSub.nil | (with_reducible exact LSub.refl) | (apply LSub.cons; ((try show LHas _ _ _); repeat (with_reducible show LHas _ _ _); first | apply LHas.here | apply LHas.next); refine And.intro ?_ ?_; (focus (try (first | (with_reducible rfl) | (refine congrArg (Pl.mk _) ?_; (first | rfl | (simp; done))) | rfl | (with_reducible refine congrArg (Pl.mk _) ?_))))))))); rfl)
    | (exfalso; simp_all)
@[reducible] def lwX2T (X : Rdr) : Rdr := rtk 1 (rtk 2 (rtk 1 X))
set_option maxHeartbeats 1000000 in
theorem flow2T_c (r p : Nm) (X : Rdr) (R : List AV) (hR : R = rcs X) (k : Int) (s : Sm) (hrp : r ≠ p) (hf : s.f = 2) (hk : k = 2) : LSpec Try.prog G 54 [.ptr r 0, .ptr p 0, iAV k] [(r, ⟨82, R⟩), (p, ⟨28, s.fs⟩)] (fun _ => (.tup [], [(r, ⟨82, rcs (lwX2T X)⟩), (p, ⟨28, (lw2T X k s).fs⟩)])) := by
  subst hR
  obtain ⟨cx, f, n, tm, mr, id, ud, h, d, ck, pl⟩ := s
  obtain rfl : f = 2 := hf
  refine LSpec.introL tyOk Try.func54 rfl (by kernel_rfl) (by simp) (fun q => ⟨by simp, by (first | (simp [*]; done) | simp_all)⟩) ?_
  refine AWpL.sound tyOk [] _ _ _ _ ?_
  conv => whnf
  repeat' first
    | (show LHas _ _ _; ((try show LHas _ _ _); repeat (with_reducible show LHas _ _ _); first | apply LHas.here | apply LHas.next); conv => whnf)
    | ((first | (with_reducible refine And.intro ?_ ?_) | refine And.intro ?_ ?_); (focus (first | exact T.side)); conv => whnf)
    | (show LCall _ _ _ _ _ _; first | (apply LCall.upd (ft1_c _ _); ((try show LHas _ _ _); repeat (with_reducible show LHas _ _ _); first | apply LHas.here | apply LHas.next); refine And.intro rfl ?_; conv => whnf) | (apply LCall.upd (ft2_c _ _); ((try show LHas _ _ _); repeat (with_reducible show LHas _ _ _); first | apply LHas.here | apply LHas.next); refine And.intro rfl ?_; conv => whnf) | (apply LCall.upd (ft4_c _ _); ((try show LHas _ _ _); repeat (with_reducible show LHas _ _ _); first | apply LHas.here | apply LHas.next); refine And.intro rfl ?_; conv => whnf) | (apply LCall.eq; (focus (repeat first | (apply cons_congr; (focus (first | exact sl_bv rfl | exact sl_bv (by first | (simp; done) | (simp; (exact T.num))) | exact rfl))) | exact rfl)); first | (apply LCall.upd (ft1_c _ _); ((try show LHas _ _ _); repeat (with_reducible show LHas _ _ _); first | apply LHas.here | apply LHas.next); refine And.intro rfl ?_; conv => whnf) | (apply LCall.upd (ft2_c _ _); ((try show LHas _ _ _); repeat (with_reducible show LHas _ _ _); first | apply LHas.here | apply LHas.next); refine And.intro rfl ?_; conv => whnf) | (apply LCall.upd (ft4_c _ _); ((try show LHas _ _ _); repeat (with_reducible show LHas _ _ _); first | apply LHas.here | apply LHas.next); refine And.intro rfl ?_; conv => whnf)))
    | (show ABr _ _ _; first | (refine ABr.tt ?_; conv => whnf) | (refine ABr.ff ?_; conv => whnf) | (refine ABr.byN ?_) | ((with_reducible refine ABr.eqlT (by assumption) ?_); conv => whnf) | ((with_reducible refine ABr.eqlF (by assumption) ?_); conv => whnf) | ((with_reducible refine ABr.eql (fun h => ?_) (fun h => ?_)) <;> first | (exfalso; omega) | conv => whnf) | (refine ABr.byT (by with_reducible assumption) ?_; conv => whnf) | (refine ABr.byF (by with_reducible assumption) ?_; conv => whnf) | ((with_reducible refine ABr.decT rfl ?_); conv => whnf) | ((with_reducible refine ABr.decT (by assumption) ?_); conv => whnf) | ((with_reducible refine ABr.decF (by assumption) ?_); conv => whnf) | (refine ABr.dec (fun h => ?_) (fun h => ?_) <;> first | (exfalso; omega) | conv => whnf) | (refine ABr.gen (fun h => ?_) (fun h => ?_) <;> conv => whnf))
    | (show ACell _ _ _; first | (refine ACell.cell 0 ?_ ?_; (focus (first | exact T.side)); conv => whnf) | (refine ACell.mk ?_; conv => whnf))
    | (show AList _ _; first | (refine AList.app ?_ ?_; (focus (first | exact T.side)); conv => whnf) | (refine AList.set (x := b8 _) (bAV_b8 _).symm ?_ ?_; (focus (first | exact T.side)); conv => whnf) | (refine AList.set (f := iAV) rfl ?_ ?_; (focus (first | exact T.side)); conv => whnf) | (refine AList.part ?_; conv => whnf) | (refine AList.force ?_; (conv => whnf); refine Lit.mk ?_; conv => whnf) | (refine AList.full ?_ ?_; (focus (first | exact Nat.le_of_ble_eq_true rfl | (simp; done) | (simp; omega))); conv => whnf) | (refine AList.mk ?_; conv => whnf))
    | (refine LFresh.mk fun r => ?_; conv => whnf)
    | (show KeepL _ _ _; first | (with_reducible exact KeepL.refl) | (refine KeepL.cons ?_; ((try show LHas _ _ _); repeat (with_reducible show LHas _ _ _); first | apply LHas.here | apply LHas.next); ((try show LHas _ _ _); repeat (with_reducible show LHas _ _ _); first | apply LHas.here | apply LHas.next); refine And.intro rfl ?_) | exact KeepL.nil)
    | (show InL _ _; first | exact InL.here | refine InL.next ?_)
    | (show False; (exact T.num))
  all_goals (try dsimp only)
  all_goals first
    | ((refine RetL.val ?_ ?_; rotate_left; (focus ((repeat' first | exact LSub.nil | (with_reducible exact LSub.refl) | (apply LSub.cons; ((try show LHas _ _ _); repeat (with_reducible show LHas _ _ _); first | apply LHas.here | apply LHas.next); refine And.intro ?_ ?_; (focus (try (first | (with_reducible rfl) | (refine congrArg (Pl.mk _) ?_; (first | rfl | (simp; done))) | rfl | (with_reducible refine congrArg (Pl.mk _) ?_))))))))); rfl)
    | (exfalso; simp_all)
@[reducible] def lwX2U (X : Rdr) : Rdr := rtk 1 (rtk 1 X)
set_option maxHeartbeats 1000000 in
theorem flow2U_c (r p : Nm) (X : Rdr) (R : List AV) (hR : R = rcs X) (k : Int) (s : Sm) (hrp : r ≠ p) (hf : s.f = 2) (hk : k ≠ 2) : LSpec Try.prog G 54 [.ptr r 0, .ptr p 0, iAV k] [(r, ⟨82, R⟩), (p, ⟨28, s.fs⟩)] (fun _ => (.tup [], [(r, ⟨82, rcs (lwX2U X)⟩), (p, ⟨28, (lw2U X k s).fs⟩)])) := by
  subst hR
  obtain ⟨cx, f, n, tm, mr, id, ud, h, d, ck, pl⟩ := s
  obtain rfl : f = 2 := hf
  refine LSpec.introL tyOk Try.func54 rfl (by kernel_rfl) (by simp) (fun q => ⟨by simp, by (first | (simp [*]; done) | simp_all)⟩) ?_
  refine AWpL.sound tyOk [] _ _ _ _ ?_
  conv => whnf
  repeat' first
    | (show LHas _ _ _; ((try show LHas _ _ _); repeat (with_reducible show LHas _ _ _); first | apply LHas.here | apply LHas.next); conv => whnf)
    | ((first | (with_reducible refine And.intro ?_ ?_) | refine And.intro ?_ ?_); (focus (first | exact T.side)); conv => whnf)
    | (show LCall _ _ _ _ _ _; first | (apply LCall.upd (ft1_c _ _); ((try show LHas _ _ _); repeat (with_reducible show LHas _ _ _); first | apply LHas.here | apply LHas.next); refine And.intro rfl ?_; conv => whnf) | (apply LCall.upd (ft2_c _ _); ((try show LHas _ _ _); repeat (with_reducible show LHas _ _ _); first | apply LHas.here | apply LHas.next); refine And.intro rfl ?_; conv => whnf) | (apply LCall.upd (ft4_c _ _); ((try show LHas _ _ _); repeat (with_reducible show LHas _ _ _); first | apply LHas.here | apply LHas.next); refine And.intro rfl ?_; conv => whnf) | (apply LCall.eq; (focus (repeat first | (apply cons_congr; (focus (first | exact sl_bv rfl | exact sl_bv (by first | (simp; done) | (simp; (exact T.num))) | exact rfl))) | exact rfl)); first | (apply LCall.upd (ft1_c _ _); ((try show LHas _ _ _); repeat (with_reducible show LHas _ _ _); first | apply LHas.here | apply LHas.next); refine And.intro rfl ?_; conv => whnf) | (apply LCall.upd (ft2_c _ _); ((try show LHas _ _ _); repeat (with_reducible show LHas _ _ _); first | apply LHas.here | apply LHas.next); refine And.intro rfl ?_; conv => whnf) | (apply LCall.upd (ft4_c _ _); ((try show LHas _ _ _); repeat (with_reducible show LHas _ _ _); first | apply LHas.here | apply LHas.next); refine And.intro rfl ?_; conv => whnf)))
    | (show ABr _ _ _; first | (refine ABr.tt ?_; conv => whnf) | (refine ABr.ff ?_; conv => whnf) | (refine ABr.byN ?_) | ((with_reducible refine ABr.eqlT (by assumption) ?_); conv => whnf) | ((with_reducible refine ABr.eqlF (by assumption) ?_); conv => whnf) | ((with_reducible refine ABr.eql (fun h => ?_) (fun h => ?_)) <;> first | (exfalso; omega) | conv => whnf) | (refine ABr.byT (by with_reducible assumption) ?_; conv => whnf) | (refine ABr.byF (by with_reducible assumption) ?_; conv => whnf) | ((with_reducible refine ABr.decT rfl ?_); conv => whnf) | ((with_reducible refine ABr.decT (by assumption) ?_); conv => whnf) | ((with_reducible refine ABr.decF (by assumption) ?_); conv => whnf) | (refine ABr.dec (fun h => ?_) (fun h => ?_) <;> first | (exfalso; omega) | conv => whnf) | (refine ABr.gen (fun h => ?_) (fun h => ?_) <;> conv => whnf))
    | (show ACell _ _ _; first | (refine ACell.cell 0 ?_ ?_; (focus (first | exact T.side)); conv => whnf) | (refine ACell.mk ?_; conv => whnf))
    | (show AList _ _; first | (refine AList.app ?_ ?_; (focus (first | exact T.side)); conv => whnf) | (refine AList.set (x := b8 _) (bAV_b8 _).symm ?_ ?_; (focus (first | exact T.side)); conv => whnf) | (refine AList.set (f := iAV) rfl ?_ ?_; (focus (first | exact T.side)); conv => whnf) | (refine AList.part ?_; conv => whnf) | (refine AList.force ?_; (conv => whnf); refine Lit.mk ?_; conv => whnf) | (refine AList.full ?_ ?_; (focus (first | exact Nat.le_of_ble_eq_true rfl | (simp; done) | (simp; omega))); conv => whnf) | (refine AList.mk ?_; conv => whnf))
    | (refine LFresh.mk fun r => ?_; conv => whnf)
    | (show KeepL _ _ _; first | (with_reducible exact KeepL.refl) | (refine KeepL.cons ?_; ((try show LHas _ _ _); repeat (with_reducible show LHas _ _ _); first | apply LHas.here | apply LHas.next); ((try show LHas _ _ _); repeat (with_reducible show LHas _ _ _); first | apply LHas.here | apply LHas.next); refine And.intro rfl ?_) | exact KeepL.nil)
    | (show InL _ _; first | exact InL.here | refine InL.next ?_)
    | (show False; (exact T.num))
  all_goals (try dsimp only)
  all_goals first
    | ((refine RetL.val ?_ ?_; rotate_left; (focus ((repeat' first | exact LSub.nil | (with_reducible exact LSub.refl) | (apply LSub.cons; ((try show LHas _ _ _); repeat (with_reducible show LHas _ _ _); first | apply LHas.here | apply LHas.next); refine And.intro ?_ ?_; (focus (try (first | (with_reducible rfl) | (refine congrArg (Pl.mk _) ?_; (first | rfl | (simp; done))) | rfl | (with_reducible refine congrArg (Pl.mk _) ?_))))))))); rfl)
    | (exfalso; simp_all)
@[reducible] def lwX3T (X : Rdr) : Rdr := rtk 1 (rtk 2 (rtk 4 (rtk 1 (rtk 1 X))))
set_option maxHeartbeats 1000000 in
theorem flow3T_c (r p : Nm) (X : Rdr) (R : List AV) (hR : R = rcs X) (k : Int) (s : Sm) (hrp : r ≠ p) (hf : s.f = 3) (hk : k = 2) : LSpec Try.prog G 54 [.ptr r 0, .ptr p 0, iAV k] [(r, ⟨82, R⟩), (p, ⟨28, s.fs⟩)] (fun _ => (.tup [], [(r, ⟨82, rcs (lwX3T X)⟩), (p, ⟨28, (lw3T X k s).fs⟩)])) := by
  subst hR
  obtain ⟨cx, f, n, tm, mr, id, ud, h, d, ck, pl⟩ := s
  obtain rfl : f = 3 := hf
  refine LSpec.introL tyOk Try.func54 rfl (by kernel_rfl) (by simp) (fun q => ⟨by simp, by (first | (simp [*]; done) | simp_all)⟩) ?_
  refine AWpL.sound tyOk [] _ _ _ _ ?_
  conv => whnf
  repeat' first
    | (show LHas _ _ _; ((try show LHas _ _ _); repeat (with_reducible show LHas _ _ _); first | apply LHas.here | apply LHas.next); conv => whnf)
    | ((first | (with_reducible refine And.intro ?_ ?_) | refine And.intro ?_ ?_); (focus (first | exact T.side)); conv => whnf)
    | (show LCall _ _ _ _ _ _; first | (refine LCall.pure (nb3T_c k hk) ?_; conv => whnf) | (apply LCall.upd (ft1_c _ _); ((try show LHas _ _ _); repeat (with_reducible show LHas _ _ _); first | apply LHas.here | apply LHas.next); refine And.intro rfl ?_; conv => whnf) | (apply LCall.upd (ft2_c _ _); ((try show LHas _ _ _); repeat (with_reducible show LHas _ _ _); first | apply LHas.here | apply LHas.next); refine And.intro rfl ?_; conv => whnf) | (apply LCall.upd (ft4_c _ _); ((try show LHas _ _ _); repeat (with_reducible show LHas _ _ _); first | apply LHas.here | apply LHas.next); refine And.intro rfl ?_; conv => whnf) | (apply LCall.eq; (focus (repeat first | (apply cons_congr; (focus (first | exact sl_bv rfl | exact sl_bv (by first | (simp; done) | (simp; (exact T.num))) | exact rfl))) | exact rfl)); first | (refine LCall.pure (nb3T_c k hk) ?_; conv => whnf) | (apply LCall.upd (ft1_c _ _); ((try show LHas _ _ _); repeat (with_reducible show LHas _ _ _); first | apply LHas.here | apply LHas.next); refine And.intro rfl ?_; conv => whnf) | (apply LCall.upd (ft2_c _ _); ((try show LHas _ _ _); repeat (with_reducible show LHas _ _ _); first | apply LHas.here | apply LHas.next); refine And.intro rfl ?_; conv => whnf) | (apply LCall.upd (ft4_c _ _); ((try show LHas _ _ _); repeat (with_reducible show LHas _ _ _); first | apply LHas.here | apply LHas.next); refine And.intro rfl ?_; conv => whnf)))
    | (show ABr _ _ _; first | (refine ABr.tt ?_; conv => whnf) | (refine ABr.ff ?_; conv => whnf) | (refine ABr.byN ?_) | ((with_reducible refine ABr.eqlT (by assumption) ?_); conv => whnf) | ((with_reducible refine ABr.eqlF (by assumption) ?_); conv => whnf) | ((with_reducible refine ABr.eql (fun h => ?_) (fun h => ?_)) <;> first | (exfalso; omega) | conv => whnf) | (refine ABr.byT (by with_reducible assumption) ?_; conv => whnf) | (refine ABr.byF (by with_reducible assumption) ?_; conv => whnf) | ((with_reducible refine ABr.decT rfl ?_); conv => whnf) | ((with_reducible refine ABr.decT (by assumption) ?_); conv => whnf) | ((with_reducible refine ABr.decF (by assumption) ?_); conv => whnf) | (refine ABr.dec (fun h => ?_) (fun h => ?_) <;> first | (exfalso; omega) | conv => whnf) | (refine ABr.gen (fun h => ?_) (fun h => ?_) <;> conv => whnf))
    | (show ACell _ _ _; first | (refine ACell.cell 0 ?_ ?_; (focus (first | exact T.side)); conv => whnf) | (refine ACell.mk ?_; conv => whnf))
    | (show AList _ _; first | (refine AList.app ?_ ?_; (focus (first | exact T.side)); conv => whnf) | (refine AList.set (x := b8 _) (bAV_b8 _).symm ?_ ?_; (focus (first | exact T.side)); conv => whnf) | (refine AList.set (f := iAV) rfl ?_ ?_; (focus (first | exact T.side)); conv => whnf) | (refine AList.part ?_; conv => whnf) | (refine AList.force ?_; (conv => whnf); refine Lit.mk ?_; conv => whnf) | (refine AList.full ?_ ?_; (focus (first | exact Nat.le_of_ble_eq_true rfl | (simp; done) | (simp; omega))); conv => whnf) | (refine AList.mk ?_; conv => whnf))
    | (refine LFresh.mk fun r => ?_; conv => whnf)
    | (show KeepL _ _ _; first | (with_reducible exact KeepL.refl) | (refine KeepL.cons ?_; ((try show LHas _ _ _); repeat (with_reducible show LHas _ _ _); first | apply LHas.here | apply LHas.next); ((try show LHas _ _ _); repeat (with_reducible show LHas _ _ _); first | apply LHas.here | apply LHas.next); refine And.intro rfl ?_) | exact KeepL.nil)
    | (show InL _ _; first | exact InL.here | refine InL.next ?_)
    | (show False; (exact T.num))
  all_goals (try dsimp only)
  all_goals first
    | ((refine RetL.val ?_ ?_; rotate_left; (focus ((repeat' first | exact LSub.nil | (with_reducible exact LSub.refl) | (apply LSub.cons; ((try show LHas _ _ _); repeat (with_reducible show LHas _ _ _); first | apply LHas.here | apply LHas.next); refine And.intro ?_ ?_; (focus (try (first | (with_reducible rfl) | (refine congrArg (Pl.mk _) ?_; (first | rfl | (simp; done))) | rfl | (with_reducible refine congrArg (Pl.mk _) ?_))))))))); rfl)
    | (exfalso; simp_all)
@[reducible] def lwX3U (X : Rdr) : Rdr := rtk 1 (rtk 2 (rtk 1 X))
set_option maxHeartbeats 1000000 in
theorem flow3U_c (r p : Nm) (X : Rdr) (R : List AV) (hR : R = rcs X) (k : Int) (s : Sm) (hrp : r ≠ p) (hf : s.f = 3) (hk : k ≠ 2) : LSpec Try.prog G 54 [.ptr r 0, .ptr p 0, iAV k] [(r, ⟨82, R⟩), (p, ⟨28, s.fs⟩)] (fun _ => (.tup [], [(r, ⟨82, rcs (lwX3U X)⟩), (p, ⟨28, (lw3U X k s).fs⟩)])) := by
  subst hR
  obtain ⟨cx, f, n, tm, mr, id, ud, h, d, ck, pl⟩ := s
  obtain rfl : f = 3 := hf
  refine LSpec.introL tyOk Try.func54 rfl (by kernel_rfl) (by simp) (fun q => ⟨by simp, by (first | (simp [*]; done) | simp_all)⟩) ?_
  refine AWpL.sound tyOk [] _ _ _ _ ?_
  conv => whnf
  repeat' first
    | (show LHas _ _ _; ((try show LHas _ _ _); repeat (with_reducible show LHas _ _ _); first | apply LHas.here | apply LHas.next); conv => whnf)
    | ((first | (with_reducible refine And.intro ?_ ?_) | refine And.intro ?_ ?_); (focus (first | exact T.side)); conv => whnf)
    | (show LCall _ _ _ _ _ _; first | (refine LCall.pure (nb3U_c k hk) ?_; conv => whnf) | (apply LCall.upd (ft1_c _ _); ((try show LHas _ _ _); repeat (with_reducible show LHas _ _ _); first | apply LHas.here | apply LHas.next); refine And.intro rfl ?_; conv => whnf) | (apply LCall.upd (ft2_c _ _); ((try show LHas _ _ _); repeat (with_reducible show LHas _ _ _); first | apply LHas.here | apply LHas.next); refine And.intro rfl ?_; conv => whnf) | (apply LCall.upd (ft4_c _ _); ((try show LHas _ _ _); repeat (with_reducible show LHas _ _ _); first | apply LHas.here | apply LHas.next); refine And.intro rfl ?_; conv => whnf) | (apply LCall.eq; (focus (repeat first | (apply cons_congr; (focus (first | exact sl_bv rfl | exact sl_bv (by first | (simp; done) | (simp; (exact T.num))) | exact rfl))) | exact rfl)); first | (refine LCall.pure (nb3U_c k hk) ?_; conv => whnf) | (apply LCall.upd (ft1_c _ _); ((try show LHas _ _ _); repeat (with_reducible show LHas _ _ _); first | apply LHas.here | apply LHas.next); refine And.intro rfl ?_; conv => whnf) | (apply LCall.upd (ft2_c _ _); ((try show LHas _ _ _); repeat (with_reducible show LHas _ _ _); first | apply LHas.here | apply LHas.next); refine And.intro rfl ?_; conv => whnf) | (apply LCall.upd (ft4_c _ _); ((try show LHas _ _ _); repeat (with_reducible show LHas _ _ _); first | apply LHas.here | apply LHas.next); refine And.intro rfl ?_; conv => whnf)))
    | (show ABr _ _ _; first | (refine ABr.tt ?_; conv => whnf) | (refine ABr.ff ?_; conv => whnf) | (refine ABr.byN ?_) | ((with_reducible refine ABr.eqlT (by assumption) ?_); conv => whnf) | ((with_reducible refine ABr.eqlF (by assumption) ?_); conv => whnf) | ((with_reducible refine ABr.eql (fun h => ?_) (fun h => ?_)) <;> first | (exfalso; omega) | conv => whnf) | (refine ABr.byT (by with_reducible assumption) ?_; conv => whnf) | (refine ABr.byF (by with_reducible assumption) ?_; conv => whnf) | ((with_reducible refine ABr.decT rfl ?_); conv => whnf) | ((with_reducible refine ABr.decT (by assumption) ?_); conv => whnf) | ((with_reducible refine ABr.decF (by assumption) ?_); conv => whnf) | (refine ABr.dec (fun h => ?_) (fun h => ?_) <;> first | (exfalso; omega) | conv => whnf) | (refine ABr.gen (fun h => ?_) (fun h => ?_) <;> conv => whnf))
    | (show ACell _ _ _; first | (refine ACell.cell 0 ?_ ?_; (focus (first | exact T.side)); conv => whnf) | (refine ACell.mk ?_; conv => whnf))
    | (show AList _ _; first | (refine AList.app ?_ ?_; (focus (first | exact T.side)); conv => whnf) | (refine AList.set (x := b8 _) (bAV_b8 _).symm ?_ ?_; (focus (first | exact T.side)); conv => whnf) | (refine AList.set (f := iAV) rfl ?_ ?_; (focus (first | exact T.side)); conv => whnf) | (refine AList.part ?_; conv => whnf) | (refine AList.force ?_; (conv => whnf); refine Lit.mk ?_; conv => whnf) | (refine AList.full ?_ ?_; (focus (first | exact Nat.le_of_ble_eq_true rfl | (simp; done) | (simp; omega))); conv => whnf) | (refine AList.mk ?_; conv => whnf))
    | (refine LFresh.mk fun r => ?_; conv => whnf)
    | (show KeepL _ _ _; first | (with_reducible exact KeepL.refl) | (refine KeepL.cons ?_; ((try show LHas _ _ _); repeat (with_reducible show LHas _ _ _); first | apply LHas.here | apply LHas.next); ((try show LHas _ _ _); repeat (with_reducible show LHas _ _ _); first | apply LHas.here | apply LHas.next); refine And.intro rfl ?_) | exact KeepL.nil)
    | (show InL _ _; first | exact InL.here | refine InL.next ?_)
    | (show False; (exact T.num))
  all_goals (try dsimp only)
  all_goals first
    | ((refine RetL.val ?_ ?_; rotate_left; (focus ((repeat' first | exact LSub.nil | (with_reducible exact LSub.refl) | (apply LSub.cons; ((try show LHas _ _ _); repeat (with_reducible show LHas _ _ _); first | apply LHas.here | apply LHas.next); refine And.intro ?_ ?_; (focus (try (first | (with_reducible rfl) | (refine congrArg (Pl.mk _) ?_; (first | rfl | (simp; done))) | rfl | (with_reducible refine congrArg (Pl.mk _) ?_))))))))); rfl)
    | (exfalso; simp_all)
def fmR (c : UInt8) : Int := if c.toNat < 128 then 1 else if c.toNat < 192 then 2 else if c.toNat = 192 ∨ c.toNat = 193 then 3 else if c.toNat = 208 then 4 else if c.toNat = 209 then 5 else if c.toNat = 210 then 6 else 0
set_option maxRecDepth 100000 in
set_option maxHeartbeats 1000000 in
theorem fmt_c (c : UInt8) : LSpec Try.prog G 50 [bAV c] [] (fun _ => (.tup [iAV (fmR c), .bool (decide (fmR c ≠ 0))], [])) := by
  refine LSpec.introL tyOk Try.func50 rfl (by kernel_rfl) (by simp) (fun q => ⟨by simp, by simp⟩) ?_
  refine AWpL.sound tyOk [] _ _ _ _ ?_
  conv => whnf
  repeat' first
    | (show LHas _ _ _; ((try show LHas _ _ _); repeat (with_reducible show LHas _ _ _); first | apply LHas.here | apply LHas.next); conv => whnf)
    | ((first | (with_reducible refine And.intro ?_ ?_) | refine And.intro ?_ ?_); (focus (first | exact T.side)); conv => whnf)
    | (show ABr _ _ _; first | (refine ABr.tt ?_; conv => whnf) | (refine ABr.ff ?_; conv => whnf) | (refine ABr.byN ?_) | ((with_reducible refine ABr.lssT (by assumption) ?_); conv => whnf) | ((with_reducible refine ABr.lssF (by assumption) ?_); conv => whnf) | ((with_reducible refine ABr.lss (fun h => ?_) (fun h => ?_)) <;> first | (exfalso; omega) | conv => whnf) | ((with_reducible refine ABr.eqlT (by assumption) ?_); conv => whnf) | ((with_reducible refine ABr.eqlF (by assumption) ?_); conv => whnf) | ((with_reducible refine ABr.eql (fun h => ?_) (fun h => ?_)) <;> first | (exfalso; omega) | conv => whnf) | (refine ABr.byT (by with_reducible assumption) ?_; conv => whnf) | (refine ABr.byF (by with_reducible assumption) ?_; conv => whnf) | ((with_reducible refine ABr.decT rfl ?_); conv => whnf) | ((with_reducible refine ABr.decT (by assumption) ?_); conv => whnf) | ((with_reducible refine ABr.decF (by assumption) ?_); conv => whnf) | (refine ABr.dec (fun h => ?_) (fun h => ?_) <;> first | (exfalso; omega) | conv => whnf) | (refine ABr.gen (fun h => ?_) (fun h => ?_) <;> conv => whnf))
    | (show ACell _ _ _; first | (refine ACell.cell 0 ?_ ?_; (focus (first | exact T.side)); conv => whnf) | (refine ACell.mk ?_; conv => whnf))
    | (show AList _ _; first | (refine AList.app ?_ ?_; (focus (first | exact T.side)); conv => whnf) | (refine AList.set (x := b8 _) (bAV_b8 _).symm ?_ ?_; (focus (first | exact T.side)); conv => whnf) | (refine AList.set (f := iAV) rfl ?_ ?_; (focus (first | exact T.side)); conv => whnf) | (refine AList.part ?_; conv => whnf) | (refine AList.force ?_; (conv => whnf); refine Lit.mk ?_; conv => whnf) | (refine AList.full ?_ ?_; (focus (first | exact Nat.le_of_ble_eq_true rfl | (simp; done) | (simp; omega))); conv => whnf) | (refine AList.mk ?_; conv => whnf))
    | (refine LFresh.mk fun r => ?_; conv => whnf)
    | (show KeepL _ _ _; first | (with_reducible exact KeepL.refl) | (refine KeepL.cons ?_; ((try show LHas _ _ _); repeat (with_reducible show LHas _ _ _); first | apply LHas.here | apply LHas.next); ((try show LHas _ _ _); repeat (with_reducible show LHas _ _ _); first | apply LHas.here | apply LHas.next); refine And.intro rfl ?_) | exact KeepL.nil)
    | (show InL _ _; first | exact InL.here | refine InL.next ?_)
    | (show False; (exact T.num))
  all_goals (try dsimp only)
  all_goals
    (refine RetL.val ?_ ?_; rotate_left; (focus ((repeat' first | exact LSub.nil | (with_reducible exact LSub.refl) | (apply LSub.cons; ((try show LHas _ _ _); repeat (with_reducible show LHas _ _ _); first | apply LHas.here | apply LHas.next); refine And.intro ?_ ?_; (focus (try (first | (with_reducible rfl) | (refine congrArg (Pl.mk _) ?_; (first | rfl | (simp; done))) | rfl | (with_reducible refine congrArg (Pl.mk _) ?_)))))))))
    have hlt : c.toNat < 256 := c.toNat_lt
    refine congrArg AV.tup ?_
    first
      | (have e : fmR c = 0 := (by unfold fmR; (repeat' split) <;> omega)
         rw [e]; rfl)
      | (have e : fmR c = 1 := (by unfold fmR; (repeat' split) <;> omega)
         rw [e]; rfl)
      | (have e : fmR c = 2 := (by unfold fmR; (repeat' split) <;> omega)
         rw [e]; rfl)
      | (have e : fmR c = 3 := (by unfold fmR; (repeat' split) <;> omega)
         rw [e]; rfl)
      | (have e : fmR c = 4 := (by unfold fmR; (repeat' split) <;> omega)
         rw [e]; rfl)
      | (have e : fmR c = 5 := (by unfold fmR; (repeat' split) <;> omega)
         rw [e]; rfl)
      | (have e : fmR c = 6 := (by unfold fmR; (repeat' split) <;> omega)
         rw [e]; rfl)
def peekR : List UInt8 → Int × Int × Int
  | [] => (0, 0, 5)
  | a :: r => if 224 ≤ a.toNat ∧ a.toNat < 240 then (match r with | [] => (0, 0, 5) | b :: _ => if a.toNat = 224 ∨ fmR b = 0 ∨ b.toNat = 210 then (0, 0, 4) else ((a.toNat : Int) - 224, fmR b, 0)) else if fmR a = 0 then (0, 0, 4) else (0, fmR a, 0)
def pe (x : Int × Int × Int) : AV := .tup [iAV x.1, iAV x.2.1, iAV x.2.2]
theorem and240 : ∀ n : Nat, n < 256 → (ibits .and .u8 (n : Int) 240 = 224 ↔ (224 ≤ n ∧ n < 240)) := by decide +kernel
theorem nand240 : ∀ n : Nat, n < 256 → (224 ≤ n ∧ n < 240) → IntKind.i64.wrap (ibits .andNot .u8 (n : Int) 240) = (n : Int) - 224 := by decide +kernel
set_option maxHeartbeats 1000000 in
theorem fpeek_c (l : List UInt8) : LSpec Try.prog G 21 [bv l] [] (fun _ => (pe (peekR l), [])) := by
  match l with
  | [] =>
    refine LSpec.introL tyOk Try.func21 rfl (by kernel_rfl) (by simp) (fun q => ⟨by simp, by simp⟩) ?_
    refine AWpL.sound tyOk [] _ _ _ _ ?_
    conv => whnf
    repeat' first
      | (show LHas _ _ _; ((try show LHas _ _ _); repeat (with_reducible show LHas _ _ _); first | apply LHas.here | apply LHas.next); conv => whnf)
      | ((first | (with_reducible refine And.intro ?_ ?_) | refine And.intro ?_ ?_); (focus (first | exact T.side)); conv => whnf)
      | (show ABr _ _ _; first | (refine ABr.tt ?_; conv => whnf) | (refine ABr.ff ?_; conv => whnf) | (refine ABr.byN ?_) | ((with_reducible refine ABr.eqlT (by assumption) ?_); conv => whnf) | ((with_reducible refine ABr.eqlF (by assumption) ?_); conv => whnf) | ((with_reducible refine ABr.eql (fun h => ?_) (fun h => ?_)) <;> first | (exfalso; omega) | conv => whnf) | (refine ABr.byT (by with_reducible assumption) ?_; conv => whnf) | (refine ABr.byF (by with_reducible assumption) ?_; conv => whnf) | ((with_reducible refine ABr.decT rfl ?_); conv => whnf) | ((with_reducible refine ABr.decT (by assumption) ?_); conv => whnf) | ((with_reducible refine ABr.decF (by assumption) ?_); conv => whnf) | (refine ABr.dec (fun h => ?_) (fun h => ?_) <;> first | (exfalso; omega) | conv => whnf) | (refine ABr.gen (fun h => ?_) (fun h => ?_) <;> conv => whnf))
      | (show ACell _ _ _; first | (refine ACell.cell 0 ?_ ?_; (focus (first | exact T.side)); conv => whnf) | (refine ACell.mk ?_; conv => whnf))
      | (show AList _ _; first | (refine AList.app ?_ ?_; (focus (first | exact T.side)); conv => whnf) | (refine AList.set (x := b8 _) (bAV_b8 _).symm ?_ ?_; (focus (first | exact T.side)); conv => whnf) | (refine AList.set (f := iAV) rfl ?_ ?_; (focus (first | exact T.side)); conv => whnf) | (refine AList.part ?_; conv => whnf) | (refine AList.force ?_; (conv => whnf); refine Lit.mk ?_; conv => whnf) | (refine AList.full ?_ ?_; (focus (first | exact Nat.le_of_ble_eq_true rfl | (simp; done) | (simp; omega))); conv => whnf) | (refine AList.mk ?_; conv => whnf))
      | (refine LFresh.mk fun r => ?_; conv => whnf)
      | (show SWpL _ _ _ _ _ _ _; first | (apply SWpL.draw tyOk mixed (id := 7) [[], [0], [1, 0], [], [3], [4, 3], [2, 1, 0], [5, 4, 3, 6, 2, 1, 0]] [] [0, 1, 2, 3, 4, 5, 6, 7] [] (by kernel_rfl); conv => whnf))
      | (show KeepL _ _ _; first | (with_reducible exact KeepL.refl) | (refine KeepL.cons ?_; ((try show LHas _ _ _); repeat (with_reducible show LHas _ _ _); first | apply LHas.here | apply LHas.next); ((try show LHas _ _ _); repeat (with_reducible show LHas _ _ _); first | apply LHas.here | apply LHas.next); refine And.intro rfl ?_) | exact KeepL.nil)
      | (show InL _ _; first | exact InL.here | refine InL.next ?_)
      | (show False; (exact T.num))
      | exact Nm.b 0
      | (refine ⟨_, rfl, rfl, ?_⟩; conv => whnf)
    all_goals (try dsimp only)
    (refine RetL.val ?_ ?_; rotate_left; (focus ((repeat' first | exact LSub.nil | (with_reducible exact LSub.refl) | (apply LSub.cons; ((try show LHas _ _ _); repeat (with_reducible show LHas _ _ _); first | apply LHas.here | apply LHas.next); refine And.intro ?_ ?_; (focus (try (first | (with_reducible rfl) | (refine congrArg (Pl.mk _) ?_; (first | rfl | (simp; done))) | rfl | (with_reducible refine congrArg (Pl.mk _) ?_)))))))))
    rfl
  | [a] =>
    have hlt : a.toNat < 256 := a.toNat_lt
    have ha := and240 _ hlt
    refine LSpec.introL tyOk Try.func21 rfl (by kernel_rfl) (by simp) (fun q => ⟨by simp, by simp⟩) ?_
    refine AWpL.sound tyOk [] _ _ _ _ ?_
    conv => whnf
    repeat' first
      | (show LHas _ _ _; ((try show LHas _ _ _); repeat (with_reducible show LHas _ _ _); first | apply LHas.here | apply LHas.next); conv => whnf)
      | ((first | (with_reducible refine And.intro ?_ ?_) | refine And.intro ?_ ?_); (focus (first | exact T.side)); conv => whnf)
      | (show LCall _ _ _ _ _ _; first | (refine LCall.pure (fmt_c _) ?_; conv => whnf) | (apply LCall.eq; (focus (repeat first | (apply cons_congr; (focus (first | exact sl_bv rfl | exact sl_bv (by first | (simp; done) | (simp; (exact T.num))) | exact rfl))) | exact rfl)); first | (refine LCall.pure (fmt_c _) ?_; conv => whnf)))
      | (show ABr _ _ _; first | (refine ABr.tt ?_; conv => whnf) | (refine ABr.ff ?_; conv => whnf) | (refine ABr.byN ?_) | ((with_reducible refine ABr.eqlT (by assumption) ?_); conv => whnf) | ((with_reducible refine ABr.eqlF (by assumption) ?_); conv => whnf) | ((with_reducible refine ABr.eql (fun h => ?_) (fun h => ?_)) <;> first | (exfalso; omega) | conv => whnf) | (refine ABr.byT (by with_reducible assumption) ?_; conv => whnf) | (refine ABr.byF (by with_reducible assumption) ?_; conv => whnf) | ((with_reducible refine ABr.decT rfl ?_); conv => whnf) | ((with_reducible refine ABr.decT (by assumption) ?_); conv => whnf) | ((with_reducible refine ABr.decF (by assumption) ?_); conv => whnf) | (refine ABr.dec (fun h => ?_) (fun h => ?_) <;> first | (exfalso; omega) | conv => whnf) | (refine ABr.gen (fun h => ?_) (fun h => ?_) <;> conv => whnf))
      | (show ACell _ _ _; first | (refine ACell.cell 0 ?_ ?_; (focus (first | exact T.side)); conv => whnf) | (refine ACell.mk ?_; conv => whnf))
      | (show AList _ _; first | (refine AList.app ?_ ?_; (focus (first | exact T.side)); conv => whnf) | (refine AList.set (x := b8 _) (bAV_b8 _).symm ?_ ?_; (focus (first | exact T.side)); conv => whnf) | (refine AList.set (f := iAV) rfl ?_ ?_; (focus (first | exact T.side)); conv => whnf) | (refine AList.part ?_; conv => whnf) | (refine AList.force ?_; (conv => whnf); refine Lit.mk ?_; conv => whnf) | (refine AList.full ?_ ?_; (focus (first | exact Nat.le_of_ble_eq_true rfl | (simp; done) | (simp; omega))); conv => whnf) | (refine AList.mk ?_; conv => whnf))
      | (refine LFresh.mk fun r => ?_; conv => whnf)
      | (show SWpL _ _ _ _ _ _ _; first | (apply SWpL.draw tyOk mixed (id := 7) [[], [0], [1, 0], [], [3], [4, 3], [2, 1, 0], [5, 4, 3, 6, 2, 1, 0]] [] [0, 1, 2, 3, 4, 5, 6, 7] [] (by kernel_rfl); conv => whnf))
      | (show KeepL _ _ _; first | (with_reducible exact KeepL.refl) | (refine KeepL.cons ?_; ((try show LHas _ _ _); repeat (with_reducible show LHas _ _ _); first | apply LHas.here | apply LHas.next); ((try show LHas _ _ _); repeat (with_reducible show LHas _ _ _); first | apply LHas.here | apply LHas.next); refine And.intro rfl ?_) | exact KeepL.nil)
      | (show InL _ _; first | exact InL.here | refine InL.next ?_)
      | (show False; (exact T.num))
      | exact Nm.b 0
      | (refine ⟨_, rfl, rfl, ?_⟩; conv => whnf)
    all_goals (try dsimp only)
    all_goals
      dsimp only at *
      simp only [show Int.toNat 0 * 1 = 0 from rfl, show Int.toNat 1 * 1 = 1 from rfl, List.getD_cons_zero, List.getD_cons_succ] at *
      (refine RetL.val ?_ ?_; rotate_left; (focus ((repeat' first | exact LSub.nil | (with_reducible exact LSub.refl) | (apply LSub.cons; ((try show LHas _ _ _); repeat (with_reducible show LHas _ _ _); first | apply LHas.here | apply LHas.next); refine And.intro ?_ ?_; (focus (try (first | (with_reducible rfl) | (refine congrArg (Pl.mk _) ?_; (first | rfl | (simp; done))) | rfl | (with_reducible refine congrArg (Pl.mk _) ?_)))))))))
      refine congrArg AV.tup ?_
      simp only [peekR, iAV]
      first
        | (have hA : 224 ≤ a.toNat ∧ a.toNat < 240 := ha.1 (by assumption)
           rewrite [if_pos hA]
           (try rewrite [hb hA] at *)
           first
             | rfl
             | (split <;> first | rfl | (exfalso; omega) | (simp only [List.cons.injEq, AV.int.injEq, true_and, and_true]; omega)))
        | (have hA : ¬ (224 ≤ a.toNat ∧ a.toNat < 240) := fun h => absurd (ha.2 h) (by assumption)
           rewrite [if_neg hA]
           (split <;> first | rfl | (exfalso; omega) | (simp only [List.cons.injEq, AV.int.injEq, true_and, and_true]; omega)))
  | a :: b :: r =>
    have hlt : a.toNat < 256 := a.toNat_lt
    have ha := and240 _ hlt
    have hb := nand240 _ hlt
    refine LSpec.introL tyOk Try.func21 rfl (by kernel_rfl) (by simp) (fun q => ⟨by simp, by simp⟩) ?_
    refine AWpL.sound tyOk [] _ _ _ _ ?_
    conv => whnf
    repeat' first
      | (show LHas _ _ _; ((try show LHas _ _ _); repeat (with_reducible show LHas _ _ _); first | apply LHas.here | apply LHas.next); conv => whnf)
      | ((first | (with_reducible refine And.intro ?_ ?_) | refine And.intro ?_ ?_); (focus (first | exact T.side)); conv => whnf)
      | (show LCall _ _ _ _ _ _; first | (refine LCall.pure (fmt_c _) ?_; conv => whnf) | (apply LCall.eq; (focus (repeat first | (apply cons_congr; (focus (first | exact sl_bv rfl | exact sl_bv (by first | (simp; done) | (simp; (exact T.num))) | exact rfl))) | exact rfl)); first | (refine LCall.pure (fmt_c _) ?_; conv => whnf)))
      | (show ABr _ _ _; first | (refine ABr.tt ?_; conv => whnf) | (refine ABr.ff ?_; conv => whnf) | (refine ABr.byN ?_) | ((with_reducible refine ABr.eqlT (by assumption) ?_); conv => whnf) | ((with_reducible refine ABr.eqlF (by assumption) ?_); conv => whnf) | ((with_reducible refine ABr.eql (fun h => ?_) (fun h => ?_)) <;> first | (exfalso; omega) | conv => whnf) | (refine ABr.byT (by with_reducible assumption) ?_; conv => whnf) | (refine ABr.byF (by with_reducible assumption) ?_; conv => whnf) | ((with_reducible refine ABr.decT rfl ?_); conv => whnf) | ((with_reducible refine ABr.decT (by assumption) ?_); conv => whnf) | ((with_reducible refine ABr.decF (by assumption) ?_); conv => whnf) | (refine ABr.dec (fun h => ?_) (fun h => ?_) <;> first | (exfalso; omega) | conv => whnf) | (refine ABr.gen (fun h => ?_) (fun h => ?_) <;> conv => whnf))
      | (show ACell _ _ _; first | (refine ACell.cell 0 ?_ ?_; (focus (first | exact T.side)); conv => whnf) | (refine ACell.mk ?_; conv => whnf))
      | (show AList _ _; first | (refine AList.app ?_ ?_; (focus (first | exact T.side)); conv => whnf) | (refine AList.set (x := b8 _) (bAV_b8 _).symm ?_ ?_; (focus (first | exact T.side)); conv => whnf) | (refine AList.set (f := iAV) rfl ?_ ?_; (focus (first | exact T.side)); conv => whnf) | (refine AList.part ?_; conv => whnf) | (refine AList.force ?_; (conv => whnf); refine Lit.mk ?_; conv => whnf) | (refine AList.full ?_ ?_; (focus (first | exact Nat.le_of_ble_eq_true rfl | (simp; done) | (simp; omega))); conv => whnf) | (refine AList.mk ?_; conv => whnf))
      | (refine LFresh.mk fun r => ?_; conv => whnf)
      | (show SWpL _ _ _ _ _ _ _; first | (apply SWpL.draw tyOk mixed (id := 7) [[], [0], [1, 0], [], [3], [4, 3], [2, 1, 0], [5, 4, 3, 6, 2, 1, 0]] [] [0, 1, 2, 3, 4, 5, 6, 7] [] (by kernel_rfl); conv => whnf))
      | (show KeepL _ _ _; first | (with_reducible exact KeepL.refl) | (refine KeepL.cons ?_; ((try show LHas _ _ _); repeat (with_reducible show LHas _ _ _); first | apply LHas.here | apply LHas.next); ((try show LHas _ _ _); repeat (with_reducible show LHas _ _ _); first | apply LHas.here | apply LHas.next); refine And.intro rfl ?_) | exact KeepL.nil)
      | (show InL _ _; first | exact InL.here | refine InL.next ?_)
      | (show False; (exact T.num))
      | exact Nm.b 0
      | (refine ⟨_, rfl, rfl, ?_⟩; conv => whnf)
    all_goals (try dsimp only)
    all_goals
      dsimp only at *
      simp only [show Int.toNat 0 * 1 = 0 from rfl, show Int.toNat 1 * 1 = 1 from rfl, List.getD_cons_zero, List.getD_cons_succ] at *
      (refine RetL.val ?_ ?_; rotate_left; (focus ((repeat' first | exact LSub.nil | (with_reducible exact LSub.refl) | (apply LSub.cons; ((try show LHas _ _ _); repeat (with_reducible show LHas _ _ _); first | apply LHas.here | apply LHas.next); refine And.intro ?_ ?_; (focus (try (first | (with_reducible rfl) | (refine congrArg (Pl.mk _) ?_; (first | rfl | (simp; done))) | rfl | (with_reducible refine congrArg (Pl.mk _) ?_)))))))))
      refine congrArg AV.tup ?_
      simp only [peekR, iAV]
      first
        | (have hA : 224 ≤ a.toNat ∧ a.toNat < 240 := ha.1 (by assumption)
           rewrite [if_pos hA]
           (try rewrite [hb hA] at *)
           first
             | rfl
             | (split <;> first | rfl | (exfalso; omega) | (simp only [List.cons.injEq, AV.int.injEq, true_and, and_true]; omega)))
        | (have hA : ¬ (224 ≤ a.toNat ∧ a.toNat < 240) := fun h => absurd (ha.2 h) (by assumption)
           rewrite [if_neg hA]
           (split <;> first | rfl | (exfalso; omega) | (simp only [List.cons.injEq, AV.int.injEq, true_and, and_true]; omega)))
end Go.Proofs.Ytnlpjbedkdhlbaa
