import Derived.Test.YtnlpjbedkdhlbaaFmt11
namespace Go.Proofs.Ytnlpjbedkdhlbaa
open Go.RowKit
set_option linter.all false
variable {G : Nat → AV}
/-- A reader whose rest is not too long. -/
abbrev Rdr := {o : Option (List UInt8) // rdB o}
def rdr (l : List UInt8) (h : l.length ≤ 140737488355328) : Rdr := ⟨some l, h⟩
def rtk (n : Nat) (X : Rdr) : Rdr := ⟨tkR n X.1, X.2.take n⟩
def rv (n : Nat) (X : Rdr) : Int := tkV n X.1
def rE (X : Rdr) : Bool := X.1.isNone
def rL (X : Rdr) : List UInt8 := X.1.getD []
def rV (X : Rdr) : AV := match X.1 with | none => .nils | some l => bv l
@[reducible] def rcs (X : Rdr) : List AV := [rV X, .bool (rE X)]
theorem rcs_eq (X : Rdr) : rdCs X.1 = rcs X := by
  obtain ⟨_ | l, h⟩ := X <;> rfl
theorem rcs_rdr (l : List UInt8) (h : l.length ≤ 140737488355328) : rcs (rdr l h) = [bv l, .bool false] := rfl
theorem rE_take (n : Nat) (X : Rdr) (h : rE X = true) : rE (rtk n X) = true := by
  obtain ⟨_ | l, h⟩ := X
  · rfl
  · exact Bool.noConfusion h
theorem rE_some (X : Rdr) (h : rE X = false) : X.1 = some (rL X) := by
  obtain ⟨_ | l, h⟩ := X
  · exact Bool.noConfusion h
  · rfl
theorem rV_some (X : Rdr) (h : rE X = false) : rV X = bv (rL X) := by
  obtain ⟨_ | l, h⟩ := X
  · exact Bool.noConfusion h
  · rfl
theorem rL_le (X : Rdr) : (rL X).length ≤ 140737488355328 := by
  obtain ⟨_ | l, h⟩ := X
  · exact Nat.zero_le _
  · exact h
/-- The program's reader takes. -/
theorem ft_c (r : Nm) (n : Nat) (X : Rdr) (h : 1 ≤ n ∧ n ≤ 4) : LSpec Try.prog G 51 [.ptr r 0, iAV n] [(r, ⟨82, rcs X⟩)] (fun _ => (iAV (rv n X), [(r, ⟨82, rcs (rtk n X)⟩)])) := by
  have := ftake_c (G := G) r n X.1 ⟨h, X.2⟩
  rw [rcs_eq] at this
  exact (rcs_eq (rtk n X)) ▸ this
theorem ft1_c (r : Nm) (X : Rdr) : LSpec Try.prog G 51 [.ptr r 0, iAV 1] [(r, ⟨82, rcs X⟩)] (fun _ => (iAV (rv 1 X), [(r, ⟨82, rcs (rtk 1 X)⟩)])) := ft_c r 1 X (by decide)
theorem ft2_c (r : Nm) (X : Rdr) : LSpec Try.prog G 51 [.ptr r 0, iAV 2] [(r, ⟨82, rcs X⟩)] (fun _ => (iAV (rv 2 X), [(r, ⟨82, rcs (rtk 2 X)⟩)])) := ft_c r 2 X (by decide)
theorem ft4_c (r : Nm) (X : Rdr) : LSpec Try.prog G 51 [.ptr r 0, iAV 4] [(r, ⟨82, rcs X⟩)] (fun _ => (iAV (rv 4 X), [(r, ⟨82, rcs (rtk 4 X)⟩)])) := ft_c r 4 X (by decide)
theorem ftb_c (r : Nm) (l : List UInt8) (h : l.length ≤ 140737488355328) : LSpec Try.prog G 51 [.ptr r 0, iAV 1] [(r, ⟨82, [bv l, .bool false]⟩)] (fun _ => (iAV (rv 1 (rdr l h)), [(r, ⟨82, rcs (rtk 1 (rdr l h))⟩)])) := ft1_c r (rdr l h)
theorem rclone_c (X : Rdr) (h : rE X = false) : LSpec Try.prog G 55 [rV X] [] (fun _ => (bv (rL X), [])) := by rw [rV_some X h]; exact bclone_c (rL X) (rL_le X)
theorem rbe_c (l : List UInt8) (n : Nat) (h1 : 1 ≤ n) (h4 : n ≤ 4) (hl : n ≤ l.length) : LSpec Try.prog G 67 [bv l, iAV 0, iAV n] [] (fun _ => (iAV (beN (l.take n)), [])) := by
  have hr : ∀ i, i < n → 0 ≤ beN (l.take i) ∧ beN (l.take i) < 16777216 := fun i hi => by
    have h := beN_rng (l.take i)
    have hk : (l.take i).length = 0 ∨ (l.take i).length = 1 ∨ (l.take i).length = 2 ∨ (l.take i).length = 3 := by rw [List.length_take]; omega
    rcases hk with e | e | e | e <;> (rw [e] at h; omega)
  have hor : ∀ i, i < n → iarith .add .i64 (iarith .mul .i64 256 (beN (l.take i))) (IntKind.i64.wrap ((l.getD ((iarith .add .i64 0 i).toNat * 1) 0).toNat : Int)) = beN (l.take (i + 1)) := fun i hi => by
    have e0 : (iarith .add .i64 0 i).toNat * 1 = i := by simp only [iarith, IntKind.wrap_i64]; omega
    rw [e0]
    have := (l.getD i 0).toNat_lt
    have h3 := hr i hi
    rw [beN_take l i (by omega)]
    simp only [iarith, IntKind.wrap_i64]
    omega
  refine LSpec.introL tyOk Try.func67 rfl (by kernel_rfl) (by simp) (fun q => ⟨by simp, by simp⟩) ?_
  refine AWpL.sound tyOk [] _ _ _ _ ?_
  conv => whnf
  repeat' first
    | (show LHas _ _ _; ((try show LHas _ _ _); repeat (with_reducible show LHas _ _ _); first | apply LHas.here | apply LHas.next); conv => whnf)
    | ((first | (with_reducible refine And.intro ?_ ?_) | refine And.intro ?_ ?_); (focus (first | exact T.side)); conv => whnf)
    | (show ABr _ _ _; first | (refine ABr.tt ?_; conv => whnf) | (refine ABr.ff ?_; conv => whnf) | (refine ABr.byN ?_) | ((with_reducible refine ABr.lssT (by assumption) ?_); conv => whnf) | ((with_reducible refine ABr.lssF (by assumption) ?_); conv => whnf) | ((with_reducible refine ABr.lss (fun h => ?_) (fun h => ?_)) <;> first | (exfalso; omega) | conv => whnf) | (refine ABr.byT (by with_reducible assumption) ?_; conv => whnf) | (refine ABr.byF (by with_reducible assumption) ?_; conv => whnf) | ((with_reducible refine ABr.decT rfl ?_); conv => whnf) | ((with_reducible refine ABr.decT (by assumption) ?_); conv => whnf) | ((with_reducible refine ABr.decF (by assumption) ?_); conv => whnf) | (refine ABr.dec (fun h => ?_) (fun h => ?_) <;> first | (exfalso; omega) | conv => whnf) | (refine ABr.gen (fun h => ?_) (fun h => ?_) <;> conv => whnf))
    | (show ACell _ _ _; first | (refine ACell.cell 0 ?_ ?_; (focus (first | exact T.side)); conv => whnf) | (refine ACell.mk ?_; conv => whnf))
    | (show AList _ _; first | (refine AList.app ?_ ?_; (focus (first | exact T.side)); conv => whnf) | (refine AList.set (x := b8 _) (bAV_b8 _).symm ?_ ?_; (focus (first | exact T.side)); conv => whnf) | (refine AList.set (f := iAV) rfl ?_ ?_; (focus (first | exact T.side)); conv => whnf) | (refine AList.part ?_; conv => whnf) | (refine AList.force ?_; (conv => whnf); refine Lit.mk ?_; conv => whnf) | (refine AList.full ?_ ?_; (focus (first | exact Nat.le_of_ble_eq_true rfl | (simp; done) | (simp; omega))); conv => whnf) | (refine AList.mk ?_; conv => whnf))
    | (refine LFresh.mk fun r => ?_; conv => whnf)
    | (show SWpL _ _ _ _ _ _ _; first | (apply SWpL.loopC 3 (S := Nat) [0, 1, 2] (fun zz => match zz with | (i) => [(8, .int .i64 i), (7, .int .i64 (beN (l.take i)))]) (fun zz => match zz with | (i) => []) (fun zz => match zz with | (i) => i ≤ n) (fun zz => match zz with | (i) => n - i) (0) (by rfl); (focus ((repeat' first | exact trivial | (refine And.intro ?_ ?_) | exact LSub.nil | (with_reducible exact LSub.refl) | (apply LSub.cons; ((try show LHas _ _ _); repeat (with_reducible show LHas _ _ _); first | apply LHas.here | apply LHas.next); refine And.intro ?_ ?_; (focus (try (first | (with_reducible rfl) | (refine congrArg (Pl.mk _) ?_; (first | rfl | (simp; done))) | rfl | (with_reducible refine congrArg (Pl.mk _) ?_))))) | assumption | ((conv => lhs; whnf); with_reducible exact congrArg (AV.int .i64) (hor i (by omega))) | (first | rfl | ((conv => lhs; whnf); first | rfl | (refine congrArg (AV.int _) ?_; (exact T.num)) | (refine congrArg AV.bool ?_; (exact T.num)) | (refine vw_congr ?_; first | (exact T.num) | (first | rfl | (simp; done))) | (refine sl_congr ?_ ?_ <;> first | (exact T.num) | (first | rfl | (simp; done))) | (first | rfl | (simp; done)))) | (exact T.num) | (dsimp only; (exact T.num)) | (first | rfl | (simp; done))); done)); (rintro i hok; ((try dsimp only at hok); repeat (have hk := And.left hok; replace hok := And.right hok)); refine AtL.step tyOk [] ?_; conv => whnf)))
    | (show AtL _ _ _ _ _ _ _ _ _ _; first | (apply AtL.mk' (id := 3) (S := Nat) (i + 1); (repeat' first | exact trivial | (refine And.intro ?_ ?_) | exact LSub.nil | (with_reducible exact LSub.refl) | (apply LSub.cons; ((try show LHas _ _ _); repeat (with_reducible show LHas _ _ _); first | apply LHas.here | apply LHas.next); refine And.intro ?_ ?_; (focus (try (first | (with_reducible rfl) | (refine congrArg (Pl.mk _) ?_; (first | rfl | (simp; done))) | rfl | (with_reducible refine congrArg (Pl.mk _) ?_))))) | assumption | ((conv => lhs; whnf); with_reducible exact congrArg (AV.int .i64) (hor i (by omega))) | (first | rfl | ((conv => lhs; whnf); first | rfl | (refine congrArg (AV.int _) ?_; (exact T.num)) | (refine congrArg AV.bool ?_; (exact T.num)) | (refine vw_congr ?_; first | (exact T.num) | (first | rfl | (simp; done))) | (refine sl_congr ?_ ?_ <;> first | (exact T.num) | (first | rfl | (simp; done))) | (first | rfl | (simp; done)))) | (exact T.num) | (dsimp only; (exact T.num)) | (first | rfl | (simp; done))); done) | (apply AtL.mk' (id := 3) (S := Nat) (i + 1); (repeat' first | exact trivial | (refine And.intro ?_ ?_) | exact LSub.nil | (with_reducible exact LSub.refl) | (apply LSub.cons; ((try show LHas _ _ _); repeat (with_reducible show LHas _ _ _); first | apply LHas.here | apply LHas.next); refine And.intro ?_ ?_; (focus (try (first | (with_reducible rfl) | (refine congrArg (Pl.mk _) ?_; (first | rfl | (simp; done))) | rfl | (with_reducible refine congrArg (Pl.mk _) ?_))))) | assumption | ((conv => lhs; whnf); with_reducible exact congrArg (AV.int .i64) (hor i (by omega))) | (first | rfl | ((conv => lhs; whnf); first | rfl | (refine congrArg (AV.int _) ?_; (exact T.num)) | (refine congrArg AV.bool ?_; (exact T.num)) | (refine vw_congr ?_; first | (exact T.num) | (first | rfl | (simp; done))) | (refine sl_congr ?_ ?_ <;> first | (exact T.num) | (first | rfl | (simp; done))) | (first | rfl | (simp; done)))) | (exact T.num) | (dsimp only; (exact T.num)) | (first | rfl | (simp; done)))))
    | (show KeepL _ _ _; first | (with_reducible exact KeepL.refl) | (refine KeepL.cons ?_; ((try show LHas _ _ _); repeat (with_reducible show LHas _ _ _); first | apply LHas.here | apply LHas.next); ((try show LHas _ _ _); repeat (with_reducible show LHas _ _ _); first | apply LHas.here | apply LHas.next); refine And.intro rfl ?_) | exact KeepL.nil)
    | (show InL _ _; first | exact InL.here | refine InL.next ?_)
    | (show False; (exact T.num))
    | (refine ⟨_, rfl, rfl, ?_⟩; conv => whnf)
  all_goals (try dsimp only)
  all_goals (obtain rfl : i = n := (by omega))
  all_goals (refine RetL.val ?_ ?_; rotate_left; (focus ((repeat' first | exact LSub.nil | (with_reducible exact LSub.refl) | (apply LSub.cons; ((try show LHas _ _ _); repeat (with_reducible show LHas _ _ _); first | apply LHas.here | apply LHas.next); refine And.intro ?_ ?_; (focus (try (first | (with_reducible rfl) | (refine congrArg (Pl.mk _) ?_; (first | rfl | (simp; done))) | rfl | (with_reducible refine congrArg (Pl.mk _) ?_)))))))))
  all_goals rfl
theorem rtake_s (r : Nm) (n : Nat) (l : List UInt8) (h1 : 1 ≤ n) (h4 : n ≤ 4) (hl : l.length ≤ 140737488355328) : LSpec Try.prog G 57 [.ptr r 0, iAV n] [(r, ⟨91, [bv l, .bool false]⟩)] (fun _ => (iAV (tkV n (some l)), [(r, ⟨91, rdCs (tkR n (some l))⟩)])) := by
  by_cases h : l.length < n
  · have e1 : tkV n (some l) = 0 := if_pos h
    have e2 : tkR n (some l) = none := if_pos h
    rw [e1, e2]
    refine LSpec.introL tyOk Try.func57 rfl (by kernel_rfl) (by simp) (fun q => ⟨by simp, by simp⟩) ?_
    refine AWpL.sound tyOk [] _ _ _ _ ?_
    conv => whnf
    repeat' first
      | (show LHas _ _ _; ((try show LHas _ _ _); repeat (with_reducible show LHas _ _ _); first | apply LHas.here | apply LHas.next); conv => whnf)
      | ((first | (with_reducible refine And.intro ?_ ?_) | refine And.intro ?_ ?_); (focus (first | exact T.side)); conv => whnf)
      | (show ABr _ _ _; first | (refine ABr.tt ?_; conv => whnf) | (refine ABr.ff ?_; conv => whnf) | (refine ABr.byN ?_) | ((with_reducible refine ABr.lssT (by assumption) ?_); conv => whnf) | ((with_reducible refine ABr.lssF (by assumption) ?_); conv => whnf) | ((with_reducible refine ABr.lss (fun h => ?_) (fun h => ?_)) <;> first | (exfalso; omega) | conv => whnf) | (refine ABr.byT (by with_reducible assumption) ?_; conv => whnf) | (refine ABr.byF (by with_reducible assumption) ?_; conv => whnf) | ((with_reducible refine ABr.decT rfl ?_); conv => whnf) | ((with_reducible refine ABr.decT (by assumption) ?_); conv => whnf) | ((with_reducible refine ABr.decF (by assumption) ?_); conv => whnf) | (refine ABr.dec (fun h => ?_) (fun h => ?_) <;> first | (exfalso; omega) | conv => whnf) | (refine ABr.gen (fun h => ?_) (fun h => ?_) <;> conv => whnf))
      | (show ACell _ _ _; first | (refine ACell.cell 0 ?_ ?_; (focus (first | exact T.side)); conv => whnf) | (refine ACell.mk ?_; conv => whnf))
      | (show AList _ _; first | (refine AList.app ?_ ?_; (focus (first | exact T.side)); conv => whnf) | (refine AList.set (x := b8 _) (bAV_b8 _).symm ?_ ?_; (focus (first | exact T.side)); conv => whnf) | (refine AList.set (f := iAV) rfl ?_ ?_; (focus (first | exact T.side)); conv => whnf) | (refine AList.part ?_; conv => whnf) | (refine AList.force ?_; (conv => whnf); refine Lit.mk ?_; conv => whnf) | (refine AList.full ?_ ?_; (focus (first | exact Nat.le_of_ble_eq_true rfl | (simp; done) | (simp; omega))); conv => whnf) | (refine AList.mk ?_; conv => whnf))
      | (refine LFresh.mk fun r => ?_; conv => whnf)
      | (show KeepL _ _ _; first | (with_reducible exact KeepL.refl) | (refine KeepL.cons ?_; ((try show LHas _ _ _); repeat (with_reducible show LHas _ _ _); first | apply LHas.here | apply LHas.next); ((try show LHas _ _ _); repeat (with_reducible show LHas _ _ _); first | apply LHas.here | apply LHas.next); refine And.intro rfl ?_) | exact KeepL.nil)
      | (show InL _ _; first | exact InL.here | refine InL.next ?_)
      | (refine dec_yes ?_ ?_; (focus (first | exact .inl rfl | (exact T.num))); conv => whnf)
      | (refine dec_no ?_ ?_; (focus (exact T.num)); conv => whnf)
      | (refine dec_both (fun h => ?_) (fun h => ?_) <;> conv => whnf)
      | (show False; (exact T.num))
    all_goals (try dsimp only)
    (refine RetL.val ?_ ?_; rotate_left; (focus ((repeat' first | exact LSub.nil | (with_reducible exact LSub.refl) | (apply LSub.cons; ((try show LHas _ _ _); repeat (with_reducible show LHas _ _ _); first | apply LHas.here | apply LHas.next); refine And.intro ?_ ?_; (focus (try (first | (with_reducible rfl) | (refine congrArg (Pl.mk _) ?_; (first | rfl | (simp; done))) | rfl | (with_reducible refine congrArg (Pl.mk _) ?_)))))))))
    rfl
  · have e1 : tkV n (some l) = beN (l.take n) := if_neg h
    have e2 : tkR n (some l) = some (l.drop n) := if_neg h
    rw [e1, e2]
    refine LSpec.introL tyOk Try.func57 rfl (by kernel_rfl) (by simp) (fun q => ⟨by simp, by simp⟩) ?_
    refine AWpL.sound tyOk [] _ _ _ _ ?_
    conv => whnf
    repeat' first
      | (show LHas _ _ _; ((try show LHas _ _ _); repeat (with_reducible show LHas _ _ _); first | apply LHas.here | apply LHas.next); conv => whnf)
      | ((first | (with_reducible refine And.intro ?_ ?_) | refine And.intro ?_ ?_); (focus (first | exact T.side)); conv => whnf)
      | (show LCall _ _ _ _ _ _; first | (refine LCall.pure (rbe_c l n h1 h4 (by omega)) ?_; conv => whnf) | (apply LCall.eq; (focus (repeat first | (apply cons_congr; (focus (first | exact sl_bv rfl | exact sl_bv (by first | (simp; done) | (simp; (exact T.num))) | exact rfl))) | exact rfl)); first | (refine LCall.pure (rbe_c l n h1 h4 (by omega)) ?_; conv => whnf)))
      | (show ABr _ _ _; first | (refine ABr.tt ?_; conv => whnf) | (refine ABr.ff ?_; conv => whnf) | (refine ABr.byN ?_) | ((with_reducible refine ABr.lssT (by assumption) ?_); conv => whnf) | ((with_reducible refine ABr.lssF (by assumption) ?_); conv => whnf) | ((with_reducible refine ABr.lss (fun h => ?_) (fun h => ?_)) <;> first | (exfalso; omega) | conv => whnf) | (refine ABr.byT (by with_reducible assumption) ?_; conv => whnf) | (refine ABr.byF (by with_reducible assumption) ?_; conv => whnf) | ((with_reducible refine ABr.decT rfl ?_); conv => whnf) | ((with_reducible refine ABr.decT (by assumption) ?_); conv => whnf) | ((with_reducible refine ABr.decF (by assumption) ?_); conv => whnf) | (refine ABr.dec (fun h => ?_) (fun h => ?_) <;> first | (exfalso; omega) | conv => whnf) | (refine ABr.gen (fun h => ?_) (fun h => ?_) <;> conv => whnf))
      | (show ACell _ _ _; first | (refine ACell.cell 0 ?_ ?_; (focus (first | exact T.side)); conv => whnf) | (refine ACell.mk ?_; conv => whnf))
      | (show AList _ _; first | (refine AList.headE n ?_ ?_ ?_; (focus (first | exact rfl | (simp; done) | (simp; omega))); (focus (first | exact rfl | (simp; done) | (simp; omega))); conv => whnf) | (refine AList.tailE n ?_ ?_ ?_; (focus (first | exact rfl | (simp; done) | (simp; omega))); (focus (first | exact rfl | (simp; done) | (simp; omega))); conv => whnf) | (refine AList.app ?_ ?_; (focus (first | exact T.side)); conv => whnf) | (refine AList.set (x := b8 _) (bAV_b8 _).symm ?_ ?_; (focus (first | exact T.side)); conv => whnf) | (refine AList.set (f := iAV) rfl ?_ ?_; (focus (first | exact T.side)); conv => whnf) | (refine AList.part ?_; conv => whnf) | (refine AList.force ?_; (conv => whnf); refine Lit.mk ?_; conv => whnf) | (refine AList.full ?_ ?_; (focus (first | exact Nat.le_of_ble_eq_true rfl | (simp; done) | (simp; omega))); conv => whnf) | (refine AList.mk ?_; conv => whnf))
      | (refine LFresh.mk fun r => ?_; conv => whnf)
      | (show KeepL _ _ _; first | (with_reducible exact KeepL.refl) | (refine KeepL.cons ?_; ((try show LHas _ _ _); repeat (with_reducible show LHas _ _ _); first | apply LHas.here | apply LHas.next); ((try show LHas _ _ _); repeat (with_reducible show LHas _ _ _); first | apply LHas.here | apply LHas.next); refine And.intro rfl ?_) | exact KeepL.nil)
      | (show InL _ _; first | exact InL.here | refine InL.next ?_)
      | (refine dec_yes ?_ ?_; (focus (first | exact .inl rfl | (exact T.num))); conv => whnf)
      | (refine dec_no ?_ ?_; (focus (exact T.num)); conv => whnf)
      | (refine dec_both (fun h => ?_) (fun h => ?_) <;> conv => whnf)
      | (show False; (exact T.num))
    all_goals (try dsimp only)
    all_goals (have e3 : (AV.sl ((l.length : Int).toNat - (n : Int).toNat) ((l.drop n).map bAV)) = bv (l.drop n) := (by unfold bv; congr 1; simp))
    all_goals rw [e3]
    all_goals (refine RetL.val ?_ ?_; rotate_left; (focus ((repeat' first | exact LSub.nil | (with_reducible exact LSub.refl) | (apply LSub.cons; ((try show LHas _ _ _); repeat (with_reducible show LHas _ _ _); first | apply LHas.here | apply LHas.next); refine And.intro ?_ ?_; (focus (try (first | (with_reducible rfl) | (refine congrArg (Pl.mk _) ?_; (first | rfl | (simp; done))) | rfl | (with_reducible refine congrArg (Pl.mk _) ?_)))))))))
    all_goals rfl
theorem rtake_n (r : Nm) (n : Nat) (h1 : 1 ≤ n) (h4 : n ≤ 4) : LSpec Try.prog G 57 [.ptr r 0, iAV n] [(r, ⟨91, rdCs none⟩)] (fun _ => (iAV (tkV n none), [(r, ⟨91, rdCs (tkR n none)⟩)])) := by
  show LSpec Try.prog G 57 [.ptr r 0, iAV n] [(r, ⟨91, [.nils, .bool true]⟩)] (fun _ => (iAV 0, [(r, ⟨91, [.nils, .bool true]⟩)]))
  refine LSpec.introL tyOk Try.func57 rfl (by kernel_rfl) (by simp) (fun q => ⟨by simp, by simp⟩) ?_
  refine AWpL.sound tyOk [] _ _ _ _ ?_
  conv => whnf
  repeat' first
    | (show LHas _ _ _; ((try show LHas _ _ _); repeat (with_reducible show LHas _ _ _); first | apply LHas.here | apply LHas.next); conv => whnf)
    | ((first | (with_reducible refine And.intro ?_ ?_) | refine And.intro ?_ ?_); (focus (first | exact T.side)); conv => whnf)
    | (show ABr _ _ _; first | (refine ABr.tt ?_; conv => whnf) | (refine ABr.ff ?_; conv => whnf) | (refine ABr.byN ?_) | ((with_reducible refine ABr.lssT (by assumption) ?_); conv => whnf) | ((with_reducible refine ABr.lssF (by assumption) ?_); conv => whnf) | ((with_reducible refine ABr.lss (fun h => ?_) (fun h => ?_)) <;> first | (exfalso; omega) | conv => whnf) | (refine ABr.byT (by with_reducible assumption) ?_; conv => whnf) | (refine ABr.byF (by with_reducible assumption) ?_; conv => whnf) | ((with_reducible refine ABr.decT rfl ?_); conv => whnf) | ((with_reducible refine ABr.decT (by assumption) ?_); conv => whnf) | ((with_reducible refine ABr.decF (by assumption) ?_); conv => whnf) | (refine ABr.dec (fun h => ?_) (fun h => ?_) <;> first | (exfalso; omega) | conv => whnf) | (refine ABr.gen (fun h => ?_) (fun h => ?_) <;> conv => whnf))
    | (show ACell _ _ _; first | (refine ACell.cell 0 ?_ ?_; (focus (first | exact T.side)); conv => whnf) | (refine ACell.mk ?_; conv => whnf))
    | (show AList _ _; first | (refine AList.app ?_ ?_; (focus (first | exact T.side)); conv => whnf) | (refine AList.set (x := b8 _) (bAV_b8 _).symm ?_ ?_; (focus (first | exact T.side)); conv => whnf) | (refine AList.set (f := iAV) rfl ?_ ?_; (focus (first | exact T.side)); conv => whnf) | (refine AList.part ?_; conv => whnf) | (refine AList.force ?_; (conv => whnf); refine Lit.mk ?_; conv => whnf) | (refine AList.full ?_ ?_; (focus (first | exact Nat.le_of_ble_eq_true rfl | (simp; done) | (simp; omega))); conv => whnf) | (refine AList.mk ?_; conv => whnf))
    | (refine LFresh.mk fun r => ?_; conv => whnf)
    | (show KeepL _ _ _; first | (with_reducible exact KeepL.refl) | (refine KeepL.cons ?_; ((try show LHas _ _ _); repeat (with_reducible show LHas _ _ _); first | apply LHas.here | apply LHas.next); ((try show LHas _ _ _); repeat (with_reducible show LHas _ _ _); first | apply LHas.here | apply LHas.next); refine And.intro rfl ?_) | exact KeepL.nil)
    | (show InL _ _; first | exact InL.here | refine InL.next ?_)
    | (refine dec_yes ?_ ?_; (focus (first | exact .inl rfl | (exact T.num))); conv => whnf)
    | (refine dec_no ?_ ?_; (focus (exact T.num)); conv => whnf)
    | (refine dec_both (fun h => ?_) (fun h => ?_) <;> conv => whnf)
    | (show False; (exact T.num))
  all_goals (try dsimp only)
  all_goals (refine RetL.val ?_ ?_; rotate_left; (focus ((repeat' first | exact LSub.nil | (with_reducible exact LSub.refl) | (apply LSub.cons; ((try show LHas _ _ _); repeat (with_reducible show LHas _ _ _); first | apply LHas.here | apply LHas.next); refine And.intro ?_ ?_; (focus (try (first | (with_reducible rfl) | (refine congrArg (Pl.mk _) ?_; (first | rfl | (simp; done))) | rfl | (with_reducible refine congrArg (Pl.mk _) ?_)))))))))
  all_goals rfl
/-- The reference's reader takes. -/
theorem rt_c (r : Nm) (n : Nat) (X : Rdr) (h : 1 ≤ n ∧ n ≤ 4) : LSpec Try.prog G 57 [.ptr r 0, iAV n] [(r, ⟨91, rcs X⟩)] (fun _ => (iAV (rv n X), [(r, ⟨91, rcs (rtk n X)⟩)])) := by
  have : LSpec Try.prog G 57 [.ptr r 0, iAV n] [(r, ⟨91, rdCs X.1⟩)] (fun _ => (iAV (tkV n X.1), [(r, ⟨91, rdCs (tkR n X.1)⟩)])) := by
    obtain ⟨_ | l, hl⟩ := X
    · exact rtake_n r n h.1 h.2
    · exact rtake_s r n l h.1 h.2 hl
  rw [rcs_eq] at this
  exact (rcs_eq (rtk n X)) ▸ this
theorem rt1_c (r : Nm) (X : Rdr) : LSpec Try.prog G 57 [.ptr r 0, iAV 1] [(r, ⟨91, rcs X⟩)] (fun _ => (iAV (rv 1 X), [(r, ⟨91, rcs (rtk 1 X)⟩)])) := rt_c r 1 X (by decide)
theorem rt2_c (r : Nm) (X : Rdr) : LSpec Try.prog G 57 [.ptr r 0, iAV 2] [(r, ⟨91, rcs X⟩)] (fun _ => (iAV (rv 2 X), [(r, ⟨91, rcs (rtk 2 X)⟩)])) := rt_c r 2 X (by decide)
theorem rt4_c (r : Nm) (X : Rdr) : LSpec Try.prog G 57 [.ptr r 0, iAV 4] [(r, ⟨91, rcs X⟩)] (fun _ => (iAV (rv 4 X), [(r, ⟨91, rcs (rtk 4 X)⟩)])) := rt_c r 4 X (by decide)
theorem rtb_c (r : Nm) (l : List UInt8) (h : l.length ≤ 140737488355328) : LSpec Try.prog G 57 [.ptr r 0, iAV 1] [(r, ⟨91, [bv l, .bool false]⟩)] (fun _ => (iAV (rv 1 (rdr l h)), [(r, ⟨91, rcs (rtk 1 (rdr l h))⟩)])) := rt1_c r (rdr l h)
attribute [irreducible] rdr rtk rv rE rL rV
end Go.Proofs.Ytnlpjbedkdhlbaa
