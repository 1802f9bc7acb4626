import Derived.Test.YtdpfcpkedaolfaaDoorPro2
namespace Go.Proofs.YtdpfcpkedaolfaaDoor
open Go.RowKit
set_option linter.all false
def openR (k : Ky) (b n : Int) (u : List UInt8) : List UInt8 × Int :=
  if k.ok then (if bitsOk b && countOk n then (if (numR b u).2 = 0 then (if (numR b u).1 = lowR b n then
    (if (xorL k.s (nonceL k n) (u.drop 2)).drop (u.length - 6) = markH k (nonceL k n) (headL (lowR b n)) ((xorL k.s (nonceL k n) (u.drop 2)).take (u.length - 6)) then ((xorL k.s (nonceL k n) (u.drop 2)).take (u.length - 6), 0) else ([], 6)) else ([], 6)) else ([], (numR b u).2)) else ([], 3)) else ([], 9)
theorem openR_key {k : Ky} (b n : Int) (u : List UInt8) (h : k.ok = false) : openR k b n u = ([], 9) := by simp [openR, h]
theorem openR_num {k : Ky} {b n : Int} (u : List UInt8) (h : k.ok = true) (h2 : (bitsOk b && countOk n) = false) : openR k b n u = ([], 3) := by unfold openR; rw [h, h2]; rfl
theorem openR_err {k : Ky} {b n : Int} {u : List UInt8} (h : k.ok = true) (h2 : (bitsOk b && countOk n) = true) (h3 : ¬ (numR b u).2 = 0) : openR k b n u = ([], (numR b u).2) := by unfold openR; rw [h, h2, if_neg h3]; rfl
theorem openR_sn {k : Ky} {b n : Int} {u : List UInt8} (h : k.ok = true) (h2 : (bitsOk b && countOk n) = true) (h3 : (numR b u).2 = 0) (h4 : ¬ (numR b u).1 = lowR b n) : openR k b n u = ([], 6) := by unfold openR; rw [h, h2, if_pos h3, if_neg h4]; rfl
theorem openR_ok {k : Ky} {b n : Int} {u : List UInt8} (h : k.ok = true) (h2 : (bitsOk b && countOk n) = true) (h3 : (numR b u).2 = 0) (h4 : (numR b u).1 = lowR b n) : openR k b n u = if (xorL k.s (nonceL k n) (u.drop 2)).drop (u.length - 6) = markH k (nonceL k n) (headL (lowR b n)) ((xorL k.s (nonceL k n) (u.drop 2)).take (u.length - 6)) then ((xorL k.s (nonceL k n) (u.drop 2)).take (u.length - 6), 0) else ([], 6) := by unfold openR; rw [h, h2, if_pos h3, if_pos h4]; rfl
theorem numR_ok {b : Int} {u : List UInt8} (h : (numR b u).2 = 0) : bitsOk b = true ∧ 7 ≤ u.length ∧ u.length ≤ 2054 ∧ (numR b u).1 = numV u ∧ 0 ≤ numV u ∧ numV u < IntKind.i64.wrap (1 * 2 ^ min b.toNat IntKind.i64.bits) := by
  unfold numR at *
  split at h
  · split at h
    · simp at h
    · split at h
      · simp at h
      · rename_i h1 h2 h3
        rw [if_pos h1, if_neg h2, if_neg h3]
        exact ⟨h1, by omega, by omega, rfl, by omega, by omega⟩
  · simp at h
theorem open_c (k : Ky) (b n : Int) (u : List UInt8) : LSpec Tryd.prog gl 21 [k.av, iAV b, iAV n, bv u] [] (fun _ => (be (openR k b n u), [])) := by
  have hc := checked_c (G := gl) k b n
  have hnum := number_c b u
  cases h1 : k.ok
  · rw [openR_key b n u h1]
    rw [chk_key b n h1] at hc
    refine LSpec.introL tyOk Tryd.func21 rfl (by kernel_rfl) (by simp) (fun q => ⟨by simp, by simp⟩) ?_
    refine AWpL.sound tyOk _ _ _ _ ?_
    conv => whnf
    repeat' first
      | (show LHas _ _ _; ((try show LHas _ _ _); repeat (with_reducible show LHas _ _ _); first | apply LHas.here | apply LHas.next); conv => whnf)
      | (refine And.intro ?_ ?_; (focus (first | exact T.side)); conv => whnf)
      | (show LCall _ _ _ _ _ _; first | (refine LCall.pure (hc) ?_; conv => whnf) | (apply LCall.eq; (focus (repeat first | (apply cons_congr; (focus (first | exact sl_bv rfl | exact sl_bv (by first | (simp; done) | (simp; (exact T.num))) | exact rfl))) | exact rfl)); first | (refine LCall.pure (hc) ?_; conv => whnf)))
      | (show ABr _ _ _; first | (refine ABr.tt ?_; conv => whnf) | (refine ABr.ff ?_; conv => whnf) | (refine ABr.byN ?_) | ((with_reducible refine ABr.neqT (by assumption) ?_); conv => whnf) | ((with_reducible refine ABr.neqF (by assumption) ?_); conv => whnf) | ((with_reducible refine ABr.neq (fun h => ?_) (fun h => ?_)) <;> first | (exfalso; omega) | conv => whnf) | (refine ABr.byT (by with_reducible assumption) ?_; conv => whnf) | (refine ABr.byF (by with_reducible assumption) ?_; conv => whnf) | ((with_reducible refine ABr.decT rfl ?_); conv => whnf) | ((with_reducible refine ABr.decT (by assumption) ?_); conv => whnf) | ((with_reducible refine ABr.decF (by assumption) ?_); conv => whnf) | (refine ABr.dec (fun h => ?_) (fun h => ?_) <;> first | (exfalso; omega) | conv => whnf) | (refine ABr.gen (fun h => ?_) (fun h => ?_) <;> conv => whnf))
      | (show ACell _ _ _; first | (refine ACell.cell 0 ?_ ?_; (focus (first | exact T.side)); conv => whnf) | (refine ACell.mk ?_; conv => whnf))
      | (show AList _ _; first | (refine AList.app ?_ ?_; (focus (first | exact T.side)); conv => whnf) | (refine AList.set (x := b8 _) (bAV_b8 _).symm ?_ ?_; (focus (first | exact T.side)); conv => whnf) | (refine AList.set (f := iAV) rfl ?_ ?_; (focus (first | exact T.side)); conv => whnf) | (refine AList.part ?_; conv => whnf) | (refine AList.force ?_; (conv => whnf); refine Lit.mk ?_; conv => whnf) | (refine AList.full ?_ ?_; (focus (first | exact Nat.le_of_ble_eq_true rfl | (simp; done) | (simp; omega))); conv => whnf) | (refine AList.mk ?_; conv => whnf))
      | (refine LFresh.mk fun r => ?_; conv => whnf)
      | (show SWpL _ _ _ _ _ _ _; first | (apply SWpL.draw tyOk mixed (id := 10) [[], [0], [], [], [3], [1, 0, 2, 4, 3], [5, 1, 0, 2, 4, 3], [6, 5, 1, 0, 2, 4, 3], [6, 5, 1, 0, 2, 4, 3], [7, 6, 5, 1, 0, 2, 4, 3], [8, 6, 5, 1, 0, 2, 4, 3, 9, 7]] [] [0, 1, 2, 3, 4, 5, 6, 7, 8, 9, 10] [] (by kernel_rfl); conv => whnf) | (apply SWpL.draw tyOk mixed (id := 12) [[], [], [0, 1], [], [], [], [], [], [6, 7], [3, 4, 5, 8, 6, 7], [2, 0, 1, 9, 3, 4, 5, 8, 6, 7], [10, 2, 0, 1, 9, 3, 4, 5, 8, 6, 7]] [] [0, 1, 2, 3, 4, 5, 6, 7, 8, 9, 10, 11] [] (by kernel_rfl); conv => whnf))
      | (show KeepL _ _ _; first | (refine KeepL.cons ?_; ((try show LHas _ _ _); repeat (with_reducible show LHas _ _ _); first | apply LHas.here | apply LHas.next); ((try show LHas _ _ _); repeat (with_reducible show LHas _ _ _); first | apply LHas.here | apply LHas.next); refine And.intro rfl ?_) | exact KeepL.nil)
      | (show InL _ _; first | exact InL.here | refine InL.next ?_)
      | (refine dec_yes ?_ ?_; (focus (first | exact .inl rfl | (exact T.num))); conv => whnf)
      | (refine dec_no ?_ ?_; (focus (exact T.num)); conv => whnf)
      | (refine dec_both (fun h => ?_) (fun h => ?_) <;> conv => whnf)
      | (show False; (exact T.num))
      | exact Nm.b 0
    all_goals (try dsimp only)
    exact RetL.frz [] (LF.tup ⟨LF.nils rfl rfl, LF.eq rfl, trivial⟩) LSub.nil
  · cases h2 : (bitsOk b && countOk n)
    · rw [openR_num u h1 h2]
      rw [chk_num h1 h2] at hc
      refine LSpec.introL tyOk Tryd.func21 rfl (by kernel_rfl) (by simp) (fun q => ⟨by simp, by simp⟩) ?_
      refine AWpL.sound tyOk _ _ _ _ ?_
      conv => whnf
      repeat' first
        | (show LHas _ _ _; ((try show LHas _ _ _); repeat (with_reducible show LHas _ _ _); first | apply LHas.here | apply LHas.next); conv => whnf)
        | (refine And.intro ?_ ?_; (focus (first | exact T.side)); conv => whnf)
        | (show LCall _ _ _ _ _ _; first | (refine LCall.pure (hc) ?_; conv => whnf) | (apply LCall.eq; (focus (repeat first | (apply cons_congr; (focus (first | exact sl_bv rfl | exact sl_bv (by first | (simp; done) | (simp; (exact T.num))) | exact rfl))) | exact rfl)); first | (refine LCall.pure (hc) ?_; conv => whnf)))
        | (show ABr _ _ _; first | (refine ABr.tt ?_; conv => whnf) | (refine ABr.ff ?_; conv => whnf) | (refine ABr.byN ?_) | ((with_reducible refine ABr.neqT (by assumption) ?_); conv => whnf) | ((with_reducible refine ABr.neqF (by assumption) ?_); conv => whnf) | ((with_reducible refine ABr.neq (fun h => ?_) (fun h => ?_)) <;> first | (exfalso; omega) | conv => whnf) | (refine ABr.byT (by with_reducible assumption) ?_; conv => whnf) | (refine ABr.byF (by with_reducible assumption) ?_; conv => whnf) | ((with_reducible refine ABr.decT rfl ?_); conv => whnf) | ((with_reducible refine ABr.decT (by assumption) ?_); conv => whnf) | ((with_reducible refine ABr.decF (by assumption) ?_); conv => whnf) | (refine ABr.dec (fun h => ?_) (fun h => ?_) <;> first | (exfalso; omega) | conv => whnf) | (refine ABr.gen (fun h => ?_) (fun h => ?_) <;> conv => whnf))
        | (show ACell _ _ _; first | (refine ACell.cell 0 ?_ ?_; (focus (first | exact T.side)); conv => whnf) | (refine ACell.mk ?_; conv => whnf))
        | (show AList _ _; first | (refine AList.app ?_ ?_; (focus (first | exact T.side)); conv => whnf) | (refine AList.set (x := b8 _) (bAV_b8 _).symm ?_ ?_; (focus (first | exact T.side)); conv => whnf) | (refine AList.set (f := iAV) rfl ?_ ?_; (focus (first | exact T.side)); conv => whnf) | (refine AList.part ?_; conv => whnf) | (refine AList.force ?_; (conv => whnf); refine Lit.mk ?_; conv => whnf) | (refine AList.full ?_ ?_; (focus (first | exact Nat.le_of_ble_eq_true rfl | (simp; done) | (simp; omega))); conv => whnf) | (refine AList.mk ?_; conv => whnf))
        | (refine LFresh.mk fun r => ?_; conv => whnf)
        | (show SWpL _ _ _ _ _ _ _; first | (apply SWpL.draw tyOk mixed (id := 10) [[], [0], [], [], [3], [1, 0, 2, 4, 3], [5, 1, 0, 2, 4, 3], [6, 5, 1, 0, 2, 4, 3], [6, 5, 1, 0, 2, 4, 3], [7, 6, 5, 1, 0, 2, 4, 3], [8, 6, 5, 1, 0, 2, 4, 3, 9, 7]] [] [0, 1, 2, 3, 4, 5, 6, 7, 8, 9, 10] [] (by kernel_rfl); conv => whnf) | (apply SWpL.draw tyOk mixed (id := 12) [[], [], [0, 1], [], [], [], [], [], [6, 7], [3, 4, 5, 8, 6, 7], [2, 0, 1, 9, 3, 4, 5, 8, 6, 7], [10, 2, 0, 1, 9, 3, 4, 5, 8, 6, 7]] [] [0, 1, 2, 3, 4, 5, 6, 7, 8, 9, 10, 11] [] (by kernel_rfl); conv => whnf))
        | (show KeepL _ _ _; first | (refine KeepL.cons ?_; ((try show LHas _ _ _); repeat (with_reducible show LHas _ _ _); first | apply LHas.here | apply LHas.next); ((try show LHas _ _ _); repeat (with_reducible show LHas _ _ _); first | apply LHas.here | apply LHas.next); refine And.intro rfl ?_) | exact KeepL.nil)
        | (show InL _ _; first | exact InL.here | refine InL.next ?_)
        | (refine dec_yes ?_ ?_; (focus (first | exact .inl rfl | (exact T.num))); conv => whnf)
        | (refine dec_no ?_ ?_; (focus (exact T.num)); conv => whnf)
        | (refine dec_both (fun h => ?_) (fun h => ?_) <;> conv => whnf)
        | (show False; (exact T.num))
        | exact Nm.b 0
      all_goals (try dsimp only)
      exact RetL.frz [] (LF.tup ⟨LF.nils rfl rfl, LF.eq rfl, trivial⟩) LSub.nil
    · rw [chk_ok h1 h2] at hc
      have hn : countOk n = true := by simp at h2; exact h2.2
      by_cases h3 : (numR b u).2 = 0
      · by_cases h4 : (numR b u).1 = lowR b n
        · rw [openR_ok h1 h2 h3 h4]
          obtain ⟨g1, g2, g3, g4, g5, g6⟩ := numR_ok h3
          have hN := nonceL_len k n
          rw [h3, h4] at hnum
          have hx := xor_c k.s (nonceL k n) (u.drop 2)
          rw [xorR_ok _ _ _ (k.of h1).1 hN (by simp; omega)] at hx
          have hP : (xorL k.s (nonceL k n) (u.drop 2)).length = u.length - 6 + 4 := by simp; omega
          have hd : (u.drop 2).length = u.length - 2 := by simp
          generalize xorL k.s (nonceL k n) (u.drop 2) = P at *
          generalize hm : u.length - 6 = m at *
          have hl : (P.take m).length = m := by simp; omega
          have hmk := mark_c (G := gl) k (nonceL k n) (P.take m) (lowR b n) (by omega) (by omega) (by omega)
          generalize markH k (nonceL k n) (headL (lowR b n)) (P.take m) = M at *
          have hi : (iarith .sub .i64 ((P.length : Nat) : Int) 4).toNat = m := by (exact T.num)
          have hi0 : 0 ≤ iarith .sub .i64 ((P.length : Nat) : Int) 4 := by (exact T.num)
          have hi1 : iarith .sub .i64 ((P.length : Nat) : Int) 4 ≤ P.length := by (exact T.num)
          clear g4 g5 g6 h3 h4
          refine LSpec.introL tyOk Tryd.func21 rfl (by kernel_rfl) (by simp) (fun q => ⟨by simp, by simp⟩) ?_
          refine AWpL.sound tyOk _ _ _ _ ?_
          conv => whnf
          repeat' first
            | (show LHas _ _ _; ((try show LHas _ _ _); repeat (with_reducible show LHas _ _ _); first | apply LHas.here | apply LHas.next); conv => whnf)
            | (refine And.intro ?_ ?_; (focus (first | exact T.side)); conv => whnf)
            | (show LCall _ _ _ _ _ _; first | (refine LCall.pure (hc) ?_; conv => whnf) | (refine LCall.pure (hnum) ?_; conv => whnf) | (refine LCall.pure (cnonce_c k n h1 hn) ?_; conv => whnf) | (refine LCall.pure (hx) ?_; conv => whnf) | (refine LCall.pure (hmk) ?_; conv => whnf) | (refine LCall.pure (bequal_c _ _) ?_; conv => whnf) | (apply LCall.eq; (focus (repeat first | (apply cons_congr; (focus (first | exact sl_bv rfl | exact sl_bv (by first | (simp; done) | (simp; (exact T.num))) | exact rfl))) | exact rfl)); first | (refine LCall.pure (hc) ?_; conv => whnf) | (refine LCall.pure (hnum) ?_; conv => whnf) | (refine LCall.pure (cnonce_c k n h1 hn) ?_; conv => whnf) | (refine LCall.pure (hx) ?_; conv => whnf) | (refine LCall.pure (hmk) ?_; conv => whnf) | (refine LCall.pure (bequal_c _ _) ?_; conv => whnf)))
            | (show ABr _ _ _; first | (refine ABr.tt ?_; conv => whnf) | (refine ABr.ff ?_; conv => whnf) | (refine ABr.byN ?_) | ((with_reducible refine ABr.neqT (by assumption) ?_); conv => whnf) | ((with_reducible refine ABr.neqF (by assumption) ?_); conv => whnf) | ((with_reducible refine ABr.neq (fun h => ?_) (fun h => ?_)) <;> first | (exfalso; omega) | conv => whnf) | (refine ABr.byT (by with_reducible assumption) ?_; conv => whnf) | (refine ABr.byF (by with_reducible assumption) ?_; conv => whnf) | ((with_reducible refine ABr.decT rfl ?_); conv => whnf) | ((with_reducible refine ABr.decT (by assumption) ?_); conv => whnf) | ((with_reducible refine ABr.decF (by assumption) ?_); conv => whnf) | (refine ABr.dec (fun h => ?_) (fun h => ?_) <;> first | (exfalso; omega) | conv => whnf) | (refine ABr.gen (fun h => ?_) (fun h => ?_) <;> conv => whnf))
            | (show ACell _ _ _; first | (refine ACell.cell 0 ?_ ?_; (focus (first | exact T.side)); conv => whnf) | (refine ACell.mk ?_; conv => whnf))
            | (show AList _ _; first | (refine AList.tailE 2 ?_ ?_ ?_; (focus rfl); (focus (simp; omega)); conv => whnf) | (refine AList.tailE m ?_ ?_ ?_; (focus (rw [hi, Nat.mul_one])); (focus (simp; omega)); conv => whnf) | (refine AList.headE m ?_ ?_ ?_; (focus rfl); (focus (rw [hi] <;> simp)); conv => whnf) | (refine AList.app ?_ ?_; (focus (first | exact T.side)); conv => whnf) | (refine AList.set (x := b8 _) (bAV_b8 _).symm ?_ ?_; (focus (first | exact T.side)); conv => whnf) | (refine AList.set (f := iAV) rfl ?_ ?_; (focus (first | exact T.side)); conv => whnf) | (refine AList.part ?_; conv => whnf) | (refine AList.force ?_; (conv => whnf); refine Lit.mk ?_; conv => whnf) | (refine AList.full ?_ ?_; (focus (first | exact Nat.le_of_ble_eq_true rfl | (simp; done) | (simp; omega))); conv => whnf) | (refine AList.mk ?_; conv => whnf))
            | (refine LFresh.mk fun r => ?_; conv => whnf)
            | (show SWpL _ _ _ _ _ _ _; first | (apply SWpL.draw tyOk mixed (id := 10) [[], [0], [], [], [3], [1, 0, 2, 4, 3], [5, 1, 0, 2, 4, 3], [6, 5, 1, 0, 2, 4, 3], [6, 5, 1, 0, 2, 4, 3], [7, 6, 5, 1, 0, 2, 4, 3], [8, 6, 5, 1, 0, 2, 4, 3, 9, 7]] [] [0, 1, 2, 3, 4, 5, 6, 7, 8, 9, 10] [_] (by kernel_rfl); conv => whnf) | (apply SWpL.draw tyOk mixed (id := 10) [[], [0], [], [], [3], [1, 0, 2, 4, 3], [5, 1, 0, 2, 4, 3], [6, 5, 1, 0, 2, 4, 3], [6, 5, 1, 0, 2, 4, 3], [7, 6, 5, 1, 0, 2, 4, 3], [8, 6, 5, 1, 0, 2, 4, 3, 9, 7]] [] [0, 1, 2, 3, 4, 5, 6, 7, 8, 9, 10] [] (by kernel_rfl); conv => whnf) | (apply SWpL.draw tyOk mixed (id := 12) [[], [], [0, 1], [], [], [], [], [], [6, 7], [3, 4, 5, 8, 6, 7], [2, 0, 1, 9, 3, 4, 5, 8, 6, 7], [10, 2, 0, 1, 9, 3, 4, 5, 8, 6, 7]] [] [0, 1, 2, 3, 4, 5, 6, 7, 8, 9, 10, 11] [_] (by kernel_rfl); conv => whnf) | (apply SWpL.draw tyOk mixed (id := 12) [[], [], [0, 1], [], [], [], [], [], [6, 7], [3, 4, 5, 8, 6, 7], [2, 0, 1, 9, 3, 4, 5, 8, 6, 7], [10, 2, 0, 1, 9, 3, 4, 5, 8, 6, 7]] [] [0, 1, 2, 3, 4, 5, 6, 7, 8, 9, 10, 11] [] (by kernel_rfl); conv => whnf))
            | (show KeepL _ _ _; first | (refine KeepL.cons ?_; ((try show LHas _ _ _); repeat (with_reducible show LHas _ _ _); first | apply LHas.here | apply LHas.next); ((try show LHas _ _ _); repeat (with_reducible show LHas _ _ _); first | apply LHas.here | apply LHas.next); refine And.intro rfl ?_) | exact KeepL.nil)
            | (show InL _ _; first | exact InL.here | refine InL.next ?_)
            | (refine dec_yes ?_ ?_; (focus (first | exact .inl rfl | (exact T.num))); conv => whnf)
            | (refine dec_no ?_ ?_; (focus (exact T.num)); conv => whnf)
            | (refine dec_both (fun h => ?_) (fun h => ?_) <;> conv => whnf)
            | (show False; (exact T.num))
            | exact Nm.b 0
          all_goals (try dsimp only)
          · rw [if_pos (by assumption)]
            (refine RetL.val ?_ ?_; rotate_left; (focus ((repeat' first | exact LSub.nil | (with_reducible exact LSub.refl) | (apply LSub.cons; ((try show LHas _ _ _); repeat (with_reducible show LHas _ _ _); first | apply LHas.here | apply LHas.next); refine And.intro ?_ ?_; (focus (try (first | (with_reducible rfl) | (refine congrArg (Pl.mk _) ?_; (first | rfl | (simp; done))) | rfl | (with_reducible refine congrArg (Pl.mk _) ?_)))))))))
            refine congrArg (fun x => AV.tup [AV.sl x ((P.take m).map bAV), iAV 0]) ?_
            rw [hi, hl]
            rfl
          · rw [if_neg (by assumption)]
            exact RetL.frz [] (LF.tup ⟨LF.nils rfl rfl, LF.eq rfl, trivial⟩) LSub.nil
        · rw [openR_sn h1 h2 h3 h4]
          rw [h3] at hnum
          generalize (numR b u).1 = v at *
          refine LSpec.introL tyOk Tryd.func21 rfl (by kernel_rfl) (by simp) (fun q => ⟨by simp, by simp⟩) ?_
          refine AWpL.sound tyOk _ _ _ _ ?_
          conv => whnf
          repeat' first
            | (show LHas _ _ _; ((try show LHas _ _ _); repeat (with_reducible show LHas _ _ _); first | apply LHas.here | apply LHas.next); conv => whnf)
            | (refine And.intro ?_ ?_; (focus (first | exact T.side)); conv => whnf)
            | (show LCall _ _ _ _ _ _; first | (refine LCall.pure (hc) ?_; conv => whnf) | (refine LCall.pure (hnum) ?_; conv => whnf) | (apply LCall.eq; (focus (repeat first | (apply cons_congr; (focus (first | exact sl_bv rfl | exact sl_bv (by first | (simp; done) | (simp; (exact T.num))) | exact rfl))) | exact rfl)); first | (refine LCall.pure (hc) ?_; conv => whnf) | (refine LCall.pure (hnum) ?_; conv => whnf)))
            | (show ABr _ _ _; first | (refine ABr.tt ?_; conv => whnf) | (refine ABr.ff ?_; conv => whnf) | (refine ABr.byN ?_) | ((with_reducible refine ABr.neqT (by assumption) ?_); conv => whnf) | ((with_reducible refine ABr.neqF (by assumption) ?_); conv => whnf) | ((with_reducible refine ABr.neq (fun h => ?_) (fun h => ?_)) <;> first | (exfalso; omega) | conv => whnf) | (refine ABr.byT (by with_reducible assumption) ?_; conv => whnf) | (refine ABr.byF (by with_reducible assumption) ?_; conv => whnf) | ((with_reducible refine ABr.decT rfl ?_); conv => whnf) | ((with_reducible refine ABr.decT (by assumption) ?_); conv => whnf) | ((with_reducible refine ABr.decF (by assumption) ?_); conv => whnf) | (refine ABr.dec (fun h => ?_) (fun h => ?_) <;> first | (exfalso; omega) | conv => whnf) | (refine ABr.gen (fun h => ?_) (fun h => ?_) <;> conv => whnf))
            | (show ACell _ _ _; first | (refine ACell.cell 0 ?_ ?_; (focus (first | exact T.side)); conv => whnf) | (refine ACell.mk ?_; conv => whnf))
            | (show AList _ _; first | (refine AList.app ?_ ?_; (focus (first | exact T.side)); conv => whnf) | (refine AList.set (x := b8 _) (bAV_b8 _).symm ?_ ?_; (focus (first | exact T.side)); conv => whnf) | (refine AList.set (f := iAV) rfl ?_ ?_; (focus (first | exact T.side)); conv => whnf) | (refine AList.part ?_; conv => whnf) | (refine AList.force ?_; (conv => whnf); refine Lit.mk ?_; conv => whnf) | (refine AList.full ?_ ?_; (focus (first | exact Nat.le_of_ble_eq_true rfl | (simp; done) | (simp; omega))); conv => whnf) | (refine AList.mk ?_; conv => whnf))
            | (refine LFresh.mk fun r => ?_; conv => whnf)
            | (show SWpL _ _ _ _ _ _ _; first | (apply SWpL.draw tyOk mixed (id := 10) [[], [0], [], [], [3], [1, 0, 2, 4, 3], [5, 1, 0, 2, 4, 3], [6, 5, 1, 0, 2, 4, 3], [6, 5, 1, 0, 2, 4, 3], [7, 6, 5, 1, 0, 2, 4, 3], [8, 6, 5, 1, 0, 2, 4, 3, 9, 7]] [] [0, 1, 2, 3, 4, 5, 6, 7, 8, 9, 10] [] (by kernel_rfl); conv => whnf) | (apply SWpL.draw tyOk mixed (id := 12) [[], [], [0, 1], [], [], [], [], [], [6, 7], [3, 4, 5, 8, 6, 7], [2, 0, 1, 9, 3, 4, 5, 8, 6, 7], [10, 2, 0, 1, 9, 3, 4, 5, 8, 6, 7]] [] [0, 1, 2, 3, 4, 5, 6, 7, 8, 9, 10, 11] [] (by kernel_rfl); conv => whnf))
            | (show KeepL _ _ _; first | (refine KeepL.cons ?_; ((try show LHas _ _ _); repeat (with_reducible show LHas _ _ _); first | apply LHas.here | apply LHas.next); ((try show LHas _ _ _); repeat (with_reducible show LHas _ _ _); first | apply LHas.here | apply LHas.next); refine And.intro rfl ?_) | exact KeepL.nil)
            | (show InL _ _; first | exact InL.here | refine InL.next ?_)
            | (refine dec_yes ?_ ?_; (focus (first | exact .inl rfl | (exact T.num))); conv => whnf)
            | (refine dec_no ?_ ?_; (focus (exact T.num)); conv => whnf)
            | (refine dec_both (fun h => ?_) (fun h => ?_) <;> conv => whnf)
            | (show False; (exact T.num))
            | exact Nm.b 0
          all_goals (try dsimp only)
          exact RetL.frz [] (LF.tup ⟨LF.nils rfl rfl, LF.eq rfl, trivial⟩) LSub.nil
      · rw [openR_err h1 h2 h3]
        generalize (numR b u).1 = v at *
        generalize (numR b u).2 = w at *
        refine LSpec.introL tyOk Tryd.func21 rfl (by kernel_rfl) (by simp) (fun q => ⟨by simp, by simp⟩) ?_
        refine AWpL.sound tyOk _ _ _ _ ?_
        conv => whnf
        repeat' first
          | (show LHas _ _ _; ((try show LHas _ _ _); repeat (with_reducible show LHas _ _ _); first | apply LHas.here | apply LHas.next); conv => whnf)
          | (refine And.intro ?_ ?_; (focus (first | exact T.side)); conv => whnf)
          | (show LCall _ _ _ _ _ _; first | (refine LCall.pure (hc) ?_; conv => whnf) | (refine LCall.pure (hnum) ?_; conv => whnf) | (apply LCall.eq; (focus (repeat first | (apply cons_congr; (focus (first | exact sl_bv rfl | exact sl_bv (by first | (simp; done) | (simp; (exact T.num))) | exact rfl))) | exact rfl)); first | (refine LCall.pure (hc) ?_; conv => whnf) | (refine LCall.pure (hnum) ?_; conv => whnf)))
          | (show ABr _ _ _; first | (refine ABr.tt ?_; conv => whnf) | (refine ABr.ff ?_; conv => whnf) | (refine ABr.byN ?_) | ((with_reducible refine ABr.neqT (by assumption) ?_); conv => whnf) | ((with_reducible refine ABr.neqF (by assumption) ?_); conv => whnf) | ((with_reducible refine ABr.neq (fun h => ?_) (fun h => ?_)) <;> first | (exfalso; omega) | conv => whnf) | (refine ABr.byT (by with_reducible assumption) ?_; conv => whnf) | (refine ABr.byF (by with_reducible assumption) ?_; conv => whnf) | ((with_reducible refine ABr.decT rfl ?_); conv => whnf) | ((with_reducible refine ABr.decT (by assumption) ?_); conv => whnf) | ((with_reducible refine ABr.decF (by assumption) ?_); conv => whnf) | (refine ABr.dec (fun h => ?_) (fun h => ?_) <;> first | (exfalso; omega) | conv => whnf) | (refine ABr.gen (fun h => ?_) (fun h => ?_) <;> conv => whnf))
          | (show ACell _ _ _; first | (refine ACell.cell 0 ?_ ?_; (focus (first | exact T.side)); conv => whnf) | (refine ACell.mk ?_; conv => whnf))
          | (show AList _ _; first | (refine AList.app ?_ ?_; (focus (first | exact T.side)); conv => whnf) | (refine AList.set (x := b8 _) (bAV_b8 _).symm ?_ ?_; (focus (first | exact T.side)); conv => whnf) | (refine AList.set (f := iAV) rfl ?_ ?_; (focus (first | exact T.side)); conv => whnf) | (refine AList.part ?_; conv => whnf) | (refine AList.force ?_; (conv => whnf); refine Lit.mk ?_; conv => whnf) | (refine AList.full ?_ ?_; (focus (first | exact Nat.le_of_ble_eq_true rfl | (simp; done) | (simp; omega))); conv => whnf) | (refine AList.mk ?_; conv => whnf))
          | (refine LFresh.mk fun r => ?_; conv => whnf)
          | (show SWpL _ _ _ _ _ _ _; first | (apply SWpL.draw tyOk mixed (id := 10) [[], [0], [], [], [3], [1, 0, 2, 4, 3], [5, 1, 0, 2, 4, 3], [6, 5, 1, 0, 2, 4, 3], [6, 5, 1, 0, 2, 4, 3], [7, 6, 5, 1, 0, 2, 4, 3], [8, 6, 5, 1, 0, 2, 4, 3, 9, 7]] [] [0, 1, 2, 3, 4, 5, 6, 7, 8, 9, 10] [] (by kernel_rfl); conv => whnf) | (apply SWpL.draw tyOk mixed (id := 12) [[], [], [0, 1], [], [], [], [], [], [6, 7], [3, 4, 5, 8, 6, 7], [2, 0, 1, 9, 3, 4, 5, 8, 6, 7], [10, 2, 0, 1, 9, 3, 4, 5, 8, 6, 7]] [] [0, 1, 2, 3, 4, 5, 6, 7, 8, 9, 10, 11] [] (by kernel_rfl); conv => whnf))
          | (show KeepL _ _ _; first | (refine KeepL.cons ?_; ((try show LHas _ _ _); repeat (with_reducible show LHas _ _ _); first | apply LHas.here | apply LHas.next); ((try show LHas _ _ _); repeat (with_reducible show LHas _ _ _); first | apply LHas.here | apply LHas.next); refine And.intro rfl ?_) | exact KeepL.nil)
          | (show InL _ _; first | exact InL.here | refine InL.next ?_)
          | (refine dec_yes ?_ ?_; (focus (first | exact .inl rfl | (exact T.num))); conv => whnf)
          | (refine dec_no ?_ ?_; (focus (exact T.num)); conv => whnf)
          | (refine dec_both (fun h => ?_) (fun h => ?_) <;> conv => whnf)
          | (show False; (exact T.num))
          | exact Nm.b 0
        all_goals (try dsimp only)
        exact RetL.frz [] (LF.tup ⟨LF.nils rfl rfl, LF.eq rfl, trivial⟩) LSub.nil
end Go.Proofs.YtdpfcpkedaolfaaDoor
