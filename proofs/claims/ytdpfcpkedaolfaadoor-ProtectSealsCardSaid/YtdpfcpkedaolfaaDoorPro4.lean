import Derived.Test.YtdpfcpkedaolfaaDoorPro3
namespace Go.Proofs.YtdpfcpkedaolfaaDoor
open Go.RowKit
set_option linter.all false
variable {G : Nat → AV}
theorem rtag_c (k : Ky) (nonce h data : List UInt8) (h1 : nonce.length ≤ 100) (h3 : h.length ≤ 100) (h2 : data.length ≤ 5000) : LSpec Tryd.prog G 45 [k.av, bv nonce, bv h, bv data] [] (fun _ => (bv (markH k nonce h data), [])) := by
  refine LSpec.introL tyOk Tryd.func45 rfl (by kernel_rfl) (by simp) (fun q => ⟨by simp, by simp⟩) ?_
  refine AWpL.sound tyOk _ _ _ _ ?_
  conv => whnf
  repeat' first
    | (show LEra _ _ _; conv => whnf)
    | (show _ = List.length (_ ++ _); simp only [List.length_append]; done)
    | (show _ = List.map _ (_ ++ _); simp only [List.map_append]; done)
    | (show LHas _ _ _; ((try show LHas _ _ _); repeat (with_reducible show LHas _ _ _); first | apply LHas.here | apply LHas.next); conv => whnf)
    | (refine And.intro ?_ ?_; (focus (first | exact T.side)); conv => whnf)
    | (show LCall _ _ _ _ _ _; first | (refine LCall.mk' (rshort_c k.g (nonce ++ h ++ data)) [_] ⟨LF.eq rfl, LF.rowF InL.here ?_, trivial⟩ ?_) | (apply LCall.eq; (focus (repeat first | (apply cons_congr; (focus (first | exact sl_bv rfl | exact sl_bv (by first | (simp; done) | (simp; (exact T.num))) | exact rfl))) | exact rfl)); first | (refine LCall.mk' (rshort_c k.g (nonce ++ h ++ data)) [_] ⟨LF.eq rfl, LF.rowF InL.here ?_, trivial⟩ ?_)))
    | (show ABr _ _ _; first | (refine ABr.tt ?_; conv => whnf) | (refine ABr.ff ?_; conv => whnf) | (refine ABr.byN ?_) | (refine ABr.byT (by with_reducible assumption) ?_; conv => whnf) | (refine ABr.byF (by with_reducible assumption) ?_; conv => whnf) | ((with_reducible refine ABr.decT rfl ?_); conv => whnf) | ((with_reducible refine ABr.decT (by assumption) ?_); conv => whnf) | ((with_reducible refine ABr.decF (by assumption) ?_); conv => whnf) | (refine ABr.dec (fun h => ?_) (fun h => ?_) <;> first | (exfalso; omega) | conv => whnf) | (refine ABr.gen (fun h => ?_) (fun h => ?_) <;> conv => whnf))
    | (show ACell _ _ _; first | (refine ACell.cell 0 ?_ ?_; (focus (first | exact T.side)); conv => whnf) | (refine ACell.mk ?_; conv => whnf))
    | (show AList _ _; first | (refine AList.app ?_ ?_; (focus (first | exact T.side)); conv => whnf) | (refine AList.set (x := b8 _) (bAV_b8 _).symm ?_ ?_; (focus (first | exact T.side)); conv => whnf) | (refine AList.set (f := iAV) rfl ?_ ?_; (focus (first | exact T.side)); conv => whnf) | (refine AList.part ?_; conv => whnf) | (refine AList.force ?_; (conv => whnf); refine Lit.mk ?_; conv => whnf) | (refine AList.full ?_ ?_; (focus (first | exact Nat.le_of_ble_eq_true rfl | (simp; done) | (simp; omega))); conv => whnf) | (refine AList.mk ?_; conv => whnf))
    | (refine LFresh.mk fun r => ?_; conv => whnf)
    | (show KeepL _ _ _; first | (refine KeepL.cons ?_; ((try show LHas _ _ _); repeat (with_reducible show LHas _ _ _); first | apply LHas.here | apply LHas.next); ((try show LHas _ _ _); repeat (with_reducible show LHas _ _ _); first | apply LHas.here | apply LHas.next); refine And.intro rfl ?_) | exact KeepL.nil)
    | (show InL _ _; first | exact InL.here | refine InL.next ?_)
    | (show False; (exact T.num))
  all_goals (try dsimp only)
  (refine RetL.val ?_ ?_; rotate_left; (focus ((repeat' first | exact LSub.nil | (with_reducible exact LSub.refl) | (apply LSub.cons; ((try show LHas _ _ _); repeat (with_reducible show LHas _ _ _); first | apply LHas.here | apply LHas.next); refine And.intro ?_ ?_; (focus (try (first | (with_reducible rfl) | (refine congrArg (Pl.mk _) ?_; (first | rfl | (simp; done))) | rfl | (with_reducible refine congrArg (Pl.mk _) ?_)))))))))
  rfl
theorem rtag_p (k : Ky) (nonce h data : List UInt8) (h1 : nonce.length ≤ 100) (h3 : h.length = 2) (h2 : data.length ≤ 5000) (p : Nm) : LSpec Tryd.prog G 45 [k.av, bv nonce, .vw p 0 2 1, bv data] [(p, ⟨5, h.map bAV⟩)] (fun _ => (bv (markH k nonce h data), [(p, ⟨5, h.map bAV⟩)])) := by
  refine LSpec.introL tyOk Tryd.func45 rfl (by kernel_rfl) (by simp) (fun q => ⟨by simp, by simp⟩) ?_
  refine AWpL.sound tyOk _ _ _ _ ?_
  conv => whnf
  repeat' first
    | (show LEra _ _ _; conv => whnf)
    | (show _ = List.length (_ ++ _); simp only [List.length_append, h3]; done)
    | (show _ = List.map _ (_ ++ _); simp only [List.map_append]; done)
    | (show LHas _ _ _; ((try show LHas _ _ _); repeat (with_reducible show LHas _ _ _); first | apply LHas.here | apply LHas.next); conv => whnf)
    | (refine And.intro ?_ ?_; (focus (first | (rw [List.length_map, h3]; exact Nat.le_refl _) | exact T.side)); conv => whnf)
    | (show LCall _ _ _ _ _ _; first | (refine LCall.mk' (rshort_c k.g (nonce ++ h ++ data)) [_] ⟨LF.eq rfl, LF.rowF InL.here ?_, trivial⟩ ?_) | (apply LCall.eq; (focus (repeat first | (apply cons_congr; (focus (first | exact sl_bv rfl | exact sl_bv (by first | (simp; done) | (simp; (exact T.num))) | exact rfl))) | exact rfl)); first | (refine LCall.mk' (rshort_c k.g (nonce ++ h ++ data)) [_] ⟨LF.eq rfl, LF.rowF InL.here ?_, trivial⟩ ?_)))
    | (show ABr _ _ _; first | (refine ABr.tt ?_; conv => whnf) | (refine ABr.ff ?_; conv => whnf) | (refine ABr.byN ?_) | (refine ABr.byT (by with_reducible assumption) ?_; conv => whnf) | (refine ABr.byF (by with_reducible assumption) ?_; conv => whnf) | ((with_reducible refine ABr.decT rfl ?_); conv => whnf) | ((with_reducible refine ABr.decT (by assumption) ?_); conv => whnf) | ((with_reducible refine ABr.decF (by assumption) ?_); conv => whnf) | (refine ABr.dec (fun h => ?_) (fun h => ?_) <;> first | (exfalso; omega) | conv => whnf) | (refine ABr.gen (fun h => ?_) (fun h => ?_) <;> conv => whnf))
    | (show ACell _ _ _; first | (refine ACell.cell 0 ?_ ?_; (focus (first | exact T.side)); conv => whnf) | (refine ACell.mk ?_; conv => whnf))
    | (show AList _ _; first | (refine AList.headE 2 ?_ ?_ ?_; (focus rfl); (focus rfl); rw [List.take_of_length_le (by omega)]; conv => whnf) | (refine AList.app ?_ ?_; (focus (first | exact T.side)); conv => whnf) | (refine AList.set (x := b8 _) (bAV_b8 _).symm ?_ ?_; (focus (first | exact T.side)); conv => whnf) | (refine AList.set (f := iAV) rfl ?_ ?_; (focus (first | exact T.side)); conv => whnf) | (refine AList.part ?_; conv => whnf) | (refine AList.force ?_; (conv => whnf); refine Lit.mk ?_; conv => whnf) | (refine AList.full ?_ ?_; (focus (first | exact Nat.le_of_ble_eq_true rfl | (simp; done) | (simp; omega))); conv => whnf) | (refine AList.mk ?_; conv => whnf))
    | (refine LFresh.mk fun r => ?_; conv => whnf)
    | (show KeepL _ _ _; first | (refine KeepL.cons ?_; ((try show LHas _ _ _); repeat (with_reducible show LHas _ _ _); first | apply LHas.here | apply LHas.next); ((try show LHas _ _ _); repeat (with_reducible show LHas _ _ _); first | apply LHas.here | apply LHas.next); refine And.intro rfl ?_) | exact KeepL.nil)
    | (show InL _ _; first | exact InL.here | refine InL.next ?_)
    | (show False; (exact T.num))
  all_goals (try dsimp only)
  (refine RetL.val ?_ ?_; rotate_left; (focus ((repeat' first | exact LSub.nil | (with_reducible exact LSub.refl) | (apply LSub.cons; ((try show LHas _ _ _); repeat (with_reducible show LHas _ _ _); first | apply LHas.here | apply LHas.next); refine And.intro ?_ ?_; (focus (try (first | (with_reducible rfl) | (refine congrArg (Pl.mk _) ?_; (first | rfl | (simp; done))) | rfl | (with_reducible refine congrArg (Pl.mk _) ?_)))))))))
  rfl
theorem and_ff {a b : Bool} (h : (a && b) = false) : a = false ∨ (a = true ∧ b = false) := by
  cases a <;> simp_all
theorem rdata_no {data : List UInt8} (h : dataOk data = false) : data.length < 1 ∨ 2048 < data.length := by
  simp [dataOk] at h; omega
theorem rseal_c (k : Ky) (b n : Int) (data : List UInt8) : LSpec Tryd.prog gl 15 [k.av, iAV b, iAV n, bv data] [] (fun _ => (be (sealR k b n data), [])) := by
  cases h1 : k.ok
  · rw [sealR_key b n data h1]
    refine LSpec.introL tyOk Tryd.func15 rfl (by kernel_rfl) (by simp) (fun q => ⟨by simp, by simp⟩) ?_
    refine AWpL.sound tyOk _ _ _ _ ?_
    conv => whnf
    repeat' first
      | (show LHas _ _ _; ((try show LHas _ _ _); repeat (with_reducible show LHas _ _ _); first | apply LHas.here | apply LHas.next); conv => whnf)
      | (refine And.intro ?_ ?_; (focus (first | exact T.side)); conv => whnf)
      | (show LCall _ _ _ _ _ _; first | (refine LCall.pure (h1 ▸ rvalid_c k) ?_; conv => whnf) | (apply LCall.eq; (focus (repeat first | (apply cons_congr; (focus (first | exact sl_bv rfl | exact sl_bv (by first | (simp; done) | (simp; (exact T.num))) | exact rfl))) | exact rfl)); first | (refine LCall.pure (h1 ▸ rvalid_c k) ?_; conv => whnf)))
      | (show ABr _ _ _; first | (refine ABr.tt ?_; conv => whnf) | (refine ABr.ff ?_; conv => whnf) | (refine ABr.byN ?_) | ((with_reducible refine ABr.lssT (by assumption) ?_); conv => whnf) | ((with_reducible refine ABr.lssF (by assumption) ?_); conv => whnf) | ((with_reducible refine ABr.lss (fun h => ?_) (fun h => ?_)) <;> first | (exfalso; omega) | conv => whnf) | ((with_reducible refine ABr.gtrT (by assumption) ?_); conv => whnf) | ((with_reducible refine ABr.gtrF (by assumption) ?_); conv => whnf) | ((with_reducible refine ABr.gtr (fun h => ?_) (fun h => ?_)) <;> first | (exfalso; omega) | conv => whnf) | (refine ABr.byT (by with_reducible assumption) ?_; conv => whnf) | (refine ABr.byF (by with_reducible assumption) ?_; conv => whnf) | ((with_reducible refine ABr.decT rfl ?_); conv => whnf) | ((with_reducible refine ABr.decT (by assumption) ?_); conv => whnf) | ((with_reducible refine ABr.decF (by assumption) ?_); conv => whnf) | (refine ABr.dec (fun h => ?_) (fun h => ?_) <;> first | (exfalso; omega) | conv => whnf) | (refine ABr.gen (fun h => ?_) (fun h => ?_) <;> conv => whnf))
      | (show ACell _ _ _; first | (refine ACell.cell 0 ?_ ?_; (focus (first | exact T.side)); conv => whnf) | (refine ACell.mk ?_; conv => whnf))
      | (show AList _ _; first | (refine AList.app ?_ ?_; (focus (first | exact T.side)); conv => whnf) | (refine AList.set (x := b8 _) (bAV_b8 _).symm ?_ ?_; (focus (first | exact T.side)); conv => whnf) | (refine AList.set (f := iAV) rfl ?_ ?_; (focus (first | exact T.side)); conv => whnf) | (refine AList.part ?_; conv => whnf) | (refine AList.force ?_; (conv => whnf); refine Lit.mk ?_; conv => whnf) | (refine AList.full ?_ ?_; (focus (first | exact Nat.le_of_ble_eq_true rfl | (simp; done) | (simp; omega))); conv => whnf) | (refine AList.mk ?_; conv => whnf))
      | (refine LFresh.mk fun r => ?_; conv => whnf)
      | (show SWpL _ _ _ _ _ _ _; first | (apply SWpL.draw tyOk mixed (id := 10) [[], [0], [], [], [], [], [], [], [4, 5, 6, 7], [3, 8, 4, 5, 6, 7], [1, 0, 2, 9, 3, 8, 4, 5, 6, 7], [10, 1, 0, 2, 9, 3, 8, 4, 5, 6, 7], [11, 10, 1, 0, 2, 9, 3, 8, 4, 5, 6, 7], [11, 10, 1, 0, 2, 9, 3, 8, 4, 5, 6, 7], [12, 11, 10, 1, 0, 2, 9, 3, 8, 4, 5, 6, 7], [13, 11, 10, 1, 0, 2, 9, 3, 8, 4, 5, 6, 7, 14, 12]] [1, 8, 9] [0, 1, 2, 3, 4, 5, 6, 7, 8, 9, 10, 11, 12, 13, 14, 15] [] (by kernel_rfl); conv => whnf))
      | (show KeepL _ _ _; first | (refine KeepL.cons ?_; ((try show LHas _ _ _); repeat (with_reducible show LHas _ _ _); first | apply LHas.here | apply LHas.next); ((try show LHas _ _ _); repeat (with_reducible show LHas _ _ _); first | apply LHas.here | apply LHas.next); refine And.intro rfl ?_) | exact KeepL.nil)
      | (show InL _ _; first | exact InL.here | refine InL.next ?_)
      | (show False; (exact T.num))
      | exact Nm.b 0
    all_goals (try dsimp only)
    exact RetL.frz [] (LF.tup ⟨LF.nils rfl rfl, LF.eq rfl, trivial⟩) LSub.nil
  · cases h2 : (bitsOk b && countOk n)
    · rw [sealR_num data h1 h2]
      rcases and_ff h2 with g | ⟨g, g2⟩
      · refine LSpec.introL tyOk Tryd.func15 rfl (by kernel_rfl) (by simp) (fun q => ⟨by simp, by simp⟩) ?_
        refine AWpL.sound tyOk _ _ _ _ ?_
        conv => whnf
        repeat' first
          | (show LHas _ _ _; ((try show LHas _ _ _); repeat (with_reducible show LHas _ _ _); first | apply LHas.here | apply LHas.next); conv => whnf)
          | (refine And.intro ?_ ?_; (focus (first | exact T.side)); conv => whnf)
          | (show LCall _ _ _ _ _ _; first | (refine LCall.pure (h1 ▸ rvalid_c k) ?_; conv => whnf) | (refine LCall.pure (g ▸ rbits_c b) ?_; conv => whnf) | (refine LCall.pure (rcount_c n) ?_; conv => whnf) | (apply LCall.eq; (focus (repeat first | (apply cons_congr; (focus (first | exact sl_bv rfl | exact sl_bv (by first | (simp; done) | (simp; (exact T.num))) | exact rfl))) | exact rfl)); first | (refine LCall.pure (h1 ▸ rvalid_c k) ?_; conv => whnf) | (refine LCall.pure (g ▸ rbits_c b) ?_; conv => whnf) | (refine LCall.pure (rcount_c n) ?_; conv => whnf)))
          | (show ABr _ _ _; first | (refine ABr.tt ?_; conv => whnf) | (refine ABr.ff ?_; conv => whnf) | (refine ABr.byN ?_) | ((with_reducible refine ABr.lssT (by assumption) ?_); conv => whnf) | ((with_reducible refine ABr.lssF (by assumption) ?_); conv => whnf) | ((with_reducible refine ABr.lss (fun h => ?_) (fun h => ?_)) <;> first | (exfalso; omega) | conv => whnf) | ((with_reducible refine ABr.gtrT (by assumption) ?_); conv => whnf) | ((with_reducible refine ABr.gtrF (by assumption) ?_); conv => whnf) | ((with_reducible refine ABr.gtr (fun h => ?_) (fun h => ?_)) <;> first | (exfalso; omega) | conv => whnf) | (refine ABr.byT (by with_reducible assumption) ?_; conv => whnf) | (refine ABr.byF (by with_reducible assumption) ?_; conv => whnf) | ((with_reducible refine ABr.decT rfl ?_); conv => whnf) | ((with_reducible refine ABr.decT (by assumption) ?_); conv => whnf) | ((with_reducible refine ABr.decF (by assumption) ?_); conv => whnf) | (refine ABr.dec (fun h => ?_) (fun h => ?_) <;> first | (exfalso; omega) | conv => whnf) | (refine ABr.gen (fun h => ?_) (fun h => ?_) <;> conv => whnf))
          | (show ACell _ _ _; first | (refine ACell.cell 0 ?_ ?_; (focus (first | exact T.side)); conv => whnf) | (refine ACell.mk ?_; conv => whnf))
          | (show AList _ _; first | (refine AList.app ?_ ?_; (focus (first | exact T.side)); conv => whnf) | (refine AList.set (x := b8 _) (bAV_b8 _).symm ?_ ?_; (focus (first | exact T.side)); conv => whnf) | (refine AList.set (f := iAV) rfl ?_ ?_; (focus (first | exact T.side)); conv => whnf) | (refine AList.part ?_; conv => whnf) | (refine AList.force ?_; (conv => whnf); refine Lit.mk ?_; conv => whnf) | (refine AList.full ?_ ?_; (focus (first | exact Nat.le_of_ble_eq_true rfl | (simp; done) | (simp; omega))); conv => whnf) | (refine AList.mk ?_; conv => whnf))
          | (refine LFresh.mk fun r => ?_; conv => whnf)
          | (show SWpL _ _ _ _ _ _ _; first | (apply SWpL.draw tyOk mixed (id := 10) [[], [0], [], [], [], [], [], [], [4, 5, 6, 7], [3, 8, 4, 5, 6, 7], [1, 0, 2, 9, 3, 8, 4, 5, 6, 7], [10, 1, 0, 2, 9, 3, 8, 4, 5, 6, 7], [11, 10, 1, 0, 2, 9, 3, 8, 4, 5, 6, 7], [11, 10, 1, 0, 2, 9, 3, 8, 4, 5, 6, 7], [12, 11, 10, 1, 0, 2, 9, 3, 8, 4, 5, 6, 7], [13, 11, 10, 1, 0, 2, 9, 3, 8, 4, 5, 6, 7, 14, 12]] [1, 8, 9] [0, 1, 2, 3, 4, 5, 6, 7, 8, 9, 10, 11, 12, 13, 14, 15] [] (by kernel_rfl); conv => whnf))
          | (show KeepL _ _ _; first | (refine KeepL.cons ?_; ((try show LHas _ _ _); repeat (with_reducible show LHas _ _ _); first | apply LHas.here | apply LHas.next); ((try show LHas _ _ _); repeat (with_reducible show LHas _ _ _); first | apply LHas.here | apply LHas.next); refine And.intro rfl ?_) | exact KeepL.nil)
          | (show InL _ _; first | exact InL.here | refine InL.next ?_)
          | (show False; (exact T.num))
          | exact Nm.b 0
        all_goals (try dsimp only)
        all_goals exact RetL.frz [] (LF.tup ⟨LF.nils rfl rfl, LF.eq rfl, trivial⟩) LSub.nil
      · refine LSpec.introL tyOk Tryd.func15 rfl (by kernel_rfl) (by simp) (fun q => ⟨by simp, by simp⟩) ?_
        refine AWpL.sound tyOk _ _ _ _ ?_
        conv => whnf
        repeat' first
          | (show LHas _ _ _; ((try show LHas _ _ _); repeat (with_reducible show LHas _ _ _); first | apply LHas.here | apply LHas.next); conv => whnf)
          | (refine And.intro ?_ ?_; (focus (first | exact T.side)); conv => whnf)
          | (show LCall _ _ _ _ _ _; first | (refine LCall.pure (h1 ▸ rvalid_c k) ?_; conv => whnf) | (refine LCall.pure (g ▸ rbits_c b) ?_; conv => whnf) | (refine LCall.pure (g2 ▸ rcount_c n) ?_; conv => whnf) | (apply LCall.eq; (focus (repeat first | (apply cons_congr; (focus (first | exact sl_bv rfl | exact sl_bv (by first | (simp; done) | (simp; (exact T.num))) | exact rfl))) | exact rfl)); first | (refine LCall.pure (h1 ▸ rvalid_c k) ?_; conv => whnf) | (refine LCall.pure (g ▸ rbits_c b) ?_; conv => whnf) | (refine LCall.pure (g2 ▸ rcount_c n) ?_; conv => whnf)))
          | (show ABr _ _ _; first | (refine ABr.tt ?_; conv => whnf) | (refine ABr.ff ?_; conv => whnf) | (refine ABr.byN ?_) | ((with_reducible refine ABr.lssT (by assumption) ?_); conv => whnf) | ((with_reducible refine ABr.lssF (by assumption) ?_); conv => whnf) | ((with_reducible refine ABr.lss (fun h => ?_) (fun h => ?_)) <;> first | (exfalso; omega) | conv => whnf) | ((with_reducible refine ABr.gtrT (by assumption) ?_); conv => whnf) | ((with_reducible refine ABr.gtrF (by assumption) ?_); conv => whnf) | ((with_reducible refine ABr.gtr (fun h => ?_) (fun h => ?_)) <;> first | (exfalso; omega) | conv => whnf) | (refine ABr.byT (by with_reducible assumption) ?_; conv => whnf) | (refine ABr.byF (by with_reducible assumption) ?_; conv => whnf) | ((with_reducible refine ABr.decT rfl ?_); conv => whnf) | ((with_reducible refine ABr.decT (by assumption) ?_); conv => whnf) | ((with_reducible refine ABr.decF (by assumption) ?_); conv => whnf) | (refine ABr.dec (fun h => ?_) (fun h => ?_) <;> first | (exfalso; omega) | conv => whnf) | (refine ABr.gen (fun h => ?_) (fun h => ?_) <;> conv => whnf))
          | (show ACell _ _ _; first | (refine ACell.cell 0 ?_ ?_; (focus (first | exact T.side)); conv => whnf) | (refine ACell.mk ?_; conv => whnf))
          | (show AList _ _; first | (refine AList.app ?_ ?_; (focus (first | exact T.side)); conv => whnf) | (refine AList.set (x := b8 _) (bAV_b8 _).symm ?_ ?_; (focus (first | exact T.side)); conv => whnf) | (refine AList.set (f := iAV) rfl ?_ ?_; (focus (first | exact T.side)); conv => whnf) | (refine AList.part ?_; conv => whnf) | (refine AList.force ?_; (conv => whnf); refine Lit.mk ?_; conv => whnf) | (refine AList.full ?_ ?_; (focus (first | exact Nat.le_of_ble_eq_true rfl | (simp; done) | (simp; omega))); conv => whnf) | (refine AList.mk ?_; conv => whnf))
          | (refine LFresh.mk fun r => ?_; conv => whnf)
          | (show SWpL _ _ _ _ _ _ _; first | (apply SWpL.draw tyOk mixed (id := 10) [[], [0], [], [], [], [], [], [], [4, 5, 6, 7], [3, 8, 4, 5, 6, 7], [1, 0, 2, 9, 3, 8, 4, 5, 6, 7], [10, 1, 0, 2, 9, 3, 8, 4, 5, 6, 7], [11, 10, 1, 0, 2, 9, 3, 8, 4, 5, 6, 7], [11, 10, 1, 0, 2, 9, 3, 8, 4, 5, 6, 7], [12, 11, 10, 1, 0, 2, 9, 3, 8, 4, 5, 6, 7], [13, 11, 10, 1, 0, 2, 9, 3, 8, 4, 5, 6, 7, 14, 12]] [1, 8, 9] [0, 1, 2, 3, 4, 5, 6, 7, 8, 9, 10, 11, 12, 13, 14, 15] [] (by kernel_rfl); conv => whnf))
          | (show KeepL _ _ _; first | (refine KeepL.cons ?_; ((try show LHas _ _ _); repeat (with_reducible show LHas _ _ _); first | apply LHas.here | apply LHas.next); ((try show LHas _ _ _); repeat (with_reducible show LHas _ _ _); first | apply LHas.here | apply LHas.next); refine And.intro rfl ?_) | exact KeepL.nil)
          | (show InL _ _; first | exact InL.here | refine InL.next ?_)
          | (show False; (exact T.num))
          | exact Nm.b 0
        all_goals (try dsimp only)
        all_goals exact RetL.frz [] (LF.tup ⟨LF.nils rfl rfl, LF.eq rfl, trivial⟩) LSub.nil
    · obtain ⟨g, hn⟩ : bitsOk b = true ∧ countOk n = true := by simpa using h2
      cases h3 : dataOk data
      · rw [sealR_size h1 h2 h3]
        have hd := rdata_no h3
        refine LSpec.introL tyOk Tryd.func15 rfl (by kernel_rfl) (by simp) (fun q => ⟨by simp, by simp⟩) ?_
        refine AWpL.sound tyOk _ _ _ _ ?_
        conv => whnf
        repeat' first
          | (show LHas _ _ _; ((try show LHas _ _ _); repeat (with_reducible show LHas _ _ _); first | apply LHas.here | apply LHas.next); conv => whnf)
          | (refine And.intro ?_ ?_; (focus (first | exact T.side)); conv => whnf)
          | (show LCall _ _ _ _ _ _; first | (refine LCall.pure (h1 ▸ rvalid_c k) ?_; conv => whnf) | (refine LCall.pure (g ▸ rbits_c b) ?_; conv => whnf) | (refine LCall.pure (hn ▸ rcount_c n) ?_; conv => whnf) | (apply LCall.eq; (focus (repeat first | (apply cons_congr; (focus (first | exact sl_bv rfl | exact sl_bv (by first | (simp; done) | (simp; (exact T.num))) | exact rfl))) | exact rfl)); first | (refine LCall.pure (h1 ▸ rvalid_c k) ?_; conv => whnf) | (refine LCall.pure (g ▸ rbits_c b) ?_; conv => whnf) | (refine LCall.pure (hn ▸ rcount_c n) ?_; conv => whnf)))
          | (show ABr _ _ _; first | (refine ABr.tt ?_; conv => whnf) | (refine ABr.ff ?_; conv => whnf) | (refine ABr.byN ?_) | ((with_reducible refine ABr.lssT (by assumption) ?_); conv => whnf) | ((with_reducible refine ABr.lssF (by assumption) ?_); conv => whnf) | ((with_reducible refine ABr.lss (fun h => ?_) (fun h => ?_)) <;> first | (exfalso; omega) | conv => whnf) | ((with_reducible refine ABr.gtrT (by assumption) ?_); conv => whnf) | ((with_reducible refine ABr.gtrF (by assumption) ?_); conv => whnf) | ((with_reducible refine ABr.gtr (fun h => ?_) (fun h => ?_)) <;> first | (exfalso; omega) | conv => whnf) | (refine ABr.byT (by with_reducible assumption) ?_; conv => whnf) | (refine ABr.byF (by with_reducible assumption) ?_; conv => whnf) | ((with_reducible refine ABr.decT rfl ?_); conv => whnf) | ((with_reducible refine ABr.decT (by assumption) ?_); conv => whnf) | ((with_reducible refine ABr.decF (by assumption) ?_); conv => whnf) | (refine ABr.dec (fun h => ?_) (fun h => ?_) <;> first | (exfalso; omega) | conv => whnf) | (refine ABr.gen (fun h => ?_) (fun h => ?_) <;> conv => whnf))
          | (show ACell _ _ _; first | (refine ACell.cell 0 ?_ ?_; (focus (first | exact T.side)); conv => whnf) | (refine ACell.mk ?_; conv => whnf))
          | (show AList _ _; first | (refine AList.app ?_ ?_; (focus (first | exact T.side)); conv => whnf) | (refine AList.set (x := b8 _) (bAV_b8 _).symm ?_ ?_; (focus (first | exact T.side)); conv => whnf) | (refine AList.set (f := iAV) rfl ?_ ?_; (focus (first | exact T.side)); conv => whnf) | (refine AList.part ?_; conv => whnf) | (refine AList.force ?_; (conv => whnf); refine Lit.mk ?_; conv => whnf) | (refine AList.full ?_ ?_; (focus (first | exact Nat.le_of_ble_eq_true rfl | (simp; done) | (simp; omega))); conv => whnf) | (refine AList.mk ?_; conv => whnf))
          | (refine LFresh.mk fun r => ?_; conv => whnf)
          | (show SWpL _ _ _ _ _ _ _; first | (apply SWpL.draw tyOk mixed (id := 10) [[], [0], [], [], [], [], [], [], [4, 5, 6, 7], [3, 8, 4, 5, 6, 7], [1, 0, 2, 9, 3, 8, 4, 5, 6, 7], [10, 1, 0, 2, 9, 3, 8, 4, 5, 6, 7], [11, 10, 1, 0, 2, 9, 3, 8, 4, 5, 6, 7], [11, 10, 1, 0, 2, 9, 3, 8, 4, 5, 6, 7], [12, 11, 10, 1, 0, 2, 9, 3, 8, 4, 5, 6, 7], [13, 11, 10, 1, 0, 2, 9, 3, 8, 4, 5, 6, 7, 14, 12]] [1, 8, 9] [0, 1, 2, 3, 4, 5, 6, 7, 8, 9, 10, 11, 12, 13, 14, 15] [] (by kernel_rfl); conv => whnf))
          | (show KeepL _ _ _; first | (refine KeepL.cons ?_; ((try show LHas _ _ _); repeat (with_reducible show LHas _ _ _); first | apply LHas.here | apply LHas.next); ((try show LHas _ _ _); repeat (with_reducible show LHas _ _ _); first | apply LHas.here | apply LHas.next); refine And.intro rfl ?_) | exact KeepL.nil)
          | (show InL _ _; first | exact InL.here | refine InL.next ?_)
          | (show False; (exact T.num))
          | exact Nm.b 0
        all_goals (try dsimp only)
        all_goals exact RetL.frz [] (LF.tup ⟨LF.nils rfl rfl, LF.eq rfl, trivial⟩) LSub.nil
      · rw [sealR_ok h1 h2 h3]
        have hd : 1 ≤ data.length ∧ data.length ≤ 2048 := by simpa [dataOk] using h3
        have hN := nonceL_len k n
        have hM := markH_len k (nonceL k n) (headL (lowR b n)) data h1 (by simp; omega)
        have hb5 : 1 ≤ b ∧ b ≤ 32 := by rcases bits_cases g with h | h | h | h | h <;> omega
        have hlow := lowR_lt b n g hn
        have hput : LSpec Tryd.prog gl 43 [.nils, iAV 2, iAV (iarith .add .i64 32768 (lowR b n))] [] (fun q => (.vw q 0 2 1, [(q, ⟨5, (headL (lowR b n)).map bAV⟩)])) := by
          have e : iarith .add .i64 32768 (lowR b n) = 32768 + lowR b n := by (exact T.num)
          rw [e, headL_put _ hlow.1 hlow.2]
          exact put2n_c _
        unfold sealL
        have hmk := fun p => rtag_p (G := gl) k (nonceL k n) (headL (lowR b n)) data (by omega) (headL_len _) (by omega) p
        generalize markH k (nonceL k n) (headL (lowR b n)) data = M at *
        have hx := rxor_c k.s (nonceL k n) (data ++ M)
        rw [xorR_ok _ _ _ (k.of h1).1 hN (by simp; omega)] at hx
        clear hlow
        refine LSpec.introL tyOk Tryd.func15 rfl (by kernel_rfl) (by simp) (fun q => ⟨by simp, by simp⟩) ?_
        refine AWpL.sound tyOk _ _ _ _ ?_
        conv => whnf
        repeat' first
          | (show LEra _ _ _; conv => whnf)
          | (show _ = List.length (_ ++ _); simp only [List.length_append]; done)
          | (show _ = List.map _ (_ ++ _); simp only [List.map_append]; done)
          | (show LHas _ _ _; ((try show LHas _ _ _); repeat (with_reducible show LHas _ _ _); first | apply LHas.here | apply LHas.next); conv => whnf)
          | (refine And.intro ?_ ?_; (focus (first | exact T.side)); conv => whnf)
          | (show LCall _ _ _ _ _ _; first | (refine LCall.pure (h1 ▸ rvalid_c k) ?_; conv => whnf) | (refine LCall.pure (g ▸ rbits_c b) ?_; conv => whnf) | (refine LCall.pure (hn ▸ rcount_c n) ?_; conv => whnf) | (refine LCall.pure (rlow_c b n hb5.1 hb5.2) ?_; conv => whnf) | (refine LCall.own (hput) ?_; conv => whnf) | (refine LCall.pure (rnonce_c k n h1 hn) ?_; conv => whnf) | (apply LCall.upd (hmk _); ((try show LHas _ _ _); repeat (with_reducible show LHas _ _ _); first | apply LHas.here | apply LHas.next); refine And.intro rfl ?_; conv => whnf) | (refine LCall.mk' (hx) [_] ⟨LF.eq rfl, LF.eq rfl, LF.rowF InL.here ?_, trivial⟩ ?_) | (apply LCall.eq; (focus (repeat first | (apply cons_congr; (focus (first | exact sl_bv rfl | exact sl_bv (by first | (simp; done) | (simp; (exact T.num))) | exact rfl))) | exact rfl)); first | (refine LCall.pure (h1 ▸ rvalid_c k) ?_; conv => whnf) | (refine LCall.pure (g ▸ rbits_c b) ?_; conv => whnf) | (refine LCall.pure (hn ▸ rcount_c n) ?_; conv => whnf) | (refine LCall.pure (rlow_c b n hb5.1 hb5.2) ?_; conv => whnf) | (refine LCall.own (hput) ?_; conv => whnf) | (refine LCall.pure (rnonce_c k n h1 hn) ?_; conv => whnf) | (apply LCall.upd (hmk _); ((try show LHas _ _ _); repeat (with_reducible show LHas _ _ _); first | apply LHas.here | apply LHas.next); refine And.intro rfl ?_; conv => whnf) | (refine LCall.mk' (hx) [_] ⟨LF.eq rfl, LF.eq rfl, LF.rowF InL.here ?_, trivial⟩ ?_)))
          | (show ABr _ _ _; first | (refine ABr.tt ?_; conv => whnf) | (refine ABr.ff ?_; conv => whnf) | (refine ABr.byN ?_) | ((with_reducible refine ABr.lssT (by assumption) ?_); conv => whnf) | ((with_reducible refine ABr.lssF (by assumption) ?_); conv => whnf) | ((with_reducible refine ABr.lss (fun h => ?_) (fun h => ?_)) <;> first | (exfalso; omega) | conv => whnf) | ((with_reducible refine ABr.gtrT (by assumption) ?_); conv => whnf) | ((with_reducible refine ABr.gtrF (by assumption) ?_); conv => whnf) | ((with_reducible refine ABr.gtr (fun h => ?_) (fun h => ?_)) <;> first | (exfalso; omega) | conv => whnf) | (refine ABr.byT (by with_reducible assumption) ?_; conv => whnf) | (refine ABr.byF (by with_reducible assumption) ?_; conv => whnf) | ((with_reducible refine ABr.decT rfl ?_); conv => whnf) | ((with_reducible refine ABr.decT (by assumption) ?_); conv => whnf) | ((with_reducible refine ABr.decF (by assumption) ?_); conv => whnf) | (refine ABr.dec (fun h => ?_) (fun h => ?_) <;> first | (exfalso; omega) | conv => whnf) | (refine ABr.gen (fun h => ?_) (fun h => ?_) <;> conv => whnf))
          | (show ACell _ _ _; first | (refine ACell.cell 0 ?_ ?_; (focus (first | exact T.side)); conv => whnf) | (refine ACell.mk ?_; conv => whnf))
          | (show AList _ _; first | (refine AList.app ?_ ?_; (focus (first | exact T.side)); conv => whnf) | (refine AList.set (x := b8 _) (bAV_b8 _).symm ?_ ?_; (focus (first | exact T.side)); conv => whnf) | (refine AList.set (f := iAV) rfl ?_ ?_; (focus (first | exact T.side)); conv => whnf) | (refine AList.part ?_; conv => whnf) | (refine AList.force ?_; (conv => whnf); refine Lit.mk ?_; conv => whnf) | (refine AList.full ?_ ?_; (focus (first | exact Nat.le_of_ble_eq_true rfl | (simp; done) | (simp; omega))); conv => whnf) | (refine AList.mk ?_; conv => whnf))
          | (refine LFresh.mk fun r => ?_; conv => whnf)
          | (show SWpL _ _ _ _ _ _ _; first | (apply SWpL.draw tyOk mixed (id := 10) [[], [0], [], [], [], [], [], [], [4, 5, 6, 7], [3, 8, 4, 5, 6, 7], [1, 0, 2, 9, 3, 8, 4, 5, 6, 7], [10, 1, 0, 2, 9, 3, 8, 4, 5, 6, 7], [11, 10, 1, 0, 2, 9, 3, 8, 4, 5, 6, 7], [11, 10, 1, 0, 2, 9, 3, 8, 4, 5, 6, 7], [12, 11, 10, 1, 0, 2, 9, 3, 8, 4, 5, 6, 7], [13, 11, 10, 1, 0, 2, 9, 3, 8, 4, 5, 6, 7, 14, 12]] [1, 8, 9] [0, 1, 2, 3, 4, 5, 6, 7, 8, 9, 10, 11, 12, 13, 14, 15] [_] (by kernel_rfl); conv => whnf) | (apply SWpL.draw tyOk mixed (id := 10) [[], [0], [], [], [], [], [], [], [4, 5, 6, 7], [3, 8, 4, 5, 6, 7], [1, 0, 2, 9, 3, 8, 4, 5, 6, 7], [10, 1, 0, 2, 9, 3, 8, 4, 5, 6, 7], [11, 10, 1, 0, 2, 9, 3, 8, 4, 5, 6, 7], [11, 10, 1, 0, 2, 9, 3, 8, 4, 5, 6, 7], [12, 11, 10, 1, 0, 2, 9, 3, 8, 4, 5, 6, 7], [13, 11, 10, 1, 0, 2, 9, 3, 8, 4, 5, 6, 7, 14, 12]] [1, 8, 9] [0, 1, 2, 3, 4, 5, 6, 7, 8, 9, 10, 11, 12, 13, 14, 15] [] (by kernel_rfl); conv => whnf))
          | (show KeepL _ _ _; first | (refine KeepL.cons ?_; ((try show LHas _ _ _); repeat (with_reducible show LHas _ _ _); first | apply LHas.here | apply LHas.next); ((try show LHas _ _ _); repeat (with_reducible show LHas _ _ _); first | apply LHas.here | apply LHas.next); refine And.intro rfl ?_) | exact KeepL.nil)
          | (show InL _ _; first | exact InL.here | refine InL.next ?_)
          | (show False; (exact T.num))
          | exact Nm.b 0
        all_goals (try dsimp only)
        refine RetL.frz [r] (LF.tup ⟨LF.rowF InL.here ?_, LF.eq rfl, trivial⟩) ?_
        · apply LHas.here
          exact ⟨by rw [List.map_append], by simp⟩
        · apply LHas.here
          exact LSub.nil
theorem take2_of (u : List UInt8) (sn : Int) (hl : 2 ≤ u.length) (h : numV u = sn) (h0 : 0 ≤ sn) (h1 : sn < 512) : u.take 2 = headL sn := by
  rw [headL_put sn h0 h1, ← h]
  unfold numV
  rw [show (32768 : Int) + (256 * ((u.getD 0 0).toNat : Int) + (u.getD 1 0).toNat - 32768) = 256 * ((u.getD 0 0).toNat : Int) + (u.getD 1 0).toNat by omega, putB_two]
  match u, hl with
  | x :: y :: u, _ => rfl
theorem ropen_c (k : Ky) (b n : Int) (u : List UInt8) : LSpec Tryd.prog gl 22 [k.av, iAV b, iAV n, bv u] [] (fun _ => (be (openR k b n u), [])) := by
  have hnum := rnumber_c b u
  cases h1 : k.ok
  · rw [openR_key b n u h1]
    refine LSpec.introL tyOk Tryd.func22 rfl (by kernel_rfl) (by simp) (fun q => ⟨by simp, by simp⟩) ?_
    refine AWpL.sound tyOk _ _ _ _ ?_
    conv => whnf
    repeat' first
      | (show LHas _ _ _; ((try show LHas _ _ _); repeat (with_reducible show LHas _ _ _); first | apply LHas.here | apply LHas.next); conv => whnf)
      | (refine And.intro ?_ ?_; (focus (first | exact T.side)); conv => whnf)
      | (show LCall _ _ _ _ _ _; first | (refine LCall.pure (h1 ▸ rvalid_c k) ?_; conv => whnf) | (apply LCall.eq; (focus (repeat first | (apply cons_congr; (focus (first | exact sl_bv rfl | exact sl_bv (by first | (simp; done) | (simp; (exact T.num))) | exact rfl))) | exact rfl)); first | (refine LCall.pure (h1 ▸ rvalid_c k) ?_; conv => whnf)))
      | (show ABr _ _ _; first | (refine ABr.tt ?_; conv => whnf) | (refine ABr.ff ?_; conv => whnf) | (refine ABr.byN ?_) | ((with_reducible refine ABr.neqT (by assumption) ?_); conv => whnf) | ((with_reducible refine ABr.neqF (by assumption) ?_); conv => whnf) | ((with_reducible refine ABr.neq (fun h => ?_) (fun h => ?_)) <;> first | (exfalso; omega) | conv => whnf) | (refine ABr.byT (by with_reducible assumption) ?_; conv => whnf) | (refine ABr.byF (by with_reducible assumption) ?_; conv => whnf) | ((with_reducible refine ABr.decT rfl ?_); conv => whnf) | ((with_reducible refine ABr.decT (by assumption) ?_); conv => whnf) | ((with_reducible refine ABr.decF (by assumption) ?_); conv => whnf) | (refine ABr.dec (fun h => ?_) (fun h => ?_) <;> first | (exfalso; omega) | conv => whnf) | (refine ABr.gen (fun h => ?_) (fun h => ?_) <;> conv => whnf))
      | (show ACell _ _ _; first | (refine ACell.cell 0 ?_ ?_; (focus (first | exact T.side)); conv => whnf) | (refine ACell.mk ?_; conv => whnf))
      | (show AList _ _; first | (refine AList.app ?_ ?_; (focus (first | exact T.side)); conv => whnf) | (refine AList.set (x := b8 _) (bAV_b8 _).symm ?_ ?_; (focus (first | exact T.side)); conv => whnf) | (refine AList.set (f := iAV) rfl ?_ ?_; (focus (first | exact T.side)); conv => whnf) | (refine AList.part ?_; conv => whnf) | (refine AList.force ?_; (conv => whnf); refine Lit.mk ?_; conv => whnf) | (refine AList.full ?_ ?_; (focus (first | exact Nat.le_of_ble_eq_true rfl | (simp; done) | (simp; omega))); conv => whnf) | (refine AList.mk ?_; conv => whnf))
      | (refine LFresh.mk fun r => ?_; conv => whnf)
      | (show SWpL _ _ _ _ _ _ _; first | (apply SWpL.draw tyOk mixed (id := 11) [[], [0], [], [], [3], [1, 0, 2, 4, 3], [5, 1, 0, 2, 4, 3], [6, 5, 1, 0, 2, 4, 3], [6, 5, 1, 0, 2, 4, 3], [7, 6, 5, 1, 0, 2, 4, 3], [8, 6, 5, 1, 0, 2, 4, 3, 9, 7]] [] [0, 1, 2, 3, 4, 5, 6, 7, 8, 9, 10] [] (by kernel_rfl); conv => whnf) | (apply SWpL.draw tyOk mixed (id := 13) [[], [], [1], [2, 1], [0, 3, 2, 1], [], [], [], [7], [], [5, 6, 8, 7, 9], [4, 0, 3, 2, 1, 10, 5, 6, 8, 7, 9], [11, 4, 0, 3, 2, 1, 10, 5, 6, 8, 7, 9]] [] [0, 1, 2, 3, 4, 5, 6, 7, 8, 9, 10, 11, 12] [] (by kernel_rfl); conv => whnf))
      | (show KeepL _ _ _; first | (refine KeepL.cons ?_; ((try show LHas _ _ _); repeat (with_reducible show LHas _ _ _); first | apply LHas.here | apply LHas.next); ((try show LHas _ _ _); repeat (with_reducible show LHas _ _ _); first | apply LHas.here | apply LHas.next); refine And.intro rfl ?_) | exact KeepL.nil)
      | (show InL _ _; first | exact InL.here | refine InL.next ?_)
      | (refine dec_yes ?_ ?_; (focus (first | exact .inl rfl | (exact T.num))); conv => whnf)
      | (refine dec_no ?_ ?_; (focus (exact T.num)); conv => whnf)
      | (refine dec_both (fun h => ?_) (fun h => ?_) <;> conv => whnf)
      | (show False; (exact T.num))
      | exact Nm.b 0
    all_goals (try dsimp only)
    exact RetL.frz [] (LF.tup ⟨LF.nils rfl rfl, LF.eq rfl, trivial⟩) LSub.nil
  · cases h2 : (bitsOk b && countOk n)
    · rw [openR_num u h1 h2]
      rcases and_ff h2 with g | ⟨g, g2⟩
      · refine LSpec.introL tyOk Tryd.func22 rfl (by kernel_rfl) (by simp) (fun q => ⟨by simp, by simp⟩) ?_
        refine AWpL.sound tyOk _ _ _ _ ?_
        conv => whnf
        repeat' first
          | (show LHas _ _ _; ((try show LHas _ _ _); repeat (with_reducible show LHas _ _ _); first | apply LHas.here | apply LHas.next); conv => whnf)
          | (refine And.intro ?_ ?_; (focus (first | exact T.side)); conv => whnf)
          | (show LCall _ _ _ _ _ _; first | (refine LCall.pure (h1 ▸ rvalid_c k) ?_; conv => whnf) | (refine LCall.pure (g ▸ rbits_c b) ?_; conv => whnf) | (refine LCall.pure (rcount_c n) ?_; conv => whnf) | (apply LCall.eq; (focus (repeat first | (apply cons_congr; (focus (first | exact sl_bv rfl | exact sl_bv (by first | (simp; done) | (simp; (exact T.num))) | exact rfl))) | exact rfl)); first | (refine LCall.pure (h1 ▸ rvalid_c k) ?_; conv => whnf) | (refine LCall.pure (g ▸ rbits_c b) ?_; conv => whnf) | (refine LCall.pure (rcount_c n) ?_; conv => whnf)))
          | (show ABr _ _ _; first | (refine ABr.tt ?_; conv => whnf) | (refine ABr.ff ?_; conv => whnf) | (refine ABr.byN ?_) | ((with_reducible refine ABr.neqT (by assumption) ?_); conv => whnf) | ((with_reducible refine ABr.neqF (by assumption) ?_); conv => whnf) | ((with_reducible refine ABr.neq (fun h => ?_) (fun h => ?_)) <;> first | (exfalso; omega) | conv => whnf) | (refine ABr.byT (by with_reducible assumption) ?_; conv => whnf) | (refine ABr.byF (by with_reducible assumption) ?_; conv => whnf) | ((with_reducible refine ABr.decT rfl ?_); conv => whnf) | ((with_reducible refine ABr.decT (by assumption) ?_); conv => whnf) | ((with_reducible refine ABr.decF (by assumption) ?_); conv => whnf) | (refine ABr.dec (fun h => ?_) (fun h => ?_) <;> first | (exfalso; omega) | conv => whnf) | (refine ABr.gen (fun h => ?_) (fun h => ?_) <;> conv => whnf))
          | (show ACell _ _ _; first | (refine ACell.cell 0 ?_ ?_; (focus (first | exact T.side)); conv => whnf) | (refine ACell.mk ?_; conv => whnf))
          | (show AList _ _; first | (refine AList.app ?_ ?_; (focus (first | exact T.side)); conv => whnf) | (refine AList.set (x := b8 _) (bAV_b8 _).symm ?_ ?_; (focus (first | exact T.side)); conv => whnf) | (refine AList.set (f := iAV) rfl ?_ ?_; (focus (first | exact T.side)); conv => whnf) | (refine AList.part ?_; conv => whnf) | (refine AList.force ?_; (conv => whnf); refine Lit.mk ?_; conv => whnf) | (refine AList.full ?_ ?_; (focus (first | exact Nat.le_of_ble_eq_true rfl | (simp; done) | (simp; omega))); conv => whnf) | (refine AList.mk ?_; conv => whnf))
          | (refine LFresh.mk fun r => ?_; conv => whnf)
          | (show SWpL _ _ _ _ _ _ _; first | (apply SWpL.draw tyOk mixed (id := 11) [[], [0], [], [], [3], [1, 0, 2, 4, 3], [5, 1, 0, 2, 4, 3], [6, 5, 1, 0, 2, 4, 3], [6, 5, 1, 0, 2, 4, 3], [7, 6, 5, 1, 0, 2, 4, 3], [8, 6, 5, 1, 0, 2, 4, 3, 9, 7]] [] [0, 1, 2, 3, 4, 5, 6, 7, 8, 9, 10] [] (by kernel_rfl); conv => whnf) | (apply SWpL.draw tyOk mixed (id := 13) [[], [], [1], [2, 1], [0, 3, 2, 1], [], [], [], [7], [], [5, 6, 8, 7, 9], [4, 0, 3, 2, 1, 10, 5, 6, 8, 7, 9], [11, 4, 0, 3, 2, 1, 10, 5, 6, 8, 7, 9]] [] [0, 1, 2, 3, 4, 5, 6, 7, 8, 9, 10, 11, 12] [] (by kernel_rfl); conv => whnf))
          | (show KeepL _ _ _; first | (refine KeepL.cons ?_; ((try show LHas _ _ _); repeat (with_reducible show LHas _ _ _); first | apply LHas.here | apply LHas.next); ((try show LHas _ _ _); repeat (with_reducible show LHas _ _ _); first | apply LHas.here | apply LHas.next); refine And.intro rfl ?_) | exact KeepL.nil)
          | (show InL _ _; first | exact InL.here | refine InL.next ?_)
          | (refine dec_yes ?_ ?_; (focus (first | exact .inl rfl | (exact T.num))); conv => whnf)
          | (refine dec_no ?_ ?_; (focus (exact T.num)); conv => whnf)
          | (refine dec_both (fun h => ?_) (fun h => ?_) <;> conv => whnf)
          | (show False; (exact T.num))
          | exact Nm.b 0
        all_goals (try dsimp only)
        all_goals exact RetL.frz [] (LF.tup ⟨LF.nils rfl rfl, LF.eq rfl, trivial⟩) LSub.nil
      · refine LSpec.introL tyOk Tryd.func22 rfl (by kernel_rfl) (by simp) (fun q => ⟨by simp, by simp⟩) ?_
        refine AWpL.sound tyOk _ _ _ _ ?_
        conv => whnf
        repeat' first
          | (show LHas _ _ _; ((try show LHas _ _ _); repeat (with_reducible show LHas _ _ _); first | apply LHas.here | apply LHas.next); conv => whnf)
          | (refine And.intro ?_ ?_; (focus (first | exact T.side)); conv => whnf)
          | (show LCall _ _ _ _ _ _; first | (refine LCall.pure (h1 ▸ rvalid_c k) ?_; conv => whnf) | (refine LCall.pure (g ▸ rbits_c b) ?_; conv => whnf) | (refine LCall.pure (g2 ▸ rcount_c n) ?_; conv => whnf) | (apply LCall.eq; (focus (repeat first | (apply cons_congr; (focus (first | exact sl_bv rfl | exact sl_bv (by first | (simp; done) | (simp; (exact T.num))) | exact rfl))) | exact rfl)); first | (refine LCall.pure (h1 ▸ rvalid_c k) ?_; conv => whnf) | (refine LCall.pure (g ▸ rbits_c b) ?_; conv => whnf) | (refine LCall.pure (g2 ▸ rcount_c n) ?_; conv => whnf)))
          | (show ABr _ _ _; first | (refine ABr.tt ?_; conv => whnf) | (refine ABr.ff ?_; conv => whnf) | (refine ABr.byN ?_) | ((with_reducible refine ABr.neqT (by assumption) ?_); conv => whnf) | ((with_reducible refine ABr.neqF (by assumption) ?_); conv => whnf) | ((with_reducible refine ABr.neq (fun h => ?_) (fun h => ?_)) <;> first | (exfalso; omega) | conv => whnf) | (refine ABr.byT (by with_reducible assumption) ?_; conv => whnf) | (refine ABr.byF (by with_reducible assumption) ?_; conv => whnf) | ((with_reducible refine ABr.decT rfl ?_); conv => whnf) | ((with_reducible refine ABr.decT (by assumption) ?_); conv => whnf) | ((with_reducible refine ABr.decF (by assumption) ?_); conv => whnf) | (refine ABr.dec (fun h => ?_) (fun h => ?_) <;> first | (exfalso; omega) | conv => whnf) | (refine ABr.gen (fun h => ?_) (fun h => ?_) <;> conv => whnf))
          | (show ACell _ _ _; first | (refine ACell.cell 0 ?_ ?_; (focus (first | exact T.side)); conv => whnf) | (refine ACell.mk ?_; conv => whnf))
          | (show AList _ _; first | (refine AList.app ?_ ?_; (focus (first | exact T.side)); conv => whnf) | (refine AList.set (x := b8 _) (bAV_b8 _).symm ?_ ?_; (focus (first | exact T.side)); conv => whnf) | (refine AList.set (f := iAV) rfl ?_ ?_; (focus (first | exact T.side)); conv => whnf) | (refine AList.part ?_; conv => whnf) | (refine AList.force ?_; (conv => whnf); refine Lit.mk ?_; conv => whnf) | (refine AList.full ?_ ?_; (focus (first | exact Nat.le_of_ble_eq_true rfl | (simp; done) | (simp; omega))); conv => whnf) | (refine AList.mk ?_; conv => whnf))
          | (refine LFresh.mk fun r => ?_; conv => whnf)
          | (show SWpL _ _ _ _ _ _ _; first | (apply SWpL.draw tyOk mixed (id := 11) [[], [0], [], [], [3], [1, 0, 2, 4, 3], [5, 1, 0, 2, 4, 3], [6, 5, 1, 0, 2, 4, 3], [6, 5, 1, 0, 2, 4, 3], [7, 6, 5, 1, 0, 2, 4, 3], [8, 6, 5, 1, 0, 2, 4, 3, 9, 7]] [] [0, 1, 2, 3, 4, 5, 6, 7, 8, 9, 10] [] (by kernel_rfl); conv => whnf) | (apply SWpL.draw tyOk mixed (id := 13) [[], [], [1], [2, 1], [0, 3, 2, 1], [], [], [], [7], [], [5, 6, 8, 7, 9], [4, 0, 3, 2, 1, 10, 5, 6, 8, 7, 9], [11, 4, 0, 3, 2, 1, 10, 5, 6, 8, 7, 9]] [] [0, 1, 2, 3, 4, 5, 6, 7, 8, 9, 10, 11, 12] [] (by kernel_rfl); conv => whnf))
          | (show KeepL _ _ _; first | (refine KeepL.cons ?_; ((try show LHas _ _ _); repeat (with_reducible show LHas _ _ _); first | apply LHas.here | apply LHas.next); ((try show LHas _ _ _); repeat (with_reducible show LHas _ _ _); first | apply LHas.here | apply LHas.next); refine And.intro rfl ?_) | exact KeepL.nil)
          | (show InL _ _; first | exact InL.here | refine InL.next ?_)
          | (refine dec_yes ?_ ?_; (focus (first | exact .inl rfl | (exact T.num))); conv => whnf)
          | (refine dec_no ?_ ?_; (focus (exact T.num)); conv => whnf)
          | (refine dec_both (fun h => ?_) (fun h => ?_) <;> conv => whnf)
          | (show False; (exact T.num))
          | exact Nm.b 0
        all_goals (try dsimp only)
        all_goals exact RetL.frz [] (LF.tup ⟨LF.nils rfl rfl, LF.eq rfl, trivial⟩) LSub.nil
    · obtain ⟨g, hn⟩ : bitsOk b = true ∧ countOk n = true := by simpa using h2
      have hb5 : 1 ≤ b ∧ b ≤ 32 := by rcases bits_cases g with h | h | h | h | h <;> omega
      by_cases h3 : (numR b u).2 = 0
      · by_cases h4 : (numR b u).1 = lowR b n
        · rw [openR_ok h1 h2 h3 h4]
          obtain ⟨-, g2, g3, g4, g5, g6⟩ := numR_ok h3
          have hN := nonceL_len k n
          have hlow := lowR_lt b n g hn
          have htake := take2_of u (lowR b n) (by omega) (g4.symm.trans h4) hlow.1 hlow.2
          rw [h3, h4] at hnum
          have hx := rxor_c k.s (nonceL k n) (u.drop 2)
          rw [xorR_ok _ _ _ (k.of h1).1 hN (by simp; omega)] at hx
          have hP : (xorL k.s (nonceL k n) (u.drop 2)).length = u.length - 6 + 4 := by simp; omega
          have hd : (u.drop 2).length = u.length - 2 := by simp
          generalize xorL k.s (nonceL k n) (u.drop 2) = P at *
          generalize hm : u.length - 6 = m at *
          have hl : (P.take m).length = m := by simp; omega
          have hmk := rtag_c (G := gl) k (nonceL k n) (u.take 2) (P.take m) (by omega) (by simp; omega) (by omega)
          have e3 : markH k (nonceL k n) (u.take 2) (P.take m) = markH k (nonceL k n) (headL (lowR b n)) (P.take m) := by rw [htake]
          rw [e3] at hmk
          clear e3
          generalize markH k (nonceL k n) (headL (lowR b n)) (P.take m) = M at *
          have hi : (iarith .sub .i64 ((P.length : Nat) : Int) 4).toNat = m := by (exact T.num)
          have hi0 : 0 ≤ iarith .sub .i64 ((P.length : Nat) : Int) 4 := by (exact T.num)
          have hi1 : iarith .sub .i64 ((P.length : Nat) : Int) 4 ≤ P.length := by (exact T.num)
          clear g4 g5 g6 h3 h4 hlow htake
          refine LSpec.introL tyOk Tryd.func22 rfl (by kernel_rfl) (by simp) (fun q => ⟨by simp, by simp⟩) ?_
          refine AWpL.sound tyOk _ _ _ _ ?_
          conv => whnf
          repeat' first
            | (show LHas _ _ _; ((try show LHas _ _ _); repeat (with_reducible show LHas _ _ _); first | apply LHas.here | apply LHas.next); conv => whnf)
            | (refine And.intro ?_ ?_; (focus (first | (simp; omega) | exact T.side)); conv => whnf)
            | (show LCall _ _ _ _ _ _; first | (refine LCall.pure (h1 ▸ rvalid_c k) ?_; conv => whnf) | (refine LCall.pure (g ▸ rbits_c b) ?_; conv => whnf) | (refine LCall.pure (hn ▸ rcount_c n) ?_; conv => whnf) | (refine LCall.pure (hnum) ?_; conv => whnf) | (refine LCall.pure (rlow_c b n hb5.1 hb5.2) ?_; conv => whnf) | (refine LCall.pure (rnonce_c k n h1 hn) ?_; conv => whnf) | (refine LCall.pure (hx) ?_; conv => whnf) | (refine LCall.pure (hmk) ?_; conv => whnf) | (refine LCall.pure (same_c _ _) ?_; conv => whnf) | (apply LCall.eq; (focus (repeat first | (apply cons_congr; (focus (first | exact sl_bv rfl | exact sl_bv (by first | (simp; done) | (simp; (exact T.num))) | exact rfl))) | exact rfl)); first | (refine LCall.pure (h1 ▸ rvalid_c k) ?_; conv => whnf) | (refine LCall.pure (g ▸ rbits_c b) ?_; conv => whnf) | (refine LCall.pure (hn ▸ rcount_c n) ?_; conv => whnf) | (refine LCall.pure (hnum) ?_; conv => whnf) | (refine LCall.pure (rlow_c b n hb5.1 hb5.2) ?_; conv => whnf) | (refine LCall.pure (rnonce_c k n h1 hn) ?_; conv => whnf) | (refine LCall.pure (hx) ?_; conv => whnf) | (refine LCall.pure (hmk) ?_; conv => whnf) | (refine LCall.pure (same_c _ _) ?_; conv => whnf)))
            | (show ABr _ _ _; first | (refine ABr.tt ?_; conv => whnf) | (refine ABr.ff ?_; conv => whnf) | (refine ABr.byN ?_) | ((with_reducible refine ABr.neqT (by assumption) ?_); conv => whnf) | ((with_reducible refine ABr.neqF (by assumption) ?_); conv => whnf) | ((with_reducible refine ABr.neq (fun h => ?_) (fun h => ?_)) <;> first | (exfalso; omega) | conv => whnf) | (refine ABr.byT (by with_reducible assumption) ?_; conv => whnf) | (refine ABr.byF (by with_reducible assumption) ?_; conv => whnf) | ((with_reducible refine ABr.decT rfl ?_); conv => whnf) | ((with_reducible refine ABr.decT (by assumption) ?_); conv => whnf) | ((with_reducible refine ABr.decF (by assumption) ?_); conv => whnf) | (refine ABr.dec (fun h => ?_) (fun h => ?_) <;> first | (exfalso; omega) | conv => whnf) | (refine ABr.gen (fun h => ?_) (fun h => ?_) <;> conv => whnf))
            | (show ACell _ _ _; first | (refine ACell.cell 0 ?_ ?_; (focus (first | exact T.side)); conv => whnf) | (refine ACell.mk ?_; conv => whnf))
            | (show AList _ _; first | (refine AList.tailE 2 ?_ ?_ ?_; (focus rfl); (focus (simp; omega)); conv => whnf) | (refine AList.tailE m ?_ ?_ ?_; (focus (rw [hi, Nat.mul_one])); (focus (simp; omega)); conv => whnf) | (refine AList.headE 2 ?_ ?_ ?_; (focus rfl); (focus rfl); conv => whnf) | (refine AList.headE m ?_ ?_ ?_; (focus rfl); (focus (rw [hi] <;> simp)); conv => whnf) | (refine AList.app ?_ ?_; (focus (first | exact T.side)); conv => whnf) | (refine AList.set (x := b8 _) (bAV_b8 _).symm ?_ ?_; (focus (first | exact T.side)); conv => whnf) | (refine AList.set (f := iAV) rfl ?_ ?_; (focus (first | exact T.side)); conv => whnf) | (refine AList.part ?_; conv => whnf) | (refine AList.force ?_; (conv => whnf); refine Lit.mk ?_; conv => whnf) | (refine AList.full ?_ ?_; (focus (first | exact Nat.le_of_ble_eq_true rfl | (simp; done) | (simp; omega))); conv => whnf) | (refine AList.mk ?_; conv => whnf))
            | (refine LFresh.mk fun r => ?_; conv => whnf)
            | (show SWpL _ _ _ _ _ _ _; first | (apply SWpL.draw tyOk mixed (id := 11) [[], [0], [], [], [3], [1, 0, 2, 4, 3], [5, 1, 0, 2, 4, 3], [6, 5, 1, 0, 2, 4, 3], [6, 5, 1, 0, 2, 4, 3], [7, 6, 5, 1, 0, 2, 4, 3], [8, 6, 5, 1, 0, 2, 4, 3, 9, 7]] [] [0, 1, 2, 3, 4, 5, 6, 7, 8, 9, 10] [_] (by kernel_rfl); conv => whnf) | (apply SWpL.draw tyOk mixed (id := 11) [[], [0], [], [], [3], [1, 0, 2, 4, 3], [5, 1, 0, 2, 4, 3], [6, 5, 1, 0, 2, 4, 3], [6, 5, 1, 0, 2, 4, 3], [7, 6, 5, 1, 0, 2, 4, 3], [8, 6, 5, 1, 0, 2, 4, 3, 9, 7]] [] [0, 1, 2, 3, 4, 5, 6, 7, 8, 9, 10] [] (by kernel_rfl); conv => whnf) | (apply SWpL.draw tyOk mixed (id := 13) [[], [], [1], [2, 1], [0, 3, 2, 1], [], [], [], [7], [], [5, 6, 8, 7, 9], [4, 0, 3, 2, 1, 10, 5, 6, 8, 7, 9], [11, 4, 0, 3, 2, 1, 10, 5, 6, 8, 7, 9]] [] [0, 1, 2, 3, 4, 5, 6, 7, 8, 9, 10, 11, 12] [_] (by kernel_rfl); conv => whnf) | (apply SWpL.draw tyOk mixed (id := 13) [[], [], [1], [2, 1], [0, 3, 2, 1], [], [], [], [7], [], [5, 6, 8, 7, 9], [4, 0, 3, 2, 1, 10, 5, 6, 8, 7, 9], [11, 4, 0, 3, 2, 1, 10, 5, 6, 8, 7, 9]] [] [0, 1, 2, 3, 4, 5, 6, 7, 8, 9, 10, 11, 12] [] (by kernel_rfl); conv => whnf))
            | (show KeepL _ _ _; first | (refine KeepL.cons ?_; ((try show LHas _ _ _); repeat (with_reducible show LHas _ _ _); first | apply LHas.here | apply LHas.next); ((try show LHas _ _ _); repeat (with_reducible show LHas _ _ _); first | apply LHas.here | apply LHas.next); refine And.intro rfl ?_) | exact KeepL.nil)
            | (show InL _ _; first | exact InL.here | refine InL.next ?_)
            | (refine dec_yes ?_ ?_; (focus (first | exact .inl rfl | (exact T.num))); conv => whnf)
            | (refine dec_no ?_ ?_; (focus (exact T.num)); conv => whnf)
            | (refine dec_both (fun h => ?_) (fun h => ?_) <;> conv => whnf)
            | (show False; (exact T.num))
            | exact Nm.b 0
          all_goals (try dsimp only)
          · rw [if_pos (by assumption)]
            refine RetL.frz [r] (LF.tup ⟨LF.rowF InL.here ?_, LF.eq rfl, trivial⟩) ?_
            · apply LHas.here
              exact ⟨rfl, by rw [hi, hl]; rfl⟩
            · apply LHas.here
              exact LSub.nil
          · rw [if_neg (by assumption)]
            exact RetL.frz [] (LF.tup ⟨LF.nils rfl rfl, LF.eq rfl, trivial⟩) LSub.nil
        · rw [openR_sn h1 h2 h3 h4]
          rw [h3] at hnum
          generalize (numR b u).1 = v at *
          refine LSpec.introL tyOk Tryd.func22 rfl (by kernel_rfl) (by simp) (fun q => ⟨by simp, by simp⟩) ?_
          refine AWpL.sound tyOk _ _ _ _ ?_
          conv => whnf
          repeat' first
            | (show LHas _ _ _; ((try show LHas _ _ _); repeat (with_reducible show LHas _ _ _); first | apply LHas.here | apply LHas.next); conv => whnf)
            | (refine And.intro ?_ ?_; (focus (first | exact T.side)); conv => whnf)
            | (show LCall _ _ _ _ _ _; first | (refine LCall.pure (h1 ▸ rvalid_c k) ?_; conv => whnf) | (refine LCall.pure (g ▸ rbits_c b) ?_; conv => whnf) | (refine LCall.pure (hn ▸ rcount_c n) ?_; conv => whnf) | (refine LCall.pure (hnum) ?_; conv => whnf) | (refine LCall.pure (rlow_c b n hb5.1 hb5.2) ?_; conv => whnf) | (apply LCall.eq; (focus (repeat first | (apply cons_congr; (focus (first | exact sl_bv rfl | exact sl_bv (by first | (simp; done) | (simp; (exact T.num))) | exact rfl))) | exact rfl)); first | (refine LCall.pure (h1 ▸ rvalid_c k) ?_; conv => whnf) | (refine LCall.pure (g ▸ rbits_c b) ?_; conv => whnf) | (refine LCall.pure (hn ▸ rcount_c n) ?_; conv => whnf) | (refine LCall.pure (hnum) ?_; conv => whnf) | (refine LCall.pure (rlow_c b n hb5.1 hb5.2) ?_; conv => whnf)))
            | (show ABr _ _ _; first | (refine ABr.tt ?_; conv => whnf) | (refine ABr.ff ?_; conv => whnf) | (refine ABr.byN ?_) | ((with_reducible refine ABr.neqT (by assumption) ?_); conv => whnf) | ((with_reducible refine ABr.neqF (by assumption) ?_); conv => whnf) | ((with_reducible refine ABr.neq (fun h => ?_) (fun h => ?_)) <;> first | (exfalso; omega) | conv => whnf) | (refine ABr.byT (by with_reducible assumption) ?_; conv => whnf) | (refine ABr.byF (by with_reducible assumption) ?_; conv => whnf) | ((with_reducible refine ABr.decT rfl ?_); conv => whnf) | ((with_reducible refine ABr.decT (by assumption) ?_); conv => whnf) | ((with_reducible refine ABr.decF (by assumption) ?_); conv => whnf) | (refine ABr.dec (fun h => ?_) (fun h => ?_) <;> first | (exfalso; omega) | conv => whnf) | (refine ABr.gen (fun h => ?_) (fun h => ?_) <;> conv => whnf))
            | (show ACell _ _ _; first | (refine ACell.cell 0 ?_ ?_; (focus (first | exact T.side)); conv => whnf) | (refine ACell.mk ?_; conv => whnf))
            | (show AList _ _; first | (refine AList.app ?_ ?_; (focus (first | exact T.side)); conv => whnf) | (refine AList.set (x := b8 _) (bAV_b8 _).symm ?_ ?_; (focus (first | exact T.side)); conv => whnf) | (refine AList.set (f := iAV) rfl ?_ ?_; (focus (first | exact T.side)); conv => whnf) | (refine AList.part ?_; conv => whnf) | (refine AList.force ?_; (conv => whnf); refine Lit.mk ?_; conv => whnf) | (refine AList.full ?_ ?_; (focus (first | exact Nat.le_of_ble_eq_true rfl | (simp; done) | (simp; omega))); conv => whnf) | (refine AList.mk ?_; conv => whnf))
            | (refine LFresh.mk fun r => ?_; conv => whnf)
            | (show SWpL _ _ _ _ _ _ _; first | (apply SWpL.draw tyOk mixed (id := 11) [[], [0], [], [], [3], [1, 0, 2, 4, 3], [5, 1, 0, 2, 4, 3], [6, 5, 1, 0, 2, 4, 3], [6, 5, 1, 0, 2, 4, 3], [7, 6, 5, 1, 0, 2, 4, 3], [8, 6, 5, 1, 0, 2, 4, 3, 9, 7]] [] [0, 1, 2, 3, 4, 5, 6, 7, 8, 9, 10] [] (by kernel_rfl); conv => whnf) | (apply SWpL.draw tyOk mixed (id := 13) [[], [], [1], [2, 1], [0, 3, 2, 1], [], [], [], [7], [], [5, 6, 8, 7, 9], [4, 0, 3, 2, 1, 10, 5, 6, 8, 7, 9], [11, 4, 0, 3, 2, 1, 10, 5, 6, 8, 7, 9]] [] [0, 1, 2, 3, 4, 5, 6, 7, 8, 9, 10, 11, 12] [] (by kernel_rfl); conv => whnf))
            | (show KeepL _ _ _; first | (refine KeepL.cons ?_; ((try show LHas _ _ _); repeat (with_reducible show LHas _ _ _); first | apply LHas.here | apply LHas.next); ((try show LHas _ _ _); repeat (with_reducible show LHas _ _ _); first | apply LHas.here | apply LHas.next); refine And.intro rfl ?_) | exact KeepL.nil)
            | (show InL _ _; first | exact InL.here | refine InL.next ?_)
            | (refine dec_yes ?_ ?_; (focus (first | exact .inl rfl | (exact T.num))); conv => whnf)
            | (refine dec_no ?_ ?_; (focus (exact T.num)); conv => whnf)
            | (refine dec_both (fun h => ?_) (fun h => ?_) <;> conv => whnf)
            | (show False; (exact T.num))
            | exact Nm.b 0
          all_goals (try dsimp only)
          exact RetL.frz [] (LF.tup ⟨LF.nils rfl rfl, LF.eq rfl, trivial⟩) LSub.nil
      · rw [openR_err h1 h2 h3]
        generalize (numR b u).1 = v at *
        generalize (numR b u).2 = w at *
        refine LSpec.introL tyOk Tryd.func22 rfl (by kernel_rfl) (by simp) (fun q => ⟨by simp, by simp⟩) ?_
        refine AWpL.sound tyOk _ _ _ _ ?_
        conv => whnf
        repeat' first
          | (show LHas _ _ _; ((try show LHas _ _ _); repeat (with_reducible show LHas _ _ _); first | apply LHas.here | apply LHas.next); conv => whnf)
          | (refine And.intro ?_ ?_; (focus (first | exact T.side)); conv => whnf)
          | (show LCall _ _ _ _ _ _; first | (refine LCall.pure (h1 ▸ rvalid_c k) ?_; conv => whnf) | (refine LCall.pure (g ▸ rbits_c b) ?_; conv => whnf) | (refine LCall.pure (hn ▸ rcount_c n) ?_; conv => whnf) | (refine LCall.pure (hnum) ?_; conv => whnf) | (apply LCall.eq; (focus (repeat first | (apply cons_congr; (focus (first | exact sl_bv rfl | exact sl_bv (by first | (simp; done) | (simp; (exact T.num))) | exact rfl))) | exact rfl)); first | (refine LCall.pure (h1 ▸ rvalid_c k) ?_; conv => whnf) | (refine LCall.pure (g ▸ rbits_c b) ?_; conv => whnf) | (refine LCall.pure (hn ▸ rcount_c n) ?_; conv => whnf) | (refine LCall.pure (hnum) ?_; conv => whnf)))
          | (show ABr _ _ _; first | (refine ABr.tt ?_; conv => whnf) | (refine ABr.ff ?_; conv => whnf) | (refine ABr.byN ?_) | ((with_reducible refine ABr.neqT (by assumption) ?_); conv => whnf) | ((with_reducible refine ABr.neqF (by assumption) ?_); conv => whnf) | ((with_reducible refine ABr.neq (fun h => ?_) (fun h => ?_)) <;> first | (exfalso; omega) | conv => whnf) | (refine ABr.byT (by with_reducible assumption) ?_; conv => whnf) | (refine ABr.byF (by with_reducible assumption) ?_; conv => whnf) | ((with_reducible refine ABr.decT rfl ?_); conv => whnf) | ((with_reducible refine ABr.decT (by assumption) ?_); conv => whnf) | ((with_reducible refine ABr.decF (by assumption) ?_); conv => whnf) | (refine ABr.dec (fun h => ?_) (fun h => ?_) <;> first | (exfalso; omega) | conv => whnf) | (refine ABr.gen (fun h => ?_) (fun h => ?_) <;> conv => whnf))
          | (show ACell _ _ _; first | (refine ACell.cell 0 ?_ ?_; (focus (first | exact T.side)); conv => whnf) | (refine ACell.mk ?_; conv => whnf))
          | (show AList _ _; first | (refine AList.app ?_ ?_; (focus (first | exact T.side)); conv => whnf) | (refine AList.set (x := b8 _) (bAV_b8 _).symm ?_ ?_; (focus (first | exact T.side)); conv => whnf) | (refine AList.set (f := iAV) rfl ?_ ?_; (focus (first | exact T.side)); conv => whnf) | (refine AList.part ?_; conv => whnf) | (refine AList.force ?_; (conv => whnf); refine Lit.mk ?_; conv => whnf) | (refine AList.full ?_ ?_; (focus (first | exact Nat.le_of_ble_eq_true rfl | (simp; done) | (simp; omega))); conv => whnf) | (refine AList.mk ?_; conv => whnf))
          | (refine LFresh.mk fun r => ?_; conv => whnf)
          | (show SWpL _ _ _ _ _ _ _; first | (apply SWpL.draw tyOk mixed (id := 11) [[], [0], [], [], [3], [1, 0, 2, 4, 3], [5, 1, 0, 2, 4, 3], [6, 5, 1, 0, 2, 4, 3], [6, 5, 1, 0, 2, 4, 3], [7, 6, 5, 1, 0, 2, 4, 3], [8, 6, 5, 1, 0, 2, 4, 3, 9, 7]] [] [0, 1, 2, 3, 4, 5, 6, 7, 8, 9, 10] [] (by kernel_rfl); conv => whnf) | (apply SWpL.draw tyOk mixed (id := 13) [[], [], [1], [2, 1], [0, 3, 2, 1], [], [], [], [7], [], [5, 6, 8, 7, 9], [4, 0, 3, 2, 1, 10, 5, 6, 8, 7, 9], [11, 4, 0, 3, 2, 1, 10, 5, 6, 8, 7, 9]] [] [0, 1, 2, 3, 4, 5, 6, 7, 8, 9, 10, 11, 12] [] (by kernel_rfl); conv => whnf))
          | (show KeepL _ _ _; first | (refine KeepL.cons ?_; ((try show LHas _ _ _); repeat (with_reducible show LHas _ _ _); first | apply LHas.here | apply LHas.next); ((try show LHas _ _ _); repeat (with_reducible show LHas _ _ _); first | apply LHas.here | apply LHas.next); refine And.intro rfl ?_) | exact KeepL.nil)
          | (show InL _ _; first | exact InL.here | refine InL.next ?_)
          | (refine dec_yes ?_ ?_; (focus (first | exact .inl rfl | (exact T.num))); conv => whnf)
          | (refine dec_no ?_ ?_; (focus (exact T.num)); conv => whnf)
          | (refine dec_both (fun h => ?_) (fun h => ?_) <;> conv => whnf)
          | (show False; (exact T.num))
          | exact Nm.b 0
        all_goals (try dsimp only)
        exact RetL.frz [] (LF.tup ⟨LF.nils rfl rfl, LF.eq rfl, trivial⟩) LSub.nil
end Go.Proofs.YtdpfcpkedaolfaaDoor
