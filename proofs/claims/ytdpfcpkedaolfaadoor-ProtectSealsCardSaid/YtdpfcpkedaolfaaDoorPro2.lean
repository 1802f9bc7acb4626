import Derived.Test.YtdpfcpkedaolfaaDoorPro1
namespace Go.Proofs.YtdpfcpkedaolfaaDoor
open Go.RowKit
set_option linter.all false
theorem Ky.of (k : Ky) (h : k.ok = true) : k.s.length = 32 ∧ k.g.length = 16 ∧ 0 ≤ k.n ∧ k.n ≤ 4294967295 ∧ 0 ≤ k.b ∧ k.b ≤ 255 ∧ (k.d = 0 ∨ k.d = 1) := by
  simpa [Ky.ok] using h
theorem xorR_ok (key nonce b : List UInt8) (hk : key.length = 32) (hn : nonce.length = 12) (hb : b.length ≤ 4096) : xorR key nonce b = (xorL key nonce b, 0) := by
  unfold xorR
  rw [if_pos hk, if_pos ⟨hn, hb⟩]
theorem markH_len (k : Ky) (nonce h data : List UInt8) (hk : k.ok = true) (hn : nonce.length + h.length + data.length ≤ 4096) : (markH k nonce h data).length = 4 := by
  unfold markH shortR
  rw [if_pos (k.of hk).2.1, if_pos (by simp; omega)]
  simp
/-- What a unit is made of. -/
def sealL (k : Ky) (b n : Int) (data : List UInt8) : List UInt8 := headL (lowR b n) ++ xorL k.s (nonceL k n) (data ++ markH k (nonceL k n) (headL (lowR b n)) data)
def sealR (k : Ky) (b n : Int) (data : List UInt8) : List UInt8 × Int := if k.ok then (if bitsOk b && countOk n then (if dataOk data then (sealL k b n data, 0) else ([], 2)) else ([], 3)) else ([], 9)
theorem sealR_key {k : Ky} (b n : Int) (data : List UInt8) (h : k.ok = false) : sealR k b n data = ([], 9) := by simp [sealR, h]
theorem sealR_num {k : Ky} {b n : Int} (data : List UInt8) (h : k.ok = true) (h2 : (bitsOk b && countOk n) = false) : sealR k b n data = ([], 3) := by unfold sealR; rw [h, h2]; rfl
theorem sealR_size {k : Ky} {b n : Int} {data : List UInt8} (h : k.ok = true) (h2 : (bitsOk b && countOk n) = true) (h3 : dataOk data = false) : sealR k b n data = ([], 2) := by unfold sealR; rw [h, h2, h3]; rfl
theorem sealR_ok {k : Ky} {b n : Int} {data : List UInt8} (h : k.ok = true) (h2 : (bitsOk b && countOk n) = true) (h3 : dataOk data = true) : sealR k b n data = (sealL k b n data, 0) := by unfold sealR; rw [h, h2, h3]; rfl
theorem chk_key {k : Ky} (b n : Int) (h : k.ok = false) : chkR k b n = (0, 9) := by simp [chkR, h]
theorem chk_num {k : Ky} {b n : Int} (h : k.ok = true) (h2 : (bitsOk b && countOk n) = false) : chkR k b n = (0, 3) := by unfold chkR; rw [h, h2]; rfl
theorem chk_ok {k : Ky} {b n : Int} (h : k.ok = true) (h2 : (bitsOk b && countOk n) = true) : chkR k b n = (lowR b n, 0) := by unfold chkR; rw [h, h2]; rfl
theorem seal_c (k : Ky) (b n : Int) (data : List UInt8) : LSpec Tryd.prog gl 20 [k.av, iAV b, iAV n, bv data] [] (fun _ => (be (sealR k b n data), [])) := by
  have hc := checked_c (G := gl) k b n
  cases h1 : k.ok
  · rw [sealR_key b n data h1]
    rw [chk_key b n h1] at hc
    refine LSpec.introL tyOk Tryd.func20 rfl (by kernel_rfl) (by simp) (fun q => ⟨by simp, by simp⟩) ?_
    refine AWpL.sound tyOk _ _ _ _ ?_
    conv => whnf
    repeat' first
      | (show LHas _ _ _; ((try show LHas _ _ _); repeat (with_reducible show LHas _ _ _); first | apply LHas.here | apply LHas.next); conv => whnf)
      | (refine And.intro ?_ ?_; (focus (first | exact T.side)); conv => whnf)
      | (show LCall _ _ _ _ _ _; first | (refine LCall.pure (hc) ?_; conv => whnf) | (apply LCall.eq; (focus (repeat first | (apply cons_congr; (focus (first | exact sl_bv rfl | exact sl_bv (by first | (simp; done) | (simp; (exact T.num))) | exact rfl))) | exact rfl)); first | (refine LCall.pure (hc) ?_; conv => whnf)))
      | (show ABr _ _ _; first | (refine ABr.tt ?_; conv => whnf) | (refine ABr.ff ?_; conv => whnf) | (refine ABr.byN ?_) | ((with_reducible refine ABr.neqT (by assumption) ?_); conv => whnf) | ((with_reducible refine ABr.neqF (by assumption) ?_); conv => whnf) | ((with_reducible refine ABr.neq (fun h => ?_) (fun h => ?_)) <;> first | (exfalso; omega) | conv => whnf) | (refine ABr.byT (by with_reducible assumption) ?_; conv => whnf) | (refine ABr.byF (by with_reducible assumption) ?_; conv => whnf) | ((with_reducible refine ABr.decT rfl ?_); conv => whnf) | ((with_reducible refine ABr.decT (by assumption) ?_); conv => whnf) | ((with_reducible refine ABr.decF (by assumption) ?_); conv => whnf) | (refine ABr.dec (fun h => ?_) (fun h => ?_) <;> first | (exfalso; omega) | conv => whnf) | (refine ABr.gen (fun h => ?_) (fun h => ?_) <;> conv => whnf))
      | (show ACell _ _ _; first | (refine ACell.cell 0 ?_ ?_; (focus (first | exact T.side)); conv => whnf) | (refine ACell.mk ?_; conv => whnf))
      | (show AList _ _; first | (refine AList.app ?_ ?_; (focus (first | exact T.side)); conv => whnf) | (refine AList.set (x := b8 _) (bAV_b8 _).symm ?_ ?_; (focus (first | exact T.side)); conv => whnf) | (refine AList.set (f := iAV) rfl ?_ ?_; (focus (first | exact T.side)); conv => whnf) | (refine AList.part ?_; conv => whnf) | (refine AList.force ?_; (conv => whnf); refine Lit.mk ?_; conv => whnf) | (refine AList.full ?_ ?_; (focus (first | exact Nat.le_of_ble_eq_true rfl | (simp; done) | (simp; omega))); conv => whnf) | (refine AList.mk ?_; conv => whnf))
      | (refine LFresh.mk fun r => ?_; conv => whnf)
      | (show SWpL _ _ _ _ _ _ _; first | (apply SWpL.draw tyOk mixed (id := 7) [[], [0], [], [], [], [], [], [], [4, 5, 6, 7], [3, 8, 4, 5, 6, 7], [9, 3, 8, 4, 5, 6, 7], [1, 0, 2, 10, 9, 3, 8, 4, 5, 6, 7], [11, 1, 0, 2, 10, 9, 3, 8, 4, 5, 6, 7], [12, 11, 1, 0, 2, 10, 9, 3, 8, 4, 5, 6, 7], [12, 11, 1, 0, 2, 10, 9, 3, 8, 4, 5, 6, 7], [13, 12, 11, 1, 0, 2, 10, 9, 3, 8, 4, 5, 6, 7], [14, 12, 11, 1, 0, 2, 10, 9, 3, 8, 4, 5, 6, 7, 15, 13]] [1, 8, 10] [0, 1, 2, 3, 4, 5, 6, 7, 8, 9, 10, 11, 12, 13, 14, 15, 16] [] (by kernel_rfl); conv => whnf))
      | (show KeepL _ _ _; first | (refine KeepL.cons ?_; ((try show LHas _ _ _); repeat (with_reducible show LHas _ _ _); first | apply LHas.here | apply LHas.next); ((try show LHas _ _ _); repeat (with_reducible show LHas _ _ _); first | apply LHas.here | apply LHas.next); refine And.intro rfl ?_) | exact KeepL.nil)
      | (show InL _ _; first | exact InL.here | refine InL.next ?_)
      | (show False; (exact T.num))
      | exact Nm.b 0
    all_goals (try dsimp only)
    exact RetL.frz [] (LF.tup ⟨LF.nils rfl rfl, LF.eq rfl, trivial⟩) LSub.nil
  · cases h2 : (bitsOk b && countOk n)
    · rw [sealR_num data h1 h2]
      rw [chk_num h1 h2] at hc
      refine LSpec.introL tyOk Tryd.func20 rfl (by kernel_rfl) (by simp) (fun q => ⟨by simp, by simp⟩) ?_
      refine AWpL.sound tyOk _ _ _ _ ?_
      conv => whnf
      repeat' first
        | (show LHas _ _ _; ((try show LHas _ _ _); repeat (with_reducible show LHas _ _ _); first | apply LHas.here | apply LHas.next); conv => whnf)
        | (refine And.intro ?_ ?_; (focus (first | exact T.side)); conv => whnf)
        | (show LCall _ _ _ _ _ _; first | (refine LCall.pure (hc) ?_; conv => whnf) | (apply LCall.eq; (focus (repeat first | (apply cons_congr; (focus (first | exact sl_bv rfl | exact sl_bv (by first | (simp; done) | (simp; (exact T.num))) | exact rfl))) | exact rfl)); first | (refine LCall.pure (hc) ?_; conv => whnf)))
        | (show ABr _ _ _; first | (refine ABr.tt ?_; conv => whnf) | (refine ABr.ff ?_; conv => whnf) | (refine ABr.byN ?_) | ((with_reducible refine ABr.neqT (by assumption) ?_); conv => whnf) | ((with_reducible refine ABr.neqF (by assumption) ?_); conv => whnf) | ((with_reducible refine ABr.neq (fun h => ?_) (fun h => ?_)) <;> first | (exfalso; omega) | conv => whnf) | (refine ABr.byT (by with_reducible assumption) ?_; conv => whnf) | (refine ABr.byF (by with_reducible assumption) ?_; conv => whnf) | ((with_reducible refine ABr.decT rfl ?_); conv => whnf) | ((with_reducible refine ABr.decT (by assumption) ?_); conv => whnf) | ((with_reducible refine ABr.decF (by assumption) ?_); conv => whnf) | (refine ABr.dec (fun h => ?_) (fun h => ?_) <;> first | (exfalso; omega) | conv => whnf) | (refine ABr.gen (fun h => ?_) (fun h => ?_) <;> conv => whnf))
        | (show ACell _ _ _; first | (refine ACell.cell 0 ?_ ?_; (focus (first | exact T.side)); conv => whnf) | (refine ACell.mk ?_; conv => whnf))
        | (show AList _ _; first | (refine AList.app ?_ ?_; (focus (first | exact T.side)); conv => whnf) | (refine AList.set (x := b8 _) (bAV_b8 _).symm ?_ ?_; (focus (first | exact T.side)); conv => whnf) | (refine AList.set (f := iAV) rfl ?_ ?_; (focus (first | exact T.side)); conv => whnf) | (refine AList.part ?_; conv => whnf) | (refine AList.force ?_; (conv => whnf); refine Lit.mk ?_; conv => whnf) | (refine AList.full ?_ ?_; (focus (first | exact Nat.le_of_ble_eq_true rfl | (simp; done) | (simp; omega))); conv => whnf) | (refine AList.mk ?_; conv => whnf))
        | (refine LFresh.mk fun r => ?_; conv => whnf)
        | (show SWpL _ _ _ _ _ _ _; first | (apply SWpL.draw tyOk mixed (id := 7) [[], [0], [], [], [], [], [], [], [4, 5, 6, 7], [3, 8, 4, 5, 6, 7], [9, 3, 8, 4, 5, 6, 7], [1, 0, 2, 10, 9, 3, 8, 4, 5, 6, 7], [11, 1, 0, 2, 10, 9, 3, 8, 4, 5, 6, 7], [12, 11, 1, 0, 2, 10, 9, 3, 8, 4, 5, 6, 7], [12, 11, 1, 0, 2, 10, 9, 3, 8, 4, 5, 6, 7], [13, 12, 11, 1, 0, 2, 10, 9, 3, 8, 4, 5, 6, 7], [14, 12, 11, 1, 0, 2, 10, 9, 3, 8, 4, 5, 6, 7, 15, 13]] [1, 8, 10] [0, 1, 2, 3, 4, 5, 6, 7, 8, 9, 10, 11, 12, 13, 14, 15, 16] [] (by kernel_rfl); conv => whnf))
        | (show KeepL _ _ _; first | (refine KeepL.cons ?_; ((try show LHas _ _ _); repeat (with_reducible show LHas _ _ _); first | apply LHas.here | apply LHas.next); ((try show LHas _ _ _); repeat (with_reducible show LHas _ _ _); first | apply LHas.here | apply LHas.next); refine And.intro rfl ?_) | exact KeepL.nil)
        | (show InL _ _; first | exact InL.here | refine InL.next ?_)
        | (show False; (exact T.num))
        | exact Nm.b 0
      all_goals (try dsimp only)
      exact RetL.frz [] (LF.tup ⟨LF.nils rfl rfl, LF.eq rfl, trivial⟩) LSub.nil
    · rw [chk_ok h1 h2] at hc
      cases h3 : dataOk data
      · rw [sealR_size h1 h2 h3]
        refine LSpec.introL tyOk Tryd.func20 rfl (by kernel_rfl) (by simp) (fun q => ⟨by simp, by simp⟩) ?_
        refine AWpL.sound tyOk _ _ _ _ ?_
        conv => whnf
        repeat' first
          | (show LHas _ _ _; ((try show LHas _ _ _); repeat (with_reducible show LHas _ _ _); first | apply LHas.here | apply LHas.next); conv => whnf)
          | (refine And.intro ?_ ?_; (focus (first | exact T.side)); conv => whnf)
          | (show LCall _ _ _ _ _ _; first | (refine LCall.pure (hc) ?_; conv => whnf) | (refine LCall.pure (h3 ▸ psized_c data) ?_; conv => whnf) | (apply LCall.eq; (focus (repeat first | (apply cons_congr; (focus (first | exact sl_bv rfl | exact sl_bv (by first | (simp; done) | (simp; (exact T.num))) | exact rfl))) | exact rfl)); first | (refine LCall.pure (hc) ?_; conv => whnf) | (refine LCall.pure (h3 ▸ psized_c data) ?_; conv => whnf)))
          | (show ABr _ _ _; first | (refine ABr.tt ?_; conv => whnf) | (refine ABr.ff ?_; conv => whnf) | (refine ABr.byN ?_) | ((with_reducible refine ABr.neqT (by assumption) ?_); conv => whnf) | ((with_reducible refine ABr.neqF (by assumption) ?_); conv => whnf) | ((with_reducible refine ABr.neq (fun h => ?_) (fun h => ?_)) <;> first | (exfalso; omega) | conv => whnf) | (refine ABr.byT (by with_reducible assumption) ?_; conv => whnf) | (refine ABr.byF (by with_reducible assumption) ?_; conv => whnf) | ((with_reducible refine ABr.decT rfl ?_); conv => whnf) | ((with_reducible refine ABr.decT (by assumption) ?_); conv => whnf) | ((with_reducible refine ABr.decF (by assumption) ?_); conv => whnf) | (refine ABr.dec (fun h => ?_) (fun h => ?_) <;> first | (exfalso; omega) | conv => whnf) | (refine ABr.gen (fun h => ?_) (fun h => ?_) <;> conv => whnf))
          | (show ACell _ _ _; first | (refine ACell.cell 0 ?_ ?_; (focus (first | exact T.side)); conv => whnf) | (refine ACell.mk ?_; conv => whnf))
          | (show AList _ _; first | (refine AList.app ?_ ?_; (focus (first | exact T.side)); conv => whnf) | (refine AList.set (x := b8 _) (bAV_b8 _).symm ?_ ?_; (focus (first | exact T.side)); conv => whnf) | (refine AList.set (f := iAV) rfl ?_ ?_; (focus (first | exact T.side)); conv => whnf) | (refine AList.part ?_; conv => whnf) | (refine AList.force ?_; (conv => whnf); refine Lit.mk ?_; conv => whnf) | (refine AList.full ?_ ?_; (focus (first | exact Nat.le_of_ble_eq_true rfl | (simp; done) | (simp; omega))); conv => whnf) | (refine AList.mk ?_; conv => whnf))
          | (refine LFresh.mk fun r => ?_; conv => whnf)
          | (show SWpL _ _ _ _ _ _ _; first | (apply SWpL.draw tyOk mixed (id := 7) [[], [0], [], [], [], [], [], [], [4, 5, 6, 7], [3, 8, 4, 5, 6, 7], [9, 3, 8, 4, 5, 6, 7], [1, 0, 2, 10, 9, 3, 8, 4, 5, 6, 7], [11, 1, 0, 2, 10, 9, 3, 8, 4, 5, 6, 7], [12, 11, 1, 0, 2, 10, 9, 3, 8, 4, 5, 6, 7], [12, 11, 1, 0, 2, 10, 9, 3, 8, 4, 5, 6, 7], [13, 12, 11, 1, 0, 2, 10, 9, 3, 8, 4, 5, 6, 7], [14, 12, 11, 1, 0, 2, 10, 9, 3, 8, 4, 5, 6, 7, 15, 13]] [1, 8, 10] [0, 1, 2, 3, 4, 5, 6, 7, 8, 9, 10, 11, 12, 13, 14, 15, 16] [] (by kernel_rfl); conv => whnf))
          | (show KeepL _ _ _; first | (refine KeepL.cons ?_; ((try show LHas _ _ _); repeat (with_reducible show LHas _ _ _); first | apply LHas.here | apply LHas.next); ((try show LHas _ _ _); repeat (with_reducible show LHas _ _ _); first | apply LHas.here | apply LHas.next); refine And.intro rfl ?_) | exact KeepL.nil)
          | (show InL _ _; first | exact InL.here | refine InL.next ?_)
          | (show False; (exact T.num))
          | exact Nm.b 0
        all_goals (try dsimp only)
        exact RetL.frz [] (LF.tup ⟨LF.nils rfl rfl, LF.eq rfl, trivial⟩) LSub.nil
      · rw [sealR_ok h1 h2 h3]
        have hd : 1 ≤ data.length ∧ data.length ≤ 2048 := by simpa [dataOk] using h3
        have hn : countOk n = true := by simp at h2; exact h2.2
        have hN := nonceL_len k n
        have hM := markH_len k (nonceL k n) (headL (lowR b n)) data h1 (by simp; omega)
        unfold sealL
        generalize hm : markH k (nonceL k n) (headL (lowR b n)) data = M at *
        have hmk := mark_c (G := gl) k (nonceL k n) data (lowR b n) (by omega) (by omega) (by omega)
        rw [hm] at hmk
        have hx := xor_c k.s (nonceL k n) (data ++ M)
        rw [xorR_ok _ _ _ (k.of h1).1 hN (by simp; omega)] at hx
        refine LSpec.introL tyOk Tryd.func20 rfl (by kernel_rfl) (by simp) (fun q => ⟨by simp, by simp⟩) ?_
        refine AWpL.sound tyOk _ _ _ _ ?_
        conv => whnf
        repeat' first
          | (show LEra _ _ _; conv => whnf)
          | (show _ = List.length (_ ++ _); simp only [List.length_append]; done)
          | (show _ = [_, _]; exact rfl)
          | (show LHas _ _ _; ((try show LHas _ _ _); repeat (with_reducible show LHas _ _ _); first | apply LHas.here | apply LHas.next); conv => whnf)
          | (refine And.intro ?_ ?_; (focus (first | exact T.side)); conv => whnf)
          | (show LCall _ _ _ _ _ _; first | (refine LCall.pure (hc) ?_; conv => whnf) | (refine LCall.pure (h3 ▸ psized_c data) ?_; conv => whnf) | (refine LCall.pure (cnonce_c k n h1 hn) ?_; conv => whnf) | (refine LCall.own (head_c (lowR b n)) ?_; conv => whnf) | (refine LCall.pure (hmk) ?_; conv => whnf) | (refine LCall.mk' (concat2_c data M (by omega) (by omega) (by omega)) [_] ⟨LF.row InL.here ?_, trivial⟩ ?_) | (refine LCall.mk' (hx) [_] ⟨LF.eq rfl, LF.eq rfl, LF.rowF InL.here ?_, trivial⟩ ?_) | (apply LCall.eq; (focus (repeat first | (apply cons_congr; (focus (first | exact sl_bv rfl | exact sl_bv (by first | (simp; done) | (simp; (exact T.num))) | exact rfl))) | exact rfl)); first | (refine LCall.pure (hc) ?_; conv => whnf) | (refine LCall.pure (h3 ▸ psized_c data) ?_; conv => whnf) | (refine LCall.pure (cnonce_c k n h1 hn) ?_; conv => whnf) | (refine LCall.own (head_c (lowR b n)) ?_; conv => whnf) | (refine LCall.pure (hmk) ?_; conv => whnf) | (refine LCall.mk' (concat2_c data M (by omega) (by omega) (by omega)) [_] ⟨LF.row InL.here ?_, trivial⟩ ?_) | (refine LCall.mk' (hx) [_] ⟨LF.eq rfl, LF.eq rfl, LF.rowF InL.here ?_, trivial⟩ ?_)))
          | (show ABr _ _ _; first | (refine ABr.tt ?_; conv => whnf) | (refine ABr.ff ?_; conv => whnf) | (refine ABr.byN ?_) | ((with_reducible refine ABr.neqT (by assumption) ?_); conv => whnf) | ((with_reducible refine ABr.neqF (by assumption) ?_); conv => whnf) | ((with_reducible refine ABr.neq (fun h => ?_) (fun h => ?_)) <;> first | (exfalso; omega) | conv => whnf) | (refine ABr.byT (by with_reducible assumption) ?_; conv => whnf) | (refine ABr.byF (by with_reducible assumption) ?_; conv => whnf) | ((with_reducible refine ABr.decT rfl ?_); conv => whnf) | ((with_reducible refine ABr.decT (by assumption) ?_); conv => whnf) | ((with_reducible refine ABr.decF (by assumption) ?_); conv => whnf) | (refine ABr.dec (fun h => ?_) (fun h => ?_) <;> first | (exfalso; omega) | conv => whnf) | (refine ABr.gen (fun h => ?_) (fun h => ?_) <;> conv => whnf))
          | (show ACell _ _ _; first | (refine ACell.cell 0 ?_ ?_; (focus (first | exact T.side)); conv => whnf) | (refine ACell.mk ?_; conv => whnf))
          | (show AList _ _; first | (refine AList.app ?_ ?_; (focus (first | exact T.side)); conv => whnf) | (refine AList.set (x := b8 _) (bAV_b8 _).symm ?_ ?_; (focus (first | exact T.side)); conv => whnf) | (refine AList.set (f := iAV) rfl ?_ ?_; (focus (first | exact T.side)); conv => whnf) | (refine AList.part ?_; conv => whnf) | (refine AList.force ?_; (conv => whnf); refine Lit.mk ?_; conv => whnf) | (refine AList.full ?_ ?_; (focus (first | exact Nat.le_of_ble_eq_true rfl | (simp; done) | (simp; omega))); conv => whnf) | (refine AList.mk ?_; conv => whnf))
          | (refine LFresh.mk fun r => ?_; conv => whnf)
          | (show SWpL _ _ _ _ _ _ _; first | (apply SWpL.draw tyOk mixed (id := 7) [[], [0], [], [], [], [], [], [], [4, 5, 6, 7], [3, 8, 4, 5, 6, 7], [9, 3, 8, 4, 5, 6, 7], [1, 0, 2, 10, 9, 3, 8, 4, 5, 6, 7], [11, 1, 0, 2, 10, 9, 3, 8, 4, 5, 6, 7], [12, 11, 1, 0, 2, 10, 9, 3, 8, 4, 5, 6, 7], [12, 11, 1, 0, 2, 10, 9, 3, 8, 4, 5, 6, 7], [13, 12, 11, 1, 0, 2, 10, 9, 3, 8, 4, 5, 6, 7], [14, 12, 11, 1, 0, 2, 10, 9, 3, 8, 4, 5, 6, 7, 15, 13]] [1, 8, 10] [0, 1, 2, 3, 4, 5, 6, 7, 8, 9, 10, 11, 12, 13, 14, 15, 16] [_] (by kernel_rfl); conv => whnf) | (apply SWpL.draw tyOk mixed (id := 7) [[], [0], [], [], [], [], [], [], [4, 5, 6, 7], [3, 8, 4, 5, 6, 7], [9, 3, 8, 4, 5, 6, 7], [1, 0, 2, 10, 9, 3, 8, 4, 5, 6, 7], [11, 1, 0, 2, 10, 9, 3, 8, 4, 5, 6, 7], [12, 11, 1, 0, 2, 10, 9, 3, 8, 4, 5, 6, 7], [12, 11, 1, 0, 2, 10, 9, 3, 8, 4, 5, 6, 7], [13, 12, 11, 1, 0, 2, 10, 9, 3, 8, 4, 5, 6, 7], [14, 12, 11, 1, 0, 2, 10, 9, 3, 8, 4, 5, 6, 7, 15, 13]] [1, 8, 10] [0, 1, 2, 3, 4, 5, 6, 7, 8, 9, 10, 11, 12, 13, 14, 15, 16] [] (by kernel_rfl); conv => whnf))
          | (show KeepL _ _ _; first | (refine KeepL.cons ?_; ((try show LHas _ _ _); repeat (with_reducible show LHas _ _ _); first | apply LHas.here | apply LHas.next); ((try show LHas _ _ _); repeat (with_reducible show LHas _ _ _); first | apply LHas.here | apply LHas.next); refine And.intro rfl ?_) | exact KeepL.nil)
          | (show InL _ _; first | exact InL.here | refine InL.next ?_)
          | (show False; (exact T.num))
          | exact Nm.b 0
        all_goals (try dsimp only)
        refine RetL.frz [r] (LF.tup ⟨LF.rowF InL.here ?_, LF.eq rfl, trivial⟩) ?_
        · apply LHas.here
          exact ⟨by rw [List.map_append], by simp⟩
        · apply LHas.here
          exact LSub.nil
/-- The number of a unit. -/
def numV (u : List UInt8) : Int := 256 * ((u.getD 0 0).toNat : Int) + (u.getD 1 0).toNat - 32768
theorem numV_eq (u : List UInt8) : iarith .sub .i64 (iarith .add .i64 (IntKind.i64.wrap (IntKind.i64.wrap ((u.getD (Int.toNat 0 * 1) 0).toNat : Int) * 2 ^ min (Int.toNat 8) IntKind.i64.bits)) (IntKind.i64.wrap ((u.getD (Int.toNat 1 * 1) 0).toNat : Int))) 32768 = numV u := by
  have h0 := (u.getD 0 0).toNat_lt
  have h1 := (u.getD 1 0).toNat_lt
  show iarith .sub .i64 (iarith .add .i64 (IntKind.i64.wrap (IntKind.i64.wrap ((u.getD 0 0).toNat : Int) * 256)) (IntKind.i64.wrap ((u.getD 1 0).toNat : Int))) 32768 = numV u
  unfold numV
  generalize (u.getD 0 0).toNat = x at *
  generalize (u.getD 1 0).toNat = y at *
  (exact T.num)
theorem numV_get (u : List UInt8) : iarith .sub .i64 (256 * ((u.getD 0 0).toNat : Int) + (u.getD 1 0).toNat) 32768 = numV u := by
  have h0 := (u.getD 0 0).toNat_lt
  have h1 := (u.getD 1 0).toNat_lt
  unfold numV
  generalize (u.getD 0 0).toNat = x at *
  generalize (u.getD 1 0).toNat = y at *
  (exact T.num)
attribute [irreducible] numV
def numR (b : Int) (u : List UInt8) : Int × Int := if bitsOk b = true then (if u.length < 7 then (0, 5) else if 2054 < u.length ∨ numV u < 0 ∨ IntKind.i64.wrap (1 * 2 ^ min b.toNat IntKind.i64.bits) ≤ numV u then (0, 4) else (numV u, 0)) else (0, 3)
theorem number_c (b : Int) (u : List UInt8) : LSpec Tryd.prog gl 23 [iAV b, bv u] [] (fun _ => (.tup [iAV (numR b u).1, iAV (numR b u).2], [])) := by
  cases hbo : bitsOk b
  · have e : numR b u = (0, 3) := by simp [numR, hbo]
    rw [e]
    refine LSpec.introL tyOk Tryd.func23 rfl (by kernel_rfl) (by simp) (fun q => ⟨by simp, by simp⟩) ?_
    refine AWpL.sound tyOk _ _ _ _ ?_
    conv => whnf
    repeat' first
      | (show LHas _ _ _; ((try show LHas _ _ _); repeat (with_reducible show LHas _ _ _); first | apply LHas.here | apply LHas.next); conv => whnf)
      | (refine And.intro ?_ ?_; (focus (first | exact T.side)); conv => whnf)
      | (show LCall _ _ _ _ _ _; first | (refine LCall.pure (hbo ▸ cbits_c b) ?_; conv => whnf) | (apply LCall.eq; (focus (repeat first | (apply cons_congr; (focus (first | exact sl_bv rfl | exact sl_bv (by first | (simp; done) | (simp; (exact T.num))) | exact rfl))) | exact rfl)); first | (refine LCall.pure (hbo ▸ cbits_c b) ?_; conv => whnf)))
      | (show ABr _ _ _; first | (refine ABr.tt ?_; conv => whnf) | (refine ABr.ff ?_; conv => whnf) | (refine ABr.byN ?_) | ((with_reducible refine ABr.lssT (by assumption) ?_); conv => whnf) | ((with_reducible refine ABr.lssF (by assumption) ?_); conv => whnf) | ((with_reducible refine ABr.lss (fun h => ?_) (fun h => ?_)) <;> first | (exfalso; omega) | conv => whnf) | ((with_reducible refine ABr.gtrT (by assumption) ?_); conv => whnf) | ((with_reducible refine ABr.gtrF (by assumption) ?_); conv => whnf) | ((with_reducible refine ABr.gtr (fun h => ?_) (fun h => ?_)) <;> first | (exfalso; omega) | conv => whnf) | ((with_reducible refine ABr.geqT (by assumption) ?_); conv => whnf) | ((with_reducible refine ABr.geqF (by assumption) ?_); conv => whnf) | ((with_reducible refine ABr.geq (fun h => ?_) (fun h => ?_)) <;> first | (exfalso; omega) | conv => whnf) | (refine ABr.byT (by with_reducible assumption) ?_; conv => whnf) | (refine ABr.byF (by with_reducible assumption) ?_; conv => whnf) | ((with_reducible refine ABr.decT rfl ?_); conv => whnf) | ((with_reducible refine ABr.decT (by assumption) ?_); conv => whnf) | ((with_reducible refine ABr.decF (by assumption) ?_); conv => whnf) | (refine ABr.dec (fun h => ?_) (fun h => ?_) <;> first | (exfalso; omega) | conv => whnf) | (refine ABr.gen (fun h => ?_) (fun h => ?_) <;> conv => whnf))
      | (show ACell _ _ _; first | (refine ACell.cell 0 ?_ ?_; (focus (first | exact T.side)); conv => whnf) | (refine ACell.mk ?_; conv => whnf))
      | (show AList _ _; first | (refine AList.app ?_ ?_; (focus (first | exact T.side)); conv => whnf) | (refine AList.set (x := b8 _) (bAV_b8 _).symm ?_ ?_; (focus (first | exact T.side)); conv => whnf) | (refine AList.set (f := iAV) rfl ?_ ?_; (focus (first | exact T.side)); conv => whnf) | (refine AList.part ?_; conv => whnf) | (refine AList.force ?_; (conv => whnf); refine Lit.mk ?_; conv => whnf) | (refine AList.full ?_ ?_; (focus (first | exact Nat.le_of_ble_eq_true rfl | (simp; done) | (simp; omega))); conv => whnf) | (refine AList.mk ?_; conv => whnf))
      | (refine LFresh.mk fun r => ?_; conv => whnf)
      | (show SWpL _ _ _ _ _ _ _; first | (apply SWpL.draw tyOk mixed (id := 7) [[], [0], [1, 0], [2, 1, 0], [3, 2, 1, 0], [], [5], [6, 5], [7, 6, 5], [4, 3, 2, 1, 0, 8, 7, 6, 5], [9, 4, 3, 2, 1, 0, 8, 7, 6, 5], [10, 9, 4, 3, 2, 1, 0, 8, 7, 6, 5]] [] [0, 1, 2, 3, 4, 5, 6, 7, 8, 9, 10, 11] [] (by kernel_rfl); conv => whnf))
      | (show KeepL _ _ _; first | (refine KeepL.cons ?_; ((try show LHas _ _ _); repeat (with_reducible show LHas _ _ _); first | apply LHas.here | apply LHas.next); ((try show LHas _ _ _); repeat (with_reducible show LHas _ _ _); first | apply LHas.here | apply LHas.next); refine And.intro rfl ?_) | exact KeepL.nil)
      | (show InL _ _; first | exact InL.here | refine InL.next ?_)
      | (show False; (exact T.num))
      | exact Nm.b 0
      | (refine ⟨_, rfl, rfl, ?_⟩; conv => whnf)
    all_goals (try dsimp only)
    (refine RetL.val ?_ ?_; rotate_left; (focus ((repeat' first | exact LSub.nil | (with_reducible exact LSub.refl) | (apply LSub.cons; ((try show LHas _ _ _); repeat (with_reducible show LHas _ _ _); first | apply LHas.here | apply LHas.next); refine And.intro ?_ ?_; (focus (try (first | (with_reducible rfl) | (refine congrArg (Pl.mk _) ?_; (first | rfl | (simp; done))) | rfl | (with_reducible refine congrArg (Pl.mk _) ?_)))))))))
    rfl
  · have hb0 : 0 ≤ b := by rcases bits_cases hbo with h | h | h | h | h <;> omega
    unfold numR
    rw [if_pos hbo]
    refine LSpec.introL tyOk Tryd.func23 rfl (by kernel_rfl) (by simp) (fun q => ⟨by simp, by simp⟩) ?_
    refine AWpL.sound tyOk _ _ _ _ ?_
    conv => whnf
    repeat' first
      | (show ABr (icmp .lss (iarith .sub .i64 _ _) _) _ _; dsimp only; rw [numV_eq u]; conv => whnf)
      | (show LHas _ _ _; ((try show LHas _ _ _); repeat (with_reducible show LHas _ _ _); first | apply LHas.here | apply LHas.next); conv => whnf)
      | (refine And.intro ?_ ?_; (focus (first | exact T.side)); conv => whnf)
      | (show LCall _ _ _ _ _ _; first | (refine LCall.pure (hbo ▸ cbits_c b) ?_; conv => whnf) | (apply LCall.eq; (focus (repeat first | (apply cons_congr; (focus (first | exact sl_bv rfl | exact sl_bv (by first | (simp; done) | (simp; (exact T.num))) | exact rfl))) | exact rfl)); first | (refine LCall.pure (hbo ▸ cbits_c b) ?_; conv => whnf)))
      | (show ABr _ _ _; first | (refine ABr.tt ?_; conv => whnf) | (refine ABr.ff ?_; conv => whnf) | (refine ABr.byN ?_) | ((with_reducible refine ABr.lssT (by assumption) ?_); conv => whnf) | ((with_reducible refine ABr.lssF (by assumption) ?_); conv => whnf) | ((with_reducible refine ABr.lss (fun h => ?_) (fun h => ?_)) <;> first | (exfalso; omega) | conv => whnf) | ((with_reducible refine ABr.gtrT (by assumption) ?_); conv => whnf) | ((with_reducible refine ABr.gtrF (by assumption) ?_); conv => whnf) | ((with_reducible refine ABr.gtr (fun h => ?_) (fun h => ?_)) <;> first | (exfalso; omega) | conv => whnf) | ((with_reducible refine ABr.geqT (by assumption) ?_); conv => whnf) | ((with_reducible refine ABr.geqF (by assumption) ?_); conv => whnf) | ((with_reducible refine ABr.geq (fun h => ?_) (fun h => ?_)) <;> first | (exfalso; omega) | conv => whnf) | (refine ABr.byT (by with_reducible assumption) ?_; conv => whnf) | (refine ABr.byF (by with_reducible assumption) ?_; conv => whnf) | ((with_reducible refine ABr.decT rfl ?_); conv => whnf) | ((with_reducible refine ABr.decT (by assumption) ?_); conv => whnf) | ((with_reducible refine ABr.decF (by assumption) ?_); conv => whnf) | (refine ABr.dec (fun h => ?_) (fun h => ?_) <;> first | (exfalso; omega) | conv => whnf) | (refine ABr.gen (fun h => ?_) (fun h => ?_) <;> conv => whnf))
      | (show ACell _ _ _; first | (refine ACell.cell 0 ?_ ?_; (focus (first | exact T.side)); conv => whnf) | (refine ACell.mk ?_; conv => whnf))
      | (show AList _ _; first | (refine AList.app ?_ ?_; (focus (first | exact T.side)); conv => whnf) | (refine AList.set (x := b8 _) (bAV_b8 _).symm ?_ ?_; (focus (first | exact T.side)); conv => whnf) | (refine AList.set (f := iAV) rfl ?_ ?_; (focus (first | exact T.side)); conv => whnf) | (refine AList.part ?_; conv => whnf) | (refine AList.force ?_; (conv => whnf); refine Lit.mk ?_; conv => whnf) | (refine AList.full ?_ ?_; (focus (first | exact Nat.le_of_ble_eq_true rfl | (simp; done) | (simp; omega))); conv => whnf) | (refine AList.mk ?_; conv => whnf))
      | (refine LFresh.mk fun r => ?_; conv => whnf)
      | (show SWpL _ _ _ _ _ _ _; first | (apply SWpL.draw tyOk mixed (id := 7) [[], [0], [1, 0], [2, 1, 0], [3, 2, 1, 0], [], [5], [6, 5], [7, 6, 5], [4, 3, 2, 1, 0, 8, 7, 6, 5], [9, 4, 3, 2, 1, 0, 8, 7, 6, 5], [10, 9, 4, 3, 2, 1, 0, 8, 7, 6, 5]] [] [0, 1, 2, 3, 4, 5, 6, 7, 8, 9, 10, 11] [] (by kernel_rfl); conv => whnf))
      | (show KeepL _ _ _; first | (refine KeepL.cons ?_; ((try show LHas _ _ _); repeat (with_reducible show LHas _ _ _); first | apply LHas.here | apply LHas.next); ((try show LHas _ _ _); repeat (with_reducible show LHas _ _ _); first | apply LHas.here | apply LHas.next); refine And.intro rfl ?_) | exact KeepL.nil)
      | (show InL _ _; first | exact InL.here | refine InL.next ?_)
      | (show False; (exact T.num))
      | exact Nm.b 0
      | (refine ⟨_, rfl, rfl, ?_⟩; conv => whnf)
    all_goals (try dsimp only)
    all_goals
      generalize IntKind.i64.wrap (1 * 2 ^ min b.toNat IntKind.i64.bits) = W at *
      generalize numV u = V at *
      (refine RetL.val ?_ ?_; rotate_left; (focus ((repeat' first | exact LSub.nil | (with_reducible exact LSub.refl) | (apply LSub.cons; ((try show LHas _ _ _); repeat (with_reducible show LHas _ _ _); first | apply LHas.here | apply LHas.next); refine And.intro ?_ ?_; (focus (try (first | (with_reducible rfl) | (refine congrArg (Pl.mk _) ?_; (first | rfl | (simp; done))) | rfl | (with_reducible refine congrArg (Pl.mk _) ?_)))))))))
      (repeat first | rw [if_pos (by first | assumption | omega)] | rw [if_neg (by first | assumption | omega)])
      rfl
theorem rnumber_c (b : Int) (u : List UInt8) : LSpec Tryd.prog gl 24 [iAV b, bv u] [] (fun _ => (.tup [iAV (numR b u).1, iAV (numR b u).2], [])) := by
  cases hbo : bitsOk b
  · have e : numR b u = (0, 3) := by simp [numR, hbo]
    rw [e]
    refine LSpec.introL tyOk Tryd.func24 rfl (by kernel_rfl) (by simp) (fun q => ⟨by simp, by simp⟩) ?_
    refine AWpL.sound tyOk _ _ _ _ ?_
    conv => whnf
    repeat' first
      | (show LHas _ _ _; ((try show LHas _ _ _); repeat (with_reducible show LHas _ _ _); first | apply LHas.here | apply LHas.next); conv => whnf)
      | (refine And.intro ?_ ?_; (focus (first | exact T.side)); conv => whnf)
      | (show LCall _ _ _ _ _ _; first | (refine LCall.pure (hbo ▸ rbits_c b) ?_; conv => whnf) | (apply LCall.eq; (focus (repeat first | (apply cons_congr; (focus (first | exact sl_bv rfl | exact sl_bv (by first | (simp; done) | (simp; (exact T.num))) | exact rfl))) | exact rfl)); first | (refine LCall.pure (hbo ▸ rbits_c b) ?_; conv => whnf)))
      | (show ABr _ _ _; first | (refine ABr.tt ?_; conv => whnf) | (refine ABr.ff ?_; conv => whnf) | (refine ABr.byN ?_) | ((with_reducible refine ABr.lssT (by assumption) ?_); conv => whnf) | ((with_reducible refine ABr.lssF (by assumption) ?_); conv => whnf) | ((with_reducible refine ABr.lss (fun h => ?_) (fun h => ?_)) <;> first | (exfalso; omega) | conv => whnf) | ((with_reducible refine ABr.gtrT (by assumption) ?_); conv => whnf) | ((with_reducible refine ABr.gtrF (by assumption) ?_); conv => whnf) | ((with_reducible refine ABr.gtr (fun h => ?_) (fun h => ?_)) <;> first | (exfalso; omega) | conv => whnf) | ((with_reducible refine ABr.geqT (by assumption) ?_); conv => whnf) | ((with_reducible refine ABr.geqF (by assumption) ?_); conv => whnf) | ((with_reducible refine ABr.geq (fun h => ?_) (fun h => ?_)) <;> first | (exfalso; omega) | conv => whnf) | (refine ABr.byT (by with_reducible assumption) ?_; conv => whnf) | (refine ABr.byF (by with_reducible assumption) ?_; conv => whnf) | ((with_reducible refine ABr.decT rfl ?_); conv => whnf) | ((with_reducible refine ABr.decT (by assumption) ?_); conv => whnf) | ((with_reducible refine ABr.decF (by assumption) ?_); conv => whnf) | (refine ABr.dec (fun h => ?_) (fun h => ?_) <;> first | (exfalso; omega) | conv => whnf) | (refine ABr.gen (fun h => ?_) (fun h => ?_) <;> conv => whnf))
      | (show ACell _ _ _; first | (refine ACell.cell 0 ?_ ?_; (focus (first | exact T.side)); conv => whnf) | (refine ACell.mk ?_; conv => whnf))
      | (show AList _ _; first | (refine AList.app ?_ ?_; (focus (first | exact T.side)); conv => whnf) | (refine AList.set (x := b8 _) (bAV_b8 _).symm ?_ ?_; (focus (first | exact T.side)); conv => whnf) | (refine AList.set (f := iAV) rfl ?_ ?_; (focus (first | exact T.side)); conv => whnf) | (refine AList.part ?_; conv => whnf) | (refine AList.force ?_; (conv => whnf); refine Lit.mk ?_; conv => whnf) | (refine AList.full ?_ ?_; (focus (first | exact Nat.le_of_ble_eq_true rfl | (simp; done) | (simp; omega))); conv => whnf) | (refine AList.mk ?_; conv => whnf))
      | (refine LFresh.mk fun r => ?_; conv => whnf)
      | (show KeepL _ _ _; first | (refine KeepL.cons ?_; ((try show LHas _ _ _); repeat (with_reducible show LHas _ _ _); first | apply LHas.here | apply LHas.next); ((try show LHas _ _ _); repeat (with_reducible show LHas _ _ _); first | apply LHas.here | apply LHas.next); refine And.intro rfl ?_) | exact KeepL.nil)
      | (show InL _ _; first | exact InL.here | refine InL.next ?_)
      | (show False; (exact T.num))
      | (refine ⟨_, rfl, rfl, ?_⟩; conv => whnf)
    all_goals (try dsimp only)
    (refine RetL.val ?_ ?_; rotate_left; (focus ((repeat' first | exact LSub.nil | (with_reducible exact LSub.refl) | (apply LSub.cons; ((try show LHas _ _ _); repeat (with_reducible show LHas _ _ _); first | apply LHas.here | apply LHas.next); refine And.intro ?_ ?_; (focus (try (first | (with_reducible rfl) | (refine congrArg (Pl.mk _) ?_; (first | rfl | (simp; done))) | rfl | (with_reducible refine congrArg (Pl.mk _) ?_)))))))))
    rfl
  · have hb0 : 0 ≤ IntKind.u64.wrap b := by rw [IntKind.wrap_u64]; rcases bits_cases hbo with h | h | h | h | h <;> omega
    have hw : (IntKind.u64.wrap b).toNat = b.toNat := by rw [IntKind.wrap_u64]; rcases bits_cases hbo with h | h | h | h | h <;> omega
    unfold numR
    rw [if_pos hbo, ← hw]
    refine LSpec.introL tyOk Tryd.func24 rfl (by kernel_rfl) (by simp) (fun q => ⟨by simp, by simp⟩) ?_
    refine AWpL.sound tyOk _ _ _ _ ?_
    conv => whnf
    repeat' first
      | (show ABr (icmp .gtr _ _) _ _; dsimp only; rw [numV_get u]; conv => whnf)
      | (show LHas _ _ _; ((try show LHas _ _ _); repeat (with_reducible show LHas _ _ _); first | apply LHas.here | apply LHas.next); conv => whnf)
      | (refine And.intro ?_ ?_; (focus (first | exact T.side)); conv => whnf)
      | (show LCall _ _ _ _ _ _; first | (refine LCall.pure (hbo ▸ rbits_c b) ?_; conv => whnf) | (refine LCall.pure (get_c u (by omega)) ?_; conv => whnf) | (apply LCall.eq; (focus (repeat first | (apply cons_congr; (focus (first | exact sl_bv rfl | exact sl_bv (by first | (simp; done) | (simp; (exact T.num))) | exact rfl))) | exact rfl)); first | (refine LCall.pure (hbo ▸ rbits_c b) ?_; conv => whnf) | (refine LCall.pure (get_c u (by omega)) ?_; conv => whnf)))
      | (show ABr _ _ _; first | (refine ABr.tt ?_; conv => whnf) | (refine ABr.ff ?_; conv => whnf) | (refine ABr.byN ?_) | ((with_reducible refine ABr.lssT (by assumption) ?_); conv => whnf) | ((with_reducible refine ABr.lssF (by assumption) ?_); conv => whnf) | ((with_reducible refine ABr.lss (fun h => ?_) (fun h => ?_)) <;> first | (exfalso; omega) | conv => whnf) | ((with_reducible refine ABr.gtrT (by assumption) ?_); conv => whnf) | ((with_reducible refine ABr.gtrF (by assumption) ?_); conv => whnf) | ((with_reducible refine ABr.gtr (fun h => ?_) (fun h => ?_)) <;> first | (exfalso; omega) | conv => whnf) | ((with_reducible refine ABr.geqT (by assumption) ?_); conv => whnf) | ((with_reducible refine ABr.geqF (by assumption) ?_); conv => whnf) | ((with_reducible refine ABr.geq (fun h => ?_) (fun h => ?_)) <;> first | (exfalso; omega) | conv => whnf) | (refine ABr.byT (by with_reducible assumption) ?_; conv => whnf) | (refine ABr.byF (by with_reducible assumption) ?_; conv => whnf) | ((with_reducible refine ABr.decT rfl ?_); conv => whnf) | ((with_reducible refine ABr.decT (by assumption) ?_); conv => whnf) | ((with_reducible refine ABr.decF (by assumption) ?_); conv => whnf) | (refine ABr.dec (fun h => ?_) (fun h => ?_) <;> first | (exfalso; omega) | conv => whnf) | (refine ABr.gen (fun h => ?_) (fun h => ?_) <;> conv => whnf))
      | (show ACell _ _ _; first | (refine ACell.cell 0 ?_ ?_; (focus (first | exact T.side)); conv => whnf) | (refine ACell.mk ?_; conv => whnf))
      | (show AList _ _; first | (refine AList.app ?_ ?_; (focus (first | exact T.side)); conv => whnf) | (refine AList.set (x := b8 _) (bAV_b8 _).symm ?_ ?_; (focus (first | exact T.side)); conv => whnf) | (refine AList.set (f := iAV) rfl ?_ ?_; (focus (first | exact T.side)); conv => whnf) | (refine AList.part ?_; conv => whnf) | (refine AList.force ?_; (conv => whnf); refine Lit.mk ?_; conv => whnf) | (refine AList.full ?_ ?_; (focus (first | exact Nat.le_of_ble_eq_true rfl | (simp; done) | (simp; omega))); conv => whnf) | (refine AList.mk ?_; conv => whnf))
      | (refine LFresh.mk fun r => ?_; conv => whnf)
      | (show KeepL _ _ _; first | (refine KeepL.cons ?_; ((try show LHas _ _ _); repeat (with_reducible show LHas _ _ _); first | apply LHas.here | apply LHas.next); ((try show LHas _ _ _); repeat (with_reducible show LHas _ _ _); first | apply LHas.here | apply LHas.next); refine And.intro rfl ?_) | exact KeepL.nil)
      | (show InL _ _; first | exact InL.here | refine InL.next ?_)
      | (show False; (exact T.num))
      | (refine ⟨_, rfl, rfl, ?_⟩; conv => whnf)
    all_goals (try dsimp only)
    all_goals
      generalize IntKind.i64.wrap (1 * 2 ^ min (IntKind.u64.wrap b).toNat IntKind.i64.bits) = W at *
      generalize numV u = V at *
      (refine RetL.val ?_ ?_; rotate_left; (focus ((repeat' first | exact LSub.nil | (with_reducible exact LSub.refl) | (apply LSub.cons; ((try show LHas _ _ _); repeat (with_reducible show LHas _ _ _); first | apply LHas.here | apply LHas.next); refine And.intro ?_ ?_; (focus (try (first | (with_reducible rfl) | (refine congrArg (Pl.mk _) ?_; (first | rfl | (simp; done))) | rfl | (with_reducible refine congrArg (Pl.mk _) ?_)))))))))
      (repeat first | rw [if_pos (by first | assumption | omega)] | rw [if_neg (by first | assumption | omega)])
      rfl
end Go.Proofs.YtdpfcpkedaolfaaDoor
