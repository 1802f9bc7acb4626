import Derived.Test.YtdpfcpkedaolfaaDoorCtr3
namespace Go.Proofs.YtdpfcpkedaolfaaDoor
open Go.RowKit
set_option linter.all false
variable {G : Nat → AV}
@[simp] theorem putB_len (n : Int) (k : Nat) : (putB n k).length = k := by
  induction k with
  | zero => simp [putB]
  | succ k ih => simp [putB, ih]
/-- The bytes of a nonce. -/
def nonceL (k : Ky) (n : Int) : List UInt8 := putB k.n 4 ++ [b8 k.b, b8 k.d, 0, 0] ++ putB n 4
@[simp] theorem nonceL_len (k : Ky) (n : Int) : (nonceL k n).length = 12 := by simp [nonceL]
theorem nonce_mid (k : Ky) : List.map bAV (putB k.n 4) ++ [AV.int .u8 (IntKind.u8.wrap k.b), AV.int .u8 (IntKind.u8.wrap k.d), AV.int .u8 0, AV.int .u8 0] = (putB k.n 4 ++ [b8 k.b, b8 k.d, 0, 0]).map bAV := by
  rw [List.map_append]
  simp only [List.map_cons, List.map_nil, bAV_b8]
  rfl
theorem cnonce_c (k : Ky) (n : Int) (hk : k.ok = true) (hn : countOk n = true) : LSpec Tryd.prog G 48 [k.av, iAV n] [] (fun _ => (.tup [bv (nonceL k n), iAV 0], [])) := by
  refine LSpec.introL tyOk Tryd.func48 rfl (by kernel_rfl) (by simp) (fun q => ⟨by simp, by simp⟩) ?_
  refine AWpL.sound tyOk _ _ _ _ ?_
  conv => whnf
  repeat' first
    | (show LHas _ _ _; ((try show LHas _ _ _); repeat (with_reducible show LHas _ _ _); first | apply LHas.here | apply LHas.next); conv => whnf)
    | (refine And.intro ?_ ?_; (focus (first | exact T.side)); conv => whnf)
    | (show LCall _ _ _ _ _ _; first | (refine LCall.pure (cvalid_c k) ?_; conv => whnf) | (refine LCall.pure (ccount_c n) ?_; conv => whnf) | (apply LCall.take (cput_c [] k.n (by decide) _); ((try show LHas _ _ _); repeat (with_reducible show LHas _ _ _); first | apply LHas.here | apply LHas.next); refine And.intro rfl ?_; conv => whnf) | (apply LCall.take (cput_c (putB k.n 4 ++ [b8 k.b, b8 k.d, 0, 0]) n (by simp) _); ((try show LHas _ _ _); repeat (with_reducible show LHas _ _ _); first | apply LHas.here | apply LHas.next); refine And.intro rfl ?_; conv => whnf) | (apply LCall.eq; (focus (repeat first | (apply cons_congr; (focus (first | exact sl_bv rfl | exact sl_bv (by first | (simp; done) | (simp; (exact T.num))) | exact rfl))) | exact rfl)); first | (refine LCall.pure (cvalid_c k) ?_; conv => whnf) | (refine LCall.pure (ccount_c n) ?_; conv => whnf) | (apply LCall.take (cput_c [] k.n (by decide) _); ((try show LHas _ _ _); repeat (with_reducible show LHas _ _ _); first | apply LHas.here | apply LHas.next); refine And.intro rfl ?_; conv => whnf) | (apply LCall.take (cput_c (putB k.n 4 ++ [b8 k.b, b8 k.d, 0, 0]) n (by simp) _); ((try show LHas _ _ _); repeat (with_reducible show LHas _ _ _); first | apply LHas.here | apply LHas.next); refine And.intro rfl ?_; conv => whnf)))
    | (show ABr _ _ _; first | (refine ABr.tt ?_; conv => whnf) | (refine ABr.ff ?_; conv => whnf) | (refine ABr.byN ?_) | (refine ABr.byT (by with_reducible assumption) ?_; conv => whnf) | (refine ABr.byF (by with_reducible assumption) ?_; conv => whnf) | ((with_reducible refine ABr.decT rfl ?_); conv => whnf) | ((with_reducible refine ABr.decT (by assumption) ?_); conv => whnf) | ((with_reducible refine ABr.decF (by assumption) ?_); conv => whnf) | (refine ABr.dec (fun h => ?_) (fun h => ?_) <;> first | (exfalso; omega) | conv => whnf) | (refine ABr.gen (fun h => ?_) (fun h => ?_) <;> conv => whnf))
    | (show ACell _ _ _; first | (refine ACell.cell 0 ?_ ?_; (focus (first | exact T.side)); conv => whnf) | (refine ACell.mk ?_; conv => whnf))
    | (show AList _ _; first | (refine AList.eq (nonce_mid k) ?_; conv => whnf) | (refine AList.app ?_ ?_; (focus (first | exact T.side)); conv => whnf) | (refine AList.set (x := b8 _) (bAV_b8 _).symm ?_ ?_; (focus (first | exact T.side)); conv => whnf) | (refine AList.set (f := iAV) rfl ?_ ?_; (focus (first | exact T.side)); conv => whnf) | (refine AList.part ?_; conv => whnf) | (refine AList.force ?_; (conv => whnf); refine Lit.mk ?_; conv => whnf) | (refine AList.full ?_ ?_; (focus (first | exact Nat.le_of_ble_eq_true rfl | (simp; done) | (simp; omega))); conv => whnf) | (refine AList.mk ?_; conv => whnf))
    | (refine LFresh.mk fun r => ?_; conv => whnf)
    | (show SWpL _ _ _ _ _ _ _; first | (apply SWpL.draw tyOk mixed (id := 5) [[], [], [1], [0, 2, 1], [3, 0, 2, 1]] [] [1, 2, 0, 3, 4] [_] (by kernel_rfl); conv => whnf) | (apply SWpL.draw tyOk mixed (id := 5) [[], [], [1], [0, 2, 1], [3, 0, 2, 1]] [] [1, 2, 0, 3, 4] [] (by kernel_rfl); conv => whnf))
    | (show KeepL _ _ _; first | (refine KeepL.cons ?_; ((try show LHas _ _ _); repeat (with_reducible show LHas _ _ _); first | apply LHas.here | apply LHas.next); ((try show LHas _ _ _); repeat (with_reducible show LHas _ _ _); first | apply LHas.here | apply LHas.next); refine And.intro rfl ?_) | exact KeepL.nil)
    | (show InL _ _; first | exact InL.here | refine InL.next ?_)
    | (show False; (exact T.num))
    | exact Nm.b 0
    | (refine ⟨_, rfl, rfl, ?_⟩; conv => whnf)
  all_goals (try dsimp only)
  refine RetL.frz [r] ?_ ?_
  · apply LF.tup
    refine And.intro (LF.rowF InL.here ?_) (And.intro (LF.eq rfl) trivial)
    apply LHas.here
    exact ⟨rfl, by simp⟩
  · apply LHas.here
    exact LSub.nil
theorem rnonce_c (k : Ky) (n : Int) (hk : k.ok = true) (hn : countOk n = true) : LSpec Tryd.prog G 26 [k.av, iAV n] [] (fun _ => (.tup [bv (nonceL k n), iAV 0], [])) := by
  refine LSpec.introL tyOk Tryd.func26 rfl (by kernel_rfl) (by simp) (fun q => ⟨by simp, by simp⟩) ?_
  refine AWpL.sound tyOk _ _ _ _ ?_
  conv => whnf
  repeat' first
    | (show LHas _ _ _; ((try show LHas _ _ _); repeat (with_reducible show LHas _ _ _); first | apply LHas.here | apply LHas.next); conv => whnf)
    | (refine And.intro ?_ ?_; (focus (first | exact T.side)); conv => whnf)
    | (show LCall _ _ _ _ _ _; first | (refine LCall.pure (rvalid_c k) ?_; conv => whnf) | (refine LCall.pure (rcount_c n) ?_; conv => whnf) | (refine LCall.own (put4n_c k.n) ?_; conv => whnf) | (apply LCall.take (put4_c (putB k.n 4 ++ [b8 k.b, b8 k.d, 0, 0]) n (by simp) _); ((try show LHas _ _ _); repeat (with_reducible show LHas _ _ _); first | apply LHas.here | apply LHas.next); refine And.intro rfl ?_; conv => whnf) | (apply LCall.eq; (focus (repeat first | (apply cons_congr; (focus (first | exact sl_bv rfl | exact sl_bv (by first | (simp; done) | (simp; (exact T.num))) | exact rfl))) | exact rfl)); first | (refine LCall.pure (rvalid_c k) ?_; conv => whnf) | (refine LCall.pure (rcount_c n) ?_; conv => whnf) | (refine LCall.own (put4n_c k.n) ?_; conv => whnf) | (apply LCall.take (put4_c (putB k.n 4 ++ [b8 k.b, b8 k.d, 0, 0]) n (by simp) _); ((try show LHas _ _ _); repeat (with_reducible show LHas _ _ _); first | apply LHas.here | apply LHas.next); refine And.intro rfl ?_; conv => whnf)))
    | (show ABr _ _ _; first | (refine ABr.tt ?_; conv => whnf) | (refine ABr.ff ?_; conv => whnf) | (refine ABr.byN ?_) | (refine ABr.byT (by with_reducible assumption) ?_; conv => whnf) | (refine ABr.byF (by with_reducible assumption) ?_; conv => whnf) | ((with_reducible refine ABr.decT rfl ?_); conv => whnf) | ((with_reducible refine ABr.decT (by assumption) ?_); conv => whnf) | ((with_reducible refine ABr.decF (by assumption) ?_); conv => whnf) | (refine ABr.dec (fun h => ?_) (fun h => ?_) <;> first | (exfalso; omega) | conv => whnf) | (refine ABr.gen (fun h => ?_) (fun h => ?_) <;> conv => whnf))
    | (show ACell _ _ _; first | (refine ACell.cell 0 ?_ ?_; (focus (first | exact T.side)); conv => whnf) | (refine ACell.mk ?_; conv => whnf))
    | (show AList _ _; first | (refine AList.eq (nonce_mid k) ?_; conv => whnf) | (refine AList.app ?_ ?_; (focus (first | exact T.side)); conv => whnf) | (refine AList.set (x := b8 _) (bAV_b8 _).symm ?_ ?_; (focus (first | exact T.side)); conv => whnf) | (refine AList.set (f := iAV) rfl ?_ ?_; (focus (first | exact T.side)); conv => whnf) | (refine AList.part ?_; conv => whnf) | (refine AList.force ?_; (conv => whnf); refine Lit.mk ?_; conv => whnf) | (refine AList.full ?_ ?_; (focus (first | exact Nat.le_of_ble_eq_true rfl | (simp; done) | (simp; omega))); conv => whnf) | (refine AList.mk ?_; conv => whnf))
    | (refine LFresh.mk fun r => ?_; conv => whnf)
    | (show KeepL _ _ _; first | (refine KeepL.cons ?_; ((try show LHas _ _ _); repeat (with_reducible show LHas _ _ _); first | apply LHas.here | apply LHas.next); ((try show LHas _ _ _); repeat (with_reducible show LHas _ _ _); first | apply LHas.here | apply LHas.next); refine And.intro rfl ?_) | exact KeepL.nil)
    | (show InL _ _; first | exact InL.here | refine InL.next ?_)
    | (show False; (exact T.num))
    | (refine ⟨_, rfl, rfl, ?_⟩; conv => whnf)
  all_goals (try dsimp only)
  refine RetL.frz [r] ?_ ?_
  · apply LF.tup
    refine And.intro (LF.rowF InL.here ?_) (And.intro (LF.eq rfl) trivial)
    apply LHas.here
    exact ⟨rfl, by simp⟩
  · apply LHas.here
    exact LSub.nil
end Go.Proofs.YtdpfcpkedaolfaaDoor
