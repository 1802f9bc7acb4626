import Derived.Test.YtdpfcpkedaolfaaDoorPro7
import Derived.Test.YtdpfcpkedaolfaaDoorMade4
namespace Go.Proofs.YtdpfcpkedaolfaaDoor
open Go.RowKit
set_option linter.all false
theorem keyR_ok (t : List Int) (a : Nat) : (keyR t a).ok = true := by
  have h1 := nextR_lt t (adv t a 2) 5 (by decide) (by decide)
  have h2 := nextR_lt t (adv t a 3) 3 (by decide) (by decide)
  have h3 := nextR_lt t (adv t a 4) 2 (by decide) (by decide)
  simp [Ky.ok, keyR]
  omega
theorem bitsR_ok (t : List Int) (a : Nat) : bitsOk (bitsR t a) = true := by
  have h := nextR_lt t a 4 (by decide) (by decide)
  unfold bitsR
  generalize nextR t a 4 = x at *
  have : x = 0 ∨ x = 1 ∨ x = 2 ∨ x = 3 := by omega
  rcases this with rfl | rfl | rfl | rfl <;> decide +kernel
theorem count_of {n m : Int} (h : 0 ≤ n ∧ n < m) (hm : m ≤ 1048576) : countOk n = true := by
  simp [countOk]; omega
set_option maxHeartbeats 1000000 in
theorem sides_c (o : Ot) (k : Ky) (data : List UInt8) : LSpec Tryd.prog gl 6 [o.av, k.av, bv data] [] (fun _ => (.bool true, [])) := by
  have hp := protect_c o data
  have hp' := rprotect_c o data
  have hr := rekey_c (G := gl) o k
  have hr' := rrekey_c (G := gl) o k
  have hs := restart_c (G := gl) o k
  have hs' := rrestart_c (G := gl) o k
  generalize protR o data = p at *
  generalize rekR o k = r at *
  generalize rstR o k = s at *
  have f1 : (o.ok == o.ok) = true := by simp
  have f2 := sameO_refl p.1
  have f3 := sameO_refl r.1
  have f4 := sameO_refl s.1
  refine LSpec.introL tyOk Tryd.func6 rfl (by kernel_rfl) (by simp) (fun q => ⟨by simp, by simp⟩) ?_
  refine AWpL.sound tyOk _ _ _ _ ?_
  conv => whnf
  repeat' first
    | (show LHas _ _ _; ((try show LHas _ _ _); repeat (with_reducible show LHas _ _ _); first | apply LHas.here | apply LHas.next); conv => whnf)
    | (refine And.intro ?_ ?_; (focus (first | exact T.side)); conv => whnf)
    | (show LCall _ _ _ _ _ _; first | (refine LCall.pure (awake_c) ?_; conv => whnf) | (refine LCall.pure (hp) ?_; conv => whnf) | (refine LCall.pure (hp') ?_; conv => whnf) | (refine LCall.pure (hr) ?_; conv => whnf) | (refine LCall.pure (hr') ?_; conv => whnf) | (refine LCall.pure (hs) ?_; conv => whnf) | (refine LCall.pure (hs') ?_; conv => whnf) | (refine LCall.pure (pvalid_c o) ?_; conv => whnf) | (refine LCall.pure (rvalid16_c o) ?_; conv => whnf) | (refine LCall.pure (same_c _ _) ?_; conv => whnf) | (refine LCall.pure (osame_c _ _) ?_; conv => whnf) | (apply LCall.eq; (focus (repeat first | (apply cons_congr; (focus (first | exact sl_bv rfl | exact sl_bv (by first | (simp; done) | (simp; (exact T.num))) | exact rfl))) | exact rfl)); first | (refine LCall.pure (awake_c) ?_; conv => whnf) | (refine LCall.pure (hp) ?_; conv => whnf) | (refine LCall.pure (hp') ?_; conv => whnf) | (refine LCall.pure (hr) ?_; conv => whnf) | (refine LCall.pure (hr') ?_; conv => whnf) | (refine LCall.pure (hs) ?_; conv => whnf) | (refine LCall.pure (hs') ?_; conv => whnf) | (refine LCall.pure (pvalid_c o) ?_; conv => whnf) | (refine LCall.pure (rvalid16_c o) ?_; conv => whnf) | (refine LCall.pure (same_c _ _) ?_; conv => whnf) | (refine LCall.pure (osame_c _ _) ?_; conv => whnf)))
    | (show ABr _ _ _; first | (refine ABr.tt ?_; conv => whnf) | (refine ABr.ff ?_; conv => whnf) | (refine ABr.byN ?_) | ((with_reducible refine ABr.gtrT (by assumption) ?_); conv => whnf) | ((with_reducible refine ABr.gtrF (by assumption) ?_); conv => whnf) | ((with_reducible refine ABr.gtr (fun h => ?_) (fun h => ?_)) <;> first | (exfalso; omega) | conv => whnf) | ((with_reducible refine ABr.eqlT (by assumption) ?_); conv => whnf) | ((with_reducible refine ABr.eqlF (by assumption) ?_); conv => whnf) | ((with_reducible refine ABr.eql (fun h => ?_) (fun h => ?_)) <;> first | (exfalso; omega) | conv => whnf) | (refine ABr.byT (by with_reducible assumption) ?_; conv => whnf) | (refine ABr.byF (by with_reducible assumption) ?_; conv => whnf) | ((with_reducible refine ABr.decT rfl ?_); conv => whnf) | ((with_reducible refine ABr.decT (by assumption) ?_); conv => whnf) | ((with_reducible refine ABr.decF (by assumption) ?_); conv => whnf) | (refine ABr.dec (fun h => ?_) (fun h => ?_) <;> first | (exfalso; omega) | conv => whnf) | (refine ABr.gen (fun h => ?_) (fun h => ?_) <;> conv => whnf))
    | (show ACell _ _ _; first | (refine ACell.cell 0 ?_ ?_; (focus (first | exact T.side)); conv => whnf) | (refine ACell.mk ?_; conv => whnf))
    | (show AList _ _; first | (refine AList.app ?_ ?_; (focus (first | exact T.side)); conv => whnf) | (refine AList.set (x := b8 _) (bAV_b8 _).symm ?_ ?_; (focus (first | exact T.side)); conv => whnf) | (refine AList.set (f := iAV) rfl ?_ ?_; (focus (first | exact T.side)); conv => whnf) | (refine AList.part ?_; conv => whnf) | (refine AList.force ?_; (conv => whnf); refine Lit.mk ?_; conv => whnf) | (refine AList.full ?_ ?_; (focus (first | exact Nat.le_of_ble_eq_true rfl | (simp; done) | (simp; omega))); conv => whnf) | (refine AList.mk ?_; conv => whnf))
    | (refine LFresh.mk fun r => ?_; conv => whnf)
    | (show SWpL _ _ _ _ _ _ _; first | (apply SWpL.draw tyOk mixed (id := 9) [[], [0], [1, 0], [2, 1, 0], [1, 0], [4, 1, 0, 3, 2], [3, 2, 1, 0, 5, 4], [1, 0, 6, 3, 2, 5, 4], [7, 1, 0, 6, 3, 2, 5, 4], [8, 7, 1, 0, 6, 3, 2, 5, 4], [8, 7, 1, 0, 6, 3, 2, 5, 4], [9, 8, 7, 1, 0, 6, 3, 2, 5, 4, 10], [8, 7, 1, 0, 6, 3, 2, 5, 4, 11, 9, 10], [12, 8, 7, 1, 0, 6, 3, 2, 5, 4, 11, 9, 10], [13, 12, 8, 7, 1, 0, 6, 3, 2, 5, 4, 11, 9, 10], [13, 12, 8, 7, 1, 0, 6, 3, 2, 5, 4, 11, 9, 10], [14, 13, 12, 8, 7, 1, 0, 6, 3, 2, 5, 4, 11, 9, 10, 15], [13, 12, 8, 7, 1, 0, 6, 3, 2, 5, 4, 11, 9, 10, 16, 14, 15], [17, 13, 12, 8, 7, 1, 0, 6, 3, 2, 5, 4, 11, 9, 10, 16, 14, 15], [18, 17, 13, 12, 8, 7, 1, 0, 6, 3, 2, 5, 4, 11, 9, 10, 16, 14, 15], [18, 17, 13, 12, 8, 7, 1, 0, 6, 3, 2, 5, 4, 11, 9, 10, 16, 14, 15], [19, 18, 17, 13, 12, 8, 7, 1, 0, 6, 3, 2, 5, 4, 11, 9, 10, 16, 14, 15, 20], [18, 17, 13, 12, 8, 7, 1, 0, 6, 3, 2, 5, 4, 11, 9, 10, 16, 14, 15, 21, 19, 20], [22, 18, 17, 13, 12, 8, 7, 1, 0, 6, 3, 2, 5, 4, 11, 9, 10, 16, 14, 15, 21, 19, 20], [23, 22, 18, 17, 13, 12, 8, 7, 1, 0, 6, 3, 2, 5, 4, 11, 9, 10, 16, 14, 15, 21, 19, 20], [23, 22, 18, 17, 13, 12, 8, 7, 1, 0, 6, 3, 2, 5, 4, 11, 9, 10, 16, 14, 15, 21, 19, 20], [24, 23, 22, 18, 17, 13, 12, 8, 7, 1, 0, 6, 3, 2, 5, 4, 11, 9, 10, 16, 14, 15, 21, 19, 20, 25], [23, 22, 18, 17, 13, 12, 8, 7, 1, 0, 6, 3, 2, 5, 4, 11, 9, 10, 16, 14, 15, 21, 19, 20, 26, 24, 25], [27, 23, 22, 18, 17, 13, 12, 8, 7, 1, 0, 6, 3, 2, 5, 4, 11, 9, 10, 16, 14, 15, 21, 19, 20, 26, 24, 25], [28, 27, 23, 22, 18, 17, 13, 12, 8, 7, 1, 0, 6, 3, 2, 5, 4, 11, 9, 10, 16, 14, 15, 21, 19, 20, 26, 24, 25], [28, 27, 23, 22, 18, 17, 13, 12, 8, 7, 1, 0, 6, 3, 2, 5, 4, 11, 9, 10, 16, 14, 15, 21, 19, 20, 26, 24, 25], [29, 28, 27, 23, 22, 18, 17, 13, 12, 8, 7, 1, 0, 6, 3, 2, 5, 4, 11, 9, 10, 16, 14, 15, 21, 19, 20, 26, 24, 25, 30], [28, 27, 23, 22, 18, 17, 13, 12, 8, 7, 1, 0, 6, 3, 2, 5, 4, 11, 9, 10, 16, 14, 15, 21, 19, 20, 26, 24, 25, 31, 29, 30], [32, 28, 27, 23, 22, 18, 17, 13, 12, 8, 7, 1, 0, 6, 3, 2, 5, 4, 11, 9, 10, 16, 14, 15, 21, 19, 20, 26, 24, 25, 31, 29, 30], [33, 32, 28, 27, 23, 22, 18, 17, 13, 12, 8, 7, 1, 0, 6, 3, 2, 5, 4, 11, 9, 10, 16, 14, 15, 21, 19, 20, 26, 24, 25, 31, 29, 30], [33, 32, 28, 27, 23, 22, 18, 17, 13, 12, 8, 7, 1, 0, 6, 3, 2, 5, 4, 11, 9, 10, 16, 14, 15, 21, 19, 20, 26, 24, 25, 31, 29, 30], [34, 33, 32, 28, 27, 23, 22, 18, 17, 13, 12, 8, 7, 1, 0, 6, 3, 2, 5, 4, 11, 9, 10, 16, 14, 15, 21, 19, 20, 26, 24, 25, 31, 29, 30, 35], [33, 32, 28, 27, 23, 22, 18, 17, 13, 12, 8, 7, 1, 0, 6, 3, 2, 5, 4, 11, 9, 10, 16, 14, 15, 21, 19, 20, 26, 24, 25, 31, 29, 30, 36, 34, 35], [37, 33, 32, 28, 27, 23, 22, 18, 17, 13, 12, 8, 7, 1, 0, 6, 3, 2, 5, 4, 11, 9, 10, 16, 14, 15, 21, 19, 20, 26, 24, 25, 31, 29, 30, 36, 34, 35], [38, 37, 33, 32, 28, 27, 23, 22, 18, 17, 13, 12, 8, 7, 1, 0, 6, 3, 2, 5, 4, 11, 9, 10, 16, 14, 15, 21, 19, 20, 26, 24, 25, 31, 29, 30, 36, 34, 35], [38, 37, 33, 32, 28, 27, 23, 22, 18, 17, 13, 12, 8, 7, 1, 0, 6, 3, 2, 5, 4, 11, 9, 10, 16, 14, 15, 21, 19, 20, 26, 24, 25, 31, 29, 30, 36, 34, 35], [39, 38, 37, 33, 32, 28, 27, 23, 22, 18, 17, 13, 12, 8, 7, 1, 0, 6, 3, 2, 5, 4, 11, 9, 10, 16, 14, 15, 21, 19, 20, 26, 24, 25, 31, 29, 30, 36, 34, 35, 40], [38, 37, 33, 32, 28, 27, 23, 22, 18, 17, 13, 12, 8, 7, 1, 0, 6, 3, 2, 5, 4, 11, 9, 10, 16, 14, 15, 21, 19, 20, 26, 24, 25, 31, 29, 30, 36, 34, 35, 41, 39, 40], [42, 38, 37, 33, 32, 28, 27, 23, 22, 18, 17, 13, 12, 8, 7, 1, 0, 6, 3, 2, 5, 4, 11, 9, 10, 16, 14, 15, 21, 19, 20, 26, 24, 25, 31, 29, 30, 36, 34, 35, 41, 39, 40]] [4, 3] [0, 1, 2, 4, 3, 5, 6, 7, 8, 9, 10, 11, 12, 13, 14, 15, 16, 17, 18, 19, 20, 21, 22, 23, 24, 25, 26, 27, 28, 29, 30, 31, 32, 33, 34, 35, 36, 37, 38, 39, 40, 41, 42, 43] [_] (by kernel_rfl); conv => whnf) | (apply SWpL.draw tyOk mixed (id := 9) [[], [0], [1, 0], [2, 1, 0], [1, 0], [4, 1, 0, 3, 2], [3, 2, 1, 0, 5, 4], [1, 0, 6, 3, 2, 5, 4], [7, 1, 0, 6, 3, 2, 5, 4], [8, 7, 1, 0, 6, 3, 2, 5, 4], [8, 7, 1, 0, 6, 3, 2, 5, 4], [9, 8, 7, 1, 0, 6, 3, 2, 5, 4, 10], [8, 7, 1, 0, 6, 3, 2, 5, 4, 11, 9, 10], [12, 8, 7, 1, 0, 6, 3, 2, 5, 4, 11, 9, 10], [13, 12, 8, 7, 1, 0, 6, 3, 2, 5, 4, 11, 9, 10], [13, 12, 8, 7, 1, 0, 6, 3, 2, 5, 4, 11, 9, 10], [14, 13, 12, 8, 7, 1, 0, 6, 3, 2, 5, 4, 11, 9, 10, 15], [13, 12, 8, 7, 1, 0, 6, 3, 2, 5, 4, 11, 9, 10, 16, 14, 15], [17, 13, 12, 8, 7, 1, 0, 6, 3, 2, 5, 4, 11, 9, 10, 16, 14, 15], [18, 17, 13, 12, 8, 7, 1, 0, 6, 3, 2, 5, 4, 11, 9, 10, 16, 14, 15], [18, 17, 13, 12, 8, 7, 1, 0, 6, 3, 2, 5, 4, 11, 9, 10, 16, 14, 15], [19, 18, 17, 13, 12, 8, 7, 1, 0, 6, 3, 2, 5, 4, 11, 9, 10, 16, 14, 15, 20], [18, 17, 13, 12, 8, 7, 1, 0, 6, 3, 2, 5, 4, 11, 9, 10, 16, 14, 15, 21, 19, 20], [22, 18, 17, 13, 12, 8, 7, 1, 0, 6, 3, 2, 5, 4, 11, 9, 10, 16, 14, 15, 21, 19, 20], [23, 22, 18, 17, 13, 12, 8, 7, 1, 0, 6, 3, 2, 5, 4, 11, 9, 10, 16, 14, 15, 21, 19, 20], [23, 22, 18, 17, 13, 12, 8, 7, 1, 0, 6, 3, 2, 5, 4, 11, 9, 10, 16, 14, 15, 21, 19, 20], [24, 23, 22, 18, 17, 13, 12, 8, 7, 1, 0, 6, 3, 2, 5, 4, 11, 9, 10, 16, 14, 15, 21, 19, 20, 25], [23, 22, 18, 17, 13, 12, 8, 7, 1, 0, 6, 3, 2, 5, 4, 11, 9, 10, 16, 14, 15, 21, 19, 20, 26, 24, 25], [27, 23, 22, 18, 17, 13, 12, 8, 7, 1, 0, 6, 3, 2, 5, 4, 11, 9, 10, 16, 14, 15, 21, 19, 20, 26, 24, 25], [28, 27, 23, 22, 18, 17, 13, 12, 8, 7, 1, 0, 6, 3, 2, 5, 4, 11, 9, 10, 16, 14, 15, 21, 19, 20, 26, 24, 25], [28, 27, 23, 22, 18, 17, 13, 12, 8, 7, 1, 0, 6, 3, 2, 5, 4, 11, 9, 10, 16, 14, 15, 21, 19, 20, 26, 24, 25], [29, 28, 27, 23, 22, 18, 17, 13, 12, 8, 7, 1, 0, 6, 3, 2, 5, 4, 11, 9, 10, 16, 14, 15, 21, 19, 20, 26, 24, 25, 30], [28, 27, 23, 22, 18, 17, 13, 12, 8, 7, 1, 0, 6, 3, 2, 5, 4, 11, 9, 10, 16, 14, 15, 21, 19, 20, 26, 24, 25, 31, 29, 30], [32, 28, 27, 23, 22, 18, 17, 13, 12, 8, 7, 1, 0, 6, 3, 2, 5, 4, 11, 9, 10, 16, 14, 15, 21, 19, 20, 26, 24, 25, 31, 29, 30], [33, 32, 28, 27, 23, 22, 18, 17, 13, 12, 8, 7, 1, 0, 6, 3, 2, 5, 4, 11, 9, 10, 16, 14, 15, 21, 19, 20, 26, 24, 25, 31, 29, 30], [33, 32, 28, 27, 23, 22, 18, 17, 13, 12, 8, 7, 1, 0, 6, 3, 2, 5, 4, 11, 9, 10, 16, 14, 15, 21, 19, 20, 26, 24, 25, 31, 29, 30], [34, 33, 32, 28, 27, 23, 22, 18, 17, 13, 12, 8, 7, 1, 0, 6, 3, 2, 5, 4, 11, 9, 10, 16, 14, 15, 21, 19, 20, 26, 24, 25, 31, 29, 30, 35], [33, 32, 28, 27, 23, 22, 18, 17, 13, 12, 8, 7, 1, 0, 6, 3, 2, 5, 4, 11, 9, 10, 16, 14, 15, 21, 19, 20, 26, 24, 25, 31, 29, 30, 36, 34, 35], [37, 33, 32, 28, 27, 23, 22, 18, 17, 13, 12, 8, 7, 1, 0, 6, 3, 2, 5, 4, 11, 9, 10, 16, 14, 15, 21, 19, 20, 26, 24, 25, 31, 29, 30, 36, 34, 35], [38, 37, 33, 32, 28, 27, 23, 22, 18, 17, 13, 12, 8, 7, 1, 0, 6, 3, 2, 5, 4, 11, 9, 10, 16, 14, 15, 21, 19, 20, 26, 24, 25, 31, 29, 30, 36, 34, 35], [38, 37, 33, 32, 28, 27, 23, 22, 18, 17, 13, 12, 8, 7, 1, 0, 6, 3, 2, 5, 4, 11, 9, 10, 16, 14, 15, 21, 19, 20, 26, 24, 25, 31, 29, 30, 36, 34, 35], [39, 38, 37, 33, 32, 28, 27, 23, 22, 18, 17, 13, 12, 8, 7, 1, 0, 6, 3, 2, 5, 4, 11, 9, 10, 16, 14, 15, 21, 19, 20, 26, 24, 25, 31, 29, 30, 36, 34, 35, 40], [38, 37, 33, 32, 28, 27, 23, 22, 18, 17, 13, 12, 8, 7, 1, 0, 6, 3, 2, 5, 4, 11, 9, 10, 16, 14, 15, 21, 19, 20, 26, 24, 25, 31, 29, 30, 36, 34, 35, 41, 39, 40], [42, 38, 37, 33, 32, 28, 27, 23, 22, 18, 17, 13, 12, 8, 7, 1, 0, 6, 3, 2, 5, 4, 11, 9, 10, 16, 14, 15, 21, 19, 20, 26, 24, 25, 31, 29, 30, 36, 34, 35, 41, 39, 40]] [4, 3] [0, 1, 2, 4, 3, 5, 6, 7, 8, 9, 10, 11, 12, 13, 14, 15, 16, 17, 18, 19, 20, 21, 22, 23, 24, 25, 26, 27, 28, 29, 30, 31, 32, 33, 34, 35, 36, 37, 38, 39, 40, 41, 42, 43] [] (by kernel_rfl); conv => whnf))
    | (show KeepL _ _ _; first | (refine KeepL.cons ?_; ((try show LHas _ _ _); repeat (with_reducible show LHas _ _ _); first | apply LHas.here | apply LHas.next); ((try show LHas _ _ _); repeat (with_reducible show LHas _ _ _); first | apply LHas.here | apply LHas.next); refine And.intro rfl ?_) | exact KeepL.nil)
    | (show InL _ _; first | exact InL.here | refine InL.next ?_)
    | (show False; (exact T.num))
    | exact Nm.b 0
  all_goals (try dsimp only)
  all_goals
    (refine RetL.val ?_ ?_; rotate_left; (focus ((repeat' first | exact LSub.nil | (with_reducible exact LSub.refl) | (apply LSub.cons; ((try show LHas _ _ _); repeat (with_reducible show LHas _ _ _); first | apply LHas.here | apply LHas.next); refine And.intro ?_ ?_; (focus (try (first | (with_reducible rfl) | (refine congrArg (Pl.mk _) ?_; (first | rfl | (simp; done))) | rfl | (with_reducible refine congrArg (Pl.mk _) ?_)))))))))
    first | rfl | exact congrArg AV.bool f4
set_option maxHeartbeats 1000000 in
theorem hides_c (t : List Int) (data : List UInt8) : LSpec Tryd.prog gl 4 [iv t, bv data] [] (fun _ => (.bool true, [])) := by
  by_cases ht : t.length ≤ 400
  · by_cases hd : 1 ≤ data.length ∧ data.length ≤ 500
    · have hk := keyR_ok t 0
      have hb := bitsR_ok t (adv t 0 5)
      have hc := count_of (nextR_lt t (nextA t (adv t 0 5)) 1000 (by decide) (by decide)) (by decide)
      have hdo : dataOk data = true := by simp [dataOk]; omega
      generalize hK : keyR t 0 = K at *
      generalize hB : bitsR t (adv t 0 5) = b at *
      generalize hC : nextR t (nextA t (adv t 0 5)) 1000 = c at *
      have hs := seal_c K b c data
      rw [sealR_ok hk (by rw [hb, hc]; rfl) hdo] at hs
      have hl := sealL_len K b c data hk hdo
      have hx := rxor_c K.s (nonceL K c) data
      rw [xorR_ok _ _ _ (K.of hk).1 (nonceL_len _ _) (by omega)] at hx
      have hsame : (List.take data.length (List.drop 2 (sealL K b c data))) = xorL K.s (nonceL K c) data := by
        unfold sealL
        rw [show List.drop 2 (headL (lowR b c) ++ xorL K.s (nonceL K c) (data ++ markH K (nonceL K c) (headL (lowR b c)) data)) = xorL K.s (nonceL K c) (data ++ markH K (nonceL K c) (headL (lowR b c)) data) by rw [← headL_len (lowR b c), List.drop_left]]
        exact xorL_take _ _ _ _
      have hXl : (xorL K.s (nonceL K c) data).length = data.length := xorL_len _ _ _
      have hl2 : (((sealL K b c data).length : Nat) : Int) = iarith .add .i64 ((data.length : Nat) : Int) 6 := by rw [hl]; (exact T.num)
      generalize sealL K b c data = u at *
      generalize xorL K.s (nonceL K c) data = X at *
      have hkey := fun p => dkey_c (G := gl) t 0 ht p
      rw [hK] at hkey
      have hbits := fun p => dbits_c (G := gl) t (adv t 0 5) ht p
      rw [hB] at hbits
      have hnext := fun p => next_c (G := gl) t (nextA t (adv t 0 5)) 1000 ht p
      rw [hC] at hnext
      clear hK hB hC hb hdo
      refine LSpec.introL tyOk Tryd.func4 rfl (by kernel_rfl) (by simp) (fun q => ⟨by simp, by simp⟩) ?_
      refine AWpL.sound tyOk _ _ _ _ ?_
      conv => whnf
      repeat' first
        | (show LHas _ _ _; ((try show LHas _ _ _); repeat (with_reducible show LHas _ _ _); first | apply LHas.here | apply LHas.next); conv => whnf)
        | (refine And.intro ?_ ?_; (focus (first | exact T.side)); conv => whnf)
        | (show LCall _ _ _ _ _ _; first | (refine LCall.pure (awake_c) ?_; conv => whnf) | (refine LCall.pure (light_c t) ?_; conv => whnf) | (refine LCall.own (roll_c t) ?_; conv => whnf) | (apply LCall.upd (hkey _); ((try show LHas _ _ _); repeat (with_reducible show LHas _ _ _); first | apply LHas.here | apply LHas.next); refine And.intro rfl ?_; conv => whnf) | (apply LCall.upd (hbits _); ((try show LHas _ _ _); repeat (with_reducible show LHas _ _ _); first | apply LHas.here | apply LHas.next); refine And.intro rfl ?_; conv => whnf) | (apply LCall.upd (hnext _); ((try show LHas _ _ _); repeat (with_reducible show LHas _ _ _); first | apply LHas.here | apply LHas.next); refine And.intro rfl ?_; conv => whnf) | (refine LCall.pure (hs) ?_; conv => whnf) | (refine LCall.pure (rnonce_c K c hk hc) ?_; conv => whnf) | (refine LCall.pure (hx) ?_; conv => whnf) | (refine LCall.pure (same_c _ _) ?_; conv => whnf) | (apply LCall.eq; (focus (repeat first | (apply cons_congr; (focus (first | exact sl_bv rfl | exact sl_bv (by first | (simp; done) | (simp; (exact T.num))) | exact rfl))) | exact rfl)); first | (refine LCall.pure (awake_c) ?_; conv => whnf) | (refine LCall.pure (light_c t) ?_; conv => whnf) | (refine LCall.own (roll_c t) ?_; conv => whnf) | (apply LCall.upd (hkey _); ((try show LHas _ _ _); repeat (with_reducible show LHas _ _ _); first | apply LHas.here | apply LHas.next); refine And.intro rfl ?_; conv => whnf) | (apply LCall.upd (hbits _); ((try show LHas _ _ _); repeat (with_reducible show LHas _ _ _); first | apply LHas.here | apply LHas.next); refine And.intro rfl ?_; conv => whnf) | (apply LCall.upd (hnext _); ((try show LHas _ _ _); repeat (with_reducible show LHas _ _ _); first | apply LHas.here | apply LHas.next); refine And.intro rfl ?_; conv => whnf) | (refine LCall.pure (hs) ?_; conv => whnf) | (refine LCall.pure (rnonce_c K c hk hc) ?_; conv => whnf) | (refine LCall.pure (hx) ?_; conv => whnf) | (refine LCall.pure (same_c _ _) ?_; conv => whnf)))
        | (show ABr _ _ _; first | (refine ABr.tt ?_; conv => whnf) | (refine ABr.ff ?_; conv => whnf) | (refine ABr.byN ?_) | ((with_reducible refine ABr.lssT (by assumption) ?_); conv => whnf) | ((with_reducible refine ABr.lssF (by assumption) ?_); conv => whnf) | ((with_reducible refine ABr.lss (fun h => ?_) (fun h => ?_)) <;> first | (exfalso; omega) | conv => whnf) | ((with_reducible refine ABr.gtrT (by assumption) ?_); conv => whnf) | ((with_reducible refine ABr.gtrF (by assumption) ?_); conv => whnf) | ((with_reducible refine ABr.gtr (fun h => ?_) (fun h => ?_)) <;> first | (exfalso; omega) | conv => whnf) | ((with_reducible refine ABr.eqlT (by assumption) ?_); conv => whnf) | ((with_reducible refine ABr.eqlF (by assumption) ?_); conv => whnf) | ((with_reducible refine ABr.eql (fun h => ?_) (fun h => ?_)) <;> first | (exfalso; omega) | conv => whnf) | (refine ABr.byT (by with_reducible assumption) ?_; conv => whnf) | (refine ABr.byF (by with_reducible assumption) ?_; conv => whnf) | ((with_reducible refine ABr.decT rfl ?_); conv => whnf) | ((with_reducible refine ABr.decT (by assumption) ?_); conv => whnf) | ((with_reducible refine ABr.decF (by assumption) ?_); conv => whnf) | (refine ABr.dec (fun h => ?_) (fun h => ?_) <;> first | (exfalso; omega) | conv => whnf) | (refine ABr.gen (fun h => ?_) (fun h => ?_) <;> conv => whnf))
        | (show ACell _ _ _; first | (refine ACell.cell 0 ?_ ?_; (focus (first | exact T.side)); conv => whnf) | (refine ACell.mk ?_; conv => whnf))
        | (show AList _ _; first | (refine AList.subE 2 data.length ?_ ?_ ?_; (focus rfl); (focus (exact T.num)); rw [hsame]; conv => whnf) | (refine AList.app ?_ ?_; (focus (first | exact T.side)); conv => whnf) | (refine AList.set (x := b8 _) (bAV_b8 _).symm ?_ ?_; (focus (first | exact T.side)); conv => whnf) | (refine AList.set (f := iAV) rfl ?_ ?_; (focus (first | exact T.side)); conv => whnf) | (refine AList.part ?_; conv => whnf) | (refine AList.force ?_; (conv => whnf); refine Lit.mk ?_; conv => whnf) | (refine AList.full ?_ ?_; (focus (first | exact Nat.le_of_ble_eq_true rfl | (simp; done) | (simp; omega))); conv => whnf) | (refine AList.mk ?_; conv => whnf))
        | (refine LFresh.mk fun r => ?_; conv => whnf)
        | (show KeepL _ _ _; first | (refine KeepL.cons ?_; ((try show LHas _ _ _); repeat (with_reducible show LHas _ _ _); first | apply LHas.here | apply LHas.next); ((try show LHas _ _ _); repeat (with_reducible show LHas _ _ _); first | apply LHas.here | apply LHas.next); refine And.intro rfl ?_) | exact KeepL.nil)
        | (show InL _ _; first | exact InL.here | refine InL.next ?_)
        | (refine dec_yes ?_ ?_; (focus (first | exact .inl rfl | (exact T.num))); conv => whnf)
        | (refine dec_no ?_ ?_; (focus (exact T.num)); conv => whnf)
        | (refine dec_both (fun h => ?_) (fun h => ?_) <;> conv => whnf)
        | (show False; (exact T.num))
      all_goals (try dsimp only)
      all_goals
        (refine RetL.val ?_ ?_; rotate_left; (focus ((repeat' first | exact LSub.nil | (with_reducible exact LSub.refl) | (apply LSub.cons; ((try show LHas _ _ _); repeat (with_reducible show LHas _ _ _); first | apply LHas.here | apply LHas.next); refine And.intro ?_ ?_; (focus (try (first | (with_reducible rfl) | (refine congrArg (Pl.mk _) ?_; (first | rfl | (simp; done))) | rfl | (with_reducible refine congrArg (Pl.mk _) ?_)))))))))
        simp
    · refine LSpec.introL tyOk Tryd.func4 rfl (by kernel_rfl) (by simp) (fun q => ⟨by simp, by simp⟩) ?_
      refine AWpL.sound tyOk _ _ _ _ ?_
      conv => whnf
      repeat' first
        | (show LHas _ _ _; ((try show LHas _ _ _); repeat (with_reducible show LHas _ _ _); first | apply LHas.here | apply LHas.next); conv => whnf)
        | (refine And.intro ?_ ?_; (focus (first | exact T.side)); conv => whnf)
        | (show LCall _ _ _ _ _ _; first | (refine LCall.pure (awake_c) ?_; conv => whnf) | (refine LCall.pure (light_c t) ?_; conv => whnf) | (apply LCall.eq; (focus (repeat first | (apply cons_congr; (focus (first | exact sl_bv rfl | exact sl_bv (by first | (simp; done) | (simp; (exact T.num))) | exact rfl))) | exact rfl)); first | (refine LCall.pure (awake_c) ?_; conv => whnf) | (refine LCall.pure (light_c t) ?_; conv => whnf)))
        | (show ABr _ _ _; first | (refine ABr.tt ?_; conv => whnf) | (refine ABr.ff ?_; conv => whnf) | (refine ABr.byN ?_) | ((with_reducible refine ABr.lssT (by assumption) ?_); conv => whnf) | ((with_reducible refine ABr.lssF (by assumption) ?_); conv => whnf) | ((with_reducible refine ABr.lss (fun h => ?_) (fun h => ?_)) <;> first | (exfalso; omega) | conv => whnf) | ((with_reducible refine ABr.gtrT (by assumption) ?_); conv => whnf) | ((with_reducible refine ABr.gtrF (by assumption) ?_); conv => whnf) | ((with_reducible refine ABr.gtr (fun h => ?_) (fun h => ?_)) <;> first | (exfalso; omega) | conv => whnf) | ((with_reducible refine ABr.eqlT (by assumption) ?_); conv => whnf) | ((with_reducible refine ABr.eqlF (by assumption) ?_); conv => whnf) | ((with_reducible refine ABr.eql (fun h => ?_) (fun h => ?_)) <;> first | (exfalso; omega) | conv => whnf) | (refine ABr.byT (by with_reducible assumption) ?_; conv => whnf) | (refine ABr.byF (by with_reducible assumption) ?_; conv => whnf) | ((with_reducible refine ABr.decT rfl ?_); conv => whnf) | ((with_reducible refine ABr.decT (by assumption) ?_); conv => whnf) | ((with_reducible refine ABr.decF (by assumption) ?_); conv => whnf) | (refine ABr.dec (fun h => ?_) (fun h => ?_) <;> first | (exfalso; omega) | conv => whnf) | (refine ABr.gen (fun h => ?_) (fun h => ?_) <;> conv => whnf))
        | (show ACell _ _ _; first | (refine ACell.cell 0 ?_ ?_; (focus (first | exact T.side)); conv => whnf) | (refine ACell.mk ?_; conv => whnf))
        | (show AList _ _; first | (refine AList.app ?_ ?_; (focus (first | exact T.side)); conv => whnf) | (refine AList.set (x := b8 _) (bAV_b8 _).symm ?_ ?_; (focus (first | exact T.side)); conv => whnf) | (refine AList.set (f := iAV) rfl ?_ ?_; (focus (first | exact T.side)); conv => whnf) | (refine AList.part ?_; conv => whnf) | (refine AList.force ?_; (conv => whnf); refine Lit.mk ?_; conv => whnf) | (refine AList.full ?_ ?_; (focus (first | exact Nat.le_of_ble_eq_true rfl | (simp; done) | (simp; omega))); conv => whnf) | (refine AList.mk ?_; conv => whnf))
        | (refine LFresh.mk fun r => ?_; conv => whnf)
        | (show KeepL _ _ _; first | (refine KeepL.cons ?_; ((try show LHas _ _ _); repeat (with_reducible show LHas _ _ _); first | apply LHas.here | apply LHas.next); ((try show LHas _ _ _); repeat (with_reducible show LHas _ _ _); first | apply LHas.here | apply LHas.next); refine And.intro rfl ?_) | exact KeepL.nil)
        | (show InL _ _; first | exact InL.here | refine InL.next ?_)
        | (refine dec_yes ?_ ?_; (focus (first | exact .inl rfl | (exact T.num))); conv => whnf)
        | (refine dec_no ?_ ?_; (focus (exact T.num)); conv => whnf)
        | (refine dec_both (fun h => ?_) (fun h => ?_) <;> conv => whnf)
        | (show False; (exact T.num))
      all_goals (try dsimp only)
      all_goals
        (refine RetL.val ?_ ?_; rotate_left; (focus ((repeat' first | exact LSub.nil | (with_reducible exact LSub.refl) | (apply LSub.cons; ((try show LHas _ _ _); repeat (with_reducible show LHas _ _ _); first | apply LHas.here | apply LHas.next); refine And.intro ?_ ?_; (focus (try (first | (with_reducible rfl) | (refine congrArg (Pl.mk _) ?_; (first | rfl | (simp; done))) | rfl | (with_reducible refine congrArg (Pl.mk _) ?_)))))))))
        rfl
  · refine LSpec.introL tyOk Tryd.func4 rfl (by kernel_rfl) (by simp) (fun q => ⟨by simp, by simp⟩) ?_
    refine AWpL.sound tyOk _ _ _ _ ?_
    conv => whnf
    repeat' first
      | (show LHas _ _ _; ((try show LHas _ _ _); repeat (with_reducible show LHas _ _ _); first | apply LHas.here | apply LHas.next); conv => whnf)
      | (refine And.intro ?_ ?_; (focus (first | exact T.side)); conv => whnf)
      | (show LCall _ _ _ _ _ _; first | (refine LCall.pure (awake_c) ?_; conv => whnf) | (refine LCall.pure (light_c t) ?_; conv => whnf) | (apply LCall.eq; (focus (repeat first | (apply cons_congr; (focus (first | exact sl_bv rfl | exact sl_bv (by first | (simp; done) | (simp; (exact T.num))) | exact rfl))) | exact rfl)); first | (refine LCall.pure (awake_c) ?_; conv => whnf) | (refine LCall.pure (light_c t) ?_; conv => whnf)))
      | (show ABr _ _ _; first | (refine ABr.tt ?_; conv => whnf) | (refine ABr.ff ?_; conv => whnf) | (refine ABr.byN ?_) | ((with_reducible refine ABr.lssT (by assumption) ?_); conv => whnf) | ((with_reducible refine ABr.lssF (by assumption) ?_); conv => whnf) | ((with_reducible refine ABr.lss (fun h => ?_) (fun h => ?_)) <;> first | (exfalso; omega) | conv => whnf) | ((with_reducible refine ABr.gtrT (by assumption) ?_); conv => whnf) | ((with_reducible refine ABr.gtrF (by assumption) ?_); conv => whnf) | ((with_reducible refine ABr.gtr (fun h => ?_) (fun h => ?_)) <;> first | (exfalso; omega) | conv => whnf) | ((with_reducible refine ABr.eqlT (by assumption) ?_); conv => whnf) | ((with_reducible refine ABr.eqlF (by assumption) ?_); conv => whnf) | ((with_reducible refine ABr.eql (fun h => ?_) (fun h => ?_)) <;> first | (exfalso; omega) | conv => whnf) | (refine ABr.byT (by with_reducible assumption) ?_; conv => whnf) | (refine ABr.byF (by with_reducible assumption) ?_; conv => whnf) | ((with_reducible refine ABr.decT rfl ?_); conv => whnf) | ((with_reducible refine ABr.decT (by assumption) ?_); conv => whnf) | ((with_reducible refine ABr.decF (by assumption) ?_); conv => whnf) | (refine ABr.dec (fun h => ?_) (fun h => ?_) <;> first | (exfalso; omega) | conv => whnf) | (refine ABr.gen (fun h => ?_) (fun h => ?_) <;> conv => whnf))
      | (show ACell _ _ _; first | (refine ACell.cell 0 ?_ ?_; (focus (first | exact T.side)); conv => whnf) | (refine ACell.mk ?_; conv => whnf))
      | (show AList _ _; first | (refine AList.app ?_ ?_; (focus (first | exact T.side)); conv => whnf) | (refine AList.set (x := b8 _) (bAV_b8 _).symm ?_ ?_; (focus (first | exact T.side)); conv => whnf) | (refine AList.set (f := iAV) rfl ?_ ?_; (focus (first | exact T.side)); conv => whnf) | (refine AList.part ?_; conv => whnf) | (refine AList.force ?_; (conv => whnf); refine Lit.mk ?_; conv => whnf) | (refine AList.full ?_ ?_; (focus (first | exact Nat.le_of_ble_eq_true rfl | (simp; done) | (simp; omega))); conv => whnf) | (refine AList.mk ?_; conv => whnf))
      | (refine LFresh.mk fun r => ?_; conv => whnf)
      | (show KeepL _ _ _; first | (refine KeepL.cons ?_; ((try show LHas _ _ _); repeat (with_reducible show LHas _ _ _); first | apply LHas.here | apply LHas.next); ((try show LHas _ _ _); repeat (with_reducible show LHas _ _ _); first | apply LHas.here | apply LHas.next); refine And.intro rfl ?_) | exact KeepL.nil)
      | (show InL _ _; first | exact InL.here | refine InL.next ?_)
      | (refine dec_yes ?_ ?_; (focus (first | exact .inl rfl | (exact T.num))); conv => whnf)
      | (refine dec_no ?_ ?_; (focus (exact T.num)); conv => whnf)
      | (refine dec_both (fun h => ?_) (fun h => ?_) <;> conv => whnf)
      | (show False; (exact T.num))
    all_goals (try dsimp only)
    (refine RetL.val ?_ ?_; rotate_left; (focus ((repeat' first | exact LSub.nil | (with_reducible exact LSub.refl) | (apply LSub.cons; ((try show LHas _ _ _); repeat (with_reducible show LHas _ _ _); first | apply LHas.here | apply LHas.next); refine And.intro ?_ ?_; (focus (try (first | (with_reducible rfl) | (refine congrArg (Pl.mk _) ?_; (first | rfl | (simp; done))) | rfl | (with_reducible refine congrArg (Pl.mk _) ?_)))))))))
    rfl
end Go.Proofs.YtdpfcpkedaolfaaDoor
