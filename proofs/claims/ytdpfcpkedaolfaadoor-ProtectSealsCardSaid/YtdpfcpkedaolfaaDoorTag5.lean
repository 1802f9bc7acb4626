import Derived.Test.YtdpfcpkedaolfaaDoorTag4
namespace Go.Proofs.YtdpfcpkedaolfaaDoor
open Go.RowKit
set_option linter.all false
variable {G : Nat → AV}
theorem wds_mid (l : List UInt8) (i : Nat) (h : 8 * i + 8 ≤ l.length) : (wds l).getD i 0 = ldN (l.drop (8 * i)) 8 := by
  rw [wds_eq, List.getD_eq_getElem?_getD, List.getElem?_append_left (by simp; omega)]
  have hi : i < l.length / 8 := by omega
  have hw : wholeW l (l.length / 8) = (List.range (l.length / 8)).map fun i => ldN (l.drop (8 * i)) 8 := wholeW_eq _ _
  rw [hw]
  simp [hi]
theorem wds_last (l : List UInt8) : (wds l).getD (l.length / 8) 0 = lastW (l.drop (8 * (l.length / 8))) l.length := by
  rw [wds_eq, List.getD_eq_getElem?_getD, List.getElem?_append_right (by simp)]
  simp
set_option maxHeartbeats 2000000 in
theorem rsum_ok (key l : List UInt8) (hk : key.length = 16) (h2 : l.length ≤ 4096) : LSpec Tryd.prog G 73 [bv key, bv l] [] (fun _ => (be (tagL key l, 0), [])) := by
  have hw : (wds l).length = l.length / 8 + 1 := wds_len l
  have hL := drop8_len l
  have key2 : ∀ (n : Nat), l.length / 8 = n → ∀ t : W4, rndN ⟨(tkN (wds l) (ini key) (n + 1)).a, (tkN (wds l) (ini key) (n + 1)).b, ibits .xor .u64 (tkN (wds l) (ini key) (n + 1)).c 255, (tkN (wds l) (ini key) (n + 1)).d⟩ 4 = t → LSpec Tryd.prog G 73 [bv key, bv l] [] (fun _ => (be (outV (tagV t), 0), [])) := by
    intro n hn t ht
    have hc := fun p => rrounds_c (G := G) ⟨(tkN (wds l) (ini key) (n + 1)).a, (tkN (wds l) (ini key) (n + 1)).b, ibits .xor .u64 (tkN (wds l) (ini key) (n + 1)).c 255, (tkN (wds l) (ini key) (n + 1)).d⟩ 4 (by decide) p
    rw [ht] at hc
    clear ht
    have w1 : LSpec Tryd.prog G 80 [bv (key.take 8)] [] (fun _ => (dAV (ldN key 8), [])) := by
      have := tword_c (G := G) (key.take 8) (by simp; omega)
      rw [show (key.take 8).length = 8 by simp; omega, ldN_take] at this
      exact this
    have w2 : LSpec Tryd.prog G 80 [bv (key.drop 8)] [] (fun _ => (dAV (ldN (key.drop 8) 8), [])) := by
      have := tword_c (G := G) (key.drop 8) (by simp; omega)
      rw [show (key.drop 8).length = 8 by simp; omega] at this
      exact this
    have wi : ∀ i, 8 * i + 8 ≤ l.length → LSpec Tryd.prog G 80 [bv ((l.drop (8 * i)).take 8)] [] (fun _ => (dAV ((wds l).getD i 0), [])) := fun i hi => by
      have := tword_c (G := G) ((l.drop (8 * i)).take 8) (by simp; omega)
      rw [show ((l.drop (8 * i)).take 8).length = 8 by simp; omega, ldN_take, ← wds_mid l i hi] at this
      exact this
    have w3 : ∀ i, i = n → LSpec Tryd.prog G 80 [bv (l.drop (8 * i))] [] (fun _ => (dAV (ldN (l.drop (8 * i)) (l.drop (8 * i)).length), [])) := fun i hi => tword_c _ (by rw [hL]; omega)
    have w4 : ∀ i p, i = n → LSpec Tryd.prog G 81 [.ptr p 0, .int .u64 (ibits .or .u64 (ldN (l.drop (8 * i)) (l.drop (8 * i)).length) (IntKind.u64.wrap (IntKind.u64.wrap ((l.length : Int).tmod 256) * 2 ^ min (Int.toNat 56) 64)))] [(p, ⟨99, (tkN (wds l) (ini key) i).cs⟩)] (fun _ => (.tup [], [(p, ⟨99, (tkN (wds l) (ini key) (i + 1)).cs⟩)])) := fun i p hi => by
      have h := stake_c (G := G) (tkN (wds l) (ini key) i) ((wds l).getD i 0) p
      rw [← tkN_succ] at h
      have e : (wds l).getD i 0 = ibits .or .u64 (ldN (l.drop (8 * i)) (l.drop (8 * i)).length) (IntKind.u64.wrap (IntKind.u64.wrap ((l.length : Int).tmod 256) * 2 ^ min (Int.toNat 56) 64)) := by
        rw [hi, ← hn, wds_last]; rfl
      rw [e] at h
      exact h
    have w5 : ini key = ⟨ibits .xor .u64 (ldN key 8) 8317987319222330741, ibits .xor .u64 (ldN (key.drop 8) 8) 7237128888997146477, ibits .xor .u64 (ldN key 8) 7816392313619706465, ibits .xor .u64 (ldN (key.drop 8) 8) 8387220255154660723⟩ := ini_eq key
    have hn2 : n ≤ 1000 := by omega
    refine LSpec.introL tyOk Tryd.func73 rfl (by kernel_rfl) (by simp) (fun q => ⟨by simp, by simp⟩) ?_
    refine AWpL.sound tyOk _ _ _ _ ?_
    conv => whnf
    repeat' first
      | (show LCall _ _ 82 _ _ _; have hi : i = n := (by omega); subst hi; refine LCall.upd (hc _) ?_; ((try show LHas _ _ _); repeat (with_reducible show LHas _ _ _); first | apply LHas.here | apply LHas.next); refine And.intro rfl ?_; conv => whnf)
      | (show LHas _ _ _; ((try show LHas _ _ _); repeat (with_reducible show LHas _ _ _); first | apply LHas.here | apply LHas.next); conv => whnf)
      | (refine And.intro ?_ ?_; (focus (first | (rw [List.length_map, hw]; omega) | exact T.side)); conv => whnf)
      | (show LCall _ _ _ _ _ _; first | (refine LCall.pure (w1) ?_; conv => whnf) | (refine LCall.pure (w2) ?_; conv => whnf) | (refine LCall.pure (wi i (by omega)) ?_; conv => whnf) | (refine LCall.pure (w3 i (by omega)) ?_; conv => whnf) | (apply LCall.upd (w4 i _ (by omega)); ((try show LHas _ _ _); repeat (with_reducible show LHas _ _ _); first | apply LHas.here | apply LHas.next); refine And.intro rfl ?_; conv => whnf) | (apply LCall.upd (stake_c (tkN (wds l) (ini key) i) ((wds l).getD i 0) _); ((try show LHas _ _ _); repeat (with_reducible show LHas _ _ _); first | apply LHas.here | apply LHas.next); refine And.intro rfl ?_; conv => whnf) | (apply LCall.eq; (focus (repeat first | (apply cons_congr; (focus (first | exact sl_bv rfl | exact sl_bv (by first | (simp; done) | (simp; (exact T.num))) | exact rfl))) | exact rfl)); first | (refine LCall.pure (w1) ?_; conv => whnf) | (refine LCall.pure (w2) ?_; conv => whnf) | (refine LCall.pure (wi i (by omega)) ?_; conv => whnf) | (refine LCall.pure (w3 i (by omega)) ?_; conv => whnf) | (apply LCall.upd (w4 i _ (by omega)); ((try show LHas _ _ _); repeat (with_reducible show LHas _ _ _); first | apply LHas.here | apply LHas.next); refine And.intro rfl ?_; conv => whnf) | (apply LCall.upd (stake_c (tkN (wds l) (ini key) i) ((wds l).getD i 0) _); ((try show LHas _ _ _); repeat (with_reducible show LHas _ _ _); first | apply LHas.here | apply LHas.next); refine And.intro rfl ?_; conv => whnf)))
      | (show ABr _ _ _; first | (refine ABr.tt ?_; conv => whnf) | (refine ABr.ff ?_; conv => whnf) | (refine ABr.byN ?_) | ((with_reducible refine ABr.lssT (by assumption) ?_); conv => whnf) | ((with_reducible refine ABr.lssF (by assumption) ?_); conv => whnf) | ((with_reducible refine ABr.lss (fun h => ?_) (fun h => ?_)) <;> first | (exfalso; omega) | conv => whnf) | ((with_reducible refine ABr.gtrT (by assumption) ?_); conv => whnf) | ((with_reducible refine ABr.gtrF (by assumption) ?_); conv => whnf) | ((with_reducible refine ABr.gtr (fun h => ?_) (fun h => ?_)) <;> first | (exfalso; omega) | conv => whnf) | ((with_reducible refine ABr.geqT (by assumption) ?_); conv => whnf) | ((with_reducible refine ABr.geqF (by assumption) ?_); conv => whnf) | ((with_reducible refine ABr.geq (fun h => ?_) (fun h => ?_)) <;> first | (exfalso; omega) | conv => whnf) | ((with_reducible refine ABr.neqT (by assumption) ?_); conv => whnf) | ((with_reducible refine ABr.neqF (by assumption) ?_); conv => whnf) | ((with_reducible refine ABr.neq (fun h => ?_) (fun h => ?_)) <;> first | (exfalso; omega) | conv => whnf) | (refine ABr.byT (by with_reducible assumption) ?_; conv => whnf) | (refine ABr.byF (by with_reducible assumption) ?_; conv => whnf) | ((with_reducible refine ABr.decT rfl ?_); conv => whnf) | ((with_reducible refine ABr.decT (by assumption) ?_); conv => whnf) | ((with_reducible refine ABr.decF (by assumption) ?_); conv => whnf) | (refine ABr.dec (fun h => ?_) (fun h => ?_) <;> first | (exfalso; omega) | conv => whnf) | (refine ABr.gen (fun h => ?_) (fun h => ?_) <;> conv => whnf))
      | (show ACell _ _ _; first | (refine ACell.cell 0 ?_ ?_; (focus (first | exact T.side)); conv => whnf) | (refine ACell.mk ?_; conv => whnf))
      | (show AList _ _; first | (refine AList.headE 8 ?_ ?_ ?_; (focus rfl); (focus rfl); conv => whnf) | (refine AList.eq (tail_e l i) ?_; conv => whnf) | (refine AList.tailE 8 ?_ ?_ ?_; (focus rfl); (focus (simp; omega)); conv => whnf) | (refine AList.app ?_ ?_; (focus (first | exact T.side)); conv => whnf) | (refine AList.set (x := b8 _) (bAV_b8 _).symm ?_ ?_; (focus (first | exact T.side)); conv => whnf) | (refine AList.set (f := iAV) rfl ?_ ?_; (focus (first | exact T.side)); conv => whnf) | (refine AList.part ?_; conv => whnf) | (refine AList.force ?_; (conv => whnf); refine Lit.mk ?_; conv => whnf) | (refine AList.full ?_ ?_; (focus (first | exact Nat.le_of_ble_eq_true rfl | (simp; done) | (simp; omega))); conv => whnf) | (refine AList.mk ?_; conv => whnf))
      | (refine LFresh.mk fun r => ?_; conv => whnf)
      | (show SWpL _ _ _ _ _ _ _; first | (refine SWpL.adopt 11 1 5 (by rfl) fun q => ?_) | (apply SWpL.loopC 8 (S := Nat × Nm) [9] (fun zz => match zz with | (i, p) => [(1, .sl (l.length - 8 * i) ((l.drop (8 * i)).map bAV)), (8, .ptr p 0)]) (fun zz => match zz with | (i, p) => [(p, ⟨99, (tkN (wds l) (ini key) i).cs⟩)]) (fun zz => match zz with | (i, p) => 8 * i ≤ l.length) (fun zz => match zz with | (i, p) => l.length - 8 * i) ((0, _)) (by rfl); (focus ((repeat' first | exact trivial | (refine And.intro ?_ ?_) | exact LSub.nil | (with_reducible exact LSub.refl) | (apply LSub.cons; ((try show LHas _ _ _); repeat (with_reducible show LHas _ _ _); first | apply LHas.here | apply LHas.next); refine And.intro ?_ ?_; (focus (try (first | (with_reducible rfl) | (refine congrArg (Pl.mk _) ?_; (first | (with_reducible rfl) | (rw [outA_zero]; rfl) | (rw [outA_succ, ← sh8u j (by omega), List.map_append, List.map_cons, bAV_b8]; rfl) | (rw [tkN_zero, w5]; rfl) | (rw [tkN_succ]) | rfl)) | rfl | (with_reducible refine congrArg (Pl.mk _) ?_))))) | assumption | (first | rfl | ((conv => lhs; whnf); first | rfl | (refine congrArg (AV.int _) ?_; (exact T.num)) | (refine congrArg AV.bool ?_; (exact T.num)) | (refine vw_congr ?_; first | (exact T.num) | (first | (with_reducible rfl) | (rw [outA_zero]; rfl) | (rw [outA_succ, ← sh8u j (by omega), List.map_append, List.map_cons, bAV_b8]; rfl) | (rw [tkN_zero, w5]; rfl) | (rw [tkN_succ]) | rfl)) | (refine sl_congr ?_ ?_ <;> first | (exact T.num) | (first | (with_reducible rfl) | (rw [outA_zero]; rfl) | (rw [outA_succ, ← sh8u j (by omega), List.map_append, List.map_cons, bAV_b8]; rfl) | (rw [tkN_zero, w5]; rfl) | (rw [tkN_succ]) | rfl)) | (first | (with_reducible rfl) | (rw [outA_zero]; rfl) | (rw [outA_succ, ← sh8u j (by omega), List.map_append, List.map_cons, bAV_b8]; rfl) | (rw [tkN_zero, w5]; rfl) | (rw [tkN_succ]) | rfl))) | (exact T.num) | (dsimp only; (exact T.num)) | (first | (with_reducible rfl) | (rw [outA_zero]; rfl) | (rw [outA_succ, ← sh8u j (by omega), List.map_append, List.map_cons, bAV_b8]; rfl) | (rw [tkN_zero, w5]; rfl) | (rw [tkN_succ]) | rfl)); done)); (rintro ⟨i, p⟩ hok; ((try dsimp only at hok); repeat (have hk := And.left hok; replace hok := And.right hok)); refine AtL.step tyOk ?_; conv => whnf)) | (apply SWpL.loopC 17 (S := Nat × Nm) [10] (fun zz => match zz with | (j, q) => [(11, .vw q 0 j 1), (12, .int .i64 j)]) (fun zz => match zz with | (j, q) => [(q, ⟨5, (outA (tagV t) j).map bAV⟩)]) (fun zz => match zz with | (j, q) => j ≤ 8) (fun zz => match zz with | (j, q) => 8 - j) ((0, _)) (by rfl); (focus ((repeat' first | exact trivial | (refine And.intro ?_ ?_) | exact LSub.nil | (with_reducible exact LSub.refl) | (apply LSub.cons; ((try show LHas _ _ _); repeat (with_reducible show LHas _ _ _); first | apply LHas.here | apply LHas.next); refine And.intro ?_ ?_; (focus (try (first | (with_reducible rfl) | (refine congrArg (Pl.mk _) ?_; (first | (with_reducible rfl) | (rw [outA_zero]; rfl) | (rw [outA_succ, ← sh8u j (by omega), List.map_append, List.map_cons, bAV_b8]; rfl) | (rw [tkN_zero, w5]; rfl) | (rw [tkN_succ]) | rfl)) | rfl | (with_reducible refine congrArg (Pl.mk _) ?_))))) | assumption | (first | rfl | ((conv => lhs; whnf); first | rfl | (refine congrArg (AV.int _) ?_; (exact T.num)) | (refine congrArg AV.bool ?_; (exact T.num)) | (refine vw_congr ?_; first | (exact T.num) | (first | (with_reducible rfl) | (rw [outA_zero]; rfl) | (rw [outA_succ, ← sh8u j (by omega), List.map_append, List.map_cons, bAV_b8]; rfl) | (rw [tkN_zero, w5]; rfl) | (rw [tkN_succ]) | rfl)) | (refine sl_congr ?_ ?_ <;> first | (exact T.num) | (first | (with_reducible rfl) | (rw [outA_zero]; rfl) | (rw [outA_succ, ← sh8u j (by omega), List.map_append, List.map_cons, bAV_b8]; rfl) | (rw [tkN_zero, w5]; rfl) | (rw [tkN_succ]) | rfl)) | (first | (with_reducible rfl) | (rw [outA_zero]; rfl) | (rw [outA_succ, ← sh8u j (by omega), List.map_append, List.map_cons, bAV_b8]; rfl) | (rw [tkN_zero, w5]; rfl) | (rw [tkN_succ]) | rfl))) | (exact T.num) | (dsimp only; (exact T.num)) | (first | (with_reducible rfl) | (rw [outA_zero]; rfl) | (rw [outA_succ, ← sh8u j (by omega), List.map_append, List.map_cons, bAV_b8]; rfl) | (rw [tkN_zero, w5]; rfl) | (rw [tkN_succ]) | rfl)); done)); (rintro ⟨j, q⟩ hok; ((try dsimp only at hok); repeat (have hk := And.left hok; replace hok := And.right hok)); refine AtL.step tyOk ?_; conv => whnf)) | (apply SWpL.draw tyOk mixed (id := 5) [[], [0], [1, 0], [], [3], [4, 3, 2, 1, 0], [2, 1, 0, 5, 4, 3], [5, 4, 3, 2, 1, 0, 6]] [] [0, 1, 3, 4, 2, 5, 6, 7] [] (by kernel_rfl); conv => whnf) | (apply SWpL.draw tyOk mixed (id := 14) [[], [0], [1, 0], [2, 1, 0], [], [4], [5, 4], [6, 5, 4], [3, 2, 1, 0, 7, 6, 5, 4], [], [9], [10, 9], [11, 10, 9], [8, 3, 2, 1, 0, 7, 6, 5, 4, 12, 11, 10, 9], [], [14], [15, 14], [16, 15, 14], [13, 8, 3, 2, 1, 0, 7, 6, 5, 4, 12, 11, 10, 9, 17, 16, 15, 14], [18, 13, 8, 3, 2, 1, 0, 7, 6, 5, 4, 12, 11, 10, 9, 17, 16, 15, 14]] [] [0, 1, 2, 3, 4, 5, 6, 7, 8, 9, 10, 11, 12, 13, 14, 15, 16, 17, 18, 19] [] (by kernel_rfl); conv => whnf))
      | (show AtL _ _ _ _ _ _ _ _ _ _; first | (apply AtL.mk' (id := 8) (S := Nat × Nm) ((i + 1, _)); (repeat' first | exact trivial | (refine And.intro ?_ ?_) | exact LSub.nil | (with_reducible exact LSub.refl) | (apply LSub.cons; ((try show LHas _ _ _); repeat (with_reducible show LHas _ _ _); first | apply LHas.here | apply LHas.next); refine And.intro ?_ ?_; (focus (try (first | (with_reducible rfl) | (refine congrArg (Pl.mk _) ?_; (first | (with_reducible rfl) | (rw [outA_zero]; rfl) | (rw [outA_succ, ← sh8u j (by omega), List.map_append, List.map_cons, bAV_b8]; rfl) | (rw [tkN_zero, w5]; rfl) | (rw [tkN_succ]) | rfl)) | rfl | (with_reducible refine congrArg (Pl.mk _) ?_))))) | assumption | (first | rfl | ((conv => lhs; whnf); first | rfl | (refine congrArg (AV.int _) ?_; (exact T.num)) | (refine congrArg AV.bool ?_; (exact T.num)) | (refine vw_congr ?_; first | (exact T.num) | (first | (with_reducible rfl) | (rw [outA_zero]; rfl) | (rw [outA_succ, ← sh8u j (by omega), List.map_append, List.map_cons, bAV_b8]; rfl) | (rw [tkN_zero, w5]; rfl) | (rw [tkN_succ]) | rfl)) | (refine sl_congr ?_ ?_ <;> first | (exact T.num) | (first | (with_reducible rfl) | (rw [outA_zero]; rfl) | (rw [outA_succ, ← sh8u j (by omega), List.map_append, List.map_cons, bAV_b8]; rfl) | (rw [tkN_zero, w5]; rfl) | (rw [tkN_succ]) | rfl)) | (first | (with_reducible rfl) | (rw [outA_zero]; rfl) | (rw [outA_succ, ← sh8u j (by omega), List.map_append, List.map_cons, bAV_b8]; rfl) | (rw [tkN_zero, w5]; rfl) | (rw [tkN_succ]) | rfl))) | (exact T.num) | (dsimp only; (exact T.num)) | (first | (with_reducible rfl) | (rw [outA_zero]; rfl) | (rw [outA_succ, ← sh8u j (by omega), List.map_append, List.map_cons, bAV_b8]; rfl) | (rw [tkN_zero, w5]; rfl) | (rw [tkN_succ]) | rfl)); done) | (apply AtL.mk' (id := 17) (S := Nat × Nm) ((j + 1, _)); (repeat' first | exact trivial | (refine And.intro ?_ ?_) | exact LSub.nil | (with_reducible exact LSub.refl) | (apply LSub.cons; ((try show LHas _ _ _); repeat (with_reducible show LHas _ _ _); first | apply LHas.here | apply LHas.next); refine And.intro ?_ ?_; (focus (try (first | (with_reducible rfl) | (refine congrArg (Pl.mk _) ?_; (first | (with_reducible rfl) | (rw [outA_zero]; rfl) | (rw [outA_succ, ← sh8u j (by omega), List.map_append, List.map_cons, bAV_b8]; rfl) | (rw [tkN_zero, w5]; rfl) | (rw [tkN_succ]) | rfl)) | rfl | (with_reducible refine congrArg (Pl.mk _) ?_))))) | assumption | (first | rfl | ((conv => lhs; whnf); first | rfl | (refine congrArg (AV.int _) ?_; (exact T.num)) | (refine congrArg AV.bool ?_; (exact T.num)) | (refine vw_congr ?_; first | (exact T.num) | (first | (with_reducible rfl) | (rw [outA_zero]; rfl) | (rw [outA_succ, ← sh8u j (by omega), List.map_append, List.map_cons, bAV_b8]; rfl) | (rw [tkN_zero, w5]; rfl) | (rw [tkN_succ]) | rfl)) | (refine sl_congr ?_ ?_ <;> first | (exact T.num) | (first | (with_reducible rfl) | (rw [outA_zero]; rfl) | (rw [outA_succ, ← sh8u j (by omega), List.map_append, List.map_cons, bAV_b8]; rfl) | (rw [tkN_zero, w5]; rfl) | (rw [tkN_succ]) | rfl)) | (first | (with_reducible rfl) | (rw [outA_zero]; rfl) | (rw [outA_succ, ← sh8u j (by omega), List.map_append, List.map_cons, bAV_b8]; rfl) | (rw [tkN_zero, w5]; rfl) | (rw [tkN_succ]) | rfl))) | (exact T.num) | (dsimp only; (exact T.num)) | (first | (with_reducible rfl) | (rw [outA_zero]; rfl) | (rw [outA_succ, ← sh8u j (by omega), List.map_append, List.map_cons, bAV_b8]; rfl) | (rw [tkN_zero, w5]; rfl) | (rw [tkN_succ]) | rfl)); done) | (apply AtL.mk' (id := 8) (S := Nat × Nm) ((i + 1, _)); (repeat' first | exact trivial | (refine And.intro ?_ ?_) | exact LSub.nil | (with_reducible exact LSub.refl) | (apply LSub.cons; ((try show LHas _ _ _); repeat (with_reducible show LHas _ _ _); first | apply LHas.here | apply LHas.next); refine And.intro ?_ ?_; (focus (try (first | (with_reducible rfl) | (refine congrArg (Pl.mk _) ?_; (first | (with_reducible rfl) | (rw [outA_zero]; rfl) | (rw [outA_succ, ← sh8u j (by omega), List.map_append, List.map_cons, bAV_b8]; rfl) | (rw [tkN_zero, w5]; rfl) | (rw [tkN_succ]) | rfl)) | rfl | (with_reducible refine congrArg (Pl.mk _) ?_))))) | assumption | (first | rfl | ((conv => lhs; whnf); first | rfl | (refine congrArg (AV.int _) ?_; (exact T.num)) | (refine congrArg AV.bool ?_; (exact T.num)) | (refine vw_congr ?_; first | (exact T.num) | (first | (with_reducible rfl) | (rw [outA_zero]; rfl) | (rw [outA_succ, ← sh8u j (by omega), List.map_append, List.map_cons, bAV_b8]; rfl) | (rw [tkN_zero, w5]; rfl) | (rw [tkN_succ]) | rfl)) | (refine sl_congr ?_ ?_ <;> first | (exact T.num) | (first | (with_reducible rfl) | (rw [outA_zero]; rfl) | (rw [outA_succ, ← sh8u j (by omega), List.map_append, List.map_cons, bAV_b8]; rfl) | (rw [tkN_zero, w5]; rfl) | (rw [tkN_succ]) | rfl)) | (first | (with_reducible rfl) | (rw [outA_zero]; rfl) | (rw [outA_succ, ← sh8u j (by omega), List.map_append, List.map_cons, bAV_b8]; rfl) | (rw [tkN_zero, w5]; rfl) | (rw [tkN_succ]) | rfl))) | (exact T.num) | (dsimp only; (exact T.num)) | (first | (with_reducible rfl) | (rw [outA_zero]; rfl) | (rw [outA_succ, ← sh8u j (by omega), List.map_append, List.map_cons, bAV_b8]; rfl) | (rw [tkN_zero, w5]; rfl) | (rw [tkN_succ]) | rfl))) | (apply AtL.mk' (id := 17) (S := Nat × Nm) ((j + 1, _)); (repeat' first | exact trivial | (refine And.intro ?_ ?_) | exact LSub.nil | (with_reducible exact LSub.refl) | (apply LSub.cons; ((try show LHas _ _ _); repeat (with_reducible show LHas _ _ _); first | apply LHas.here | apply LHas.next); refine And.intro ?_ ?_; (focus (try (first | (with_reducible rfl) | (refine congrArg (Pl.mk _) ?_; (first | (with_reducible rfl) | (rw [outA_zero]; rfl) | (rw [outA_succ, ← sh8u j (by omega), List.map_append, List.map_cons, bAV_b8]; rfl) | (rw [tkN_zero, w5]; rfl) | (rw [tkN_succ]) | rfl)) | rfl | (with_reducible refine congrArg (Pl.mk _) ?_))))) | assumption | (first | rfl | ((conv => lhs; whnf); first | rfl | (refine congrArg (AV.int _) ?_; (exact T.num)) | (refine congrArg AV.bool ?_; (exact T.num)) | (refine vw_congr ?_; first | (exact T.num) | (first | (with_reducible rfl) | (rw [outA_zero]; rfl) | (rw [outA_succ, ← sh8u j (by omega), List.map_append, List.map_cons, bAV_b8]; rfl) | (rw [tkN_zero, w5]; rfl) | (rw [tkN_succ]) | rfl)) | (refine sl_congr ?_ ?_ <;> first | (exact T.num) | (first | (with_reducible rfl) | (rw [outA_zero]; rfl) | (rw [outA_succ, ← sh8u j (by omega), List.map_append, List.map_cons, bAV_b8]; rfl) | (rw [tkN_zero, w5]; rfl) | (rw [tkN_succ]) | rfl)) | (first | (with_reducible rfl) | (rw [outA_zero]; rfl) | (rw [outA_succ, ← sh8u j (by omega), List.map_append, List.map_cons, bAV_b8]; rfl) | (rw [tkN_zero, w5]; rfl) | (rw [tkN_succ]) | rfl))) | (exact T.num) | (dsimp only; (exact T.num)) | (first | (with_reducible rfl) | (rw [outA_zero]; rfl) | (rw [outA_succ, ← sh8u j (by omega), List.map_append, List.map_cons, bAV_b8]; rfl) | (rw [tkN_zero, w5]; rfl) | (rw [tkN_succ]) | rfl))))
      | (show KeepL _ _ _; first | (refine KeepL.cons ?_; ((try show LHas _ _ _); repeat (with_reducible show LHas _ _ _); first | apply LHas.here | apply LHas.next); ((try show LHas _ _ _); repeat (with_reducible show LHas _ _ _); first | apply LHas.here | apply LHas.next); refine And.intro rfl ?_) | exact KeepL.nil)
      | (show InL _ _; first | exact InL.here | refine InL.next ?_)
      | (refine dec_yes ?_ ?_; (focus (first | exact .inl rfl | (exact T.num))); conv => whnf)
      | (refine dec_no ?_ ?_; (focus (exact T.num)); conv => whnf)
      | (refine dec_both (fun h => ?_) (fun h => ?_) <;> conv => whnf)
      | (show False; (exact T.num))
      | exact Nm.b 0
      | (refine ⟨_, rfl, rfl, ?_⟩; conv => whnf)
    all_goals (try dsimp only)
    have hj : j = 8 := by omega
    subst hj
    refine RetL.frz [q] (LF.tup ⟨LF.rowF InL.here ?_, LF.eq rfl, trivial⟩) ?_
    · apply LHas.here
      exact ⟨by rw [outA_end], by simp⟩
    · apply LHas.here
      exact LSub.nil
  have h := key2 _ rfl _ rfl
  unfold tagL endS
  rw [hw]
  exact h

/-- What Short returns. -/
def shortR (key l : List UInt8) : List UInt8 × Int := if key.length = 16 then (if l.length ≤ 4096 then ((tagL key l).take 4, 0) else ([], 2)) else ([], 9)
theorem short_c (key l : List UInt8) : LSpec Tryd.prog G 69 [bv key, bv l] [] (fun _ => (be (shortR key l), [])) := by
  unfold shortR
  by_cases hk : key.length = 16
  by_cases h2 : l.length ≤ 4096
  · rw [if_pos hk, if_pos h2]
    refine LSpec.introL tyOk Tryd.func69 rfl (by kernel_rfl) (by simp) (fun q => ⟨by simp, by simp⟩) ?_
    refine AWpL.sound tyOk _ _ _ _ ?_
    conv => whnf
    repeat' first
      | (show LHas _ _ _; ((try show LHas _ _ _); repeat (with_reducible show LHas _ _ _); first | apply LHas.here | apply LHas.next); conv => whnf)
      | (refine And.intro ?_ ?_; (focus (first | (simp; done) | (simp; omega) | exact T.side)); conv => whnf)
      | (show LCall _ _ _ _ _ _; first | (refine LCall.pure (sum_ok key l hk h2) ?_; conv => whnf) | (apply LCall.eq; (focus (repeat first | (apply cons_congr; (focus (first | exact sl_bv rfl | exact sl_bv (by first | (simp; done) | (simp; (exact T.num))) | exact rfl))) | exact rfl)); first | (refine LCall.pure (sum_ok key l hk h2) ?_; conv => whnf)))
      | (show ABr _ _ _; first | (refine ABr.tt ?_; conv => whnf) | (refine ABr.ff ?_; conv => whnf) | (refine ABr.byN ?_) | ((with_reducible refine ABr.neqT (by assumption) ?_); conv => whnf) | ((with_reducible refine ABr.neqF (by assumption) ?_); conv => whnf) | ((with_reducible refine ABr.neq (fun h => ?_) (fun h => ?_)) <;> first | (exfalso; omega) | conv => whnf) | (refine ABr.byT (by with_reducible assumption) ?_; conv => whnf) | (refine ABr.byF (by with_reducible assumption) ?_; conv => whnf) | ((with_reducible refine ABr.decT rfl ?_); conv => whnf) | ((with_reducible refine ABr.decT (by assumption) ?_); conv => whnf) | ((with_reducible refine ABr.decF (by assumption) ?_); conv => whnf) | (refine ABr.dec (fun h => ?_) (fun h => ?_) <;> first | (exfalso; omega) | conv => whnf) | (refine ABr.gen (fun h => ?_) (fun h => ?_) <;> conv => whnf))
      | (show ACell _ _ _; first | (refine ACell.cell 0 ?_ ?_; (focus (first | exact T.side)); conv => whnf) | (refine ACell.mk ?_; conv => whnf))
      | (show AList _ _; first | (refine AList.headE 4 ?_ ?_ ?_; (focus rfl); (focus rfl); conv => whnf) | (refine AList.app ?_ ?_; (focus (first | exact T.side)); conv => whnf) | (refine AList.set (x := b8 _) (bAV_b8 _).symm ?_ ?_; (focus (first | exact T.side)); conv => whnf) | (refine AList.set (f := iAV) rfl ?_ ?_; (focus (first | exact T.side)); conv => whnf) | (refine AList.part ?_; conv => whnf) | (refine AList.force ?_; (conv => whnf); refine Lit.mk ?_; conv => whnf) | (refine AList.full ?_ ?_; (focus (first | exact Nat.le_of_ble_eq_true rfl | (simp; done) | (simp; omega))); conv => whnf) | (refine AList.mk ?_; conv => whnf))
      | (refine LFresh.mk fun r => ?_; conv => whnf)
      | (show KeepL _ _ _; first | (refine KeepL.cons ?_; ((try show LHas _ _ _); repeat (with_reducible show LHas _ _ _); first | apply LHas.here | apply LHas.next); ((try show LHas _ _ _); repeat (with_reducible show LHas _ _ _); first | apply LHas.here | apply LHas.next); refine And.intro rfl ?_) | exact KeepL.nil)
      | (show InL _ _; first | exact InL.here | refine InL.next ?_)
      | (refine dec_yes ?_ ?_; (focus (first | exact .inl rfl | (exact T.num))); conv => whnf)
      | (refine dec_no ?_ ?_; (focus (exact T.num)); conv => whnf)
      | (refine dec_both (fun h => ?_) (fun h => ?_) <;> conv => whnf)
      | (show False; (exact T.num))
    all_goals (try dsimp only)
    (refine RetL.val ?_ ?_; rotate_left; (focus ((repeat' first | exact LSub.nil | (with_reducible exact LSub.refl) | (apply LSub.cons; ((try show LHas _ _ _); repeat (with_reducible show LHas _ _ _); first | apply LHas.here | apply LHas.next); refine And.intro ?_ ?_; (focus (try (first | (with_reducible rfl) | (refine congrArg (Pl.mk _) ?_; (first | rfl | (simp; done))) | rfl | (with_reducible refine congrArg (Pl.mk _) ?_)))))))))
    simp [be, bv, iAV]
  · rw [if_pos hk, if_neg h2]
    refine LSpec.introL tyOk Tryd.func69 rfl (by kernel_rfl) (by simp) (fun q => ⟨by simp, by simp⟩) ?_
    refine AWpL.sound tyOk _ _ _ _ ?_
    conv => whnf
    repeat' first
      | (show LHas _ _ _; ((try show LHas _ _ _); repeat (with_reducible show LHas _ _ _); first | apply LHas.here | apply LHas.next); conv => whnf)
      | (refine And.intro ?_ ?_; (focus (first | exact T.side)); conv => whnf)
      | (show LCall _ _ _ _ _ _; first | (refine LCall.pure (sum_size key l hk (by omega)) ?_; conv => whnf) | (apply LCall.eq; (focus (repeat first | (apply cons_congr; (focus (first | exact sl_bv rfl | exact sl_bv (by first | (simp; done) | (simp; (exact T.num))) | exact rfl))) | exact rfl)); first | (refine LCall.pure (sum_size key l hk (by omega)) ?_; conv => whnf)))
      | (show ABr _ _ _; first | (refine ABr.tt ?_; conv => whnf) | (refine ABr.ff ?_; conv => whnf) | (refine ABr.byN ?_) | ((with_reducible refine ABr.neqT (by assumption) ?_); conv => whnf) | ((with_reducible refine ABr.neqF (by assumption) ?_); conv => whnf) | ((with_reducible refine ABr.neq (fun h => ?_) (fun h => ?_)) <;> first | (exfalso; omega) | conv => whnf) | (refine ABr.byT (by with_reducible assumption) ?_; conv => whnf) | (refine ABr.byF (by with_reducible assumption) ?_; conv => whnf) | ((with_reducible refine ABr.decT rfl ?_); conv => whnf) | ((with_reducible refine ABr.decT (by assumption) ?_); conv => whnf) | ((with_reducible refine ABr.decF (by assumption) ?_); conv => whnf) | (refine ABr.dec (fun h => ?_) (fun h => ?_) <;> first | (exfalso; omega) | conv => whnf) | (refine ABr.gen (fun h => ?_) (fun h => ?_) <;> conv => whnf))
      | (show ACell _ _ _; first | (refine ACell.cell 0 ?_ ?_; (focus (first | exact T.side)); conv => whnf) | (refine ACell.mk ?_; conv => whnf))
      | (show AList _ _; first | (refine AList.app ?_ ?_; (focus (first | exact T.side)); conv => whnf) | (refine AList.set (x := b8 _) (bAV_b8 _).symm ?_ ?_; (focus (first | exact T.side)); conv => whnf) | (refine AList.set (f := iAV) rfl ?_ ?_; (focus (first | exact T.side)); conv => whnf) | (refine AList.part ?_; conv => whnf) | (refine AList.force ?_; (conv => whnf); refine Lit.mk ?_; conv => whnf) | (refine AList.full ?_ ?_; (focus (first | exact Nat.le_of_ble_eq_true rfl | (simp; done) | (simp; omega))); conv => whnf) | (refine AList.mk ?_; conv => whnf))
      | (refine LFresh.mk fun r => ?_; conv => whnf)
      | (show KeepL _ _ _; first | (refine KeepL.cons ?_; ((try show LHas _ _ _); repeat (with_reducible show LHas _ _ _); first | apply LHas.here | apply LHas.next); ((try show LHas _ _ _); repeat (with_reducible show LHas _ _ _); first | apply LHas.here | apply LHas.next); refine And.intro rfl ?_) | exact KeepL.nil)
      | (show InL _ _; first | exact InL.here | refine InL.next ?_)
      | (refine dec_yes ?_ ?_; (focus (first | exact .inl rfl | (exact T.num))); conv => whnf)
      | (refine dec_no ?_ ?_; (focus (exact T.num)); conv => whnf)
      | (refine dec_both (fun h => ?_) (fun h => ?_) <;> conv => whnf)
      | (show False; (exact T.num))
    all_goals (try dsimp only)
    exact RetL.frz [] (LF.tup ⟨LF.nils rfl rfl, LF.eq rfl, trivial⟩) LSub.nil
  · rw [if_neg hk]
    refine LSpec.introL tyOk Tryd.func69 rfl (by kernel_rfl) (by simp) (fun q => ⟨by simp, by simp⟩) ?_
    refine AWpL.sound tyOk _ _ _ _ ?_
    conv => whnf
    repeat' first
      | (show LHas _ _ _; ((try show LHas _ _ _); repeat (with_reducible show LHas _ _ _); first | apply LHas.here | apply LHas.next); conv => whnf)
      | (refine And.intro ?_ ?_; (focus (first | exact T.side)); conv => whnf)
      | (show LCall _ _ _ _ _ _; first | (refine LCall.pure (sum_key key l hk) ?_; conv => whnf) | (apply LCall.eq; (focus (repeat first | (apply cons_congr; (focus (first | exact sl_bv rfl | exact sl_bv (by first | (simp; done) | (simp; (exact T.num))) | exact rfl))) | exact rfl)); first | (refine LCall.pure (sum_key key l hk) ?_; conv => whnf)))
      | (show ABr _ _ _; first | (refine ABr.tt ?_; conv => whnf) | (refine ABr.ff ?_; conv => whnf) | (refine ABr.byN ?_) | ((with_reducible refine ABr.neqT (by assumption) ?_); conv => whnf) | ((with_reducible refine ABr.neqF (by assumption) ?_); conv => whnf) | ((with_reducible refine ABr.neq (fun h => ?_) (fun h => ?_)) <;> first | (exfalso; omega) | conv => whnf) | (refine ABr.byT (by with_reducible assumption) ?_; conv => whnf) | (refine ABr.byF (by with_reducible assumption) ?_; conv => whnf) | ((with_reducible refine ABr.decT rfl ?_); conv => whnf) | ((with_reducible refine ABr.decT (by assumption) ?_); conv => whnf) | ((with_reducible refine ABr.decF (by assumption) ?_); conv => whnf) | (refine ABr.dec (fun h => ?_) (fun h => ?_) <;> first | (exfalso; omega) | conv => whnf) | (refine ABr.gen (fun h => ?_) (fun h => ?_) <;> conv => whnf))
      | (show ACell _ _ _; first | (refine ACell.cell 0 ?_ ?_; (focus (first | exact T.side)); conv => whnf) | (refine ACell.mk ?_; conv => whnf))
      | (show AList _ _; first | (refine AList.app ?_ ?_; (focus (first | exact T.side)); conv => whnf) | (refine AList.set (x := b8 _) (bAV_b8 _).symm ?_ ?_; (focus (first | exact T.side)); conv => whnf) | (refine AList.set (f := iAV) rfl ?_ ?_; (focus (first | exact T.side)); conv => whnf) | (refine AList.part ?_; conv => whnf) | (refine AList.force ?_; (conv => whnf); refine Lit.mk ?_; conv => whnf) | (refine AList.full ?_ ?_; (focus (first | exact Nat.le_of_ble_eq_true rfl | (simp; done) | (simp; omega))); conv => whnf) | (refine AList.mk ?_; conv => whnf))
      | (refine LFresh.mk fun r => ?_; conv => whnf)
      | (show KeepL _ _ _; first | (refine KeepL.cons ?_; ((try show LHas _ _ _); repeat (with_reducible show LHas _ _ _); first | apply LHas.here | apply LHas.next); ((try show LHas _ _ _); repeat (with_reducible show LHas _ _ _); first | apply LHas.here | apply LHas.next); refine And.intro rfl ?_) | exact KeepL.nil)
      | (show InL _ _; first | exact InL.here | refine InL.next ?_)
      | (refine dec_yes ?_ ?_; (focus (first | exact .inl rfl | (exact T.num))); conv => whnf)
      | (refine dec_no ?_ ?_; (focus (exact T.num)); conv => whnf)
      | (refine dec_both (fun h => ?_) (fun h => ?_) <;> conv => whnf)
      | (show False; (exact T.num))
    all_goals (try dsimp only)
    exact RetL.frz [] (LF.tup ⟨LF.nils rfl rfl, LF.eq rfl, trivial⟩) LSub.nil
theorem rshort_c (key l : List UInt8) : LSpec Tryd.prog G 62 [bv key, bv l] [] (fun _ => (be (shortR key l), [])) := by
  unfold shortR
  by_cases hk : key.length = 16
  by_cases h2 : l.length ≤ 4096
  · rw [if_pos hk, if_pos h2]
    refine LSpec.introL tyOk Tryd.func62 rfl (by kernel_rfl) (by simp) (fun q => ⟨by simp, by simp⟩) ?_
    refine AWpL.sound tyOk _ _ _ _ ?_
    conv => whnf
    repeat' first
      | (show LHas _ _ _; ((try show LHas _ _ _); repeat (with_reducible show LHas _ _ _); first | apply LHas.here | apply LHas.next); conv => whnf)
      | (refine And.intro ?_ ?_; (focus (first | (simp; done) | (simp; omega) | exact T.side)); conv => whnf)
      | (show LCall _ _ _ _ _ _; first | (refine LCall.pure (rsum_ok key l hk h2) ?_; conv => whnf) | (apply LCall.eq; (focus (repeat first | (apply cons_congr; (focus (first | exact sl_bv rfl | exact sl_bv (by first | (simp; done) | (simp; (exact T.num))) | exact rfl))) | exact rfl)); first | (refine LCall.pure (rsum_ok key l hk h2) ?_; conv => whnf)))
      | (show ABr _ _ _; first | (refine ABr.tt ?_; conv => whnf) | (refine ABr.ff ?_; conv => whnf) | (refine ABr.byN ?_) | ((with_reducible refine ABr.neqT (by assumption) ?_); conv => whnf) | ((with_reducible refine ABr.neqF (by assumption) ?_); conv => whnf) | ((with_reducible refine ABr.neq (fun h => ?_) (fun h => ?_)) <;> first | (exfalso; omega) | conv => whnf) | (refine ABr.byT (by with_reducible assumption) ?_; conv => whnf) | (refine ABr.byF (by with_reducible assumption) ?_; conv => whnf) | ((with_reducible refine ABr.decT rfl ?_); conv => whnf) | ((with_reducible refine ABr.decT (by assumption) ?_); conv => whnf) | ((with_reducible refine ABr.decF (by assumption) ?_); conv => whnf) | (refine ABr.dec (fun h => ?_) (fun h => ?_) <;> first | (exfalso; omega) | conv => whnf) | (refine ABr.gen (fun h => ?_) (fun h => ?_) <;> conv => whnf))
      | (show ACell _ _ _; first | (refine ACell.cell 0 ?_ ?_; (focus (first | exact T.side)); conv => whnf) | (refine ACell.mk ?_; conv => whnf))
      | (show AList _ _; first | (refine AList.headE 4 ?_ ?_ ?_; (focus rfl); (focus rfl); conv => whnf) | (refine AList.app ?_ ?_; (focus (first | exact T.side)); conv => whnf) | (refine AList.set (x := b8 _) (bAV_b8 _).symm ?_ ?_; (focus (first | exact T.side)); conv => whnf) | (refine AList.set (f := iAV) rfl ?_ ?_; (focus (first | exact T.side)); conv => whnf) | (refine AList.part ?_; conv => whnf) | (refine AList.force ?_; (conv => whnf); refine Lit.mk ?_; conv => whnf) | (refine AList.full ?_ ?_; (focus (first | exact Nat.le_of_ble_eq_true rfl | (simp; done) | (simp; omega))); conv => whnf) | (refine AList.mk ?_; conv => whnf))
      | (refine LFresh.mk fun r => ?_; conv => whnf)
      | (show KeepL _ _ _; first | (refine KeepL.cons ?_; ((try show LHas _ _ _); repeat (with_reducible show LHas _ _ _); first | apply LHas.here | apply LHas.next); ((try show LHas _ _ _); repeat (with_reducible show LHas _ _ _); first | apply LHas.here | apply LHas.next); refine And.intro rfl ?_) | exact KeepL.nil)
      | (show InL _ _; first | exact InL.here | refine InL.next ?_)
      | (refine dec_yes ?_ ?_; (focus (first | exact .inl rfl | (exact T.num))); conv => whnf)
      | (refine dec_no ?_ ?_; (focus (exact T.num)); conv => whnf)
      | (refine dec_both (fun h => ?_) (fun h => ?_) <;> conv => whnf)
      | (show False; (exact T.num))
    all_goals (try dsimp only)
    (refine RetL.val ?_ ?_; rotate_left; (focus ((repeat' first | exact LSub.nil | (with_reducible exact LSub.refl) | (apply LSub.cons; ((try show LHas _ _ _); repeat (with_reducible show LHas _ _ _); first | apply LHas.here | apply LHas.next); refine And.intro ?_ ?_; (focus (try (first | (with_reducible rfl) | (refine congrArg (Pl.mk _) ?_; (first | rfl | (simp; done))) | rfl | (with_reducible refine congrArg (Pl.mk _) ?_)))))))))
    simp [be, bv, iAV]
  · rw [if_pos hk, if_neg h2]
    refine LSpec.introL tyOk Tryd.func62 rfl (by kernel_rfl) (by simp) (fun q => ⟨by simp, by simp⟩) ?_
    refine AWpL.sound tyOk _ _ _ _ ?_
    conv => whnf
    repeat' first
      | (show LHas _ _ _; ((try show LHas _ _ _); repeat (with_reducible show LHas _ _ _); first | apply LHas.here | apply LHas.next); conv => whnf)
      | (refine And.intro ?_ ?_; (focus (first | exact T.side)); conv => whnf)
      | (show LCall _ _ _ _ _ _; first | (refine LCall.pure (rsum_size key l hk (by omega)) ?_; conv => whnf) | (apply LCall.eq; (focus (repeat first | (apply cons_congr; (focus (first | exact sl_bv rfl | exact sl_bv (by first | (simp; done) | (simp; (exact T.num))) | exact rfl))) | exact rfl)); first | (refine LCall.pure (rsum_size key l hk (by omega)) ?_; conv => whnf)))
      | (show ABr _ _ _; first | (refine ABr.tt ?_; conv => whnf) | (refine ABr.ff ?_; conv => whnf) | (refine ABr.byN ?_) | ((with_reducible refine ABr.neqT (by assumption) ?_); conv => whnf) | ((with_reducible refine ABr.neqF (by assumption) ?_); conv => whnf) | ((with_reducible refine ABr.neq (fun h => ?_) (fun h => ?_)) <;> first | (exfalso; omega) | conv => whnf) | (refine ABr.byT (by with_reducible assumption) ?_; conv => whnf) | (refine ABr.byF (by with_reducible assumption) ?_; conv => whnf) | ((with_reducible refine ABr.decT rfl ?_); conv => whnf) | ((with_reducible refine ABr.decT (by assumption) ?_); conv => whnf) | ((with_reducible refine ABr.decF (by assumption) ?_); conv => whnf) | (refine ABr.dec (fun h => ?_) (fun h => ?_) <;> first | (exfalso; omega) | conv => whnf) | (refine ABr.gen (fun h => ?_) (fun h => ?_) <;> conv => whnf))
      | (show ACell _ _ _; first | (refine ACell.cell 0 ?_ ?_; (focus (first | exact T.side)); conv => whnf) | (refine ACell.mk ?_; conv => whnf))
      | (show AList _ _; first | (refine AList.app ?_ ?_; (focus (first | exact T.side)); conv => whnf) | (refine AList.set (x := b8 _) (bAV_b8 _).symm ?_ ?_; (focus (first | exact T.side)); conv => whnf) | (refine AList.set (f := iAV) rfl ?_ ?_; (focus (first | exact T.side)); conv => whnf) | (refine AList.part ?_; conv => whnf) | (refine AList.force ?_; (conv => whnf); refine Lit.mk ?_; conv => whnf) | (refine AList.full ?_ ?_; (focus (first | exact Nat.le_of_ble_eq_true rfl | (simp; done) | (simp; omega))); conv => whnf) | (refine AList.mk ?_; conv => whnf))
      | (refine LFresh.mk fun r => ?_; conv => whnf)
      | (show KeepL _ _ _; first | (refine KeepL.cons ?_; ((try show LHas _ _ _); repeat (with_reducible show LHas _ _ _); first | apply LHas.here | apply LHas.next); ((try show LHas _ _ _); repeat (with_reducible show LHas _ _ _); first | apply LHas.here | apply LHas.next); refine And.intro rfl ?_) | exact KeepL.nil)
      | (show InL _ _; first | exact InL.here | refine InL.next ?_)
      | (refine dec_yes ?_ ?_; (focus (first | exact .inl rfl | (exact T.num))); conv => whnf)
      | (refine dec_no ?_ ?_; (focus (exact T.num)); conv => whnf)
      | (refine dec_both (fun h => ?_) (fun h => ?_) <;> conv => whnf)
      | (show False; (exact T.num))
    all_goals (try dsimp only)
    exact RetL.frz [] (LF.tup ⟨LF.nils rfl rfl, LF.eq rfl, trivial⟩) LSub.nil
  · rw [if_neg hk]
    refine LSpec.introL tyOk Tryd.func62 rfl (by kernel_rfl) (by simp) (fun q => ⟨by simp, by simp⟩) ?_
    refine AWpL.sound tyOk _ _ _ _ ?_
    conv => whnf
    repeat' first
      | (show LHas _ _ _; ((try show LHas _ _ _); repeat (with_reducible show LHas _ _ _); first | apply LHas.here | apply LHas.next); conv => whnf)
      | (refine And.intro ?_ ?_; (focus (first | exact T.side)); conv => whnf)
      | (show LCall _ _ _ _ _ _; first | (refine LCall.pure (rsum_key key l hk) ?_; conv => whnf) | (apply LCall.eq; (focus (repeat first | (apply cons_congr; (focus (first | exact sl_bv rfl | exact sl_bv (by first | (simp; done) | (simp; (exact T.num))) | exact rfl))) | exact rfl)); first | (refine LCall.pure (rsum_key key l hk) ?_; conv => whnf)))
      | (show ABr _ _ _; first | (refine ABr.tt ?_; conv => whnf) | (refine ABr.ff ?_; conv => whnf) | (refine ABr.byN ?_) | ((with_reducible refine ABr.neqT (by assumption) ?_); conv => whnf) | ((with_reducible refine ABr.neqF (by assumption) ?_); conv => whnf) | ((with_reducible refine ABr.neq (fun h => ?_) (fun h => ?_)) <;> first | (exfalso; omega) | conv => whnf) | (refine ABr.byT (by with_reducible assumption) ?_; conv => whnf) | (refine ABr.byF (by with_reducible assumption) ?_; conv => whnf) | ((with_reducible refine ABr.decT rfl ?_); conv => whnf) | ((with_reducible refine ABr.decT (by assumption) ?_); conv => whnf) | ((with_reducible refine ABr.decF (by assumption) ?_); conv => whnf) | (refine ABr.dec (fun h => ?_) (fun h => ?_) <;> first | (exfalso; omega) | conv => whnf) | (refine ABr.gen (fun h => ?_) (fun h => ?_) <;> conv => whnf))
      | (show ACell _ _ _; first | (refine ACell.cell 0 ?_ ?_; (focus (first | exact T.side)); conv => whnf) | (refine ACell.mk ?_; conv => whnf))
      | (show AList _ _; first | (refine AList.app ?_ ?_; (focus (first | exact T.side)); conv => whnf) | (refine AList.set (x := b8 _) (bAV_b8 _).symm ?_ ?_; (focus (first | exact T.side)); conv => whnf) | (refine AList.set (f := iAV) rfl ?_ ?_; (focus (first | exact T.side)); conv => whnf) | (refine AList.part ?_; conv => whnf) | (refine AList.force ?_; (conv => whnf); refine Lit.mk ?_; conv => whnf) | (refine AList.full ?_ ?_; (focus (first | exact Nat.le_of_ble_eq_true rfl | (simp; done) | (simp; omega))); conv => whnf) | (refine AList.mk ?_; conv => whnf))
      | (refine LFresh.mk fun r => ?_; conv => whnf)
      | (show KeepL _ _ _; first | (refine KeepL.cons ?_; ((try show LHas _ _ _); repeat (with_reducible show LHas _ _ _); first | apply LHas.here | apply LHas.next); ((try show LHas _ _ _); repeat (with_reducible show LHas _ _ _); first | apply LHas.here | apply LHas.next); refine And.intro rfl ?_) | exact KeepL.nil)
      | (show InL _ _; first | exact InL.here | refine InL.next ?_)
      | (refine dec_yes ?_ ?_; (focus (first | exact .inl rfl | (exact T.num))); conv => whnf)
      | (refine dec_no ?_ ?_; (focus (exact T.num)); conv => whnf)
      | (refine dec_both (fun h => ?_) (fun h => ?_) <;> conv => whnf)
      | (show False; (exact T.num))
    all_goals (try dsimp only)
    exact RetL.frz [] (LF.tup ⟨LF.nils rfl rfl, LF.eq rfl, trivial⟩) LSub.nil
end Go.Proofs.YtdpfcpkedaolfaaDoor
