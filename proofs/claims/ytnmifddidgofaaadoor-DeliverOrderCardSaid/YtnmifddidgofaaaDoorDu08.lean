/-
  Contracts of the functions that the laws reach.
-/
import Derived.Test.YtnmifddidgofaaaDoorDu01
import Derived.Test.YtnmifddidgofaaaDoorDu02
import Derived.Test.YtnmifddidgofaaaDoorDu03
import Derived.Test.YtnmifddidgofaaaDoorDu04
import Derived.Test.YtnmifddidgofaaaDoorDu05
import Derived.Test.YtnmifddidgofaaaDoorDu06
import Derived.Test.YtnmifddidgofaaaDoorDu07
set_option maxHeartbeats 2000000
set_option linter.all false
namespace Go.Proofs.YtnmifddidgofaaaDoor
open Go.RowKit
variable {G : Nat → AV}
theorem wds_mid (l : List UInt8) (i : Nat) (h : 8 * i + 8 ≤ l.length) : (wds l).getD i 0 = ldN (l.drop (8 * i)) 8 := by
 rw [wds_eq, List.getD_eq_getElem?_getD, List.getElem?_append_left (by simp; omega)]
 have hi : i < l.length / 8 := by omega
 have hw : wholeW l (l.length / 8) = (List.range (l.length / 8)).map fun i => ldN (l.drop (8 * i)) 8 := wholeW_eq _ _
 rw [hw]
 simp [hi]
theorem wds_last (l : List UInt8) : (wds l).getD (l.length / 8) 0 = lastW (l.drop (8 * (l.length / 8))) l.length := by
 rw [wds_eq, List.getD_eq_getElem?_getD, List.getElem?_append_right (by simp)]
 simp
theorem rsum_ok (key l : List UInt8) (hk : key.length = 16) (h2 : l.length ≤ 4096) : LSpec Tryd.prog G 81 [bv key, bv l] [] (fun _ => (be (tagL key l, 0), [])) := by
 have hw : (wds l).length = l.length / 8 + 1 := wds_len l
 have hL := drop8_len l
 have key2 : ∀ (n : Nat), l.length / 8 = n → ∀ t : W4, rndN ⟨(tkN (wds l) (ini key) (n + 1)).a, (tkN (wds l) (ini key) (n + 1)).b, ibits .xor .u64 (tkN (wds l) (ini key) (n + 1)).c 255, (tkN (wds l) (ini key) (n + 1)).d⟩ 4 = t → LSpec Tryd.prog G 81 [bv key, bv l] [] (fun _ => (be (outV (tagV t), 0), [])) := by
   intro n hn t ht
   have hc := fun p => rrounds_c (G := G) ⟨(tkN (wds l) (ini key) (n + 1)).a, (tkN (wds l) (ini key) (n + 1)).b, ibits .xor .u64 (tkN (wds l) (ini key) (n + 1)).c 255, (tkN (wds l) (ini key) (n + 1)).d⟩ 4 (by decide) p
   rw [ht] at hc
   clear ht
   have w1 : LSpec Tryd.prog G 89 [bv (key.take 8)] [] (fun _ => (dAV (ldN key 8), [])) := by
     have := tword_c (G := G) (key.take 8) (by simp; omega)
     rw [show (key.take 8).length = 8 by simp; omega, ldN_take] at this
     exact this
   have w2 : LSpec Tryd.prog G 89 [bv (key.drop 8)] [] (fun _ => (dAV (ldN (key.drop 8) 8), [])) := by
     have := tword_c (G := G) (key.drop 8) (by simp; omega)
     rw [show (key.drop 8).length = 8 by simp; omega] at this
     exact this
   have wi : ∀ i, 8 * i + 8 ≤ l.length → LSpec Tryd.prog G 89 [bv ((l.drop (8 * i)).take 8)] [] (fun _ => (dAV ((wds l).getD i 0), [])) := fun i hi => by
     have := tword_c (G := G) ((l.drop (8 * i)).take 8) (by simp; omega)
     rw [show ((l.drop (8 * i)).take 8).length = 8 by simp; omega, ldN_take, ← wds_mid l i hi] at this
     exact this
   have w3 : ∀ i, i = n → LSpec Tryd.prog G 89 [bv (l.drop (8 * i))] [] (fun _ => (dAV (ldN (l.drop (8 * i)) (l.drop (8 * i)).length), [])) := fun i hi => tword_c _ (by rw [hL]; omega)
   have w4 : ∀ i p, i = n → LSpec Tryd.prog G 90 [.ptr p 0, .int .u64 (ibits .or .u64 (ldN (l.drop (8 * i)) (l.drop (8 * i)).length) (IntKind.u64.wrap (IntKind.u64.wrap ((l.length : Int).tmod 256) * 2 ^ min (Int.toNat 56) 64)))] [(p, ⟨123, (tkN (wds l) (ini key) i).cs⟩)] (fun _ => (.tup [], [(p, ⟨123, (tkN (wds l) (ini key) (i + 1)).cs⟩)])) := fun i p hi => by
     have h := stake_c (G := G) (tkN (wds l) (ini key) i) ((wds l).getD i 0) p
     rw [← tkN_succ] at h
     have e : (wds l).getD i 0 = ibits .or .u64 (ldN (l.drop (8 * i)) (l.drop (8 * i)).length) (IntKind.u64.wrap (IntKind.u64.wrap ((l.length : Int).tmod 256) * 2 ^ min (Int.toNat 56) 64)) := by
       rw [hi, ← hn, wds_last]; rfl
     rw [e] at h
     exact h
   have w5 : ini key = ⟨ibits .xor .u64 (ldN key 8) 8317987319222330741, ibits .xor .u64 (ldN (key.drop 8) 8) 7237128888997146477, ibits .xor .u64 (ldN key 8) 7816392313619706465, ibits .xor .u64 (ldN (key.drop 8) 8) 8387220255154660723⟩ := ini_eq key
   have hn2 : n ≤ 1000 := by omega
   refine goW [] Tryd.func81 rfl ?_
   conv => whnf
   repeat' ((first | (show LCall _ _ 91 _ _ _; have hi : i = n := (by omega); subst hi; refine LCall.upd (hc _) ?_; (repeat first | refine goH ?_ | apply LHas.here | apply LHas.next); refine And.intro rfl ?_; conv => whnf) | exact Nm.b 0 | (refine And.intro ?_ ?_; (focus (first | (rw [List.length_map, hw]; omega) | exact T.kx | exact T.side))) | (show LCall _ _ _ _ _ _; first | refine LCall.pure (w1) ?_ | refine LCall.pure (w2) ?_ | refine LCall.pure (wi i (by omega)) ?_ | refine LCall.pure (w3 i (by omega)) ?_ | (apply LCall.upd (w4 i _ (by omega)); (repeat first | refine goH ?_ | apply LHas.here | apply LHas.next); refine ⟨rfl, ?_⟩) | (apply LCall.upd (stake_c (tkN (wds l) (ini key) i) ((wds l).getD i 0) _); (repeat first | refine goH ?_ | apply LHas.here | apply LHas.next); refine ⟨rfl, ?_⟩) | refine goE ?_) | (show AList _ _; first | (refine AList.headE 8 ?_ ?_ ?_; (focus rfl); (focus rfl)) | (refine AList.eq (tail_e l i) ?_) | (refine AList.tailE 8 ?_ ?_ ?_; (focus rfl); (focus (simp; omega)))) | refine T.s ?_ | ((first | apply goB | apply ABr.dec | apply ABr.gen) <;> intro h <;> try (exfalso; omega)) | refine LFresh.mk fun r => ?_ | (show SWpL _ _ _ (.loop _) _ _ _; first | (apply goO tyOk [] 8 (S := Nat × Nm) [9] (fun (i, p) => ⟨[(1, .sl (l.length - 8 * i) ((l.drop (8 * i)).map bAV)), (8, .ptr p 0)], [(p, ⟨123, (tkN (wds l) (ini key) i).cs⟩)], 8 * i ≤ l.length, l.length - 8 * i⟩) ((0, _)) (by rfl); (focus ((repeat' first | exact trivial | (refine And.intro ?_ ?_) | exact LSub.nil | (with_reducible exact LSub.refl) | (apply LSub.cons; (repeat first | refine goH ?_ | apply LHas.here | apply LHas.next); refine And.intro ?_ ?_; (focus (try (first | (with_reducible rfl) | (refine congrArg (Pl.mk _) ?_; (first | (with_reducible rfl) | (rw [outA_zero]; rfl) | (rw [outA_succ, ← sh8u j (by omega), List.map_append, List.map_cons, bAV_b8]; rfl) | (rw [tkN_zero, w5]; rfl) | (rw [tkN_succ]) | rfl)) | rfl | (with_reducible refine congrArg (Pl.mk _) ?_))))) | assumption | (first | (focus (apply Eq.trans; (conv => lhs; whnf); (conv => rhs; whnf); done)) | rfl | ((conv => lhs; whnf); first | rfl | (refine congrArg (AV.int _) ?_; (exact T.num)) | (refine congrArg AV.bool ?_; (exact T.num)) | (refine vw_congr ?_; first | (exact T.num) | (first | (with_reducible rfl) | (rw [outA_zero]; rfl) | (rw [outA_succ, ← sh8u j (by omega), List.map_append, List.map_cons, bAV_b8]; rfl) | (rw [tkN_zero, w5]; rfl) | (rw [tkN_succ]) | rfl)) | (refine sl_congr ?_ ?_ <;> first | (exact T.num) | (first | (with_reducible rfl) | (rw [outA_zero]; rfl) | (rw [outA_succ, ← sh8u j (by omega), List.map_append, List.map_cons, bAV_b8]; rfl) | (rw [tkN_zero, w5]; rfl) | (rw [tkN_succ]) | rfl)) | (first | (with_reducible rfl) | (rw [outA_zero]; rfl) | (rw [outA_succ, ← sh8u j (by omega), List.map_append, List.map_cons, bAV_b8]; rfl) | (rw [tkN_zero, w5]; rfl) | (rw [tkN_succ]) | rfl))) | (exact T.num) | (dsimp only; (exact T.num)) | (first | (with_reducible rfl) | (rw [outA_zero]; rfl) | (rw [outA_succ, ← sh8u j (by omega), List.map_append, List.map_cons, bAV_b8]; rfl) | (rw [tkN_zero, w5]; rfl) | (rw [tkN_succ]) | rfl)); done)); rintro ⟨i, p⟩ hok; (try dsimp only at hok)) | (apply goO tyOk [] 17 (S := Nat × Nm) [10] (fun (j, q) => ⟨[(11, .vw q 0 j 1), (12, .int .i64 j)], [(q, ⟨5, (outA (tagV t) j).map bAV⟩)], j ≤ 8, 8 - j⟩) ((0, _)) (by rfl); (focus ((repeat' first | exact trivial | (refine And.intro ?_ ?_) | exact LSub.nil | (with_reducible exact LSub.refl) | (apply LSub.cons; (repeat first | refine goH ?_ | apply LHas.here | apply LHas.next); refine And.intro ?_ ?_; (focus (try (first | (with_reducible rfl) | (refine congrArg (Pl.mk _) ?_; (first | (with_reducible rfl) | (rw [outA_zero]; rfl) | (rw [outA_succ, ← sh8u j (by omega), List.map_append, List.map_cons, bAV_b8]; rfl) | (rw [tkN_zero, w5]; rfl) | (rw [tkN_succ]) | rfl)) | rfl | (with_reducible refine congrArg (Pl.mk _) ?_))))) | assumption | (first | (focus (apply Eq.trans; (conv => lhs; whnf); (conv => rhs; whnf); done)) | rfl | ((conv => lhs; whnf); first | rfl | (refine congrArg (AV.int _) ?_; (exact T.num)) | (refine congrArg AV.bool ?_; (exact T.num)) | (refine vw_congr ?_; first | (exact T.num) | (first | (with_reducible rfl) | (rw [outA_zero]; rfl) | (rw [outA_succ, ← sh8u j (by omega), List.map_append, List.map_cons, bAV_b8]; rfl) | (rw [tkN_zero, w5]; rfl) | (rw [tkN_succ]) | rfl)) | (refine sl_congr ?_ ?_ <;> first | (exact T.num) | (first | (with_reducible rfl) | (rw [outA_zero]; rfl) | (rw [outA_succ, ← sh8u j (by omega), List.map_append, List.map_cons, bAV_b8]; rfl) | (rw [tkN_zero, w5]; rfl) | (rw [tkN_succ]) | rfl)) | (first | (with_reducible rfl) | (rw [outA_zero]; rfl) | (rw [outA_succ, ← sh8u j (by omega), List.map_append, List.map_cons, bAV_b8]; rfl) | (rw [tkN_zero, w5]; rfl) | (rw [tkN_succ]) | rfl))) | (exact T.num) | (dsimp only; (exact T.num)) | (first | (with_reducible rfl) | (rw [outA_zero]; rfl) | (rw [outA_succ, ← sh8u j (by omega), List.map_append, List.map_cons, bAV_b8]; rfl) | (rw [tkN_zero, w5]; rfl) | (rw [tkN_succ]) | rfl)); done)); rintro ⟨j, q⟩ hok; (try dsimp only at hok))) | (show SWpL _ _ _ _ _ _ _; first | refine SWpL.adopt 11 1 5 (by rfl) fun q => ?_ | (refine goD tyOk mixed 5 [] [0, 1, 3, 4, 2, 5, 6, 7] [] (by kernel_rfl) ?_) | (refine goD tyOk mixed 14 [] [0, 1, 2, 3, 4, 5, 6, 7, 8, 9, 10, 11, 12, 13, 14, 15, 16, 17, 18, 19] [] (by kernel_rfl) ?_)) | (show AtL _ _ _ _ _ _ _ _ _ _; first | (apply AtL.mk' (id := 8) (S := Nat × Nm) ((i + 1, _)); (repeat' first | exact trivial | (refine And.intro ?_ ?_) | exact LSub.nil | (with_reducible exact LSub.refl) | (apply LSub.cons; (repeat first | refine goH ?_ | apply LHas.here | apply LHas.next); refine And.intro ?_ ?_; (focus (try (first | (with_reducible rfl) | (refine congrArg (Pl.mk _) ?_; (first | (with_reducible rfl) | (rw [outA_zero]; rfl) | (rw [outA_succ, ← sh8u j (by omega), List.map_append, List.map_cons, bAV_b8]; rfl) | (rw [tkN_zero, w5]; rfl) | (rw [tkN_succ]) | rfl)) | rfl | (with_reducible refine congrArg (Pl.mk _) ?_))))) | assumption | (first | (focus (apply Eq.trans; (conv => lhs; whnf); (conv => rhs; whnf); done)) | rfl | ((conv => lhs; whnf); first | rfl | (refine congrArg (AV.int _) ?_; (exact T.num)) | (refine congrArg AV.bool ?_; (exact T.num)) | (refine vw_congr ?_; first | (exact T.num) | (first | (with_reducible rfl) | (rw [outA_zero]; rfl) | (rw [outA_succ, ← sh8u j (by omega), List.map_append, List.map_cons, bAV_b8]; rfl) | (rw [tkN_zero, w5]; rfl) | (rw [tkN_succ]) | rfl)) | (refine sl_congr ?_ ?_ <;> first | (exact T.num) | (first | (with_reducible rfl) | (rw [outA_zero]; rfl) | (rw [outA_succ, ← sh8u j (by omega), List.map_append, List.map_cons, bAV_b8]; rfl) | (rw [tkN_zero, w5]; rfl) | (rw [tkN_succ]) | rfl)) | (first | (with_reducible rfl) | (rw [outA_zero]; rfl) | (rw [outA_succ, ← sh8u j (by omega), List.map_append, List.map_cons, bAV_b8]; rfl) | (rw [tkN_zero, w5]; rfl) | (rw [tkN_succ]) | rfl))) | (exact T.num) | (dsimp only; (exact T.num)) | (first | (with_reducible rfl) | (rw [outA_zero]; rfl) | (rw [outA_succ, ← sh8u j (by omega), List.map_append, List.map_cons, bAV_b8]; rfl) | (rw [tkN_zero, w5]; rfl) | (rw [tkN_succ]) | rfl)); done) | (apply AtL.mk' (id := 17) (S := Nat × Nm) ((j + 1, _)); (repeat' first | exact trivial | (refine And.intro ?_ ?_) | exact LSub.nil | (with_reducible exact LSub.refl) | (apply LSub.cons; (repeat first | refine goH ?_ | apply LHas.here | apply LHas.next); refine And.intro ?_ ?_; (focus (try (first | (with_reducible rfl) | (refine congrArg (Pl.mk _) ?_; (first | (with_reducible rfl) | (rw [outA_zero]; rfl) | (rw [outA_succ, ← sh8u j (by omega), List.map_append, List.map_cons, bAV_b8]; rfl) | (rw [tkN_zero, w5]; rfl) | (rw [tkN_succ]) | rfl)) | rfl | (with_reducible refine congrArg (Pl.mk _) ?_))))) | assumption | (first | (focus (apply Eq.trans; (conv => lhs; whnf); (conv => rhs; whnf); done)) | rfl | ((conv => lhs; whnf); first | rfl | (refine congrArg (AV.int _) ?_; (exact T.num)) | (refine congrArg AV.bool ?_; (exact T.num)) | (refine vw_congr ?_; first | (exact T.num) | (first | (with_reducible rfl) | (rw [outA_zero]; rfl) | (rw [outA_succ, ← sh8u j (by omega), List.map_append, List.map_cons, bAV_b8]; rfl) | (rw [tkN_zero, w5]; rfl) | (rw [tkN_succ]) | rfl)) | (refine sl_congr ?_ ?_ <;> first | (exact T.num) | (first | (with_reducible rfl) | (rw [outA_zero]; rfl) | (rw [outA_succ, ← sh8u j (by omega), List.map_append, List.map_cons, bAV_b8]; rfl) | (rw [tkN_zero, w5]; rfl) | (rw [tkN_succ]) | rfl)) | (first | (with_reducible rfl) | (rw [outA_zero]; rfl) | (rw [outA_succ, ← sh8u j (by omega), List.map_append, List.map_cons, bAV_b8]; rfl) | (rw [tkN_zero, w5]; rfl) | (rw [tkN_succ]) | rfl))) | (exact T.num) | (dsimp only; (exact T.num)) | (first | (with_reducible rfl) | (rw [outA_zero]; rfl) | (rw [outA_succ, ← sh8u j (by omega), List.map_append, List.map_cons, bAV_b8]; rfl) | (rw [tkN_zero, w5]; rfl) | (rw [tkN_succ]) | rfl)); done) | (apply AtL.mk' (id := 8) (S := Nat × Nm) ((i + 1, _)); (repeat' first | exact trivial | (refine And.intro ?_ ?_) | exact LSub.nil | (with_reducible exact LSub.refl) | (apply LSub.cons; (repeat first | refine goH ?_ | apply LHas.here | apply LHas.next); refine And.intro ?_ ?_; (focus (try (first | (with_reducible rfl) | (refine congrArg (Pl.mk _) ?_; (first | (with_reducible rfl) | (rw [outA_zero]; rfl) | (rw [outA_succ, ← sh8u j (by omega), List.map_append, List.map_cons, bAV_b8]; rfl) | (rw [tkN_zero, w5]; rfl) | (rw [tkN_succ]) | rfl)) | rfl | (with_reducible refine congrArg (Pl.mk _) ?_))))) | assumption | (first | (focus (apply Eq.trans; (conv => lhs; whnf); (conv => rhs; whnf); done)) | rfl | ((conv => lhs; whnf); first | rfl | (refine congrArg (AV.int _) ?_; (exact T.num)) | (refine congrArg AV.bool ?_; (exact T.num)) | (refine vw_congr ?_; first | (exact T.num) | (first | (with_reducible rfl) | (rw [outA_zero]; rfl) | (rw [outA_succ, ← sh8u j (by omega), List.map_append, List.map_cons, bAV_b8]; rfl) | (rw [tkN_zero, w5]; rfl) | (rw [tkN_succ]) | rfl)) | (refine sl_congr ?_ ?_ <;> first | (exact T.num) | (first | (with_reducible rfl) | (rw [outA_zero]; rfl) | (rw [outA_succ, ← sh8u j (by omega), List.map_append, List.map_cons, bAV_b8]; rfl) | (rw [tkN_zero, w5]; rfl) | (rw [tkN_succ]) | rfl)) | (first | (with_reducible rfl) | (rw [outA_zero]; rfl) | (rw [outA_succ, ← sh8u j (by omega), List.map_append, List.map_cons, bAV_b8]; rfl) | (rw [tkN_zero, w5]; rfl) | (rw [tkN_succ]) | rfl))) | (exact T.num) | (dsimp only; (exact T.num)) | (first | (with_reducible rfl) | (rw [outA_zero]; rfl) | (rw [outA_succ, ← sh8u j (by omega), List.map_append, List.map_cons, bAV_b8]; rfl) | (rw [tkN_zero, w5]; rfl) | (rw [tkN_succ]) | rfl))) | (apply AtL.mk' (id := 17) (S := Nat × Nm) ((j + 1, _)); (repeat' first | exact trivial | (refine And.intro ?_ ?_) | exact LSub.nil | (with_reducible exact LSub.refl) | (apply LSub.cons; (repeat first | refine goH ?_ | apply LHas.here | apply LHas.next); refine And.intro ?_ ?_; (focus (try (first | (with_reducible rfl) | (refine congrArg (Pl.mk _) ?_; (first | (with_reducible rfl) | (rw [outA_zero]; rfl) | (rw [outA_succ, ← sh8u j (by omega), List.map_append, List.map_cons, bAV_b8]; rfl) | (rw [tkN_zero, w5]; rfl) | (rw [tkN_succ]) | rfl)) | rfl | (with_reducible refine congrArg (Pl.mk _) ?_))))) | assumption | (first | (focus (apply Eq.trans; (conv => lhs; whnf); (conv => rhs; whnf); done)) | rfl | ((conv => lhs; whnf); first | rfl | (refine congrArg (AV.int _) ?_; (exact T.num)) | (refine congrArg AV.bool ?_; (exact T.num)) | (refine vw_congr ?_; first | (exact T.num) | (first | (with_reducible rfl) | (rw [outA_zero]; rfl) | (rw [outA_succ, ← sh8u j (by omega), List.map_append, List.map_cons, bAV_b8]; rfl) | (rw [tkN_zero, w5]; rfl) | (rw [tkN_succ]) | rfl)) | (refine sl_congr ?_ ?_ <;> first | (exact T.num) | (first | (with_reducible rfl) | (rw [outA_zero]; rfl) | (rw [outA_succ, ← sh8u j (by omega), List.map_append, List.map_cons, bAV_b8]; rfl) | (rw [tkN_zero, w5]; rfl) | (rw [tkN_succ]) | rfl)) | (first | (with_reducible rfl) | (rw [outA_zero]; rfl) | (rw [outA_succ, ← sh8u j (by omega), List.map_append, List.map_cons, bAV_b8]; rfl) | (rw [tkN_zero, w5]; rfl) | (rw [tkN_succ]) | rfl))) | (exact T.num) | (dsimp only; (exact T.num)) | (first | (with_reducible rfl) | (rw [outA_zero]; rfl) | (rw [outA_succ, ← sh8u j (by omega), List.map_append, List.map_cons, bAV_b8]; rfl) | (rw [tkN_zero, w5]; rfl) | (rw [tkN_succ]) | rfl)))) | (show (_ → _) ∧ (¬ _ → _); first | refine T.y ?_ | refine dec_both (fun h => ?_) (fun h => ?_)) | exact T.z | refine ⟨_, rfl, rfl, ?_⟩ | fail) <;> conv => whnf)
   all_goals (try dsimp only)
   have hj : j = 8 := by omega
   subst hj
   refine RetL.frz [q] (LF.tup ⟨LF.rowF InL.here ?_, LF.eq rfl, trivial⟩) ?_
   · apply LHas.here
     exact ⟨by rw [outA_end], by simp⟩
   · apply LHas.here
     exact LSub.nil
 have h := key2 _ rfl _ rfl
 unfold tagL endS
 rw [hw]
 exact h
def shortR (key l : List UInt8) : List UInt8 × Int := if key.length = 16 then (if l.length ≤ 4096 then ((tagL key l).take 4, 0) else ([], 2)) else ([], 9)
theorem short_c (key l : List UInt8) : LSpec Tryd.prog G 63 [bv key, bv l] [] (fun _ => (be (shortR key l), [])) := by
 unfold shortR
 by_cases hk : key.length = 16
 by_cases h2 : l.length ≤ 4096
 · rw [if_pos hk, if_pos h2]
   refine goW [] Tryd.func63 rfl ?_
   conv => whnf
   repeat' ((first | (refine And.intro ?_ ?_; (focus (first | (simp; done) | (simp; omega) | exact T.kx | exact T.side))) | (show LCall _ _ _ _ _ _; first | refine LCall.pure (sum_ok key l hk h2) ?_ | refine goE ?_) | (show AList _ _; first | (refine AList.headE 4 ?_ ?_ ?_; (focus rfl); (focus rfl))) | refine T.s ?_ | ((first | apply goB | apply ABr.dec | apply ABr.gen) <;> intro h <;> try (exfalso; omega)) | refine LFresh.mk fun r => ?_ | (show (_ → _) ∧ (¬ _ → _); first | refine T.y ?_ | refine dec_both (fun h => ?_) (fun h => ?_)) | exact T.z | fail) <;> conv => whnf)
   all_goals (try dsimp only)
   (show RetL _ _ _; refine goR ?_)
   simp [be, bv, iAV]
 · rw [if_pos hk, if_neg h2]
   refine goW [] Tryd.func63 rfl ?_
   conv => whnf
   repeat' ((first | (show LCall _ _ _ _ _ _; first | refine LCall.pure (sum_size key l hk (by omega)) ?_ | refine goE ?_) | refine T.s ?_ | ((first | apply goB | apply ABr.dec | apply ABr.gen) <;> intro h <;> try (exfalso; omega)) | refine LFresh.mk fun r => ?_ | (show (_ → _) ∧ (¬ _ → _); first | refine T.y ?_ | refine dec_both (fun h => ?_) (fun h => ?_)) | exact T.z | fail) <;> conv => whnf)
   all_goals (try dsimp only)
   exact RetL.frz [] (LF.tup ⟨LF.nils rfl rfl, LF.eq rfl, trivial⟩) LSub.nil
 · rw [if_neg hk]
   refine goW [] Tryd.func63 rfl ?_
   conv => whnf
   repeat' ((first | (show LCall _ _ _ _ _ _; first | refine LCall.pure (sum_key key l hk) ?_ | refine goE ?_) | refine T.s ?_ | ((first | apply goB | apply ABr.dec | apply ABr.gen) <;> intro h <;> try (exfalso; omega)) | refine LFresh.mk fun r => ?_ | (show (_ → _) ∧ (¬ _ → _); first | refine T.y ?_ | refine dec_both (fun h => ?_) (fun h => ?_)) | exact T.z | fail) <;> conv => whnf)
   all_goals (try dsimp only)
   exact RetL.frz [] (LF.tup ⟨LF.nils rfl rfl, LF.eq rfl, trivial⟩) LSub.nil
theorem rshort_c (key l : List UInt8) : LSpec Tryd.prog G 69 [bv key, bv l] [] (fun _ => (be (shortR key l), [])) := by
 unfold shortR
 by_cases hk : key.length = 16
 by_cases h2 : l.length ≤ 4096
 · rw [if_pos hk, if_pos h2]
   refine goW [] Tryd.func69 rfl ?_
   conv => whnf
   repeat' ((first | (refine And.intro ?_ ?_; (focus (first | (simp; done) | (simp; omega) | exact T.kx | exact T.side))) | (show LCall _ _ _ _ _ _; first | refine LCall.pure (rsum_ok key l hk h2) ?_ | refine goE ?_) | (show AList _ _; first | (refine AList.headE 4 ?_ ?_ ?_; (focus rfl); (focus rfl))) | refine T.s ?_ | ((first | apply goB | apply ABr.dec | apply ABr.gen) <;> intro h <;> try (exfalso; omega)) | refine LFresh.mk fun r => ?_ | (show (_ → _) ∧ (¬ _ → _); first | refine T.y ?_ | refine dec_both (fun h => ?_) (fun h => ?_)) | exact T.z | fail) <;> conv => whnf)
   all_goals (try dsimp only)
   (show RetL _ _ _; refine goR ?_)
   simp [be, bv, iAV]
 · rw [if_pos hk, if_neg h2]
   refine goW [] Tryd.func69 rfl ?_
   conv => whnf
   repeat' ((first | (show LCall _ _ _ _ _ _; first | refine LCall.pure (rsum_size key l hk (by omega)) ?_ | refine goE ?_) | refine T.s ?_ | ((first | apply goB | apply ABr.dec | apply ABr.gen) <;> intro h <;> try (exfalso; omega)) | refine LFresh.mk fun r => ?_ | (show (_ → _) ∧ (¬ _ → _); first | refine T.y ?_ | refine dec_both (fun h => ?_) (fun h => ?_)) | exact T.z | fail) <;> conv => whnf)
   all_goals (try dsimp only)
   exact RetL.frz [] (LF.tup ⟨LF.nils rfl rfl, LF.eq rfl, trivial⟩) LSub.nil
 · rw [if_neg hk]
   refine goW [] Tryd.func69 rfl ?_
   conv => whnf
   repeat' ((first | (show LCall _ _ _ _ _ _; first | refine LCall.pure (rsum_key key l hk) ?_ | refine goE ?_) | refine T.s ?_ | ((first | apply goB | apply ABr.dec | apply ABr.gen) <;> intro h <;> try (exfalso; omega)) | refine LFresh.mk fun r => ?_ | (show (_ → _) ∧ (¬ _ → _); first | refine T.y ?_ | refine dec_both (fun h => ?_) (fun h => ?_)) | exact T.z | fail) <;> conv => whnf)
   all_goals (try dsimp only)
   exact RetL.frz [] (LF.tup ⟨LF.nils rfl rfl, LF.eq rfl, trivial⟩) LSub.nil
open Go.RowKit
variable {G : Nat → AV}
theorem grow_c (n : Nat) (h0 : 0 < n) (hn : n ≤ 100000) : LSpec Tryd.prog G 77 [.nils, iAV n] [] (fun q => (.vw q 0 0 1, [(q, ⟨5, []⟩)])) := by
 refine goW [] Tryd.func77 rfl ?_
 conv => whnf
 repeat' ((first | refine T.s ?_ | ((first | apply goB | apply ABr.dec | apply ABr.gen) <;> intro h <;> try (exfalso; omega)) | refine LFresh.mk fun r => ?_ | (show (_ → _) ∧ (¬ _ → _); first | refine T.y ?_ | refine dec_both (fun h => ?_) (fun h => ?_)) | exact T.z | fail) <;> conv => whnf)
 all_goals (try dsimp only)
 · refine RetL.own r rfl ?_ ?_
   · (repeat first | refine goH ?_ | apply LHas.here | apply LHas.next); trivial
   · (repeat' first | exact LSub.nil | (with_reducible exact LSub.refl) | (apply LSub.cons; (repeat first | refine goH ?_ | apply LHas.here | apply LHas.next); refine And.intro ?_ ?_; (focus (try (first | (with_reducible rfl) | (refine congrArg (Pl.mk _) ?_; (first | rfl | (simp; done))) | rfl | (with_reducible refine congrArg (Pl.mk _) ?_))))))
 · exfalso
   (exact T.num)
theorem concat3_c (a b c : List UInt8) (h0 : 0 < a.length) (ha : a.length ≤ 10000) (hb : b.length ≤ 10000) (hc : c.length ≤ 10000) : LSpec Tryd.prog G 64 [.sl 3 [bv a, bv b, bv c]] [] (fun q => (.vw q 0 (a.length + b.length + c.length) 1, [(q, ⟨5, (a ++ b ++ c).map bAV⟩)])) := by
 refine goW [] Tryd.func64 rfl ?_
 conv => whnf
 repeat' ((first | (apply LCall.eq (args' := [.nils, iAV ((a.length + b.length + c.length : Nat) : Int)]); (focus (refine congrArg (fun x => [AV.nils, AV.int .i64 x]) ?_; (exact T.num))); refine LCall.own (grow_c (a.length + b.length + c.length) (by omega) (by omega)) ?_; conv => whnf) | refine T.s ?_ | ((first | apply goB | apply ABr.dec | apply ABr.gen) <;> intro h <;> try (exfalso; omega)) | refine LFresh.mk fun r => ?_ | (show SWpL _ _ _ _ _ _ _; first | refine SWpL.times 3 4 (by rfl) ?_ | refine SWpL.times 11 4 (by rfl) ?_ | refine AtL.step tyOk [] ?_) | exact T.z | fail) <;> conv => whnf)
 all_goals (try dsimp only)
 refine RetL.own r ?_ ?_ ?_
 · rw [Nat.zero_add]
 · (repeat first | refine goH ?_ | apply LHas.here | apply LHas.next); trivial
 · apply LSub.cons
   (repeat first | refine goH ?_ | apply LHas.here | apply LHas.next)
   refine And.intro ?_ LSub.nil
   rw [List.map_append, List.map_append]
theorem clone_c (a : List UInt8) (h0 : 0 < a.length) (ha : a.length ≤ 1000) : LSpec Tryd.prog G 35 [bv a] [] (fun q => (.vw q 0 a.length 1, [(q, ⟨5, a.map bAV⟩)])) := by
 refine goW [] Tryd.func35 rfl ?_
 conv => whnf
 repeat' ((first | refine T.s ?_ | ((first | apply goB | apply ABr.dec | apply ABr.gen) <;> intro h <;> try (exfalso; omega)) | refine LFresh.mk fun r => ?_ | exact T.z | fail) <;> conv => whnf)
 all_goals (try dsimp only)
 refine RetL.own r ?_ ?_ ?_
 · rw [Nat.zero_add]
 · (repeat first | refine goH ?_ | apply LHas.here | apply LHas.next); trivial
 · (repeat' first | exact LSub.nil | (with_reducible exact LSub.refl) | (apply LSub.cons; (repeat first | refine goH ?_ | apply LHas.here | apply LHas.next); refine And.intro ?_ ?_; (focus (try (first | (with_reducible rfl) | (refine congrArg (Pl.mk _) ?_; (first | rfl | (simp; done))) | rfl | (with_reducible refine congrArg (Pl.mk _) ?_))))))
theorem bequal_c (a b : List UInt8) : LSpec Tryd.prog G 42 [bv a, bv b] [] (fun _ => (.bool (decide (a = b)), [])) := by
 refine goW [] Tryd.func42 rfl ?_
 conv => whnf
 repeat' ((first | refine T.s ?_ | ((first | apply goB | apply ABr.dec | apply ABr.gen) <;> intro h <;> try (exfalso; omega)) | refine LFresh.mk fun r => ?_ | exact T.z | refine ⟨_, rfl, rfl, ?_⟩ | fail) <;> conv => whnf)
 all_goals (try dsimp only)
 (show RetL _ _ _; refine goR ?_)
 refine congrArg AV.bool ?_
 rw [ByteArray.toList_eq, ByteArray.toList_eq, Bool.eq_iff_iff]
 simp
open Go.RowKit
variable {G : Nat → AV}
theorem LCall.rowsOwn {P : Program} {f : FuncId} {l : LS} {q p : Nm} {n m : Nat} {ds : List AV} {r : Nm → AV} {c : Nm → Pl} {K : AV → LS → Prop} (hs : LSpec P G f [.sl m ds] [] fun q => (r q, [(q, c q)]))
   (h : LHas l q fun cc _ rest => LFs l [q, p] cc.cs ds ∧ cc.cs.length = n ∧ m = n ∧ LHas rest p fun _ _ rest2 => LFresh fun x => K (r x) ((x, c x) :: rest2)) : LCall P G f [.vw q 0 n 1] l K := by
 obtain ⟨l1, cc, l2, rfl, h1, h2, rfl, h3⟩ := h.ex
 exact LCall.mk' hs [q, p] ⟨LF.rowN InL.here ⟨l1, cc, l2, rfl, by decide, by omega, rfl, h1⟩, trivial⟩ ⟨l1, cc, l2, rfl, LHas.mono h3 fun _ _ _ h => h⟩
theorem ibits_and (x n : Nat) (hn : n ≤ 32) (hx : x < 4611686018427387904) : ibits .and .i64 (x : Int) ((2 ^ n - 1 : Nat) : Int) = ((x % 2 ^ n : Nat) : Int) := by
 have hp : 2 ^ n ≤ 2 ^ 32 := Nat.pow_le_pow_right (by omega) hn
 have hq : 0 < 2 ^ n := Nat.pow_pos (by omega)
 show IntKind.i64.wrap ((BitVec.ofInt 64 (x : Int) &&& BitVec.ofInt 64 ((2 ^ n - 1 : Nat) : Int)).toNat : Int) = _
 have e : (BitVec.ofInt 64 (x : Int) &&& BitVec.ofInt 64 ((2 ^ n - 1 : Nat) : Int)).toNat = x % 2 ^ n := by
   rw [BitVec.toNat_and, BitVec.ofInt_natCast, BitVec.ofInt_natCast, BitVec.toNat_ofNat, BitVec.toNat_ofNat, Nat.mod_eq_of_lt (show x < 2 ^ 64 by omega), Nat.mod_eq_of_lt (show 2 ^ n - 1 < 2 ^ 64 by omega), Nat.and_two_pow_sub_one_eq_mod]
 rw [e]
 have h1 : x % 2 ^ n < 2 ^ n := Nat.mod_lt _ hq
 generalize x % 2 ^ n = y at *
 rw [IntKind.wrap_i64]
 omega
theorem bits_cases {b : Int} (h : bitsOk b = true) : b = 5 ∨ b = 6 ∨ b = 7 ∨ b = 8 ∨ b = 9 := by
 simp [bitsOk] at h; omega
theorem lowR_eq (b n : Int) (hb : bitsOk b = true) (hn : countOk n = true) : lowR b n = n % 2 ^ b.toNat := by
 simp [countOk] at hn
 obtain ⟨m, rfl⟩ : ∃ m : Nat, n = m := ⟨n.toNat, by omega⟩
 unfold lowR
 rcases bits_cases hb with rfl | rfl | rfl | rfl | rfl
 · exact ibits_and m 5 (by omega) (by omega)
 · exact ibits_and m 6 (by omega) (by omega)
 · exact ibits_and m 7 (by omega) (by omega)
 · exact ibits_and m 8 (by omega) (by omega)
 · exact ibits_and m 9 (by omega) (by omega)
theorem lowR_lt (b n : Int) (hb : bitsOk b = true) (hn : countOk n = true) : 0 ≤ lowR b n ∧ lowR b n < 512 := by
 rw [lowR_eq b n hb hn]
 rcases bits_cases hb with rfl | rfl | rfl | rfl | rfl
 · show 0 ≤ n % 32 ∧ n % 32 < 512; omega
 · show 0 ≤ n % 64 ∧ n % 64 < 512; omega
 · show 0 ≤ n % 128 ∧ n % 128 < 512; omega
 · show 0 ≤ n % 256 ∧ n % 256 < 512; omega
 · show 0 ≤ n % 512 ∧ n % 512 < 512; omega
def headL (sn : Int) : List UInt8 := [b8 ((ibits .or .i64 32768 sn).fdiv (2 ^ min (Int.toNat 8) 64)), b8 sn]
@[simp] theorem headL_len (sn : Int) : (headL sn).length = 2 := rfl
theorem headL_put (sn : Int) (h0 : 0 ≤ sn) (h1 : sn < 512) : headL sn = putB (32768 + sn) 2 := by
 have h : ∀ m : Nat, m < 512 → headL ((m : Nat) : Int) = putB (32768 + ((m : Nat) : Int)) 2 := by decide +kernel
 have := h sn.toNat (by omega)
 rw [show ((sn.toNat : Nat) : Int) = sn by omega] at this
 exact this
attribute [irreducible] headL
def splitR (b n : Int) : Int × Int × Int := if bitsOk b && countOk n then (highR b n, lowR b n, 0) else (0, 0, 3)
theorem split_g (b n : Int) : LSpec Tryd.prog G 59 [iAV b, iAV n] [] (fun _ => (.tup [iAV (splitR b n).1, iAV (splitR b n).2.1, iAV (splitR b n).2.2], [])) := by
 cases h1 : bitsOk b
 · have e : splitR b n = (0, 0, 3) := by simp [splitR, h1]
   rw [e]
   refine goW [] Tryd.func59 rfl ?_
   conv => whnf
   repeat' ((first | exact Nm.b 0 | (show LCall _ _ _ _ _ _; first | refine LCall.pure (cbits_c _) ?_ | refine LCall.pure (ccount_c _) ?_ | refine goE ?_) | refine T.s ?_ | ((first | apply goB | apply ABr.dec | apply ABr.gen) <;> intro h <;> try (exfalso; omega)) | refine LFresh.mk fun r => ?_ | (show SWpL _ _ _ _ _ _ _; first | (refine goD tyOk mixed 3 [] [0, 1, 2, 3, 4, 5, 6, 7, 8, 9, 10] [] (by kernel_rfl) ?_)) | exact T.z | fail) <;> conv => whnf)
   all_goals (try dsimp only)
   (show RetL _ _ _; refine goR ?_)
   rfl
 · cases h2 : countOk n
   · have e : splitR b n = (0, 0, 3) := by simp [splitR, h1, h2]
     rw [e]
     refine goW [] Tryd.func59 rfl ?_
     conv => whnf
     repeat' ((first | exact Nm.b 0 | (show LCall _ _ _ _ _ _; first | refine LCall.pure (cbits_c _) ?_ | refine LCall.pure (ccount_c _) ?_ | refine goE ?_) | refine T.s ?_ | ((first | apply goB | apply ABr.dec | apply ABr.gen) <;> intro h <;> try (exfalso; omega)) | refine LFresh.mk fun r => ?_ | (show SWpL _ _ _ _ _ _ _; first | (refine goD tyOk mixed 3 [] [0, 1, 2, 3, 4, 5, 6, 7, 8, 9, 10] [] (by kernel_rfl) ?_)) | exact T.z | fail) <;> conv => whnf)
     all_goals (try dsimp only)
     (show RetL _ _ _; refine goR ?_)
     rfl
   · have e : splitR b n = (highR b n, lowR b n, 0) := by simp [splitR, h1, h2]
     rw [e]
     exact split_c b n (by simp [bitsOk] at h1; omega) (by simp [bitsOk] at h1; omega) (by simp [countOk] at h2; omega) (by simp [countOk] at h2; omega)
def chkR (k : Ky) (b n : Int) : Int × Int := if k.ok then (if bitsOk b && countOk n then (lowR b n, 0) else (0, 3)) else (0, 9)
theorem checked_c (k : Ky) (b n : Int) : LSpec Tryd.prog G 39 [k.av, iAV b, iAV n] [] (fun _ => (.tup [iAV (chkR k b n).1, iAV (chkR k b n).2], [])) := by
 have e1 : k.ok = true → chkR k b n = (splitR b n).2 := fun h => by
   unfold chkR splitR
   rw [if_pos h]
   split <;> rfl
 have e2 : k.ok = false → chkR k b n = (0, 9) := fun h => by
   unfold chkR
   rw [h]; rfl
 refine goW [] Tryd.func39 rfl ?_
 conv => whnf
 repeat' ((first | (show LCall _ _ _ _ _ _; first | refine LCall.pure (cvalid_c k) ?_ | refine LCall.pure (split_g b n) ?_ | refine goE ?_) | refine T.s ?_ | ((first | apply goB | apply ABr.dec | apply ABr.gen) <;> intro h <;> try (exfalso; omega)) | refine LFresh.mk fun r => ?_ | exact T.z | fail) <;> conv => whnf)
 all_goals (try dsimp only)
 · rw [e1 (by assumption)]
   (show RetL _ _ _; refine goR ?_)
   rfl
 · rw [e2 (by assumption)]
   (show RetL _ _ _; refine goR ?_)
   rfl
def dataOk (l : List UInt8) : Bool := decide (1 ≤ l.length ∧ l.length ≤ 2048)
theorem head_c (sn : Int) : LSpec Tryd.prog G 65 [iAV sn] [] (fun q => (.vw q 0 2 1, [(q, ⟨5, (headL sn).map bAV⟩)])) := by
 refine goW [] Tryd.func65 rfl ?_
 conv => whnf
 repeat' ((first | refine T.s ?_ | ((first | apply goB | apply ABr.dec | apply ABr.gen) <;> intro h <;> try (exfalso; omega)) | refine LFresh.mk fun r => ?_ | exact T.z | refine ⟨_, rfl, rfl, ?_⟩ | fail) <;> conv => whnf)
 all_goals (try dsimp only)
 refine RetL.own r rfl ?_ ?_
 · (repeat first | refine goH ?_ | apply LHas.here | apply LHas.next); trivial
 · apply LSub.cons
   (repeat first | refine goH ?_ | apply LHas.here | apply LHas.next)
   refine And.intro (congrArg (Pl.mk _) ?_) LSub.nil
   unfold headL
   simp only [List.map_cons, List.map_nil, bAV_b8]
   rfl
def markH (k : Ky) (nonce head data : List UInt8) : List UInt8 := (shortR k.g (nonce ++ head ++ data)).1
theorem mark_c (k : Ky) (nonce data : List UInt8) (sn : Int) (h0 : 0 < nonce.length) (h1 : nonce.length ≤ 100) (h2 : data.length ≤ 5000) : LSpec Tryd.prog G 43 [k.av, bv nonce, iAV sn, bv data] [] (fun _ => (bv (markH k nonce (headL sn) data), [])) := by
 refine goW [] Tryd.func43 rfl ?_
 conv => whnf
 repeat' ((first | (show LCall _ _ 64 _ _ _; apply LCall.rowsOwn (concat3_c nonce (headL sn) data h0 (by omega) (by simp) (by omega)); (repeat first | refine goH ?_ | apply LHas.here | apply LHas.next); refine And.intro ⟨LF.eq rfl, LF.rowF (InL.next InL.here) ?_, LF.eq rfl, trivial⟩ ?_; (focus ((repeat first | refine goH ?_ | apply LHas.here | apply LHas.next); exact ⟨rfl, (headL_len sn).symm⟩)); conv => whnf) | (show LEra _ _ _; conv => whnf) | (show _ = List.length (_ ++ _); simp only [List.length_append]; done) | exact Nm.b 0 | (refine And.intro ?_ ?_; (focus (first | (simp; done) | exact T.kx | exact T.side))) | (show LCall _ _ _ _ _ _; first | refine LCall.own (head_c sn) ?_ | refine LCall.mk' (short_c k.g (nonce ++ headL sn ++ data)) [_] ⟨LF.eq rfl, LF.rowF InL.here ?_, trivial⟩ ?_ | refine goE ?_) | refine T.s ?_ | ((first | apply goB | apply ABr.dec | apply ABr.gen) <;> intro h <;> try (exfalso; omega)) | refine LFresh.mk fun r => ?_ | (show SWpL _ _ _ _ _ _ _; first | (apply goD tyOk mixed 1 [1, 4, 7] [0, 1, 2, 3, 5, 4, 6, 7, 8, 9, 10, 11, 12, 13] [_] (by kernel_rfl)) | (refine goD tyOk mixed 1 [1, 4, 7] [0, 1, 2, 3, 5, 4, 6, 7, 8, 9, 10, 11, 12, 13] [] (by kernel_rfl) ?_)) | exact T.z | fail) <;> try (show (_ : Prop); conv => whnf))
 all_goals (try dsimp only)
 (show RetL _ _ _; refine goR ?_)
 rfl
open Go.RowKit
theorem Ky.of (k : Ky) (h : k.ok = true) : k.s.length = 32 ∧ k.g.length = 16 ∧ 0 ≤ k.n ∧ k.n ≤ 4294967295 ∧ 0 ≤ k.b ∧ k.b ≤ 255 ∧ (k.d = 0 ∨ k.d = 1) := by
 simpa [Ky.ok] using h
theorem xorR_ok (key nonce b : List UInt8) (hk : key.length = 32) (hn : nonce.length = 12) (hb : b.length ≤ 4096) : xorR key nonce b = (xorL key nonce b, 0) := by
 unfold xorR
 rw [if_pos hk, if_pos ⟨hn, hb⟩]
theorem markH_len (k : Ky) (nonce h data : List UInt8) (hk : k.ok = true) (hn : nonce.length + h.length + data.length ≤ 4096) : (markH k nonce h data).length = 4 := by
 unfold markH shortR
 rw [if_pos (k.of hk).2.1, if_pos (by simp; omega)]
 simp
def sealL (k : Ky) (b n : Int) (data : List UInt8) : List UInt8 := headL (lowR b n) ++ xorL k.s (nonceL k n) (data ++ markH k (nonceL k n) (headL (lowR b n)) data)
def sealR (k : Ky) (b n : Int) (data : List UInt8) : List UInt8 × Int := if k.ok then (if bitsOk b && countOk n then (if dataOk data then (sealL k b n data, 0) else ([], 2)) else ([], 3)) else ([], 9)
theorem sealR_key {k : Ky} (b n : Int) (data : List UInt8) (h : k.ok = false) : sealR k b n data = ([], 9) := by simp [sealR, h]
theorem sealR_num {k : Ky} {b n : Int} (data : List UInt8) (h : k.ok = true) (h2 : (bitsOk b && countOk n) = false) : sealR k b n data = ([], 3) := by unfold sealR; rw [h, h2]; rfl
theorem sealR_size {k : Ky} {b n : Int} {data : List UInt8} (h : k.ok = true) (h2 : (bitsOk b && countOk n) = true) (h3 : dataOk data = false) : sealR k b n data = ([], 2) := by unfold sealR; rw [h, h2, h3]; rfl
theorem sealR_ok {k : Ky} {b n : Int} {data : List UInt8} (h : k.ok = true) (h2 : (bitsOk b && countOk n) = true) (h3 : dataOk data = true) : sealR k b n data = (sealL k b n data, 0) := by unfold sealR; rw [h, h2, h3]; rfl
theorem chk_key {k : Ky} (b n : Int) (h : k.ok = false) : chkR k b n = (0, 9) := by simp [chkR, h]
theorem chk_num {k : Ky} {b n : Int} (h : k.ok = true) (h2 : (bitsOk b && countOk n) = false) : chkR k b n = (0, 3) := by unfold chkR; rw [h, h2]; rfl
theorem chk_ok {k : Ky} {b n : Int} (h : k.ok = true) (h2 : (bitsOk b && countOk n) = true) : chkR k b n = (lowR b n, 0) := by unfold chkR; rw [h, h2]; rfl
def numV (u : List UInt8) : Int := 256 * ((u.getD 0 0).toNat : Int) + (u.getD 1 0).toNat - 32768
theorem numV_eq (u : List UInt8) : iarith .sub .i64 (iarith .add .i64 (IntKind.i64.wrap (IntKind.i64.wrap ((u.getD (Int.toNat 0 * 1) 0).toNat : Int) * 2 ^ min (Int.toNat 8) IntKind.i64.bits)) (IntKind.i64.wrap ((u.getD (Int.toNat 1 * 1) 0).toNat : Int))) 32768 = numV u := by
 have h0 := (u.getD 0 0).toNat_lt
 have h1 := (u.getD 1 0).toNat_lt
 show iarith .sub .i64 (iarith .add .i64 (IntKind.i64.wrap (IntKind.i64.wrap ((u.getD 0 0).toNat : Int) * 256)) (IntKind.i64.wrap ((u.getD 1 0).toNat : Int))) 32768 = numV u
 unfold numV
 generalize (u.getD 0 0).toNat = x at *
 generalize (u.getD 1 0).toNat = y at *
 (exact T.num)
attribute [irreducible] numV
def numR (b : Int) (u : List UInt8) : Int × Int := if bitsOk b = true then (if u.length < 7 then (0, 5) else if 2054 < u.length ∨ numV u < 0 ∨ IntKind.i64.wrap (1 * 2 ^ min b.toNat IntKind.i64.bits) ≤ numV u then (0, 4) else (numV u, 0)) else (0, 3)
theorem number_c (b : Int) (u : List UInt8) : LSpec Tryd.prog gl 24 [iAV b, bv u] [] (fun _ => (.tup [iAV (numR b u).1, iAV (numR b u).2], [])) := by
 cases hbo : bitsOk b
 · have e : numR b u = (0, 3) := by simp [numR, hbo]
   rw [e]
   refine goW [] Tryd.func24 rfl ?_
   conv => whnf
   repeat' ((first | exact Nm.b 0 | (show LCall _ _ _ _ _ _; first | refine LCall.pure (hbo ▸ cbits_c b) ?_ | refine goE ?_) | refine T.s ?_ | ((first | apply goB | apply ABr.dec | apply ABr.gen) <;> intro h <;> try (exfalso; omega)) | refine LFresh.mk fun r => ?_ | (show SWpL _ _ _ _ _ _ _; first | (refine goD tyOk mixed 7 [] [0, 1, 2, 3, 4, 5, 6, 7, 8, 9, 10, 11] [] (by kernel_rfl) ?_)) | exact T.z | refine ⟨_, rfl, rfl, ?_⟩ | fail) <;> conv => whnf)
   all_goals (try dsimp only)
   (show RetL _ _ _; refine goR ?_)
   rfl
 · have hb0 : 0 ≤ b := by rcases bits_cases hbo with h | h | h | h | h <;> omega
   unfold numR
   rw [if_pos hbo]
   refine goW [] Tryd.func24 rfl ?_
   conv => whnf
   repeat' ((first | (show ABr (icmp .lss (iarith .sub .i64 _ _) _) _ _; dsimp only; rw [numV_eq u]; conv => whnf) | exact Nm.b 0 | (show LCall _ _ _ _ _ _; first | refine LCall.pure (hbo ▸ cbits_c b) ?_ | refine goE ?_) | refine T.s ?_ | ((first | apply goB | apply ABr.dec | apply ABr.gen) <;> intro h <;> try (exfalso; omega)) | refine LFresh.mk fun r => ?_ | (show SWpL _ _ _ _ _ _ _; first | (refine goD tyOk mixed 7 [] [0, 1, 2, 3, 4, 5, 6, 7, 8, 9, 10, 11] [] (by kernel_rfl) ?_)) | exact T.z | refine ⟨_, rfl, rfl, ?_⟩ | fail) <;> conv => whnf)
   all_goals (try dsimp only)
   all_goals
     generalize IntKind.i64.wrap (1 * 2 ^ min b.toNat IntKind.i64.bits) = W at *
     generalize numV u = V at *
     (show RetL _ _ _; refine goR ?_)
     (repeat first | rw [if_pos (by first | assumption | omega)] | rw [if_neg (by first | assumption | omega)])
     rfl
open Go.RowKit
def openR (k : Ky) (b n : Int) (u : List UInt8) : List UInt8 × Int :=
 if k.ok then (if bitsOk b && countOk n then (if (numR b u).2 = 0 then (if (numR b u).1 = lowR b n then
   (if (xorL k.s (nonceL k n) (u.drop 2)).drop (u.length - 6) = markH k (nonceL k n) (headL (lowR b n)) ((xorL k.s (nonceL k n) (u.drop 2)).take (u.length - 6)) then ((xorL k.s (nonceL k n) (u.drop 2)).take (u.length - 6), 0) else ([], 6)) else ([], 6)) else ([], (numR b u).2)) else ([], 3)) else ([], 9)
theorem openR_key {k : Ky} (b n : Int) (u : List UInt8) (h : k.ok = false) : openR k b n u = ([], 9) := by simp [openR, h]
theorem openR_num {k : Ky} {b n : Int} (u : List UInt8) (h : k.ok = true) (h2 : (bitsOk b && countOk n) = false) : openR k b n u = ([], 3) := by unfold openR; rw [h, h2]; rfl
theorem openR_err {k : Ky} {b n : Int} {u : List UInt8} (h : k.ok = true) (h2 : (bitsOk b && countOk n) = true) (h3 : ¬ (numR b u).2 = 0) : openR k b n u = ([], (numR b u).2) := by unfold openR; rw [h, h2, if_neg h3]; rfl
theorem openR_sn {k : Ky} {b n : Int} {u : List UInt8} (h : k.ok = true) (h2 : (bitsOk b && countOk n) = true) (h3 : (numR b u).2 = 0) (h4 : ¬ (numR b u).1 = lowR b n) : openR k b n u = ([], 6) := by unfold openR; rw [h, h2, if_pos h3, if_neg h4]; rfl
theorem openR_ok {k : Ky} {b n : Int} {u : List UInt8} (h : k.ok = true) (h2 : (bitsOk b && countOk n) = true) (h3 : (numR b u).2 = 0) (h4 : (numR b u).1 = lowR b n) : openR k b n u = if (xorL k.s (nonceL k n) (u.drop 2)).drop (u.length - 6) = markH k (nonceL k n) (headL (lowR b n)) ((xorL k.s (nonceL k n) (u.drop 2)).take (u.length - 6)) then ((xorL k.s (nonceL k n) (u.drop 2)).take (u.length - 6), 0) else ([], 6) := by unfold openR; rw [h, h2, if_pos h3, if_pos h4]; rfl
theorem numR_ok {b : Int} {u : List UInt8} (h : (numR b u).2 = 0) : bitsOk b = true ∧ 7 ≤ u.length ∧ u.length ≤ 2054 ∧ (numR b u).1 = numV u ∧ 0 ≤ numV u ∧ numV u < IntKind.i64.wrap (1 * 2 ^ min b.toNat IntKind.i64.bits) := by
 unfold numR at *
 split at h
 · split at h
   · simp at h
   · split at h
     · simp at h
     · rename_i h1 h2 h3
       rw [if_pos h1, if_neg h2, if_neg h3]
       exact ⟨h1, by omega, by omega, rfl, by omega, by omega⟩
 · simp at h
theorem open_c (k : Ky) (b n : Int) (u : List UInt8) : LSpec Tryd.prog gl 26 [k.av, iAV b, iAV n, bv u] [] (fun _ => (be (openR k b n u), [])) := by
 have hc := checked_c (G := gl) k b n
 have hnum := number_c b u
 cases h1 : k.ok
 · rw [openR_key b n u h1]
   rw [chk_key b n h1] at hc
   refine goW [] Tryd.func26 rfl ?_
   conv => whnf
   repeat' ((first | exact Nm.b 0 | (show LCall _ _ _ _ _ _; first | refine LCall.pure (hc) ?_ | refine goE ?_) | refine T.s ?_ | ((first | apply goB | apply ABr.dec | apply ABr.gen) <;> intro h <;> try (exfalso; omega)) | refine LFresh.mk fun r => ?_ | (show SWpL _ _ _ _ _ _ _; first | (refine goD tyOk mixed 10 [] [0, 1, 2, 3, 4, 5, 6, 7, 8, 9, 10] [] (by kernel_rfl) ?_) | (refine goD tyOk mixed 12 [] [0, 1, 2, 3, 4, 5, 6, 7, 8, 9, 10, 11] [] (by kernel_rfl) ?_)) | (show (_ → _) ∧ (¬ _ → _); first | refine T.y ?_ | refine dec_both (fun h => ?_) (fun h => ?_)) | exact T.z | fail) <;> conv => whnf)
   all_goals (try dsimp only)
   exact RetL.frz [] (LF.tup ⟨LF.nils rfl rfl, LF.eq rfl, trivial⟩) LSub.nil
 · cases h2 : (bitsOk b && countOk n)
   · rw [openR_num u h1 h2]
     rw [chk_num h1 h2] at hc
     refine goW [] Tryd.func26 rfl ?_
     conv => whnf
     repeat' ((first | exact Nm.b 0 | (show LCall _ _ _ _ _ _; first | refine LCall.pure (hc) ?_ | refine goE ?_) | refine T.s ?_ | ((first | apply goB | apply ABr.dec | apply ABr.gen) <;> intro h <;> try (exfalso; omega)) | refine LFresh.mk fun r => ?_ | (show SWpL _ _ _ _ _ _ _; first | (refine goD tyOk mixed 10 [] [0, 1, 2, 3, 4, 5, 6, 7, 8, 9, 10] [] (by kernel_rfl) ?_) | (refine goD tyOk mixed 12 [] [0, 1, 2, 3, 4, 5, 6, 7, 8, 9, 10, 11] [] (by kernel_rfl) ?_)) | (show (_ → _) ∧ (¬ _ → _); first | refine T.y ?_ | refine dec_both (fun h => ?_) (fun h => ?_)) | exact T.z | fail) <;> conv => whnf)
     all_goals (try dsimp only)
     exact RetL.frz [] (LF.tup ⟨LF.nils rfl rfl, LF.eq rfl, trivial⟩) LSub.nil
   · rw [chk_ok h1 h2] at hc
     have hn : countOk n = true := by simp at h2; exact h2.2
     by_cases h3 : (numR b u).2 = 0
     · by_cases h4 : (numR b u).1 = lowR b n
       · rw [openR_ok h1 h2 h3 h4]
         obtain ⟨g1, g2, g3, g4, g5, g6⟩ := numR_ok h3
         have hN := nonceL_len k n
         rw [h3, h4] at hnum
         have hx := xor_c k.s (nonceL k n) (u.drop 2)
         rw [xorR_ok _ _ _ (k.of h1).1 hN (by simp; omega)] at hx
         have hP : (xorL k.s (nonceL k n) (u.drop 2)).length = u.length - 6 + 4 := by simp; omega
         have hd : (u.drop 2).length = u.length - 2 := by simp
         generalize xorL k.s (nonceL k n) (u.drop 2) = P at *
         generalize hm : u.length - 6 = m at *
         have hl : (P.take m).length = m := by simp; omega
         have hmk := mark_c (G := gl) k (nonceL k n) (P.take m) (lowR b n) (by omega) (by omega) (by omega)
         generalize markH k (nonceL k n) (headL (lowR b n)) (P.take m) = M at *
         have hi : (iarith .sub .i64 ((P.length : Nat) : Int) 4).toNat = m := by (exact T.num)
         have hi0 : 0 ≤ iarith .sub .i64 ((P.length : Nat) : Int) 4 := by (exact T.num)
         have hi1 : iarith .sub .i64 ((P.length : Nat) : Int) 4 ≤ P.length := by (exact T.num)
         clear g4 g5 g6 h3 h4
         refine goW [] Tryd.func26 rfl ?_
         conv => whnf
         repeat' ((first | exact Nm.b 0 | (show LCall _ _ _ _ _ _; first | refine LCall.pure (hc) ?_ | refine LCall.pure (hnum) ?_ | refine LCall.pure (cnonce_c k n h1 hn) ?_ | refine LCall.pure (hx) ?_ | refine LCall.pure (hmk) ?_ | refine LCall.pure (bequal_c _ _) ?_ | refine goE ?_) | (show AList _ _; first | (refine AList.tailE 2 ?_ ?_ ?_; (focus rfl); (focus (simp; omega))) | (refine AList.tailE m ?_ ?_ ?_; (focus (rw [hi, Nat.mul_one])); (focus (simp; omega))) | (refine AList.headE m ?_ ?_ ?_; (focus rfl); (focus (rw [hi] <;> simp)))) | refine T.s ?_ | ((first | apply goB | apply ABr.dec | apply ABr.gen) <;> intro h <;> try (exfalso; omega)) | refine LFresh.mk fun r => ?_ | (show SWpL _ _ _ _ _ _ _; first | (apply goD tyOk mixed 10 [] [0, 1, 2, 3, 4, 5, 6, 7, 8, 9, 10] [_] (by kernel_rfl)) | (refine goD tyOk mixed 10 [] [0, 1, 2, 3, 4, 5, 6, 7, 8, 9, 10] [] (by kernel_rfl) ?_) | (apply goD tyOk mixed 12 [] [0, 1, 2, 3, 4, 5, 6, 7, 8, 9, 10, 11] [_] (by kernel_rfl)) | (refine goD tyOk mixed 12 [] [0, 1, 2, 3, 4, 5, 6, 7, 8, 9, 10, 11] [] (by kernel_rfl) ?_)) | (show (_ → _) ∧ (¬ _ → _); first | refine T.y ?_ | refine dec_both (fun h => ?_) (fun h => ?_)) | exact T.z | fail) <;> try (show (_ : Prop); conv => whnf))
         all_goals (try dsimp only)
         · rw [if_pos (by assumption)]
           (show RetL _ _ _; refine goR ?_)
           refine congrArg (fun x => AV.tup [AV.sl x ((P.take m).map bAV), iAV 0]) ?_
           rw [hi, hl]
           rfl
         · rw [if_neg (by assumption)]
           exact RetL.frz [] (LF.tup ⟨LF.nils rfl rfl, LF.eq rfl, trivial⟩) LSub.nil
       · rw [openR_sn h1 h2 h3 h4]
         rw [h3] at hnum
         generalize (numR b u).1 = v at *
         refine goW [] Tryd.func26 rfl ?_
         conv => whnf
         repeat' ((first | exact Nm.b 0 | (show LCall _ _ _ _ _ _; first | refine LCall.pure (hc) ?_ | refine LCall.pure (hnum) ?_ | refine goE ?_) | refine T.s ?_ | ((first | apply goB | apply ABr.dec | apply ABr.gen) <;> intro h <;> try (exfalso; omega)) | refine LFresh.mk fun r => ?_ | (show SWpL _ _ _ _ _ _ _; first | (refine goD tyOk mixed 10 [] [0, 1, 2, 3, 4, 5, 6, 7, 8, 9, 10] [] (by kernel_rfl) ?_) | (refine goD tyOk mixed 12 [] [0, 1, 2, 3, 4, 5, 6, 7, 8, 9, 10, 11] [] (by kernel_rfl) ?_)) | (show (_ → _) ∧ (¬ _ → _); first | refine T.y ?_ | refine dec_both (fun h => ?_) (fun h => ?_)) | exact T.z | fail) <;> conv => whnf)
         all_goals (try dsimp only)
         exact RetL.frz [] (LF.tup ⟨LF.nils rfl rfl, LF.eq rfl, trivial⟩) LSub.nil
     · rw [openR_err h1 h2 h3]
       generalize (numR b u).1 = v at *
       generalize (numR b u).2 = w at *
       refine goW [] Tryd.func26 rfl ?_
       conv => whnf
       repeat' ((first | exact Nm.b 0 | (show LCall _ _ _ _ _ _; first | refine LCall.pure (hc) ?_ | refine LCall.pure (hnum) ?_ | refine goE ?_) | refine T.s ?_ | ((first | apply goB | apply ABr.dec | apply ABr.gen) <;> intro h <;> try (exfalso; omega)) | refine LFresh.mk fun r => ?_ | (show SWpL _ _ _ _ _ _ _; first | (refine goD tyOk mixed 10 [] [0, 1, 2, 3, 4, 5, 6, 7, 8, 9, 10] [] (by kernel_rfl) ?_) | (refine goD tyOk mixed 12 [] [0, 1, 2, 3, 4, 5, 6, 7, 8, 9, 10, 11] [] (by kernel_rfl) ?_)) | (show (_ → _) ∧ (¬ _ → _); first | refine T.y ?_ | refine dec_both (fun h => ?_) (fun h => ?_)) | exact T.z | fail) <;> conv => whnf)
       all_goals (try dsimp only)
       exact RetL.frz [] (LF.tup ⟨LF.nils rfl rfl, LF.eq rfl, trivial⟩) LSub.nil
end Go.Proofs.YtnmifddidgofaaaDoor
