import Derived.Test.YtnlpjbedkdhlbaaBit1
namespace Go.Proofs.Ytnlpjbedkdhlbaa
open Go.RowKit
set_option linter.all false
variable {G : Nat → AV}
def sumW (ws : List Int) : Nat := (ws.map Int.toNat).sum
def packB : List Int → List Int → List Bool
  | w :: ws, v :: vs => bitsW w.toNat v ++ packB ws vs
  | _, _ => []
theorem packB_len : ∀ (ws vs : List Int), ws.length = vs.length → (packB ws vs).length = sumW ws
  | [], [], _ => rfl
  | w :: ws, v :: vs, h => by
    have := packB_len ws vs (by simpa using h)
    simp [packB, sumW] at *
    omega
theorem packB_app : ∀ (ws vs ws' vs' : List Int), ws.length = vs.length → packB (ws ++ ws') (vs ++ vs') = packB ws vs ++ packB ws' vs'
  | [], [], _, _, _ => rfl
  | w :: ws, v :: vs, ws', vs', h => by
    have := packB_app ws vs ws' vs' (by simpa using h)
    simp [packB, this]
theorem sumW_take (ws : List Int) (i : Nat) (h : i < ws.length) : sumW (ws.take (i + 1)) = sumW (ws.take i) + (ws.getD i 0).toNat := by
  unfold sumW
  rw [List.take_succ_eq_append_getElem h, List.map_append, List.sum_append]
  congr 1
  simp [List.getD_eq_getElem?_getD, h]
theorem packB_take (ws vs : List Int) (i : Nat) (h : i < ws.length) (hl : ws.length = vs.length) : packB (ws.take (i + 1)) (vs.take (i + 1)) = packB (ws.take i) (vs.take i) ++ bitsW (ws.getD i 0).toNat (vs.getD i 0) := by
  rw [List.take_succ_eq_append_getElem h, List.take_succ_eq_append_getElem (show i < vs.length by omega), packB_app _ _ _ _ (by simp; omega)]
  simp [packB, List.getD_eq_getElem?_getD, h, show i < vs.length by omega]
theorem sumW_le (ws : List Int) (h : ∀ i, i < ws.length → 0 ≤ ws.getD i 0 ∧ ws.getD i 0 ≤ 32) : ∀ i, i ≤ ws.length → sumW (ws.take i) ≤ 32 * i
  | 0, _ => by simp [sumW]
  | i + 1, hi => by
    have h1 := sumW_le ws h i (by omega)
    have h2 := h i (by omega)
    rw [sumW_take ws i (by omega)]
    omega
theorem sumW_mono (ws : List Int) (i : Nat) : sumW (ws.take i) ≤ sumW ws := by
  conv => rhs; rw [← List.take_append_drop i ws]
  unfold sumW
  rw [List.map_append, List.sum_append]
  omega
theorem bfits_t (n v : Int) (h : 0 ≤ n ∧ n ≤ 32) (hv : 0 ≤ v ∧ v < 2 ^ n.toNat) : LSpec Try.prog G 61 [iAV n, iAV v] [] (fun _ => (.bool true, [])) := by
  have e : IntKind.i64.wrap (1 * 2 ^ min n.toNat IntKind.i64.bits) = 2 ^ n.toNat := by
    have e : min n.toNat IntKind.i64.bits = n.toNat := Nat.min_eq_left (by show n.toNat ≤ 64; omega)
    rw [e, Int.one_mul, IntKind.wrap_i64]
    have h2 : (2 : Int) ^ n.toNat ≤ 2 ^ 32 := by exact_mod_cast Nat.pow_le_pow_right (by decide) (show n.toNat ≤ 32 by omega)
    have h3 : (0 : Int) < 2 ^ n.toNat := Int.pow_pos (by decide)
    omega
  refine LSpec.introL tyOk Try.func61 rfl (by kernel_rfl) (by simp) (fun q => ⟨by simp, by simp⟩) ?_
  refine AWpL.sound tyOk [] _ _ _ _ ?_
  conv => whnf
  repeat' first
    | (show LHas _ _ _; ((try show LHas _ _ _); repeat (with_reducible show LHas _ _ _); first | apply LHas.here | apply LHas.next); conv => whnf)
    | ((first | (with_reducible refine And.intro ?_ ?_) | refine And.intro ?_ ?_); (focus (first | exact T.side)); conv => whnf)
    | (show ABr _ _ _; first | (refine ABr.tt ?_; conv => whnf) | (refine ABr.ff ?_; conv => whnf) | (refine ABr.byN ?_) | ((with_reducible refine ABr.lssT (by assumption) ?_); conv => whnf) | ((with_reducible refine ABr.lssF (by assumption) ?_); conv => whnf) | ((with_reducible refine ABr.lss (fun h => ?_) (fun h => ?_)) <;> first | (exfalso; omega) | conv => whnf) | ((with_reducible refine ABr.leqT (by assumption) ?_); conv => whnf) | ((with_reducible refine ABr.leqF (by assumption) ?_); conv => whnf) | ((with_reducible refine ABr.leq (fun h => ?_) (fun h => ?_)) <;> first | (exfalso; omega) | conv => whnf) | ((with_reducible refine ABr.geqT (by assumption) ?_); conv => whnf) | ((with_reducible refine ABr.geqF (by assumption) ?_); conv => whnf) | ((with_reducible refine ABr.geq (fun h => ?_) (fun h => ?_)) <;> first | (exfalso; omega) | conv => whnf) | (refine ABr.byT (by with_reducible assumption) ?_; conv => whnf) | (refine ABr.byF (by with_reducible assumption) ?_; conv => whnf) | ((with_reducible refine ABr.decT rfl ?_); conv => whnf) | ((with_reducible refine ABr.decT (by assumption) ?_); conv => whnf) | ((with_reducible refine ABr.decF (by assumption) ?_); conv => whnf) | (refine ABr.dec (fun h => ?_) (fun h => ?_) <;> first | (exfalso; omega) | conv => whnf) | (refine ABr.gen (fun h => ?_) (fun h => ?_) <;> conv => whnf))
    | (show ACell _ _ _; first | (refine ACell.cell 0 ?_ ?_; (focus (first | exact T.side)); conv => whnf) | (refine ACell.mk ?_; conv => whnf))
    | (show AList _ _; first | (refine AList.app ?_ ?_; (focus (first | exact T.side)); conv => whnf) | (refine AList.set (x := b8 _) (bAV_b8 _).symm ?_ ?_; (focus (first | exact T.side)); conv => whnf) | (refine AList.set (f := iAV) rfl ?_ ?_; (focus (first | exact T.side)); conv => whnf) | (refine AList.part ?_; conv => whnf) | (refine AList.force ?_; (conv => whnf); refine Lit.mk ?_; conv => whnf) | (refine AList.full ?_ ?_; (focus (first | exact Nat.le_of_ble_eq_true rfl | (simp; done) | (simp; omega))); conv => whnf) | (refine AList.mk ?_; conv => whnf))
    | (refine LFresh.mk fun r => ?_; conv => whnf)
    | (show KeepL _ _ _; first | (with_reducible exact KeepL.refl) | (refine KeepL.cons ?_; ((try show LHas _ _ _); repeat (with_reducible show LHas _ _ _); first | apply LHas.here | apply LHas.next); ((try show LHas _ _ _); repeat (with_reducible show LHas _ _ _); first | apply LHas.here | apply LHas.next); refine And.intro rfl ?_) | exact KeepL.nil)
    | (show InL _ _; first | exact InL.here | refine InL.next ?_)
    | (show False; (exact T.num))
  all_goals (try dsimp only)
  all_goals
    ((refine RetL.val ?_ ?_; rotate_left; (focus ((repeat' first | exact LSub.nil | (with_reducible exact LSub.refl) | (apply LSub.cons; ((try show LHas _ _ _); repeat (with_reducible show LHas _ _ _); first | apply LHas.here | apply LHas.next); refine And.intro ?_ ?_; (focus (try (first | (with_reducible rfl) | (refine congrArg (Pl.mk _) ?_; (first | rfl | (simp; done))) | rfl | (with_reducible refine congrArg (Pl.mk _) ?_))))))))); (focus (refine congrArg AV.bool ?_; rw [Bool.eq_iff_iff])))
    simp_all [icmp]
def padB (ws vs : List Int) (i : Nat) : List Bool := packB (ws.take i) (vs.take i) ++ List.replicate (sumW ws - sumW (ws.take i)) false
theorem padB_len (ws vs : List Int) (hl : ws.length = vs.length) (i : Nat) : (padB ws vs i).length = sumW ws := by
  have := sumW_mono ws i
  simp [padB, packB_len (ws.take i) (vs.take i) (by simp; omega)]
  omega
theorem padB_succ (ws vs : List Int) (hl : ws.length = vs.length) (i : Nat) (hi : i < ws.length) : setB (padB ws vs i) (sumW (ws.take i)) (bitsW (ws.getD i 0).toNat (vs.getD i 0)) = padB ws vs (i + 1) := by
  have h1 := packB_len (ws.take i) (vs.take i) (by simp; omega)
  have h2 := sumW_mono ws (i + 1)
  have h3 := sumW_take ws i hi
  unfold setB padB
  rw [packB_take ws vs i hi hl, List.take_append_of_le_length (by omega), List.take_of_length_le (by omega), List.drop_append, List.drop_of_length_le (by omega), List.append_assoc]
  congr 2
  rw [List.nil_append, List.drop_replicate, bitsW_len]
  congr 1
  omega
theorem padB_zero (ws vs : List Int) : bytesB (padB ws vs 0) = List.replicate (sumW ws / 8) 0 := by
  have e : padB ws vs 0 = List.replicate (sumW ws) false := by simp [padB, packB, sumW]
  rw [e]
  apply List.ext_getElem
  · simp
  · intro j h1 h2
    have hj : j < sumW ws / 8 := by simpa using h1
    simp only [bytesB, List.getElem_map, List.getElem_range, List.getElem_replicate, List.drop_replicate, List.take_replicate]
    rw [show min 8 (sumW ws - 8 * j) = 8 by omega]
    rfl
theorem padB_all (ws vs : List Int) (hl : ws.length = vs.length) : padB ws vs ws.length = packB ws vs := by
  simp [padB, hl]
  rw [← hl]
  simp
set_option maxHeartbeats 1000000 in
theorem pack_c (ws vs : List Int) (hl : ws.length = vs.length) (h256 : ws.length ≤ 256) (h0 : 0 < sumW ws) (h8 : sumW ws % 8 = 0) (hfit : ∀ i, i < ws.length → (0 ≤ ws.getD i 0 ∧ ws.getD i 0 ≤ 32) ∧ 0 ≤ vs.getD i 0 ∧ vs.getD i 0 < 2 ^ (ws.getD i 0).toNat) :
    LSpec Try.prog G 32 [iv ws, iv vs] [] (fun q => (.tup [.vw q 0 (sumW ws / 8) 1, iAV 0], [(q, ⟨5, (bytesB (packB ws vs)).map bAV⟩)])) := by
  have hT : ∀ i, i ≤ ws.length → sumW (ws.take i) ≤ 32 * i := sumW_le ws fun i hi => (hfit i hi).1
  have hT2 : sumW ws ≤ 8192 := by
    have := hT ws.length (by omega)
    rw [List.take_of_length_le (by omega)] at this
    omega
  have hadd : ∀ i : Nat, i < ws.length → iarith .add .i64 (sumW (ws.take i) : Int) (ws.getD i 0) = (sumW (ws.take (i + 1)) : Int) := fun i hi => by
    have := hT i (by omega)
    have := (hfit i hi).1
    rw [sumW_take ws i hi]
    (exact T.num)
  have hset : ∀ (i : Nat) (p : Nm), i < ws.length → LSpec Try.prog G 62 [.vw p 0 (sumW ws / 8) 1, iAV (sumW (ws.take i)), iAV (ws.getD i 0), iAV (vs.getD i 0)] [(p, ⟨5, (bytesB (padB ws vs i)).map bAV⟩)] (fun _ => (.tup [], [(p, ⟨5, (bytesB (padB ws vs (i + 1))).map bAV⟩)])) := fun i p hi => by
    have hf := hfit i hi
    have hp : (2 : Int) ^ (ws.getD i 0).toNat ≤ 2 ^ 32 := by exact_mod_cast Nat.pow_le_pow_right (by decide) (show (ws.getD i 0).toNat ≤ 32 by omega)
    have hm := sumW_mono ws (i + 1)
    rw [sumW_take ws i hi] at hm
    have := bset_c (G := G) (padB ws vs i) (sumW (ws.take i)) (ws.getD i 0).toNat (vs.getD i 0) (by rw [padB_len _ _ hl]; exact h8) (by rw [padB_len _ _ hl]; omega) (by rw [padB_len _ _ hl]; omega) (by omega) hf.2.1 (by omega) p
    rw [padB_len _ _ hl, padB_succ ws vs hl i hi, show (((ws.getD i 0).toNat : Nat) : Int) = ws.getD i 0 by omega] at this
    exact this
  have hend : ∀ i : Nat, i ≤ ws.length → ¬ (i : Int) < (ws.length : Int) → IntKind.i64.wrap ((iarith .add .i64 (sumW (ws.take i) : Int) 7).tdiv 8) = ((sumW ws / 8 : Nat) : Int) := fun i h1 h2 => by
    rw [List.take_of_length_le (show ws.length ≤ i by omega), show iarith .add .i64 (sumW ws : Int) 7 = ((sumW ws + 7 : Nat) : Int) by (exact T.num), tdiv8 _ (by omega), IntKind.wrap_i64]
    omega
  have hzc : ∀ i : Nat, i ≤ ws.length → ¬ (i : Int) < (ws.length : Int) → zcells [AV.int .u8 0] ((IntKind.i64.wrap ((iarith .add .i64 (sumW (ws.take i) : Int) 7).tdiv 8)).toNat * 1) = (bytesB (padB ws vs 0)).map bAV := fun i h1 h2 => by
    rw [hend i h1 h2, padB_zero, Int.toNat_natCast, Nat.mul_one]
    generalize sumW ws / 8 = n
    apply List.ext_getElem
    · simp [zcells]
    · intro k k1 k2
      simp [zcells, Nat.mod_one]
      rfl
  have hall := padB_all ws vs hl
  refine LSpec.introL tyOk Try.func32 rfl (by kernel_rfl) (by simp) (fun q => ⟨by simp, by simp⟩) ?_
  refine AWpL.sound tyOk [] _ _ _ _ ?_
  conv => whnf
  repeat' first
    | (show LHas _ _ _; ((try show LHas _ _ _); repeat (with_reducible show LHas _ _ _); first | apply LHas.here | apply LHas.next); conv => whnf)
    | ((first | (with_reducible refine And.intro ?_ ?_) | refine And.intro ?_ ?_); (focus (first | (rw [hend _ (by omega) (by assumption)]; omega) | (dsimp only; rw [hend _ (by omega) (by assumption)]; omega) | exact T.side)); conv => whnf)
    | (show LCall _ _ _ _ _ _; first | (refine LCall.pure (bfits_t _ _ (hfit _ (by omega)).1 (hfit _ (by omega)).2) ?_; conv => whnf) | (apply LCall.upd (hset _ _ (by omega)); ((try show LHas _ _ _); repeat (with_reducible show LHas _ _ _); first | apply LHas.here | apply LHas.next); refine And.intro rfl ?_; conv => whnf) | (apply LCall.eq; (focus (repeat first | (apply cons_congr; (focus (first | exact sl_bv rfl | exact sl_bv (by first | (simp; done) | (simp; (exact T.num))) | exact rfl))) | exact rfl)); first | (refine LCall.pure (bfits_t _ _ (hfit _ (by omega)).1 (hfit _ (by omega)).2) ?_; conv => whnf) | (apply LCall.upd (hset _ _ (by omega)); ((try show LHas _ _ _); repeat (with_reducible show LHas _ _ _); first | apply LHas.here | apply LHas.next); refine And.intro rfl ?_; conv => whnf)))
    | (show ABr _ _ _; first | (refine ABr.tt ?_; conv => whnf) | (refine ABr.ff ?_; conv => whnf) | (refine ABr.byN ?_) | ((with_reducible refine ABr.lssT (by assumption) ?_); conv => whnf) | ((with_reducible refine ABr.lssF (by assumption) ?_); conv => whnf) | ((with_reducible refine ABr.lss (fun h => ?_) (fun h => ?_)) <;> first | (exfalso; omega) | conv => whnf) | ((with_reducible refine ABr.gtrT (by assumption) ?_); conv => whnf) | ((with_reducible refine ABr.gtrF (by assumption) ?_); conv => whnf) | ((with_reducible refine ABr.gtr (fun h => ?_) (fun h => ?_)) <;> first | (exfalso; omega) | conv => whnf) | ((with_reducible refine ABr.neqT (by assumption) ?_); conv => whnf) | ((with_reducible refine ABr.neqF (by assumption) ?_); conv => whnf) | ((with_reducible refine ABr.neq (fun h => ?_) (fun h => ?_)) <;> first | (exfalso; omega) | conv => whnf) | (refine ABr.byT (by with_reducible assumption) ?_; conv => whnf) | (refine ABr.byF (by with_reducible assumption) ?_; conv => whnf) | ((with_reducible refine ABr.decT rfl ?_); conv => whnf) | ((with_reducible refine ABr.decT (by assumption) ?_); conv => whnf) | ((with_reducible refine ABr.decF (by assumption) ?_); conv => whnf) | (refine ABr.dec (fun h => ?_) (fun h => ?_) <;> first | (exfalso; omega) | conv => whnf) | (refine ABr.gen (fun h => ?_) (fun h => ?_) <;> conv => whnf))
    | (show ACell _ _ _; first | (refine ACell.idx (i) (0) ?_ ?_ ?_; (focus (first | exact rfl | (simp; done) | (simp; omega))); (focus (first | omega | exact T.side)); conv => whnf) | (refine ACell.cell 0 ?_ ?_; (focus (first | exact T.side)); conv => whnf) | (refine ACell.mk ?_; conv => whnf))
    | (show AList _ _; first | (refine AList.eq (hzc _ (by omega) (by assumption)) ?_; conv => whnf) | (refine AList.app ?_ ?_; (focus (first | exact T.side)); conv => whnf) | (refine AList.set (x := b8 _) (bAV_b8 _).symm ?_ ?_; (focus (first | exact T.side)); conv => whnf) | (refine AList.set (f := iAV) rfl ?_ ?_; (focus (first | exact T.side)); conv => whnf) | (refine AList.part ?_; conv => whnf) | (refine AList.force ?_; (conv => whnf); refine Lit.mk ?_; conv => whnf) | (refine AList.full ?_ ?_; (focus (first | exact Nat.le_of_ble_eq_true rfl | (simp; done) | (simp; omega))); conv => whnf) | (refine AList.mk ?_; conv => whnf))
    | (refine LFresh.mk fun r => ?_; conv => whnf)
    | (show SWpL _ _ _ _ _ _ _; first | (apply SWpL.loopC 5 (S := Nat) [0, 1, 23, 24] (fun zz => match zz with | (i) => [(25, .int .i64 i), (6, .int .i64 (sumW (ws.take i)))]) (fun zz => match zz with | (i) => []) (fun zz => match zz with | (i) => i ≤ ws.length) (fun zz => match zz with | (i) => ws.length - i) (0) (by rfl); (focus ((repeat' first | exact trivial | (refine And.intro ?_ ?_) | exact LSub.nil | (with_reducible exact LSub.refl) | (apply LSub.cons; ((try show LHas _ _ _); repeat (with_reducible show LHas _ _ _); first | apply LHas.here | apply LHas.next); refine And.intro ?_ ?_; (focus (try (first | (with_reducible rfl) | (refine congrArg (Pl.mk _) ?_; (first | rfl | (simp; done))) | rfl | (with_reducible refine congrArg (Pl.mk _) ?_))))) | assumption | (exact congrArg (AV.int .i64) (hadd i (by omega))) | ((conv => lhs; whnf); refine vw_congr ?_; rw [hend _ (by omega) (by assumption)]; omega) | (first | rfl | ((conv => lhs; whnf); first | rfl | (refine congrArg (AV.int _) ?_; (exact T.num)) | (refine congrArg AV.bool ?_; (exact T.num)) | (refine vw_congr ?_; first | (exact T.num) | (first | rfl | (simp; done))) | (refine sl_congr ?_ ?_ <;> first | (exact T.num) | (first | rfl | (simp; done))) | (first | rfl | (simp; done)))) | (exact T.num) | (dsimp only; (exact T.num)) | (first | rfl | (simp; done))); done)); (rintro i hok; ((try dsimp only at hok); repeat (have hk := And.left hok; replace hok := And.right hok)); refine AtL.step tyOk [] ?_; conv => whnf)) | (apply SWpL.loopC 14 (S := Nat × Nm) [1, 45, 46] (fun zz => match zz with | (i, q) => [(47, .int .i64 i), (10, .int .i64 (sumW (ws.take i))), (9, .vw q 0 (sumW ws / 8) 1)]) (fun zz => match zz with | (i, q) => [(q, ⟨5, (bytesB (padB ws vs i)).map bAV⟩)]) (fun zz => match zz with | (i, q) => i ≤ ws.length) (fun zz => match zz with | (i, q) => ws.length - i) ((0, _)) (by rfl); (focus ((repeat' first | exact trivial | (refine And.intro ?_ ?_) | exact LSub.nil | (with_reducible exact LSub.refl) | (apply LSub.cons; ((try show LHas _ _ _); repeat (with_reducible show LHas _ _ _); first | apply LHas.here | apply LHas.next); refine And.intro ?_ ?_; (focus (try (first | (with_reducible rfl) | (refine congrArg (Pl.mk _) ?_; (first | rfl | (simp; done))) | rfl | (with_reducible refine congrArg (Pl.mk _) ?_))))) | assumption | (exact congrArg (AV.int .i64) (hadd i (by omega))) | ((conv => lhs; whnf); refine vw_congr ?_; rw [hend _ (by omega) (by assumption)]; omega) | (first | rfl | ((conv => lhs; whnf); first | rfl | (refine congrArg (AV.int _) ?_; (exact T.num)) | (refine congrArg AV.bool ?_; (exact T.num)) | (refine vw_congr ?_; first | (exact T.num) | (first | rfl | (simp; done))) | (refine sl_congr ?_ ?_ <;> first | (exact T.num) | (first | rfl | (simp; done))) | (first | rfl | (simp; done)))) | (exact T.num) | (dsimp only; (exact T.num)) | (first | rfl | (simp; done))); done)); (rintro ⟨i, q⟩ hok; ((try dsimp only at hok); repeat (have hk := And.left hok; replace hok := And.right hok)); refine AtL.step tyOk [] ?_; conv => whnf)))
    | (show AtL _ _ _ _ _ _ _ _ _ _; first | (apply AtL.mk' (id := 5) (S := Nat) (i + 1); (repeat' first | exact trivial | (refine And.intro ?_ ?_) | exact LSub.nil | (with_reducible exact LSub.refl) | (apply LSub.cons; ((try show LHas _ _ _); repeat (with_reducible show LHas _ _ _); first | apply LHas.here | apply LHas.next); refine And.intro ?_ ?_; (focus (try (first | (with_reducible rfl) | (refine congrArg (Pl.mk _) ?_; (first | rfl | (simp; done))) | rfl | (with_reducible refine congrArg (Pl.mk _) ?_))))) | assumption | (exact congrArg (AV.int .i64) (hadd i (by omega))) | ((conv => lhs; whnf); refine vw_congr ?_; rw [hend _ (by omega) (by assumption)]; omega) | (first | rfl | ((conv => lhs; whnf); first | rfl | (refine congrArg (AV.int _) ?_; (exact T.num)) | (refine congrArg AV.bool ?_; (exact T.num)) | (refine vw_congr ?_; first | (exact T.num) | (first | rfl | (simp; done))) | (refine sl_congr ?_ ?_ <;> first | (exact T.num) | (first | rfl | (simp; done))) | (first | rfl | (simp; done)))) | (exact T.num) | (dsimp only; (exact T.num)) | (first | rfl | (simp; done))); done) | (apply AtL.mk' (id := 14) (S := Nat × Nm) ((i + 1, _)); (repeat' first | exact trivial | (refine And.intro ?_ ?_) | exact LSub.nil | (with_reducible exact LSub.refl) | (apply LSub.cons; ((try show LHas _ _ _); repeat (with_reducible show LHas _ _ _); first | apply LHas.here | apply LHas.next); refine And.intro ?_ ?_; (focus (try (first | (with_reducible rfl) | (refine congrArg (Pl.mk _) ?_; (first | rfl | (simp; done))) | rfl | (with_reducible refine congrArg (Pl.mk _) ?_))))) | assumption | (exact congrArg (AV.int .i64) (hadd i (by omega))) | ((conv => lhs; whnf); refine vw_congr ?_; rw [hend _ (by omega) (by assumption)]; omega) | (first | rfl | ((conv => lhs; whnf); first | rfl | (refine congrArg (AV.int _) ?_; (exact T.num)) | (refine congrArg AV.bool ?_; (exact T.num)) | (refine vw_congr ?_; first | (exact T.num) | (first | rfl | (simp; done))) | (refine sl_congr ?_ ?_ <;> first | (exact T.num) | (first | rfl | (simp; done))) | (first | rfl | (simp; done)))) | (exact T.num) | (dsimp only; (exact T.num)) | (first | rfl | (simp; done))); done) | (apply AtL.mk' (id := 5) (S := Nat) (i + 1); (repeat' first | exact trivial | (refine And.intro ?_ ?_) | exact LSub.nil | (with_reducible exact LSub.refl) | (apply LSub.cons; ((try show LHas _ _ _); repeat (with_reducible show LHas _ _ _); first | apply LHas.here | apply LHas.next); refine And.intro ?_ ?_; (focus (try (first | (with_reducible rfl) | (refine congrArg (Pl.mk _) ?_; (first | rfl | (simp; done))) | rfl | (with_reducible refine congrArg (Pl.mk _) ?_))))) | assumption | (exact congrArg (AV.int .i64) (hadd i (by omega))) | ((conv => lhs; whnf); refine vw_congr ?_; rw [hend _ (by omega) (by assumption)]; omega) | (first | rfl | ((conv => lhs; whnf); first | rfl | (refine congrArg (AV.int _) ?_; (exact T.num)) | (refine congrArg AV.bool ?_; (exact T.num)) | (refine vw_congr ?_; first | (exact T.num) | (first | rfl | (simp; done))) | (refine sl_congr ?_ ?_ <;> first | (exact T.num) | (first | rfl | (simp; done))) | (first | rfl | (simp; done)))) | (exact T.num) | (dsimp only; (exact T.num)) | (first | rfl | (simp; done)))) | (apply AtL.mk' (id := 14) (S := Nat × Nm) ((i + 1, _)); (repeat' first | exact trivial | (refine And.intro ?_ ?_) | exact LSub.nil | (with_reducible exact LSub.refl) | (apply LSub.cons; ((try show LHas _ _ _); repeat (with_reducible show LHas _ _ _); first | apply LHas.here | apply LHas.next); refine And.intro ?_ ?_; (focus (try (first | (with_reducible rfl) | (refine congrArg (Pl.mk _) ?_; (first | rfl | (simp; done))) | rfl | (with_reducible refine congrArg (Pl.mk _) ?_))))) | assumption | (exact congrArg (AV.int .i64) (hadd i (by omega))) | ((conv => lhs; whnf); refine vw_congr ?_; rw [hend _ (by omega) (by assumption)]; omega) | (first | rfl | ((conv => lhs; whnf); first | rfl | (refine congrArg (AV.int _) ?_; (exact T.num)) | (refine congrArg AV.bool ?_; (exact T.num)) | (refine vw_congr ?_; first | (exact T.num) | (first | rfl | (simp; done))) | (refine sl_congr ?_ ?_ <;> first | (exact T.num) | (first | rfl | (simp; done))) | (first | rfl | (simp; done)))) | (exact T.num) | (dsimp only; (exact T.num)) | (first | rfl | (simp; done)))))
    | (show KeepL _ _ _; first | (with_reducible exact KeepL.refl) | (refine KeepL.cons ?_; ((try show LHas _ _ _); repeat (with_reducible show LHas _ _ _); first | apply LHas.here | apply LHas.next); ((try show LHas _ _ _); repeat (with_reducible show LHas _ _ _); first | apply LHas.here | apply LHas.next); refine And.intro rfl ?_) | exact KeepL.nil)
    | (show InL _ _; first | exact InL.here | refine InL.next ?_)
    | (show False; (exact T.num))
  all_goals (try dsimp only)
  all_goals
    have hi : i = ws.length := by omega
    rw [hi, hall]
    refine RetL.own q rfl ?_ ?_
    · ((try show LHas _ _ _); repeat (with_reducible show LHas _ _ _); first | apply LHas.here | apply LHas.next)
      trivial
    · (repeat' first | exact LSub.nil | (with_reducible exact LSub.refl) | (apply LSub.cons; ((try show LHas _ _ _); repeat (with_reducible show LHas _ _ _); first | apply LHas.here | apply LHas.next); refine And.intro ?_ ?_; (focus (try (first | (with_reducible rfl) | (refine congrArg (Pl.mk _) ?_; (first | rfl | (simp; done))) | rfl | (with_reducible refine congrArg (Pl.mk _) ?_))))))
end Go.Proofs.Ytnlpjbedkdhlbaa
