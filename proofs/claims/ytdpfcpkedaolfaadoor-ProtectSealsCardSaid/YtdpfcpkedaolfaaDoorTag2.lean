import Derived.Test.YtdpfcpkedaolfaaDoorTag1
namespace Go.Proofs.YtdpfcpkedaolfaaDoor
open Go.RowKit
set_option linter.all false
variable {G : Nat → AV}
/-- The word of the first i bytes, the lowest first. -/
def ldN (l : List UInt8) : Nat → Int
  | 0 => 0
  | i + 1 => ibits .or .u64 (ldN l i) (IntKind.u64.wrap (IntKind.u64.wrap ((l.getD i 0).toNat : Int) * 2 ^ min (8 * i) 64))
theorem ldN_zero (l : List UInt8) : ldN l 0 = 0 := rfl
theorem ldN_succ (l : List UInt8) (i : Nat) : ldN l (i + 1) = ibits .or .u64 (ldN l i) (IntKind.u64.wrap (IntKind.u64.wrap ((l.getD i 0).toNat : Int) * 2 ^ min (8 * i) 64)) := rfl
theorem ldN_congr (l m : List UInt8) (n : Nat) (h : ∀ i, i < n → l.getD i 0 = m.getD i 0) : ldN l n = ldN m n := by
  induction n with
  | zero => rfl
  | succ n ih => rw [ldN_succ, ldN_succ, ih (fun i hi => h i (by omega)), h n (by omega)]
theorem ldN_take (l : List UInt8) (n : Nat) : ldN (l.take n) n = ldN l n := ldN_congr _ _ _ fun i hi => by simp [List.getD_eq_getElem?_getD, List.getElem?_take, hi]
theorem sh8 (i : Nat) (h : i ≤ 8) : (iarith .mul .i64 8 (i : Int)).toNat = 8 * i := by simp only [iarith, IntKind.wrap_i64]; omega
theorem sh8u (i : Nat) (h : i ≤ 8) : (IntKind.u64.wrap (iarith .mul .i64 8 (i : Int))).toNat = 8 * i := by simp only [iarith, IntKind.wrap_i64, IntKind.wrap_u64]; omega
attribute [irreducible] ldN
theorem tload_c (l : List UInt8) (hl : 8 ≤ l.length) : LSpec Tryd.prog G 89 [bv l] [] (fun _ => (dAV (ldN l 8), [])) := by
  have h8 : (l.take 8).length = 8 := by simp; omega
  refine LSpec.introL tyOk Tryd.func89 rfl (by kernel_rfl) (by simp) (fun q => ⟨by simp, by simp⟩) ?_
  refine AWpL.sound tyOk _ _ _ _ ?_
  conv => whnf
  repeat' first
    | (show LHas _ _ _; ((try show LHas _ _ _); repeat (with_reducible show LHas _ _ _); first | apply LHas.here | apply LHas.next); conv => whnf)
    | (refine And.intro ?_ ?_; (focus (first | exact T.side)); conv => whnf)
    | (show ABr _ _ _; first | (refine ABr.tt ?_; conv => whnf) | (refine ABr.ff ?_; conv => whnf) | (refine ABr.byN ?_) | ((with_reducible refine ABr.lssT (by assumption) ?_); conv => whnf) | ((with_reducible refine ABr.lssF (by assumption) ?_); conv => whnf) | ((with_reducible refine ABr.lss (fun h => ?_) (fun h => ?_)) <;> first | (exfalso; omega) | conv => whnf) | (refine ABr.byT (by with_reducible assumption) ?_; conv => whnf) | (refine ABr.byF (by with_reducible assumption) ?_; conv => whnf) | ((with_reducible refine ABr.decT rfl ?_); conv => whnf) | ((with_reducible refine ABr.decT (by assumption) ?_); conv => whnf) | ((with_reducible refine ABr.decF (by assumption) ?_); conv => whnf) | (refine ABr.dec (fun h => ?_) (fun h => ?_) <;> first | (exfalso; omega) | conv => whnf) | (refine ABr.gen (fun h => ?_) (fun h => ?_) <;> conv => whnf))
    | (show ACell _ _ _; first | (refine ACell.cell 0 ?_ ?_; (focus (rw [h8]; (exact T.num))); conv => whnf) | (refine ACell.cell 0 ?_ ?_; (focus (first | exact T.side)); conv => whnf) | (refine ACell.mk ?_; conv => whnf))
    | (show AList _ _; first | (refine AList.headE 8 ?_ ?_ ?_; (focus rfl); (focus rfl); conv => whnf) | (refine AList.app ?_ ?_; (focus (first | exact T.side)); conv => whnf) | (refine AList.set (x := b8 _) (bAV_b8 _).symm ?_ ?_; (focus (first | exact T.side)); conv => whnf) | (refine AList.set (f := iAV) rfl ?_ ?_; (focus (first | exact T.side)); conv => whnf) | (refine AList.part ?_; conv => whnf) | (refine AList.force ?_; (conv => whnf); refine Lit.mk ?_; conv => whnf) | (refine AList.full ?_ ?_; (focus (first | exact Nat.le_of_ble_eq_true rfl | (simp; done) | (simp; omega))); conv => whnf) | (refine AList.mk ?_; conv => whnf))
    | (refine LFresh.mk fun r => ?_; conv => whnf)
    | (show SWpL _ _ _ _ _ _ _; first | (apply SWpL.loopC 3 (S := Nat) [7, 8] (fun zz => match zz with | (i) => [(3, dAV (ldN (l.take 8) i)), (9, .int .i64 i)]) (fun zz => match zz with | (i) => []) (fun zz => match zz with | (i) => i ≤ 8) (fun zz => match zz with | (i) => 8 - i) (0) (by rfl); (focus ((repeat' first | exact trivial | (refine And.intro ?_ ?_) | exact LSub.nil | (with_reducible exact LSub.refl) | (apply LSub.cons; ((try show LHas _ _ _); repeat (with_reducible show LHas _ _ _); first | apply LHas.here | apply LHas.next); refine And.intro ?_ ?_; (focus (try (first | (with_reducible rfl) | (refine congrArg (Pl.mk _) ?_; (first | (with_reducible rfl) | (rw [ldN_zero]; rfl) | (rw [ldN_succ, ← sh8 i (by omega)]; simp only [Nat.mul_one, Nat.zero_add, Int.toNat_natCast] <;> rfl) | rfl)) | rfl | (with_reducible refine congrArg (Pl.mk _) ?_))))) | assumption | (first | rfl | ((conv => lhs; whnf); first | rfl | (refine congrArg (AV.int _) ?_; (exact T.num)) | (refine congrArg AV.bool ?_; (exact T.num)) | (refine vw_congr ?_; first | (exact T.num) | (first | (with_reducible rfl) | (rw [ldN_zero]; rfl) | (rw [ldN_succ, ← sh8 i (by omega)]; simp only [Nat.mul_one, Nat.zero_add, Int.toNat_natCast] <;> rfl) | rfl)) | (refine sl_congr ?_ ?_ <;> first | (exact T.num) | (first | (with_reducible rfl) | (rw [ldN_zero]; rfl) | (rw [ldN_succ, ← sh8 i (by omega)]; simp only [Nat.mul_one, Nat.zero_add, Int.toNat_natCast] <;> rfl) | rfl)) | (first | (with_reducible rfl) | (rw [ldN_zero]; rfl) | (rw [ldN_succ, ← sh8 i (by omega)]; simp only [Nat.mul_one, Nat.zero_add, Int.toNat_natCast] <;> rfl) | rfl))) | (exact T.num) | (dsimp only; (exact T.num)) | (first | (with_reducible rfl) | (rw [ldN_zero]; rfl) | (rw [ldN_succ, ← sh8 i (by omega)]; simp only [Nat.mul_one, Nat.zero_add, Int.toNat_natCast] <;> rfl) | rfl)); done)); (rintro i hok; ((try dsimp only at hok); repeat (have hk := And.left hok; replace hok := And.right hok)); refine AtL.step tyOk ?_; conv => whnf)))
    | (show AtL _ _ _ _ _ _ _ _ _ _; first | (apply AtL.mk' (id := 3) (S := Nat) (i + 1); (repeat' first | exact trivial | (refine And.intro ?_ ?_) | exact LSub.nil | (with_reducible exact LSub.refl) | (apply LSub.cons; ((try show LHas _ _ _); repeat (with_reducible show LHas _ _ _); first | apply LHas.here | apply LHas.next); refine And.intro ?_ ?_; (focus (try (first | (with_reducible rfl) | (refine congrArg (Pl.mk _) ?_; (first | (with_reducible rfl) | (rw [ldN_zero]; rfl) | (rw [ldN_succ, ← sh8 i (by omega)]; simp only [Nat.mul_one, Nat.zero_add, Int.toNat_natCast] <;> rfl) | rfl)) | rfl | (with_reducible refine congrArg (Pl.mk _) ?_))))) | assumption | (first | rfl | ((conv => lhs; whnf); first | rfl | (refine congrArg (AV.int _) ?_; (exact T.num)) | (refine congrArg AV.bool ?_; (exact T.num)) | (refine vw_congr ?_; first | (exact T.num) | (first | (with_reducible rfl) | (rw [ldN_zero]; rfl) | (rw [ldN_succ, ← sh8 i (by omega)]; simp only [Nat.mul_one, Nat.zero_add, Int.toNat_natCast] <;> rfl) | rfl)) | (refine sl_congr ?_ ?_ <;> first | (exact T.num) | (first | (with_reducible rfl) | (rw [ldN_zero]; rfl) | (rw [ldN_succ, ← sh8 i (by omega)]; simp only [Nat.mul_one, Nat.zero_add, Int.toNat_natCast] <;> rfl) | rfl)) | (first | (with_reducible rfl) | (rw [ldN_zero]; rfl) | (rw [ldN_succ, ← sh8 i (by omega)]; simp only [Nat.mul_one, Nat.zero_add, Int.toNat_natCast] <;> rfl) | rfl))) | (exact T.num) | (dsimp only; (exact T.num)) | (first | (with_reducible rfl) | (rw [ldN_zero]; rfl) | (rw [ldN_succ, ← sh8 i (by omega)]; simp only [Nat.mul_one, Nat.zero_add, Int.toNat_natCast] <;> rfl) | rfl)); done) | (apply AtL.mk' (id := 3) (S := Nat) (i + 1); (repeat' first | exact trivial | (refine And.intro ?_ ?_) | exact LSub.nil | (with_reducible exact LSub.refl) | (apply LSub.cons; ((try show LHas _ _ _); repeat (with_reducible show LHas _ _ _); first | apply LHas.here | apply LHas.next); refine And.intro ?_ ?_; (focus (try (first | (with_reducible rfl) | (refine congrArg (Pl.mk _) ?_; (first | (with_reducible rfl) | (rw [ldN_zero]; rfl) | (rw [ldN_succ, ← sh8 i (by omega)]; simp only [Nat.mul_one, Nat.zero_add, Int.toNat_natCast] <;> rfl) | rfl)) | rfl | (with_reducible refine congrArg (Pl.mk _) ?_))))) | assumption | (first | rfl | ((conv => lhs; whnf); first | rfl | (refine congrArg (AV.int _) ?_; (exact T.num)) | (refine congrArg AV.bool ?_; (exact T.num)) | (refine vw_congr ?_; first | (exact T.num) | (first | (with_reducible rfl) | (rw [ldN_zero]; rfl) | (rw [ldN_succ, ← sh8 i (by omega)]; simp only [Nat.mul_one, Nat.zero_add, Int.toNat_natCast] <;> rfl) | rfl)) | (refine sl_congr ?_ ?_ <;> first | (exact T.num) | (first | (with_reducible rfl) | (rw [ldN_zero]; rfl) | (rw [ldN_succ, ← sh8 i (by omega)]; simp only [Nat.mul_one, Nat.zero_add, Int.toNat_natCast] <;> rfl) | rfl)) | (first | (with_reducible rfl) | (rw [ldN_zero]; rfl) | (rw [ldN_succ, ← sh8 i (by omega)]; simp only [Nat.mul_one, Nat.zero_add, Int.toNat_natCast] <;> rfl) | rfl))) | (exact T.num) | (dsimp only; (exact T.num)) | (first | (with_reducible rfl) | (rw [ldN_zero]; rfl) | (rw [ldN_succ, ← sh8 i (by omega)]; simp only [Nat.mul_one, Nat.zero_add, Int.toNat_natCast] <;> rfl) | rfl))))
    | (show KeepL _ _ _; first | (refine KeepL.cons ?_; ((try show LHas _ _ _); repeat (with_reducible show LHas _ _ _); first | apply LHas.here | apply LHas.next); ((try show LHas _ _ _); repeat (with_reducible show LHas _ _ _); first | apply LHas.here | apply LHas.next); refine And.intro rfl ?_) | exact KeepL.nil)
    | (show InL _ _; first | exact InL.here | refine InL.next ?_)
    | (refine dec_yes ?_ ?_; (focus (first | exact .inl rfl | (exact T.num))); conv => whnf)
    | (refine dec_no ?_ ?_; (focus (exact T.num)); conv => whnf)
    | (refine dec_both (fun h => ?_) (fun h => ?_) <;> conv => whnf)
    | (show False; (exact T.num))
    | (refine ⟨_, rfl, rfl, ?_⟩; conv => whnf)
  all_goals (try dsimp only)
  have hi : i = 8 := by omega
  subst hi
  rw [ldN_take]
  (refine RetL.val ?_ ?_; rotate_left; (focus ((repeat' first | exact LSub.nil | (with_reducible exact LSub.refl) | (apply LSub.cons; ((try show LHas _ _ _); repeat (with_reducible show LHas _ _ _); first | apply LHas.here | apply LHas.next); refine And.intro ?_ ?_; (focus (try (first | (with_reducible rfl) | (refine congrArg (Pl.mk _) ?_; (first | rfl | (simp; done))) | rfl | (with_reducible refine congrArg (Pl.mk _) ?_)))))))))
  rfl
theorem tword_c (l : List UInt8) (hl : l.length ≤ 8) : LSpec Tryd.prog G 80 [bv l] [] (fun _ => (dAV (ldN l l.length), [])) := by
  refine LSpec.introL tyOk Tryd.func80 rfl (by kernel_rfl) (by simp) (fun q => ⟨by simp, by simp⟩) ?_
  refine AWpL.sound tyOk _ _ _ _ ?_
  conv => whnf
  repeat' first
    | (show LHas _ _ _; ((try show LHas _ _ _); repeat (with_reducible show LHas _ _ _); first | apply LHas.here | apply LHas.next); conv => whnf)
    | (refine And.intro ?_ ?_; (focus (first | exact T.side)); conv => whnf)
    | (show ABr _ _ _; first | (refine ABr.tt ?_; conv => whnf) | (refine ABr.ff ?_; conv => whnf) | (refine ABr.byN ?_) | ((with_reducible refine ABr.lssT (by assumption) ?_); conv => whnf) | ((with_reducible refine ABr.lssF (by assumption) ?_); conv => whnf) | ((with_reducible refine ABr.lss (fun h => ?_) (fun h => ?_)) <;> first | (exfalso; omega) | conv => whnf) | (refine ABr.byT (by with_reducible assumption) ?_; conv => whnf) | (refine ABr.byF (by with_reducible assumption) ?_; conv => whnf) | ((with_reducible refine ABr.decT rfl ?_); conv => whnf) | ((with_reducible refine ABr.decT (by assumption) ?_); conv => whnf) | ((with_reducible refine ABr.decF (by assumption) ?_); conv => whnf) | (refine ABr.dec (fun h => ?_) (fun h => ?_) <;> first | (exfalso; omega) | conv => whnf) | (refine ABr.gen (fun h => ?_) (fun h => ?_) <;> conv => whnf))
    | (show ACell _ _ _; first | (refine ACell.cell 0 ?_ ?_; (focus (first | exact T.side)); conv => whnf) | (refine ACell.mk ?_; conv => whnf))
    | (show AList _ _; first | (refine AList.app ?_ ?_; (focus (first | exact T.side)); conv => whnf) | (refine AList.set (x := b8 _) (bAV_b8 _).symm ?_ ?_; (focus (first | exact T.side)); conv => whnf) | (refine AList.set (f := iAV) rfl ?_ ?_; (focus (first | exact T.side)); conv => whnf) | (refine AList.part ?_; conv => whnf) | (refine AList.force ?_; (conv => whnf); refine Lit.mk ?_; conv => whnf) | (refine AList.full ?_ ?_; (focus (first | exact Nat.le_of_ble_eq_true rfl | (simp; done) | (simp; omega))); conv => whnf) | (refine AList.mk ?_; conv => whnf))
    | (refine LFresh.mk fun r => ?_; conv => whnf)
    | (show SWpL _ _ _ _ _ _ _; first | (apply SWpL.loopC 3 (S := Nat) [0] (fun zz => match zz with | (i) => [(3, dAV (ldN l i)), (4, .int .i64 i)]) (fun zz => match zz with | (i) => []) (fun zz => match zz with | (i) => i ≤ l.length) (fun zz => match zz with | (i) => l.length - i) (0) (by rfl); (focus ((repeat' first | exact trivial | (refine And.intro ?_ ?_) | exact LSub.nil | (with_reducible exact LSub.refl) | (apply LSub.cons; ((try show LHas _ _ _); repeat (with_reducible show LHas _ _ _); first | apply LHas.here | apply LHas.next); refine And.intro ?_ ?_; (focus (try (first | (with_reducible rfl) | (refine congrArg (Pl.mk _) ?_; (first | (with_reducible rfl) | (rw [ldN_zero]; rfl) | (rw [ldN_succ, ← sh8u i (by omega)]; simp only [Nat.mul_one, Nat.zero_add, Int.toNat_natCast] <;> rfl) | rfl)) | rfl | (with_reducible refine congrArg (Pl.mk _) ?_))))) | assumption | (first | rfl | ((conv => lhs; whnf); first | rfl | (refine congrArg (AV.int _) ?_; (exact T.num)) | (refine congrArg AV.bool ?_; (exact T.num)) | (refine vw_congr ?_; first | (exact T.num) | (first | (with_reducible rfl) | (rw [ldN_zero]; rfl) | (rw [ldN_succ, ← sh8u i (by omega)]; simp only [Nat.mul_one, Nat.zero_add, Int.toNat_natCast] <;> rfl) | rfl)) | (refine sl_congr ?_ ?_ <;> first | (exact T.num) | (first | (with_reducible rfl) | (rw [ldN_zero]; rfl) | (rw [ldN_succ, ← sh8u i (by omega)]; simp only [Nat.mul_one, Nat.zero_add, Int.toNat_natCast] <;> rfl) | rfl)) | (first | (with_reducible rfl) | (rw [ldN_zero]; rfl) | (rw [ldN_succ, ← sh8u i (by omega)]; simp only [Nat.mul_one, Nat.zero_add, Int.toNat_natCast] <;> rfl) | rfl))) | (exact T.num) | (dsimp only; (exact T.num)) | (first | (with_reducible rfl) | (rw [ldN_zero]; rfl) | (rw [ldN_succ, ← sh8u i (by omega)]; simp only [Nat.mul_one, Nat.zero_add, Int.toNat_natCast] <;> rfl) | rfl)); done)); (rintro i hok; ((try dsimp only at hok); repeat (have hk := And.left hok; replace hok := And.right hok)); refine AtL.step tyOk ?_; conv => whnf)))
    | (show AtL _ _ _ _ _ _ _ _ _ _; first | (apply AtL.mk' (id := 3) (S := Nat) (i + 1); (repeat' first | exact trivial | (refine And.intro ?_ ?_) | exact LSub.nil | (with_reducible exact LSub.refl) | (apply LSub.cons; ((try show LHas _ _ _); repeat (with_reducible show LHas _ _ _); first | apply LHas.here | apply LHas.next); refine And.intro ?_ ?_; (focus (try (first | (with_reducible rfl) | (refine congrArg (Pl.mk _) ?_; (first | (with_reducible rfl) | (rw [ldN_zero]; rfl) | (rw [ldN_succ, ← sh8u i (by omega)]; simp only [Nat.mul_one, Nat.zero_add, Int.toNat_natCast] <;> rfl) | rfl)) | rfl | (with_reducible refine congrArg (Pl.mk _) ?_))))) | assumption | (first | rfl | ((conv => lhs; whnf); first | rfl | (refine congrArg (AV.int _) ?_; (exact T.num)) | (refine congrArg AV.bool ?_; (exact T.num)) | (refine vw_congr ?_; first | (exact T.num) | (first | (with_reducible rfl) | (rw [ldN_zero]; rfl) | (rw [ldN_succ, ← sh8u i (by omega)]; simp only [Nat.mul_one, Nat.zero_add, Int.toNat_natCast] <;> rfl) | rfl)) | (refine sl_congr ?_ ?_ <;> first | (exact T.num) | (first | (with_reducible rfl) | (rw [ldN_zero]; rfl) | (rw [ldN_succ, ← sh8u i (by omega)]; simp only [Nat.mul_one, Nat.zero_add, Int.toNat_natCast] <;> rfl) | rfl)) | (first | (with_reducible rfl) | (rw [ldN_zero]; rfl) | (rw [ldN_succ, ← sh8u i (by omega)]; simp only [Nat.mul_one, Nat.zero_add, Int.toNat_natCast] <;> rfl) | rfl))) | (exact T.num) | (dsimp only; (exact T.num)) | (first | (with_reducible rfl) | (rw [ldN_zero]; rfl) | (rw [ldN_succ, ← sh8u i (by omega)]; simp only [Nat.mul_one, Nat.zero_add, Int.toNat_natCast] <;> rfl) | rfl)); done) | (apply AtL.mk' (id := 3) (S := Nat) (i + 1); (repeat' first | exact trivial | (refine And.intro ?_ ?_) | exact LSub.nil | (with_reducible exact LSub.refl) | (apply LSub.cons; ((try show LHas _ _ _); repeat (with_reducible show LHas _ _ _); first | apply LHas.here | apply LHas.next); refine And.intro ?_ ?_; (focus (try (first | (with_reducible rfl) | (refine congrArg (Pl.mk _) ?_; (first | (with_reducible rfl) | (rw [ldN_zero]; rfl) | (rw [ldN_succ, ← sh8u i (by omega)]; simp only [Nat.mul_one, Nat.zero_add, Int.toNat_natCast] <;> rfl) | rfl)) | rfl | (with_reducible refine congrArg (Pl.mk _) ?_))))) | assumption | (first | rfl | ((conv => lhs; whnf); first | rfl | (refine congrArg (AV.int _) ?_; (exact T.num)) | (refine congrArg AV.bool ?_; (exact T.num)) | (refine vw_congr ?_; first | (exact T.num) | (first | (with_reducible rfl) | (rw [ldN_zero]; rfl) | (rw [ldN_succ, ← sh8u i (by omega)]; simp only [Nat.mul_one, Nat.zero_add, Int.toNat_natCast] <;> rfl) | rfl)) | (refine sl_congr ?_ ?_ <;> first | (exact T.num) | (first | (with_reducible rfl) | (rw [ldN_zero]; rfl) | (rw [ldN_succ, ← sh8u i (by omega)]; simp only [Nat.mul_one, Nat.zero_add, Int.toNat_natCast] <;> rfl) | rfl)) | (first | (with_reducible rfl) | (rw [ldN_zero]; rfl) | (rw [ldN_succ, ← sh8u i (by omega)]; simp only [Nat.mul_one, Nat.zero_add, Int.toNat_natCast] <;> rfl) | rfl))) | (exact T.num) | (dsimp only; (exact T.num)) | (first | (with_reducible rfl) | (rw [ldN_zero]; rfl) | (rw [ldN_succ, ← sh8u i (by omega)]; simp only [Nat.mul_one, Nat.zero_add, Int.toNat_natCast] <;> rfl) | rfl))))
    | (show KeepL _ _ _; first | (refine KeepL.cons ?_; ((try show LHas _ _ _); repeat (with_reducible show LHas _ _ _); first | apply LHas.here | apply LHas.next); ((try show LHas _ _ _); repeat (with_reducible show LHas _ _ _); first | apply LHas.here | apply LHas.next); refine And.intro rfl ?_) | exact KeepL.nil)
    | (show InL _ _; first | exact InL.here | refine InL.next ?_)
    | (show False; (exact T.num))
    | (refine ⟨_, rfl, rfl, ?_⟩; conv => whnf)
  all_goals (try dsimp only)
  have hi : i = l.length := by omega
  subst hi
  (refine RetL.val ?_ ?_; rotate_left; (focus ((repeat' first | exact LSub.nil | (with_reducible exact LSub.refl) | (apply LSub.cons; ((try show LHas _ _ _); repeat (with_reducible show LHas _ _ _); first | apply LHas.here | apply LHas.next); refine And.intro ?_ ?_; (focus (try (first | (with_reducible rfl) | (refine congrArg (Pl.mk _) ?_; (first | rfl | (simp; done))) | rfl | (with_reducible refine congrArg (Pl.mk _) ?_)))))))))
  rfl
/-- The state that a key begins with. -/
def ini (k : List UInt8) : W4 := ⟨ibits .xor .u64 (ldN k 8) 8317987319222330741, ibits .xor .u64 (ldN (k.drop 8) 8) 7237128888997146477, ibits .xor .u64 (ldN k 8) 7816392313619706465, ibits .xor .u64 (ldN (k.drop 8) 8) 8387220255154660723⟩
theorem begin_c (k : List UInt8) (hk : k.length = 16) : LSpec Tryd.prog G 84 [bv k] [] (fun q => (.ptr q 0, [(q, ⟨108, (ini k).cs⟩)])) := by
  refine LSpec.introL tyOk Tryd.func84 rfl (by kernel_rfl) (by simp) (fun q => ⟨by simp, by simp⟩) ?_
  refine AWpL.sound tyOk _ _ _ _ ?_
  conv => whnf
  repeat' first
    | (show LHas _ _ _; ((try show LHas _ _ _); repeat (with_reducible show LHas _ _ _); first | apply LHas.here | apply LHas.next); conv => whnf)
    | (refine And.intro ?_ ?_; (focus (first | exact T.side)); conv => whnf)
    | (show LCall _ _ _ _ _ _; first | (refine LCall.pure (tload_c k (by omega)) ?_; conv => whnf) | (refine LCall.pure (tload_c (k.drop 8) (by simp; omega)) ?_; conv => whnf) | (apply LCall.eq; (focus (repeat first | (apply cons_congr; (focus (first | exact sl_bv rfl | exact sl_bv (by first | (simp; done) | (simp; (exact T.num))) | exact rfl))) | exact rfl)); first | (refine LCall.pure (tload_c k (by omega)) ?_; conv => whnf) | (refine LCall.pure (tload_c (k.drop 8) (by simp; omega)) ?_; conv => whnf)))
    | (show ABr _ _ _; first | (refine ABr.tt ?_; conv => whnf) | (refine ABr.ff ?_; conv => whnf) | (refine ABr.byN ?_) | (refine ABr.byT (by with_reducible assumption) ?_; conv => whnf) | (refine ABr.byF (by with_reducible assumption) ?_; conv => whnf) | ((with_reducible refine ABr.decT rfl ?_); conv => whnf) | ((with_reducible refine ABr.decT (by assumption) ?_); conv => whnf) | ((with_reducible refine ABr.decF (by assumption) ?_); conv => whnf) | (refine ABr.dec (fun h => ?_) (fun h => ?_) <;> first | (exfalso; omega) | conv => whnf) | (refine ABr.gen (fun h => ?_) (fun h => ?_) <;> conv => whnf))
    | (show ACell _ _ _; first | (refine ACell.cell 0 ?_ ?_; (focus (first | exact T.side)); conv => whnf) | (refine ACell.mk ?_; conv => whnf))
    | (show AList _ _; first | (refine AList.tailE 8 ?_ ?_ ?_; (focus rfl); (focus (simp; omega)); conv => whnf) | (refine AList.app ?_ ?_; (focus (first | exact T.side)); conv => whnf) | (refine AList.set (x := b8 _) (bAV_b8 _).symm ?_ ?_; (focus (first | exact T.side)); conv => whnf) | (refine AList.set (f := iAV) rfl ?_ ?_; (focus (first | exact T.side)); conv => whnf) | (refine AList.part ?_; conv => whnf) | (refine AList.force ?_; (conv => whnf); refine Lit.mk ?_; conv => whnf) | (refine AList.full ?_ ?_; (focus (first | exact Nat.le_of_ble_eq_true rfl | (simp; done) | (simp; omega))); conv => whnf) | (refine AList.mk ?_; conv => whnf))
    | (refine LFresh.mk fun r => ?_; conv => whnf)
    | (show SWpL _ _ _ _ _ _ _; first | (apply SWpL.draw tyOk mixed (id := 1) [[], [0], [], [2], [3, 2, 1, 0], [1, 0, 4, 3, 2], [4, 3, 2, 1, 0, 5]] [] [0, 2, 3, 1, 4, 5, 6] [] (by kernel_rfl); conv => whnf))
    | (show KeepL _ _ _; first | (refine KeepL.cons ?_; ((try show LHas _ _ _); repeat (with_reducible show LHas _ _ _); first | apply LHas.here | apply LHas.next); ((try show LHas _ _ _); repeat (with_reducible show LHas _ _ _); first | apply LHas.here | apply LHas.next); refine And.intro rfl ?_) | exact KeepL.nil)
    | (show InL _ _; first | exact InL.here | refine InL.next ?_)
    | (refine dec_yes ?_ ?_; (focus (first | exact .inl rfl | (exact T.num))); conv => whnf)
    | (refine dec_no ?_ ?_; (focus (exact T.num)); conv => whnf)
    | (refine dec_both (fun h => ?_) (fun h => ?_) <;> conv => whnf)
    | (show False; (exact T.num))
    | exact Nm.b 0
  all_goals (try dsimp only)
  refine RetL.own r rfl ?_ ?_
  · ((try show LHas _ _ _); repeat (with_reducible show LHas _ _ _); first | apply LHas.here | apply LHas.next); trivial
  · (repeat' first | exact LSub.nil | (with_reducible exact LSub.refl) | (apply LSub.cons; ((try show LHas _ _ _); repeat (with_reducible show LHas _ _ _); first | apply LHas.here | apply LHas.next); refine And.intro ?_ ?_; (focus (try (first | (with_reducible rfl) | (refine congrArg (Pl.mk _) ?_; (first | rfl | (simp; done))) | rfl | (with_reducible refine congrArg (Pl.mk _) ?_))))))
theorem ini_eq (k : List UInt8) : ini k = ⟨ibits .xor .u64 (ldN k 8) 8317987319222330741, ibits .xor .u64 (ldN (k.drop 8) 8) 7237128888997146477, ibits .xor .u64 (ldN k 8) 7816392313619706465, ibits .xor .u64 (ldN (k.drop 8) 8) 8387220255154660723⟩ := rfl
attribute [irreducible] ini
/-- The last word: what is left, and the length in the highest byte. -/
def lastW (r : List UInt8) (n : Nat) : Int := ibits .or .u64 (ldN r r.length) (IntKind.u64.wrap (IntKind.u64.wrap ((n : Int).tmod 256) * 2 ^ min 56 64))
def wholeW (l : List UInt8) (k : Nat) : List Int := (List.range k).map fun i => ldN (l.drop (8 * i)) 8
theorem wholeW_zero (l : List UInt8) : wholeW l 0 = [] := rfl
theorem wholeW_succ (l : List UInt8) (k : Nat) : wholeW l (k + 1) = wholeW l k ++ [ldN (l.drop (8 * k)) 8] := by simp [wholeW, List.range_succ]
@[simp] theorem wholeW_len (l : List UInt8) (k : Nat) : (wholeW l k).length = k := by simp [wholeW]
theorem wholeW_eq (l : List UInt8) (k : Nat) : wholeW l k = (List.range k).map fun i => ldN (l.drop (8 * i)) 8 := rfl
attribute [irreducible] wholeW
def wds (l : List UInt8) : List Int := wholeW l (l.length / 8) ++ [lastW (l.drop (8 * (l.length / 8))) l.length]
theorem wds_eq (l : List UInt8) : wds l = wholeW l (l.length / 8) ++ [lastW (l.drop (8 * (l.length / 8))) l.length] := rfl
@[simp] theorem wds_len (l : List UInt8) : (wds l).length = l.length / 8 + 1 := by simp [wds]
attribute [irreducible] wds
theorem or0 (x : Int) (h0 : 0 ≤ x) (h1 : x < 18446744073709551616) : ibits .or .u64 x 0 = x := by
  unfold ibits
  show IntKind.u64.wrap ((BitVec.ofInt 64 x ||| BitVec.ofInt 64 0).toNat : Int) = x
  rw [show BitVec.ofInt 64 0 = 0#64 from rfl, BitVec.or_zero, BitVec.toNat_ofInt, IntKind.wrap_u64]
  omega
theorem ibits_u64 (op : BinOp) (a b : Int) : 0 ≤ ibits op .u64 a b ∧ ibits op .u64 a b < 18446744073709551616 := by
  unfold ibits
  cases op <;> simp only [IntKind.wrap_u64] <;> omega
theorem ldN_rng (l : List UInt8) (n : Nat) : 0 ≤ ldN l n ∧ ldN l n < 18446744073709551616 := by
  cases n with
  | zero => rw [ldN_zero]; omega
  | succ n => rw [ldN_succ]; exact ibits_u64 _ _ _
theorem ldN_zeros (l : List UInt8) (k n : Nat) (h : ∀ i, k ≤ i → i < n → l.getD i 0 = 0) (hk : k ≤ n) : ldN l n = ldN l k := by
  induction n with
  | zero => rw [show k = 0 by omega]
  | succ n ih =>
    by_cases hkn : k = n + 1
    · rw [hkn]
    · rw [ldN_succ, h n (by omega) (by omega), show IntKind.u64.wrap (IntKind.u64.wrap (((0 : UInt8).toNat : Nat) : Int) * 2 ^ min (8 * n) 64) = 0 by simp [IntKind.wrap_u64], or0 _ (ldN_rng _ _).1 (ldN_rng _ _).2]
      exact ih (fun i h1 h2 => h i h1 (by omega)) (by omega)
/-- The eight bytes of the last word make it. -/
theorem lastW_eq (r : List UInt8) (n : Nat) (hr : r.length ≤ 7) : ldN ((r ++ List.replicate (7 - r.length) 0) ++ [b8 n]) 8 = lastW r n := by
  have hz : (r ++ List.replicate (7 - r.length) (0 : UInt8)).length = 7 := by simp; omega
  rw [ldN_succ, lastW]
  have e1 : ldN ((r ++ List.replicate (7 - r.length) 0) ++ [b8 n]) 7 = ldN r r.length := by
    rw [ldN_zeros _ r.length 7 _ hr]
    · exact ldN_congr _ _ _ fun i hi => by simp only [List.getD_eq_getElem?_getD]; rw [List.append_assoc, List.getElem?_append_left hi]
    · intro i h1 h2
      simp only [List.getD_eq_getElem?_getD]
      rw [List.getElem?_append_left (by omega), List.getElem?_append_right h1]
      rw [List.getElem?_replicate]
      split <;> rfl
  have e2 : ((r ++ List.replicate (7 - r.length) 0) ++ [b8 n]).getD 7 0 = b8 n := by
    simp only [List.getD_eq_getElem?_getD]
    rw [List.getElem?_append_right (by omega), hz]
    rfl
  have e3 : ((b8 (n : Int)).toNat : Int) = (n : Int).tmod 256 := by
    unfold b8
    rw [Int.tmod_eq_emod_of_nonneg (by omega)]
    simp
    omega
  rw [e1, e2, e3]
theorem last_row (r : List UInt8) (h : r.length ≤ 7) : splice [AV.int .u8 0, .int .u8 0, .int .u8 0, .int .u8 0, .int .u8 0, .int .u8 0, .int .u8 0, .int .u8 0] 0 (r.map bAV) = (r ++ List.replicate (8 - r.length) 0).map bAV := by
  unfold splice
  rw [show [AV.int .u8 0, .int .u8 0, .int .u8 0, .int .u8 0, .int .u8 0, .int .u8 0, .int .u8 0, .int .u8 0] = List.replicate 8 (bAV 0) from rfl, List.drop_replicate, List.map_append, List.map_replicate, List.length_map, Nat.zero_add]
  rfl
theorem last_set (r : List UInt8) (x : UInt8) (h : r.length ≤ 7) : (r ++ List.replicate (8 - r.length) 0).set 7 x = (r ++ List.replicate (7 - r.length) 0) ++ [x] := by
  rw [show 8 - r.length = (7 - r.length) + 1 by omega, List.replicate_succ', ← List.append_assoc, List.set_append_right _ _ (by simp; omega)]
  simp
  rw [show 7 - (r.length + (7 - r.length)) = 0 by omega]
  rfl
end Go.Proofs.YtdpfcpkedaolfaaDoor
