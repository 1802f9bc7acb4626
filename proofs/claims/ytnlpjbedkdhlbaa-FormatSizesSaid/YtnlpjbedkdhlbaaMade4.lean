import Derived.Test.YtnlpjbedkdhlbaaMade3
namespace Go.Proofs.Ytnlpjbedkdhlbaa
open Go.RowKit
set_option linter.all false
variable {G : Nat → AV}
/-- One bit of a byte is turned. -/
def flip8 (c : UInt8) (n : Int) : UInt8 := b8 (ibits .xor .u8 c.toNat (IntKind.u8.wrap (1 * 2 ^ (min (IntKind.u64.wrap n).toNat 8))))
theorem bAV_flip (c : UInt8) (n : Int) : bAV (flip8 c n) = .int .u8 (ibits .xor .u8 c.toNat (IntKind.u8.wrap (1 * 2 ^ (min (IntKind.u64.wrap n).toNat 8)))) := by
  rw [flip8, bAV_b8]
  simp [ibits, IntKind.wrap_u8]
def spoilR (t : List Int) (a : Nat) (b : List UInt8) : List UInt8 :=
  if b.length = 0 then [b8 (nextR t a 256)]
  else if nextR t (adv t a 2) 4 = 0 then b.set (nextR t (adv t a 1) b.length).toNat (b8 (nextR t a 256))
  else if nextR t (adv t a 2) 4 = 1 then b.set (nextR t (adv t a 1) b.length).toNat (flip8 (b.getD (nextR t (adv t a 1) b.length).toNat 0) (nextR t (adv t a 3) 8))
  else if nextR t (adv t a 2) 4 = 2 then b.take (nextR t (adv t a 1) b.length).toNat ++ b.drop ((nextR t (adv t a 1) b.length).toNat + 1)
  else b.take (nextR t (adv t a 1) b.length).toNat ++ b8 (nextR t a 256) :: b.drop (nextR t (adv t a 1) b.length).toNat
def spoilA (t : List Int) (a : Nat) (b : List UInt8) : Nat := if b.length = 0 then adv t a 1 else if nextR t (adv t a 2) 4 = 1 then adv t a 4 else adv t a 3
theorem dspoil_c (t : List Int) (a : Nat) (b : List UInt8) (hl : b.length ≤ 3000) (ht : t.length ≤ 400) (p : Nm) : LSpec Try.prog G 27 [.ptr p 0, bv b] [(p, dice t a)] (fun _ => (bv (spoilR t a b), [(p, dice t (spoilA t a b))])) := by
  have hk : 0 < b.length → 0 ≤ nextR t (nextA t a) b.length ∧ nextR t (nextA t a) b.length < b.length := fun h => nextR_lt _ _ _ (by omega) (by omega)
  refine LSpec.introL tyOk Try.func27 rfl (by kernel_rfl) (by simp) (fun q => ⟨by simp, by simp⟩) ?_
  refine AWpL.sound tyOk [] _ _ _ _ ?_
  conv => whnf
  repeat' first
    | (show LHas _ _ _; ((try show LHas _ _ _); repeat (with_reducible show LHas _ _ _); first | apply LHas.here | apply LHas.next); conv => whnf)
    | ((first | (with_reducible refine And.intro ?_ ?_) | refine And.intro ?_ ?_); (focus (first | exact T.side)); conv => whnf)
    | (show LCall _ _ _ _ _ _; first | (apply LCall.upd (next_c t _ _ ht _); ((try show LHas _ _ _); repeat (with_reducible show LHas _ _ _); first | apply LHas.here | apply LHas.next); refine And.intro rfl ?_; conv => whnf) | (apply LCall.eq; (focus (repeat first | (apply cons_congr; (focus (first | exact sl_bv rfl | exact sl_bv (by first | (simp; done) | (simp; (exact T.num))) | exact rfl))) | exact rfl)); first | (apply LCall.upd (next_c t _ _ ht _); ((try show LHas _ _ _); repeat (with_reducible show LHas _ _ _); first | apply LHas.here | apply LHas.next); refine And.intro rfl ?_; conv => whnf)))
    | (show ABr _ _ _; first | (refine ABr.tt ?_; conv => whnf) | (refine ABr.ff ?_; conv => whnf) | (refine ABr.byN ?_) | ((with_reducible refine ABr.eqlT (by assumption) ?_); conv => whnf) | ((with_reducible refine ABr.eqlF (by assumption) ?_); conv => whnf) | ((with_reducible refine ABr.eql (fun h => ?_) (fun h => ?_)) <;> first | (exfalso; omega) | conv => whnf) | (refine ABr.byT (by with_reducible assumption) ?_; conv => whnf) | (refine ABr.byF (by with_reducible assumption) ?_; conv => whnf) | ((with_reducible refine ABr.decT rfl ?_); conv => whnf) | ((with_reducible refine ABr.decT (by assumption) ?_); conv => whnf) | ((with_reducible refine ABr.decF (by assumption) ?_); conv => whnf) | (refine ABr.dec (fun h => ?_) (fun h => ?_) <;> first | (exfalso; omega) | conv => whnf) | (refine ABr.gen (fun h => ?_) (fun h => ?_) <;> conv => whnf))
    | (show ACell _ _ _; first | (refine ACell.cell 0 ?_ ?_; (focus (first | exact T.side)); conv => whnf) | (refine ACell.mk ?_; conv => whnf))
    | (show AList _ _; first | (refine AList.set (bAV_flip _ _).symm ?_ ?_; (focus (simp; omega)); conv => whnf) | (refine AList.app ?_ ?_; (focus (first | exact T.side)); conv => whnf) | (refine AList.set (x := b8 _) (bAV_b8 _).symm ?_ ?_; (focus (first | exact T.side)); conv => whnf) | (refine AList.set (f := iAV) rfl ?_ ?_; (focus (first | exact T.side)); conv => whnf) | (refine AList.part ?_; conv => whnf) | (refine AList.force ?_; (conv => whnf); refine Lit.mk ?_; conv => whnf) | (refine AList.full ?_ ?_; (focus (first | exact Nat.le_of_ble_eq_true rfl | (simp; done) | (simp; omega))); conv => whnf) | (refine AList.mk ?_; conv => whnf))
    | (refine LFresh.mk fun r => ?_; conv => whnf)
    | (show SWpL _ _ _ _ _ _ _; first | (apply SWpL.draw tyOk mixed (id := 11) [[], [], [0, 1], [2, 0, 1], [], [4], [5, 4], [6, 5, 4], [3, 2, 0, 1, 7, 6, 5, 4], [0, 1, 2, 3, 4, 5, 6, 7, 8], [9, 0, 1, 2, 3, 4, 5, 6, 7, 8]] [3, 5] [0, 1, 2, 3, 4, 5, 6, 7, 8, 9, 10] [_] (by kernel_rfl); conv => whnf) | (apply SWpL.draw tyOk mixed (id := 11) [[], [], [0, 1], [2, 0, 1], [], [4], [5, 4], [6, 5, 4], [3, 2, 0, 1, 7, 6, 5, 4], [0, 1, 2, 3, 4, 5, 6, 7, 8], [9, 0, 1, 2, 3, 4, 5, 6, 7, 8]] [3, 5] [0, 1, 2, 3, 4, 5, 6, 7, 8, 9, 10] [] (by kernel_rfl); conv => whnf) | (apply SWpL.draw tyOk mixed (id := 13) [[], [], [0, 1], [], [], [4], [3, 5, 4], [2, 0, 1, 6, 3, 5, 4], [7, 2, 0, 1, 6, 3, 5, 4]] [] [0, 1, 2, 3, 4, 5, 6, 7, 8] [_] (by kernel_rfl); conv => whnf) | (apply SWpL.draw tyOk mixed (id := 13) [[], [], [0, 1], [], [], [4], [3, 5, 4], [2, 0, 1, 6, 3, 5, 4], [7, 2, 0, 1, 6, 3, 5, 4]] [] [0, 1, 2, 3, 4, 5, 6, 7, 8] [] (by kernel_rfl); conv => whnf) | (apply SWpL.draw tyOk mixed (id := 7) [[], [], [0, 1], [], [3], [], [], [5, 6], [4, 3, 7, 5, 6], [2, 0, 1, 8, 4, 3, 7, 5, 6], [9, 2, 0, 1, 8, 4, 3, 7, 5, 6]] [] [0, 1, 2, 3, 5, 6, 7, 4, 8, 9, 10] [_] (by kernel_rfl); conv => whnf) | (apply SWpL.draw tyOk mixed (id := 7) [[], [], [0, 1], [], [3], [], [], [5, 6], [4, 3, 7, 5, 6], [2, 0, 1, 8, 4, 3, 7, 5, 6], [9, 2, 0, 1, 8, 4, 3, 7, 5, 6]] [] [0, 1, 2, 3, 5, 6, 7, 4, 8, 9, 10] [] (by kernel_rfl); conv => whnf))
    | (show KeepL _ _ _; first | (with_reducible exact KeepL.refl) | (refine KeepL.cons ?_; ((try show LHas _ _ _); repeat (with_reducible show LHas _ _ _); first | apply LHas.here | apply LHas.next); ((try show LHas _ _ _); repeat (with_reducible show LHas _ _ _); first | apply LHas.here | apply LHas.next); refine And.intro rfl ?_) | exact KeepL.nil)
    | (show InL _ _; first | exact InL.here | refine InL.next ?_)
    | (refine dec_yes ?_ ?_; (focus (first | exact .inl rfl | (exact T.num))); conv => whnf)
    | (refine dec_no ?_ ?_; (focus (exact T.num)); conv => whnf)
    | (refine dec_both (fun h => ?_) (fun h => ?_) <;> conv => whnf)
    | (show False; (exact T.num))
    | exact Nm.b 0
    | (refine ⟨_, rfl, rfl, ?_⟩; conv => whnf)
  all_goals (try dsimp only)
  · have h' : b.length = 0 := by omega
    (refine RetL.rowF ?_; ((try show LHas _ _ _); repeat (with_reducible show LHas _ _ _); first | apply LHas.here | apply LHas.next); refine And.intro ?_ (And.intro ?_ ?_); rotate_left; rotate_left; (focus ((repeat' first | exact LSub.nil | (with_reducible exact LSub.refl) | (apply LSub.cons; ((try show LHas _ _ _); repeat (with_reducible show LHas _ _ _); first | apply LHas.here | apply LHas.next); refine And.intro ?_ ?_; (focus (try (first | (with_reducible rfl) | (refine congrArg (Pl.mk _) ?_; (first | rfl | (simp; done))) | rfl | (with_reducible refine congrArg (Pl.mk _) ?_)))))))))
    · simp [spoilA, h', adv]
    · simp [spoilR, h', bAV_b8]
    · simp [spoilR, h']
  · have h0 : ¬ b.length = 0 := by omega
    have e : spoilR t a b = b.set (nextR t (nextA t a) b.length).toNat (b8 (nextR t a 256)) := by simp [spoilR, h0, h, adv]
    rw [e]
    (refine RetL.rowF ?_; ((try show LHas _ _ _); repeat (with_reducible show LHas _ _ _); first | apply LHas.here | apply LHas.next); refine And.intro ?_ (And.intro ?_ ?_); rotate_left; rotate_left; (focus ((repeat' first | exact LSub.nil | (with_reducible exact LSub.refl) | (apply LSub.cons; ((try show LHas _ _ _); repeat (with_reducible show LHas _ _ _); first | apply LHas.here | apply LHas.next); refine And.intro ?_ ?_; (focus (try (first | (with_reducible rfl) | (refine congrArg (Pl.mk _) ?_; (first | rfl | (simp; done))) | rfl | (with_reducible refine congrArg (Pl.mk _) ?_)))))))))
    · simp [spoilA, h0, h, adv]
    · simp
    · simp
  · have h0 : ¬ b.length = 0 := by omega
    have e : spoilR t a b = b.set (nextR t (nextA t a) b.length).toNat (flip8 (b.getD (nextR t (nextA t a) b.length).toNat 0) (nextR t (nextA t (nextA t (nextA t a))) 8)) := by simp [spoilR, h0, h, adv]
    rw [e]
    (refine RetL.rowF ?_; ((try show LHas _ _ _); repeat (with_reducible show LHas _ _ _); first | apply LHas.here | apply LHas.next); refine And.intro ?_ (And.intro ?_ ?_); rotate_left; rotate_left; (focus ((repeat' first | exact LSub.nil | (with_reducible exact LSub.refl) | (apply LSub.cons; ((try show LHas _ _ _); repeat (with_reducible show LHas _ _ _); first | apply LHas.here | apply LHas.next); refine And.intro ?_ ?_; (focus (try (first | (with_reducible rfl) | (refine congrArg (Pl.mk _) ?_; (first | rfl | (simp; done))) | rfl | (with_reducible refine congrArg (Pl.mk _) ?_)))))))))
    · simp [spoilA, h0, h, adv]
    · simp
    · simp
  · have h0 : ¬ b.length = 0 := by omega
    have hw : nextR t (nextA t (nextA t a)) 4 = 2 := by assumption
    have hk' := hk (by omega)
    have h2 : (iarith .add .i64 (nextR t (nextA t a) b.length) 1).toNat = (nextR t (nextA t a) b.length).toNat + 1 := by (exact T.num)
    have e : spoilR t a b = b.take (nextR t (nextA t a) b.length).toNat ++ b.drop ((nextR t (nextA t a) b.length).toNat + 1) := by simp [spoilR, h0, hw, adv]
    rw [e]
    (refine RetL.rowF ?_; ((try show LHas _ _ _); repeat (with_reducible show LHas _ _ _); first | apply LHas.here | apply LHas.next); refine And.intro ?_ (And.intro ?_ ?_); rotate_left; rotate_left; (focus ((repeat' first | exact LSub.nil | (with_reducible exact LSub.refl) | (apply LSub.cons; ((try show LHas _ _ _); repeat (with_reducible show LHas _ _ _); first | apply LHas.here | apply LHas.next); refine And.intro ?_ ?_; (focus (try (first | (with_reducible rfl) | (refine congrArg (Pl.mk _) ?_; (first | rfl | (simp; done))) | rfl | (with_reducible refine congrArg (Pl.mk _) ?_)))))))))
    · simp [spoilA, h0, hw, adv]
    · simp [h2, List.take_of_length_le]
    · simp [h2]; omega
  · have h0 : ¬ b.length = 0 := by omega
    have hw : nextR t (nextA t (nextA t a)) 4 = 2 := by assumption
    have hk' := hk (by omega)
    have hi : (nextR t (nextA t a) b.length).toNat + 1 = b.length := by (exact T.num)
    have e : spoilR t a b = b.take (nextR t (nextA t a) b.length).toNat ++ b.drop ((nextR t (nextA t a) b.length).toNat + 1) := by simp [spoilR, h0, hw, adv]
    rw [e, hi]
    (refine RetL.rowF ?_; ((try show LHas _ _ _); repeat (with_reducible show LHas _ _ _); first | apply LHas.here | apply LHas.next); refine And.intro ?_ (And.intro ?_ ?_); rotate_left; rotate_left; (focus ((repeat' first | exact LSub.nil | (with_reducible exact LSub.refl) | (apply LSub.cons; ((try show LHas _ _ _); repeat (with_reducible show LHas _ _ _); first | apply LHas.here | apply LHas.next); refine And.intro ?_ ?_; (focus (try (first | (with_reducible rfl) | (refine congrArg (Pl.mk _) ?_; (first | rfl | (simp; done))) | rfl | (with_reducible refine congrArg (Pl.mk _) ?_)))))))))
    · simp [spoilA, h0, hw, adv]
    · simp
    · simp; omega
  · have h0 : ¬ b.length = 0 := by omega
    have hw0 : ¬ nextR t (nextA t (nextA t a)) 4 = 0 := by assumption
    have hw1 : ¬ nextR t (nextA t (nextA t a)) 4 = 1 := by assumption
    have hw2 : ¬ nextR t (nextA t (nextA t a)) 4 = 2 := by assumption
    have hk' := hk (by omega)
    have e : spoilR t a b = b.take (nextR t (nextA t a) b.length).toNat ++ b8 (nextR t a 256) :: b.drop (nextR t (nextA t a) b.length).toNat := by simp [spoilR, h0, hw0, hw1, hw2, adv]
    rw [e]
    (refine RetL.rowF ?_; ((try show LHas _ _ _); repeat (with_reducible show LHas _ _ _); first | apply LHas.here | apply LHas.next); refine And.intro ?_ (And.intro ?_ ?_); rotate_left; rotate_left; (focus ((repeat' first | exact LSub.nil | (with_reducible exact LSub.refl) | (apply LSub.cons; ((try show LHas _ _ _); repeat (with_reducible show LHas _ _ _); first | apply LHas.here | apply LHas.next); refine And.intro ?_ ?_; (focus (try (first | (with_reducible rfl) | (refine congrArg (Pl.mk _) ?_; (first | rfl | (simp; done))) | rfl | (with_reducible refine congrArg (Pl.mk _) ?_)))))))))
    · simp [spoilA, h0, hw1, adv]
    · simp [bAV_b8, Nat.add_comm 1, List.take_of_length_le, List.take_append]
    · simp; omega
end Go.Proofs.Ytnlpjbedkdhlbaa
