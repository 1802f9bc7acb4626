import Derived.Test.YtnlpjbedkdhlbaaMade1
namespace Go.Proofs.Ytnlpjbedkdhlbaa
open Go.RowKit
set_option linter.all false
variable {G : Nat → AV}
def oneR (t : List Int) (a : Nat) (n : Int) : Bool := icmp .eql (nextR t a n) (iarith .sub .i64 n 1)
theorem one_c (t : List Int) (a : Nat) (n : Int) (ht : t.length ≤ 400) (p : Nm) : LSpec Try.prog G 19 [.ptr p 0, iAV n] [(p, dice t a)] (fun _ => (.bool (oneR t a n), [(p, dice t (nextA t a))])) := by
  refine LSpec.introL tyOk Try.func19 rfl (by kernel_rfl) (by simp) (fun q => ⟨by simp, by simp⟩) ?_
  refine AWpL.sound tyOk [] _ _ _ _ ?_
  conv => whnf
  repeat' first
    | (show LHas _ _ _; ((try show LHas _ _ _); repeat (with_reducible show LHas _ _ _); first | apply LHas.here | apply LHas.next); conv => whnf)
    | ((first | (with_reducible refine And.intro ?_ ?_) | refine And.intro ?_ ?_); (focus (first | exact T.side)); conv => whnf)
    | (show LCall _ _ _ _ _ _; first | (apply LCall.upd (next_c t _ _ ht _); ((try show LHas _ _ _); repeat (with_reducible show LHas _ _ _); first | apply LHas.here | apply LHas.next); refine And.intro rfl ?_; conv => whnf) | (apply LCall.eq; (focus (repeat first | (apply cons_congr; (focus (first | exact sl_bv rfl | exact sl_bv (by first | (simp; done) | (simp; (exact T.num))) | exact rfl))) | exact rfl)); first | (apply LCall.upd (next_c t _ _ ht _); ((try show LHas _ _ _); repeat (with_reducible show LHas _ _ _); first | apply LHas.here | apply LHas.next); refine And.intro rfl ?_; conv => whnf)))
    | (show ABr _ _ _; first | (refine ABr.tt ?_; conv => whnf) | (refine ABr.ff ?_; conv => whnf) | (refine ABr.byN ?_) | ((with_reducible refine ABr.eqlT (by assumption) ?_); conv => whnf) | ((with_reducible refine ABr.eqlF (by assumption) ?_); conv => whnf) | ((with_reducible refine ABr.eql (fun h => ?_) (fun h => ?_)) <;> first | (exfalso; omega) | conv => whnf) | (refine ABr.byT (by with_reducible assumption) ?_; conv => whnf) | (refine ABr.byF (by with_reducible assumption) ?_; conv => whnf) | ((with_reducible refine ABr.decT rfl ?_); conv => whnf) | ((with_reducible refine ABr.decT (by assumption) ?_); conv => whnf) | ((with_reducible refine ABr.decF (by assumption) ?_); conv => whnf) | (refine ABr.dec (fun h => ?_) (fun h => ?_) <;> first | (exfalso; omega) | conv => whnf) | (refine ABr.gen (fun h => ?_) (fun h => ?_) <;> conv => whnf))
    | (show ACell _ _ _; first | (refine ACell.cell 0 ?_ ?_; (focus (first | exact T.side)); conv => whnf) | (refine ACell.mk ?_; conv => whnf))
    | (show AList _ _; first | (refine AList.app ?_ ?_; (focus (first | exact T.side)); conv => whnf) | (refine AList.set (x := b8 _) (bAV_b8 _).symm ?_ ?_; (focus (first | exact T.side)); conv => whnf) | (refine AList.set (f := iAV) rfl ?_ ?_; (focus (first | exact T.side)); conv => whnf) | (refine AList.part ?_; conv => whnf) | (refine AList.force ?_; (conv => whnf); refine Lit.mk ?_; conv => whnf) | (refine AList.full ?_ ?_; (focus (first | exact Nat.le_of_ble_eq_true rfl | (simp; done) | (simp; omega))); conv => whnf) | (refine AList.mk ?_; conv => whnf))
    | (refine LFresh.mk fun r => ?_; conv => whnf)
    | (show KeepL _ _ _; first | (with_reducible exact KeepL.refl) | (refine KeepL.cons ?_; ((try show LHas _ _ _); repeat (with_reducible show LHas _ _ _); first | apply LHas.here | apply LHas.next); ((try show LHas _ _ _); repeat (with_reducible show LHas _ _ _); first | apply LHas.here | apply LHas.next); refine And.intro rfl ?_) | exact KeepL.nil)
    | (show InL _ _; first | exact InL.here | refine InL.next ?_)
    | (show False; (exact T.num))
  all_goals (try dsimp only)
  (refine RetL.val ?_ ?_; rotate_left; (focus ((repeat' first | exact LSub.nil | (with_reducible exact LSub.refl) | (apply LSub.cons; ((try show LHas _ _ _); repeat (with_reducible show LHas _ _ _); first | apply LHas.here | apply LHas.next); refine And.intro ?_ ?_; (focus (try (first | (with_reducible rfl) | (refine congrArg (Pl.mk _) ?_; (first | rfl | (simp; done))) | rfl | (with_reducible refine congrArg (Pl.mk _) ?_)))))))))
  rfl
def bitsR (t : List Int) (a : Nat) : Int := [5, 5, 6, 9].getD (nextR t a 4).toNat 0
/-- Keys. -/
structure Ky where
  s : List UInt8
  g : List UInt8
  n : Int
  b : Int
  d : Int
def Ky.av (k : Ky) : AV := .agg [bv k.s, bv k.g, iAV k.n, iAV k.b, iAV k.d]
/-- The place behind some looks. -/
def adv (t : List Int) (a : Nat) : Nat → Nat
  | 0 => a
  | k + 1 => nextA t (adv t a k)
def keyR (t : List Int) (a : Nat) : Ky := ⟨filled 32 (nextR t a 256), filled 16 (nextR t (adv t a 1) 256), nextR t (adv t a 2) 5, nextR t (adv t a 3) 3, nextR t (adv t a 4) 2⟩
/-- made.Bytes -/
def bytesL (t : List Int) (a k : Nat) : List UInt8 := (List.range k).map fun j => b8 (nextR t (adv t a j) 256)
@[simp] theorem bytesL_len (t : List Int) (a k : Nat) : (bytesL t a k).length = k := by simp [bytesL]
def manyR (t : List Int) (a : Nat) (most : Int) : Nat := (nextR t a (iarith .add .i64 most 1)).toNat
theorem dbytes_c (t : List Int) (a : Nat) (most : Int) (h0 : 0 ≤ most) (h1 : most ≤ 1000) (ht : t.length ≤ 400) (p : Nm) : LSpec Try.prog G 45 [.ptr p 0, iAV most] [(p, dice t a)] (fun _ => (bv (bytesL t (nextA t a) (manyR t a most)), [(p, dice t (adv t (nextA t a) (manyR t a most)))])) := by
  have hm : iarith .add .i64 most 1 = most + 1 := by (exact T.num)
  have hb := nextR_lt t a (iarith .add .i64 most 1) (by omega) (by omega)
  have hN : nextR t a (iarith .add .i64 most 1) = (manyR t a most : Int) := by unfold manyR; omega
  refine LSpec.introL tyOk Try.func45 rfl (by kernel_rfl) (by simp) (fun q => ⟨by simp, by simp⟩) ?_
  refine AWpL.sound tyOk [] _ _ _ _ ?_
  conv => whnf
  repeat' first
    | (show LHas _ _ _; ((try show LHas _ _ _); repeat (with_reducible show LHas _ _ _); first | apply LHas.here | apply LHas.next); conv => whnf)
    | ((first | (with_reducible refine And.intro ?_ ?_) | refine And.intro ?_ ?_); (focus (first | exact T.side)); conv => whnf)
    | (show LCall _ _ _ _ _ _; first | (apply LCall.upd (next_c t _ _ ht _); ((try show LHas _ _ _); repeat (with_reducible show LHas _ _ _); first | apply LHas.here | apply LHas.next); refine And.intro rfl ?_; conv => whnf) | (apply LCall.eq; (focus (repeat first | (apply cons_congr; (focus (first | exact sl_bv rfl | exact sl_bv (by first | (simp; done) | (simp; (exact T.num))) | exact rfl))) | exact rfl)); first | (apply LCall.upd (next_c t _ _ ht _); ((try show LHas _ _ _); repeat (with_reducible show LHas _ _ _); first | apply LHas.here | apply LHas.next); refine And.intro rfl ?_; conv => whnf)))
    | (show ABr _ _ _; first | (refine ABr.tt ?_; conv => whnf) | (refine ABr.ff ?_; conv => whnf) | (refine ABr.byN ?_) | ((with_reducible refine ABr.gtrT (by assumption) ?_); conv => whnf) | ((with_reducible refine ABr.gtrF (by assumption) ?_); conv => whnf) | ((with_reducible refine ABr.gtr (fun h => ?_) (fun h => ?_)) <;> first | (exfalso; omega) | conv => whnf) | (refine ABr.byT (by with_reducible assumption) ?_; conv => whnf) | (refine ABr.byF (by with_reducible assumption) ?_; conv => whnf) | ((with_reducible refine ABr.decT rfl ?_); conv => whnf) | ((with_reducible refine ABr.decT (by assumption) ?_); conv => whnf) | ((with_reducible refine ABr.decF (by assumption) ?_); conv => whnf) | (refine ABr.dec (fun h => ?_) (fun h => ?_) <;> first | (exfalso; omega) | conv => whnf) | (refine ABr.gen (fun h => ?_) (fun h => ?_) <;> conv => whnf))
    | (show ACell _ _ _; first | (refine ACell.cell 0 ?_ ?_; (focus (first | exact T.side)); conv => whnf) | (refine ACell.mk ?_; conv => whnf))
    | (show AList _ _; first | (refine AList.app ?_ ?_; (focus (first | exact T.side)); conv => whnf) | (refine AList.set (x := b8 _) (bAV_b8 _).symm ?_ ?_; (focus (first | exact T.side)); conv => whnf) | (refine AList.set (f := iAV) rfl ?_ ?_; (focus (first | exact T.side)); conv => whnf) | (refine AList.part ?_; conv => whnf) | (refine AList.force ?_; (conv => whnf); refine Lit.mk ?_; conv => whnf) | (refine AList.full ?_ ?_; (focus (first | exact Nat.le_of_ble_eq_true rfl | (simp; done) | (simp; omega))); conv => whnf) | (refine AList.mk ?_; conv => whnf))
    | (refine LFresh.mk fun r => ?_; conv => whnf)
    | (show SWpL _ _ _ _ _ _ _; first | (refine SWpL.adopt 5 1 5 (by rfl) fun q => ?_) | (apply SWpL.loopC 3 (S := Nat × Nm) [0] (fun zz => match zz with | (i, q) => [(5, .vw q 0 i 1), (6, .int .i64 ((manyR t a most : Int) - (i : Int)))]) (fun zz => match zz with | (i, q) => [(p, dice t (adv t (nextA t a) i)), (q, ⟨5, (bytesL t (nextA t a) i).map bAV⟩)]) (fun zz => match zz with | (i, q) => i ≤ manyR t a most) (fun zz => match zz with | (i, q) => manyR t a most - i) ((0, q)) (by rfl); (focus ((repeat' first | exact trivial | (refine And.intro ?_ ?_) | exact LSub.nil | (with_reducible exact LSub.refl) | (apply LSub.cons; ((try show LHas _ _ _); repeat (with_reducible show LHas _ _ _); first | apply LHas.here | apply LHas.next); refine And.intro ?_ ?_; (focus (try (first | (with_reducible rfl) | (refine congrArg (Pl.mk _) ?_; (first | rfl | (simp [List.range_succ, bAV_b8, bytesL]; done))) | rfl | (with_reducible refine congrArg (Pl.mk _) ?_))))) | assumption | (first | rfl | ((conv => lhs; whnf); first | rfl | (refine congrArg (AV.int _) ?_; (exact T.num)) | (refine congrArg AV.bool ?_; (exact T.num)) | (refine vw_congr ?_; first | (exact T.num) | (first | rfl | (simp [List.range_succ, bAV_b8, bytesL]; done))) | (refine sl_congr ?_ ?_ <;> first | (exact T.num) | (first | rfl | (simp [List.range_succ, bAV_b8, bytesL]; done))) | (first | rfl | (simp [List.range_succ, bAV_b8, bytesL]; done)))) | (exact T.num) | (dsimp only; (exact T.num)) | (first | rfl | (simp [List.range_succ, bAV_b8, bytesL]; done))); done)); (rintro ⟨i, q⟩ hok; ((try dsimp only at hok); repeat (have hk := And.left hok; replace hok := And.right hok)); refine AtL.step tyOk [] ?_; conv => whnf)))
    | (show AtL _ _ _ _ _ _ _ _ _ _; first | (apply AtL.mk' (id := 3) (S := Nat × Nm) ((i + 1, _)); (repeat' first | exact trivial | (refine And.intro ?_ ?_) | exact LSub.nil | (with_reducible exact LSub.refl) | (apply LSub.cons; ((try show LHas _ _ _); repeat (with_reducible show LHas _ _ _); first | apply LHas.here | apply LHas.next); refine And.intro ?_ ?_; (focus (try (first | (with_reducible rfl) | (refine congrArg (Pl.mk _) ?_; (first | rfl | (simp [List.range_succ, bAV_b8, bytesL]; done))) | rfl | (with_reducible refine congrArg (Pl.mk _) ?_))))) | assumption | (first | rfl | ((conv => lhs; whnf); first | rfl | (refine congrArg (AV.int _) ?_; (exact T.num)) | (refine congrArg AV.bool ?_; (exact T.num)) | (refine vw_congr ?_; first | (exact T.num) | (first | rfl | (simp [List.range_succ, bAV_b8, bytesL]; done))) | (refine sl_congr ?_ ?_ <;> first | (exact T.num) | (first | rfl | (simp [List.range_succ, bAV_b8, bytesL]; done))) | (first | rfl | (simp [List.range_succ, bAV_b8, bytesL]; done)))) | (exact T.num) | (dsimp only; (exact T.num)) | (first | rfl | (simp [List.range_succ, bAV_b8, bytesL]; done))); done) | (apply AtL.mk' (id := 3) (S := Nat × Nm) ((i + 1, _)); (repeat' first | exact trivial | (refine And.intro ?_ ?_) | exact LSub.nil | (with_reducible exact LSub.refl) | (apply LSub.cons; ((try show LHas _ _ _); repeat (with_reducible show LHas _ _ _); first | apply LHas.here | apply LHas.next); refine And.intro ?_ ?_; (focus (try (first | (with_reducible rfl) | (refine congrArg (Pl.mk _) ?_; (first | rfl | (simp [List.range_succ, bAV_b8, bytesL]; done))) | rfl | (with_reducible refine congrArg (Pl.mk _) ?_))))) | assumption | (first | rfl | ((conv => lhs; whnf); first | rfl | (refine congrArg (AV.int _) ?_; (exact T.num)) | (refine congrArg AV.bool ?_; (exact T.num)) | (refine vw_congr ?_; first | (exact T.num) | (first | rfl | (simp [List.range_succ, bAV_b8, bytesL]; done))) | (refine sl_congr ?_ ?_ <;> first | (exact T.num) | (first | rfl | (simp [List.range_succ, bAV_b8, bytesL]; done))) | (first | rfl | (simp [List.range_succ, bAV_b8, bytesL]; done)))) | (exact T.num) | (dsimp only; (exact T.num)) | (first | rfl | (simp [List.range_succ, bAV_b8, bytesL]; done)))))
    | (show KeepL _ _ _; first | (with_reducible exact KeepL.refl) | (refine KeepL.cons ?_; ((try show LHas _ _ _); repeat (with_reducible show LHas _ _ _); first | apply LHas.here | apply LHas.next); ((try show LHas _ _ _); repeat (with_reducible show LHas _ _ _); first | apply LHas.here | apply LHas.next); refine And.intro rfl ?_) | exact KeepL.nil)
    | (show InL _ _; first | exact InL.here | refine InL.next ?_)
    | (show False; (exact T.num))
    | (refine ⟨_, rfl, rfl, ?_⟩; conv => whnf)
  all_goals (try dsimp only)
  have hi : manyR t a most = i := by omega
  rw [hi]
  (refine RetL.rowF ?_; ((try show LHas _ _ _); repeat (with_reducible show LHas _ _ _); first | apply LHas.here | apply LHas.next); refine And.intro ?_ (And.intro ?_ ?_); rotate_left; rotate_left; (focus ((repeat' first | exact LSub.nil | (with_reducible exact LSub.refl) | (apply LSub.cons; ((try show LHas _ _ _); repeat (with_reducible show LHas _ _ _); first | apply LHas.here | apply LHas.next); refine And.intro ?_ ?_; (focus (try (first | (with_reducible rfl) | (refine congrArg (Pl.mk _) ?_; (first | rfl | (simp; done))) | rfl | (with_reducible refine congrArg (Pl.mk _) ?_)))))))))
  · rfl
  · simp
end Go.Proofs.Ytnlpjbedkdhlbaa
