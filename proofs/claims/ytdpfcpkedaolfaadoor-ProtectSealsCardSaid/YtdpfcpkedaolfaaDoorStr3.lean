import Derived.Test.YtdpfcpkedaolfaaDoorStr2
namespace Go.Proofs.YtdpfcpkedaolfaaDoor
open Go.RowKit
set_option linter.all false
theorem bAV_xor (c d : UInt8) : AV.int .u8 (ibits .xor .u8 c.toNat d.toNat) = bAV (c ^^^ d) := by
  have e1 : BitVec.ofInt 8 (c.toNat : Int) = c.toBitVec := by
    rw [BitVec.ofInt_natCast]; exact BitVec.eq_of_toNat_eq (by simp)
  have e2 : BitVec.ofInt 8 (d.toNat : Int) = d.toBitVec := by
    rw [BitVec.ofInt_natCast]; exact BitVec.eq_of_toNat_eq (by simp)
  show AV.int .u8 (IntKind.u8.wrap (BitVec.ofInt 8 (c.toNat : Int) ^^^ BitVec.ofInt 8 (d.toNat : Int)).toNat) = AV.int .u8 ((c ^^^ d).toNat : Int)
  rw [e1, e2, IntKind.wrap_u8, show (c ^^^ d).toNat = (c.toBitVec ^^^ d.toBitVec).toNat from rfl]
  have h4 := (c.toBitVec ^^^ d.toBitVec).isLt
  congr 1
  omega
theorem tm64 (i : Nat) : (i : Int).tmod 64 = ((i % 64 : Nat) : Int) := rfl
theorem td64 (i : Nat) (h : i < 100000) : IntKind.i64.wrap ((i : Int).tdiv 64) = ((i / 64 : Nat) : Int) := by
  rw [show (i : Int).tdiv 64 = ((i / 64 : Nat) : Int) from rfl, IntKind.wrap_i64]
  omega
theorem zc8 (k : Nat) : zcells [AV.int .u8 0] k = (List.replicate k (0 : UInt8)).map bAV := by
  unfold zcells
  apply List.ext_getElem
  · simp
  · intro i h1 h2
    simp [bAV, Nat.mod_one]
/-- The bytes of the stream, exclusive-ored. -/
def xb (key nonce b : List UInt8) (i : Nat) : UInt8 := b.getD i 0 ^^^ (blockL key ((i / 64 : Nat) : Int) nonce).getD (i % 64) 0
def xorP (key nonce b : List UInt8) : Nat → List UInt8
  | 0 => List.replicate b.length 0
  | i + 1 => (xorP key nonce b i).set i (xb key nonce b i)
def xorQ (key nonce b : List UInt8) : Nat → List UInt8
  | 0 => []
  | i + 1 => xorQ key nonce b i ++ [xb key nonce b i]
@[simp] theorem xorP_len (key nonce b : List UInt8) (i : Nat) : (xorP key nonce b i).length = b.length := by
  induction i with
  | zero => simp [xorP]
  | succ i ih => simp [xorP, ih]
@[simp] theorem xorQ_len (key nonce b : List UInt8) (i : Nat) : (xorQ key nonce b i).length = i := by
  induction i with
  | zero => rfl
  | succ i ih => simp [xorQ, ih]
theorem xorP_eq (key nonce b : List UInt8) (i : Nat) (h : i ≤ b.length) : xorP key nonce b i = xorQ key nonce b i ++ List.replicate (b.length - i) 0 := by
  induction i with
  | zero => simp [xorP, xorQ]
  | succ i ih =>
    rw [xorP, xorQ, ih (by omega), show b.length - i = (b.length - (i + 1)) + 1 by omega, List.replicate_succ, List.set_append]
    simp
def xorL (key nonce b : List UInt8) : List UInt8 := xorQ key nonce b b.length
theorem xorP_zero (key nonce b : List UInt8) : xorP key nonce b 0 = List.replicate b.length 0 := rfl
theorem xorP_succ (key nonce b : List UInt8) (i : Nat) : xorP key nonce b (i + 1) = (xorP key nonce b i).set i (b.getD i 0 ^^^ (blockL key ((i / 64 : Nat) : Int) nonce).getD (i % 64) 0) := rfl
theorem xorQ_zero (key nonce b : List UInt8) : xorQ key nonce b 0 = [] := rfl
theorem xorQ_succ (key nonce b : List UInt8) (i : Nat) : xorQ key nonce b (i + 1) = xorQ key nonce b i ++ [b.getD i 0 ^^^ (blockL key ((i / 64 : Nat) : Int) nonce).getD (i % 64) 0] := rfl
def nowA (key nonce : List UInt8) (i : Nat) : AV := if i = 0 then .nils else bv (blockL key (((i - 1) / 64 : Nat) : Int) nonce)
theorem nowA_zero (key nonce : List UInt8) : nowA key nonce 0 = .nils := rfl
theorem nowA_succ (key nonce : List UInt8) (i : Nat) : nowA key nonce (i + 1) = bv (blockL key ((i / 64 : Nat) : Int) nonce) := by simp [nowA]
theorem nowA_pos (key nonce : List UInt8) (i : Nat) (h : ¬ (i : Int).tmod 64 = 0) : nowA key nonce i = bv (blockL key ((i / 64 : Nat) : Int) nonce) := by
  rw [tm64] at h
  unfold nowA
  rw [if_neg (by omega), show (i - 1) / 64 = i / 64 by omega]
attribute [irreducible] xorP xorQ nowA
def sizedR (key nonce : List UInt8) : Int := if key.length = 32 then (if nonce.length = 12 then 0 else 2) else 9
theorem sized_c (key nonce : List UInt8) : LSpec Tryd.prog gl 66 [bv key, bv nonce] [] (fun _ => (iAV (sizedR key nonce), [])) := by
  refine LSpec.introL tyOk Tryd.func66 rfl (by kernel_rfl) (by simp) (fun q => ⟨by simp, by simp⟩) ?_
  refine AWpL.sound tyOk _ _ _ _ ?_
  conv => whnf
  repeat' first
    | (show LHas _ _ _; ((try show LHas _ _ _); repeat (with_reducible show LHas _ _ _); first | apply LHas.here | apply LHas.next); conv => whnf)
    | (refine And.intro ?_ ?_; (focus (first | exact T.side)); conv => whnf)
    | (show ABr _ _ _; first | (refine ABr.tt ?_; conv => whnf) | (refine ABr.ff ?_; conv => whnf) | (refine ABr.byN ?_) | ((with_reducible refine ABr.neqT (by assumption) ?_); conv => whnf) | ((with_reducible refine ABr.neqF (by assumption) ?_); conv => whnf) | ((with_reducible refine ABr.neq (fun h => ?_) (fun h => ?_)) <;> first | (exfalso; omega) | conv => whnf) | (refine ABr.byT (by with_reducible assumption) ?_; conv => whnf) | (refine ABr.byF (by with_reducible assumption) ?_; conv => whnf) | ((with_reducible refine ABr.decT rfl ?_); conv => whnf) | ((with_reducible refine ABr.decT (by assumption) ?_); conv => whnf) | ((with_reducible refine ABr.decF (by assumption) ?_); conv => whnf) | (refine ABr.dec (fun h => ?_) (fun h => ?_) <;> first | (exfalso; omega) | conv => whnf) | (refine ABr.gen (fun h => ?_) (fun h => ?_) <;> conv => whnf))
    | (show ACell _ _ _; first | (refine ACell.cell 0 ?_ ?_; (focus (first | exact T.side)); conv => whnf) | (refine ACell.mk ?_; conv => whnf))
    | (show AList _ _; first | (refine AList.app ?_ ?_; (focus (first | exact T.side)); conv => whnf) | (refine AList.set (x := b8 _) (bAV_b8 _).symm ?_ ?_; (focus (first | exact T.side)); conv => whnf) | (refine AList.set (f := iAV) rfl ?_ ?_; (focus (first | exact T.side)); conv => whnf) | (refine AList.part ?_; conv => whnf) | (refine AList.force ?_; (conv => whnf); refine Lit.mk ?_; conv => whnf) | (refine AList.full ?_ ?_; (focus (first | exact Nat.le_of_ble_eq_true rfl | (simp; done) | (simp; omega))); conv => whnf) | (refine AList.mk ?_; conv => whnf))
    | (refine LFresh.mk fun r => ?_; conv => whnf)
    | (show KeepL _ _ _; first | (refine KeepL.cons ?_; ((try show LHas _ _ _); repeat (with_reducible show LHas _ _ _); first | apply LHas.here | apply LHas.next); ((try show LHas _ _ _); repeat (with_reducible show LHas _ _ _); first | apply LHas.here | apply LHas.next); refine And.intro rfl ?_) | exact KeepL.nil)
    | (show InL _ _; first | exact InL.here | refine InL.next ?_)
    | (show False; (exact T.num))
  all_goals (try dsimp only)
  all_goals
    (refine RetL.val ?_ ?_; rotate_left; (focus ((repeat' first | exact LSub.nil | (with_reducible exact LSub.refl) | (apply LSub.cons; ((try show LHas _ _ _); repeat (with_reducible show LHas _ _ _); first | apply LHas.here | apply LHas.next); refine And.intro ?_ ?_; (focus (try (first | (with_reducible rfl) | (refine congrArg (Pl.mk _) ?_; (first | rfl | (simp; done))) | rfl | (with_reducible refine congrArg (Pl.mk _) ?_)))))))))
    unfold sizedR
    (repeat first | rw [if_pos (by first | assumption | omega)] | rw [if_neg (by first | assumption | omega)])
    rfl
/-- What Xor returns. -/
def xorR (key nonce b : List UInt8) : List UInt8 × Int := if key.length = 32 then (if nonce.length = 12 ∧ b.length ≤ 4096 then (xorL key nonce b, 0) else ([], 2)) else ([], 9)
def be (x : List UInt8 × Int) : AV := .tup [bv x.1, iAV x.2]
theorem xor_c (key nonce b : List UInt8) : LSpec Tryd.prog gl 49 [bv key, bv nonce, bv b] [] (fun _ => (be (xorR key nonce b), [])) := by
  by_cases hk : key.length = 32
  by_cases hn : nonce.length = 12
  · have hz : sizedR key nonce = 0 := by unfold sizedR; (repeat first | rw [if_pos (by first | assumption | omega)] | rw [if_neg (by first | assumption | omega)])
    refine LSpec.introL tyOk Tryd.func49 rfl (by kernel_rfl) (by simp) (fun q => ⟨by simp, by simp⟩) ?_
    refine AWpL.sound tyOk _ _ _ _ ?_
    conv => whnf
    repeat' first
      | (dsimp only; rw [nowA_pos key nonce i (by assumption)]; conv => whnf)
      | (show LHas _ _ _; ((try show LHas _ _ _); repeat (with_reducible show LHas _ _ _); first | apply LHas.here | apply LHas.next); conv => whnf)
      | (refine And.intro ?_ ?_; (focus (first | (rw [tm64]; simp; done) | (rw [tm64]; simp; omega) | exact T.side)); conv => whnf)
      | (show LCall _ _ _ _ _ _; first | (refine LCall.pure (hz ▸ sized_c key nonce) ?_; conv => whnf) | (refine LCall.pure (block_c _ _ _ hk hn) ?_; conv => whnf) | (apply LCall.eq; (focus (repeat first | (apply cons_congr; (focus (first | exact sl_bv rfl | exact sl_bv (by first | (simp; done) | (simp; (exact T.num))) | exact rfl))) | exact rfl)); first | (refine LCall.pure (hz ▸ sized_c key nonce) ?_; conv => whnf) | (refine LCall.pure (block_c _ _ _ hk hn) ?_; conv => whnf)))
      | (show ABr _ _ _; first | (refine ABr.tt ?_; conv => whnf) | (refine ABr.ff ?_; conv => whnf) | (refine ABr.byN ?_) | ((with_reducible refine ABr.lssT (by assumption) ?_); conv => whnf) | ((with_reducible refine ABr.lssF (by assumption) ?_); conv => whnf) | ((with_reducible refine ABr.lss (fun h => ?_) (fun h => ?_)) <;> first | (exfalso; omega) | conv => whnf) | ((with_reducible refine ABr.gtrT (by assumption) ?_); conv => whnf) | ((with_reducible refine ABr.gtrF (by assumption) ?_); conv => whnf) | ((with_reducible refine ABr.gtr (fun h => ?_) (fun h => ?_)) <;> first | (exfalso; omega) | conv => whnf) | ((with_reducible refine ABr.eqlT (by assumption) ?_); conv => whnf) | ((with_reducible refine ABr.eqlF (by assumption) ?_); conv => whnf) | ((with_reducible refine ABr.eql (fun h => ?_) (fun h => ?_)) <;> first | (exfalso; omega) | conv => whnf) | ((with_reducible refine ABr.neqT (by assumption) ?_); conv => whnf) | ((with_reducible refine ABr.neqF (by assumption) ?_); conv => whnf) | ((with_reducible refine ABr.neq (fun h => ?_) (fun h => ?_)) <;> first | (exfalso; omega) | conv => whnf) | (refine ABr.byT (by with_reducible assumption) ?_; conv => whnf) | (refine ABr.byF (by with_reducible assumption) ?_; conv => whnf) | ((with_reducible refine ABr.decT rfl ?_); conv => whnf) | ((with_reducible refine ABr.decT (by assumption) ?_); conv => whnf) | ((with_reducible refine ABr.decF (by assumption) ?_); conv => whnf) | (refine ABr.dec (fun h => ?_) (fun h => ?_) <;> first | (exfalso; omega) | conv => whnf) | (refine ABr.gen (fun h => ?_) (fun h => ?_) <;> conv => whnf))
      | (show ACell _ _ _; first | (refine ACell.cell 0 ?_ ?_; (focus (rw [tm64]; simp; omega)); conv => whnf) | (refine ACell.cell 0 ?_ ?_; (focus (first | exact T.side)); conv => whnf) | (refine ACell.mk ?_; conv => whnf))
      | (show AList _ _; first | (refine AList.eq (zc8 _) ?_; conv => whnf) | (refine AList.set (bAV_xor _ _) ?_ ?_; (focus (simp; (exact T.num))); conv => whnf) | (refine AList.app ?_ ?_; (focus (first | exact T.side)); conv => whnf) | (refine AList.set (x := b8 _) (bAV_b8 _).symm ?_ ?_; (focus (first | exact T.side)); conv => whnf) | (refine AList.set (f := iAV) rfl ?_ ?_; (focus (first | exact T.side)); conv => whnf) | (refine AList.part ?_; conv => whnf) | (refine AList.force ?_; (conv => whnf); refine Lit.mk ?_; conv => whnf) | (refine AList.full ?_ ?_; (focus (first | exact Nat.le_of_ble_eq_true rfl | (simp; done) | (simp; omega))); conv => whnf) | (refine AList.mk ?_; conv => whnf))
      | (refine LFresh.mk fun r => ?_; conv => whnf)
      | (show SWpL _ _ _ _ _ _ _; first | (apply SWpL.loopC 9 (S := Nat × Nm) [0, 1, 25, 26] (fun zz => match zz with | (i, q) => [(9, .vw q 0 b.length 1), (10, nowA key nonce i), (27, .int .i64 i)]) (fun zz => match zz with | (i, q) => [(q, ⟨5, (xorP key nonce b i).map bAV⟩)]) (fun zz => match zz with | (i, q) => i ≤ b.length) (fun zz => match zz with | (i, q) => b.length - i) ((0, _)) (by rfl); (focus ((repeat' first | exact trivial | (refine And.intro ?_ ?_) | exact LSub.nil | (with_reducible exact LSub.refl) | (apply LSub.cons; ((try show LHas _ _ _); repeat (with_reducible show LHas _ _ _); first | apply LHas.here | apply LHas.next); refine And.intro ?_ ?_; (focus (try (first | (with_reducible rfl) | (refine congrArg (Pl.mk _) ?_; (first | (with_reducible rfl) | (simp only [xorP_zero, xorP_succ, nowA_zero, nowA_succ, tm64, td64 _ (show i < 100000 by omega), Nat.zero_add, Nat.mul_one, Int.toNat_natCast]; done) | (simp only [xorP_zero, xorP_succ, nowA_zero, nowA_succ, tm64, td64 _ (show i < 100000 by omega), Nat.zero_add, Nat.mul_one, Int.toNat_natCast] <;> rfl) | (rw [nowA_zero]) | (rw [xorP_zero]; simp; done) | rfl)) | rfl | (with_reducible refine congrArg (Pl.mk _) ?_))))) | assumption | (first | rfl | ((conv => lhs; whnf); first | rfl | (refine congrArg (AV.int _) ?_; (exact T.num)) | (refine congrArg AV.bool ?_; (exact T.num)) | (refine vw_congr ?_; first | (exact T.num) | (first | (with_reducible rfl) | (simp only [xorP_zero, xorP_succ, nowA_zero, nowA_succ, tm64, td64 _ (show i < 100000 by omega), Nat.zero_add, Nat.mul_one, Int.toNat_natCast]; done) | (simp only [xorP_zero, xorP_succ, nowA_zero, nowA_succ, tm64, td64 _ (show i < 100000 by omega), Nat.zero_add, Nat.mul_one, Int.toNat_natCast] <;> rfl) | (rw [nowA_zero]) | (rw [xorP_zero]; simp; done) | rfl)) | (refine sl_congr ?_ ?_ <;> first | (exact T.num) | (first | (with_reducible rfl) | (simp only [xorP_zero, xorP_succ, nowA_zero, nowA_succ, tm64, td64 _ (show i < 100000 by omega), Nat.zero_add, Nat.mul_one, Int.toNat_natCast]; done) | (simp only [xorP_zero, xorP_succ, nowA_zero, nowA_succ, tm64, td64 _ (show i < 100000 by omega), Nat.zero_add, Nat.mul_one, Int.toNat_natCast] <;> rfl) | (rw [nowA_zero]) | (rw [xorP_zero]; simp; done) | rfl)) | (first | (with_reducible rfl) | (simp only [xorP_zero, xorP_succ, nowA_zero, nowA_succ, tm64, td64 _ (show i < 100000 by omega), Nat.zero_add, Nat.mul_one, Int.toNat_natCast]; done) | (simp only [xorP_zero, xorP_succ, nowA_zero, nowA_succ, tm64, td64 _ (show i < 100000 by omega), Nat.zero_add, Nat.mul_one, Int.toNat_natCast] <;> rfl) | (rw [nowA_zero]) | (rw [xorP_zero]; simp; done) | rfl))) | (exact T.num) | (dsimp only; (exact T.num)) | (first | (with_reducible rfl) | (simp only [xorP_zero, xorP_succ, nowA_zero, nowA_succ, tm64, td64 _ (show i < 100000 by omega), Nat.zero_add, Nat.mul_one, Int.toNat_natCast]; done) | (simp only [xorP_zero, xorP_succ, nowA_zero, nowA_succ, tm64, td64 _ (show i < 100000 by omega), Nat.zero_add, Nat.mul_one, Int.toNat_natCast] <;> rfl) | (rw [nowA_zero]) | (rw [xorP_zero]; simp; done) | rfl)); done)); (rintro ⟨i, q⟩ hok; ((try dsimp only at hok); repeat (have hk := And.left hok; replace hok := And.right hok)); refine AtL.step tyOk ?_; conv => whnf)))
      | (show AtL _ _ _ _ _ _ _ _ _ _; first | (apply AtL.mk' (id := 9) (S := Nat × Nm) ((i + 1, _)); (repeat' first | exact trivial | (refine And.intro ?_ ?_) | exact LSub.nil | (with_reducible exact LSub.refl) | (apply LSub.cons; ((try show LHas _ _ _); repeat (with_reducible show LHas _ _ _); first | apply LHas.here | apply LHas.next); refine And.intro ?_ ?_; (focus (try (first | (with_reducible rfl) | (refine congrArg (Pl.mk _) ?_; (first | (with_reducible rfl) | (simp only [xorP_zero, xorP_succ, nowA_zero, nowA_succ, tm64, td64 _ (show i < 100000 by omega), Nat.zero_add, Nat.mul_one, Int.toNat_natCast]; done) | (simp only [xorP_zero, xorP_succ, nowA_zero, nowA_succ, tm64, td64 _ (show i < 100000 by omega), Nat.zero_add, Nat.mul_one, Int.toNat_natCast] <;> rfl) | (rw [nowA_zero]) | (rw [xorP_zero]; simp; done) | rfl)) | rfl | (with_reducible refine congrArg (Pl.mk _) ?_))))) | assumption | (first | rfl | ((conv => lhs; whnf); first | rfl | (refine congrArg (AV.int _) ?_; (exact T.num)) | (refine congrArg AV.bool ?_; (exact T.num)) | (refine vw_congr ?_; first | (exact T.num) | (first | (with_reducible rfl) | (simp only [xorP_zero, xorP_succ, nowA_zero, nowA_succ, tm64, td64 _ (show i < 100000 by omega), Nat.zero_add, Nat.mul_one, Int.toNat_natCast]; done) | (simp only [xorP_zero, xorP_succ, nowA_zero, nowA_succ, tm64, td64 _ (show i < 100000 by omega), Nat.zero_add, Nat.mul_one, Int.toNat_natCast] <;> rfl) | (rw [nowA_zero]) | (rw [xorP_zero]; simp; done) | rfl)) | (refine sl_congr ?_ ?_ <;> first | (exact T.num) | (first | (with_reducible rfl) | (simp only [xorP_zero, xorP_succ, nowA_zero, nowA_succ, tm64, td64 _ (show i < 100000 by omega), Nat.zero_add, Nat.mul_one, Int.toNat_natCast]; done) | (simp only [xorP_zero, xorP_succ, nowA_zero, nowA_succ, tm64, td64 _ (show i < 100000 by omega), Nat.zero_add, Nat.mul_one, Int.toNat_natCast] <;> rfl) | (rw [nowA_zero]) | (rw [xorP_zero]; simp; done) | rfl)) | (first | (with_reducible rfl) | (simp only [xorP_zero, xorP_succ, nowA_zero, nowA_succ, tm64, td64 _ (show i < 100000 by omega), Nat.zero_add, Nat.mul_one, Int.toNat_natCast]; done) | (simp only [xorP_zero, xorP_succ, nowA_zero, nowA_succ, tm64, td64 _ (show i < 100000 by omega), Nat.zero_add, Nat.mul_one, Int.toNat_natCast] <;> rfl) | (rw [nowA_zero]) | (rw [xorP_zero]; simp; done) | rfl))) | (exact T.num) | (dsimp only; (exact T.num)) | (first | (with_reducible rfl) | (simp only [xorP_zero, xorP_succ, nowA_zero, nowA_succ, tm64, td64 _ (show i < 100000 by omega), Nat.zero_add, Nat.mul_one, Int.toNat_natCast]; done) | (simp only [xorP_zero, xorP_succ, nowA_zero, nowA_succ, tm64, td64 _ (show i < 100000 by omega), Nat.zero_add, Nat.mul_one, Int.toNat_natCast] <;> rfl) | (rw [nowA_zero]) | (rw [xorP_zero]; simp; done) | rfl)); done) | (apply AtL.mk' (id := 9) (S := Nat × Nm) ((i + 1, _)); (repeat' first | exact trivial | (refine And.intro ?_ ?_) | exact LSub.nil | (with_reducible exact LSub.refl) | (apply LSub.cons; ((try show LHas _ _ _); repeat (with_reducible show LHas _ _ _); first | apply LHas.here | apply LHas.next); refine And.intro ?_ ?_; (focus (try (first | (with_reducible rfl) | (refine congrArg (Pl.mk _) ?_; (first | (with_reducible rfl) | (simp only [xorP_zero, xorP_succ, nowA_zero, nowA_succ, tm64, td64 _ (show i < 100000 by omega), Nat.zero_add, Nat.mul_one, Int.toNat_natCast]; done) | (simp only [xorP_zero, xorP_succ, nowA_zero, nowA_succ, tm64, td64 _ (show i < 100000 by omega), Nat.zero_add, Nat.mul_one, Int.toNat_natCast] <;> rfl) | (rw [nowA_zero]) | (rw [xorP_zero]; simp; done) | rfl)) | rfl | (with_reducible refine congrArg (Pl.mk _) ?_))))) | assumption | (first | rfl | ((conv => lhs; whnf); first | rfl | (refine congrArg (AV.int _) ?_; (exact T.num)) | (refine congrArg AV.bool ?_; (exact T.num)) | (refine vw_congr ?_; first | (exact T.num) | (first | (with_reducible rfl) | (simp only [xorP_zero, xorP_succ, nowA_zero, nowA_succ, tm64, td64 _ (show i < 100000 by omega), Nat.zero_add, Nat.mul_one, Int.toNat_natCast]; done) | (simp only [xorP_zero, xorP_succ, nowA_zero, nowA_succ, tm64, td64 _ (show i < 100000 by omega), Nat.zero_add, Nat.mul_one, Int.toNat_natCast] <;> rfl) | (rw [nowA_zero]) | (rw [xorP_zero]; simp; done) | rfl)) | (refine sl_congr ?_ ?_ <;> first | (exact T.num) | (first | (with_reducible rfl) | (simp only [xorP_zero, xorP_succ, nowA_zero, nowA_succ, tm64, td64 _ (show i < 100000 by omega), Nat.zero_add, Nat.mul_one, Int.toNat_natCast]; done) | (simp only [xorP_zero, xorP_succ, nowA_zero, nowA_succ, tm64, td64 _ (show i < 100000 by omega), Nat.zero_add, Nat.mul_one, Int.toNat_natCast] <;> rfl) | (rw [nowA_zero]) | (rw [xorP_zero]; simp; done) | rfl)) | (first | (with_reducible rfl) | (simp only [xorP_zero, xorP_succ, nowA_zero, nowA_succ, tm64, td64 _ (show i < 100000 by omega), Nat.zero_add, Nat.mul_one, Int.toNat_natCast]; done) | (simp only [xorP_zero, xorP_succ, nowA_zero, nowA_succ, tm64, td64 _ (show i < 100000 by omega), Nat.zero_add, Nat.mul_one, Int.toNat_natCast] <;> rfl) | (rw [nowA_zero]) | (rw [xorP_zero]; simp; done) | rfl))) | (exact T.num) | (dsimp only; (exact T.num)) | (first | (with_reducible rfl) | (simp only [xorP_zero, xorP_succ, nowA_zero, nowA_succ, tm64, td64 _ (show i < 100000 by omega), Nat.zero_add, Nat.mul_one, Int.toNat_natCast]; done) | (simp only [xorP_zero, xorP_succ, nowA_zero, nowA_succ, tm64, td64 _ (show i < 100000 by omega), Nat.zero_add, Nat.mul_one, Int.toNat_natCast] <;> rfl) | (rw [nowA_zero]) | (rw [xorP_zero]; simp; done) | rfl))))
      | (show KeepL _ _ _; first | (refine KeepL.cons ?_; ((try show LHas _ _ _); repeat (with_reducible show LHas _ _ _); first | apply LHas.here | apply LHas.next); ((try show LHas _ _ _); repeat (with_reducible show LHas _ _ _); first | apply LHas.here | apply LHas.next); refine And.intro rfl ?_) | exact KeepL.nil)
      | (show InL _ _; first | exact InL.here | refine InL.next ?_)
      | (show False; (exact T.num))
    all_goals (try dsimp only)
    · have e : xorR key nonce b = ([], 2) := by unfold xorR; (repeat first | rw [if_pos (by first | assumption | omega)] | rw [if_neg (by first | assumption | omega)])
      rw [e]
      exact RetL.frz [] (LF.tup ⟨LF.nils rfl rfl, LF.eq rfl, trivial⟩) LSub.nil
    · have hi : i = b.length := by omega
      subst hi
      have e : xorR key nonce b = (xorL key nonce b, 0) := by unfold xorR; (repeat first | rw [if_pos (by first | assumption | omega)] | rw [if_neg (by first | assumption | omega)])
      have e2 : xorP key nonce b b.length = xorL key nonce b := by rw [xorP_eq _ _ _ _ (Nat.le_refl _)]; simp [xorL]
      rw [e, e2]
      refine RetL.frz [q] (LF.tup ⟨LF.rowF InL.here ?_, LF.eq rfl, trivial⟩) ?_
      · apply LHas.here
        exact ⟨rfl, by simp [xorL]⟩
      · apply LHas.here
        exact LSub.nil
  · have hz : sizedR key nonce = 2 := by unfold sizedR; (repeat first | rw [if_pos (by first | assumption | omega)] | rw [if_neg (by first | assumption | omega)])
    refine LSpec.introL tyOk Tryd.func49 rfl (by kernel_rfl) (by simp) (fun q => ⟨by simp, by simp⟩) ?_
    refine AWpL.sound tyOk _ _ _ _ ?_
    conv => whnf
    repeat' first
      | (show LHas _ _ _; ((try show LHas _ _ _); repeat (with_reducible show LHas _ _ _); first | apply LHas.here | apply LHas.next); conv => whnf)
      | (refine And.intro ?_ ?_; (focus (first | exact T.side)); conv => whnf)
      | (show LCall _ _ _ _ _ _; first | (refine LCall.pure (hz ▸ sized_c key nonce) ?_; conv => whnf) | (apply LCall.eq; (focus (repeat first | (apply cons_congr; (focus (first | exact sl_bv rfl | exact sl_bv (by first | (simp; done) | (simp; (exact T.num))) | exact rfl))) | exact rfl)); first | (refine LCall.pure (hz ▸ sized_c key nonce) ?_; conv => whnf)))
      | (show ABr _ _ _; first | (refine ABr.tt ?_; conv => whnf) | (refine ABr.ff ?_; conv => whnf) | (refine ABr.byN ?_) | ((with_reducible refine ABr.lssT (by assumption) ?_); conv => whnf) | ((with_reducible refine ABr.lssF (by assumption) ?_); conv => whnf) | ((with_reducible refine ABr.lss (fun h => ?_) (fun h => ?_)) <;> first | (exfalso; omega) | conv => whnf) | ((with_reducible refine ABr.gtrT (by assumption) ?_); conv => whnf) | ((with_reducible refine ABr.gtrF (by assumption) ?_); conv => whnf) | ((with_reducible refine ABr.gtr (fun h => ?_) (fun h => ?_)) <;> first | (exfalso; omega) | conv => whnf) | ((with_reducible refine ABr.eqlT (by assumption) ?_); conv => whnf) | ((with_reducible refine ABr.eqlF (by assumption) ?_); conv => whnf) | ((with_reducible refine ABr.eql (fun h => ?_) (fun h => ?_)) <;> first | (exfalso; omega) | conv => whnf) | ((with_reducible refine ABr.neqT (by assumption) ?_); conv => whnf) | ((with_reducible refine ABr.neqF (by assumption) ?_); conv => whnf) | ((with_reducible refine ABr.neq (fun h => ?_) (fun h => ?_)) <;> first | (exfalso; omega) | conv => whnf) | (refine ABr.byT (by with_reducible assumption) ?_; conv => whnf) | (refine ABr.byF (by with_reducible assumption) ?_; conv => whnf) | ((with_reducible refine ABr.decT rfl ?_); conv => whnf) | ((with_reducible refine ABr.decT (by assumption) ?_); conv => whnf) | ((with_reducible refine ABr.decF (by assumption) ?_); conv => whnf) | (refine ABr.dec (fun h => ?_) (fun h => ?_) <;> first | (exfalso; omega) | conv => whnf) | (refine ABr.gen (fun h => ?_) (fun h => ?_) <;> conv => whnf))
      | (show ACell _ _ _; first | (refine ACell.cell 0 ?_ ?_; (focus (first | exact T.side)); conv => whnf) | (refine ACell.mk ?_; conv => whnf))
      | (show AList _ _; first | (refine AList.app ?_ ?_; (focus (first | exact T.side)); conv => whnf) | (refine AList.set (x := b8 _) (bAV_b8 _).symm ?_ ?_; (focus (first | exact T.side)); conv => whnf) | (refine AList.set (f := iAV) rfl ?_ ?_; (focus (first | exact T.side)); conv => whnf) | (refine AList.part ?_; conv => whnf) | (refine AList.force ?_; (conv => whnf); refine Lit.mk ?_; conv => whnf) | (refine AList.full ?_ ?_; (focus (first | exact Nat.le_of_ble_eq_true rfl | (simp; done) | (simp; omega))); conv => whnf) | (refine AList.mk ?_; conv => whnf))
      | (refine LFresh.mk fun r => ?_; conv => whnf)
      | (show KeepL _ _ _; first | (refine KeepL.cons ?_; ((try show LHas _ _ _); repeat (with_reducible show LHas _ _ _); first | apply LHas.here | apply LHas.next); ((try show LHas _ _ _); repeat (with_reducible show LHas _ _ _); first | apply LHas.here | apply LHas.next); refine And.intro rfl ?_) | exact KeepL.nil)
      | (show InL _ _; first | exact InL.here | refine InL.next ?_)
      | (show False; (exact T.num))
    all_goals (try dsimp only)
    have e : xorR key nonce b = ([], 2) := by unfold xorR; (repeat first | rw [if_pos (by first | assumption | omega)] | rw [if_neg (by first | assumption | omega)])
    rw [e]
    exact RetL.frz [] (LF.tup ⟨LF.nils rfl rfl, LF.eq rfl, trivial⟩) LSub.nil
  · have hz : sizedR key nonce = 9 := by unfold sizedR; (repeat first | rw [if_pos (by first | assumption | omega)] | rw [if_neg (by first | assumption | omega)])
    refine LSpec.introL tyOk Tryd.func49 rfl (by kernel_rfl) (by simp) (fun q => ⟨by simp, by simp⟩) ?_
    refine AWpL.sound tyOk _ _ _ _ ?_
    conv => whnf
    repeat' first
      | (show LHas _ _ _; ((try show LHas _ _ _); repeat (with_reducible show LHas _ _ _); first | apply LHas.here | apply LHas.next); conv => whnf)
      | (refine And.intro ?_ ?_; (focus (first | exact T.side)); conv => whnf)
      | (show LCall _ _ _ _ _ _; first | (refine LCall.pure (hz ▸ sized_c key nonce) ?_; conv => whnf) | (apply LCall.eq; (focus (repeat first | (apply cons_congr; (focus (first | exact sl_bv rfl | exact sl_bv (by first | (simp; done) | (simp; (exact T.num))) | exact rfl))) | exact rfl)); first | (refine LCall.pure (hz ▸ sized_c key nonce) ?_; conv => whnf)))
      | (show ABr _ _ _; first | (refine ABr.tt ?_; conv => whnf) | (refine ABr.ff ?_; conv => whnf) | (refine ABr.byN ?_) | ((with_reducible refine ABr.lssT (by assumption) ?_); conv => whnf) | ((with_reducible refine ABr.lssF (by assumption) ?_); conv => whnf) | ((with_reducible refine ABr.lss (fun h => ?_) (fun h => ?_)) <;> first | (exfalso; omega) | conv => whnf) | ((with_reducible refine ABr.gtrT (by assumption) ?_); conv => whnf) | ((with_reducible refine ABr.gtrF (by assumption) ?_); conv => whnf) | ((with_reducible refine ABr.gtr (fun h => ?_) (fun h => ?_)) <;> first | (exfalso; omega) | conv => whnf) | ((with_reducible refine ABr.eqlT (by assumption) ?_); conv => whnf) | ((with_reducible refine ABr.eqlF (by assumption) ?_); conv => whnf) | ((with_reducible refine ABr.eql (fun h => ?_) (fun h => ?_)) <;> first | (exfalso; omega) | conv => whnf) | ((with_reducible refine ABr.neqT (by assumption) ?_); conv => whnf) | ((with_reducible refine ABr.neqF (by assumption) ?_); conv => whnf) | ((with_reducible refine ABr.neq (fun h => ?_) (fun h => ?_)) <;> first | (exfalso; omega) | conv => whnf) | (refine ABr.byT (by with_reducible assumption) ?_; conv => whnf) | (refine ABr.byF (by with_reducible assumption) ?_; conv => whnf) | ((with_reducible refine ABr.decT rfl ?_); conv => whnf) | ((with_reducible refine ABr.decT (by assumption) ?_); conv => whnf) | ((with_reducible refine ABr.decF (by assumption) ?_); conv => whnf) | (refine ABr.dec (fun h => ?_) (fun h => ?_) <;> first | (exfalso; omega) | conv => whnf) | (refine ABr.gen (fun h => ?_) (fun h => ?_) <;> conv => whnf))
      | (show ACell _ _ _; first | (refine ACell.cell 0 ?_ ?_; (focus (first | exact T.side)); conv => whnf) | (refine ACell.mk ?_; conv => whnf))
      | (show AList _ _; first | (refine AList.app ?_ ?_; (focus (first | exact T.side)); conv => whnf) | (refine AList.set (x := b8 _) (bAV_b8 _).symm ?_ ?_; (focus (first | exact T.side)); conv => whnf) | (refine AList.set (f := iAV) rfl ?_ ?_; (focus (first | exact T.side)); conv => whnf) | (refine AList.part ?_; conv => whnf) | (refine AList.force ?_; (conv => whnf); refine Lit.mk ?_; conv => whnf) | (refine AList.full ?_ ?_; (focus (first | exact Nat.le_of_ble_eq_true rfl | (simp; done) | (simp; omega))); conv => whnf) | (refine AList.mk ?_; conv => whnf))
      | (refine LFresh.mk fun r => ?_; conv => whnf)
      | (show KeepL _ _ _; first | (refine KeepL.cons ?_; ((try show LHas _ _ _); repeat (with_reducible show LHas _ _ _); first | apply LHas.here | apply LHas.next); ((try show LHas _ _ _); repeat (with_reducible show LHas _ _ _); first | apply LHas.here | apply LHas.next); refine And.intro rfl ?_) | exact KeepL.nil)
      | (show InL _ _; first | exact InL.here | refine InL.next ?_)
      | (show False; (exact T.num))
    all_goals (try dsimp only)
    have e : xorR key nonce b = ([], 9) := by unfold xorR; (repeat first | rw [if_pos (by first | assumption | omega)] | rw [if_neg (by first | assumption | omega)])
    rw [e]
    exact RetL.frz [] (LF.tup ⟨LF.nils rfl rfl, LF.eq rfl, trivial⟩) LSub.nil
@[simp] theorem xorL_len (key nonce b : List UInt8) : (xorL key nonce b).length = b.length := by simp [xorL]
attribute [irreducible] xorL
end Go.Proofs.YtdpfcpkedaolfaaDoor
