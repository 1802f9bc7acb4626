import Derived.Test.YtnlpjbedkdhlbaaAm18
namespace Go.Proofs.Ytnlpjbedkdhlbaa
open Go.RowKit
set_option linter.all false
variable {G : Nat → AV}
/-- Bytes, of bits. -/
def byteN (l : List Bool) : Nat := l.foldl (fun a b => 2 * a + b.toNat) 0
def byteB (l : List Bool) : UInt8 := UInt8.ofNat (byteN l)
def bytesB (bs : List Bool) : List UInt8 := (List.range (bs.length / 8)).map fun j => byteB ((bs.drop (8 * j)).take 8)
@[simp] theorem bytesB_len (bs : List Bool) : (bytesB bs).length = bs.length / 8 := by simp [bytesB]
theorem bytesB_set (bs : List Bool) (k : Nat) (x : Bool) (h8 : bs.length % 8 = 0) (hk : k < bs.length) : (bytesB bs).set (k / 8) (byteB (((bs.drop (8 * (k / 8))).take 8).set (k % 8) x)) = bytesB (bs.set k x) := by
  apply List.ext_getElem
  · simp [bytesB]
  · intro j h1 h2
    rw [List.getElem_set]
    have hj : j < bs.length / 8 := by simpa [bytesB] using h1
    split
    · rename_i e
      subst e
      simp only [bytesB, List.length_set, List.getElem_map, List.getElem_range]
      rw [List.drop_set, if_neg (by omega), List.take_set]
      congr 2
      omega
    · rename_i e
      simp only [bytesB, List.length_set, List.getElem_map, List.getElem_range]
      rw [List.drop_set]
      split
      · rfl
      · rw [List.take_set, List.set_eq_of_length_le]
        simp
        omega
theorem byte_or : ∀ b0 b1 b2 b3 b4 b5 b6 b7 : Bool, ∀ r, r < 8 → b8 (BitVec.ofInt 8 ((byteB [b0, b1, b2, b3, b4, b5, b6, b7]).toNat : Int) ||| BitVec.ofInt 8 (2 ^ (7 - r) : Int)).toNat = byteB ([b0, b1, b2, b3, b4, b5, b6, b7].set r true) := by decide +kernel
theorem byte_andn : ∀ b0 b1 b2 b3 b4 b5 b6 b7 : Bool, ∀ r, r < 8 → b8 (BitVec.ofInt 8 ((byteB [b0, b1, b2, b3, b4, b5, b6, b7]).toNat : Int) &&& ~~~ BitVec.ofInt 8 (2 ^ (7 - r) : Int)).toNat = byteB ([b0, b1, b2, b3, b4, b5, b6, b7].set r false) := by decide +kernel
theorem list8 {l : List Bool} (h : l.length = 8) : ∃ b0 b1 b2 b3 b4 b5 b6 b7, l = [b0, b1, b2, b3, b4, b5, b6, b7] := by
  match l, h with
  | [b0, b1, b2, b3, b4, b5, b6, b7], _ => exact ⟨b0, b1, b2, b3, b4, b5, b6, b7, rfl⟩
theorem byteB_or (l : List Bool) (h : l.length = 8) (r : Nat) (hr : r < 8) : b8 (BitVec.ofInt 8 ((byteB l).toNat : Int) ||| BitVec.ofInt 8 (2 ^ (7 - r) : Int)).toNat = byteB (l.set r true) := by
  obtain ⟨b0, b1, b2, b3, b4, b5, b6, b7, rfl⟩ := list8 h
  exact byte_or b0 b1 b2 b3 b4 b5 b6 b7 r hr
theorem byteB_andn (l : List Bool) (h : l.length = 8) (r : Nat) (hr : r < 8) : b8 (BitVec.ofInt 8 ((byteB l).toNat : Int) &&& ~~~ BitVec.ofInt 8 (2 ^ (7 - r) : Int)).toNat = byteB (l.set r false) := by
  obtain ⟨b0, b1, b2, b3, b4, b5, b6, b7, rfl⟩ := list8 h
  exact byte_andn b0 b1 b2 b3 b4 b5 b6 b7 r hr
theorem ibits_and (x n : Nat) (hn : n ≤ 32) (hx : x < 4611686018427387904) : ibits .and .i64 (x : Int) ((2 ^ n - 1 : Nat) : Int) = ((x % 2 ^ n : Nat) : Int) := by
  have hp : 2 ^ n ≤ 2 ^ 32 := Nat.pow_le_pow_right (by omega) hn
  have hq : 0 < 2 ^ n := Nat.pow_pos (by omega)
  show IntKind.i64.wrap ((BitVec.ofInt 64 (x : Int) &&& BitVec.ofInt 64 ((2 ^ n - 1 : Nat) : Int)).toNat : Int) = _
  have e : (BitVec.ofInt 64 (x : Int) &&& BitVec.ofInt 64 ((2 ^ n - 1 : Nat) : Int)).toNat = x % 2 ^ n := by
    rw [BitVec.toNat_and, BitVec.ofInt_natCast, BitVec.ofInt_natCast, BitVec.toNat_ofNat, BitVec.toNat_ofNat, Nat.mod_eq_of_lt (show x < 2 ^ 64 by omega), Nat.mod_eq_of_lt (show 2 ^ n - 1 < 2 ^ 64 by omega), Nat.and_two_pow_sub_one_eq_mod]
  rw [e]
  have h1 : x % 2 ^ n < 2 ^ n := Nat.mod_lt _ hq
  generalize x % 2 ^ n = y at *
  rw [IntKind.wrap_i64]
  omega
/-- The bits of a number, the greatest first. -/
def bitsW (w : Nat) (v : Int) : List Bool := (List.range w).map fun i => decide (v / 2 ^ (w - 1 - i) % 2 = 1)
@[simp] theorem bitsW_len (w : Nat) (v : Int) : (bitsW w v).length = w := by simp [bitsW]
theorem bit_at (w : Nat) (v : Int) (hv : 0 ≤ v) (hv2 : v < 4611686018427387904) (i : Nat) (hi : i < w) (hw : w ≤ 32) :
    ibits .and .i64 (v.fdiv (2 ^ min (w - 1 - i) 64)) 1 = if (bitsW w v).getD i false = true then 1 else 0 := by
  have e : min (w - 1 - i) 64 = w - 1 - i := Nat.min_eq_left (by omega)
  have e2 : v.fdiv (2 ^ (w - 1 - i)) = v / 2 ^ (w - 1 - i) := Int.fdiv_eq_ediv_of_nonneg _ (Int.pow_nonneg (by decide))
  have h0 : 0 ≤ v / 2 ^ (w - 1 - i) := Int.ediv_nonneg hv (Int.pow_nonneg (by decide))
  have h1 : v / 2 ^ (w - 1 - i) ≤ v := Int.ediv_le_self _ hv
  rw [e, e2]
  have h2 : (bitsW w v).getD i false = decide (v / 2 ^ (w - 1 - i) % 2 = 1) := by
    simp [bitsW, List.getD_eq_getElem?_getD, hi]
  rw [h2]
  generalize v / 2 ^ (w - 1 - i) = y at *
  obtain ⟨m, rfl⟩ := Int.eq_ofNat_of_zero_le h0
  have := ibits_and m 1 (by decide) (by omega)
  rw [show ((2 ^ 1 - 1 : Nat) : Int) = 1 from rfl] at this
  rw [this]
  have h3 := Nat.mod_two_eq_zero_or_one m
  rcases h3 with h3 | h3
  · rw [show 2 ^ 1 = 2 from rfl, h3, if_neg (by simp; omega)]; rfl
  · rw [show 2 ^ 1 = 2 from rfl, h3, if_pos (by simp; omega)]; rfl
/-- Bits, in their place. -/
def setB (bs : List Bool) (at_ : Nat) (l : List Bool) : List Bool := bs.take at_ ++ (l ++ bs.drop (at_ + l.length))
theorem setB_len (bs : List Bool) (at_ : Nat) (l : List Bool) (h : at_ + l.length ≤ bs.length) : (setB bs at_ l).length = bs.length := by simp [setB]; omega
theorem setB_succ (bs : List Bool) (at_ i : Nat) (l : List Bool) (hi : i < l.length) (h : at_ + l.length ≤ bs.length) : (setB bs at_ (l.take i)).set (at_ + i) (l.getD i false) = setB bs at_ (l.take (i + 1)) := by
  have h1 : (l.take i).length = i := by simp; omega
  have h2 : (l.take (i + 1)).length = i + 1 := by simp; omega
  unfold setB
  rw [h1, h2, List.set_append, if_neg (by simp; omega), List.set_append, if_neg (by simp; omega)]
  have e1 : at_ + i - (bs.take at_).length - (l.take i).length = 0 := by simp; omega
  rw [e1, List.drop_eq_getElem_cons (show at_ + i < bs.length by omega)]
  simp only [List.set_cons_zero]
  rw [List.take_succ_eq_append_getElem hi, List.append_assoc]
  simp only [List.getD_eq_getElem?_getD, List.getElem?_eq_getElem hi, Option.getD_some, List.singleton_append, Nat.add_assoc]
theorem setB_nil (bs : List Bool) (at_ : Nat) : setB bs at_ [] = bs := by simp [setB]
theorem tdiv8 (n : Int) (h : 0 ≤ n) : n.tdiv 8 = n / 8 := Int.tdiv_eq_ediv_of_nonneg h
theorem tmod8 (n : Int) (h : 0 ≤ n) : n.tmod 8 = n % 8 := Int.tmod_eq_emod_of_nonneg h
theorem mask_eq (r : Nat) (hr : r < 8) : IntKind.u8.wrap (1 * 2 ^ min (7 - (r : Int)).toNat IntKind.u8.bits) = 2 ^ (7 - r) := by
  have : ∀ r : Nat, r < 8 → IntKind.u8.wrap (1 * 2 ^ min (7 - (r : Int)).toNat IntKind.u8.bits) = 2 ^ (7 - r) := by decide +kernel
  exact this r hr
theorem bytesB_getD (bs : List Bool) (j : Nat) (h : j < bs.length / 8) : (bytesB bs).getD j 0 = byteB ((bs.drop (8 * j)).take 8) := by
  simp [bytesB, List.getD_eq_getElem?_getD, h]
theorem step_or (bs : List Bool) (k : Nat) (h8 : bs.length % 8 = 0) (hk : k < bs.length) : (bytesB bs).set (k / 8) (b8 ((BitVec.ofInt 8 (((bytesB bs).getD (k / 8) 0).toNat : Int) ||| BitVec.ofInt 8 (2 ^ (7 - k % 8) : Int)).toNat : Int)) = bytesB (bs.set k true) := by
  rw [bytesB_getD bs _ (by omega), byteB_or _ (by simp; omega) (k % 8) (by omega), bytesB_set bs k true h8 hk]
theorem step_andn (bs : List Bool) (k : Nat) (h8 : bs.length % 8 = 0) (hk : k < bs.length) : (bytesB bs).set (k / 8) (b8 ((BitVec.ofInt 8 (((bytesB bs).getD (k / 8) 0).toNat : Int) &&& ~~~ BitVec.ofInt 8 (2 ^ (7 - k % 8) : Int)).toNat : Int)) = bytesB (bs.set k false) := by
  rw [bytesB_getD bs _ (by omega), byteB_andn _ (by simp; omega) (k % 8) (by omega), bytesB_set bs k false h8 hk]
set_option maxHeartbeats 2000000 in
theorem bset_c (bs : List Bool) (n w : Nat) (v : Int) (h8 : bs.length % 8 = 0) (hl : bs.length ≤ 100000) (hn : n + w ≤ bs.length) (hw : w ≤ 32) (hv : 0 ≤ v) (hv2 : v < 4611686018427387904) (p : Nm) :
    LSpec Try.prog G 62 [.vw p 0 (bs.length / 8) 1, iAV n, iAV w, iAV v] [(p, ⟨5, (bytesB bs).map bAV⟩)] (fun _ => (.tup [], [(p, ⟨5, (bytesB (setB bs n (bitsW w v))).map bAV⟩)])) := by
  have hadd : ∀ i : Nat, i < w → iarith .add .i64 (n : Int) (i : Int) = ((n + i : Nat) : Int) := fun i hi => by (exact T.num)
  have hidx : ∀ i : Nat, i < w → IntKind.i64.wrap ((iarith .add .i64 (n : Int) (i : Int)).tdiv 8) = (((n + i) / 8 : Nat) : Int) := fun i hi => by
    rw [hadd i hi, tdiv8 _ (by omega), IntKind.wrap_i64]
    omega
  have hmod : ∀ i : Nat, i < w → (iarith .add .i64 (n : Int) (i : Int)).tmod 8 = (((n + i) % 8 : Nat) : Int) := fun i hi => by
    rw [hadd i hi, tmod8 _ (by omega)]
    omega
  have hsl : ∀ i : Nat, i < w → (setB bs n ((bitsW w v).take i)).length = bs.length := fun i hi => setB_len _ _ _ (by simp; omega)
  have hpos : ∀ i : Nat, i < w → 0 + (IntKind.i64.wrap ((iarith .add .i64 (n : Int) (i : Int)).tdiv 8)).toNat * 1 = (n + i) / 8 := fun i hi => by rw [hidx i hi]; omega
  have hmask : ∀ i : Nat, i < w → IntKind.u8.wrap (1 * 2 ^ min (iarith .sub .i64 7 ((iarith .add .i64 (n : Int) (i : Int)).tmod 8)).toNat IntKind.u8.bits) = 2 ^ (7 - (n + i) % 8) := fun i hi => by
    rw [hmod i hi, show iarith .sub .i64 7 (((n + i) % 8 : Nat) : Int) = 7 - (((n + i) % 8 : Nat) : Int) by (exact T.num)]
    exact mask_eq _ (by omega)
  have hsh : ∀ i : Nat, i < w → (iarith .sub .i64 (iarith .sub .i64 (w : Int) 1) (i : Int)).toNat = w - 1 - i := fun i hi => by
    have : iarith .sub .i64 (iarith .sub .i64 (w : Int) 1) (i : Int) = (w : Int) - 1 - i := by (exact T.num)
    rw [this]; omega
  have hbit : ∀ i : Nat, i < w → ibits .and .i64 (v.fdiv (2 ^ min (iarith .sub .i64 (iarith .sub .i64 (w : Int) 1) (i : Int)).toNat IntKind.i64.bits)) 1 = if (bitsW w v).getD i false = true then 1 else 0 := fun i hi => by
    rw [hsh i hi]
    exact bit_at w v hv hv2 i hi hw
  refine LSpec.introL tyOk Try.func62 rfl (by kernel_rfl) (by simp) (fun q => ⟨by simp, by simp⟩) ?_
  refine AWpL.sound tyOk [] _ _ _ _ ?_
  conv => whnf
  repeat' first
    | (show LHas _ _ _; ((try show LHas _ _ _); repeat (with_reducible show LHas _ _ _); first | apply LHas.here | apply LHas.next); conv => whnf)
    | ((first | (with_reducible refine And.intro ?_ ?_) | refine And.intro ?_ ?_); (focus (first | (rw [hidx _ (by omega)]; omega) | (rw [hmod _ (by omega)]; first | omega | (exact T.num)) | (dsimp only; rw [hidx _ (by omega), List.length_map, bytesB_len, hsl _ (by omega)]; omega) | (dsimp only; rw [hidx _ (by omega), bytesB_len, hsl _ (by omega)]; omega) | exact T.side)); conv => whnf)
    | (show ABr _ _ _; first | (refine ABr.tt ?_; conv => whnf) | (refine ABr.ff ?_; conv => whnf) | (refine ABr.byN ?_) | ((with_reducible refine ABr.lssT (by assumption) ?_); conv => whnf) | ((with_reducible refine ABr.lssF (by assumption) ?_); conv => whnf) | ((with_reducible refine ABr.lss (fun h => ?_) (fun h => ?_)) <;> first | (exfalso; omega) | conv => whnf) | ((with_reducible refine ABr.eqlT (by assumption) ?_); conv => whnf) | ((with_reducible refine ABr.eqlF (by assumption) ?_); conv => whnf) | ((with_reducible refine ABr.eql (fun h => ?_) (fun h => ?_)) <;> first | (exfalso; omega) | conv => whnf) | (refine ABr.byT (by with_reducible assumption) ?_; conv => whnf) | (refine ABr.byF (by with_reducible assumption) ?_; conv => whnf) | ((with_reducible refine ABr.decT rfl ?_); conv => whnf) | ((with_reducible refine ABr.decT (by assumption) ?_); conv => whnf) | ((with_reducible refine ABr.decF (by assumption) ?_); conv => whnf) | (refine ABr.dec (fun h => ?_) (fun h => ?_) <;> first | (exfalso; omega) | conv => whnf) | (refine ABr.gen (fun h => ?_) (fun h => ?_) <;> conv => whnf))
    | (show ACell _ _ _; first | (refine ACell.idx ((n + i) / 8) 0 ?_ ?_ ?_; (focus (dsimp only; rw [hidx _ (by omega)]; omega)); (focus (rw [bytesB_len, hsl _ (by omega)]; omega)); conv => whnf) | (refine ACell.cell 0 ?_ ?_; (focus (first | exact T.side)); conv => whnf) | (refine ACell.mk ?_; conv => whnf))
    | (show AList _ _; first | (refine AList.set (x := b8 _) (bAV_b8 _).symm ?_ ?_; (focus (dsimp only; rw [hidx _ (by omega), bytesB_len, hsl _ (by omega)]; omega)); conv => whnf) | (refine AList.app ?_ ?_; (focus (first | exact T.side)); conv => whnf) | (refine AList.set (x := b8 _) (bAV_b8 _).symm ?_ ?_; (focus (first | exact T.side)); conv => whnf) | (refine AList.set (f := iAV) rfl ?_ ?_; (focus (first | exact T.side)); conv => whnf) | (refine AList.part ?_; conv => whnf) | (refine AList.force ?_; (conv => whnf); refine Lit.mk ?_; conv => whnf) | (refine AList.full ?_ ?_; (focus (first | exact Nat.le_of_ble_eq_true rfl | (simp; done) | (simp; omega))); conv => whnf) | (refine AList.mk ?_; conv => whnf))
    | (refine LFresh.mk fun r => ?_; conv => whnf)
    | (show SWpL _ _ _ _ _ _ _; first | (apply SWpL.loopC 1 (S := Nat) [0, 1, 2, 3, 10] (fun zz => match zz with | (i) => [(11, .int .i64 i)]) (fun zz => match zz with | (i) => [(p, ⟨5, (bytesB (setB bs n ((bitsW w v).take i))).map bAV⟩)]) (fun zz => match zz with | (i) => i ≤ w) (fun zz => match zz with | (i) => w - i) (0) (by rfl); (focus ((repeat' first | exact trivial | (refine And.intro ?_ ?_) | exact LSub.nil | (with_reducible exact LSub.refl) | (apply LSub.cons; ((try show LHas _ _ _); repeat (with_reducible show LHas _ _ _); first | apply LHas.here | apply LHas.next); refine And.intro ?_ ?_; (focus (try (first | (with_reducible rfl) | (refine congrArg (Pl.mk _) ?_; (first | rfl | (simp [setB_nil]; done))) | rfl | (with_reducible refine congrArg (Pl.mk _) ?_))))) | assumption | (first | rfl | ((conv => lhs; whnf); first | rfl | (refine congrArg (AV.int _) ?_; (exact T.num)) | (refine congrArg AV.bool ?_; (exact T.num)) | (refine vw_congr ?_; first | (exact T.num) | (first | rfl | (simp [setB_nil]; done))) | (refine sl_congr ?_ ?_ <;> first | (exact T.num) | (first | rfl | (simp [setB_nil]; done))) | (first | rfl | (simp [setB_nil]; done)))) | (exact T.num) | (dsimp only; (exact T.num)) | (first | rfl | (simp [setB_nil]; done))); done)); (rintro i hok; ((try dsimp only at hok); repeat (have hk := And.left hok; replace hok := And.right hok)); refine AtL.step tyOk [] ?_; conv => whnf)))
    | (show AtL _ _ _ _ _ _ _ _ _ _; first | (apply AtL.mk' (id := 1) (S := Nat) (i + 1); (repeat' first | exact trivial | (refine And.intro ?_ ?_) | exact LSub.nil | (with_reducible exact LSub.refl) | (apply LSub.cons; ((try show LHas _ _ _); repeat (with_reducible show LHas _ _ _); first | apply LHas.here | apply LHas.next); refine And.intro ?_ ?_; (focus (try (first | (with_reducible rfl) | (refine congrArg (Pl.mk _) ?_; (first | rfl | (simp [setB_nil]; done))) | rfl | (with_reducible refine congrArg (Pl.mk _) ?_))))) | assumption | (first | rfl | ((conv => lhs; whnf); first | rfl | (refine congrArg (AV.int _) ?_; (exact T.num)) | (refine congrArg AV.bool ?_; (exact T.num)) | (refine vw_congr ?_; first | (exact T.num) | (first | rfl | (simp [setB_nil]; done))) | (refine sl_congr ?_ ?_ <;> first | (exact T.num) | (first | rfl | (simp [setB_nil]; done))) | (first | rfl | (simp [setB_nil]; done)))) | (exact T.num) | (dsimp only; (exact T.num)) | (first | rfl | (simp [setB_nil]; done))); done) | (apply AtL.mk' (id := 1) (S := Nat) (i + 1); (repeat' first | exact trivial | (refine And.intro ?_ ?_) | exact LSub.nil | (with_reducible exact LSub.refl) | (apply LSub.cons; ((try show LHas _ _ _); repeat (with_reducible show LHas _ _ _); first | apply LHas.here | apply LHas.next); refine And.intro ?_ ?_; (focus (try (first | (with_reducible rfl) | (refine congrArg (Pl.mk _) ?_; (first | rfl | (simp [setB_nil]; done))) | rfl | (with_reducible refine congrArg (Pl.mk _) ?_))))) | assumption | (first | rfl | ((conv => lhs; whnf); first | rfl | (refine congrArg (AV.int _) ?_; (exact T.num)) | (refine congrArg AV.bool ?_; (exact T.num)) | (refine vw_congr ?_; first | (exact T.num) | (first | rfl | (simp [setB_nil]; done))) | (refine sl_congr ?_ ?_ <;> first | (exact T.num) | (first | rfl | (simp [setB_nil]; done))) | (first | rfl | (simp [setB_nil]; done)))) | (exact T.num) | (dsimp only; (exact T.num)) | (first | rfl | (simp [setB_nil]; done)))))
    | (show KeepL _ _ _; first | (with_reducible exact KeepL.refl) | (refine KeepL.cons ?_; ((try show LHas _ _ _); repeat (with_reducible show LHas _ _ _); first | apply LHas.here | apply LHas.next); ((try show LHas _ _ _); repeat (with_reducible show LHas _ _ _); first | apply LHas.here | apply LHas.next); refine And.intro rfl ?_) | exact KeepL.nil)
    | (show InL _ _; first | exact InL.here | refine InL.next ?_)
    | (show False; (exact T.num))
  all_goals (try dsimp only)
  · rw [hbit i (by omega)] at h
    have hb : (bitsW w v).getD i false = true := by
      cases hc : (bitsW w v).getD i false with
      | true => rfl
      | false => rw [hc] at h; exact absurd h (by decide)
    refine congrArg (List.map bAV) ?_
    have hs := step_or (setB bs n ((bitsW w v).take i)) (n + i) (by rw [hsl i (by omega)]; exact h8) (by rw [hsl i (by omega)]; omega)
    have hu := setB_succ bs n i (bitsW w v) (by simp; omega) (by simp; omega)
    rw [hb] at hu
    rw [hpos i (by omega), hmask i (by omega), ← hu]
    exact hs
  · rw [hbit i (by omega)] at h
    have hb : (bitsW w v).getD i false = false := by
      cases hc : (bitsW w v).getD i false with
      | false => rfl
      | true => rw [hc] at h; exact absurd rfl h
    refine congrArg (List.map bAV) ?_
    have hs := step_andn (setB bs n ((bitsW w v).take i)) (n + i) (by rw [hsl i (by omega)]; exact h8) (by rw [hsl i (by omega)]; omega)
    have hu := setB_succ bs n i (bitsW w v) (by simp; omega) (by simp; omega)
    rw [hb] at hu
    rw [hpos i (by omega), hmask i (by omega), ← hu]
    exact hs
  · have hi : i = w := by omega
    have e : (bitsW w v).take i = bitsW w v := List.take_of_length_le (by simp; omega)
    rw [e]
    (refine RetL.val ?_ ?_; rotate_left; (focus ((repeat' first | exact LSub.nil | (with_reducible exact LSub.refl) | (apply LSub.cons; ((try show LHas _ _ _); repeat (with_reducible show LHas _ _ _); first | apply LHas.here | apply LHas.next); refine And.intro ?_ ?_; (focus (try (first | (with_reducible rfl) | (refine congrArg (Pl.mk _) ?_; (first | rfl | (simp; done))) | rfl | (with_reducible refine congrArg (Pl.mk _) ?_)))))))))
    rfl
end Go.Proofs.Ytnlpjbedkdhlbaa
