/-
  Plain facts on the walk's spelling of uint64 operations: what each one gives on the number of a UInt64 is the number of a UInt64.
-/
import Derived.WalkKit
namespace Go.Proofs.Ytmfifkkmbkcibaa

/-- The value of a uint64. -/
def U (x : UInt64) : Int := (x.toNat : Int)

theorem U_lo (x : UInt64) : 0 ≤ U x := by unfold U; omega
theorem U_hi (x : UInt64) : U x < 18446744073709551616 := by have := x.toNat_lt; unfold U; omega

theorem ofInt_U (x : UInt64) : BitVec.ofInt 64 (U x) = x.toBitVec := by
  apply BitVec.eq_of_toNat_eq
  unfold U
  rw [BitVec.ofInt_natCast, BitVec.toNat_ofNat]
  have := x.toNat_lt
  exact Nat.mod_eq_of_lt this

theorem wrap_nat (n : Nat) (h : n < 18446744073709551616) : IntKind.u64.wrap (n : Int) = (n : Int) := by
  simp [IntKind.wrap, IntKind.bits, IntKind.signed]; omega

theorem U_xor (x y : UInt64) : bits .xor .u64 (U x) (U y) = U (x ^^^ y) := by
  show IntKind.u64.wrap ((BitVec.ofInt 64 (U x) ^^^ BitVec.ofInt 64 (U y)).toNat : Int) = _
  rw [ofInt_U, ofInt_U, wrap_nat _ (BitVec.isLt _)]; rfl
theorem U_or (x y : UInt64) : bits .or .u64 (U x) (U y) = U (x ||| y) := by
  show IntKind.u64.wrap ((BitVec.ofInt 64 (U x) ||| BitVec.ofInt 64 (U y)).toNat : Int) = _
  rw [ofInt_U, ofInt_U, wrap_nat _ (BitVec.isLt _)]; rfl
theorem U_and (x y : UInt64) : bits .and .u64 (U x) (U y) = U (x &&& y) := by
  show IntKind.u64.wrap ((BitVec.ofInt 64 (U x) &&& BitVec.ofInt 64 (U y)).toNat : Int) = _
  rw [ofInt_U, ofInt_U, wrap_nat _ (BitVec.isLt _)]; rfl
theorem U_add (x y : UInt64) : IntKind.u64.wrap (U x + U y) = U (x + y) := by
  simp [IntKind.wrap, IntKind.bits, IntKind.signed, U, UInt64.toNat_add]

/-- The shifts by a number of places, behind names that 'simp' does not open. -/
def shlU (x : UInt64) (n : Nat) : UInt64 := x <<< UInt64.ofNat n
def shrU (x : UInt64) (n : Nat) : UInt64 := x >>> UInt64.ofNat n
def rotl (x : UInt64) (n : Nat) : UInt64 := shlU x n ||| shrU x (64 - n)

theorem U_shl (x : UInt64) (n : Nat) (h : n < 64) : IntKind.u64.wrap (U x * 2 ^ n) = U (shlU x n) := by
  simp [shlU, IntKind.wrap, IntKind.bits, IntKind.signed, U, UInt64.toNat_shiftLeft, Nat.shiftLeft_eq, Nat.mod_eq_of_lt (show n < 18446744073709551616 by omega), Nat.mod_eq_of_lt h]
theorem U_shr (x : UInt64) (n : Nat) (h : n < 64) : U x / 2 ^ n = U (shrU x n) := by
  simp [shrU, U, UInt64.toNat_shiftRight, Nat.shiftRight_eq_div_pow, Nat.mod_eq_of_lt (show n < 18446744073709551616 by omega), Nat.mod_eq_of_lt h]
theorem U_ofNat (n : Nat) (h : n < 18446744073709551616) : U (UInt64.ofNat n) = n := by
  simp [U, Nat.mod_eq_of_lt h]
theorem and63 (n : Nat) (h : n < 64) : bits BinOp.and IntKind.u64 (n : Int) 63 = n := by
  have h1 := U_and (UInt64.ofNat n) (UInt64.ofNat 63)
  rw [U_ofNat n (by omega), U_ofNat 63 (by omega)] at h1
  rw [show ((63 : Nat) : Int) = 63 from rfl] at h1
  rw [h1]
  have h2 : (UInt64.ofNat n &&& UInt64.ofNat 63) = UInt64.ofNat n := by
    apply UInt64.toNat_inj.1
    rw [UInt64.toNat_and, UInt64.toNat_ofNat', UInt64.toNat_ofNat', Nat.mod_eq_of_lt (show n < 2 ^ 64 by omega)]
    show n &&& 63 = n
    rw [show 63 = 2 ^ 6 - 1 from rfl, Nat.and_two_pow_sub_one_eq_mod]
    exact Nat.mod_eq_of_lt (by omega)
  rw [h2, U_ofNat n (by omega)]
end Go.Proofs.Ytmfifkkmbkcibaa
