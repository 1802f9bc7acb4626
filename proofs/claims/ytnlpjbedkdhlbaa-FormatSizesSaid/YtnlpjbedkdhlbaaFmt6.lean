import Derived.Test.YtnlpjbedkdhlbaaFmt5
import Derived.Test.YtnlpjbedkdhlbaaCtr3
namespace Go.Proofs.Ytnlpjbedkdhlbaa
open Go.RowKit
set_option linter.all false
variable {G : Nat → AV}
theorem bytesB_cons (l rest : List Bool) (h : l.length = 8) : bytesB (l ++ rest) = byteB l :: bytesB rest := by
  apply List.ext_getElem
  · simp [bytesB, h]
  · intro j h1 h2
    cases j with
    | zero => simp [bytesB, ← h]
    | succ j =>
      simp only [bytesB, List.getElem_map, List.getElem_range, List.getElem_cons_succ]
      rw [show 8 * (j + 1) = l.length + 8 * j by omega, List.drop_length_add_append]
theorem bytesB_nil : bytesB [] = [] := rfl
theorem bitsW8_mod (v : Int) (hv : 0 ≤ v) : bitsW 8 v = bitsW 8 (v % 256) := by
  unfold bitsW
  apply List.map_congr_left
  intro i hi
  have hi : i < 8 := by simpa using hi
  have key : v / 1 % 2 = v % 256 / 1 % 2 ∧ v / 2 % 2 = v % 256 / 2 % 2 ∧ v / 4 % 2 = v % 256 / 4 % 2 ∧ v / 8 % 2 = v % 256 / 8 % 2 ∧ v / 16 % 2 = v % 256 / 16 % 2 ∧ v / 32 % 2 = v % 256 / 32 % 2 ∧ v / 64 % 2 = v % 256 / 64 % 2 ∧ v / 128 % 2 = v % 256 / 128 % 2 := by omega
  obtain ⟨k0, k1, k2, k3, k4, k5, k6, k7⟩ := key
  have e : v / 2 ^ (8 - 1 - i) % 2 = v % 256 / 2 ^ (8 - 1 - i) % 2 := by
    rcases i with _ | _ | _ | _ | _ | _ | _ | _ | i
    · exact k7
    · exact k6
    · exact k5
    · exact k4
    · exact k3
    · exact k2
    · exact k1
    · exact k0
    · omega
  rw [e]
theorem byte8 (v : Int) (hv : 0 ≤ v) : byteB (bitsW 8 v) = b8 v := by
  rw [bitsW8_mod v hv]
  have key : ∀ m : Nat, m < 256 → byteB (bitsW 8 (m : Int)) = b8 (m : Int) := by decide +kernel
  have h1 := key (v % 256).toNat (by omega)
  rw [show (((v % 256).toNat : Nat) : Int) = v % 256 by omega] at h1
  rw [h1]
  unfold b8
  congr 2
  omega
theorem bitsW_split (a b : Nat) (v : Int) (hv : 0 ≤ v) : bitsW (a + b) v = bitsW a (v / 2 ^ b) ++ bitsW b v := by
  apply List.ext_getElem
  · simp
  · intro i h1 h2
    rw [List.getElem_append]
    have hi : i < a + b := by simpa using h1
    simp only [bitsW, List.getElem_map, List.getElem_range, List.length_map, List.length_range]
    split
    · rename_i h
      rw [Int.ediv_ediv_of_nonneg (Int.pow_nonneg (by decide)), ← Int.pow_add, show a + b - 1 - i = b + (a - 1 - i) by omega]
    · rename_i h
      rw [show a + b - 1 - i = b - 1 - (i - a) by omega]
theorem byte53 (a b : Int) (ha : 0 ≤ a ∧ a < 32) (hb : 0 ≤ b ∧ b < 8) : byteB (bitsW 5 a ++ bitsW 3 b) = b8 (8 * a + b) := by
  have key : ∀ m : Nat, m < 32 → ∀ n : Nat, n < 8 → byteB (bitsW 5 (m : Int) ++ bitsW 3 (n : Int)) = b8 (8 * (m : Int) + (n : Int)) := by decide +kernel
  have := key a.toNat (by omega) b.toNat (by omega)
  rwa [show ((a.toNat : Nat) : Int) = a by omega, show ((b.toNat : Nat) : Int) = b by omega] at this
theorem byte35 (a b : Int) (ha : 0 ≤ a ∧ a < 8) (hb : 0 ≤ b ∧ b < 32) : byteB (bitsW 3 a ++ bitsW 5 b) = b8 (32 * a + b) := by
  have key : ∀ m : Nat, m < 8 → ∀ n : Nat, n < 32 → byteB (bitsW 3 (m : Int) ++ bitsW 5 (n : Int)) = b8 (32 * (m : Int) + (n : Int)) := by decide +kernel
  have := key a.toNat (by omega) b.toNat (by omega)
  rwa [show ((a.toNat : Nat) : Int) = a by omega, show ((b.toNat : Nat) : Int) = b by omega] at this
theorem byteF (a b c d : Int) (ha : a = 0 ∨ a = 1) (hb : b = 0 ∨ b = 1) (hc : c = 0 ∨ c = 1) (hd : d = 0 ∨ d = 1) : byteB (bitsW 1 a ++ (bitsW 1 b ++ (bitsW 1 c ++ (bitsW 1 d ++ bitsW 4 0)))) = b8 (128 * a + 64 * b + 32 * c + 16 * d) := by
  rcases ha with rfl | rfl <;> rcases hb with rfl | rfl <;> rcases hc with rfl | rfl <;> rcases hd with rfl | rfl <;> decide +kernel
theorem bytes16 (v : Int) (hv : 0 ≤ v) (rest : List Bool) : bytesB (bitsW 16 v ++ rest) = putB v 2 ++ bytesB rest := by
  rw [bitsW_split 8 8 v hv, List.append_assoc, bytesB_cons _ _ (by simp), bytesB_cons _ _ (by simp), byte8 _ (Int.ediv_nonneg hv (by decide)), byte8 _ hv]
  simp only [putB, List.cons_append, List.nil_append]
  rw [Int.fdiv_eq_ediv_of_nonneg _ (by decide), Int.fdiv_eq_ediv_of_nonneg _ (by decide)]
  simp
theorem bytes32 (v : Int) (hv : 0 ≤ v) (rest : List Bool) : bytesB (bitsW 32 v ++ rest) = putB v 4 ++ bytesB rest := by
  rw [bitsW_split 16 16 v hv, List.append_assoc, bytes16 _ (Int.ediv_nonneg hv (by decide)), bytes16 _ hv]
  simp only [putB, List.cons_append, List.nil_append]
  rw [Int.fdiv_eq_ediv_of_nonneg _ (by decide), Int.fdiv_eq_ediv_of_nonneg _ (by decide), Int.fdiv_eq_ediv_of_nonneg _ (by decide), Int.fdiv_eq_ediv_of_nonneg _ (by decide), Int.fdiv_eq_ediv_of_nonneg _ (by decide), Int.fdiv_eq_ediv_of_nonneg _ (by decide), Int.ediv_ediv_of_nonneg (by decide), Int.ediv_ediv_of_nonneg (by decide)]
  rfl
theorem bytes8 (v : Int) (hv : 0 ≤ v) (rest : List Bool) : bytesB (bitsW 8 v ++ rest) = b8 v :: bytesB rest := by
  rw [bytesB_cons _ _ (by simp), byte8 _ hv]
end Go.Proofs.Ytnlpjbedkdhlbaa
