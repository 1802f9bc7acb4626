/-
  Plain facts: what it means that a slice value reads as a list of bytes, and that it goes on reading so; words made of bytes.
-/
import Derived.Test.YtmfifkkmbkcibaaMem
import Derived.WalkKit
import Derived.Lib.Hide
namespace Go.Proofs.Ytmfifkkmbkcibaa
open Go.RowKit

/-- The number of a byte. -/
def B (c : UInt8) : Int := (c.toNat : Int)
theorem B_lo (c : UInt8) : 0 ≤ B c := by unfold B; omega
theorem B_hi (c : UInt8) : B c < 256 := by have := c.toNat_lt; unfold B; omega
theorem B_U (c : UInt8) : B c = U c.toUInt64 := by simp [B, U]
theorem U_wrap (x : UInt64) : IntKind.u64.wrap (U x) = U x := by
  have h1 := U_lo x; have h2 := U_hi x
  simp [IntKind.wrap, IntKind.bits, IntKind.signed]; omega
theorem U_byte (x : UInt64) : IntKind.u8.wrap (U x) = B x.toUInt8 := by
  simp [IntKind.wrap, IntKind.bits, IntKind.signed, U, B]

theorem ofInt_B (x : UInt8) : BitVec.ofInt 8 (B x) = x.toBitVec := by
  apply BitVec.eq_of_toNat_eq
  unfold B
  rw [BitVec.ofInt_natCast, BitVec.toNat_ofNat]
  exact Nat.mod_eq_of_lt x.toNat_lt
theorem wrap8_nat (n : Nat) (h : n < 256) : IntKind.u8.wrap (n : Int) = (n : Int) := by
  simp [IntKind.wrap, IntKind.bits, IntKind.signed]; omega
theorem B_xor (x y : UInt8) : bits .xor .u8 (B x) (B y) = B (x ^^^ y) := by
  show IntKind.u8.wrap ((BitVec.ofInt 8 (B x) ^^^ BitVec.ofInt 8 (B y)).toNat : Int) = _
  rw [ofInt_B, ofInt_B, wrap8_nat _ (BitVec.isLt _)]; rfl
theorem mapB_get (l : List UInt8) (i : Nat) (h : i < l.length) : (l.map fun c => Value.int .u8 (B c))[i]? = some (.int .u8 (B (l.getD i 0))) := by
  simp [List.getD_eq_getElem?_getD, List.getElem?_eq_getElem h]

/-- The slice value v reads as the bytes l. -/
def Bts (w : World) (v : Value) (l : List UInt8) : Prop :=
  (v = .slice none 0 0 ∧ l = []) ∨
  ∃ b off cap, v = .slice (some ⟨b, off, none⟩) l.length cap ∧ l.length ≤ cap ∧ cap ≤ 9223372036854775807 ∧
    ∀ i, i < l.length → w.cell? ⟨b, off + i, none⟩ = some (.int .u8 (B (l.getD i 0)))

theorem Bts.nil (w : World) : Bts w (.slice none 0 0) [] := .inl ⟨rfl, rfl⟩
theorem Bts.mk {w : World} {l : List UInt8} {b off cap : Nat} (h1 : l.length ≤ cap) (h2 : cap ≤ 9223372036854775807)
    (h : ∀ i, i < l.length → w.cell? ⟨b, off + i, none⟩ = some (.int .u8 (B (l.getD i 0)))) : Bts w (.slice (some ⟨b, off, none⟩) l.length cap) l :=
  .inr ⟨b, off, cap, rfl, h1, h2, h⟩
theorem Bts.len {w : World} {v : Value} {l : List UInt8} (h : Bts w v l) : ∃ a cap, v = .slice a l.length cap ∧ l.length ≤ 9223372036854775807 := by
  rcases h with ⟨rfl, rfl⟩ | ⟨b, off, cap, rfl, h1, h2, _⟩
  · exact ⟨none, 0, rfl, by simp⟩
  · exact ⟨_, _, rfl, by omega⟩
/-- Old memory that is as it was reads as it did. -/
theorem Bts.below {w w' : World} {v : Value} {l : List UInt8} (h : Bts w v l) (hb : Below w.heap.size w w') : Bts w' v l := by
  rcases h with ⟨rfl, rfl⟩ | ⟨b, off, cap, rfl, h1, h2, h3⟩
  · exact .nil _
  · refine .inr ⟨b, off, cap, rfl, h1, h2, fun i hi => ?_⟩
    have h4 := h3 i hi
    rw [hb.cell (p := ⟨b, off + i, none⟩) (World.block_lt_of_cell? w _ h4)]
    exact h4
theorem Bts.drew {w : World} {v : Value} {l : List UInt8} (h : Bts w v l) : Bts w.drew v l := h
theorem Bts.alloc {w : World} {v : Value} {l : List UInt8} (h : Bts w v l) (o : Obj) : Bts (w.alloc o) v l :=
  h.below ((Below.refl _ _).alloc (Nat.le_refl _) o)
/-- A row of the call's own reads as its bytes. -/
theorem Bts.owns {w : World} {base : Nat} {e : TypeId} {v : Value} {l : List UInt8} (h : w.ownsRow base e 1 v l.length (l.map fun c => Value.int .u8 (B c))) : Bts w v l := by
  rcases h.2 with ⟨rfl, hn⟩ | ⟨g, cap, cur, rfl, _, hg, hnc, hcm, hcs, htake⟩
  · exact .inl ⟨rfl, List.eq_nil_of_length_eq_zero hn⟩
  · refine .inr ⟨g, 0, cap, rfl, hnc, by simpa [maxLen] using hcm, fun i hi => ?_⟩
    have h1 := h.cellAt i (by omega)
    rw [Nat.zero_add, h1]
    simp [List.getD_eq_getElem?_getD, hi]

/-- Below a smaller number, by two steps. -/
theorem below_on {b n : Nat} {w w' : World} (h : On b w w') (hb : n ≤ b) : Below n w w' :=
  ⟨h.os, h.tape, h.output, Nat.le_of_eq h.size.symm, fun k hk => h.block k (by omega)⟩

/-- The word that bytes make, the first one lowest. -/
def ldFrom (acc : UInt64) (i : Nat) : List UInt8 → UInt64
  | [] => acc
  | c :: r => ldFrom (acc ||| shlU c.toUInt64 (8 * i)) (i + 1) r
def ldw (l : List UInt8) : UInt64 := ldFrom 0 0 l
theorem ldFrom_snoc (l : List UInt8) (c : UInt8) : ∀ acc i, ldFrom acc i (l ++ [c]) = ldFrom acc i l ||| shlU c.toUInt64 (8 * (i + l.length)) := by
  induction l with
  | nil => intro acc i; simp [ldFrom]
  | cons x l ih => intro acc i; simp only [List.cons_append, ldFrom, ih, List.length_cons]; congr 3; omega
theorem ldw_take (l : List UInt8) (k : Nat) (h : k < l.length) : ldw (l.take (k + 1)) = ldw (l.take k) ||| shlU (l.getD k 0).toUInt64 (8 * k) := by
  rw [List.take_succ_eq_append_getElem h]
  unfold ldw
  rw [ldFrom_snoc]
  have : (l.take k).length = k := by simp; omega
  rw [this, Nat.zero_add]
  simp [List.getD_eq_getElem?_getD, h]
end Go.Proofs.Ytmfifkkmbkcibaa
