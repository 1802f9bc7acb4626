/-
  The contracts of tag's middle functions: the taking of a word, the first state, made bytes, in the program and in the reference.
-/
import Derived.Test.YteahbonhdoaibaaTagLeaf
import Derived.Test.YteahbonhdoaibaaOwn
import Derived.Deep.QuietTactic
import Derived.BigQuiet
namespace Go.Proofs.Yteahbonhdoaibaa
open Go.RowKit

/-- A word is taken. -/
def tk (s : W4) (m : UInt64) : W4 :=
  let t := rnds 2 { s with d := s.d ^^^ m }
  { t with a := t.a ^^^ m }
/-- The first state. -/
def ini (k : List UInt8) : W4 :=
  ⟨ldw (k.take 8) ^^^ 0x736f6d6570736575, ldw (k.drop 8) ^^^ 0x646f72616e646f6d, ldw (k.take 8) ^^^ 0x6c7967656e657261, ldw (k.drop 8) ^^^ 0x7465646279746573⟩

set_option maxHeartbeats 400000 in
theorem sword_any (b : Nat) (s : W4) (m : UInt64) (w : World) (hs : St 43 w b s) :
    Calls Try.prog 16 #[.pointer (some ⟨b, 0, none⟩), .int .u64 (U m)] w fun e w' => e = .returned (.tuple #[]) ∧ St 43 w' b (tk s m) ∧ On b w w' := by
  have hx := U_xor
  have c0 := hs.c0; have c3 := hs.c3; have f := hs.f
  have HS := Lib.hid hs; clear hs
  go_enter Try.func16, Try.ntmps16
  go_wp2_with fail
  refine (rounds_any b _ 2 _ (by omega) (HS.out.set3 _)).mono ?_
  rintro e w1 ⟨rfl, hs1, ho1⟩
  have c0 := hs1.c0; have f := hs1.f
  have HS1 := Lib.hid hs1; clear hs1
  have HO1 := Lib.hid ho1; clear ho1
  go_wp2_with fail
  go_end0
  exact ⟨rfl, HS1.out.set0 _, (((On.refl _ _).set _).trans HO1.out).set _⟩

set_option maxHeartbeats 400000 in
theorem stake_any (b : Nat) (s : W4) (m : UInt64) (w : World) (hs : St 48 w b s) :
    Calls Try.prog 19 #[.pointer (some ⟨b, 0, none⟩), .int .u64 (U m)] w fun e w' => e = .returned (.tuple #[]) ∧ St 48 w' b (tk s m) ∧ On b w w' := by
  have hx := U_xor
  have c0 := hs.c0; have c3 := hs.c3; have f := hs.f
  have HS := Lib.hid hs; clear hs
  go_enter Try.func19, Try.ntmps19
  go_wp2_with fail
  refine (rrounds_any b _ 2 _ (by omega) (HS.out.set3 _)).mono ?_
  rintro e w1 ⟨rfl, hs1, ho1⟩
  have c0 := hs1.c0; have f := hs1.f
  have HS1 := Lib.hid hs1; clear hs1
  have HO1 := Lib.hid ho1; clear ho1
  go_wp2_with fail
  go_end0
  exact ⟨rfl, HS1.out.set0 _, (((On.refl _ _).set _).trans HO1.out).set _⟩

theorem load_same (b off cap : Nat) (l : List UInt8) (w : World) (h8 : 8 ≤ l.length) (hc : l.length ≤ cap) (hcell : ∀ i, i < l.length → w.cell? ⟨b, off + i, none⟩ = some (.int .u8 (B (l.getD i 0)))) :
    Calls Try.prog 21 #[.slice (some ⟨b, off, none⟩) l.length cap] w fun e w' => e = .returned (.int .u64 (U (ldw (l.take 8)))) ∧ w' = w :=
  (load_any b off cap l w h8 hc hcell).mono fun _ _ ⟨he, hw⟩ => ⟨he, hw.symm⟩

theorem U_xc (x : UInt64) (n : Nat) (h : n < 18446744073709551616) : bits .xor .u64 (U x) (n : Int) = U (x ^^^ UInt64.ofNat n) := by
  rw [← U_xor, U_ofNat n h]

theorem ini_cells (x y : UInt64) (w : World) (t : TypeId) : St t (w.alloc (.cells #[.int .u64 (bits .xor .u64 (U x) 8317987319222330741), .int .u64 (bits .xor .u64 (U y) 7237128888997146477), .int .u64 (bits .xor .u64 (U x) 7816392313619706465), .int .u64 (bits .xor .u64 (U y) 8387220255154660723)] t)) w.heap.size
    ⟨x ^^^ 0x736f6d6570736575, y ^^^ 0x646f72616e646f6d, x ^^^ 0x6c7967656e657261, y ^^^ 0x7465646279746573⟩ := by
  have k1 : bits .xor .u64 (U x) 8317987319222330741 = U (x ^^^ 0x736f6d6570736575) := U_xc x 8317987319222330741 (by omega)
  have k2 : bits .xor .u64 (U y) 7237128888997146477 = U (y ^^^ 0x646f72616e646f6d) := U_xc y 7237128888997146477 (by omega)
  have k3 : bits .xor .u64 (U x) 7816392313619706465 = U (x ^^^ 0x6c7967656e657261) := U_xc x 7816392313619706465 (by omega)
  have k4 : bits .xor .u64 (U y) 8387220255154660723 = U (y ^^^ 0x7465646279746573) := U_xc y 8387220255154660723 (by omega)
  rw [k1, k2, k3, k4]
  exact ⟨heap_alloc_new _ _⟩

set_option maxHeartbeats 400000 in
theorem begin_any (v : Value) (l : List UInt8) (w : World) (h16 : l.length = 16) (hb : Bts w v l) :
    Calls Try.prog 14 #[v] w fun e w' => e = .returned (.pointer (some ⟨w.heap.size, 0, none⟩)) ∧ St 43 w' w.heap.size (ini l) ∧ Below w.heap.size w w' ∧ w'.heap.size = w.heap.size + 1 := by
  rcases hb with ⟨rfl, rfl⟩ | ⟨b, off, cap, rfl, h1, h2, h3⟩
  · simp at h16
  have n8 : ¬ cap = 8 := by omega
  have g8 : 8 ≤ cap := by omega
  have A1 := fun nq => load_same b off cap l (w.drewN nq) (by omega) h1 h3
  have A2 := fun nq => load_same b (off + 8) (cap - 8) (l.drop 8) (w.drewN nq) (by simp; omega) (by simp; omega) (fun i hi => by
    have := h3 (8 + i) (by simp at hi; omega)
    rw [show off + (8 + i) = off + 8 + i by omega] at this
    rw [show (w.drewN nq).cell? ⟨b, off + 8 + i, none⟩ = w.cell? ⟨b, off + 8 + i, none⟩ from rfl, this]
    simp [List.getD_eq_getElem?_getD])
  have e2 : (l.drop 8).take 8 = l.drop 8 := by rw [List.take_of_length_le]; simp; omega
  rw [e2] at A2
  rw [show (l.drop 8).length = 8 by simp; omega] at A2
  rw [h16] at A1 ⊢
  clear h3 e2 h1 h2
  have B1 := Lib.hid A1; clear A1
  have B2 := Lib.hid A2; clear A2
  go_enter Try.func14, Try.ntmps14
  go_wp2_with fail
  go_quiet (first | (with_reducible exact Calls.quiet_of_same (B1.out _)) | (with_reducible exact Calls.quiet_of_same (B2.out _)))
  go_wp2_with fail
  go_ret
  refine ⟨rfl, ini_cells _ _ (w.drewN nq) _, ?_, by simp⟩
  exact Below.alloc (a := w) (w := w.drewN nq) ⟨rfl, rfl, rfl, Nat.le_refl _, fun _ _ => rfl⟩ (Nat.le_refl _) _

/-- A byte of a number. -/
def byteOf (x : Int) : UInt8 := UInt8.ofNat (x % 256).toNat
theorem B_of (x : Int) : IntKind.u8.wrap x = B (byteOf x) := by
  unfold B byteOf
  simp [IntKind.wrap, IntKind.bits, IntKind.signed]
  omega
theorem byteOf_wrap (x : Int) : byteOf (wrap64 x) = byteOf x := by
  unfold byteOf
  congr 2
  unfold wrap64
  omega
theorem byteOf_wadd (x y : Int) : byteOf (wrap64 x + y) = byteOf (x + y) := by
  unfold byteOf
  congr 2
  unfold wrap64
  omega
/-- The bytes that follow a number. -/
def fil (seed : Int) (n : Nat) : List UInt8 := (List.range n).map fun (i : Nat) => byteOf (seed + 7 * i + i / 16)
theorem fil_len (seed : Int) (n : Nat) : (fil seed n).length = n := by simp [fil]
theorem fil_succ (seed : Int) (n : Nat) : fil seed (n + 1) = fil seed n ++ [byteOf (seed + 7 * n + n / 16)] := by simp [fil, List.range_succ]

set_option maxHeartbeats 400000 in
theorem filled_any (n : Nat) (seed : Int) (w : World) (hn : n ≤ 100000) :
    Calls Try.prog 8 #[.int .i64 n, .int .i64 seed] w fun e w' => ∃ v, e = .returned v ∧ Bts w' v (fil seed n) ∧ Below w.heap.size w w' := by
  obtain ⟨i0, hi, hz0, hz1, hz2⟩ := info_parts (P := Try.prog) (e := 5) (z := .int .u8 0) (size := 1) (bytes := 1) (by kernel_rfl)
  go_enter Try.func8, Try.ntmps8
  go_wp2
  go_loopw [5, 6] (fun v i wr => ∃ k : Nat, k ≤ n ∧ i = .int .i64 k ∧ wr.ownsRow w.heap.size 5 1 v k ((fil seed k).map fun c => Value.int .u8 (B c)) ∧ Below w.heap.size w wr) (fun _ i _ => n - (intOf i).toNat)
  case atStart => exact ⟨0, by omega, rfl, World.ownsRow_nil _ _ _ _, Below.refl _ _⟩
  case round =>
    obtain ⟨k, hk, rfl, hown, hbel⟩ := hrel
    by_cases hlt : k < n
    · have HO := Lib.hid hown; clear hown
      have HB := Lib.hid hbel; clear hbel
      have r1 := B_of; have r2 := byteOf_wrap; have r3 := byteOf_wadd
      go_wp2_with (at_builtin; refine wpList_app1 _ rfl _ _ 22 rfl w.heap.size 5 i0 (.int .u8 0) 1 Try.underlying22 hi hz0 hz1 hz2 rfl _ _ _ rfl (HO.out.alloc _) wr.heap.size (.int .u8 (B (byteOf (seed + 7 * k + k / 16)))) rfl (new_cell _ _ _) rfl ?c3 ?c4 ?c5 ?_)
      case c3 => unfold maxLen; omega
      case c4 => omega
      case c5 => have := HB.out.size; simp; omega
      intro v' w1 hown1 hg1
      have hb1 := below_app HB.out (Nat.le_refl _) HO.out hg1
      rw [← List.map_singleton (f := fun c => Value.int .u8 (B c)), ← List.map_append, ← fil_succ] at hown1
      have HO1 := Lib.hid hown1; clear hown1
      have HB1 := Lib.hid hb1; clear hb1 hg1 HO HB
      go_wp2
      go_roundw
      case rel => exact ⟨k + 1, by omega, by go_num, HO1.out, HB1.out⟩
      case measure => simp [intOf]; omega
    · obtain rfl : n = k := by omega
      have HO := Lib.hid hown; clear hown
      have HB := Lib.hid hbel; clear hbel
      go_wp2
      go_ret
      have h := HO.out
      rw [← fil_len seed n] at h
      exact ⟨_, rfl, Bts.owns (by rw [fil_len] at h ⊢; exact h), HB.out⟩
end Go.Proofs.Yteahbonhdoaibaa
