/-
  Plain facts on memory: a block of four uint64 cells, and what it means that a call has changed one block alone.
-/
import Derived.Test.YtmfifkkmbkcibaaBits
import Derived.WalkKit
import Derived.Lib.Hide
namespace Go.Proofs.Ytmfifkkmbkcibaa
open Go.RowKit

/-- Four words. -/
structure W4 where
  a : UInt64
  b : UInt64
  c : UInt64
  d : UInt64

/-- One round. -/
def rnd (s : W4) : W4 :=
  let a := s.a + s.b
  let b := rotl s.b 13 ^^^ a
  let a := rotl a 32
  let c := s.c + s.d
  let d := rotl s.d 16 ^^^ c
  let a := a + d
  let d := rotl d 21 ^^^ a
  let c := c + b
  let b := rotl b 17 ^^^ c
  let c := rotl c 32
  ⟨a, b, c, d⟩

def rnds : Nat → W4 → W4
  | 0, s => s
  | n + 1, s => rnd (rnds n s)

/-- Block b holds the four words. -/
structure St (t : TypeId) (w : World) (b : Nat) (s : W4) : Prop where
  blk : w.heap[b]? = some (.cells #[.int .u64 (U s.a), .int .u64 (U s.b), .int .u64 (U s.c), .int .u64 (U s.d)] t (0, 0))

/-- But for block b (and draws) the world is as it was. -/
structure On (b : Nat) (w w' : World) : Prop where
  os : w'.os = w.os
  tape : w'.tape = w.tape
  output : w'.output = w.output
  size : w'.heap.size = w.heap.size
  block : ∀ k, k ≠ b → w'.heap[k]? = w.heap[k]?

theorem On.refl (b : Nat) (w : World) : On b w w := ⟨rfl, rfl, rfl, rfl, fun _ _ => rfl⟩
theorem On.trans {b : Nat} {u v w : World} (h : On b u v) (k : On b v w) : On b u w :=
  ⟨k.os.trans h.os, k.tape.trans h.tape, k.output.trans h.output, k.size.trans h.size, fun i hi => (k.block i hi).trans (h.block i hi)⟩
theorem On.drew {b : Nat} {u w : World} (h : On b u w) : On b u w.drew := ⟨h.os, h.tape, h.output, h.size, h.block⟩
theorem On.set {b o : Nat} {u w : World} (h : On b u w) (v : Value) : On b u (w.setCell ⟨b, o, none⟩ v) :=
  h.trans ⟨rfl, rfl, rfl, by simp [World.setCell], fun k hk => Below.heap_setCell _ _ _ _ hk⟩

section
variable {t : TypeId} {w : World} {b : Nat} {s : W4}
theorem St.c0 (h : St t w b s) : w.cell? ⟨b, 0, none⟩ = some (.int .u64 (U s.a)) := by simp [World.cell?, h.blk]
theorem St.c1 (h : St t w b s) : w.cell? ⟨b, 1, none⟩ = some (.int .u64 (U s.b)) := by simp [World.cell?, h.blk]
theorem St.c2 (h : St t w b s) : w.cell? ⟨b, 2, none⟩ = some (.int .u64 (U s.c)) := by simp [World.cell?, h.blk]
theorem St.c3 (h : St t w b s) : w.cell? ⟨b, 3, none⟩ = some (.int .u64 (U s.d)) := by simp [World.cell?, h.blk]
theorem St.f (h : St t w b s) (o : Nat) : w.frozen? ⟨b, o, none⟩ = false := by simp [World.frozen?, h.blk]
theorem St.drew (h : St t w b s) : St t w.drew b s := ⟨h.blk⟩
theorem St.set0 (h : St t w b s) (x : UInt64) : St t (w.setCell ⟨b, 0, none⟩ (.int .u64 (U x))) b { s with a := x } := ⟨by simp [World.setCell, Array.getElem?_modify, h.blk]⟩
theorem St.set1 (h : St t w b s) (x : UInt64) : St t (w.setCell ⟨b, 1, none⟩ (.int .u64 (U x))) b { s with b := x } := ⟨by simp [World.setCell, Array.getElem?_modify, h.blk]⟩
theorem St.set2 (h : St t w b s) (x : UInt64) : St t (w.setCell ⟨b, 2, none⟩ (.int .u64 (U x))) b { s with c := x } := ⟨by simp [World.setCell, Array.getElem?_modify, h.blk]⟩
theorem St.set3 (h : St t w b s) (x : UInt64) : St t (w.setCell ⟨b, 3, none⟩ (.int .u64 (U x))) b { s with d := x } := ⟨by simp [World.setCell, Array.getElem?_modify, h.blk]⟩
end
end Go.Proofs.Ytmfifkkmbkcibaa
