/-
  Plain facts: parcels, tickets and messages as data, and how their cells read.
-/
import Derived.Test.YtmfifkkmbkcibaaRep2
namespace Go.Proofs.Ytmfifkkmbkcibaa
set_option linter.unusedVariables false
open Go.RowKit

/-- An int of Go. -/
def rng (x : Int) : Prop := -9223372036854775808 ≤ x ∧ x ≤ 9223372036854775807

structure Parcel where
  count : Int
  data : List UInt8
structure Ticket where
  next : Int
  parcels : List Parcel
  first : Int
  sent : Int
structure Msg where
  arr : Int
  kind : Int
  terminal : Int
  bearer : Int
  number : Int
  data : List UInt8
  tickets : List Ticket

theorem sl_one {α : Type} {R : Rep α} {S : Nat → Prop} {w : World} {v : Value} {xs : List α} (h : Sl R S w v xs) : v.oneCell' = true := by
  obtain ⟨a, cap, rfl, _⟩ := h.len; rfl

def parcelR : Rep Parcel where
  n := 2
  rd S w cs p := ∃ d, cs = [.int .i64 p.count, d] ∧ rng p.count ∧ Sl byteR S w d p.data
  len h := by obtain ⟨d, rfl, _⟩ := h; rfl
  one h := by obtain ⟨d, rfl, _, h⟩ := h; intro v hv; simp at hv; rcases hv with rfl | rfl; rfl; exact sl_one h
  kept h hk := by obtain ⟨d, rfl, h1, h⟩ := h; exact ⟨d, rfl, h1, h.kept hk⟩
  lt h hk := by obtain ⟨d, rfl, h1, h⟩ := h; exact ⟨d, rfl, h1, h.lt (by decide) hk⟩
def ticketR : Rep Ticket where
  n := 4
  rd S w cs t := ∃ d, cs = [.int .i64 t.next, d, .int .i64 t.first, .int .i64 t.sent] ∧ rng t.next ∧ rng t.first ∧ rng t.sent ∧ Sl parcelR S w d t.parcels
  len h := by obtain ⟨d, rfl, _⟩ := h; rfl
  one h := by obtain ⟨d, rfl, _, _, _, h⟩ := h; intro v hv; simp at hv; rcases hv with rfl | rfl | rfl | rfl; rfl; exact sl_one h; rfl; rfl
  kept h hk := by obtain ⟨d, rfl, h1, h2, h3, h⟩ := h; exact ⟨d, rfl, h1, h2, h3, h.kept hk⟩
  lt h hk := by obtain ⟨d, rfl, h1, h2, h3, h⟩ := h; exact ⟨d, rfl, h1, h2, h3, h.lt (by decide) hk⟩
def msgR : Rep Msg where
  n := 7
  rd S w cs m := ∃ d t, cs = [.int .i64 m.arr, .int .i64 m.kind, .int .i64 m.terminal, .int .i64 m.bearer, .int .i64 m.number, d, t] ∧ rng m.arr ∧ rng m.kind ∧ rng m.terminal ∧ rng m.bearer ∧ rng m.number ∧ Sl byteR S w d m.data ∧ Sl ticketR S w t m.tickets
  len h := by obtain ⟨d, t, rfl, _⟩ := h; rfl
  one h := by
    obtain ⟨d, t, rfl, _, _, _, _, _, h, h'⟩ := h
    intro v hv; simp at hv
    rcases hv with rfl | rfl | rfl | rfl | rfl | rfl | rfl
    · rfl
    · rfl
    · rfl
    · rfl
    · rfl
    · exact sl_one h
    · exact sl_one h'
  kept h hk := by obtain ⟨d, t, rfl, h1, h2, h3, h4, h5, h, h'⟩ := h; exact ⟨d, t, rfl, h1, h2, h3, h4, h5, h.kept hk, h'.kept hk⟩
  lt h hk := by obtain ⟨d, t, rfl, h1, h2, h3, h4, h5, h, h'⟩ := h; exact ⟨d, t, rfl, h1, h2, h3, h4, h5, h.lt (by decide) hk, h'.lt (by decide) hk⟩

theorem own_empty {α : Type} (R : Rep α) (S : Nat → Prop) (w : World) (e : TypeId) : Own R S w.heap.size e (w.alloc (.cells #[] e)) (.slice (some ⟨w.heap.size, 0, none⟩) 0 0) [] :=
  ⟨[], ⟨by simp, .inr ⟨w.heap.size, 0, #[], rfl, Nat.le_refl _, heap_alloc_new w _, Nat.le_refl _, by unfold maxLen; omega, by simp, by simp⟩⟩, rfl⟩
end Go.Proofs.Ytmfifkkmbkcibaa
