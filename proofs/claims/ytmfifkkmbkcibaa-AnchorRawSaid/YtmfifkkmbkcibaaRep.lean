/-
  Plain facts: how values in memory read as data of Lean, for structs and slices inside one another. 'S' says which blocks a reading may touch.
-/
import Derived.Test.YtmfifkkmbkcibaaOwn
namespace Go.Proofs.Ytmfifkkmbkcibaa
set_option linter.unusedVariables false
open Go.RowKit

/-- How n cells read as a datum. -/
structure Rep (α : Type) where
  n : Nat
  rd : (Nat → Prop) → World → List Value → α → Prop
  len : ∀ {S w cs x}, rd S w cs x → cs.length = n
  one : ∀ {S w cs x}, rd S w cs x → ∀ v ∈ cs, v.oneCell' = true
  kept : ∀ {S w w' cs x}, rd S w cs x → (∀ b, S b → b < w.heap.size → w'.heap[b]? = w.heap[b]?) → rd S w' cs x
  lt : ∀ {S S' w cs x}, rd S w cs x → (∀ b, S b → b < w.heap.size → S' b) → rd S' w cs x

/-- Cells one behind the other read as a list. -/
def RdL {α : Type} (R : Rep α) (S : Nat → Prop) (w : World) : List Value → List α → Prop
  | cs, [] => cs = []
  | cs, x :: xs => ∃ c r, cs = c ++ r ∧ R.rd S w c x ∧ RdL R S w r xs

section
variable {α : Type} {R : Rep α} {S S' : Nat → Prop} {w w' : World}
theorem RdL.len : ∀ {xs : List α} {cs : List Value}, RdL R S w cs xs → cs.length = xs.length * R.n
  | [], cs, h => by simp [show cs = [] from h]
  | x :: xs, cs, ⟨c, r, e, h1, h2⟩ => by rw [e, List.length_append, R.len h1, RdL.len h2, List.length_cons, Nat.add_mul]; omega
theorem RdL.one : ∀ {xs : List α} {cs : List Value}, RdL R S w cs xs → ∀ v ∈ cs, v.oneCell' = true
  | [], cs, h => by simp [show cs = [] from h]
  | x :: xs, cs, ⟨c, r, e, h1, h2⟩ => by
    intro v hv
    rw [e, List.mem_append] at hv
    rcases hv with hv | hv
    · exact R.one h1 v hv
    · exact RdL.one h2 v hv
theorem RdL.kept : ∀ {xs : List α} {cs : List Value}, RdL R S w cs xs → (∀ b, S b → b < w.heap.size → w'.heap[b]? = w.heap[b]?) → RdL R S w' cs xs
  | [], cs, h, _ => h
  | x :: xs, cs, ⟨c, r, e, h1, h2⟩, hk => ⟨c, r, e, R.kept h1 hk, RdL.kept h2 hk⟩
theorem RdL.lt : ∀ {xs : List α} {cs : List Value}, RdL R S w cs xs → (∀ b, S b → b < w.heap.size → S' b) → RdL R S' w cs xs
  | [], cs, h, _ => h
  | x :: xs, cs, ⟨c, r, e, h1, h2⟩, hk => ⟨c, r, e, R.lt h1 hk, RdL.lt h2 hk⟩
theorem RdL.append : ∀ {xs ys : List α} {cs ds : List Value}, RdL R S w cs xs → RdL R S w ds ys → RdL R S w (cs ++ ds) (xs ++ ys)
  | [], ys, cs, ds, h, h2 => by rw [show cs = [] from h]; exact h2
  | x :: xs, ys, cs, ds, ⟨c, r, e, h1, h2⟩, h3 => ⟨c, r ++ ds, by rw [e, List.append_assoc], h1, RdL.append h2 h3⟩
theorem RdL.single {x : α} {cs : List Value} (h : R.rd S w cs x) : RdL R S w cs [x] := ⟨cs, [], by simp, h, rfl⟩
/-- The cells of the element number i. -/
theorem RdL.get : ∀ {xs : List α} {cs : List Value}, RdL R S w cs xs → ∀ i (hi : i < xs.length), ∃ c, R.rd S w c xs[i] ∧ ∀ j, j < R.n → cs[i * R.n + j]? = c[j]?
  | [], cs, h, i, hi => by simp at hi
  | x :: xs, cs, ⟨c, r, e, h1, h2⟩, 0, hi => ⟨c, h1, fun j hj => by rw [e, Nat.zero_mul, Nat.zero_add, List.getElem?_append_left (by rw [R.len h1]; exact hj)]⟩
  | x :: xs, cs, ⟨c, r, e, h1, h2⟩, i + 1, hi => by
    obtain ⟨d, h3, h4⟩ := RdL.get h2 i (by simpa using hi)
    refine ⟨d, h3, fun j hj => ?_⟩
    have hl := R.len h1
    rw [e, List.getElem?_append_right (by rw [hl, Nat.add_mul]; omega), hl]
    rw [← h4 j hj]
    congr 1
    rw [Nat.add_mul]; omega
/-- The first and the last elements. -/
theorem RdL.split : ∀ {xs : List α} {cs : List Value}, RdL R S w cs xs → ∀ k, k ≤ xs.length → RdL R S w (cs.take (k * R.n)) (xs.take k) ∧ RdL R S w (cs.drop (k * R.n)) (xs.drop k)
  | xs, cs, h, 0, _ => by rw [Nat.zero_mul, List.take_zero, List.take_zero, List.drop_zero, List.drop_zero]; exact ⟨rfl, h⟩
  | [], cs, h, k + 1, hk => by simp at hk
  | x :: xs, cs, ⟨c, r, e, h1, h2⟩, k + 1, hk => by
    have hl := R.len h1
    obtain ⟨h3, h4⟩ := RdL.split h2 k (by simpa using hk)
    have e1 : (k + 1) * R.n = c.length + k * R.n := by rw [hl, Nat.add_mul]; omega
    rw [e, e1, List.take_length_add_append, List.drop_length_add_append, List.take_succ_cons, List.drop_succ_cons]
    exact ⟨⟨c, _, rfl, h1, h3⟩, h4⟩
end

/-- A slice value reads as a list. -/
def Sl {α : Type} (R : Rep α) (S : Nat → Prop) (w : World) (v : Value) (xs : List α) : Prop :=
  ∃ a cap, v = .slice a xs.length cap ∧ xs.length ≤ cap ∧ cap ≤ 9223372036854775807 ∧ (a = none → cap = 0) ∧
    (0 < xs.length → ∃ b off, a = some ⟨b, off, none⟩ ∧ S b ∧ ∃ cs, RdL R S w cs xs ∧ ∀ j, j < cs.length → w.cell? ⟨b, off + j, none⟩ = cs[j]?)

section
variable {α : Type} {R : Rep α} {S S' : Nat → Prop} {w w' : World} {v : Value} {xs : List α}
theorem Sl.nil : Sl R S w (.slice none 0 0) ([] : List α) := ⟨none, 0, rfl, by simp, by omega, fun _ => rfl, fun h => by simp at h⟩
theorem Sl.len (h : Sl R S w v xs) : ∃ a cap, v = .slice a xs.length cap ∧ xs.length ≤ 9223372036854775807 := by
  obtain ⟨a, cap, rfl, h1, h2, -, -⟩ := h
  exact ⟨a, cap, rfl, by omega⟩
theorem cell_kept {b o : Nat} {u : Option Value} (hn : 0 < R.n ∨ True) (hk : b < w.heap.size → w'.heap[b]? = w.heap[b]?) (h : w.cell? ⟨b, o, none⟩ = u) (hu : u.isSome = true) : w'.cell? ⟨b, o, none⟩ = u := by
  obtain ⟨x, rfl⟩ := Option.isSome_iff_exists.1 hu
  rw [World.cell?_of_block (w := w) (a := ⟨b, o, none⟩) (hk (World.block_lt_of_cell? w _ h)), h]
theorem Sl.kept (h : Sl R S w v xs) (hk : ∀ b, S b → b < w.heap.size → w'.heap[b]? = w.heap[b]?) : Sl R S w' v xs := by
  obtain ⟨a, cap, rfl, h1, h2, h3, h4⟩ := h
  refine ⟨a, cap, rfl, h1, h2, h3, fun hp => ?_⟩
  obtain ⟨b, off, rfl, hb, cs, hr, hc⟩ := h4 hp
  refine ⟨b, off, rfl, hb, cs, hr.kept hk, fun j hj => ?_⟩
  exact cell_kept (R := R) (.inr trivial) (hk b hb) (hc j hj) (by simp [hj])
theorem Sl.lt (h : Sl R S w v xs) (hn : 0 < R.n) (hk : ∀ b, S b → b < w.heap.size → S' b) : Sl R S' w v xs := by
  obtain ⟨a, cap, rfl, h1, h2, h3, h4⟩ := h
  refine ⟨a, cap, rfl, h1, h2, h3, fun hp => ?_⟩
  obtain ⟨b, off, rfl, hb, cs, hr, hc⟩ := h4 hp
  have hcl : 0 < cs.length := by rw [hr.len]; exact Nat.mul_pos hp hn
  have h5 := hc 0 hcl
  rw [List.getElem?_eq_getElem hcl] at h5
  exact ⟨b, off, rfl, hk b hb (World.block_lt_of_cell? w _ h5), cs, hr.lt hk, hc⟩
theorem Sl.below (h : Sl R S w v xs) (hb : Below w.heap.size w w') : Sl R S w' v xs := h.kept fun b _ hlt => hb.block b hlt
theorem Sl.pos (h : Sl R S w v xs) (hp : 0 < xs.length) : ∃ b off cap cs, v = .slice (some ⟨b, off, none⟩) xs.length cap ∧ xs.length ≤ cap ∧ cap ≤ 9223372036854775807 ∧ S b ∧ RdL R S w cs xs ∧ ∀ j, j < cs.length → w.cell? ⟨b, off + j, none⟩ = cs[j]? := by
  obtain ⟨a, cap, rfl, h1, h2, h3, h4⟩ := h
  obtain ⟨b, off, rfl, hb, cs, hr, hc⟩ := h4 hp
  exact ⟨b, off, cap, cs, rfl, h1, h2, hb, hr, hc⟩
/-- The cells of an element. -/
theorem Sl.at {a : Option Addr} {n cap : Nat} (h : Sl R S w (.slice a n cap) xs) (i : Nat) (hi : i < xs.length) :
    ∃ b off c, a = some ⟨b, off, none⟩ ∧ S b ∧ R.rd S w c xs[i] ∧ ∀ j, j < R.n → w.cell? ⟨b, off + (i * R.n + j), none⟩ = c[j]? := by
  obtain ⟨b, off, cap', cs, hv, h1, h2, hb, hr, hc⟩ := h.pos (by omega)
  simp at hv
  obtain ⟨rfl, -, -⟩ := hv
  obtain ⟨c, h3, h4⟩ := hr.get i hi
  refine ⟨b, off, c, rfl, hb, h3, fun j hj => ?_⟩
  rw [← h4 j hj]
  apply hc
  rw [hr.len]
  have : (i + 1) * R.n ≤ xs.length * R.n := Nat.mul_le_mul_right _ hi
  rw [Nat.add_mul] at this
  omega

/-- A row of the call's own reads as a list; what its cells lead to lies in other blocks that S allows. -/
def Own (R : Rep α) (S : Nat → Prop) (base : Nat) (e : TypeId) (w : World) (v : Value) (xs : List α) : Prop :=
  ∃ cs, w.ownsRow base e R.n v xs.length cs ∧ RdL R (fun b => S b ∧ some b ≠ v.ownBlock) w cs xs

theorem Own.nil (R : Rep α) (S : Nat → Prop) (base : Nat) (e : TypeId) (w : World) : Own R S base e w (.slice none 0 0) [] := ⟨[], World.ownsRow_nil _ _ _ _, rfl⟩
theorem Own.sl {base : Nat} {e : TypeId} (h : Own R S base e w v xs) (hS : ∀ b, base ≤ b → S' b) (hS' : ∀ b, S b → S' b) : Sl R S' w v xs := by
  obtain ⟨cs, h1, h2⟩ := h
  rcases h1.2 with ⟨rfl, hn⟩ | ⟨g, cap, cur, rfl, hg, hgc, hnc, hcm, hcs, htake⟩
  · obtain rfl : xs = [] := List.eq_nil_of_length_eq_zero hn
    exact Sl.nil
  · refine ⟨_, cap, rfl, hnc, by simpa [maxLen] using hcm, fun h => by simp at h, fun hp => ⟨g, 0, rfl, hS g hg, cs, h2.lt (fun b hb _ => hS' b hb.1), fun j hj => ?_⟩⟩
    rw [Nat.zero_add, h1.cellAt j (by rw [h2.len] at hj; exact hj)]
theorem Own.kept {base : Nat} {e : TypeId} (h : Own R S base e w v xs) (hs : ∀ b, b < w.heap.size → w'.heap[b]? = w.heap[b]?) : Own R S base e w' v xs := by
  obtain ⟨cs, h1, h2⟩ := h
  refine ⟨cs, ⟨h1.1, ?_⟩, h2.kept fun b _ hb => hs b hb⟩
  rcases h1.2 with h3 | ⟨g, cap, cur, hv, hg, hh, r⟩
  · exact .inl h3
  · exact .inr ⟨g, cap, cur, hv, hg, by rw [hs g (Array.getElem?_eq_some_iff.1 hh).1]; exact hh, r⟩
theorem Own.below {base : Nat} {e : TypeId} (h : Own R S base e w v xs) (hb : Below w.heap.size w w') : Own R S base e w' v xs := h.kept fun b hlt => hb.block b hlt
theorem Own.len {base : Nat} {e : TypeId} (h : Own R S base e w v xs) : ∃ a cap, v = .slice a xs.length cap := by
  obtain ⟨cs, h1, h2⟩ := h
  rcases h1.2 with ⟨rfl, hn⟩ | ⟨g, cap, cur, rfl, _⟩
  · exact ⟨none, 0, by rw [hn]⟩
  · exact ⟨_, _, rfl⟩
theorem Own.lt {base : Nat} {e : TypeId} (h : Own R S base e w v xs) : ∀ k, v.ownBlock = some k → base ≤ k ∧ k < w.heap.size := by
  obtain ⟨cs, h1, h2⟩ := h
  exact h1.lt
end
end Go.Proofs.Ytmfifkkmbkcibaa
