/-
  Plain facts: reading, writing and filling the elements of a row of the call's own.
-/
import Derived.Test.YtmfifkkmbkcibaaRep2
namespace Go.Proofs.Ytmfifkkmbkcibaa
set_option linter.unusedVariables false
open Go.RowKit

/-- Some cells laid over others, from a place on. -/
def chunk (cs : List Value) (o : Nat) (c : List Value) : List Value := cs.take o ++ c ++ cs.drop (o + c.length)
theorem chunk_nil (cs : List Value) (o : Nat) : chunk cs o [] = cs := by simp [chunk]
theorem chunk_set (cs : List Value) (o : Nat) (c : List Value) (v : Value) (h : o + c.length < cs.length) : (chunk cs o c).set (o + c.length) v = chunk cs o (c ++ [v]) := by
  unfold chunk
  have h1 : (cs.take o).length = o := by simp; omega
  rw [List.append_assoc, List.set_append_right _ _ (by omega), h1, List.set_append_right _ _ (by omega)]
  rw [show o + c.length - o - c.length = 0 by omega]
  have h2 : cs.drop (o + c.length) = cs[o + c.length] :: cs.drop (o + c.length + 1) := by rw [List.drop_eq_getElem_cons h]
  rw [h2, List.set_cons_zero, List.length_append, List.append_assoc, List.append_assoc]
  rfl
theorem chunk1 (cs : List Value) (o : Nat) (a : Value) (h : o < cs.length) : cs.set o a = chunk cs o [a] := by
  have := chunk_set cs o [] a (by simpa using h)
  rw [chunk_nil] at this
  exact this
theorem chunk4 (cs : List Value) (o : Nat) (a b c d : Value) (h : o + 4 ≤ cs.length) : (((cs.set o a).set (o + 1) b).set (o + 2) c).set (o + 3) d = chunk cs o [a, b, c, d] := by
  rw [chunk1 cs o a (by omega)]
  have h1 := chunk_set cs o [a] b (by simp; omega)
  have h2 := chunk_set cs o [a, b] c (by simp; omega)
  have h3 := chunk_set cs o [a, b, c] d (by simp; omega)
  simp only [List.length_cons, List.length_nil, Nat.zero_add, List.cons_append, List.nil_append, Nat.reduceAdd] at h1 h2 h3
  rw [h1, h2, h3]
theorem chunk7 (cs : List Value) (o : Nat) (a b c d e f g : Value) (h : o + 7 ≤ cs.length) : ((((((cs.set o a).set (o + 1) b).set (o + 2) c).set (o + 3) d).set (o + 4) e).set (o + 5) f).set (o + 6) g = chunk cs o [a, b, c, d, e, f, g] := by
  rw [chunk4 cs o a b c d (by omega)]
  have h1 := chunk_set cs o [a, b, c, d] e (by simp; omega)
  have h2 := chunk_set cs o [a, b, c, d, e] f (by simp; omega)
  have h3 := chunk_set cs o [a, b, c, d, e, f] g (by simp; omega)
  simp only [List.length_cons, List.length_nil, Nat.zero_add, List.cons_append, List.nil_append, Nat.reduceAdd] at h1 h2 h3
  rw [h1, h2, h3]
theorem chunk_same (cs : List Value) (o : Nat) (c : List Value) (h : ∀ j, j < c.length → cs[o + j]? = c[j]?) (hl : o + c.length ≤ cs.length) : chunk cs o c = cs := by
  unfold chunk
  apply List.ext_getElem?
  intro i
  have h1 : (cs.take o).length = o := by simp; omega
  by_cases hi : i < o
  · rw [List.append_assoc, List.getElem?_append_left (by omega), List.getElem?_take_of_lt hi]
  · by_cases hi2 : i < o + c.length
    · rw [List.append_assoc, List.getElem?_append_right (by omega), h1, List.getElem?_append_left (by omega), ← h (i - o) (by omega)]
      congr 1; omega
    · rw [List.getElem?_append_right (by rw [List.length_append, h1]; omega), List.length_append, h1, List.getElem?_drop]
      congr 1; omega

section
variable {α : Type} {R : Rep α} {S S' : Nat → Prop} {w w' : World}
theorem RdL.put : ∀ {xs : List α} {cs : List Value}, RdL R S w cs xs → ∀ i, i < xs.length → ∀ {c x}, R.rd S w c x → RdL R S w (chunk cs (i * R.n) c) (xs.set i x)
  | [], cs, h, i, hi, _, _, _ => by simp at hi
  | x :: xs, cs, ⟨c0, r, e, h1, h2⟩, 0, hi, c, y, hc => by
    refine ⟨c, r, ?_, hc, h2⟩
    unfold chunk
    rw [e, Nat.zero_mul, List.take_zero, Nat.zero_add, List.nil_append, R.len hc, ← R.len h1, List.drop_left]
  | x :: xs, cs, ⟨c0, r, e, h1, h2⟩, i + 1, hi, c, y, hc => by
    have ih := RdL.put h2 i (by simpa using hi) hc
    refine ⟨c0, _, ?_, h1, ih⟩
    unfold chunk
    have hl := R.len h1
    have e1 : (i + 1) * R.n = c0.length + i * R.n := by rw [hl, Nat.add_mul]; omega
    rw [e, e1, List.take_length_add_append, Nat.add_assoc, List.drop_length_add_append, List.append_assoc, List.append_assoc, List.append_assoc]

/-- Where an element of a row of the call's own lies. -/
theorem Own.at {base : Nat} {e : TypeId} {a : Option Addr} {n cap : Nat} {xs : List α} (h : Own R S base e w (.slice a n cap) xs) (i : Nat) (hi : i < xs.length) :
    ∃ g c, a = some ⟨g, 0, none⟩ ∧ base ≤ g ∧ g < w.heap.size ∧ R.rd (fun b => S b ∧ b ≠ g) w c xs[i] ∧ (∀ j, j < R.n → w.cell? ⟨g, i * R.n + j, none⟩ = c[j]?) ∧ ∀ j, w.frozen? ⟨g, j, none⟩ = false := by
  obtain ⟨cs, h1, h2⟩ := h
  rcases h1.2 with ⟨-, hn⟩ | ⟨g, cap', cur, hv, hg, hgc, hnc, hcm, hcs, htake⟩
  · omega
  have hv' := hv
  simp at hv
  obtain ⟨rfl, rfl, rfl⟩ := hv
  obtain ⟨c, h3, h4⟩ := h2.get i hi
  refine ⟨g, c, rfl, hg, (Array.getElem?_eq_some_iff.1 hgc).1, R.lt h3 (fun b hb _ => ⟨hb.1, fun hx => hb.2 (by rw [hx]; rfl)⟩), fun j hj => ?_, fun j => h1.frozenAt j⟩
  rw [← h4 j hj, h1.cellAt]
  have : (i + 1) * R.n ≤ xs.length * R.n := Nat.mul_le_mul_right _ hi
  rw [Nat.add_mul] at this
  omega
/-- An element is written anew: the cells one by one, as 'sets' says; what the new cells lead to lies elsewhere. -/
theorem Own.put {base : Nat} {e : TypeId} {g n cap : Nat} {xs : List α} (h : Own R S base e w (.slice (some ⟨g, 0, none⟩) n cap) xs) (i : Nat) (hi : i < xs.length) {c : List Value} {x : α}
    (hrow : ∀ cs, w.ownsRow base e R.n (.slice (some ⟨g, 0, none⟩) n cap) n cs → RdL R (fun b => S b ∧ some b ≠ Value.ownBlock (.slice (some ⟨g, 0, none⟩) n cap)) w cs xs → w'.ownsRow base e R.n (.slice (some ⟨g, 0, none⟩) n cap) n (chunk cs (i * R.n) c))
    (hk : ∀ b, b ≠ g → b < w.heap.size → w'.heap[b]? = w.heap[b]?) (hc : R.rd (fun b => S b ∧ b ≠ g) w' c x) : Own R S base e w' (.slice (some ⟨g, 0, none⟩) n cap) (xs.set i x) := by
  obtain ⟨cs, h1, h2⟩ := h
  have hn : n = xs.length := by
    rcases h1.2 with ⟨h3, -⟩ | ⟨g', cap', cur, hv, -⟩
    · simp at h3
    · simp at hv; exact hv.2.1
  subst hn
  refine ⟨chunk cs (i * R.n) c, by rw [List.length_set]; exact hrow cs h1 h2, ?_⟩
  refine RdL.put (h2.kept (fun b hb hlt => hk b (fun hx => hb.2 (by rw [hx]; rfl)) hlt)) i hi (R.lt hc (fun b hb _ => ⟨hb.1, ?_⟩))
  intro hx
  injection hx with hx
  exact hb.2 hx
theorem own_mono {base : Nat} {e : TypeId} {v : Value} {xs : List α} (h : Own R S base e w v xs) (hS : ∀ b, S b → b < w.heap.size → S' b) : Own R S' base e w v xs := by
  obtain ⟨cs, h1, h2⟩ := h
  exact ⟨cs, h1, h2.lt (fun b hb hlt => ⟨hS b hb.1 hlt, hb.2⟩)⟩

theorem Sl.drew {v : Value} {xs : List α} (h : Sl R S w v xs) : Sl R S w.drew v xs := h.kept fun _ _ _ => rfl
theorem Own.drew {base : Nat} {e : TypeId} {v : Value} {xs : List α} (h : Own R S base e w v xs) : Own R S base e w.drew v xs := h.kept fun _ _ => rfl
/-- A row of the call's own, while cells of another block are written. -/
theorem Own.setOther {base : Nat} {e : TypeId} {v : Value} {xs : List α} (h : Own R S base e w v xs) {g o : Nat} (u : Value) (h1 : v.ownBlock ≠ some g) (h2 : ¬ S g) : Own R S base e (w.setCell ⟨g, o, none⟩ u) v xs := by
  obtain ⟨cs, h3, h4⟩ := h
  refine ⟨cs, ⟨h3.1, ?_⟩, h4.kept fun b hb _ => Below.heap_setCell _ _ _ _ (fun hx => h2 (by have hx' : b = g := hx; rw [← hx']; exact hb.1))⟩
  rcases h3.2 with h5 | ⟨g', cap, cur, hv, hg, hh, r⟩
  · exact .inl h5
  · refine .inr ⟨g', cap, cur, hv, hg, ?_, r⟩
    rw [Below.heap_setCell _ _ _ _ (fun hx => h1 (by have hx' : g' = g := hx; rw [hv, ← hx']; rfl))]
    exact hh
theorem Own.base {base base' : Nat} {e : TypeId} {v : Value} {xs : List α} (h : Own R S base e w v xs) (hb : base' ≤ base) : Own R S base' e w v xs := by
  obtain ⟨cs, h3, h4⟩ := h
  refine ⟨cs, ⟨h3.1, ?_⟩, h4⟩
  rcases h3.2 with h5 | ⟨g', cap, cur, hv, hg, hh, r⟩
  · exact .inl h5
  · exact .inr ⟨g', cap, cur, hv, by omega, hh, r⟩
theorem Own.apart {base : Nat} {e : TypeId} {v : Value} {xs : List α} (h : Own R S base e w v xs) {g : Nat} (hg : g < base) : v.ownBlock ≠ some g := fun hx => by have := (h.lt g hx).1; omega
theorem Row.setOther {t : TypeId} {cs : List Value} {g g' o : Nat} (h : Row w g t cs) (u : Value) (hne : g ≠ g') : Row (w.setCell ⟨g', o, none⟩ u) g t cs := ⟨by rw [Below.heap_setCell _ _ _ _ hne]; exact h.blk⟩
theorem RdL.bytes : ∀ {xs : List UInt8} {cs : List Value}, RdL byteR S w cs xs → RdL byteR S' w' cs xs
  | [], cs, h => h
  | x :: xs, cs, ⟨c, r, e, h1, h2⟩ => ⟨c, r, e, h1, RdL.bytes h2⟩
theorem Own.bytes {base : Nat} {e : TypeId} {v : Value} {xs : List UInt8} (h : Own byteR S base e w v xs) : Own byteR S' base e w v xs := by
  obtain ⟨cs, h1, h2⟩ := h
  exact ⟨cs, h1, h2.bytes⟩

variable {P : Program}
/-- copy(d, s) onto a whole row of the call's own, as long as s. -/
theorem run_copyR (t ty : TypeId) (base : Nat) (e : TypeId) (ht : P.underlying t = some (.slice e)) (hsz : (P.info? e).map (·.size) = some R.n)
    (g n cap : Nat) (ds : List Value) (hown : w.ownsRow base e R.n (.slice (some ⟨g, 0, none⟩) n cap) n ds) (v : Value) (xs : List α) (hn : xs.length = n) (hsl : Sl R S w v xs) (hne : ∀ b, S b → b < w.heap.size → b ≠ g) :
    ∃ w', (Builtin.copy_ #[t, t] ty #[.slice (some ⟨g, 0, none⟩) n cap, v]).run P w = .ok (.int .i64 (n : Int)) w' ∧ Own R S base e w' (.slice (some ⟨g, 0, none⟩) n cap) xs ∧ w.grownBy w' (some g) := by
  obtain ⟨av, vcap, rfl, hc1, hc2, hc3, hc4⟩ := hsl
  subst hn
  rcases hown.2 with ⟨h0, -⟩ | ⟨g', cap', cur, hv, hbg, hg, hnc, hcm, hcs, htake⟩
  · simp at h0
  simp at hv
  obtain ⟨rfl, rfl⟩ := hv
  obtain ⟨i, hi, hsize⟩ : ∃ i, P.info? e = some i ∧ i.size = R.n := by
    cases hq : P.info? e with
    | none => simp [hq] at hsz
    | some i => exact ⟨i, rfl, by simpa [hq] using hsz⟩
  have main : ∀ cs : List Value, RdL R S w cs xs → (Builtin.firstCells R.n xs.length (.slice av xs.length vcap)).run P w = .ok cs.toArray w → ∃ w', (Builtin.copy_ #[t, t] ty #[.slice (some ⟨g, 0, none⟩) xs.length cap, .slice av xs.length vcap]).run P w = .ok (.int .i64 (xs.length : Int)) w' ∧ Own R S base e w' (.slice (some ⟨g, 0, none⟩) xs.length cap) xs ∧ w.grownBy w' (some g) := fun cs hr hf => by
    have hcl := hr.len
    have hfit : 0 + 0 + cs.length ≤ cur.size := by rw [hcl, hcs]; simpa using Nat.mul_le_mul_right R.n hnc
    have hst := run_storeCells_at P g 0 e cs 0 cur w hg hfit hr.one
    have hmin : Nat.min xs.length xs.length = xs.length := by simp
    have hrun : (Builtin.copy_ #[t, t] ty #[.slice (some ⟨g, 0, none⟩) xs.length cap, .slice av xs.length vcap]).run P w = .ok (.int .i64 (xs.length : Int)) (w.setRow g (cur.toList.take (0 + 0) ++ cs ++ cur.toList.drop (0 + 0 + cs.length)).toArray) := by
      simp [Builtin.copy_, run_underlying ht, Builtin.lenOf, sizeOf, typeInfo, hi, hsize, hmin, hf] at hst ⊢
      rw [hst]
      simp [goInt]
    refine ⟨_, hrun, ⟨cs, ?_, ?_⟩, ⟨rfl, rfl, rfl, by simp, fun k _ hk => setRow_other w g k _ (fun e => hk (by rw [e]))⟩⟩
    · refine ⟨hcl, .inr ⟨g, cap, _, rfl, hbg, setRow_heap w g cur _ e _ hg, hnc, hcm, ?_, ?_⟩⟩
      · simp; rw [hcl, hcs] at *; simp at hfit; omega
      · simp [← hcl]
    · refine (hr.lt (S' := fun b => S b ∧ some b ≠ Value.ownBlock (.slice (some ⟨g, 0, none⟩) xs.length cap)) (fun b hb hlt => ⟨hb, fun hx => hne b hb hlt (by injection hx)⟩)).kept (fun b hb hlt => ?_)
      exact setRow_other w g b _ (fun e => hb.2 (by rw [e]; rfl))
  by_cases hp : 0 < xs.length
  · obtain ⟨b, off, rfl, hb, cs, hr, hcell⟩ := hc4 hp
    exact main cs hr (run_firstCells_some (P := P) w R.n xs.length ⟨b, off, none⟩ xs.length vcap cs hr.len (fun j u hj => by
      rw [addr_add, hcell j (List.getElem?_eq_some_iff.1 hj).1]; exact hj))
  · obtain rfl : xs = [] := List.eq_nil_of_length_eq_zero (by omega)
    cases av with
    | none => exact main [] rfl (by simp [Builtin.firstCells])
    | some ad => exact main [] rfl (by simp [Builtin.firstCells, loadCells, loadCellsFrom])
end
end Go.Proofs.Ytmfifkkmbkcibaa
