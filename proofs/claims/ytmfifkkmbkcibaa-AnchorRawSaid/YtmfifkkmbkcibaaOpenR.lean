/-
  Plain facts: what arguments with depth (slices and structs inside one another) are, once they are known to read as data.
-/
import Derived.Test.YtmfifkkmbkcibaaRep2
import Derived.Test.YtmfifkkmbkcibaaOpen
import Derived.SizedLaws
namespace Go.Proofs.Ytmfifkkmbkcibaa
open Go.ChangeShapes Go.WideShapes Go.ChangeAt Go.RowKit

/-- Whatever is read as a datum of type t reads as a datum of Lean, of which F holds. -/
def Opens {α : Type} (P : Program) (R : Rep α) (F : α → Prop) (t : TypeId) : Prop :=
  ∀ {H : Type} (enc : TypeId × Value → H) (w : World) (base : Nat) (sp : Nat → Bool) (held : Bool) (fuel : Nat) (cs : List Value) (d : DataW H) (ps : List MemPlace),
    DataW.trod enc P w base sp held fuel t cs = some (d, ps) → (d.weights P t).all (· ≤ reachBytes) = true → ∃ x, R.rd (fun _ => True) w cs x ∧ F x

theorem opens_int {P : Program} {t : TypeId} (ht : P.underlying t = some (.int .i64)) : Opens P intR (fun _ => True) t := by
  intro H enc w base sp held fuel cs d ps h _
  obtain ⟨n, rfl, -, hw⟩ := DataW.trod_int ht h
  exact ⟨n, ⟨rfl, wf_i64 hw⟩, trivial⟩
theorem opens_byte {P : Program} {t : TypeId} (ht : P.underlying t = some (.int .u8)) : Opens P byteR (fun _ => True) t := by
  intro H enc w base sp held fuel cs d ps h _
  obtain ⟨n, rfl, -, hw⟩ := DataW.trod_int ht h
  exact ⟨UInt8.ofNat n.toNat, by show _ = [Value.int .u8 (B _)]; rw [B_ofNat n hw], trivial⟩

theorem weights_all_mem {H : Type} {P : Program} {e : TypeId} : ∀ {l : List (DataW H)} {d : DataW H}, d ∈ l → ∀ n ∈ d.weights P e, n ∈ DataW.weightsAll P e l
  | [], d, h, _, _ => by simp at h
  | x :: l, d, h, n, hn => by
    simp only [DataW.weightsAll, List.mem_append]
    rcases List.mem_cons.1 h with rfl | h
    · exact .inl hn
    · exact .inr (weights_all_mem h n hn)

/-- Elements one behind the other, read one by one. -/
theorem rdl_of {α : Type} {R : Rep α} {F : α → Prop} {S : Nat → Prop} {w : World} {cellAt : Nat → Option Value} : ∀ (n : Nat) (o : Nat), (∀ i, i < n → ∃ c x, R.rd S w c x ∧ F x ∧ ∀ j, j < R.n → cellAt (o + (i * R.n + j)) = c[j]?) →
    ∃ cs xs, RdL R S w cs xs ∧ xs.length = n ∧ (∀ x ∈ xs, F x) ∧ ∀ j, j < cs.length → cellAt (o + j) = cs[j]?
  | 0, o, _ => ⟨[], [], rfl, rfl, by simp, by simp⟩
  | n + 1, o, h => by
    obtain ⟨c, x, h1, h2, h3⟩ := h 0 (by omega)
    obtain ⟨cs, xs, h4, h5, h6, h7⟩ := rdl_of n (o + R.n) (fun i hi => by
      obtain ⟨c, x, h1, h2, h3⟩ := h (i + 1) (by omega)
      refine ⟨c, x, h1, h2, fun j hj => ?_⟩
      rw [← h3 j hj]
      congr 1
      rw [Nat.add_mul]; omega)
    refine ⟨c ++ cs, x :: xs, ⟨c, cs, rfl, h1, h4⟩, by simp [h5], ?_, ?_⟩
    · intro y hy
      rcases List.mem_cons.1 hy with rfl | hy
      · exact h2
      · exact h6 y hy
    · intro j hj
      have hl := R.len h1
      by_cases hjn : j < R.n
      · rw [List.getElem?_append_left (by omega), ← h3 j hjn, Nat.zero_mul, Nat.zero_add]
      · rw [List.getElem?_append_right (by omega), hl, ← h7 (j - R.n) (by simp [hl] at hj; omega)]
        congr 1; omega

theorem add_add (a : Addr) (m j : Nat) : a.add (m + j) = (a.add m).add j := by
  unfold Addr.add
  by_cases h1 : m = 0
  · subst h1; simp
  · by_cases h2 : j = 0
    · subst h2; simp
    · simp [h1, h2, Nat.add_assoc]
theorem opens_slice {α : Type} {P : Program} {R : Rep α} {F : α → Prop} {t e : TypeId} (hn : 0 < R.n) (ht : P.underlying t = some (.slice e)) (hc : P.cellsOf e = R.n) (he : Opens P R F e) :
    Opens P (slR R hn) (fun xs => xs.length * P.bytesOf e ≤ 140737488351232 ∧ ∀ x ∈ xs, F x) t := by
  intro H enc w base sp held fuel cs d ps h hw
  rcases DataW.trod_slice ht h with ⟨rfl, h0⟩ | ⟨a, len, cap, elems, rest, n, _, rfl, hx, hb, hl, hm, hlen, hel, -, -⟩
  · exact ⟨[], ⟨_, rfl, Sl.nil⟩, by simp, by simp⟩
  · injection hx with hx1 hx2
    subst hx1
    have hall : ∀ n ∈ DataW.weights P t (.slice (elems.map (·.1)) (rest.map (·.1))), n ≤ reachBytes := fun n hn => by
      have := List.all_eq_true.1 hw n hn
      simpa using this
    simp only [DataW.weights, ht] at hall
    have hsz := hall _ (List.mem_cons_self ..)
    obtain ⟨cs, xs, h4, h5, h6, h7⟩ := rdl_of (R := R) (F := F) (S := fun _ => True) (w := w) (cellAt := fun j => w.cell? (a.add j)) len 0 (fun i hi => by
      have h1 := hel i hi
      rw [List.getElem?_eq_getElem (by omega)] at h1
      obtain ⟨c, h2, h3⟩ := Option.bind_eq_some_iff.1 h1
      obtain ⟨-, h4, h5⟩ := World.cells?_some h2
      obtain ⟨x, h6, h7⟩ := he enc w base sp held n c (elems[i].1) (elems[i].2) h3 (by
        rw [List.all_eq_true]
        intro k hk
        have := hall k (List.mem_cons_of_mem _ (List.mem_append_left _ (weights_all_mem (List.mem_map_of_mem (List.getElem_mem (by omega))) k hk)))
        simpa using this)
      refine ⟨c, x, h6, h7, fun j hj => ?_⟩
      rw [hc] at h5
      rw [← h5 j hj, Nat.zero_add, add_add])
    subst h5
    refine ⟨xs, ⟨_, rfl, ⟨some a, cap, rfl, hl, by simpa [maxLen] using hm, fun h => by simp at h, fun hp => ?_⟩⟩, ?_, h6⟩
    · have hcl : 0 < cs.length := by rw [h4.len]; exact Nat.mul_pos hp hn
      have h0 := h7 0 hcl
      rw [List.getElem?_eq_getElem hcl] at h0
      obtain ⟨b, off, spot⟩ := a
      have hspot : spot = none := by simpa [Addr.add] using World.cell?_spot h0
      subst hspot
      refine ⟨b, off, rfl, trivial, cs, h4, fun j hj => ?_⟩
      have h8 := h7 j hj
      simp only [Nat.zero_add] at h8
      rw [← h8, addr_add]
    · simp only [List.length_map, hlen] at hsz
      have h9 : xs.length * P.bytesOf e ≤ (xs.length + rest.length) * P.bytesOf e := Nat.mul_le_mul_right _ (by omega)
      have : reachBytes = 140737488351232 := by decide
      omega

/-- The fields of a struct. -/
theorem open_fields {P : Program} {t : TypeId} {fs : Array Field} (ht : P.underlying t = some (.struct fs)) {H : Type} {enc : TypeId × Value → H} {w : World} {base : Nat} {sp : Nat → Bool} {held : Bool} {fuel : Nat} {cs : List Value} {d : DataW H} {ps : List MemPlace}
    (h : DataW.trod enc P w base sp held fuel t cs = some (d, ps)) (hw : (d.weights P t).all (· ≤ reachBytes) = true) :
    cs.length = P.cellsOf t ∧ ∀ (i : Nat) (f : Field), fs[i]? = some f → ∃ n d' ps', DataW.trod enc P w base sp held n f.type ((cs.drop f.offset).take (P.cellsOf f.type)) = some (d', ps') ∧ (d'.weights P f.type).all (· ≤ reachBytes) = true := by
  obtain ⟨xs, n, -, hx, hl, hxl, hf⟩ := DataW.trod_struct ht h
  injection hx with hx1 hx2
  subst hx1
  refine ⟨hl, fun i f hfi => ?_⟩
  have h1 := hf i f hfi
  have hi : i < xs.length := by rw [hxl]; exact (Array.getElem?_eq_some_iff.1 hfi).1
  rw [List.getElem?_eq_getElem hi] at h1
  refine ⟨n, xs[i].1, xs[i].2, h1, ?_⟩
  rw [List.all_eq_true] at hw ⊢
  intro k hk
  apply hw
  simp only [DataW.weights, ht]
  exact DataW.weights_mem_each (j := i) (t := f.type) (d := xs[i].1) (by simp [Array.getElem?_toList, hfi]) (by simp [hi]) k hk
theorem open_fields1 {P : Program} {t : TypeId} {fs : Array Field} (ht : P.underlying t = some (.struct fs)) {H : Type} {enc : TypeId × Value → H} {w : World} {base : Nat} {sp : Nat → Bool} {held : Bool} {fuel : Nat} {cs : List Value} {d : DataW H} {ps : List MemPlace}
    (h : DataW.trod enc P w base sp held fuel t cs = some (d, ps)) (hw : (d.weights P t).all (· ≤ reachBytes) = true) :
    cs.length = P.cellsOf t ∧ ∀ (i : Nat) (f : Field), fs[i]? = some f → P.cellsOf f.type = 1 → ∀ c, cs[f.offset]? = some c → ∃ n d' ps', DataW.trod enc P w base sp held n f.type [c] = some (d', ps') ∧ (d'.weights P f.type).all (· ≤ reachBytes) = true := by
  obtain ⟨hl, hf⟩ := open_fields ht h hw
  refine ⟨hl, fun i f hfi hc c hcs => ?_⟩
  obtain ⟨n, d', ps', h1, h2⟩ := hf i f hfi
  refine ⟨n, d', ps', ?_, h2⟩
  rw [hc] at h1
  obtain ⟨ho, hg⟩ := List.getElem?_eq_some_iff.1 hcs
  have : (cs.drop f.offset).take 1 = [c] := by
    rw [List.drop_eq_getElem_cons ho, hg]; rfl
  rw [this] at h1
  exact h1
end Go.Proofs.Ytmfifkkmbkcibaa
