/-
  Plain facts: what the arguments of a statement are in the machine of lists, once they are known to read as data; and what a statement's contract says of its call.
-/
import Derived.Test.YtnlpjbedkdhlbaaAm18
import Derived.ProofKit
import Derived.OpenShut
import Derived.LaidMore
import Derived.Stop.Joined
namespace Go.Proofs.Ytnlpjbedkdhlbaa
open Go.ChangeShapes Go.WideShapes Go.ChangeAt Go.RowKit
set_option linter.all false
/-- The call of a statement, by its contract. -/
theorem LSpec.stmt {P : Program} {G : Nat → AV} {f : FuncId} {args : List AV} (h : LSpec P G f args [] (fun _ => (.bool true, []))) {W : World} {vs : Array Value} (hg : Glob G (fun _ => none) W) (hr : RdL (fun _ => none) W args vs) :
    Calls P f vs W fun e W' => e = .returned (.bool true) ∧ Below W.heap.size W W' := by
  refine (h.2.2 (fun _ => none) W vs ⟨nofun, nofun, 0, fun _ _ => rfl⟩ hg (by simp) (by simp) hr).mono ?_
  rintro e W' ⟨v, q, rfl, -, -, hv, -, hs⟩
  have hv : Rd _ W' (.bool true) v := hv
  cases hv
  exact ⟨rfl, hs.os, hs.tape, hs.output, hs.size, fun k hk => (hs.old k hk rfl).2⟩
theorem RdL.nil0 {σ : Store} {W : World} : RdL σ W [] #[] := ⟨rfl, fun i hi => by simp at hi⟩
theorem RdL.cons0 {σ : Store} {W : World} {a : AV} {v : Value} {al : List AV} {vs : List Value} (h : Rd σ W a v) (hs : RdL σ W al vs.toArray) : RdL σ W (a :: al) (v :: vs).toArray :=
  ⟨by have := hs.1; simp at this ⊢; omega, fun i hi => by
    cases i with
    | zero => simpa using h
    | succ i =>
      have h2 := hs.2 i (by simp at hi; omega)
      simpa using h2⟩
theorem RdL.agg0 {σ : Store} {W : World} {al : List AV} {vs : List Value} (h : RdL σ W al vs.toArray) : Rd σ W (.agg al) (.agg vs.toArray) := .agg _ _ h.1 h.2
theorem exists_list {α : Type} (p : Nat → α → Prop) : ∀ (n : Nat), (∀ i, i < n → ∃ x, p i x) → ∃ l : List α, l.length = n ∧ ∀ i x, l[i]? = some x → p i x
  | 0, _ => ⟨[], rfl, by simp⟩
  | n + 1, h => by
    obtain ⟨l, h1, h2⟩ := exists_list p n fun i hi => h i (by omega)
    obtain ⟨x, hx⟩ := h n (by omega)
    refine ⟨l ++ [x], by simp [h1], fun i y hy => ?_⟩
    by_cases hi : i < l.length
    · rw [List.getElem?_append_left hi] at hy
      exact h2 i y hy
    · rw [List.getElem?_append_right (by omega)] at hy
      by_cases h0 : i - l.length = 0
      · rw [h0] at hy
        simp at hy
        subst hy
        have : i = n := by omega
        subst this
        exact hx
      · obtain ⟨k, hk⟩ := Nat.exists_eq_succ_of_ne_zero h0
        rw [hk] at hy
        simp at hy
section
variable {H : Type} {enc : TypeId × Value → H} {P : Program} {W : World} {base : Nat} {sp : Nat → Bool} {held : Bool} {b0 : Nat} {r : Reach}
/-- A slice whose elements are one cell each. -/
theorem cell_row {α : Type} {A : α → AV} {u e : TypeId} (hu : P.underlying u = some (.slice e)) (hc : P.cellsOf e = 1) (he : ∀ (fuel : Nat) (c : Value) (y : DataW H × List MemPlace), DataW.trod enc P W base sp held fuel e [c] = some y → ∃ x, Rd (fun _ => none) W (A x) c)
    {c : Value} (hv : Cell.okWide P W r b0 u c) {fuel : Nat} {y : DataW H × List MemPlace} (h : DataW.trod enc P W base sp held fuel u [c] = some y) : ∃ l : List α, Rd (fun _ => none) W (.sl l.length (l.map A)) c := by
  rcases DataW.trod_slice hu h with ⟨h0, -⟩ | ⟨a, len, cap, elems, rest, n, -, h0, -, -, hl, hm, hlen, hel, -⟩
  · obtain rfl := (List.cons.inj h0).1
    exact ⟨[], .slnil⟩
  · obtain rfl := (List.cons.inj h0).1
    have hspot : a.spot = none := by
      simp only [Cell.okWide, hu, Cell.ok] at hv
      exact hv.2.2.2.1
    obtain ⟨b, off, spot⟩ := a
    simp only at hspot
    subst hspot
    have hadd : ∀ i, (⟨b, off, none⟩ : Addr).add i = ⟨b, off + i, none⟩ := fun i => by unfold Addr.add; split <;> simp_all
    obtain ⟨l, h1, h2⟩ := exists_list (fun i x => ∃ v, W.cell? ⟨b, off + i, none⟩ = some v ∧ Rd (fun _ => none) W (A x) v) len (fun i hi => by
      have hE := hel i hi
      rw [List.getElem?_eq_getElem (by omega)] at hE
      obtain ⟨c1, hc1, hy1⟩ := Option.bind_eq_some_iff.1 hE
      obtain ⟨-, h4, h5⟩ := World.cells?_some hc1
      rw [hc] at h4 h5
      match c1, h4 with
      | [v], _ =>
        have h6 := h5 0 (by omega)
        rw [Nat.mul_one, hadd] at h6
        have e0 : (⟨b, off + i, none⟩ : Addr).add 0 = ⟨b, off + i, none⟩ := by simp [Addr.add]
        rw [e0] at h6
        obtain ⟨x, hx⟩ := he n v _ hy1
        exact ⟨x, v, by simpa using h6, hx⟩)
    refine ⟨l, ?_⟩
    rw [h1]
    have h3 : ∀ i (hi : i < l.length), ∃ v, W.cell? ⟨b, off + i, none⟩ = some v ∧ Rd (fun _ => none) W (A l[i]) v := fun i hi => h2 i l[i] (List.getElem?_eq_getElem hi)
    refine .sl len _ b off cap (fun i => (W.cell? ⟨b, off + i, none⟩).getD undef) (fun _ => rfl) hl hm (fun i hi => ?_) (fun i hi => ?_)
    · obtain ⟨v, k1, -⟩ := h3 i (by simpa using hi)
      rw [k1]; rfl
    · have hi' : i < l.length := by simpa using hi
      obtain ⟨v, k1, k2⟩ := h3 i hi'
      rw [k1]
      simpa [List.getD_eq_getElem?_getD, hi'] using k2
theorem cell_bytes {u e : TypeId} (hu : P.underlying u = some (.slice e)) (he : P.underlying e = some (.int .u8)) (hc : P.cellsOf e = 1) {c : Value} (hv : Cell.okWide P W r b0 u c) {fuel : Nat} {y : DataW H × List MemPlace} (h : DataW.trod enc P W base sp held fuel u [c] = some y) : ∃ l : List UInt8, Rd (fun _ => none) W (bv l) c :=
  cell_row (A := bAV) hu hc (fun fuel c y h => by
    obtain ⟨n, h1, -, h2⟩ := DataW.trod_int he h
    obtain rfl := (List.cons.inj h1).1
    have h3 : 0 ≤ n ∧ n ≤ 255 := by simpa [Lit.wf, IntKind.min, IntKind.max, IntKind.signed, IntKind.bits] using h2
    refine ⟨b8 n, ?_⟩
    rw [bAV_b8, IntKind.wrap_u8, Int.emod_eq_of_lt (by omega) (by omega)]
    exact .int _ _) hv h
theorem cell_ints {u e : TypeId} (hu : P.underlying u = some (.slice e)) (he : P.underlying e = some (.int .i64)) (hc : P.cellsOf e = 1) {c : Value} (hv : Cell.okWide P W r b0 u c) {fuel : Nat} {y : DataW H × List MemPlace} (h : DataW.trod enc P W base sp held fuel u [c] = some y) : ∃ l : List Int, Rd (fun _ => none) W (iv l) c :=
  cell_row (A := iAV) hu hc (fun fuel c y h => by
    obtain ⟨n, h1, -, -⟩ := DataW.trod_int he h
    obtain rfl := (List.cons.inj h1).1
    exact ⟨n, .int _ _⟩) hv h
theorem cell_int {u : TypeId} (hu : P.underlying u = some (.int .i64)) {c : Value} {fuel : Nat} {y : DataW H × List MemPlace} (h : DataW.trod enc P W base sp held fuel u [c] = some y) : ∃ n : Int, Rd (fun _ => none) W (iAV n) c := by
  obtain ⟨n, h1, -, -⟩ := DataW.trod_int hu h
  obtain rfl := (List.cons.inj h1).1
  exact ⟨n, .int _ _⟩
/-- The cells of a struct that is an argument. -/
theorem agg_cells {t : TypeId} {fs : Array Field} {ts : List TypeId} (ht : P.underlying t = some (.struct fs)) (hts : P.cellTypes P.depth t = some ts) (hn : P.cellsOf t = ts.length) {v : Value} (hv : Value.okWide P W r b0 t v) :
    ∃ cs : List Value, v = .agg cs.toArray ∧ cs.length = ts.length ∧ ∀ (i : Nat) (u : TypeId) (c : Value), ts[i]? = some u → cs[i]? = some c → Cell.okWide P W r b0 u c := by
  unfold Value.okWide at hv
  rw [ht] at hv
  obtain ⟨⟨cs⟩, rfl, h1, ts', h2, h3, h4⟩ := hv
  obtain rfl := Option.some.inj (hts.symm.trans h2)
  have h1 : cs.length = ts.length := by rw [← hn]; simpa using h1
  refine ⟨cs, rfl, h1, fun i u c hu hc => ?_⟩
  obtain ⟨u', k1, k2⟩ := h4 i c (by simpa using hc)
  have hi : i < ts.length := by rw [← h1]; exact (List.getElem?_eq_some_iff.1 hc).1
  rw [Nat.mod_eq_of_lt hi, hu] at k1
  obtain rfl := Option.some.inj k1
  exact k2
/-- The fields of a struct. -/
theorem trod_fields {t : TypeId} {fs : Array Field} (ht : P.underlying t = some (.struct fs)) {fuel : Nat} {cs : List Value} {y : DataW H × List MemPlace} (h : DataW.trod enc P W base sp held fuel t cs = some y) :
    ∀ (i : Nat) (f : Field), fs[i]? = some f → ∃ n y', DataW.trod enc P W base sp held n f.type ((cs.drop f.offset).take (P.cellsOf f.type)) = some y' := by
  obtain ⟨xs, n, -, -, hl, hxl, hf⟩ := DataW.trod_struct ht h
  intro i f hfi
  have h1 := hf i f hfi
  have hi : i < xs.length := by rw [hxl]; exact (Array.getElem?_eq_some_iff.1 hfi).1
  rw [List.getElem?_eq_getElem hi] at h1
  exact ⟨n, _, h1⟩
theorem trod_field {t : TypeId} {fs : Array Field} (ht : P.underlying t = some (.struct fs)) {fuel : Nat} {cs : List Value} {y : DataW H × List MemPlace} (h : DataW.trod enc P W base sp held fuel t cs = some y) (i k : Nat) (f : Field) (hf : fs[i]? = some f) (hk : P.cellsOf f.type = k) (cs' : List Value) (hc : (cs.drop f.offset).take k = cs') :
    ∃ n y', DataW.trod enc P W base sp held n f.type cs' = some y' := by
  subst hk hc
  exact trod_fields ht h i f hf
end
section
variable {H : Type} {enc : TypeId × Value → H} {P : Program} {W : World} {base : Nat} {sp : Nat → Bool} {held : Bool} {b0 : Nat} {r : Reach} {v : Value} {d : DataW H} {p : List MemPlace}
theorem arg_bytes {u e : TypeId} (hu : P.underlying u = some (.slice e)) (he : P.underlying e = some (.int .u8)) (hc : P.cellsOf e = 1) (hv : Value.okWide P W r b0 u v) (h : DataW.Trod enc P W base sp held u v d p) : ∃ l : List UInt8, Rd (fun _ => none) W (bv l) v := by
  obtain ⟨a, len, cap, rfl⟩ := okWide_slice hu hv
  obtain ⟨fuel, hf⟩ := h
  have hv : Cell.okWide P W r b0 u (.slice a len cap) := by simpa only [Value.okWide, hu] using hv
  exact cell_bytes hu he hc hv hf
theorem arg_ints {u e : TypeId} (hu : P.underlying u = some (.slice e)) (he : P.underlying e = some (.int .i64)) (hc : P.cellsOf e = 1) (hv : Value.okWide P W r b0 u v) (h : DataW.Trod enc P W base sp held u v d p) : ∃ l : List Int, Rd (fun _ => none) W (iv l) v := by
  obtain ⟨a, len, cap, rfl⟩ := okWide_slice hu hv
  obtain ⟨fuel, hf⟩ := h
  have hv : Cell.okWide P W r b0 u (.slice a len cap) := by simpa only [Value.okWide, hu] using hv
  exact cell_ints hu he hc hv hf
theorem arg_int {u : TypeId} (hu : P.underlying u = some (.int .i64)) (hv : Value.okWide P W r b0 u v) (h : DataW.Trod enc P W base sp held u v d p) : ∃ n : Int, Rd (fun _ => none) W (iAV n) v := by
  obtain ⟨n, rfl, -⟩ := open_int hu hv h
  exact ⟨n, .int _ _⟩
end
end Go.Proofs.Ytnlpjbedkdhlbaa
