/-
  Plain facts: what the statements' arguments are, once they are known to read as data: bytes, pairs of integers.
-/
import Derived.Test.YtmfifkkmbkcibaaOwn
import Derived.ProofKit
import Derived.OpenShut
namespace Go.Proofs.Ytmfifkkmbkcibaa
open Go.ChangeShapes Go.WideShapes Go.ChangeAt Go.RowKit

section
variable {H : Type} {enc : TypeId × Value → H} {P : Program} {W : World} {base : Nat} {sp : Nat → Bool} {held : Bool} {b0 : Nat} {r : Reach}

/-- The byte of a number that fits. -/
theorem B_ofNat (n : Int) (h : (Lit.int .u8 n).wf = true) : B (UInt8.ofNat n.toNat) = n := by
  have h1 : 0 ≤ n ∧ n ≤ 255 := by simpa [Lit.wf, IntKind.min, IntKind.max, IntKind.signed, IntKind.bits] using h
  unfold B
  simp
  omega

theorem open_bytes {t e : TypeId} (ht : P.underlying t = some (.slice e)) (he : P.underlying e = some (.int .u8)) (hc : P.cellsOf e = 1) {v : Value} {d : DataW H} {p : List MemPlace}
    (hv : Value.okWide P W r b0 t v) (h : DataW.Trod enc P W base (fun _ => true) held t v d p) : ∃ l, Bts W v l := by
  obtain ⟨a, len, cap, rfl⟩ := okWide_slice ht hv
  obtain ⟨fuel, hf⟩ := h
  rcases open_ints ht he hc hf with ⟨hcs, _⟩ | ⟨x, l, c, zs, hcs, _, hl, hm, hz, _, hcell, hwz⟩
  · simp [Value.cells] at hcs
    obtain ⟨rfl, rfl, rfl⟩ := hcs
    exact ⟨[], .nil _⟩
  · simp [Value.cells] at hcs
    obtain ⟨rfl, rfl, rfl⟩ := hcs
    have hspot : x.spot = none := by
      simp only [Value.okWide, ht, Cell.okWide, Cell.ok] at hv
      exact hv.2.2.2.1
    obtain ⟨b, off, spot⟩ := x
    simp only at hspot
    subst hspot
    have hzl : zs.length = cap := by simpa using hz
    refine ⟨(zs.take len).map fun n => UInt8.ofNat n.toNat, ?_⟩
    have hlen : ((zs.take len).map fun n => UInt8.ofNat n.toNat).length = len := by simp; omega
    conv => arg 2; rw [← hlen]
    refine Bts.mk (by omega) (by simpa [maxLen] using hm) (fun i hi => ?_)
    rw [hlen] at hi
    have h1 := hcell i (by omega)
    have hadd : (⟨b, off, none⟩ : Addr).add i = ⟨b, off + i, none⟩ := by unfold Addr.add; split <;> simp_all
    rw [hadd] at h1
    rw [h1]
    have hi2 : i < zs.length := by omega
    have h2 := B_ofNat _ (hwz _ (List.getElem_mem hi2))
    simp [List.getD_eq_getElem?_getD, hi2, hi, h2]

/-- An array of two integers. -/
theorem open_pair {t e : TypeId} (ht : P.underlying t = some (.array 2 e)) (he : P.underlying e = some (.int .i64)) (hc : P.cellsOf e = 1) (hct : P.cellsOf t = 2) {v : Value} {d : DataW H} {p : List MemPlace}
    (hv : Value.okWide P W r b0 t v) (h : DataW.Trod enc P W base sp held t v d p) :
    ∃ a b : Int, v = .agg #[.int .i64 a, .int .i64 b] ∧ (Lit.int .i64 a).wf = true ∧ (Lit.int .i64 b).wf = true := by
  simp only [Value.okWide, ht] at hv
  obtain ⟨cs, rfl, hs, -⟩ := hv
  rw [hct] at hs
  obtain ⟨fuel, hf⟩ := h
  cases fuel with
  | zero => simp [DataW.trod] at hf
  | succ fuel =>
    obtain ⟨l⟩ := cs
    match l, hs with
    | [x, y], _ =>
      have hf2 : ∃ x1 x2, DataW.trod enc P W base sp held fuel e [x] = some x1 ∧ DataW.trod enc P W base sp held fuel e [y] = some x2 := by
        unfold DataW.trod at hf
        rw [ht] at hf
        simp only [Value.cells, hct, hc, List.range_succ, List.length_cons, List.length_nil, Nat.reduceAdd, if_true] at hf
        simp [Option.bind_eq_some_iff] at hf
        cases hx : DataW.trod enc P W base sp held fuel e [x] with
        | none => simp [hx] at hf
        | some x1 =>
          cases hy : DataW.trod enc P W base sp held fuel e [y] with
          | none => simp [hx, hy] at hf
          | some x2 => exact ⟨x1, x2, rfl, rfl⟩
      obtain ⟨x1, x2, hx, hy⟩ := hf2
      obtain ⟨a, e0, -, wa⟩ := DataW.trod_int he hx
      obtain ⟨b, e1, -, wb⟩ := DataW.trod_int he hy
      simp at e0 e1
      subst e0 e1
      exact ⟨a, b, rfl, wa, wb⟩
end
/-- The bounds of an int that came in. -/
theorem wf_i64 {n : Int} (h : (Lit.int .i64 n).wf = true) : -9223372036854775808 ≤ n ∧ n ≤ 9223372036854775807 := by
  simpa [Lit.wf, IntKind.min, IntKind.max, IntKind.signed, IntKind.bits] using h
end Go.Proofs.Ytmfifkkmbkcibaa
