/-
  Plain facts: what arguments of the types Message, Tunnel and Anchor are.
-/
import Derived.Test.YtmfifkkmbkcibaaOpenR
import Derived.Test.YtmfifkkmbkcibaaOwnM
namespace Go.Proofs.Ytmfifkkmbkcibaa
open Go.ChangeShapes Go.WideShapes Go.ChangeAt Go.RowKit

theorem opens_bytes : Opens Try.prog (slR byteR (by decide)) (fun l => l.length ≤ 140737488355328) 22 := by
  intro H enc w base sp held fuel cs d ps h hw
  obtain ⟨x, h1, h2, -⟩ := opens_slice (P := Try.prog) (R := byteR) (by decide) Try.underlying22 (by kernel_rfl) (opens_byte Try.underlying5) enc w base sp held fuel cs d ps h hw
  rw [show Try.prog.bytesOf 5 = 1 by kernel_rfl] at h2
  exact ⟨x, h1, by omega⟩
theorem opens_ints : Opens Try.prog (slR intR (by decide)) (fun l => l.length * 8 ≤ 140737488355328) 28 := by
  intro H enc w base sp held fuel cs d ps h hw
  obtain ⟨x, h1, h2, -⟩ := opens_slice (P := Try.prog) (R := intR) (by decide) Try.underlying28 (by kernel_rfl) (opens_int Try.underlying3) enc w base sp held fuel cs d ps h hw
  rw [show Try.prog.bytesOf 3 = 8 by kernel_rfl] at h2
  exact ⟨x, h1, by omega⟩
theorem opens_parcel : Opens Try.prog parcelR (fun p => p.data.length ≤ 140737488355328) 81 := by
  intro H enc w base sp held fuel cs d ps h hw
  obtain ⟨hl, hf⟩ := open_fields1 Try.underlying81 h hw
  rw [show Try.prog.cellsOf 81 = 2 by kernel_rfl] at hl
  match cs, hl with
  | [c0, c1], _ =>
    obtain ⟨n0, d0, p0, h0, w0⟩ := hf 0 _ rfl (by kernel_rfl) c0 rfl
    obtain ⟨n1, d1, p1, h1, w1⟩ := hf 1 _ rfl (by kernel_rfl) c1 rfl
    obtain ⟨x0, ⟨e0, r0⟩, -⟩ := opens_int Try.underlying3 enc w base sp held _ _ _ _ h0 w0
    obtain ⟨x1, ⟨v1, e1, r1⟩, f1⟩ := opens_bytes enc w base sp held _ _ _ _ h1 w1
    have e0 := (List.cons.inj e0).1
    have e1 := (List.cons.inj e1).1
    subst e0 e1
    exact ⟨⟨x0, x1⟩, ⟨_, rfl, r0, r1⟩, f1⟩
theorem opens_parcels : Opens Try.prog (slR parcelR (by decide)) (fun l => l.length * 32 ≤ 140737488355328 ∧ ∀ p ∈ l, p.data.length ≤ 140737488355328) 56 := by
  intro H enc w base sp held fuel cs d ps h hw
  obtain ⟨x, h1, h2, h3⟩ := opens_slice (P := Try.prog) (R := parcelR) (by decide) Try.underlying56 (by kernel_rfl) opens_parcel enc w base sp held fuel cs d ps h hw
  rw [show Try.prog.bytesOf 81 = 32 by kernel_rfl] at h2
  exact ⟨x, h1, by omega, h3⟩
theorem opens_ticket : Opens Try.prog ticketR (fun t => t.parcels.length * 32 ≤ 140737488355328 ∧ ∀ p ∈ t.parcels, p.data.length ≤ 140737488355328) 58 := by
  intro H enc w base sp held fuel cs d ps h hw
  obtain ⟨hl, hf⟩ := open_fields1 Try.underlying58 h hw
  rw [show Try.prog.cellsOf 58 = 4 by kernel_rfl] at hl
  match cs, hl with
  | [c0, c1, c2, c3], _ =>
    obtain ⟨n0, d0, p0, h0, w0⟩ := hf 0 _ rfl (by kernel_rfl) c0 rfl
    obtain ⟨n1, d1, p1, h1, w1⟩ := hf 1 _ rfl (by kernel_rfl) c1 rfl
    obtain ⟨n2, d2, p2, h2, w2⟩ := hf 2 _ rfl (by kernel_rfl) c2 rfl
    obtain ⟨n3, d3, p3, h3, w3⟩ := hf 3 _ rfl (by kernel_rfl) c3 rfl
    obtain ⟨x0, ⟨e0, r0⟩, -⟩ := opens_int Try.underlying3 enc w base sp held _ _ _ _ h0 w0
    obtain ⟨x1, ⟨v1, e1, r1⟩, f1⟩ := opens_parcels enc w base sp held _ _ _ _ h1 w1
    obtain ⟨x2, ⟨e2, r2⟩, -⟩ := opens_int Try.underlying3 enc w base sp held _ _ _ _ h2 w2
    obtain ⟨x3, ⟨e3, r3⟩, -⟩ := opens_int Try.underlying3 enc w base sp held _ _ _ _ h3 w3
    have e0 := (List.cons.inj e0).1
    have e1 := (List.cons.inj e1).1
    have e2 := (List.cons.inj e2).1
    have e3 := (List.cons.inj e3).1
    subst e0 e1 e2 e3
    exact ⟨⟨x0, x1, x2, x3⟩, ⟨_, rfl, r0, r2, r3, r1⟩, f1⟩
theorem opens_tickets : Opens Try.prog (slR ticketR (by decide)) (fun l => l.length * 48 ≤ 140737488355328 ∧ ∀ t ∈ l, t.parcels.length * 32 ≤ 140737488355328 ∧ ∀ p ∈ t.parcels, p.data.length ≤ 140737488355328) 32 := by
  intro H enc w base sp held fuel cs d ps h hw
  obtain ⟨x, h1, h2, h3⟩ := opens_slice (P := Try.prog) (R := ticketR) (by decide) Try.underlying32 (by kernel_rfl) opens_ticket enc w base sp held fuel cs d ps h hw
  rw [show Try.prog.bytesOf 58 = 48 by kernel_rfl] at h2
  exact ⟨x, h1, by omega, h3⟩
theorem opens_msg : Opens Try.prog msgR Msg.fits 34 := by
  intro H enc w base sp held fuel cs d ps h hw
  obtain ⟨hl, hf⟩ := open_fields1 Try.underlying34 h hw
  rw [show Try.prog.cellsOf 34 = 7 by kernel_rfl] at hl
  match cs, hl with
  | [c0, c1, c2, c3, c4, c5, c6], _ =>
    obtain ⟨n0, d0, p0, h0, w0⟩ := hf 0 _ rfl (by kernel_rfl) c0 rfl
    obtain ⟨n1, d1, p1, h1, w1⟩ := hf 1 _ rfl (by kernel_rfl) c1 rfl
    obtain ⟨n2, d2, p2, h2, w2⟩ := hf 2 _ rfl (by kernel_rfl) c2 rfl
    obtain ⟨n3, d3, p3, h3, w3⟩ := hf 3 _ rfl (by kernel_rfl) c3 rfl
    obtain ⟨n4, d4, p4, h4, w4⟩ := hf 4 _ rfl (by kernel_rfl) c4 rfl
    obtain ⟨n5, d5, p5, h5, w5⟩ := hf 5 _ rfl (by kernel_rfl) c5 rfl
    obtain ⟨n6, d6, p6, h6, w6⟩ := hf 6 _ rfl (by kernel_rfl) c6 rfl
    obtain ⟨x0, ⟨e0, r0⟩, -⟩ := opens_int Try.underlying3 enc w base sp held _ _ _ _ h0 w0
    obtain ⟨x1, ⟨e1, r1⟩, -⟩ := opens_int Try.underlying3 enc w base sp held _ _ _ _ h1 w1
    obtain ⟨x2, ⟨e2, r2⟩, -⟩ := opens_int Try.underlying3 enc w base sp held _ _ _ _ h2 w2
    obtain ⟨x3, ⟨e3, r3⟩, -⟩ := opens_int Try.underlying3 enc w base sp held _ _ _ _ h3 w3
    obtain ⟨x4, ⟨e4, r4⟩, -⟩ := opens_int Try.underlying3 enc w base sp held _ _ _ _ h4 w4
    obtain ⟨x5, ⟨v5, e5, r5⟩, f5⟩ := opens_bytes enc w base sp held _ _ _ _ h5 w5
    obtain ⟨x6, ⟨v6, e6, r6⟩, f6⟩ := opens_tickets enc w base sp held _ _ _ _ h6 w6
    have e0 := (List.cons.inj e0).1
    have e1 := (List.cons.inj e1).1
    have e2 := (List.cons.inj e2).1
    have e3 := (List.cons.inj e3).1
    have e4 := (List.cons.inj e4).1
    have e5 := (List.cons.inj e5).1
    have e6 := (List.cons.inj e6).1
    subst e0 e1 e2 e3 e4 e5 e6
    exact ⟨⟨x0, x1, x2, x3, x4, x5, x6⟩, ⟨_, _, rfl, r0, r1, r2, r3, r4, r5, r6⟩, f5, f6⟩
theorem opens_msgs : Opens Try.prog (slR msgR (by decide)) (fun l => l.length * 88 ≤ 140737488355328 ∧ ∀ m ∈ l, m.fits) 25 := by
  intro H enc w base sp held fuel cs d ps h hw
  obtain ⟨x, h1, h2, h3⟩ := opens_slice (P := Try.prog) (R := msgR) (by decide) Try.underlying25 (by kernel_rfl) opens_msg enc w base sp held fuel cs d ps h hw
  rw [show Try.prog.bytesOf 34 = 88 by kernel_rfl] at h2
  exact ⟨x, h1, by omega, h3⟩
/-- A struct argument is an aggregate of its cells. -/
theorem agg_arg {P : Program} {t : TypeId} {fs : Array Field} (ht : P.underlying t = some (.struct fs)) {W : World} {r : Reach} {b0 : Nat} {v : Value} (hv : Value.okWide P W r b0 t v) : ∃ cs : Array Value, v = .agg cs ∧ v.cells.toList = cs.toList := by
  unfold Value.okWide at hv
  rw [ht] at hv
  obtain ⟨cs, rfl, -⟩ := hv
  exact ⟨cs, rfl, rfl⟩
end Go.Proofs.Ytmfifkkmbkcibaa
