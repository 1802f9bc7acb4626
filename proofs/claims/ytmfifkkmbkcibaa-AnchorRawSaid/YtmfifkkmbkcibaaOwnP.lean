/-
  The contracts of own.Parcels, own.Ticket, own.Message and own.Tunnel: copies that read as what they are copies of.
-/
import Derived.Test.YtmfifkkmbkcibaaClone
import Derived.Test.YtmfifkkmbkcibaaRep3
import Derived.StillTailTactics
import Derived.Deep.RegionHeld3
import Derived.Deep.DeepCutAuto
namespace Go.Proofs.Ytmfifkkmbkcibaa
set_option linter.unusedVariables false
open Go.RowKit

/-- S, or what is new. -/
def orNew (S : Nat → Prop) (n : Nat) : Nat → Prop := fun b => S b ∨ n ≤ b

set_option maxHeartbeats 1000000 in
theorem parcels_any (v : Value) (S : Nat → Prop) (xs : List Parcel) (w : World) (hsl : Sl parcelR S w v xs) (hl : xs.length * 32 ≤ 140737488355328) (hd : ∀ p ∈ xs, p.data.length ≤ 140737488355328) :
    Calls Try.prog 38 #[v] w fun e w' => ∃ v', e = .returned v' ∧ Own parcelR (orNew S w.heap.size) w.heap.size 81 w' v' xs ∧ Below w.heap.size w w' := by
  obtain ⟨i0, hi, hz0, hz1, hz2⟩ := info_parts (P := Try.prog) (e := 81) (z := .agg #[.int .i64 0, .slice none 0 0]) (size := 2) (bytes := 32) (by kernel_rfl)
  obtain ⟨a, cap, rfl, hm⟩ := hsl.len
  obtain ⟨w1, hmk, hown1, hg1⟩ := run_make_full (P := Try.prog) w w.heap.size 56 81 i0 (.agg #[.int .i64 0, .slice none 0 0]) 2 Try.underlying56 hi hz0 hz1 .i64 .i64 xs.length (by rw [hz2]; omega) (by unfold maxLen; omega) (Nat.le_refl _)
  have hb1 : Below w.heap.size w w1 := ⟨hg1.os, hg1.tape, hg1.output, hg1.size, fun k hk => hg1.block k hk (by simp)⟩
  obtain ⟨w2, hcp, hown2, hg2⟩ := run_copyR (P := Try.prog) (R := parcelR) (S := fun b => S b ∧ b < w.heap.size) 56 3 w.heap.size 81 Try.underlying56 (by kernel_rfl) w.heap.size xs.length xs.length _ hown1 (.slice a xs.length cap) xs rfl ((hsl.lt (by decide) (fun b hb hlt => ⟨hb, hlt⟩)).below hb1) (fun b hb _ => by omega)
  have hb2 : Below w.heap.size w w2 := hb1.grown hg2 hb1.size (fun k hk => by injection hk; omega)
  have hown3 := own_mono (S' := orNew S w.heap.size) hown2 (fun b hb _ => .inl hb.1)
  clear hown1 hown2 hg1 hg2
  have HS := Lib.hid hsl; clear hsl
  have HO := Lib.hid hown3; clear hown3
  have HB1 := Lib.hid hb1; clear hb1
  have HB2 := Lib.hid hb2; clear hb2
  have HD := Lib.hid hd; clear hd
  go_enter Try.func38, Try.ntmps38
  go_wp2_with fail
  go_loopw [14] (fun i wr => ∃ k : Nat, k ≤ xs.length ∧ i = .int .i64 k ∧ Own parcelR (orNew S w.heap.size) w.heap.size 81 wr (.slice (some ⟨w.heap.size, 0, none⟩) xs.length xs.length) xs ∧ Below w.heap.size w wr) (fun i _ => xs.length - (intOf i).toNat)
  case atStart => exact ⟨0, by omega, rfl, HO.out, HB2.out⟩
  case round =>
    obtain ⟨k, hk, rfl, hown, hbel⟩ := hrel
    clear hmk hcp
    by_cases hlt : k < xs.length
    · obtain ⟨b, off, c, rfl, -, hrd, hcell⟩ := (HS.out.below hbel).at k hlt
      obtain ⟨d, rfl, hrc, hdd⟩ := hrd
      obtain ⟨da, dcap, rfl, -⟩ := hdd.len
      have x0 : wr.cell? ⟨b, off + k * 2, none⟩ = some (.int .i64 xs[k].count) := hcell 0 (by decide)
      have x1 : wr.cell? ⟨b, off + k * 2 + 1, none⟩ = some (.slice da xs[k].data.length dcap) := hcell 1 (by decide)
      obtain ⟨g, c2, hg, -, hgw, hrd2, hcell2, hfz⟩ := hown.at k hlt
      obtain rfl : g = w.heap.size := by simpa using hg.symm
      obtain ⟨d2, rfl, -, hdd2⟩ := hrd2
      have y0 : wr.cell? ⟨w.heap.size, k * 2, none⟩ = some (.int .i64 xs[k].count) := hcell2 0 (by decide)
      have y1 : wr.cell? ⟨w.heap.size, k * 2 + 1, none⟩ = some d2 := hcell2 1 (by decide)
      have f1 := hfz (k * 2 + 1)
      generalize hp : xs[k] = p at *
      have hpd : p.data.length ≤ 140737488355328 := HD.out p (by rw [← hp]; exact List.getElem_mem _)
      have HP := Lib.hid hp; clear hp
      have HDD := Lib.hid hdd; clear hdd hcell
      have HOw := Lib.hid hown; clear hown hcell2 hfz hdd2 hg
      have HBe := Lib.hid hbel; clear hbel
      have HRC := Lib.hid hrc; clear hrc
      go_wp2_with fail
      refine (cloneB_any _ _ p.data _ (HDD.out.below ((Below.refl _ _).alloc (Nat.le_refl _) _)) (by omega)).mono ?_
      rintro e w3 ⟨v3, rfl, hown3, hb3⟩
      obtain ⟨va, vcap, rfl⟩ := hown3.len
      have hbw : Below wr.heap.size wr w3 := ((Below.refl _ _).alloc (Nat.le_refl _) _).trans (hb3.mono (by simp))
      have z1 : w3.cell? ⟨w.heap.size, k * 2 + 1, none⟩ = some d2 := (hbw.cell hgw).trans y1
      have zf : w3.frozen? ⟨w.heap.size, k * 2 + 1, none⟩ = false := (hbw.frozen hgw).trans f1
      have HO3 := Lib.hid hown3; clear hown3
      have HBW := Lib.hid hbw; clear hbw hb3
      clear x0 x1 y0 y1 f1
      go_wp2_with fail
      go_roundw
      case rel =>
        have h4 := HOw.out.below HBW.out
        have h5 := HBe.out.trans (HBW.out.mono HBe.out.size)
        refine ⟨k + 1, by omega, by go_num, ?_, h5.setCell (Nat.le_refl _) _⟩
        have h6 := Own.put (w' := w3.setCell ⟨w.heap.size, k * 2 + 1, none⟩ (.slice va p.data.length vcap)) h4 k hlt (c := [.int .i64 p.count, .slice va p.data.length vcap]) (x := p) ?_ ?_ ?_
        · have h9 : xs.set k p = xs := by rw [← HP.out, List.set_getElem_self]
          rw [h9] at h6; exact h6
        · intro cs hcs hr
          have h7 := (hcs.stored (k * 2 + 1) (.slice va p.data.length vcap)).1
          obtain ⟨c5, ⟨d5, rfl, -⟩, h8⟩ := hr.get k hlt
          have h9 := h8 0 (by decide)
          have hcl := hr.len
          have h10 : k * 2 + 1 < cs.length := by rw [hcl]; show k * 2 + 1 < xs.length * 2; omega
          have h11 := chunk_set cs (k * 2) [.int .i64 p.count] (.slice va p.data.length vcap) h10
          rw [chunk_same cs (k * 2) [.int .i64 p.count] (fun j hj => by
            obtain rfl : j = 0 := by simpa using hj
            rw [← HP.out]; exact h9) (by simp; omega)] at h11
          have h12 : cs.set (k * 2 + 1) (.slice va p.data.length vcap) = chunk cs (k * parcelR.n) [.int .i64 p.count, .slice va p.data.length vcap] := h11
          rw [← h12]
          exact h7
        · intro b' hb' _
          exact Below.heap_setCell _ _ _ _ hb'
        · refine ⟨_, rfl, HRC.out, ?_⟩
          have h8 := (HO3.out.bytes (S' := fun _ => False)).sl (S' := fun b' => orNew S w.heap.size b' ∧ b' ≠ w.heap.size) ?_ ?_
          · exact h8.kept (fun b' hb' _ => Below.heap_setCell _ _ _ _ hb'.2)
          · intro b' hb'; simp at hb'; exact ⟨.inr (by have := HBe.out.size; omega), by omega⟩
          · intro b' hb'; exact hb'.elim
      case measure => simp [intOf]; omega
    · have HOw := Lib.hid hown; clear hown
      have HBe := Lib.hid hbel; clear hbel
      go_wp2_with fail
      go_ret
      exact ⟨_, rfl, HOw.out, HBe.out⟩

set_option maxHeartbeats 1000000 in
theorem ticket_any (t : Ticket) (c : List Value) (S : Nat → Prop) (w : World) (hrd : ticketR.rd S w c t) (hl : t.parcels.length * 32 ≤ 140737488355328) (hd : ∀ p ∈ t.parcels, p.data.length ≤ 140737488355328) :
    Calls Try.prog 34 #[.agg c.toArray] w fun e w' => ∃ c', e = .returned (.agg c'.toArray) ∧ ticketR.rd (orNew S w.heap.size) w' c' t ∧ Below w.heap.size w w' := by
  obtain ⟨d, rfl, h1, h2, h3, hp⟩ := hrd
  obtain ⟨da, dcap, rfl, -⟩ := hp.len
  have HP := Lib.hid hp; clear hp
  go_enter Try.func34, Try.ntmps34
  go_wp2_with fail
  refine (parcels_any _ (fun b => S b ∧ b < w.heap.size) t.parcels _ (((HP.out.lt (by decide) (fun b hb hlt => ⟨hb, hlt⟩)).below ((Below.refl _ _).alloc (Nat.le_refl _) _)).below ((Below.refl _ _).alloc (Nat.le_refl _) _)) hl hd).mono ?_
  rintro e w1 ⟨v1, rfl, hown, hb1⟩
  have r0 := ((Row.new w 58 [.int .i64 t.next, .slice da t.parcels.length dcap, .int .i64 t.first, .int .i64 t.sent]).below (((Below.refl _ _).alloc (Nat.le_refl _) (.cells #[.int .i64 0, .slice none 0 0, .int .i64 0, .int .i64 0] 58)).trans (hb1.mono (by simp))) (by simp))
  have r1 := ((Row.new (w.alloc (.cells #[.int .i64 t.next, .slice da t.parcels.length dcap, .int .i64 t.first, .int .i64 t.sent] 58)) 58 [.int .i64 0, .slice none 0 0, .int .i64 0, .int .i64 0]).below hb1 (by simp))
  obtain ⟨va, vcap, rfl⟩ := hown.len
  have hbw : Below w.heap.size w w1 := (((Below.refl w.heap.size w).alloc (Nat.le_refl _) _).alloc (by simp) _).trans (hb1.mono (by simp; omega))
  have hs1 : w.heap.size + 1 < w1.heap.size := by have := hb1.size; simp at this; omega
  have a0 := r0.cell 0; have a1 := r0.cell 1; have a2 := r0.cell 2; have a3 := r0.cell 3
  have b0 := r1.cell 0; have b1 := r1.cell 1; have b2 := r1.cell 2; have b3 := r1.cell 3
  have fa := r0.frz; have fb := r1.frz
  simp at a0 a1 a2 a3 b0 b1 b2 b3 fb
  have HO := Lib.hid hown; clear hown
  have HB := Lib.hid hbw; clear hbw hb1 r0 r1
  go_wp2_with fail
  refine bodyPost_ret (v := .agg #[.int .i64 t.next, .slice va t.parcels.length vcap, .int .i64 t.first, .int .i64 t.sent]) (by simp [results, Try.results34, go_sem, b0, b1, b2, b3]) rfl ⟨[.int .i64 t.next, .slice va t.parcels.length vcap, .int .i64 t.first, .int .i64 t.sent], rfl, ⟨_, rfl, h1, h2, h3, ?_⟩, ?_⟩
  · have h4 := HO.out.sl (S' := fun b => (S b ∧ b < w.heap.size) ∨ w.heap.size + 2 ≤ b) (by intro b hb; simp at hb; exact .inr (by omega)) (by intro b hb; rcases hb with hb | hb; exact .inl hb; simp at hb; exact .inr (by omega))
    refine (h4.kept (fun b hb hlt => ?_)).lt (by decide) (fun b hb _ => ?_)
    · have n0 : b ≠ w.heap.size := by rcases hb with hb | hb <;> omega
      have n1 : b ≠ w.heap.size + 1 := by rcases hb with hb | hb <;> omega
      rw [Below.heap_setCell _ _ _ _ n1, Below.heap_setCell _ _ _ _ n1, Below.heap_setCell _ _ _ _ n1, Below.heap_setCell _ _ _ _ n1, Below.heap_setCell _ _ _ _ n0]
    · rcases hb with hb | hb
      · exact .inl hb.1
      · exact .inr (by omega)
  · exact ((((HB.out.setCell (by simp) _).setCell (by simp) _).setCell (by simp) _).setCell (by simp) _).setCell (by simp) _
end Go.Proofs.Ytmfifkkmbkcibaa
