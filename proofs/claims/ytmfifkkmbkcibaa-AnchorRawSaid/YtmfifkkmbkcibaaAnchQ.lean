/-
  The contracts of the reference's comparisons where both sides read as the same data.
-/
import Derived.Test.YtmfifkkmbkcibaaAnchS
import Derived.BigQuiet
namespace Go.Proofs.Ytmfifkkmbkcibaa
set_option linter.unusedVariables false
open Go.RowKit

set_option maxRecDepth 100000 in
set_option maxHeartbeats 1000000 in
theorem sameBytes_eq (v1 v2 : Value) (xs : List UInt8) (S1 S2 : Nat → Prop) (w : World) (hv1 : Sl byteR S1 w v1 xs) (hv2 : Sl byteR S2 w v2 xs) :
    Calls Try.prog 35 #[v1, v2] w fun e w' => e = .returned (.bool true) ∧ Below w.heap.size w w' := by
  obtain ⟨a1, c1, rfl, hm1⟩ := hv1.len
  obtain ⟨a2, c2, rfl, hm2⟩ := hv2.len
  have HV1 := Lib.hid hv1; clear hv1
  have HV2 := Lib.hid hv2; clear hv2
  have hlb : ((xs.length : Int) != (xs.length : Int)) = false := by simp
  go_enter Try.func35, Try.ntmps35
  go_wp2_with fail
  go_loopw [5] (fun i ws => ∃ k : Nat, k ≤ xs.length ∧ i = .int .i64 k ∧ Below w.heap.size w ws) (fun i _ => xs.length - (intOf i).toNat)
  case atStart => exact ⟨0, by omega, rfl, Below.refl _ _⟩
  case round =>
    obtain ⟨k, hk, rfl, hb⟩ := hrel
    have HB := Lib.hid hb; clear hb
    by_cases hlt : k < xs.length
    · obtain ⟨b1, o1, e1, rfl, -, hrd1, hcell1⟩ := (HV1.out.below HB.out).at k hlt
      obtain ⟨b2, o2, e2, rfl, -, hrd2, hcell2⟩ := (HV2.out.below HB.out).at k hlt
      obtain rfl := hrd1
      obtain rfl := hrd2
      have y1 : wr.cell? ⟨b1, o1 + k, none⟩ = some (.int .u8 (B xs[k])) := by
        have h := hcell1 0 (by decide)
        simpa [byteR] using h
      have y2 : wr.cell? ⟨b2, o2 + k, none⟩ = some (.int .u8 (B xs[k])) := by
        have h := hcell2 0 (by decide)
        simpa [byteR] using h
      clear hcell1 hcell2
      generalize B xs[k] = x at *
      have hn : (x != x) = false := by simp
      go_upto_region 6 with (fail)
      go_quiet (fail)
      go_wp2_with fail
      go_roundw
      case rel => exact ⟨k + 1, by omega, by go_num, HB.out.trans ⟨rfl, rfl, rfl, Nat.le_refl _, fun _ _ => rfl⟩⟩
      case measure => simp [intOf]; omega
    · go_wp2_with fail
      refine bodyPost_ret (v := .bool true) (by simp [results, Try.results35, go_sem]) rfl ⟨rfl, HB.out⟩

set_option maxRecDepth 100000 in
set_option maxHeartbeats 2000000 in
theorem sameParcels_eq (v1 v2 : Value) (xs : List Parcel) (S1 S2 : Nat → Prop) (w : World) (hv1 : Sl parcelR S1 w v1 xs) (hv2 : Sl parcelR S2 w v2 xs) :
    Calls Try.prog 39 #[v1, v2] w fun e w' => e = .returned (.bool true) ∧ Below w.heap.size w w' := by
  obtain ⟨a1, c1, rfl, hm1⟩ := hv1.len
  obtain ⟨a2, c2, rfl, hm2⟩ := hv2.len
  have HV1 := Lib.hid hv1; clear hv1
  have HV2 := Lib.hid hv2; clear hv2
  have hlb : ((xs.length : Int) != (xs.length : Int)) = false := by simp
  go_enter Try.func39, Try.ntmps39
  go_wp2_with fail
  go_loopw [5] (fun i ws => ∃ k : Nat, k ≤ xs.length ∧ i = .int .i64 k ∧ Below w.heap.size w ws) (fun i _ => xs.length - (intOf i).toNat)
  case atStart => exact ⟨0, by omega, rfl, Below.refl _ _⟩
  case round =>
    obtain ⟨k, hk, rfl, hb⟩ := hrel
    have HB := Lib.hid hb; clear hb
    by_cases hlt : k < xs.length
    · obtain ⟨b1, o1, e1, rfl, -, hrd1, hcell1⟩ := (HV1.out.below HB.out).at k hlt
      obtain ⟨b2, o2, e2, rfl, -, hrd2, hcell2⟩ := (HV2.out.below HB.out).at k hlt
      obtain ⟨p1, rfl, -, hp1⟩ := hrd1
      obtain ⟨p2, rfl, -, hp2⟩ := hrd2
      obtain ⟨pa1, pc1, rfl, -⟩ := hp1.len
      obtain ⟨pa2, pc2, rfl, -⟩ := hp2.len
      have x0 : wr.drew.cell? ⟨b1, o1 + k * 2, none⟩ = some (.int .i64 xs[k].count) := hcell1 0 (by decide)
      have x1 : wr.drew.cell? ⟨b1, o1 + k * 2 + 1, none⟩ = some (.slice pa1 xs[k].data.length pc1) := hcell1 1 (by decide)
      have x2 : wr.drew.cell? ⟨b2, o2 + k * 2, none⟩ = some (.int .i64 xs[k].count) := hcell2 0 (by decide)
      have x3 : wr.drew.cell? ⟨b2, o2 + k * 2 + 1, none⟩ = some (.slice pa2 xs[k].data.length pc2) := hcell2 1 (by decide)
      clear hcell1 hcell2
      generalize xs[k] = x at *
      have hn : (x.count != x.count) = false := by simp
      have HP1 := Lib.hid hp1.drew; clear hp1
      have HP2 := Lib.hid hp2.drew; clear hp2
      have l0 := World.block_lt_of_cell? _ _ x0
      have l2 := World.block_lt_of_cell? _ _ x2
      go_upto_region 6 with (fail)
      go_region_held3 (fun w' => w'.cell? ⟨b1, o1 + k * 2, none⟩ = some (.int .i64 x.count) ∧ w'.cell? ⟨b1, o1 + k * 2 + 1, none⟩ = some (.slice pa1 x.data.length pc1) ∧ w'.cell? ⟨b2, o2 + k * 2, none⟩ = some (.int .i64 x.count) ∧ w'.cell? ⟨b2, o2 + k * 2 + 1, none⟩ = some (.slice pa2 x.data.length pc2))
        (first | with_reducible exact ⟨x0, x1, x2, x3⟩ | exact ⟨(hb4.cell (p := ⟨b1, _, none⟩) l0).trans x0, (hb4.cell (p := ⟨b1, _, none⟩) l0).trans x1, (hb4.cell (p := ⟨b2, _, none⟩) l2).trans x2, (hb4.cell (p := ⟨b2, _, none⟩) l2).trans x3⟩)
        (first | (go_at_call 35; refine (sameBytes_eq _ _ x.data _ _ _ HP1.out HP2.out).mono ?_; rintro e w4 ⟨rfl, hb4⟩))
      have HB4 := Lib.hid (HB.out.drew.trans (hb4.mono HB.out.drew.size)); clear hb4
      go_wp2_with fail
      go_roundw
      case rel => exact ⟨k + 1, by omega, by go_num, HB4.out⟩
      case measure => simp [intOf]; omega
    · go_wp2_with fail
      refine bodyPost_ret (v := .bool true) (by simp [results, Try.results39, go_sem]) rfl ⟨rfl, HB.out⟩

set_option maxRecDepth 100000 in
set_option maxHeartbeats 2000000 in
theorem sameTicket_eq (c1 c2 : List Value) (t : Ticket) (S1 S2 : Nat → Prop) (w : World) (hv1 : ticketR.rd S1 w c1 t) (hv2 : ticketR.rd S2 w c2 t) :
    Calls Try.prog 36 #[.agg c1.toArray, .agg c2.toArray] w fun e w' => e = .returned (.bool true) ∧ Below w.heap.size w w' := by
  obtain ⟨d1, rfl, -, -, -, h1⟩ := hv1
  obtain ⟨d2, rfl, -, -, -, h2⟩ := hv2
  obtain ⟨a1, k1, rfl, -⟩ := h1.len
  obtain ⟨a2, k2, rfl, -⟩ := h2.len
  have hb : Below w.heap.size w ((w.alloc (.cells #[.int .i64 t.next, .slice a1 t.parcels.length k1, .int .i64 t.first, .int .i64 t.sent] 58)).alloc (.cells #[.int .i64 t.next, .slice a2 t.parcels.length k2, .int .i64 t.first, .int .i64 t.sent] 58)) := ((Below.refl w.heap.size w).alloc (Nat.le_refl _) _).alloc (by simp) _
  have C := sameParcels_eq _ _ t.parcels _ _ _ (h1.below hb) (h2.below hb)
  have HB := Lib.hid hb; clear hb
  clear h1 h2
  have n1 : (t.next == t.next) = true := by simp
  have n2 : (t.first == t.first) = true := by simp
  have n3 : (t.sent == t.sent) = true := by simp
  go_enter Try.func36, Try.ntmps36
  go_wp2_with fail
  refine C.mono ?_
  clear C
  rintro e w1 ⟨rfl, hb1⟩
  have HB1 := Lib.hid (HB.out.trans (hb1.mono (by simp; omega))); clear hb1
  go_wp2_with fail
  refine bodyPost_ret (v := .bool true) (by simp [results, Try.results36, go_sem]) rfl ⟨rfl, HB1.out⟩
end Go.Proofs.Ytmfifkkmbkcibaa
