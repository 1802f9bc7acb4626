/-
  The contracts of the reference's comparisons of messages and tunnels where both sides read as the same data.
-/
import Derived.Test.YtmfifkkmbkcibaaAnchQ
namespace Go.Proofs.Ytmfifkkmbkcibaa
set_option linter.unusedVariables false
open Go.RowKit

set_option maxRecDepth 100000 in
set_option maxHeartbeats 4000000 in
theorem sameMessage_eq (c1 c2 : List Value) (m : Msg) (S1 S2 : Nat → Prop) (w : World) (hv1 : msgR.rd S1 w c1 m) (hv2 : msgR.rd S2 w c2 m) :
    Calls Try.prog 27 #[.agg c1.toArray, .agg c2.toArray] w fun e w' => e = .returned (.bool true) ∧ Below w.heap.size w w' := by
  obtain ⟨d1, e1, rfl, -, -, -, -, -, h1, j1⟩ := hv1
  obtain ⟨d2, e2, rfl, -, -, -, -, -, h2, j2⟩ := hv2
  obtain ⟨a1, k1, rfl, -⟩ := h1.len
  obtain ⟨a2, k2, rfl, -⟩ := h2.len
  obtain ⟨b1, l1, rfl, hml⟩ := j1.len
  obtain ⟨b2, l2, rfl, -⟩ := j2.len
  obtain ⟨W, hW⟩ : ∃ W, W = (w.alloc (.cells #[.int .i64 m.arr, .int .i64 m.kind, .int .i64 m.terminal, .int .i64 m.bearer, .int .i64 m.number, .slice a1 m.data.length k1, .slice b1 m.tickets.length l1] 34)).alloc (.cells #[.int .i64 m.arr, .int .i64 m.kind, .int .i64 m.terminal, .int .i64 m.bearer, .int .i64 m.number, .slice a2 m.data.length k2, .slice b2 m.tickets.length l2] 34) := ⟨_, rfl⟩
  have hb : Below w.heap.size w W := by rw [hW]; exact ((Below.refl w.heap.size w).alloc (Nat.le_refl _) _).alloc (by simp) _
  have r1 : Row W w.heap.size 34 [.int .i64 m.arr, .int .i64 m.kind, .int .i64 m.terminal, .int .i64 m.bearer, .int .i64 m.number, .slice a1 m.data.length k1, .slice b1 m.tickets.length l1] := by
    rw [hW]; exact (Row.new w _ _).below ((Below.refl _ _).alloc (Nat.le_refl _) _) (by simp)
  have r2 : Row W (w.heap.size + 1) 34 [.int .i64 m.arr, .int .i64 m.kind, .int .i64 m.terminal, .int .i64 m.bearer, .int .i64 m.number, .slice a2 m.data.length k2, .slice b2 m.tickets.length l2] := by
    rw [hW]
    have := Row.new (w.alloc (.cells #[.int .i64 m.arr, .int .i64 m.kind, .int .i64 m.terminal, .int .i64 m.bearer, .int .i64 m.number, .slice a1 m.data.length k1, .slice b1 m.tickets.length l1] 34)) 34 [.int .i64 m.arr, .int .i64 m.kind, .int .i64 m.terminal, .int .i64 m.bearer, .int .i64 m.number, .slice a2 m.data.length k2, .slice b2 m.tickets.length l2]
    simpa using this
  have C := sameBytes_eq _ _ m.data _ _ _ (h1.below hb) (h2.below hb)
  have HJ1 := Lib.hid (j1.below hb); clear j1
  have HJ2 := Lib.hid (j2.below hb); clear j2
  have HB := Lib.hid hb; clear hb
  have R1 := Lib.hid r1; clear r1
  have R2 := Lib.hid r2; clear r2
  clear h1 h2
  have n1 : (m.arr != m.arr) = false := by simp
  have n2 : (m.kind != m.kind) = false := by simp
  have n3 : (m.terminal != m.terminal) = false := by simp
  have n4 : (m.bearer != m.bearer) = false := by simp
  have n5 : (m.number != m.number) = false := by simp
  have n6 : ((m.tickets.length : Int) != (m.tickets.length : Int)) = false := by simp
  go_enter Try.func27, Try.ntmps27
  go_wp2_with fail
  rw [← hW]
  clear hW
  refine C.mono ?_
  clear C
  rintro e w1 ⟨rfl, hb1⟩
  have hb2 := HB.out.trans (hb1.mono HB.out.size)
  have r1 := R1.out.below hb1 R1.out.lt
  have r2 := R2.out.below hb1 R2.out.lt
  have j1 := HJ1.out.below hb1
  have j2 := HJ2.out.below hb1
  have y1 : w1.cell? ⟨w.heap.size, 6, none⟩ = some (.slice b1 m.tickets.length l1) := r1.cell 6
  have y2 : w1.cell? ⟨w.heap.size + 1, 6, none⟩ = some (.slice b2 m.tickets.length l2) := r2.cell 6
  have HA := Lib.hid (And.intro r1 (And.intro r2 (And.intro j1 (And.intro j2 hb2))))
  clear HJ1 HJ2 HB R1 R2 r1 r2 j1 j2 hb1 hb2
  go_wp2_with fail
  clear y1 y2
  go_loopw [5] (fun i ws => ∃ k : Nat, k ≤ m.tickets.length ∧ i = .int .i64 k ∧ Below w1.heap.size w1 ws) (fun i _ => m.tickets.length - (intOf i).toNat)
  case atStart => exact ⟨0, by omega, rfl, Below.refl _ _⟩
  case round =>
    obtain ⟨k, hk, rfl, hb⟩ := hrel
    obtain ⟨r1, r2, j1, j2, hb2⟩ := HA.out
    have r1 := r1.below hb r1.lt
    have r2 := r2.below hb r2.lt
    have y1 : wr.cell? ⟨w.heap.size, 6, none⟩ = some (.slice b1 m.tickets.length l1) := r1.cell 6
    have y2 : wr.cell? ⟨w.heap.size + 1, 6, none⟩ = some (.slice b2 m.tickets.length l2) := r2.cell 6
    have j1 := j1.below hb
    have j2 := j2.below hb
    have HB := Lib.hid hb; clear hb
    by_cases hlt : k < m.tickets.length
    · obtain ⟨p1, o1, q1, rfl, -, hrd1, hcell1⟩ := j1.at k hlt
      obtain ⟨p2, o2, q2, rfl, -, hrd2, hcell2⟩ := j2.at k hlt
      clear j1 j2
      have hrd1' := hrd1
      have hrd2' := hrd2
      obtain ⟨t1, rfl, -, -, -, ht1⟩ := hrd1
      obtain ⟨t2, rfl, -, -, -, ht2⟩ := hrd2
      obtain ⟨ta1, tc1, rfl, -⟩ := ht1.len
      obtain ⟨ta2, tc2, rfl, -⟩ := ht2.len
      have x0 : wr.drew.cell? ⟨p1, o1 + k * 4, none⟩ = some (.int .i64 m.tickets[k].next) := hcell1 0 (by decide)
      have x1 : wr.drew.cell? ⟨p1, o1 + k * 4 + 1, none⟩ = some (.slice ta1 m.tickets[k].parcels.length tc1) := hcell1 1 (by decide)
      have x2 : wr.drew.cell? ⟨p1, o1 + k * 4 + 2, none⟩ = some (.int .i64 m.tickets[k].first) := hcell1 2 (by decide)
      have x3 : wr.drew.cell? ⟨p1, o1 + k * 4 + 3, none⟩ = some (.int .i64 m.tickets[k].sent) := hcell1 3 (by decide)
      have z0 : wr.drew.cell? ⟨p2, o2 + k * 4, none⟩ = some (.int .i64 m.tickets[k].next) := hcell2 0 (by decide)
      have z1 : wr.drew.cell? ⟨p2, o2 + k * 4 + 1, none⟩ = some (.slice ta2 m.tickets[k].parcels.length tc2) := hcell2 1 (by decide)
      have z2 : wr.drew.cell? ⟨p2, o2 + k * 4 + 2, none⟩ = some (.int .i64 m.tickets[k].first) := hcell2 2 (by decide)
      have z3 : wr.drew.cell? ⟨p2, o2 + k * 4 + 3, none⟩ = some (.int .i64 m.tickets[k].sent) := hcell2 3 (by decide)
      clear hcell1 hcell2 ht1 ht2
      generalize m.tickets[k] = t at *
      have u1 : wr.drew.cell? ⟨w.heap.size, 6, none⟩ = some (.slice (some ⟨p1, o1, none⟩) m.tickets.length l1) := y1
      have u2 : wr.drew.cell? ⟨w.heap.size + 1, 6, none⟩ = some (.slice (some ⟨p2, o2, none⟩) m.tickets.length l2) := y2
      have hl1 := World.block_lt_of_cell? _ _ x0
      have hl2 := World.block_lt_of_cell? _ _ z0
      have hl3 := World.block_lt_of_cell? _ _ u1
      have hl4 := World.block_lt_of_cell? _ _ u2
      have C := sameTicket_eq _ _ t _ _ wr.drew (ticketR.kept hrd1' (fun _ _ _ => rfl)) (ticketR.kept hrd2' (fun _ _ _ => rfl))
      clear hrd1' hrd2'
      clear r1 r2
      go_upto_region 6 with (fail)
      clear y1 y2
      go_region_held3 (fun w' => w'.cell? ⟨p1, o1 + k * 4, none⟩ = some (.int .i64 t.next) ∧ w'.cell? ⟨p1, o1 + k * 4 + 1, none⟩ = some (.slice ta1 t.parcels.length tc1) ∧ w'.cell? ⟨p1, o1 + k * 4 + 2, none⟩ = some (.int .i64 t.first) ∧ w'.cell? ⟨p1, o1 + k * 4 + 3, none⟩ = some (.int .i64 t.sent) ∧ w'.cell? ⟨p2, o2 + k * 4, none⟩ = some (.int .i64 t.next) ∧ w'.cell? ⟨p2, o2 + k * 4 + 1, none⟩ = some (.slice ta2 t.parcels.length tc2) ∧ w'.cell? ⟨p2, o2 + k * 4 + 2, none⟩ = some (.int .i64 t.first) ∧ w'.cell? ⟨p2, o2 + k * 4 + 3, none⟩ = some (.int .i64 t.sent) ∧ w'.cell? ⟨w.heap.size, 6, none⟩ = some (.slice (some ⟨p1, o1, none⟩) m.tickets.length l1) ∧ w'.cell? ⟨w.heap.size + 1, 6, none⟩ = some (.slice (some ⟨p2, o2, none⟩) m.tickets.length l2))
        (first | with_reducible exact ⟨x0, x1, x2, x3, z0, z1, z2, z3, u1, u2⟩ | exact ⟨(hb4.cell (p := ⟨p1, _, none⟩) hl1).trans x0, (hb4.cell (p := ⟨p1, _, none⟩) hl1).trans x1, (hb4.cell (p := ⟨p1, _, none⟩) hl1).trans x2, (hb4.cell (p := ⟨p1, _, none⟩) hl1).trans x3, (hb4.cell (p := ⟨p2, _, none⟩) hl2).trans z0, (hb4.cell (p := ⟨p2, _, none⟩) hl2).trans z1, (hb4.cell (p := ⟨p2, _, none⟩) hl2).trans z2, (hb4.cell (p := ⟨p2, _, none⟩) hl2).trans z3, (hb4.cell (p := ⟨w.heap.size, _, none⟩) hl3).trans u1, (hb4.cell (p := ⟨w.heap.size + 1, _, none⟩) hl4).trans u2⟩)
        (first | (go_at_call 36; refine C.mono ?_; rintro e w4 ⟨rfl, hb4⟩))
      have HB4 := Lib.hid (HB.out.drew.trans (hb4.mono HB.out.drew.size)); clear hb4
      go_wp2_with fail
      go_roundw
      case rel => exact ⟨k + 1, by omega, by go_num, HB4.out⟩
      case measure => simp [intOf]; omega
    · clear r1 r2 j1 j2
      have HB2 := Lib.hid (hb2.trans (HB.out.mono hb2.size)); clear hb2
      go_wp2_with fail
      refine bodyPost_ret (v := .bool true) (by simp [results, Try.results27, go_sem]) rfl ⟨rfl, HB2.out⟩

set_option maxRecDepth 100000 in
set_option maxHeartbeats 4000000 in
theorem sameMessages_eq (v1 v2 : Value) (xs : List Msg) (S1 S2 : Nat → Prop) (w : World) (hv1 : Sl msgR S1 w v1 xs) (hv2 : Sl msgR S2 w v2 xs) :
    Calls Try.prog 13 #[v1, v2] w fun e w' => e = .returned (.bool true) ∧ Below w.heap.size w w' := by
  obtain ⟨a1, c1, rfl, hm1⟩ := hv1.len
  obtain ⟨a2, c2, rfl, hm2⟩ := hv2.len
  have HV1 := Lib.hid hv1; clear hv1
  have HV2 := Lib.hid hv2; clear hv2
  have hlb : ((xs.length : Int) != (xs.length : Int)) = false := by simp
  go_enter Try.func13, Try.ntmps13
  go_wp2_with fail
  go_loopw [5] (fun i ws => ∃ k : Nat, k ≤ xs.length ∧ i = .int .i64 k ∧ Below w.heap.size w ws) (fun i _ => xs.length - (intOf i).toNat)
  case atStart => exact ⟨0, by omega, rfl, Below.refl _ _⟩
  case round =>
    obtain ⟨k, hk, rfl, hb⟩ := hrel
    have HB := Lib.hid hb; clear hb
    by_cases hlt : k < xs.length
    · obtain ⟨p1, o1, q1, rfl, -, hrd1, hcell1⟩ := (HV1.out.below HB.out).at k hlt
      obtain ⟨p2, o2, q2, rfl, -, hrd2, hcell2⟩ := (HV2.out.below HB.out).at k hlt
      have C := sameMessage_eq _ _ xs[k] _ _ wr.drew (msgR.kept hrd1 (fun _ _ _ => rfl)) (msgR.kept hrd2 (fun _ _ _ => rfl))
      obtain ⟨d1, t1, rfl, -, -, -, -, -, hd1, ht1⟩ := hrd1
      obtain ⟨d2, t2, rfl, -, -, -, -, -, hd2, ht2⟩ := hrd2
      obtain ⟨da1, dc1, rfl, -⟩ := hd1.len
      obtain ⟨da2, dc2, rfl, -⟩ := hd2.len
      obtain ⟨ta1, tc1, rfl, -⟩ := ht1.len
      obtain ⟨ta2, tc2, rfl, -⟩ := ht2.len
      have x0 : wr.drew.cell? ⟨p1, o1 + k * 7, none⟩ = some (.int .i64 xs[k].arr) := hcell1 0 (by decide)
      have x1 : wr.drew.cell? ⟨p1, o1 + k * 7 + 1, none⟩ = some (.int .i64 xs[k].kind) := hcell1 1 (by decide)
      have x2 : wr.drew.cell? ⟨p1, o1 + k * 7 + 2, none⟩ = some (.int .i64 xs[k].terminal) := hcell1 2 (by decide)
      have x3 : wr.drew.cell? ⟨p1, o1 + k * 7 + 3, none⟩ = some (.int .i64 xs[k].bearer) := hcell1 3 (by decide)
      have x4 : wr.drew.cell? ⟨p1, o1 + k * 7 + 4, none⟩ = some (.int .i64 xs[k].number) := hcell1 4 (by decide)
      have x5 : wr.drew.cell? ⟨p1, o1 + k * 7 + 5, none⟩ = some (.slice da1 xs[k].data.length dc1) := hcell1 5 (by decide)
      have x6 : wr.drew.cell? ⟨p1, o1 + k * 7 + 6, none⟩ = some (.slice ta1 xs[k].tickets.length tc1) := hcell1 6 (by decide)
      have z0 : wr.drew.cell? ⟨p2, o2 + k * 7, none⟩ = some (.int .i64 xs[k].arr) := hcell2 0 (by decide)
      have z1 : wr.drew.cell? ⟨p2, o2 + k * 7 + 1, none⟩ = some (.int .i64 xs[k].kind) := hcell2 1 (by decide)
      have z2 : wr.drew.cell? ⟨p2, o2 + k * 7 + 2, none⟩ = some (.int .i64 xs[k].terminal) := hcell2 2 (by decide)
      have z3 : wr.drew.cell? ⟨p2, o2 + k * 7 + 3, none⟩ = some (.int .i64 xs[k].bearer) := hcell2 3 (by decide)
      have z4 : wr.drew.cell? ⟨p2, o2 + k * 7 + 4, none⟩ = some (.int .i64 xs[k].number) := hcell2 4 (by decide)
      have z5 : wr.drew.cell? ⟨p2, o2 + k * 7 + 5, none⟩ = some (.slice da2 xs[k].data.length dc2) := hcell2 5 (by decide)
      have z6 : wr.drew.cell? ⟨p2, o2 + k * 7 + 6, none⟩ = some (.slice ta2 xs[k].tickets.length tc2) := hcell2 6 (by decide)
      clear hcell1 hcell2 hd1 hd2 ht1 ht2
      generalize xs[k] = x at *
      have hl1 := World.block_lt_of_cell? _ _ x0
      have hl2 := World.block_lt_of_cell? _ _ z0
      go_upto_region 6 with (fail)
      go_region_held3 (fun w' => w'.cell? ⟨p1, o1 + k * 7, none⟩ = some (.int .i64 x.arr) ∧ w'.cell? ⟨p1, o1 + k * 7 + 1, none⟩ = some (.int .i64 x.kind) ∧ w'.cell? ⟨p1, o1 + k * 7 + 2, none⟩ = some (.int .i64 x.terminal) ∧ w'.cell? ⟨p1, o1 + k * 7 + 3, none⟩ = some (.int .i64 x.bearer) ∧ w'.cell? ⟨p1, o1 + k * 7 + 4, none⟩ = some (.int .i64 x.number) ∧ w'.cell? ⟨p1, o1 + k * 7 + 5, none⟩ = some (.slice da1 x.data.length dc1) ∧ w'.cell? ⟨p1, o1 + k * 7 + 6, none⟩ = some (.slice ta1 x.tickets.length tc1)
          ∧ w'.cell? ⟨p2, o2 + k * 7, none⟩ = some (.int .i64 x.arr) ∧ w'.cell? ⟨p2, o2 + k * 7 + 1, none⟩ = some (.int .i64 x.kind) ∧ w'.cell? ⟨p2, o2 + k * 7 + 2, none⟩ = some (.int .i64 x.terminal) ∧ w'.cell? ⟨p2, o2 + k * 7 + 3, none⟩ = some (.int .i64 x.bearer) ∧ w'.cell? ⟨p2, o2 + k * 7 + 4, none⟩ = some (.int .i64 x.number) ∧ w'.cell? ⟨p2, o2 + k * 7 + 5, none⟩ = some (.slice da2 x.data.length dc2) ∧ w'.cell? ⟨p2, o2 + k * 7 + 6, none⟩ = some (.slice ta2 x.tickets.length tc2))
        (first | with_reducible exact ⟨x0, x1, x2, x3, x4, x5, x6, z0, z1, z2, z3, z4, z5, z6⟩ | exact ⟨(hb4.cell (p := ⟨p1, _, none⟩) hl1).trans x0, (hb4.cell (p := ⟨p1, _, none⟩) hl1).trans x1, (hb4.cell (p := ⟨p1, _, none⟩) hl1).trans x2, (hb4.cell (p := ⟨p1, _, none⟩) hl1).trans x3, (hb4.cell (p := ⟨p1, _, none⟩) hl1).trans x4, (hb4.cell (p := ⟨p1, _, none⟩) hl1).trans x5, (hb4.cell (p := ⟨p1, _, none⟩) hl1).trans x6, (hb4.cell (p := ⟨p2, _, none⟩) hl2).trans z0, (hb4.cell (p := ⟨p2, _, none⟩) hl2).trans z1, (hb4.cell (p := ⟨p2, _, none⟩) hl2).trans z2, (hb4.cell (p := ⟨p2, _, none⟩) hl2).trans z3, (hb4.cell (p := ⟨p2, _, none⟩) hl2).trans z4, (hb4.cell (p := ⟨p2, _, none⟩) hl2).trans z5, (hb4.cell (p := ⟨p2, _, none⟩) hl2).trans z6⟩)
        (first | (go_at_call 27; refine C.mono ?_; rintro e w4 ⟨rfl, hb4⟩))
      have HB4 := Lib.hid (HB.out.drew.trans (hb4.mono HB.out.drew.size)); clear hb4
      go_wp2_with fail
      go_roundw
      case rel => exact ⟨k + 1, by omega, by go_num, HB4.out⟩
      case measure => simp [intOf]; omega
    · go_wp2_with fail
      refine bodyPost_ret (v := .bool true) (by simp [results, Try.results13, go_sem]) rfl ⟨rfl, HB.out⟩

set_option maxRecDepth 100000 in
set_option maxHeartbeats 2000000 in
theorem same_eq (d : Int) (v1 v2 : Value) (xs : List Msg) (S1 S2 : Nat → Prop) (w : World) (h1 : Sl msgR S1 w v1 xs) (h2 : Sl msgR S2 w v2 xs) :
    Calls Try.prog 12 #[.agg #[.int .i64 d, v1], .agg #[.int .i64 d, v2]] w fun e w' => e = .returned (.bool true) ∧ Below w.heap.size w w' := by
  obtain ⟨a1, c1, rfl, hm1⟩ := h1.len
  obtain ⟨a2, c2, rfl, hm2⟩ := h2.len
  have hb : Below w.heap.size w ((w.alloc (.cells #[.int .i64 d, .slice a1 xs.length c1] 27)).alloc (.cells #[.int .i64 d, .slice a2 xs.length c2] 27)) := ((Below.refl w.heap.size w).alloc (Nat.le_refl _) _).alloc (by simp) _
  have C := sameMessages_eq _ _ xs _ _ _ (h1.below hb) (h2.below hb)
  have HB := Lib.hid hb; clear hb
  clear h1 h2
  have n1 : (d == d) = true := by simp
  go_enter Try.func12, Try.ntmps12
  go_wp2_with fail
  refine C.mono ?_
  clear C
  rintro e w1 ⟨rfl, hb1⟩
  have HB1 := Lib.hid (HB.out.trans (hb1.mono (by simp; omega))); clear hb1
  go_wp2_with fail
  refine bodyPost_ret (v := .bool true) (by simp [results, Try.results12, go_sem]) rfl ⟨rfl, HB1.out⟩
end Go.Proofs.Ytmfifkkmbkcibaa
