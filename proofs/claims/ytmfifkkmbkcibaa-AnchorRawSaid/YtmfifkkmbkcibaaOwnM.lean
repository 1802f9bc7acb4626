/-
  The contracts of own.Message and own.Tunnel.
-/
import Derived.Test.YtmfifkkmbkcibaaOwnP
import Derived.Deep.RegionWith
namespace Go.Proofs.Ytmfifkkmbkcibaa
set_option linter.unusedVariables false
open Go.RowKit

/-- What a message's parts must not be longer than. -/
def Msg.fits (m : Msg) : Prop := m.data.length ≤ 140737488355328 ∧ m.tickets.length * 48 ≤ 140737488355328 ∧ ∀ t ∈ m.tickets, t.parcels.length * 32 ≤ 140737488355328 ∧ ∀ p ∈ t.parcels, p.data.length ≤ 140737488355328

set_option maxRecDepth 100000 in
set_option maxHeartbeats 2000000 in
theorem message_any (m : Msg) (c : List Value) (S : Nat → Prop) (w : World) (hrd : msgR.rd S w c m) (hf : m.fits) :
    Calls Try.prog 26 #[.agg c.toArray] w fun e w' => ∃ c', e = .returned (.agg c'.toArray) ∧ msgR.rd (orNew S w.heap.size) w' c' m ∧ Below w.heap.size w w' := by
  obtain ⟨d, t, rfl, h1, h2, h3, h4, h5, hd, ht⟩ := hrd
  obtain ⟨da, dcap, rfl, -⟩ := hd.len
  obtain ⟨ta, tcap, rfl, -⟩ := ht.len
  have hd := hd.lt (S' := fun b => S b ∧ b < w.heap.size) (by decide) (fun b hb hlt => ⟨hb, hlt⟩)
  have ht := ht.lt (S' := fun b => S b ∧ b < w.heap.size) (by decide) (fun b hb hlt => ⟨hb, hlt⟩)
  obtain ⟨W, hW⟩ : ∃ W, W = (w.alloc (.cells #[.int .i64 m.arr, .int .i64 m.kind, .int .i64 m.terminal, .int .i64 m.bearer, .int .i64 m.number, .slice da m.data.length dcap, .slice ta m.tickets.length tcap] 34)).alloc (.cells #[.int .i64 0, .int .i64 0, .int .i64 0, .int .i64 0, .int .i64 0, .slice none 0 0, .slice none 0 0] 34) := ⟨_, rfl⟩
  have hbW : Below w.heap.size w W := by rw [hW]; exact ((Below.refl w.heap.size w).alloc (Nat.le_refl _) _).alloc (by simp) _
  have hsW : W.heap.size = w.heap.size + 2 := by rw [hW]; simp
  have r0 : Row W w.heap.size 34 [.int .i64 m.arr, .int .i64 m.kind, .int .i64 m.terminal, .int .i64 m.bearer, .int .i64 m.number, .slice da m.data.length dcap, .slice ta m.tickets.length tcap] := by
    rw [hW]; exact (Row.new w _ _).below ((Below.refl _ _).alloc (Nat.le_refl _) _) (by simp)
  have r1 : Row W (w.heap.size + 1) 34 [.int .i64 0, .int .i64 0, .int .i64 0, .int .i64 0, .int .i64 0, .slice none 0 0, .slice none 0 0] := by
    rw [hW]
    have := Row.new (w.alloc (.cells #[.int .i64 m.arr, .int .i64 m.kind, .int .i64 m.terminal, .int .i64 m.bearer, .int .i64 m.number, .slice da m.data.length dcap, .slice ta m.tickets.length tcap] 34)) 34 [.int .i64 0, .int .i64 0, .int .i64 0, .int .i64 0, .int .i64 0, .slice none 0 0, .slice none 0 0]
    simpa using this
  have hf1 : m.data.length * 1 ≤ 140737488355328 := by have := hf.1; omega
  have hf2 := hf.2.1
  have HD := Lib.hid (hd.below hbW); clear hd
  have HT := Lib.hid (ht.below hbW); clear ht
  go_enter Try.func26, Try.ntmps26
  go_wp2_with fail
  rw [← hW]
  clear hW
  have HBW := Lib.hid hbW; clear hbW
  have HSW := Lib.hid hsW; clear hsW
  have a5 := r0.cell 5; have a6 := r0.cell 6
  have f0 := r0.frz
  simp at a5 a6
  have R0 := Lib.hid r0; clear r0
  have R1 := Lib.hid r1; clear r1
  go_cut [] (fun wx => ∃ dv tv, Row wx w.heap.size 34 [.int .i64 m.arr, .int .i64 m.kind, .int .i64 m.terminal, .int .i64 m.bearer, .int .i64 m.number, dv, tv] ∧ Row wx (w.heap.size + 1) 34 [.int .i64 0, .int .i64 0, .int .i64 0, .int .i64 0, .int .i64 0, .slice none 0 0, .slice none 0 0] ∧ Own byteR (fun _ => False) (w.heap.size + 2) 5 wx dv m.data ∧ Own ticketR (fun b => S b ∧ b < w.heap.size) (w.heap.size + 2) 58 wx tv m.tickets ∧ Below w.heap.size w wx ∧ (∀ g, tv.ownBlock = some g → dv.ownBlock ≠ some g))
  case first =>
    go_region_with (first
      | (go_at_call 32; refine (cloneB_any _ _ m.data _ HD.out.drew hf1).mono ?_; rintro e w1 ⟨dv, rfl, hown1, hb1⟩; obtain ⟨va, vcap, rfl⟩ := hown1.len; have rr1 := R0.out.drew.below hb1 R0.out.lt; have q6 : w1.cell? ⟨w.heap.size, 6, none⟩ = some (.slice ta m.tickets.length tcap) := rr1.cell 6)
      | (go_at_call 33; refine (cloneT_any _ _ m.tickets _ (HT.out.drew.below hb1) hf2).mono ?_; rintro e w2 ⟨tv, rfl, hown2, hb2⟩; obtain ⟨vb, vbcap, rfl⟩ := hown2.len; have rr2 := rr1.below hb2 rr1.lt; have s5 : w2.cell? ⟨w.heap.size, 5, none⟩ = some (.slice da m.data.length dcap) := rr2.cell 5; have s6 : w2.cell? ⟨w.heap.size, 6, none⟩ = some (.slice ta m.tickets.length tcap) := rr2.cell 6; have sf := rr2.frz))
    all_goals
      go_wp2_with fail
      go_meet
      case rel =>
        have e0 : W.drew.heap.size = w.heap.size + 2 := HSW.out
        have e1 : w.heap.size + 2 ≤ w1.heap.size := by have := hb1.size; omega
        have k1 := ((hown1.below hb2).bytes (S' := fun _ => False)).base (base' := w.heap.size + 2) (by omega)
        have k2 := (own_mono (S' := fun b => S b ∧ b < w.heap.size) hown2 (fun b hb _ => hb.1)).base (base' := w.heap.size + 2) e1
        refine ⟨_, _, (rr2.set 5 (.slice va m.data.length vcap)).set 6 (.slice vb m.tickets.length vbcap), (((R1.out.drew.below hb1 R1.out.lt).below hb2 (by have := R1.out.lt; have := hb1.size; simp at this; omega)).setOther _ (by omega)).setOther _ (by omega), ?_, ?_, ?_, ?_⟩
        · exact (k1.setOther _ (k1.apart (by omega)) (by simp)).setOther _ (k1.apart (by omega)) (by simp)
        · exact (k2.setOther _ (k2.apart (by omega)) (by simp)).setOther _ (k2.apart (by omega)) (by simp)
        · exact (((HBW.out.drew.trans (hb1.mono (by omega))).trans (hb2.mono (by omega))).setCell (by simp) _).setCell (by simp) _
        · intro g hg hx; have h6 := (hown1.lt g hx).2; have h7 := (hown2.lt g hg).1; omega
  case rest =>
    obtain ⟨dv, tv, q0, q1, k1, k2, hbx, hne⟩ := hcut
    clear R0 R1 HD HT a5 a6 f0 HBW
    obtain ⟨va, vcap, rfl⟩ := k1.len
    obtain ⟨vb, vbcap, rfl⟩ := k2.len
    have a6 := q0.cell 6
    simp at a6
    have Q0 := Lib.hid q0; clear q0
    have Q1 := Lib.hid q1; clear q1
    have K1 := Lib.hid k1; clear k1
    have K2 := Lib.hid k2; clear k2
    have HB := Lib.hid hbx; clear hbx
    have HNE := Lib.hid hne; clear hne
    go_wp2_with fail
    go_loopw [16] (fun i wr => ∃ k : Nat, k ≤ m.tickets.length ∧ i = .int .i64 k ∧ Row wr w.heap.size 34 [.int .i64 m.arr, .int .i64 m.kind, .int .i64 m.terminal, .int .i64 m.bearer, .int .i64 m.number, .slice va m.data.length vcap, .slice vb m.tickets.length vbcap] ∧ Row wr (w.heap.size + 1) 34 [.int .i64 0, .int .i64 0, .int .i64 0, .int .i64 0, .int .i64 0, .slice none 0 0, .slice none 0 0] ∧ Own byteR (fun _ => False) (w.heap.size + 2) 5 wr (.slice va m.data.length vcap) m.data ∧ Own ticketR (fun b => (S b ∧ b < w.heap.size) ∨ w.heap.size + 2 ≤ b) (w.heap.size + 2) 58 wr (.slice vb m.tickets.length vbcap) m.tickets ∧ Below w.heap.size w wr) (fun i _ => m.tickets.length - (intOf i).toNat)
    case atStart => exact ⟨0, by omega, rfl, Q0.out, Q1.out, K1.out, own_mono K2.out (fun b hb _ => .inl hb), HB.out⟩
    case round =>
      obtain ⟨k, hk, rfl, q0, q1, k1, k2, hbx⟩ := hrel
      clear a6 Q0 Q1 K1 K2 HB
      by_cases hlt : k < m.tickets.length
      · obtain ⟨g, c, hg, hgb, hgw, hrd, hcell, hfz⟩ := k2.at k hlt
        subst hg
        obtain ⟨pd, rfl, p1, p2, p3, p4⟩ := hrd
        obtain ⟨pa, pcap, rfl, -⟩ := p4.len
        have x0 : wr.cell? ⟨g, k * 4, none⟩ = some (.int .i64 m.tickets[k].next) := hcell 0 (by decide)
        have x1 : wr.cell? ⟨g, k * 4 + 1, none⟩ = some (.slice pa m.tickets[k].parcels.length pcap) := hcell 1 (by decide)
        have x2 : wr.cell? ⟨g, k * 4 + 2, none⟩ = some (.int .i64 m.tickets[k].first) := hcell 2 (by decide)
        have x3 : wr.cell? ⟨g, k * 4 + 3, none⟩ = some (.int .i64 m.tickets[k].sent) := hcell 3 (by decide)
        have a6 := q0.cell 6
        simp at a6
        have hft := hf.2.2 m.tickets[k] (List.getElem_mem _)
        generalize htk : m.tickets[k] = tk at *
        have HTK := Lib.hid htk; clear htk
        have hal := (Below.refl wr.heap.size wr).alloc (Nat.le_refl _) (.cells #[.int .i64 tk.next, .slice pa tk.parcels.length pcap, .int .i64 tk.first, .int .i64 tk.sent] 58)
        have rt := Row.new wr 58 [.int .i64 tk.next, .slice pa tk.parcels.length pcap, .int .i64 tk.first, .int .i64 tk.sent]
        have q0 := q0.below hal q0.lt
        have q1 := q1.below hal q1.lt
        have k1 := k1.below hal
        have k2 := k2.below hal
        have hbx := hbx.trans (hal.mono hbx.size)
        have p4 := p4.below hal
        have hgw2 : g < wr.heap.size := hgw
        have hw0 : w.heap.size + 1 < wr.heap.size := by have := q1.lt; have := k2.lt g rfl; omega
        clear hcell hfz
        go_wp2_with fail
        have hW1s : (wr.alloc (.cells #[.int .i64 tk.next, .slice pa tk.parcels.length pcap, .int .i64 tk.first, .int .i64 tk.sent] 58)).heap.size = wr.heap.size + 1 := by simp
        generalize wr.alloc _ = W1 at *
        generalize hn : wr.heap.size = n at *
        clear x0 x1 x2 x3 hal
        have x6 : W1.cell? ⟨w.heap.size, 6, none⟩ = some (.slice (some ⟨g, 0, none⟩) m.tickets.length vbcap) := q0.cell 6
        have t0 : W1.cell? ⟨n, 0, none⟩ = some (.int .i64 tk.next) := rt.cell 0
        have t1 : W1.cell? ⟨n, 1, none⟩ = some (.slice pa tk.parcels.length pcap) := rt.cell 1
        have t2 : W1.cell? ⟨n, 2, none⟩ = some (.int .i64 tk.first) := rt.cell 2
        have t3 : W1.cell? ⟨n, 3, none⟩ = some (.int .i64 tk.sent) := rt.cell 3
        obtain ⟨g5, c5, h51, -, h53, h52, h54, ef⟩ := k2.at k hlt
        obtain ⟨d5, rfl, -⟩ := h52
        have h56 : g5 = g := by
          injection h51 with h57
          injection h57 with h58
          exact h58.symm
        subst h56
        have e0 : W1.cell? ⟨g5, k * 4, none⟩ = some (.int .i64 m.tickets[k].next) := h54 0 (by decide)
        have e1 : W1.cell? ⟨g5, k * 4 + 1, none⟩ = some d5 := h54 1 (by decide)
        have e2 : W1.cell? ⟨g5, k * 4 + 2, none⟩ = some (.int .i64 m.tickets[k].first) := h54 2 (by decide)
        have e3 : W1.cell? ⟨g5, k * 4 + 3, none⟩ = some (.int .i64 m.tickets[k].sent) := h54 3 (by decide)
        have hgl : g5 < W1.drew.heap.size := h53
        have n6 : w.heap.size ≠ g5 := by omega
        have nt : n ≠ g5 := by omega
        have n7 : w.heap.size + 1 ≠ g5 := by omega
        clear h54 h51
        have Q0 := Lib.hid q0; clear q0
        have Q1 := Lib.hid q1; clear q1
        have K1 := Lib.hid k1; clear k1
        have K2 := Lib.hid k2; clear k2
        have HB := Lib.hid hbx; clear hbx
        have RT := Lib.hid rt; clear rt
        have P4 := Lib.hid p4; clear p4
        have HN := Lib.hid hn; clear hn
        have HF := Lib.hid hft; clear hft
        have P123 := Lib.hid (And.intro p1 (And.intro p2 p3)); clear p1 p2 p3
        go_region_held3 (fun w' => w'.cell? ⟨w.heap.size, 6, none⟩ = some (.slice (some ⟨g5, 0, none⟩) m.tickets.length vbcap) ∧ w'.cell? ⟨n, 0, none⟩ = some (.int .i64 tk.next) ∧ w'.cell? ⟨n, 1, none⟩ = some (.slice pa tk.parcels.length pcap) ∧ w'.cell? ⟨n, 2, none⟩ = some (.int .i64 tk.first) ∧ w'.cell? ⟨n, 3, none⟩ = some (.int .i64 tk.sent))
          (first | exact ⟨x6, t0, t1, t2, t3⟩ | exact ⟨y6, u0, u1, u2, u3⟩ | exact ⟨((((q3.setOther _ n6).setOther _ n6).setOther _ n6).setOther _ n6).cell 6, ((((rt3.setOther _ nt).setOther _ nt).setOther _ nt).setOther _ nt).cell 0, ((((rt3.setOther _ nt).setOther _ nt).setOther _ nt).setOther _ nt).cell 1, ((((rt3.setOther _ nt).setOther _ nt).setOther _ nt).setOther _ nt).cell 2, ((((rt3.setOther _ nt).setOther _ nt).setOther _ nt).setOther _ nt).cell 3⟩)
          (first | (go_at_call 34; refine (ticket_any tk [.int .i64 tk.next, .slice pa tk.parcels.length pcap, .int .i64 tk.first, .int .i64 tk.sent] _ _ ⟨_, rfl, P123.out.1, P123.out.2.1, P123.out.2.2, P4.out.drew⟩ HF.out.1 HF.out.2).mono ?_; rintro e w3 ⟨c3, rfl, ⟨d3, rfl, -, -, -, hd3⟩, hb3⟩; obtain ⟨ea, ecap, rfl, -⟩ := hd3.len; have q3 := Q0.out.drew.below hb3 Q0.out.lt; have y6 : w3.cell? ⟨w.heap.size, 6, none⟩ = some (.slice (some ⟨g5, 0, none⟩) m.tickets.length vbcap) := q3.cell 6; have rt3 := RT.out.drew.below hb3 RT.out.lt; have u0 : w3.cell? ⟨n, 0, none⟩ = some (.int .i64 tk.next) := rt3.cell 0; have u1 : w3.cell? ⟨n, 1, none⟩ = some (.slice pa tk.parcels.length pcap) := rt3.cell 1; have u2 : w3.cell? ⟨n, 2, none⟩ = some (.int .i64 tk.first) := rt3.cell 2; have u3 : w3.cell? ⟨n, 3, none⟩ = some (.int .i64 tk.sent) := rt3.cell 3; have o0 := (hb3.cell (p := ⟨g5, k * 4, none⟩) hgl).trans e0; have o1 := (hb3.cell (p := ⟨g5, k * 4 + 1, none⟩) hgl).trans e1; have o2 := (hb3.cell (p := ⟨g5, k * 4 + 2, none⟩) hgl).trans e2; have o3 := (hb3.cell (p := ⟨g5, k * 4 + 3, none⟩) hgl).trans e3; have of : ∀ j, w3.frozen? ⟨g5, j, none⟩ = false := fun j => (hb3.frozen (p := ⟨g5, j, none⟩) hgl).trans (ef j)))
        clear x6 t0 t1 t2 t3 e0 e1 e2 e3 ef o0 o1 o2 o3 of y6 u0 u1 u2 u3
        have HB3 := Lib.hid hb3; clear hb3
        have HD3 := Lib.hid hd3; clear hd3
        have Q3 := Lib.hid q3; clear q3 rt3
        go_wp2_with fail
        go_roundw
        case rel =>
          have hb3 := HB3.out
          have k2 := K2.out.drew.below hb3
          have k1 := K1.out.drew.below hb3
          have hsz : n + 1 ≤ w3.heap.size := by have := hb3.size; simp at this; omega
          refine ⟨k + 1, by omega, by go_num, (((Q3.out.setOther _ n6).setOther _ n6).setOther _ n6).setOther _ n6, ((((Q1.out.drew.below hb3 Q1.out.lt).setOther _ n7).setOther _ n7).setOther _ n7).setOther _ n7, ?_, ?_, ?_⟩
          · have hn5 := HNE.out g5 rfl
            exact (((k1.setOther _ hn5 (by simp)).setOther _ hn5 (by simp)).setOther _ hn5 (by simp)).setOther _ hn5 (by simp)
          · have h9 : m.tickets.set k tk = m.tickets := by rw [← HTK.out, List.set_getElem_self]
            have h6 := Own.put (w' := (((w3.setCell ⟨g5, k * 4, none⟩ (.int .i64 tk.next)).setCell ⟨g5, k * 4 + 1, none⟩ (.slice ea tk.parcels.length ecap)).setCell ⟨g5, k * 4 + 2, none⟩ (.int .i64 tk.first)).setCell ⟨g5, k * 4 + 3, none⟩ (.int .i64 tk.sent)) k2 k hlt (c := [.int .i64 tk.next, .slice ea tk.parcels.length ecap, .int .i64 tk.first, .int .i64 tk.sent]) (x := tk) ?_ ?_ ?_
            · rw [h9] at h6; exact h6
            · intro cs hcs hr
              have h7 := ((((hcs.stored (k * 4) (.int .i64 tk.next)).1.stored (k * 4 + 1) (.slice ea tk.parcels.length ecap)).1.stored (k * 4 + 2) (.int .i64 tk.first)).1.stored (k * 4 + 3) (.int .i64 tk.sent)).1
              have hcl := hr.len
              have h12 : _ = chunk cs (k * ticketR.n) [.int .i64 tk.next, .slice ea tk.parcels.length ecap, .int .i64 tk.first, .int .i64 tk.sent] := chunk4 cs (k * 4) (.int .i64 tk.next) (.slice ea tk.parcels.length ecap) (.int .i64 tk.first) (.int .i64 tk.sent) (by rw [hcl]; show k * 4 + 4 ≤ m.tickets.length * 4; omega)
              rw [← h12]
              exact h7
            · intro b' hb' _
              rw [Below.heap_setCell _ _ _ _ hb', Below.heap_setCell _ _ _ _ hb', Below.heap_setCell _ _ _ _ hb', Below.heap_setCell _ _ _ _ hb']
            · refine ⟨_, rfl, P123.out.1, P123.out.2.1, P123.out.2.2, ?_⟩
              have h8 := HD3.out.lt (S' := fun b => ((S b ∧ b < w.heap.size) ∨ w.heap.size + 2 ≤ b) ∧ b ≠ g5) (by decide) (fun b hb _ => ?_)
              · exact h8.kept (fun b' hb' _ => by rw [Below.heap_setCell _ _ _ _ hb'.2, Below.heap_setCell _ _ _ _ hb'.2, Below.heap_setCell _ _ _ _ hb'.2, Below.heap_setCell _ _ _ _ hb'.2])
              · rcases hb with hb | hb
                · exact hb
                · simp at hb; exact ⟨.inr (by omega), by omega⟩
          · exact (((((HB.out.drew.trans (hb3.mono (by simp; omega))).setCell (by simp; omega) _).setCell (by simp; omega) _).setCell (by simp; omega) _).setCell (by simp; omega) _)
        case measure => simp [intOf]; omega
      · have a0 := q0.cell 0; have a1 := q0.cell 1; have a2 := q0.cell 2; have a3 := q0.cell 3; have a4 := q0.cell 4; have a5 := q0.cell 5; have a6 := q0.cell 6
        have b0 := q1.cell 0; have b1 := q1.cell 1; have b2 := q1.cell 2; have b3 := q1.cell 3; have b4 := q1.cell 4; have b5 := q1.cell 5; have b6 := q1.cell 6
        have fb := q1.frz
        simp at a0 a1 a2 a3 a4 a5 a6 b0 b1 b2 b3 b4 b5 b6
        have Q0 := Lib.hid q0; clear q0
        have Q1 := Lib.hid q1; clear q1
        have K1 := Lib.hid k1; clear k1
        have K2 := Lib.hid k2; clear k2
        have HB := Lib.hid hbx; clear hbx
        go_wp2_with fail
        refine bodyPost_ret (v := .agg #[.int .i64 m.arr, .int .i64 m.kind, .int .i64 m.terminal, .int .i64 m.bearer, .int .i64 m.number, .slice va m.data.length vcap, .slice vb m.tickets.length vbcap]) (by simp [results, Try.results26, go_sem, b0, b1, b2, b3, b4, b5, b6]) rfl ⟨[.int .i64 m.arr, .int .i64 m.kind, .int .i64 m.terminal, .int .i64 m.bearer, .int .i64 m.number, .slice va m.data.length vcap, .slice vb m.tickets.length vbcap], rfl, ⟨_, _, rfl, h1, h2, h3, h4, h5, ?_, ?_⟩, ?_⟩
        · have h8 := K1.out.sl (S' := fun b => (S b ∧ b < w.heap.size) ∨ w.heap.size + 2 ≤ b) (fun b hb => .inr hb) (fun b hb => hb.elim)
          refine (h8.kept (fun b hb _ => ?_)).lt (by decide) (fun b hb _ => ?_)
          · have n1 : b ≠ w.heap.size + 1 := by rcases hb with hb | hb <;> omega
            rw [Below.heap_setCell _ _ _ _ n1, Below.heap_setCell _ _ _ _ n1, Below.heap_setCell _ _ _ _ n1, Below.heap_setCell _ _ _ _ n1, Below.heap_setCell _ _ _ _ n1, Below.heap_setCell _ _ _ _ n1, Below.heap_setCell _ _ _ _ n1]
          · rcases hb with hb | hb
            · exact .inl hb.1
            · exact .inr (by omega)
        · have h8 := K2.out.sl (S' := fun b => (S b ∧ b < w.heap.size) ∨ w.heap.size + 2 ≤ b) (fun b hb => .inr hb) (fun b hb => hb)
          refine (h8.kept (fun b hb _ => ?_)).lt (by decide) (fun b hb _ => ?_)
          · have n1 : b ≠ w.heap.size + 1 := by rcases hb with hb | hb <;> omega
            rw [Below.heap_setCell _ _ _ _ n1, Below.heap_setCell _ _ _ _ n1, Below.heap_setCell _ _ _ _ n1, Below.heap_setCell _ _ _ _ n1, Below.heap_setCell _ _ _ _ n1, Below.heap_setCell _ _ _ _ n1, Below.heap_setCell _ _ _ _ n1]
          · rcases hb with hb | hb
            · exact .inl hb.1
            · exact .inr (by omega)
        · exact ((((((HB.out.setCell (by simp) _).setCell (by simp) _).setCell (by simp) _).setCell (by simp) _).setCell (by simp) _).setCell (by simp) _).setCell (by simp) _
end Go.Proofs.Ytmfifkkmbkcibaa
