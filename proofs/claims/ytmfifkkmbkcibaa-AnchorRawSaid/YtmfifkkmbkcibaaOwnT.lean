/-
  The contract of own.Tunnel: a copy that reads as what it is a copy of.
-/
import Derived.Test.YtmfifkkmbkcibaaOwnM
namespace Go.Proofs.Ytmfifkkmbkcibaa
set_option linter.unusedVariables false
open Go.RowKit

set_option maxRecDepth 100000 in
set_option maxHeartbeats 4000000 in
theorem tunnel_any (delay : Int) (v : Value) (xs : List Msg) (S : Nat → Prop) (w : World) (hv : Sl msgR S w v xs) (hl : xs.length * 88 ≤ 140737488355328) (hf : ∀ m ∈ xs, m.fits) :
    Calls Try.prog 24 #[.agg #[.int .i64 delay, v]] w fun e w' => ∃ v', e = .returned (.agg #[.int .i64 delay, v']) ∧ Own msgR (orNew S w.heap.size) w.heap.size 34 w' v' xs ∧ Below w.heap.size w w' := by
  obtain ⟨da, dcap, rfl, -⟩ := hv.len
  have hv := hv.lt (S' := fun b => S b ∧ b < w.heap.size) (by decide) (fun b hb hlt => ⟨hb, hlt⟩)
  obtain ⟨W, hW⟩ : ∃ W, W = (w.alloc (.cells #[.int .i64 delay, .slice da xs.length dcap] 27)).alloc (.cells #[.int .i64 0, .slice none 0 0] 27) := ⟨_, rfl⟩
  have hbW : Below w.heap.size w W := by rw [hW]; exact ((Below.refl w.heap.size w).alloc (Nat.le_refl _) _).alloc (by simp) _
  have hsW : W.heap.size = w.heap.size + 2 := by rw [hW]; simp
  have r0 : Row W w.heap.size 27 [.int .i64 delay, .slice da xs.length dcap] := by
    rw [hW]; exact (Row.new w _ _).below ((Below.refl _ _).alloc (Nat.le_refl _) _) (by simp)
  have r1 : Row W (w.heap.size + 1) 27 [.int .i64 0, .slice none 0 0] := by
    rw [hW]
    have := Row.new (w.alloc (.cells #[.int .i64 delay, .slice da xs.length dcap] 27)) 27 [.int .i64 0, .slice none 0 0]
    simpa using this
  have HV := Lib.hid (hv.below hbW); clear hv
  go_enter Try.func24, Try.ntmps24
  go_wp2_with fail
  rw [← hW]
  clear hW
  refine (cloneM_any _ _ xs W HV.out hl).mono ?_
  rintro e w1 ⟨v1, rfl, k1, hb1⟩
  obtain ⟨va, vcap, rfl⟩ := k1.len
  have q0 := r0.below hb1 r0.lt
  have q1 := r1.below hb1 r1.lt
  have k1 := (own_mono (S' := fun b => (S b ∧ b < w.heap.size) ∨ w.heap.size + 2 ≤ b) k1 (fun b hb _ => .inl hb.1)).base (base' := w.heap.size + 2) (by omega)
  have hbx := hbW.trans (hb1.mono (by omega))
  have a1 := q0.cell 1
  have fa := q0.frz
  simp at a1
  clear r0 r1 hb1 hbW HV hsW
  have Q0 := Lib.hid q0; clear q0
  have Q1 := Lib.hid q1; clear q1
  have K1 := Lib.hid k1; clear k1
  have HB := Lib.hid hbx; clear hbx
  have HF := Lib.hid hf; clear hf
  go_wp2_with fail
  go_loopw [12] (fun i wr => ∃ k : Nat, k ≤ xs.length ∧ i = .int .i64 k ∧ Row wr w.heap.size 27 [.int .i64 delay, .slice va xs.length vcap] ∧ Row wr (w.heap.size + 1) 27 [.int .i64 0, .slice none 0 0] ∧ Own msgR (fun b => (S b ∧ b < w.heap.size) ∨ w.heap.size + 2 ≤ b) (w.heap.size + 2) 34 wr (.slice va xs.length vcap) xs ∧ Below w.heap.size w wr) (fun i _ => xs.length - (intOf i).toNat)
  case atStart => exact ⟨0, by omega, rfl, Q0.out.set 1 _, Q1.out.setOther _ (by omega), K1.out.setOther _ (K1.out.apart (by omega)) (by simp), HB.out.setCell (by simp) _⟩
  case round =>
    obtain ⟨k, hk, rfl, q0, q1, k2, hbx⟩ := hrel
    clear a1 fa Q0 Q1 K1 HB
    by_cases hlt : k < xs.length
    · obtain ⟨g5, c, hg, hgb, hgw, hrd, hcell, hfz⟩ := k2.at k hlt
      subst hg
      obtain ⟨pd, pt, rfl, p1, p2, p3, p4, p5, p6, p7⟩ := hrd
      obtain ⟨ma, mac, rfl, -⟩ := p6.len
      obtain ⟨mb, mbc, rfl, -⟩ := p7.len
      have x0 : wr.cell? ⟨g5, k * 7, none⟩ = some (.int .i64 xs[k].arr) := hcell 0 (by decide)
      have x1 : wr.cell? ⟨g5, k * 7 + 1, none⟩ = some (.int .i64 xs[k].kind) := hcell 1 (by decide)
      have x2 : wr.cell? ⟨g5, k * 7 + 2, none⟩ = some (.int .i64 xs[k].terminal) := hcell 2 (by decide)
      have x3 : wr.cell? ⟨g5, k * 7 + 3, none⟩ = some (.int .i64 xs[k].bearer) := hcell 3 (by decide)
      have x4 : wr.cell? ⟨g5, k * 7 + 4, none⟩ = some (.int .i64 xs[k].number) := hcell 4 (by decide)
      have x5 : wr.cell? ⟨g5, k * 7 + 5, none⟩ = some (.slice ma xs[k].data.length mac) := hcell 5 (by decide)
      have x6 : wr.cell? ⟨g5, k * 7 + 6, none⟩ = some (.slice mb xs[k].tickets.length mbc) := hcell 6 (by decide)
      have hft := HF.out xs[k] (List.getElem_mem _)
      generalize hmk : xs[k] = mk at *
      have HMK := Lib.hid hmk; clear hmk
      have hal := (Below.refl wr.heap.size wr).alloc (Nat.le_refl _) (.cells #[.int .i64 mk.arr, .int .i64 mk.kind, .int .i64 mk.terminal, .int .i64 mk.bearer, .int .i64 mk.number, .slice ma mk.data.length mac, .slice mb mk.tickets.length mbc] 34)
      have rt := Row.new wr 34 [.int .i64 mk.arr, .int .i64 mk.kind, .int .i64 mk.terminal, .int .i64 mk.bearer, .int .i64 mk.number, .slice ma mk.data.length mac, .slice mb mk.tickets.length mbc]
      have q0 := q0.below hal q0.lt
      have q1 := q1.below hal q1.lt
      have k2 := k2.below hal
      have hbx := hbx.trans (hal.mono hbx.size)
      have p6 := p6.below hal
      have p7 := p7.below hal
      have hgw2 : g5 < wr.heap.size := hgw
      clear hcell hfz
      go_wp2_with fail
      have hW1s : (wr.alloc (.cells #[.int .i64 mk.arr, .int .i64 mk.kind, .int .i64 mk.terminal, .int .i64 mk.bearer, .int .i64 mk.number, .slice ma mk.data.length mac, .slice mb mk.tickets.length mbc] 34)).heap.size = wr.heap.size + 1 := by simp
      generalize wr.alloc _ = W1 at *
      generalize hn : wr.heap.size = n at *
      clear x0 x1 x2 x3 x4 x5 x6 hal
      have x6 : W1.cell? ⟨w.heap.size, 1, none⟩ = some (.slice (some ⟨g5, 0, none⟩) xs.length vcap) := q0.cell 1
      have t0 : W1.cell? ⟨n, 0, none⟩ = some (.int .i64 mk.arr) := rt.cell 0
      have t1 : W1.cell? ⟨n, 1, none⟩ = some (.int .i64 mk.kind) := rt.cell 1
      have t2 : W1.cell? ⟨n, 2, none⟩ = some (.int .i64 mk.terminal) := rt.cell 2
      have t3 : W1.cell? ⟨n, 3, none⟩ = some (.int .i64 mk.bearer) := rt.cell 3
      have t4 : W1.cell? ⟨n, 4, none⟩ = some (.int .i64 mk.number) := rt.cell 4
      have t5 : W1.cell? ⟨n, 5, none⟩ = some (.slice ma mk.data.length mac) := rt.cell 5
      have t6 : W1.cell? ⟨n, 6, none⟩ = some (.slice mb mk.tickets.length mbc) := rt.cell 6
      obtain ⟨g6, c5, h51, -, h53, h52, h54, ef⟩ := k2.at k hlt
      obtain ⟨d5, d6, rfl, -⟩ := h52
      have h56 : g6 = g5 := by
        injection h51 with h57
        injection h57 with h58
        exact h58.symm
      subst h56
      have hgl : g6 < W1.drew.heap.size := h53
      have e0 : W1.cell? ⟨g6, k * 7, none⟩ = some (.int .i64 xs[k].arr) := h54 0 (by decide)
      have e1 : W1.cell? ⟨g6, k * 7 + 1, none⟩ = some (.int .i64 xs[k].kind) := h54 1 (by decide)
      have e2 : W1.cell? ⟨g6, k * 7 + 2, none⟩ = some (.int .i64 xs[k].terminal) := h54 2 (by decide)
      have e3 : W1.cell? ⟨g6, k * 7 + 3, none⟩ = some (.int .i64 xs[k].bearer) := h54 3 (by decide)
      have e4 : W1.cell? ⟨g6, k * 7 + 4, none⟩ = some (.int .i64 xs[k].number) := h54 4 (by decide)
      have e5 : W1.cell? ⟨g6, k * 7 + 5, none⟩ = some (d5) := h54 5 (by decide)
      have e6 : W1.cell? ⟨g6, k * 7 + 6, none⟩ = some (d6) := h54 6 (by decide)
      have xd : W1.drew.cell? ⟨w.heap.size, 1, none⟩ = some (.slice (some ⟨g6, 0, none⟩) xs.length vcap) := x6
      have td0 : W1.drew.cell? ⟨n, 0, none⟩ = some (.int .i64 mk.arr) := t0
      have td1 : W1.drew.cell? ⟨n, 1, none⟩ = some (.int .i64 mk.kind) := t1
      have td2 : W1.drew.cell? ⟨n, 2, none⟩ = some (.int .i64 mk.terminal) := t2
      have td3 : W1.drew.cell? ⟨n, 3, none⟩ = some (.int .i64 mk.bearer) := t3
      have td4 : W1.drew.cell? ⟨n, 4, none⟩ = some (.int .i64 mk.number) := t4
      have td5 : W1.drew.cell? ⟨n, 5, none⟩ = some (.slice ma mk.data.length mac) := t5
      have td6 : W1.drew.cell? ⟨n, 6, none⟩ = some (.slice mb mk.tickets.length mbc) := t6
      have n6 : w.heap.size ≠ g6 := by omega
      have nt : n ≠ g6 := by omega
      have n7 : w.heap.size + 1 ≠ g6 := by omega
      clear h54 h51
      have Q0 := Lib.hid q0; clear q0
      have Q1 := Lib.hid q1; clear q1
      have K2 := Lib.hid k2; clear k2
      have HB := Lib.hid hbx; clear hbx
      have RT := Lib.hid rt; clear rt
      have P6 := Lib.hid p6; clear p6
      have P7 := Lib.hid p7; clear p7
      have HFT := Lib.hid hft; clear hft
      have PP := Lib.hid (And.intro p1 (And.intro p2 (And.intro p3 (And.intro p4 p5)))); clear p1 p2 p3 p4 p5
      go_region_held3 (fun w' => w'.cell? ⟨w.heap.size, 1, none⟩ = some (.slice (some ⟨g6, 0, none⟩) xs.length vcap) ∧ w'.cell? ⟨n, 0, none⟩ = some (.int .i64 mk.arr) ∧ w'.cell? ⟨n, 1, none⟩ = some (.int .i64 mk.kind) ∧ w'.cell? ⟨n, 2, none⟩ = some (.int .i64 mk.terminal) ∧ w'.cell? ⟨n, 3, none⟩ = some (.int .i64 mk.bearer) ∧ w'.cell? ⟨n, 4, none⟩ = some (.int .i64 mk.number) ∧ w'.cell? ⟨n, 5, none⟩ = some (.slice ma mk.data.length mac) ∧ w'.cell? ⟨n, 6, none⟩ = some (.slice mb mk.tickets.length mbc))
        (first | with_reducible exact ⟨xd, td0, td1, td2, td3, td4, td5, td6⟩ | with_reducible exact ⟨y6, u0, u1, u2, u3, u4, u5, u6⟩ | exact ⟨(((((((q3.setOther _ n6).setOther _ n6).setOther _ n6).setOther _ n6).setOther _ n6).setOther _ n6).setOther _ n6).cell 1, (((((((rt3.setOther _ nt).setOther _ nt).setOther _ nt).setOther _ nt).setOther _ nt).setOther _ nt).setOther _ nt).cell 0, (((((((rt3.setOther _ nt).setOther _ nt).setOther _ nt).setOther _ nt).setOther _ nt).setOther _ nt).setOther _ nt).cell 1, (((((((rt3.setOther _ nt).setOther _ nt).setOther _ nt).setOther _ nt).setOther _ nt).setOther _ nt).setOther _ nt).cell 2, (((((((rt3.setOther _ nt).setOther _ nt).setOther _ nt).setOther _ nt).setOther _ nt).setOther _ nt).setOther _ nt).cell 3, (((((((rt3.setOther _ nt).setOther _ nt).setOther _ nt).setOther _ nt).setOther _ nt).setOther _ nt).setOther _ nt).cell 4, (((((((rt3.setOther _ nt).setOther _ nt).setOther _ nt).setOther _ nt).setOther _ nt).setOther _ nt).setOther _ nt).cell 5, (((((((rt3.setOther _ nt).setOther _ nt).setOther _ nt).setOther _ nt).setOther _ nt).setOther _ nt).setOther _ nt).cell 6⟩)
        (first | (go_at_call 26; refine (message_any mk [.int .i64 mk.arr, .int .i64 mk.kind, .int .i64 mk.terminal, .int .i64 mk.bearer, .int .i64 mk.number, .slice ma mk.data.length mac, .slice mb mk.tickets.length mbc] _ _ ⟨_, _, rfl, PP.out.1, PP.out.2.1, PP.out.2.2.1, PP.out.2.2.2.1, PP.out.2.2.2.2, P6.out.drew, P7.out.drew⟩ HFT.out).mono ?_; rintro e w3 ⟨c3, rfl, ⟨d3, d4, rfl, -, -, -, -, -, hd3, hd4⟩, hb3⟩; obtain ⟨ea, eac, rfl, -⟩ := hd3.len; obtain ⟨eb, ebc, rfl, -⟩ := hd4.len; have q3 := Q0.out.drew.below hb3 Q0.out.lt; have y6 : w3.cell? ⟨w.heap.size, 1, none⟩ = some (.slice (some ⟨g6, 0, none⟩) xs.length vcap) := q3.cell 1; have rt3 := RT.out.drew.below hb3 RT.out.lt; have u0 : w3.cell? ⟨n, 0, none⟩ = some (.int .i64 mk.arr) := rt3.cell 0; have u1 : w3.cell? ⟨n, 1, none⟩ = some (.int .i64 mk.kind) := rt3.cell 1; have u2 : w3.cell? ⟨n, 2, none⟩ = some (.int .i64 mk.terminal) := rt3.cell 2; have u3 : w3.cell? ⟨n, 3, none⟩ = some (.int .i64 mk.bearer) := rt3.cell 3; have u4 : w3.cell? ⟨n, 4, none⟩ = some (.int .i64 mk.number) := rt3.cell 4; have u5 : w3.cell? ⟨n, 5, none⟩ = some (.slice ma mk.data.length mac) := rt3.cell 5; have u6 : w3.cell? ⟨n, 6, none⟩ = some (.slice mb mk.tickets.length mbc) := rt3.cell 6; have o0 := (hb3.cell (p := ⟨g6, k * 7, none⟩) hgl).trans e0; have o1 := (hb3.cell (p := ⟨g6, k * 7 + 1, none⟩) hgl).trans e1; have o2 := (hb3.cell (p := ⟨g6, k * 7 + 2, none⟩) hgl).trans e2; have o3 := (hb3.cell (p := ⟨g6, k * 7 + 3, none⟩) hgl).trans e3; have o4 := (hb3.cell (p := ⟨g6, k * 7 + 4, none⟩) hgl).trans e4; have o5 := (hb3.cell (p := ⟨g6, k * 7 + 5, none⟩) hgl).trans e5; have o6 := (hb3.cell (p := ⟨g6, k * 7 + 6, none⟩) hgl).trans e6; have of : ∀ j, w3.frozen? ⟨g6, j, none⟩ = false := fun j => (hb3.frozen (p := ⟨g6, j, none⟩) hgl).trans (ef j)))
      clear xd td0 td1 td2 td3 td4 td5 td6 x6 t0 t1 t2 t3 t4 t5 t6 e0 e1 e2 e3 e4 e5 e6 ef o0 o1 o2 o3 o4 o5 o6 of y6 u0 u1 u2 u3 u4 u5 u6
      have HB3 := Lib.hid hb3; clear hb3
      have HD3 := Lib.hid hd3; clear hd3
      have HD4 := Lib.hid hd4; clear hd4
      have Q3 := Lib.hid q3; clear q3 rt3
      go_wp2_with fail
      go_roundw
      case rel =>
        have hb3 := HB3.out
        have k2 := K2.out.drew.below hb3
        have hsz : n + 1 ≤ w3.heap.size := by have := hb3.size; simp at this; omega
        refine ⟨k + 1, by omega, by go_num, (((((((Q3.out.setOther _ n6).setOther _ n6).setOther _ n6).setOther _ n6).setOther _ n6).setOther _ n6).setOther _ n6), ((((((((Q1.out.drew.below hb3 Q1.out.lt).setOther _ n7).setOther _ n7).setOther _ n7).setOther _ n7).setOther _ n7).setOther _ n7).setOther _ n7), ?_, ?_⟩
        · have h9 : xs.set k mk = xs := by rw [← HMK.out, List.set_getElem_self]
          have h6 := Own.put (w' := (((((((w3.setCell ⟨g6, k * 7, none⟩ (.int .i64 mk.arr)).setCell ⟨g6, k * 7 + 1, none⟩ (.int .i64 mk.kind)).setCell ⟨g6, k * 7 + 2, none⟩ (.int .i64 mk.terminal)).setCell ⟨g6, k * 7 + 3, none⟩ (.int .i64 mk.bearer)).setCell ⟨g6, k * 7 + 4, none⟩ (.int .i64 mk.number)).setCell ⟨g6, k * 7 + 5, none⟩ (.slice ea mk.data.length eac)).setCell ⟨g6, k * 7 + 6, none⟩ (.slice eb mk.tickets.length ebc))) k2 k hlt (c := [.int .i64 mk.arr, .int .i64 mk.kind, .int .i64 mk.terminal, .int .i64 mk.bearer, .int .i64 mk.number, .slice ea mk.data.length eac, .slice eb mk.tickets.length ebc]) (x := mk) ?_ ?_ ?_
          · rw [h9] at h6; exact h6
          · intro cs hcs hr
            have h7 := (((((((hcs.stored (k * 7) (.int .i64 mk.arr)).1.stored (k * 7 + 1) (.int .i64 mk.kind)).1.stored (k * 7 + 2) (.int .i64 mk.terminal)).1.stored (k * 7 + 3) (.int .i64 mk.bearer)).1.stored (k * 7 + 4) (.int .i64 mk.number)).1.stored (k * 7 + 5) (.slice ea mk.data.length eac)).1.stored (k * 7 + 6) (.slice eb mk.tickets.length ebc)).1
            have hcl := hr.len
            have h12 : _ = chunk cs (k * msgR.n) [.int .i64 mk.arr, .int .i64 mk.kind, .int .i64 mk.terminal, .int .i64 mk.bearer, .int .i64 mk.number, .slice ea mk.data.length eac, .slice eb mk.tickets.length ebc] := chunk7 cs (k * 7) (.int .i64 mk.arr) (.int .i64 mk.kind) (.int .i64 mk.terminal) (.int .i64 mk.bearer) (.int .i64 mk.number) (.slice ea mk.data.length eac) (.slice eb mk.tickets.length ebc) (by rw [hcl]; show k * 7 + 7 ≤ xs.length * 7; omega)
            rw [← h12]
            exact h7
          · intro b' hb' _
            rw [Below.heap_setCell _ _ _ _ hb', Below.heap_setCell _ _ _ _ hb', Below.heap_setCell _ _ _ _ hb', Below.heap_setCell _ _ _ _ hb', Below.heap_setCell _ _ _ _ hb', Below.heap_setCell _ _ _ _ hb', Below.heap_setCell _ _ _ _ hb']
          · refine ⟨_, _, rfl, PP.out.1, PP.out.2.1, PP.out.2.2.1, PP.out.2.2.2.1, PP.out.2.2.2.2, ?_, ?_⟩
            · have h8 := HD3.out.lt (S' := fun b => ((S b ∧ b < w.heap.size) ∨ w.heap.size + 2 ≤ b) ∧ b ≠ g6) (by decide) (fun b hb _ => ?_)
              · exact h8.kept (fun b' hb' _ => by rw [Below.heap_setCell _ _ _ _ hb'.2, Below.heap_setCell _ _ _ _ hb'.2, Below.heap_setCell _ _ _ _ hb'.2, Below.heap_setCell _ _ _ _ hb'.2, Below.heap_setCell _ _ _ _ hb'.2, Below.heap_setCell _ _ _ _ hb'.2, Below.heap_setCell _ _ _ _ hb'.2])
              · rcases hb with hb | hb
                · exact hb
                · simp at hb; exact ⟨.inr (by omega), by omega⟩
            · have h8 := HD4.out.lt (S' := fun b => ((S b ∧ b < w.heap.size) ∨ w.heap.size + 2 ≤ b) ∧ b ≠ g6) (by decide) (fun b hb _ => ?_)
              · exact h8.kept (fun b' hb' _ => by rw [Below.heap_setCell _ _ _ _ hb'.2, Below.heap_setCell _ _ _ _ hb'.2, Below.heap_setCell _ _ _ _ hb'.2, Below.heap_setCell _ _ _ _ hb'.2, Below.heap_setCell _ _ _ _ hb'.2, Below.heap_setCell _ _ _ _ hb'.2, Below.heap_setCell _ _ _ _ hb'.2])
              · rcases hb with hb | hb
                · exact hb
                · simp at hb; exact ⟨.inr (by omega), by omega⟩
        · exact (((((((HB.out.drew.trans (hb3.mono (by simp; omega))).setCell (by simp; omega) _).setCell (by simp; omega) _).setCell (by simp; omega) _).setCell (by simp; omega) _).setCell (by simp; omega) _).setCell (by simp; omega) _).setCell (by simp; omega) _
      case measure => simp [intOf]; omega
    · have a0 := q0.cell 0; have a1 := q0.cell 1
      have b0 := q1.cell 0; have b1 := q1.cell 1
      have fb := q1.frz
      simp at a0 a1 b0 b1
      have Q0 := Lib.hid q0; clear q0
      have Q1 := Lib.hid q1; clear q1
      have K2 := Lib.hid k2; clear k2
      have HB := Lib.hid hbx; clear hbx
      go_wp2_with fail
      refine bodyPost_ret (v := .agg #[.int .i64 delay, .slice va xs.length vcap]) (by simp [results, Try.results24, go_sem, b0, b1]) rfl ⟨_, rfl, ?_, ?_⟩
      · have h8 := (K2.out.setOther (g := w.heap.size + 1) (o := 0) (.int .i64 delay) (K2.out.apart (by omega)) (by simp))
        have h9 := (h8.setOther (g := w.heap.size + 1) (o := 1) (.slice va xs.length vcap) (h8.apart (by omega)) (by simp))
        exact own_mono (h9.base (by omega)) (fun b hb _ => by
          rcases hb with hb | hb
          · exact .inl hb.1
          · exact .inr (by omega))
      · exact (HB.out.setCell (by simp) _).setCell (by simp) _
end Go.Proofs.Ytmfifkkmbkcibaa
