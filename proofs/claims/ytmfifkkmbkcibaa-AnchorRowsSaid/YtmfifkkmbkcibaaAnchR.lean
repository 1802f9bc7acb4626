/-
  The walk of AnchorRows.
-/
import Derived.Test.YtmfifkkmbkcibaaAnchRS
import Derived.BigQuiet
namespace Go.Proofs.Ytmfifkkmbkcibaa
set_option linter.unusedVariables false
open Go.RowKit

theorem onWay_fits (d : Int) : ∀ (ts : List Int) (n : Nat), ∀ m ∈ onWay d n ts, m.fits
  | [], n, m, h => by simp [onWay] at h
  | a :: r, n, m, h => by
    simp only [onWay, List.mem_cons] at h
    rcases h with rfl | h
    · simp [Msg.fits]
    · exact onWay_fits d r (n + 1) m h

/-- What the rows leave in memory: the tunnel's variable, the messages on it, the ticks. -/
structure Rows (w : World) (d : Int) (ts : List Int) (nx : Nat) (av : Value) (wr : World) (xa : Option Addr) (xc : Nat) : Prop where
  row : Row wr w.heap.size 27 [.int .i64 d, .slice xa (ts.length - nx) xc]
  msgs : Sl msgR (fun b => w.heap.size < b ∧ some b ≠ av.ownBlock) wr (.slice xa (ts.length - nx) xc) (onWay d nx (ts.drop nx))
  ticks : Own intR (fun _ => True) (w.heap.size + 1) 3 wr av ts
  bel : Below w.heap.size w wr

/-- An append whose run is known, inside a region that draws its order. -/
theorem step_append_run {P : Program} {ops : Array Oper} {o : Oper} {a : Act} {w : World} {K : Act → World → Prop} {Q : Exit → Act → World → Prop} {E : Prop} (hgd : o.guard = none) (s x : Operand) (t : TypeId)
    (ho : o.op = .call { callee := .builtin .append, args := #[s, x], argTypes := #[t, t] }) (dv v : Value) (hs : a.eval s = dv) (hx : a.eval x = v) {v' : Value} {w' : World}
    (hr : (Builtin.append_ #[t, t] o.type #[dv, v]).run P w = .ok v' w') (h : K (a.put o.dst v') w') : if Region.wanted o (yielded ops a.tmps) = true then Oper.wp P o a w K Q else E := by
  simp only [Region.wanted, hgd, if_true]
  unfold Oper.wp execOp
  simp only [ho, resolve, invoke, builtin, Sem.run_bind, Sem.run_pure, Result.andThen_ok, List.map_toArray, List.map_cons, List.map_nil, hs, hx, hr]
  exact h

theorem RdL.ints {S S' : Nat → Prop} {w w' : World} : ∀ {xs : List Int} {cs : List Value}, RdL intR S w cs xs → RdL intR S' w' cs xs
  | [], cs, h => h
  | x :: xs, cs, ⟨c, r, e, h1, h2⟩ => ⟨c, r, e, h1, RdL.ints h2⟩
theorem Own.ints {S S' : Nat → Prop} {w : World} {base : Nat} {e : TypeId} {v : Value} {xs : List Int} (h : Own intR S base e w v xs) : Own intR S' base e w v xs := by
  obtain ⟨cs, h1, h2⟩ := h
  exact ⟨cs, h1, h2.ints⟩

/-- One number in a new block. -/
theorem sl_newI {S : Nat → Prop} {w : World} {x : Int} (t : TypeId) (hx : rng x) (hS : S w.heap.size) : Sl intR S (w.alloc (.cells #[.int .i64 x] t)) (.slice (some ⟨w.heap.size, 0, none⟩) 1 1) [x] := by
  refine ⟨_, 1, rfl, by simp, by omega, fun h => by simp at h, fun _ => ⟨w.heap.size, 0, rfl, hS, [.int .i64 x], RdL.single ⟨rfl, hx⟩, fun j hj => ?_⟩⟩
  rw [Nat.zero_add]
  exact (Row.new w t [.int .i64 x]).cell j

theorem Bts.at {w : World} {a : Option Addr} {n cap : Nat} {l : List UInt8} (h : Bts w (.slice a n cap) l) (i : Nat) (hi : i < l.length) : ∃ b off, a = some ⟨b, off, none⟩ ∧ w.cell? ⟨b, off + i, none⟩ = some (.int .u8 (B l[i])) := by
  rcases h with ⟨-, rfl⟩ | ⟨b, off, cap', hv, -, -, hc⟩
  · simp at hi
  · simp at hv
    obtain ⟨rfl, -, -⟩ := hv
    refine ⟨b, off, rfl, ?_⟩
    have := hc i hi
    rw [List.getD_eq_getElem?_getD, List.getElem?_eq_getElem hi] at this
    exact this

set_option maxRecDepth 100000 in
set_option maxHeartbeats 4000000 in
theorem rows_any (ps : List UInt8) (pv : Value) (dl : UInt8) (ls : List Bool) (la : Option Addr) (lcap : Nat) (w : World) (hp : Bts w pv ps)
    (hl : ∀ i (h : i < ls.length), ∃ b off, la = some ⟨b, off, none⟩ ∧ w.cell? ⟨b, off + i, none⟩ = some (.bool ls[i])) :
    Calls Try.prog 3 #[pv, .int .u8 (B dl), .slice la ls.length lcap] w fun e w' => e = .returned (.bool true) ∧ Below w.heap.size w w' := by
  obtain ⟨i0, hi0, hz0, hz1, hz2⟩ := info_parts (P := Try.prog) (e := 3) (z := .int .i64 0) (size := 1) (bytes := 8) (by kernel_rfl)
  obtain ⟨pa, pcap, rfl, -⟩ := hp.len
  have HP := Lib.hid hp; clear hp
  have HL := Lib.hid hl; clear hl
  by_cases h1 : 60 < ps.length
  · go_enter Try.func3, Try.ntmps3
    go_wp2_with fail
    refine (awake_any w).mono ?_
    rintro e w1 ⟨rfl, hb⟩
    go_wp2_with fail
    refine bodyPost_ret (v := .bool true) (by simp [results, Try.results3, go_sem]) rfl ⟨rfl, hb⟩
  by_cases h2 : 90 < ls.length
  · go_enter Try.func3, Try.ntmps3
    go_wp2_with fail
    refine (awake_any w).mono ?_
    rintro e w1 ⟨rfl, hb⟩
    go_wp2_with fail
    refine bodyPost_ret (v := .bool true) (by simp [results, Try.results3, go_sem]) rfl ⟨rfl, hb⟩
  have hB0 := B_lo dl
  have hB1 := B_hi dl
  go_enter Try.func3, Try.ntmps3
  go_wp2_with fail
  have hd0 : 0 ≤ B dl % 12 := by omega
  have hd1 : B dl % 12 ≤ 11 := by omega
  have R0 : Rows w (B dl % 12) [] 0 (.slice none 0 0) (w.alloc (.cells #[.int .i64 (B dl % 12), .slice none 0 0] 27)) none 0 :=
    ⟨Row.new w _ _, Sl.nil, Own.nil _ _ _ _ _, (Below.refl _ _).alloc (Nat.le_refl _) _⟩
  generalize B dl % 12 = d at *
  have R0 := Lib.hid R0
  have hq1 : decide ((60 : Int) < ps.length) = false := by simp; omega
  have hq2 : decide ((90 : Int) < ls.length) = false := by simp; omega
  simp only [hq1, hq2, Bool.or_false]
  go_loopw [8, 9, 10] (fun av n t wr => ∃ (k : Nat) (ts : List Int) (nx : Nat) (xa : Option Addr) (xc : Nat), k ≤ 100 ∧ t = .int .i64 k ∧ n = .int .i64 nx ∧ Good d ts nx k ∧ ts.length = ahead ps k ∧ (k = 100 → nx = ts.length) ∧ Rows w d ts nx av wr xa xc) (fun _ _ t _ => 100 - (intOf t).toNat)
  case atStart => exact ⟨0, [], 0, none, 0, by omega, rfl, rfl, ⟨by simp, by simp, by simp, by simp⟩, by rw [ahead_zero]; rfl, by omega, R0.out⟩
  case round =>
    obtain ⟨k, ts, nx, xa, xc, hk, rfl, rfl, hg, hlen, hend, hR⟩ := hrel
    clear R0
    by_cases hlt : k < 100
    · have HR := Lib.hid hR; clear hR
      have HG := Lib.hid hg; clear hg
      have HLEN := Lib.hid hlen; clear hlen
      clear hend
      go_wp2_with fail
      have hdk : decide ((k : Int) < 100) = true := by simp; omega
      simp only [hdk]
      go_loopw [8, 11] (fun av i wr => ∃ (i' : Nat) (ts : List Int) (xa : Option Addr) (xc : Nat), i' ≤ ps.length ∧ i = .int .i64 i' ∧ Good d ts nx k ∧ ts.length = ahead ps k + here ps k i' ∧ Rows w d ts nx av wr xa xc) (fun _ i _ => ps.length - (intOf i).toNat)
      case atStart => exact ⟨0, ts, xa, xc, by omega, rfl, HG.out, by rw [here_zero]; exact HLEN.out, HR.out⟩
      case round =>
        obtain ⟨i, ts, xa, xc, hi, rfl, hg, hlen, hR⟩ := hrel
        clear HR HG HLEN
        by_cases hil : i < ps.length
        · obtain ⟨pb, po, hpa, hpc⟩ := HP.out.at i hil
          have hpc := (hR.bel.cell (p := ⟨pb, po + i, none⟩) (World.block_lt_of_cell? _ _ hpc)).trans hpc
          have hb0 := B_lo ps[i]
          have hb1 := B_hi ps[i]
          have hstep := here_step ps k i hil
          have hBt : B ps[i] = (ps[i].toNat : Int) := rfl
          by_cases hpk : B ps[i] % 80 = k
          · rw [if_pos (by omega)] at hstep
            have htot := ahead_here ps k (i + 1)
            have hput := hg.put hd0 hd1 (by omega) (by omega)
            have hgn := hg.push (by omega) (by omega) (by omega)
            generalize B ps[i] = pc at *
            subst hpa
            obtain ⟨aa, ac, rfl⟩ := hR.ticks.len
            have t0 := hR.row.cell 0; have t1 := hR.row.cell 1
            simp only [List.getElem?_cons_zero, List.getElem?_cons_succ] at t0 t1
            have HR := Lib.hid hR; clear hR
            have HG := Lib.hid hg; clear hg
            have HGN := Lib.hid hgn; clear hgn
            have HLEN := Lib.hid hlen; clear hlen
            have HPUT := Lib.hid hput; clear hput
            have HST := Lib.hid hstep; clear hstep
            clear htot hBt
            go_wp2_with fail
            have P := put_any d k (.slice xa (ts.length - nx) xc) (onWay d nx (ts.drop nx)) ⟨0, 0, 0, 0, ts.length, [], []⟩ [.int .i64 0, .int .i64 0, .int .i64 0, .int .i64 0, .int .i64 ts.length, .slice none 0 0, .slice none 0 0] _ wr HR.out.msgs ⟨_, _, rfl, by simp [rng], by simp [rng], by simp [rng], by simp [rng], by have := HG.out.few; simp [rng]; omega, Sl.nil, Sl.nil⟩ (by have := HG.out.few; rw [onWay_len, List.length_drop]; omega) (onWay_fits d _ _) (by simp [Msg.fits]) (by simp [rng]; omega)
            rw [HPUT.out] at P
            refine P.mono ?_
            clear P
            rintro e w1 ⟨v1, rfl, k1, hb1⟩
            obtain ⟨oa, ocap, hv1⟩ := k1.len
            simp only [onWay_len, List.length_drop] at hv1
            subst hv1
            generalize hn1 : (ts ++ [(k : Int)]).length - nx = n1 at *
            have hal := (Below.refl w1.heap.size w1).alloc (Nat.le_refl _) (.cells #[.int .i64 d, .slice oa n1 ocap] 27)
            have hR := HR.out
            have hsz0 : w.heap.size < wr.heap.size := hR.row.lt
            have hbw := hb1.trans (hal.mono hb1.size)
            have rt := hR.row.below hbw hR.row.lt
            have rx := Row.new w1 27 [.int .i64 d, .slice oa n1 ocap]
            have kt := hR.ticks.below hbw
            have hown := hR.ticks.lt
            have k1 := (k1.sl (S' := fun b => w.heap.size < b ∧ some b ≠ Value.ownBlock (.slice aa ts.length ac)) (fun b hb => ⟨by omega, fun hx => by have := (hown b hx.symm).2; omega⟩) (fun b hb => by
              rcases hb with hb | hb
              · exact hb
              · exact ⟨by omega, fun hx => by have := (hown b hx.symm).2; omega⟩)).lt (S' := fun b => w.heap.size < b ∧ some b ≠ Value.ownBlock (.slice aa ts.length ac) ∧ b < w1.heap.size) (by decide) (fun b hb hlt => ⟨hb.1, hb.2, hlt⟩)
            have k1 := k1.below hal
            have hbx := hR.bel.trans (hbw.mono hR.bel.size)
            have hsz1 := hb1.size
            clear hR HR t0 t1 hbw hal hb1
            go_upto_region 16 with (fail)
            generalize w1.alloc _ = W2 at *
            generalize hX : w1.heap.size = X at *
            have kt := own_apart kt
            have kt := (kt.below ((Below.refl _ _).alloc (Nat.le_refl _) (.cells #[.int .i64 (k : Int)] 3))).drew
            have hne0 : ∀ b, Value.ownBlock (.slice aa ts.length ac) = some b → w.heap.size + 1 ≤ b ∧ b < W2.heap.size := fun b hb => by
              have h := kt.lt b hb
              have h1 := hown b hb
              have h2 := rx.lt
              exact ⟨h.1, by omega⟩
            obtain ⟨v5, w5, hrun, hown5, hg5, hwh5⟩ := run_appR (P := Try.prog) (R := intR) (S := fun b => True ∧ some b ≠ Value.ownBlock (.slice aa ts.length ac)) 28 28 (w.heap.size + 1) 3 i0 (.int .i64 0) 8 Try.underlying28 hi0 hz0 hz1 hz2 rfl (by decide) _ ts kt _ [(k : Int)] (sl_newI (w := W2) 3 (by simp [rng]; omega) ⟨trivial, fun hx => by have := (hne0 _ hx.symm).2; omega⟩).drew (fun b hb _ => hb.2) (by unfold maxLen; have := HG.out.few; simp; omega) (by have := HG.out.few; simp; omega) (by have := rx.lt; simp; omega)
            obtain ⟨fa, fcap, rfl⟩ := hown5.len
            have hl5 : (ts ++ [(k : Int)]).length = ts.length + 1 := by simp
            rw [hl5] at hown5 hwh5 hrun
            have hXW := rx.lt
            have hTX : w.heap.size ≠ X := by omega
            have ax := (Below.refl W2.heap.size W2).alloc (Nat.le_refl _) (.cells #[.int .i64 (k : Int)] 3)
            have rx4 := (rx.below ax hXW).drew
            have rx5 := rx4.grown hg5 (fun hx => by have := hown X hx.symm; omega)
            have rt5 := (rt.below ax rt.lt).drew.grown hg5 (fun hx => by have := hne0 _ hx.symm; omega)
            have x0 : W2.drew.cell? ⟨X, 0, none⟩ = some (.int .i64 d) := rx.cell 0
            have x1 : W2.drew.cell? ⟨X, 1, none⟩ = some (.slice oa n1 ocap) := rx.cell 1
            have y0 : (W2.alloc (.cells #[.int .i64 (k : Int)] 3)).drew.cell? ⟨X, 0, none⟩ = some (.int .i64 d) := rx4.cell 0
            have y1 : (W2.alloc (.cells #[.int .i64 (k : Int)] 3)).drew.cell? ⟨X, 1, none⟩ = some (.slice oa n1 ocap) := rx4.cell 1
            have z0 : w5.cell? ⟨X, 0, none⟩ = some (.int .i64 d) := rx5.cell 0
            have z1 : w5.cell? ⟨X, 1, none⟩ = some (.slice oa n1 ocap) := rx5.cell 1
            have t0 : w5.cell? ⟨w.heap.size, 0, none⟩ = some (.int .i64 d) := rt5.cell 0
            have t1 : w5.cell? ⟨w.heap.size, 1, none⟩ = some (.slice xa (ts.length - nx) xc) := rt5.cell 1
            have ft := rt5.frz
            have HO5 := Lib.hid hown5; clear hown5
            have K1 := Lib.hid k1; clear k1
            have HBX := Lib.hid hbx; clear hbx
            have HWN := Lib.hid (And.intro hown (And.intro hne0 hwh5)); clear hown hne0 hwh5
            have HG5 := Lib.hid hg5; clear hg5
            have HRT5 := Lib.hid rt5; clear rt5
            have HRX5 := Lib.hid rx5; clear rx5 rx4 rx rt kt
            go_region_held3 (fun w' => w'.cell? ⟨X, 0, none⟩ = some (.int .i64 d) ∧ w'.cell? ⟨X, 1, none⟩ = some (.slice oa n1 ocap))
              (first | with_reducible exact ⟨x0, x1⟩ | with_reducible exact ⟨y0, y1⟩ | with_reducible exact ⟨z0, z1⟩ | exact ⟨((HRX5.out.setOther _ hTX.symm).setOther _ hTX.symm).cell 0, ((HRX5.out.setOther _ hTX.symm).setOther _ hTX.symm).cell 1⟩)
              (first | (refine step_append_run rfl _ _ 28 rfl _ _ rfl rfl hrun ?_))
            go_wp2_with fail
            go_roundw
            case rel =>
              obtain ⟨hown, hne0, hwh5⟩ := HWN.out
              have hg5 := HG5.out
              have h1 : (Value.slice fa (ts.length + 1) fcap).ownBlock ≠ some w.heap.size := fun hx => by
                rcases hwh5 with h | h
                · rw [h] at hx; have := hne0 _ hx; omega
                · rw [h] at hx; injection hx with hx; simp at hx; omega
              refine ⟨i + 1, ts ++ [(k : Int)], oa, ocap, by omega, by go_num, HGN.out, by rw [HST.out, hl5, HLEN.out]; omega, ⟨?_, ?_, ?_, ?_⟩⟩
              · rw [hn1]; exact (HRT5.out.set 0 _).set 1 _
              · rw [hn1]
                refine (K1.out.kept (fun b hb hlt => ?_)).lt (by decide) (fun b hb _ => ⟨hb.1, fun hx => ?_⟩)
                · have h2 : b ≠ w.heap.size := by omega
                  rw [Below.heap_setCell _ _ _ _ h2, Below.heap_setCell _ _ _ _ h2, hg5.block b (by simp; omega) hb.2.1]
                  exact Below.heap_alloc _ _ _ hlt
                · rcases hwh5 with h | h
                  · rw [h] at hx; exact hb.2.1 hx
                  · rw [h] at hx; injection hx with hx; simp at hx; omega
              · exact ((HO5.out.ints (S' := fun _ => False)).setOther _ h1 (fun h => h)).setOther _ h1 (fun h => h) |>.ints
              · exact (((HBX.out.alloc (by omega) _).drew.grown hg5 (by simp; omega) (fun b hb => by have := hne0 b hb; omega)).setCell (by simp) _).setCell (by simp) _
            case measure => simp [intOf]; omega
          · rw [if_neg (by omega)] at hstep
            generalize B ps[i] = pc at *
            subst hpa
            go_wp2_with fail
            go_roundw
            case rel => exact ⟨i + 1, ts, xa, xc, by omega, by go_num, hg, by rw [hstep]; exact hlen, hR⟩
            case measure => simp [intOf]; omega
        · obtain rfl : i = ps.length := by omega
          rw [← ahead_next] at hlen
          obtain ⟨u, hu, htake, hcome, hleft, h99, hgn⟩ := hg.take hd0 hd1 (by omega) (by omega)
          obtain ⟨aa, ac, rfl⟩ := hR.ticks.len
          have t0 := hR.row.cell 0; have t1 := hR.row.cell 1
          simp only [List.getElem?_cons_zero, List.getElem?_cons_succ] at t0 t1
          have P := take_any d k (.slice xa (ts.length - nx) xc) (onWay d nx (ts.drop nx)) _ wr hR.msgs (by have := hg.few; rw [onWay_len, List.length_drop]; omega) (onWay_fits d _ _)
          rw [htake] at P
          have P := Lib.hid P
          have HR := Lib.hid hR; clear hR
          have HGN := Lib.hid hgn; clear hgn
          have HG := Lib.hid hg; clear hg
          have HLEN := Lib.hid hlen; clear hlen
          have HCOME := Lib.hid hcome; clear hcome
          have HLEFT := Lib.hid hleft; clear hleft
          clear htake
          by_cases hkl : k < ls.length
          · obtain ⟨lb, lo, rfl, hlc⟩ := HL.out k hkl
            have hlc := (HR.out.bel.cell (p := ⟨lb, lo + k, none⟩) (World.block_lt_of_cell? _ _ hlc)).trans hlc
            by_cases hlk : ls[k] = true
            · rw [hlk] at hlc
              go_wp2_with fail
              refine P.out.mono ?_
              clear P
              rintro e w1 ⟨v1, l1, rfl, k1, j1, hb1⟩
              obtain ⟨oa, ocap, hv1, -⟩ := k1.len
              obtain ⟨ja, jcap, hv2, -⟩ := j1.len
              have hu2 : ((onWay d nx (ts.drop nx)).take u).length = u := by rw [List.length_take, onWay_len, List.length_drop]; omega
              simp only [onWay_len, List.length_drop, hu2] at hv1 hv2
              subst hv1 hv2
              have hR := HR.out
              have hsz0 : w.heap.size < wr.heap.size := hR.row.lt
              have hsz1 := hb1.size
              have hown := hR.ticks.lt
              have k1 := (k1.lt (S' := fun b => w.heap.size < b ∧ some b ≠ Value.ownBlock (.slice aa ts.length ac)) (by decide) (fun b hb _ => by
                rcases hb with hb | hb
                · exact hb
                · exact ⟨by omega, fun hx => by have := (hown b hx.symm).2; omega⟩))
              have hal := (Below.refl w1.heap.size w1).alloc (Nat.le_refl _) (.cells #[.int .i64 d, .slice oa (ts.length - (nx + u)) ocap] 27)
              have hbw := hb1.trans (hal.mono hsz1)
              have rt := hR.row.below hbw hR.row.lt
              have rx := Row.new w1 27 [.int .i64 d, .slice oa (ts.length - (nx + u)) ocap]
              have kt := hR.ticks.below hbw
              have k1 := k1.below hal
              have j1 := j1.below hal
              have hbx := hR.bel.trans (hbw.mono hR.bel.size)
              clear hR HR t0 t1 hbw hal hb1
              have RT := Lib.hid rt; clear rt
              have RX := Lib.hid rx; clear rx
              have KT := Lib.hid kt; clear kt
              have K1 := Lib.hid k1; clear k1
              have J1 := Lib.hid j1; clear j1
              have HBX := Lib.hid hbx; clear hbx
              go_wp2_with fail
              generalize w1.alloc _ = W2 at *
              generalize hX : w1.heap.size = X at *
              go_loopw [9, 17] (fun n i ws => ∃ j q : Nat, q = nx + j ∧ j ≤ u ∧ i = .int .i64 j ∧ n = .int .i64 q ∧ Below W2.heap.size W2 ws) (fun _ i _ => u - (intOf i).toNat)
              case atStart => exact ⟨0, nx, rfl, by omega, rfl, rfl, Below.refl _ _⟩
              case round =>
                obtain ⟨j, q, hq, hj, rfl, rfl, hbs⟩ := hrel
                have hq60 : q ≤ 60 := by have := HG.out.few; omega
                have hj60 : j ≤ 60 := by omega
                by_cases hju : j < u
                · have hnl : q < ts.length := by omega
                  obtain ⟨b, off, c, rfl, -, hrd, hcell⟩ := (J1.out.below hbs).at j (by rw [hu2]; exact hju)
                  obtain ⟨pd, pt, rfl, -⟩ := hrd
                  have hmj : ((onWay d nx (ts.drop nx)).take u)[j]'(by rw [hu2]; exact hju) = ⟨ts[q] + d, 0, 0, 0, (q : Nat), [], []⟩ := by
                    subst hq
                    rw [List.getElem_take, onWay_get d _ _ _ (by rw [List.length_drop]; omega)]
                    simp
                  have x4 : wr.cell? ⟨b, off + j * 7 + 4, none⟩ = some (.int .i64 (q : Int)) := by
                    have h := hcell 4 (by decide)
                    rw [hmj] at h
                    exact h
                  obtain ⟨g, c2, hga, -, -, hrd2, hcell2, -⟩ := (KT.out.below hbs).at q hnl
                  subst hga
                  obtain ⟨rfl, hr1, hr2⟩ := hrd2
                  have y0 : wr.cell? ⟨g, q, none⟩ = some (.int .i64 ts[q]) := by
                    have h := hcell2 0 (by decide)
                    simpa [intR] using h
                  have hle := HCOME.out q hnl (by omega) (by omega)
                  have hrg := HG.out.rng ts[q] (List.getElem_mem _)
                  have t0 : wr.cell? ⟨w.heap.size, 0, none⟩ = some (.int .i64 d) := (RT.out.below hbs RT.out.lt).cell 0
                  generalize ts[q] = aj at *
                  clear hcell hcell2 hmj hr1 hr2
                  have hwr : IntKind.i64.wrap (aj + d) = aj + d := IntWalk.i64_in _ (by omega)
                  have hd2 : decide ((ts.length : Int) ≤ (q : Int)) = false := by simp; omega
                  have hd3 : decide ((k : Int) < aj + d) = false := by simp; omega
                  have HQ := Lib.hid hq; clear hq
                  go_upto_region 24 with (fail)
                  go_quiet (fail)
                  go_wp2_with fail
                  go_roundw
                  case rel => exact ⟨j + 1, q + 1, by rw [HQ.out]; omega, by omega, by go_num, by go_num, hbs.trans ⟨rfl, rfl, rfl, Nat.le_refl _, fun _ _ => rfl⟩⟩
                  case measure => simp [intOf]; omega
                · obtain rfl : j = u := by omega
                  have x0 : ∀ n, (wr.drewN n).cell? ⟨X, 0, none⟩ = some (.int .i64 d) := fun n => (RX.out.below hbs RX.out.lt).cell 0
                  have x1 : ∀ n, (wr.drewN n).cell? ⟨X, 1, none⟩ = some (.slice oa (ts.length - (nx + j)) ocap) := fun n => (RX.out.below hbs RX.out.lt).cell 1
                  have t0 : wr.cell? ⟨w.heap.size, 0, none⟩ = some (.int .i64 d) := (RT.out.below hbs RT.out.lt).cell 0
                  have tt0 : ∀ n, (wr.drewN n).cell? ⟨w.heap.size, 0, none⟩ = some (.int .i64 d) := fun n => t0
                  have tt1 : ∀ n, (wr.drewN n).cell? ⟨w.heap.size, 1, none⟩ = some (.slice xa (ts.length - nx) xc) := fun n => (RT.out.below hbs RT.out.lt).cell 1
                  have ft : ∀ n o, (wr.drewN n).frozen? ⟨w.heap.size, o, none⟩ = false := fun n o => (RT.out.below hbs RT.out.lt).frz o
                  generalize hm1 : ts.length - (nx + j) = m1 at *
                  have hTX : w.heap.size ≠ X := by omega
                  have HM1 := Lib.hid hm1; clear hm1
                  have HFIN : ∀ n : Nat, Rows w d ts q (.slice aa ts.length ac) (((wr.drewN n).setCell ⟨w.heap.size, 0, none⟩ (.int .i64 d)).setCell ⟨w.heap.size, 1, none⟩ (.slice oa m1 ocap)) oa ocap := fun n => by
                    subst hq
                    have e1 := HM1.out
                    subst e1
                    have hbd : Below W2.heap.size W2 (wr.drewN n) := hbs.trans ⟨rfl, rfl, rfl, Nat.le_refl _, fun _ _ => rfl⟩
                    refine ⟨((RT.out.below hbd RT.out.lt).set 0 _).set 1 _, ?_, ?_, ?_⟩
                    · refine (K1.out.below hbd).kept (fun b hb _ => ?_)
                      have h2 : b ≠ w.heap.size := by omega
                      rw [Below.heap_setCell _ _ _ _ h2, Below.heap_setCell _ _ _ _ h2]
                    · have h1 : (Value.slice aa ts.length ac).ownBlock ≠ some w.heap.size := fun hx => by have := hown _ hx; omega
                      exact (((KT.out.below hbd).ints (S' := fun _ => False)).setOther _ h1 (fun h => h)).setOther _ h1 (fun h => h) |>.ints
                    · exact ((HBX.out.trans (hbd.mono HBX.out.size)).setCell (by simp) _).setCell (by simp) _
                  have HFIN := Lib.hid HFIN
                  have hgs := HGN.out.step
                  rw [← hq] at hgs
                  have HGS := Lib.hid hgs; clear hgs
                  have hend2 : (k : Int) = 99 → q = ts.length := fun h => by rw [hq]; exact h99 h
                  have HE := Lib.hid hend2; clear hend2 h99
                  have hleft := HLEFT.out
                  simp only [← hq] at hleft
                  by_cases hqn : q < ts.length
                  · obtain ⟨g, c2, hga, -, -, hrd2, hcell2, -⟩ := (KT.out.below hbs).at q hqn
                    subst hga
                    obtain ⟨rfl, hr1, hr2⟩ := hrd2
                    have y0 : wr.cell? ⟨g, q, none⟩ = some (.int .i64 ts[q]) := by
                      have h := hcell2 0 (by decide)
                      simpa [intR] using h
                    have hnle := hleft hqn
                    have hrg := HG.out.rng ts[q] (List.getElem_mem _)
                    generalize ts[q] = aj at *
                    clear hcell2 hr1 hr2 hleft
                    have hwr : IntKind.i64.wrap (aj + d) = aj + d := IntWalk.i64_in _ (by omega)
                    have hd2 : decide ((q : Int) < (ts.length : Int)) = true := by simp; omega
                    have hd3 : decide (aj + d ≤ (k : Int)) = false := by simp; omega
                    clear hq
                    go_upto_region 27 with (fail)
                    go_quiet (fail)
                    go_wp2_with fail
                    go_roundw
                    case rel => exact ⟨k + 1, ts, q, oa, ocap, by omega, by go_num, rfl, HGS.out, HLEN.out, fun h => HE.out (by omega), HFIN.out _⟩
                    case measure => simp [intOf]; omega
                  · have hd2 : decide ((q : Int) < (ts.length : Int)) = false := by simp; omega
                    clear hq hleft
                    go_upto_region 27 with (fail)
                    go_quiet (fail)
                    go_wp2_with fail
                    go_roundw
                    case rel => exact ⟨k + 1, ts, q, oa, ocap, by omega, by go_num, rfl, HGS.out, HLEN.out, fun h => HE.out (by omega), HFIN.out _⟩
                    case measure => simp [intOf]; omega
            · simp only [Bool.not_eq_true] at hlk
              rw [hlk] at hlc
              go_wp2_with fail
              go_roundw
              case rel => exact ⟨k + 1, ts, nx, xa, xc, by omega, by go_num, rfl, HG.out.step, HLEN.out, by omega, HR.out⟩
              case measure => simp [intOf]; omega
          · go_wp2_with fail
            refine P.out.mono ?_
            clear P
            rintro e w1 ⟨v1, l1, rfl, k1, j1, hb1⟩
            obtain ⟨oa, ocap, hv1, -⟩ := k1.len
            obtain ⟨ja, jcap, hv2, -⟩ := j1.len
            have hu2 : ((onWay d nx (ts.drop nx)).take u).length = u := by rw [List.length_take, onWay_len, List.length_drop]; omega
            simp only [onWay_len, List.length_drop, hu2] at hv1 hv2
            subst hv1 hv2
            have hR := HR.out
            have hsz0 : w.heap.size < wr.heap.size := hR.row.lt
            have hsz1 := hb1.size
            have hown := hR.ticks.lt
            have k1 := (k1.lt (S' := fun b => w.heap.size < b ∧ some b ≠ Value.ownBlock (.slice aa ts.length ac)) (by decide) (fun b hb _ => by
              rcases hb with hb | hb
              · exact hb
              · exact ⟨by omega, fun hx => by have := (hown b hx.symm).2; omega⟩))
            have hal := (Below.refl w1.heap.size w1).alloc (Nat.le_refl _) (.cells #[.int .i64 d, .slice oa (ts.length - (nx + u)) ocap] 27)
            have hbw := hb1.trans (hal.mono hsz1)
            have rt := hR.row.below hbw hR.row.lt
            have rx := Row.new w1 27 [.int .i64 d, .slice oa (ts.length - (nx + u)) ocap]
            have kt := hR.ticks.below hbw
            have k1 := k1.below hal
            have j1 := j1.below hal
            have hbx := hR.bel.trans (hbw.mono hR.bel.size)
            clear hR HR t0 t1 hbw hal hb1
            have RT := Lib.hid rt; clear rt
            have RX := Lib.hid rx; clear rx
            have KT := Lib.hid kt; clear kt
            have K1 := Lib.hid k1; clear k1
            have J1 := Lib.hid j1; clear j1
            have HBX := Lib.hid hbx; clear hbx
            go_wp2_with fail
            generalize w1.alloc _ = W2 at *
            generalize hX : w1.heap.size = X at *
            go_loopw [9, 17] (fun n i ws => ∃ j q : Nat, q = nx + j ∧ j ≤ u ∧ i = .int .i64 j ∧ n = .int .i64 q ∧ Below W2.heap.size W2 ws) (fun _ i _ => u - (intOf i).toNat)
            case atStart => exact ⟨0, nx, rfl, by omega, rfl, rfl, Below.refl _ _⟩
            case round =>
              obtain ⟨j, q, hq, hj, rfl, rfl, hbs⟩ := hrel
              have hq60 : q ≤ 60 := by have := HG.out.few; omega
              have hj60 : j ≤ 60 := by omega
              by_cases hju : j < u
              · have hnl : q < ts.length := by omega
                obtain ⟨b, off, c, rfl, -, hrd, hcell⟩ := (J1.out.below hbs).at j (by rw [hu2]; exact hju)
                obtain ⟨pd, pt, rfl, -⟩ := hrd
                have hmj : ((onWay d nx (ts.drop nx)).take u)[j]'(by rw [hu2]; exact hju) = ⟨ts[q] + d, 0, 0, 0, (q : Nat), [], []⟩ := by
                  subst hq
                  rw [List.getElem_take, onWay_get d _ _ _ (by rw [List.length_drop]; omega)]
                  simp
                have x4 : wr.cell? ⟨b, off + j * 7 + 4, none⟩ = some (.int .i64 (q : Int)) := by
                  have h := hcell 4 (by decide)
                  rw [hmj] at h
                  exact h
                obtain ⟨g, c2, hga, -, -, hrd2, hcell2, -⟩ := (KT.out.below hbs).at q hnl
                subst hga
                obtain ⟨rfl, hr1, hr2⟩ := hrd2
                have y0 : wr.cell? ⟨g, q, none⟩ = some (.int .i64 ts[q]) := by
                  have h := hcell2 0 (by decide)
                  simpa [intR] using h
                have hle := HCOME.out q hnl (by omega) (by omega)
                have hrg := HG.out.rng ts[q] (List.getElem_mem _)
                have t0 : wr.cell? ⟨w.heap.size, 0, none⟩ = some (.int .i64 d) := (RT.out.below hbs RT.out.lt).cell 0
                generalize ts[q] = aj at *
                clear hcell hcell2 hmj hr1 hr2
                have hwr : IntKind.i64.wrap (aj + d) = aj + d := IntWalk.i64_in _ (by omega)
                have hd2 : decide ((ts.length : Int) ≤ (q : Int)) = false := by simp; omega
                have hd3 : decide ((k : Int) < aj + d) = false := by simp; omega
                have HQ := Lib.hid hq; clear hq
                go_upto_region 24 with (fail)
                go_quiet (fail)
                go_wp2_with fail
                go_roundw
                case rel => exact ⟨j + 1, q + 1, by rw [HQ.out]; omega, by omega, by go_num, by go_num, hbs.trans ⟨rfl, rfl, rfl, Nat.le_refl _, fun _ _ => rfl⟩⟩
                case measure => simp [intOf]; omega
              · obtain rfl : j = u := by omega
                have x0 : ∀ n, (wr.drewN n).cell? ⟨X, 0, none⟩ = some (.int .i64 d) := fun n => (RX.out.below hbs RX.out.lt).cell 0
                have x1 : ∀ n, (wr.drewN n).cell? ⟨X, 1, none⟩ = some (.slice oa (ts.length - (nx + j)) ocap) := fun n => (RX.out.below hbs RX.out.lt).cell 1
                have t0 : wr.cell? ⟨w.heap.size, 0, none⟩ = some (.int .i64 d) := (RT.out.below hbs RT.out.lt).cell 0
                have tt0 : ∀ n, (wr.drewN n).cell? ⟨w.heap.size, 0, none⟩ = some (.int .i64 d) := fun n => t0
                have tt1 : ∀ n, (wr.drewN n).cell? ⟨w.heap.size, 1, none⟩ = some (.slice xa (ts.length - nx) xc) := fun n => (RT.out.below hbs RT.out.lt).cell 1
                have ft : ∀ n o, (wr.drewN n).frozen? ⟨w.heap.size, o, none⟩ = false := fun n o => (RT.out.below hbs RT.out.lt).frz o
                generalize hm1 : ts.length - (nx + j) = m1 at *
                have hTX : w.heap.size ≠ X := by omega
                have HM1 := Lib.hid hm1; clear hm1
                have HFIN : ∀ n : Nat, Rows w d ts q (.slice aa ts.length ac) (((wr.drewN n).setCell ⟨w.heap.size, 0, none⟩ (.int .i64 d)).setCell ⟨w.heap.size, 1, none⟩ (.slice oa m1 ocap)) oa ocap := fun n => by
                  subst hq
                  have e1 := HM1.out
                  subst e1
                  have hbd : Below W2.heap.size W2 (wr.drewN n) := hbs.trans ⟨rfl, rfl, rfl, Nat.le_refl _, fun _ _ => rfl⟩
                  refine ⟨((RT.out.below hbd RT.out.lt).set 0 _).set 1 _, ?_, ?_, ?_⟩
                  · refine (K1.out.below hbd).kept (fun b hb _ => ?_)
                    have h2 : b ≠ w.heap.size := by omega
                    rw [Below.heap_setCell _ _ _ _ h2, Below.heap_setCell _ _ _ _ h2]
                  · have h1 : (Value.slice aa ts.length ac).ownBlock ≠ some w.heap.size := fun hx => by have := hown _ hx; omega
                    exact (((KT.out.below hbd).ints (S' := fun _ => False)).setOther _ h1 (fun h => h)).setOther _ h1 (fun h => h) |>.ints
                  · exact ((HBX.out.trans (hbd.mono HBX.out.size)).setCell (by simp) _).setCell (by simp) _
                have HFIN := Lib.hid HFIN
                have hgs := HGN.out.step
                rw [← hq] at hgs
                have HGS := Lib.hid hgs; clear hgs
                have hend2 : (k : Int) = 99 → q = ts.length := fun h => by rw [hq]; exact h99 h
                have HE := Lib.hid hend2; clear hend2 h99
                have hleft := HLEFT.out
                simp only [← hq] at hleft
                by_cases hqn : q < ts.length
                · obtain ⟨g, c2, hga, -, -, hrd2, hcell2, -⟩ := (KT.out.below hbs).at q hqn
                  subst hga
                  obtain ⟨rfl, hr1, hr2⟩ := hrd2
                  have y0 : wr.cell? ⟨g, q, none⟩ = some (.int .i64 ts[q]) := by
                    have h := hcell2 0 (by decide)
                    simpa [intR] using h
                  have hnle := hleft hqn
                  have hrg := HG.out.rng ts[q] (List.getElem_mem _)
                  generalize ts[q] = aj at *
                  clear hcell2 hr1 hr2 hleft
                  have hwr : IntKind.i64.wrap (aj + d) = aj + d := IntWalk.i64_in _ (by omega)
                  have hd2 : decide ((q : Int) < (ts.length : Int)) = true := by simp; omega
                  have hd3 : decide (aj + d ≤ (k : Int)) = false := by simp; omega
                  clear hq
                  go_upto_region 27 with (fail)
                  go_quiet (fail)
                  go_wp2_with fail
                  go_roundw
                  case rel => exact ⟨k + 1, ts, q, oa, ocap, by omega, by go_num, rfl, HGS.out, HLEN.out, fun h => HE.out (by omega), HFIN.out _⟩
                  case measure => simp [intOf]; omega
                · have hd2 : decide ((q : Int) < (ts.length : Int)) = false := by simp; omega
                  clear hq hleft
                  go_upto_region 27 with (fail)
                  go_quiet (fail)
                  go_wp2_with fail
                  go_roundw
                  case rel => exact ⟨k + 1, ts, q, oa, ocap, by omega, by go_num, rfl, HGS.out, HLEN.out, fun h => HE.out (by omega), HFIN.out _⟩
                  case measure => simp [intOf]; omega
    · obtain rfl : k = 100 := by omega
      obtain rfl := hend rfl
      obtain ⟨aa, ac, rfl⟩ := hR.ticks.len
      go_wp2_with fail
      refine (awake_any _).mono ?_
      rintro e w1 ⟨rfl, hb⟩
      have hbx := hR.bel.trans (hb.mono hR.bel.size)
      go_wp2_with fail
      refine bodyPost_ret (v := .bool true) (by simp [results, Try.results3, go_sem]) rfl ⟨rfl, hbx⟩
end Go.Proofs.Ytmfifkkmbkcibaa
