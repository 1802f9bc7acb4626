/-
  The walk of AnchorPaths.
-/
import Derived.Test.YtmfifkkmbkcibaaAnchS
import Derived.BigQuiet
namespace Go.Proofs.Ytmfifkkmbkcibaa
set_option linter.unusedVariables false
open Go.RowKit

theorem Bts.at' {w : World} {a : Option Addr} {n cap : Nat} {l : List UInt8} (h : Bts w (.slice a n cap) l) (i : Nat) (hi : i < l.length) : ∃ b off, a = some ⟨b, off, none⟩ ∧ w.cell? ⟨b, off + i, none⟩ = some (.int .u8 (B l[i])) := by
  rcases h with ⟨-, rfl⟩ | ⟨b, off, cap', hv, -, -, hc⟩
  · simp at hi
  · simp at hv
    obtain ⟨rfl, -, -⟩ := hv
    refine ⟨b, off, rfl, ?_⟩
    have := hc i hi
    rw [List.getD_eq_getElem?_getD, List.getElem?_eq_getElem hi] at this
    exact this
theorem mapI_get (l : List Int) (i : Nat) (h : i < l.length) : (l.map (Value.int .i64))[i]? = some (.int .i64 l[i]) := by
  simp [h]
theorem route_good (xs : List Int) (k : Nat) (hk : k < xs.length) (h : ∀ x ∈ xs, x = -1 ∨ isCell x = true) : route xs k = xs[k] := by
  unfold route
  rw [if_pos ⟨by omega, by omega⟩]
  simp only [Int.toNat_natCast, List.getD_eq_getElem?_getD, List.getElem?_eq_getElem hk, Option.getD_some]
  rcases h xs[k] (List.getElem_mem hk) with h | h
  · split <;> simp_all
  · rw [if_pos h]
theorem sw_good (xs : List Int) (k : Nat) (c : Int) (hk : k < xs.length) (hc : isCell c = true) : swErr xs k c = 0 ∧ swOut xs k c = xs.set k c ∧ swOld xs k c = route xs k := by
  have he : swErr xs k c = 0 := by unfold swErr; rw [if_neg (by omega), if_pos hc]
  refine ⟨he, ?_, ?_⟩
  · unfold swOut; rw [if_pos he]; simp
  · unfold swOld; rw [if_pos he]
theorem isCell_rng (x : Int) (h : x = -1 ∨ isCell x = true) : rng x := by
  unfold isCell at h
  unfold rng
  simp at h
  omega
theorem good_set (xs : List Int) (k : Nat) (c : Int) (hc : isCell c = true) (h : ∀ x ∈ xs, x = -1 ∨ isCell x = true) : ∀ x ∈ xs.set k c, x = -1 ∨ isCell x = true := by
  intro x hx
  rcases List.mem_or_eq_of_mem_set hx with hx | rfl
  · exact h x hx
  · exact .inr hc

/-- What the rounds leave in memory. -/
structure Paths (w : World) (A G n : Nat) (xs : List Int) (wr : World) (aa : Option Addr) (ac : Nat) : Prop where
  row : Row wr A 39 [.slice aa n ac]
  sl : Sl intR (fun b => b ≠ A ∧ b ≠ G) wr (.slice aa n ac) xs
  want : Row wr G 3 (xs.map (Value.int .i64))
  len : xs.length = n
  good : ∀ x ∈ xs, x = -1 ∨ isCell x = true
  bel : Below w.heap.size w wr

theorem Paths.same {w : World} {A G n : Nat} {xs : List Int} {wr wr' : World} {aa : Option Addr} {ac : Nat} (P : Paths w A G n xs wr aa ac) (hb : Below wr.heap.size wr wr') : Paths w A G n xs wr' aa ac :=
  ⟨P.row.below hb P.row.lt, P.sl.below hb, P.want.below hb P.want.lt, P.len, P.good, P.bel.trans (hb.mono P.bel.size)⟩
theorem Paths.next {w : World} {A G n : Nat} {xs : List Int} {wr : World} {aa xa : Option Addr} {ac xc : Nat} (P : Paths w A G n xs wr aa ac) (t : Nat) (c : Int) (ht : t < n) (hc : isCell c = true) (hAG : A ≠ G) (hA : w.heap.size ≤ A) (hG : w.heap.size ≤ G)
    (hs : Sl intR (fun b => b ≠ A ∧ b ≠ G) wr (.slice xa n xc) (xs.set t c)) : Paths w A G n (xs.set t c) ((wr.setCell ⟨A, 0, none⟩ (.slice xa n xc)).setCell ⟨G, t, none⟩ (.int .i64 c)) xa xc := by
  refine ⟨?_, ?_, ?_, by simp [P.len], good_set xs t c hc P.good, (P.bel.setCell (p := ⟨A, 0, none⟩) hA _).setCell (p := ⟨G, t, none⟩) hG _⟩
  · exact (P.row.set 0 (.slice xa n xc)).setOther _ hAG
  · refine (hs.kept (w' := wr.setCell ⟨A, 0, none⟩ (.slice xa n xc)) (fun b hb _ => Below.heap_setCell _ _ _ _ hb.1)).kept (fun b hb _ => Below.heap_setCell _ _ _ _ hb.2)
  · rw [List.map_set]
    exact (P.want.setOther _ hAG.symm).set t _

set_option maxRecDepth 100000 in
set_option maxHeartbeats 4000000 in
theorem paths_any (ss : List UInt8) (pv : Value) (tm : UInt8) (w : World) (hp : Bts w pv ss) :
    Calls Try.prog 5 #[pv, .int .u8 (B tm)] w fun e w' => e = .returned (.bool true) ∧ Below w.heap.size w w' := by
  obtain ⟨i0, hi0, hz0, hz1, hz2⟩ := info_parts (P := Try.prog) (e := 3) (z := .int .i64 0) (size := 1) (bytes := 8) (by kernel_rfl)
  obtain ⟨pa, pcap, rfl, hpl⟩ := hp.len
  have HP := Lib.hid hp; clear hp
  have hB0 := B_lo tm
  have hB1 := B_hi tm
  obtain ⟨n, hn⟩ : ∃ n : Nat, 1 + B tm % 4 = n := ⟨(1 + B tm % 4).toNat, by omega⟩
  have hn1 : 1 ≤ n := by omega
  have hn4 : n ≤ 4 := by omega
  go_enter Try.func5, Try.ntmps5
  go_wp2_with fail
  refine (new_any _ _).mono ?_
  rw [show newErr n = 0 by unfold newErr; rw [if_neg (by omega)], show newOut n = List.replicate n (-1) by unfold newOut; rw [if_neg (by omega)]; simp]
  rintro e w1 ⟨v1, rfl, k1, hb1⟩
  obtain ⟨aa, ac, rfl, -⟩ := k1.len
  rw [List.length_replicate] at *
  clear hn
  have hal := (Below.refl w1.heap.size w1).alloc (Nat.le_refl _) (.cells #[.slice aa n ac] 39)
  have rA := Row.new w1 39 [.slice aa n ac]
  have k1 := (k1.lt (S' := fun b => b < w1.heap.size) (by decide) (fun b hb hlt => hlt)).below hal
  have hbx := hb1.trans (hal.mono hb1.size)
  have hwA : w.heap.size ≤ w1.heap.size := hb1.size
  go_upto_region 3 with (fail)
  generalize hWA : w1.alloc (.cells #[.slice aa n ac] 39) = WA at *
  have hAW : w1.heap.size + 1 = WA.heap.size := by rw [← hWA]; simp
  clear hWA hb1 hal
  generalize hA : w1.heap.size = A at *
  clear hA
  obtain ⟨w2, hmk, hown2, hg2⟩ := run_make_full (P := Try.prog) WA WA.heap.size 28 3 i0 (.int .i64 0) 1 Try.underlying28 hi0 hz0 hz1 .i64 .i64 n (by rw [hz2]; omega) (by unfold maxLen; omega) (Nat.le_refl _)
  have hb2 : Below WA.heap.size WA w2 := ⟨hg2.os, hg2.tape, hg2.output, hg2.size, fun k hk => hg2.block k hk (by simp)⟩
  obtain ⟨ls, hrow, hlen⟩ : ∃ ls, Row w2 WA.heap.size 3 ls ∧ ls.length = n := by
    rcases hown2.2 with ⟨h0, -⟩ | ⟨g', cap', cur, hv, hbg, hg, hnc, hcm, hcs, htake⟩
    · simp at h0
    · simp at hv
      obtain ⟨rfl, rfl⟩ := hv
      exact ⟨cur.toList, ⟨by simpa using hg⟩, by simpa using hcs⟩
  have rA := rA.below hb2 (by omega)
  have k1 := k1.below hb2
  have hbx := hbx.trans (hb2.mono hbx.size)
  have S0 := Lib.hid (And.intro rA (And.intro k1 (And.intro hrow (And.intro hlen hbx))))
  clear rA k1 hbx hrow hlen hb2 hown2 hg2
  obtain ⟨G, hG⟩ : ∃ G, WA.heap.size = G := ⟨_, rfl⟩
  rw [hG] at hmk hAW S0
  have HG := Lib.hid hG
  go_wp2_with fail
  clear hmk hG HG
  go_loopw [9] (fun i wr => ∃ (k : Nat) (ls : List Value), k ≤ n ∧ i = .int .i64 k ∧ Row wr A 39 [.slice aa n ac] ∧ Sl intR (fun b => b < A) wr (.slice aa n ac) (List.replicate n (-1)) ∧ Row wr G 3 ls ∧ ls.length = n ∧ ls.take k = List.replicate k (.int .i64 (-1)) ∧ Below w.heap.size w wr) (fun i _ => n - (intOf i).toNat)
  case atStart => exact ⟨0, ls, by omega, rfl, S0.out.1, S0.out.2.1, S0.out.2.2.1, S0.out.2.2.2.1, by simp, S0.out.2.2.2.2⟩
  case round =>
    clear S0
    obtain ⟨k, ls, hk, rfl, rA, k1, hrow, hlen, htk, hbel⟩ := hrel
    by_cases hlt : k < n
    · have c0 := hrow.cell k
      rw [List.getElem?_eq_getElem (by omega)] at c0
      have cf := hrow.frz k
      have hst : (ls.set k (.int .i64 (-1))).take (k + 1) = List.replicate (k + 1) (.int .i64 (-1)) := by
        rw [List.take_succ_eq_append_getElem (by simp; omega)]
        simp [List.take_set_of_le, htk, List.replicate_succ']
      have R := Lib.hid (And.intro (rA.setOther (g' := G) (o := k) (.int .i64 (-1)) (by omega)) (And.intro (k1.kept (w' := wr.setCell ⟨G, k, none⟩ (.int .i64 (-1))) (fun b hb _ => Below.heap_setCell _ _ _ _ (by show b ≠ G; omega))) (And.intro (hrow.set k (.int .i64 (-1))) (And.intro hlen (And.intro hst (hbel.setCell (p := ⟨G, k, none⟩) (by show w.heap.size ≤ G; omega) (.int .i64 (-1))))))))
      clear rA k1 hrow htk hbel hst
      generalize ls[k] = x0 at *
      clear hlen
      go_wp2_with fail
      go_roundw
      case rel => exact ⟨k + 1, _, by omega, by go_num, R.out.1, R.out.2.1, R.out.2.2.1, by simp [R.out.2.2.2.1], R.out.2.2.2.2.1, R.out.2.2.2.2.2⟩
      case measure => simp [intOf]; omega
    · have P0 : Paths w A G n (List.replicate n (-1)) wr aa ac := by
        refine ⟨rA, k1.lt (by decide) (fun b hb _ => ⟨by omega, by omega⟩), ?_, by simp, fun x hx => .inl (List.eq_of_mem_replicate hx), hbel⟩
        rw [show k = n by omega, ← hlen, List.take_length] at htk
        rw [List.map_replicate, ← hlen, ← htk]; exact hrow
      have P0 := Lib.hid P0
      clear rA k1 hrow hlen htk hbel
      have hpq : decide ((k : Int) < (n : Int)) = false := by simp; omega
      go_wp2_with fail
      clear hpq
      go_loopw [10] (fun i wr => ∃ (k : Nat) (xs : List Int) (aa : Option Addr) (ac : Nat), k ≤ ss.length ∧ k ≤ 60 ∧ i = .int .i64 k ∧ Paths w A G n xs wr aa ac) (fun i _ => 60 - (intOf i).toNat)
      case atStart => exact ⟨0, _, aa, ac, by omega, by omega, rfl, P0.out⟩
      case round =>
        clear P0
        obtain ⟨k, xs, aa, ac, hk, hk60, rfl, P⟩ := hrel
        by_cases hlt : k < ss.length ∧ k < 60
        · obtain ⟨hlt, hlt60⟩ := hlt
          obtain ⟨pb, po, hpa, hpc⟩ := HP.out.at' k hlt
          have hpc := (P.bel.cell (p := ⟨pb, po + k, none⟩) (World.block_lt_of_cell? _ _ hpc)).trans hpc
          have hb0 := B_lo ss[k]
          have hb1 := B_hi ss[k]
          generalize B ss[k] = pc at *
          have HPP := Lib.hid P; clear P
          subst hpa
          have hnz : ((n : Int) == 0) = false := by simp; omega
          go_upto_region 11 with (fail)
          go_quiet (fail)
          have P := HPP.out.same (wr' := wr.drewN nq) ⟨rfl, rfl, rfl, Nat.le_refl _, fun _ _ => rfl⟩
          generalize wr.drewN nq = wq at *
          clear hpc HPP hnz
          obtain ⟨t, ht⟩ : ∃ t : Nat, pc % (n : Int) = t := ⟨(pc % (n : Int)).toNat, by have := Int.emod_nonneg pc (b := n) (by omega); omega⟩
          have htn : t < n := by have := Int.emod_lt_of_pos pc (b := n) (by omega); omega
          rw [ht]
          have hc : isCell (pc / 8 % 3) = true := by unfold isCell; simp; omega
          generalize pc / 8 % 3 = c at *
          clear ht hb0 hb1
          have hlx : t < xs.length := by rw [P.len]; exact htn
          obtain ⟨s1, s2, s3⟩ := sw_good xs t c hlx hc
          have C := switch_any _ xs t c _ wq P.sl (by rw [P.len]; omega) (isCell_rng c (.inr hc))
          rw [s1, s2, s3, route_good xs t hlx P.good] at C
          clear s1 s2 s3
          have a0 : wq.cell? ⟨A, 0, none⟩ = some (.slice aa n ac) := P.row.cell 0
          have HPP := Lib.hid P; clear P
          have HC := Lib.hid hc; clear hc
          go_wp2_with fail
          refine C.mono ?_
          clear C
          rintro e w3 ⟨v3, rfl, k3, hb3⟩
          obtain ⟨xa, xc, hv3, -⟩ := k3.len
          rw [List.length_set, HPP.out.len] at hv3
          subst hv3
          have hal := (Below.refl w3.heap.size w3).alloc (Nat.le_refl _) (.cells #[.slice xa n xc] 39)
          have rx := Row.new w3 39 [.slice xa n xc]
          have hb3x := hb3.trans (hal.mono hb3.size)
          have P := HPP.out.same hb3x
          have hAq := HPP.out.row.lt
          have hGq := HPP.out.want.lt
          have k3 := (k3.lt (S' := fun b => b ≠ A ∧ b ≠ G) (by decide) (fun b hb _ => ⟨by omega, by omega⟩)).below hal
          have hsz3 := hb3.size
          clear HPP a0
          go_upto_region 13 with (fail)
          generalize w3.alloc (.cells #[.slice xa n xc] 39) = W3 at *
          generalize hX : w3.heap.size = X at *
          have a0 : W3.cell? ⟨A, 0, none⟩ = some (.slice aa n ac) := P.row.cell 0
          have a1 : W3.cell? ⟨X, 0, none⟩ = some (.slice xa n xc) := rx.cell 0
          have a2 : W3.cell? ⟨G, t, none⟩ = some (.int .i64 xs[t]) := (P.want.cell t).trans (mapI_get xs t hlx)
          have f0 := P.row.frz 0
          have f2 := P.want.frz t
          have hAG : A ≠ G := by omega
          have P := P.next t c htn HC.out hAG hwA (by omega) k3
          have hxx : (xs[t] != xs[t]) = false := by simp
          generalize xs[t] = xt at *
          have HPP := Lib.hid P; clear P
          clear hal hb3 hb3x k3 hX rx
          go_wp2_with fail
          generalize xs.set t c = ys at *
          generalize (W3.setCell _ _).setCell _ _ = W4 at *
          clear a0 a1 a2 f0 f2 hxx hlx
          go_loopw [16] (fun i wr => ∃ j : Nat, j ≤ n ∧ i = .int .i64 j ∧ Paths w A G n ys wr xa xc) (fun i _ => n - (intOf i).toNat)
          case atStart => exact ⟨0, by omega, rfl, HPP.out⟩
          case round =>
            clear HPP
            obtain ⟨j, hj, rfl, P⟩ := hrel
            by_cases hjn : j < n
            · have hjl : j < ys.length := by rw [P.len]; exact hjn
              have x0 : wr.drew.cell? ⟨A, 0, none⟩ = some (.slice xa n xc) := P.row.cell 0
              have x1 : wr.drew.cell? ⟨G, j, none⟩ = some (.int .i64 ys[j]) := (P.want.cell j).trans (mapI_get ys j hjl)
              have C := fun w S h => route_any (.slice xa n xc) ys j S w h
              rw [route_good ys j hjl P.good] at C
              have P := P.same (wr' := wr.drew) ⟨rfl, rfl, rfl, Nat.le_refl _, fun _ _ => rfl⟩
              have hgt := (P.want.cell j).trans (mapI_get ys j hjl)
              have hgt' : ∀ w', Below wr.drew.heap.size wr.drew w' → w'.cell? ⟨G, j, none⟩ = some (.int .i64 ys[j]) := fun w' hb => ((P.want.below hb P.want.lt).cell j).trans (mapI_get ys j hjl)
              have hxx : (ys[j] != ys[j]) = false := by simp
              generalize ys[j] = yj at *
              have HPP := Lib.hid P; clear P
              have HGT := Lib.hid hgt'; clear hgt' hgt hjl
              go_upto_region 19 with (fail)
              go_region_held3 (fun w' => w'.cell? ⟨A, 0, none⟩ = some (.slice xa n xc) ∧ w'.cell? ⟨G, j, none⟩ = some (.int .i64 yj))
                (first | with_reducible exact ⟨x0, x1⟩ | with_reducible exact ⟨y0, y1⟩)
                (first | (go_at_call 21; refine (C _ _ HPP.out.sl).mono ?_; rintro e w4 ⟨rfl, hb4⟩; have P4 := HPP.out.same hb4; have y0 : w4.cell? ⟨A, 0, none⟩ = some (.slice xa n xc) := P4.row.cell 0; have y1 : w4.cell? ⟨G, j, none⟩ = some (.int .i64 yj) := HGT.out w4 hb4))
              have HP4 := Lib.hid P4; clear P4 hb4
              go_wp2_with fail
              go_roundw
              case rel => exact ⟨j + 1, by omega, by go_num, HP4.out⟩
              case measure => simp [intOf]; omega
            · have HPP := Lib.hid P; clear P
              go_wp2_with fail
              go_roundw
              case rel => exact ⟨k + 1, ys, xa, xc, by omega, by omega, by go_num, HPP.out⟩
              case measure => simp [intOf]; omega
        · have a0 : wr.cell? ⟨A, 0, none⟩ = some (.slice aa n ac) := P.row.cell 0
          have hw := P.want.slI (S := fun _ => True) (fun x hx => isCell_rng x (P.good x hx)) (by rw [P.len]; omega) trivial
          rw [P.len] at hw
          have C := sameInts_any _ _ xs xs _ _ wr P.sl hw
          rw [show decide (xs = xs) = true by simp] at C
          have HPP := Lib.hid P; clear P
          clear hw
          by_cases h1 : k < ss.length
          · have h2 : ¬ k < 60 := by omega
            go_wp2_with fail
            refine C.mono ?_
            clear C
            rintro e w4 ⟨rfl, hb4⟩
            have P4 := Lib.hid (HPP.out.same hb4)
            clear hb4
            go_wp2_with fail
            refine (awake_any _).mono ?_
            rintro e w5 ⟨rfl, hb5⟩
            have hbx := P4.out.bel.trans (hb5.mono P4.out.bel.size)
            have HBX := Lib.hid hbx; clear hbx hb5
            go_wp2_with fail
            refine bodyPost_ret (v := .bool true) (by simp [results, Try.results5, go_sem]) rfl ⟨rfl, HBX.out⟩
          · go_wp2_with fail
            refine C.mono ?_
            clear C
            rintro e w4 ⟨rfl, hb4⟩
            have P4 := Lib.hid (HPP.out.same hb4)
            clear hb4
            go_wp2_with fail
            refine (awake_any _).mono ?_
            rintro e w5 ⟨rfl, hb5⟩
            have hbx := P4.out.bel.trans (hb5.mono P4.out.bel.size)
            have HBX := Lib.hid hbx; clear hbx hb5
            go_wp2_with fail
            refine bodyPost_ret (v := .bool true) (by simp [results, Try.results5, go_sem]) rfl ⟨rfl, HBX.out⟩
end Go.Proofs.Ytmfifkkmbkcibaa
