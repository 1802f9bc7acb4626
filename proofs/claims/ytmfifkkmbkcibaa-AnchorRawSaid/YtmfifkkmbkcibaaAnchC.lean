/-
  The contracts of anchor.cell, anchor.Route and roll.SameInts.
-/
import Derived.Test.YtmfifkkmbkcibaaAnchW
import Derived.BigQuiet
namespace Go.Proofs.Ytmfifkkmbkcibaa
set_option linter.unusedVariables false
open Go.RowKit

def isCell (n : Int) : Bool := decide (0 ≤ n) && decide (n < 3)
theorem cell_same (n : Int) (w : World) :
    Calls Try.prog 30 #[.int .i64 n] w fun e w' => e = .returned (.bool (isCell n)) ∧ w' = w := by
  by_cases h0 : 0 ≤ n
  · have hc : isCell n = decide (n < 3) := by simp [isCell, h0]
    rw [hc]; clear hc
    go_enter Try.func30, Try.ntmps30
    go_wp2_with fail
    go_ret
    exact ⟨rfl, rfl⟩
  · have hc : isCell n = false := by simp [isCell, h0]
    rw [hc]; clear hc
    go_enter Try.func30, Try.ntmps30
    go_wp2_with fail
    go_ret
    exact ⟨rfl, rfl⟩
/-- What Route answers. -/
def route (xs : List Int) (t : Int) : Int :=
  if 0 ≤ t ∧ t < xs.length then (if isCell (xs.getD t.toNat 0) then xs.getD t.toNat 0 else -1) else -1
set_option maxRecDepth 100000 in
set_option maxHeartbeats 1000000 in
theorem route_any (v : Value) (xs : List Int) (t : Int) (S : Nat → Prop) (w : World) (hv : Sl intR S w v xs) :
    Calls Try.prog 21 #[.agg #[v], .int .i64 t] w fun e w' => e = .returned (.int .i64 (route xs t)) ∧ Below w.heap.size w w' := by
  obtain ⟨va, vcap, rfl, hm⟩ := hv.len
  have hb := (Below.refl w.heap.size w).alloc (Nat.le_refl _) (.cells #[.slice va xs.length vcap] 39)
  have HB := Lib.hid hb
  by_cases h0 : t < 0
  · have hr : route xs t = -1 := by unfold route; rw [if_neg (by omega)]
    have HR := Lib.hid hr; clear hr
    have HV := Lib.hid hv; clear hv
    go_enter Try.func21, Try.ntmps21
    go_wp2_with fail
    refine bodyPost_ret (v := .int .i64 (-1)) (by simp [results, Try.results21, go_sem]) rfl ⟨by rw [HR.out], HB.out⟩
  by_cases h1 : t < xs.length
  · obtain ⟨k, rfl⟩ := Int.eq_ofNat_of_zero_le (show 0 ≤ t by omega)
    have hk : k < xs.length := by omega
    have hr : route xs k = if isCell xs[k] then xs[k] else -1 := by
      unfold route
      rw [if_pos ⟨by omega, h1⟩]
      simp [List.getD_eq_getElem?_getD, hk]
    obtain ⟨b, off, c, rfl, -, hrd, hcell⟩ := hv.at k hk
    obtain ⟨rfl, hr1, hr2⟩ := hrd
    have y0 : w.cell? ⟨b, off + k, none⟩ = some (.int .i64 xs[k]) := by
      have h := hcell 0 (by decide)
      simpa [intR] using h
    have y1 : ∀ o, (w.alloc o).cell? ⟨b, off + k, none⟩ = some (.int .i64 xs[k]) := fun o => by
      rw [((Below.refl w.heap.size w).alloc (Nat.le_refl _) o).cell (p := ⟨b, off + k, none⟩) (World.block_lt_of_cell? _ _ y0)]; exact y0
    generalize xs[k] = x at *
    have HR := Lib.hid hr; clear hr
    have HV := Lib.hid hv; clear hv
    clear hcell y0
    by_cases hc : isCell x = true
    · have C := fun w => cell_same x w
      rw [hc] at C
      have hr := HR.out
      rw [if_pos hc] at hr
      have HR := Lib.hid hr; clear hr
      clear hc
      go_enter Try.func21, Try.ntmps21
      go_wp2_with fail
      refine (C _).mono ?_
      rintro e w1 ⟨rfl, rfl⟩
      go_wp2_with fail
      refine bodyPost_ret (v := .int .i64 x) (by simp [results, Try.results21, go_sem]) rfl ⟨by rw [HR.out], HB.out⟩
    · have C := fun w => cell_same x w
      have hc' : isCell x = false := by simpa using hc
      rw [hc'] at C
      have hr := HR.out
      rw [if_neg hc] at hr
      have HR := Lib.hid hr; clear hr
      clear hc hc'
      go_enter Try.func21, Try.ntmps21
      go_wp2_with fail
      refine (C _).mono ?_
      rintro e w1 ⟨rfl, rfl⟩
      go_wp2_with fail
      refine bodyPost_ret (v := .int .i64 (-1)) (by simp [results, Try.results21, go_sem]) rfl ⟨by rw [HR.out], HB.out⟩
  · have hr : route xs t = -1 := by unfold route; rw [if_neg (by omega)]
    have HR := Lib.hid hr; clear hr
    have HV := Lib.hid hv; clear hv
    go_enter Try.func21, Try.ntmps21
    go_wp2_with fail
    refine bodyPost_ret (v := .int .i64 (-1)) (by simp [results, Try.results21, go_sem]) rfl ⟨by rw [HR.out], HB.out⟩

set_option maxRecDepth 100000 in
set_option maxHeartbeats 1000000 in
theorem sameInts_any (v1 v2 : Value) (xs ys : List Int) (S1 S2 : Nat → Prop) (w : World) (hv1 : Sl intR S1 w v1 xs) (hv2 : Sl intR S2 w v2 ys) :
    Calls Try.prog 23 #[v1, v2] w fun e w' => e = .returned (.bool (decide (xs = ys))) ∧ Below w.heap.size w w' := by
  obtain ⟨a1, c1, rfl, hm1⟩ := hv1.len
  obtain ⟨a2, c2, rfl, hm2⟩ := hv2.len
  have HV1 := Lib.hid hv1; clear hv1
  have HV2 := Lib.hid hv2; clear hv2
  by_cases hl : xs.length = ys.length
  · go_enter Try.func23, Try.ntmps23
    have hlb : ((xs.length : Int) != (ys.length : Int)) = false := by rw [hl]; simp
    go_wp2_with fail
    go_loopw [5] (fun i ws => ∃ k : Nat, k ≤ xs.length ∧ i = .int .i64 k ∧ xs.take k = ys.take k ∧ Below w.heap.size w ws) (fun i _ => xs.length - (intOf i).toNat)
    case atStart => exact ⟨0, by omega, rfl, by simp, Below.refl _ _⟩
    case round =>
      obtain ⟨k, hk, rfl, heq, hb⟩ := hrel
      have HB := Lib.hid hb; clear hb
      have HEQ := Lib.hid heq; clear heq
      by_cases hlt : k < xs.length
      · have hlt2 : k < ys.length := by omega
        obtain ⟨b1, o1, e1, rfl, -, hrd1, hcell1⟩ := (HV1.out.below HB.out).at k hlt
        obtain ⟨b2, o2, e2, rfl, -, hrd2, hcell2⟩ := (HV2.out.below HB.out).at k hlt2
        obtain ⟨rfl, -, -⟩ := hrd1
        obtain ⟨rfl, -, -⟩ := hrd2
        have y1 : wr.cell? ⟨b1, o1 + k, none⟩ = some (.int .i64 xs[k]) := by
          have h := hcell1 0 (by decide)
          simpa [intR] using h
        have y2 : wr.cell? ⟨b2, o2 + k, none⟩ = some (.int .i64 ys[k]) := by
          have h := hcell2 0 (by decide)
          simpa [intR] using h
        clear hcell1 hcell2
        by_cases hxy : xs[k] = ys[k]
        · have hst : xs.take (k + 1) = ys.take (k + 1) := by
            rw [List.take_succ_eq_append_getElem hlt, List.take_succ_eq_append_getElem hlt2, HEQ.out, hxy]
          have HST := Lib.hid hst; clear hst
          rw [← hxy] at y2
          clear hxy
          generalize xs[k] = x at *
          have hn : (x != x) = false := by simp
          go_upto_region 6 with (fail)
          go_quiet (fail)
          go_wp2_with fail
          go_roundw
          case rel => exact ⟨k + 1, by omega, by go_num, HST.out, HB.out.trans ⟨rfl, rfl, rfl, Nat.le_refl _, fun _ _ => rfl⟩⟩
          case measure => simp [intOf]; omega
        · have hd : decide (xs = ys) = false := by
            simp; intro h; subst h; exact hxy rfl
          have HD := Lib.hid hd; clear hd
          have hn : (xs[k] != ys[k]) = true := by rw [bne_iff_ne]; exact hxy
          clear hxy
          generalize xs[k] = x at *
          generalize ys[k] = y at *
          go_upto_region 6 with (fail)
          go_quiet (fail)
          go_wp2_with fail
          refine bodyPost_ret (v := .bool false) (by simp [results, Try.results23, go_sem]) rfl ⟨by rw [HD.out], HB.out.trans ⟨rfl, rfl, rfl, Nat.le_refl _, fun _ _ => rfl⟩⟩
      · have hd : decide (xs = ys) = true := by
          have h := HEQ.out
          rw [show k = xs.length by omega, List.take_length, hl, List.take_length] at h
          simp [h]
        have HD := Lib.hid hd; clear hd
        go_wp2_with fail
        refine bodyPost_ret (v := .bool true) (by simp [results, Try.results23, go_sem]) rfl ⟨by rw [HD.out], HB.out⟩
  · have hd : decide (xs = ys) = false := by simp; intro h; rw [h] at hl; exact hl rfl
    rw [hd]; clear hd
    have hlb : ((xs.length : Int) != (ys.length : Int)) = true := by rw [bne_iff_ne]; omega
    go_enter Try.func23, Try.ntmps23
    go_wp2_with fail
    refine bodyPost_ret (v := .bool false) (by simp [results, Try.results23, go_sem]) rfl ⟨rfl, Below.refl _ _⟩
end Go.Proofs.Ytmfifkkmbkcibaa
