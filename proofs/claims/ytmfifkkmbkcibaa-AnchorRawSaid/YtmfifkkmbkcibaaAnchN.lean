/-
  The contracts of math/bits.Mul at small numbers, slices.Repeat of one number, anchor.New.
-/
import Derived.Test.YtmfifkkmbkcibaaAnchC
import Derived.Laws.CopyRow
namespace Go.Proofs.Ytmfifkkmbkcibaa
set_option linter.unusedVariables false
open Go.RowKit

set_option maxRecDepth 100000 in
set_option maxHeartbeats 1000000 in
theorem mul64_one (n : Int) (hn : n = 1 ∨ n = 2 ∨ n = 3 ∨ n = 4) (w : World) :
    Calls Try.prog 41 #[.int .u64 1, .int .u64 n] w fun e w' => e = .returned (.tuple #[.int .u64 0, .int .u64 n]) ∧ w' = w := by
  have b1 : bits .and .u64 1 4294967295 = 1 := by decide
  have b2 : bits .and .u64 2 4294967295 = 2 := by decide
  have b3 : bits .and .u64 3 4294967295 = 3 := by decide
  have b4 : bits .and .u64 4 4294967295 = 4 := by decide
  have b0 : bits .and .u64 0 4294967295 = 0 := by decide
  rcases hn with rfl | rfl | rfl | rfl
  all_goals
    go_enter Try.func41, Try.ntmps41
    go_wp2_with fail
    refine bodyPost_ret (by simp [results, Try.results41, go_sem]) rfl ⟨rfl, rfl⟩
set_option maxHeartbeats 1000000 in
theorem mul_one' (n : Int) (hn : n = 1 ∨ n = 2 ∨ n = 3 ∨ n = 4) (w : World) :
    Calls Try.prog 37 #[.int .u64 1, .int .u64 n] w fun e w' => e = .returned (.tuple #[.int .u64 0, .int .u64 n]) ∧ w' = w := by
  have C := mul64_one n hn w
  go_enter Try.func37, Try.ntmps37
  go_wp2_with fail
  refine C.mono ?_
  rintro e w1 ⟨rfl, rfl⟩
  go_wp2_with fail
  refine bodyPost_ret (v := .tuple #[.int .u64 0, .int .u64 n]) (by simp [results, Try.results37, go_sem]) rfl ⟨rfl, rfl⟩

/-- A copy whose run is known, inside a region that draws its order. -/
theorem step_copy_run {P : Program} {ops : Array Oper} {o : Oper} {a : Act} {w : World} {K : Act → World → Prop} {Q : Exit → Act → World → Prop} {E : Prop} (hgd : o.guard = none) (s x : Operand) (t : TypeId)
    (ho : o.op = .call { callee := .builtin .copy, args := #[s, x], argTypes := #[t, t] }) (dv v : Value) (hs : a.eval s = dv) (hx : a.eval x = v) {v' : Value} {w' : World}
    (hr : (Builtin.copy_ #[t, t] o.type #[dv, v]).run P w = .ok v' w') (h : K (a.put o.dst v') w') : if Region.wanted o (yielded ops a.tmps) = true then Oper.wp P o a w K Q else E := by
  simp only [Region.wanted, hgd, if_true]
  unfold Oper.wp execOp
  simp only [ho, resolve, invoke, builtin, Sem.run_bind, Sem.run_pure, Result.andThen_ok, List.map_toArray, List.map_cons, List.map_nil, hs, hx, hr]
  exact h

/-- A copy into a row of one-cell elements, from the place o on. -/
theorem copy_row1 {P : Program} {w : World} {g o dLen dCap : Nat} {T E : TypeId} {ls : List Value} (hu : P.underlying T = some (.slice E)) (hs : (P.info? E).map (·.size) = some 1) (ty : TypeId) (h : Row w g E ls) (x : Value) (h1 : x.oneCell' = true) (ho : o + dLen ≤ ls.length)
    (ad : Addr) (sLen sCap : Nat) (hsrc : ∀ j, j < sLen → w.cell? (ad.add j) = some x) (hk : ls.take o = List.replicate o x) :
    ∃ w' ls', (Builtin.copy_ #[T, T] ty #[.slice (some ⟨g, o, none⟩) dLen dCap, .slice (some ad) sLen sCap]).run P w = .ok (.int .i64 ((min sLen dLen : Nat) : Int)) w' ∧ Row w' g E ls' ∧ ls'.length = ls.length ∧ ls'.take (o + min sLen dLen) = List.replicate (o + min sLen dLen) x ∧ w.grownBy w' (some g) := by
  have hr := run_copy_row (P := P) w T T ty E g o dLen dCap ad sLen sCap ls.toArray E (List.replicate (min sLen dLen) x) hu hs h.blk (by simp) (fun j v hj => by
      rw [List.getElem?_replicate] at hj
      split at hj
      · rename_i hlt
        injection hj with hj
        subst hj
        exact hsrc j (by omega)
      · simp at hj) (by simp; omega) (fun v hv => by rw [List.eq_of_mem_replicate hv]; exact h1)
  rw [List.length_replicate] at hr
  have hgi : goInt ((min sLen dLen : Nat) : Int) = .int .i64 ((min sLen dLen : Nat) : Int) := by simp [goInt]
  rw [hgi] at hr
  refine ⟨_, _, hr, ⟨setRow_heap w g _ _ E _ h.blk⟩, ?_, ?_, ⟨rfl, rfl, rfl, by simp, fun k _ hk => setRow_other w g k _ (fun e => hk (by rw [e]))⟩⟩
  · simp; omega
  · show List.take _ (List.take o ls ++ _ ++ _) = _
    rw [hk, List.replicate_append_replicate, List.take_left' (by simp)]

set_option maxRecDepth 100000 in
set_option maxHeartbeats 2000000 in
theorem repeat_any (n : Nat) (hn : n = 1 ∨ n = 2 ∨ n = 3 ∨ n = 4) (b : Nat) (w : World) (hb : w.cell? ⟨b, 0, none⟩ = some (.int .i64 (-1))) :
    Calls Try.prog 28 #[.slice (some ⟨b, 0, none⟩) 1 1, .int .i64 n] w fun e w' => e = .returned (.slice (some ⟨w.heap.size, 0, none⟩) n n) ∧ Row w' w.heap.size 3 (List.replicate n (.int .i64 (-1))) ∧ Below w.heap.size w w' := by
  obtain ⟨i0, hi0, hz0, hz1, hz2⟩ := info_parts (P := Try.prog) (e := 3) (z := .int .i64 0) (size := 1) (bytes := 8) (by kernel_rfl)
  have C := mul_one' (n : Int) (by omega) w
  have hn1 : 1 ≤ n := by omega
  have hn4 : n ≤ 4 := by omega
  clear hn
  have hbl := World.block_lt_of_cell? _ _ hb
  obtain ⟨w1, hmk, hown1, hg1⟩ := run_make_full (P := Try.prog) w w.heap.size 28 3 i0 (.int .i64 0) 1 Try.underlying28 hi0 hz0 hz1 .i64 .i64 n (by rw [hz2]; omega) (by unfold maxLen; omega) (Nat.le_refl _)
  have hb1 : Below w.heap.size w w1 := ⟨hg1.os, hg1.tape, hg1.output, hg1.size, fun k hk => hg1.block k hk (by simp)⟩
  obtain ⟨ls, hrow, hlen⟩ : ∃ ls, Row w1 w.heap.size 3 ls ∧ ls.length = n := by
    rcases hown1.2 with ⟨h0, -⟩ | ⟨g', cap', cur, hv, hbg, hg, hnc, hcm, hcs, htake⟩
    · simp at h0
    · simp at hv
      obtain ⟨rfl, rfl⟩ := hv
      exact ⟨cur.toList, ⟨by simpa using hg⟩, by simpa using hcs⟩
  obtain ⟨w2, ls2, hcp, hrow2, hlen2, htk2, hg2⟩ := copy_row1 (P := Try.prog) (T := 28) Try.underlying28 (by kernel_rfl) 3 hrow (.int .i64 (-1)) rfl (o := 0) (dLen := n) (dCap := n) (by omega) ⟨b, 0, none⟩ 1 1 (fun j hj => by
    obtain rfl : j = 0 := by omega
    exact (hb1.cell (p := ⟨b, 0, none⟩) hbl).trans hb) (by simp)
  have hb2 : Below w.heap.size w w2 := hb1.grown hg2 hb1.size (fun k hk => by injection hk; omega)
  rw [show min 1 n = 1 by omega] at hcp htk2
  have R2 := Lib.hid (And.intro hrow2 (And.intro (hlen2.trans hlen) (And.intro htk2 hb2)))
  clear hrow2 hlen2 htk2 hb2 hg2 hrow hlen hb1 hg1 hown1
  go_enter Try.func28, Try.ntmps28
  go_wp2_with fail
  refine C.mono ?_
  rintro e w1 ⟨rfl, rfl⟩
  go_wp2_with fail
  clear hmk hcp C hb
  have hq1 : decide ((n : Int) < 0) = false := by simp
  have hq2 : decide ((9223372036854775807 : Int) < (n : Int)) = false := by simp; omega
  simp only [hq1, hq2]
  go_loopw [8] (fun i ws => ∃ (k : Nat) (ls : List Value), 1 ≤ k ∧ k ≤ n ∧ i = .int .i64 k ∧ Row ws w1.heap.size 3 ls ∧ ls.length = n ∧ ls.take k = List.replicate k (.int .i64 (-1)) ∧ Below w1.heap.size w1 ws) (fun i _ => n - (intOf i).toNat)
  case atStart => exact ⟨1, ls2, by omega, by omega, rfl, R2.out.1, R2.out.2.1, R2.out.2.2.1, R2.out.2.2.2⟩
  case round =>
    obtain ⟨k, ls, hk1, hk, rfl, hrow, hlen, htk, hbel⟩ := hrel
    by_cases hlt : k < n
    · obtain ⟨w3, ls3, hcp, hrow3, hlen3, htk3, hg3⟩ := copy_row1 (P := Try.prog) (T := 28) Try.underlying28 (by kernel_rfl) 3 hrow.drew (.int .i64 (-1)) rfl (o := k) (dLen := n - k) (dCap := n - k) (by omega) ⟨w1.heap.size, 0, none⟩ k n (fun j hj => by
        rw [addr_add, Nat.zero_add, hrow.drew.cell, ← List.getElem?_take_of_lt hj, htk, List.getElem?_replicate, if_pos hj]) htk
      have hb3 : Below w1.heap.size w1 w3 := hbel.drew.grown hg3 (by have := hrow.lt; simp; omega) (fun k hk => by injection hk; omega)
      have R3 := Lib.hid (And.intro hrow3 (And.intro (hlen3.trans hlen) (And.intro htk3 hb3)))
      generalize hm : min k (n - k) = m at *
      have hm1 : 1 ≤ m := by omega
      have hm2 : k + m ≤ n := by omega
      have HM := Lib.hid hm; clear hm
      clear hrow hlen htk hbel hrow3 hlen3 htk3 hb3 hg3
      have hwr : IntKind.i64.wrap ((k : Int) + (m : Int)) = (k : Int) + (m : Int) := IntWalk.i64_in _ (by omega)
      go_upto_region 9 with (fail)
      go_region_held3 (fun _ => True) (exact trivial) (first | (refine step_copy_run rfl _ _ 28 rfl _ _ rfl rfl hcp ?_))
      go_wp2_with fail
      go_roundw
      case rel => exact ⟨k + m, ls3, by omega, hm2, by go_num, R3.out.1, R3.out.2.1, R3.out.2.2.1, R3.out.2.2.2⟩
      case measure => simp [intOf]; omega
    · have RR := Lib.hid (And.intro hrow (And.intro hlen (And.intro htk hbel)))
      clear hrow hlen htk hbel
      go_wp2_with fail
      refine bodyPost_ret (v := .slice (some ⟨w1.heap.size, 0, none⟩) n n) (by simp [results, Try.results28, go_sem]) rfl ⟨rfl, ?_, RR.out.2.2.2⟩
      have h := RR.out.2.2.1
      rw [show k = n by omega, ← RR.out.2.1, List.take_length] at h
      rw [← RR.out.2.1, ← h]
      exact RR.out.1
end Go.Proofs.Ytmfifkkmbkcibaa
