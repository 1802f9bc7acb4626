/-
  The contracts of anchor.Check and anchor.begin.
-/
import Derived.Test.YtmfifkkmbkcibaaOwnT
import Derived.Test.YtmfifkkmbkcibaaAnchSpec
namespace Go.Proofs.Ytmfifkkmbkcibaa
set_option linter.unusedVariables false
open Go.RowKit

set_option maxHeartbeats 2000000 in
theorem check_any (delay : Int) (v : Value) (xs : List Msg) (S : Nat → Prop) (w : World) (hv : Sl msgR S w v xs) :
    Calls Try.prog 14 #[.agg #[.int .i64 delay, v]] w fun e w' => e = .returned (.int .i64 (chk delay xs)) ∧ Below w.heap.size w w' := by
  obtain ⟨va, vcap, rfl, hm⟩ := hv.len
  have HV := Lib.hid hv; clear hv
  by_cases h1 : delay < 0
  · have hc : chk delay xs = 3 := by unfold chk; rw [if_pos (.inl h1)]
    have HC := Lib.hid hc; clear hc
    go_enter Try.func14, Try.ntmps14
    go_wp2_with fail
    go_ret
    exact ⟨by rw [HC.out]; rfl, (Below.refl _ _).alloc (Nat.le_refl _) _⟩
  by_cases h2 : 1000 < delay
  · have hc : chk delay xs = 3 := by unfold chk; rw [if_pos (.inr h2)]
    have HC := Lib.hid hc; clear hc
    go_enter Try.func14, Try.ntmps14
    go_wp2_with fail
    go_ret
    exact ⟨by rw [HC.out]; rfl, (Below.refl _ _).alloc (Nat.le_refl _) _⟩
  by_cases h3 : 256 < xs.length
  · have hc : chk delay xs = 2 := by unfold chk; rw [if_neg (by omega), if_pos h3]
    have HC := Lib.hid hc; clear hc
    go_enter Try.func14, Try.ntmps14
    go_wp2_with fail
    go_ret
    exact ⟨by rw [HC.out]; rfl, (Below.refl _ _).alloc (Nat.le_refl _) _⟩
  have hc : chk delay xs = if okm 0 xs then 0 else 4 := by unfold chk; rw [if_neg (by omega), if_neg h3]
  have HC := Lib.hid hc; clear hc
  go_enter Try.func14, Try.ntmps14
  go_wp2_with fail
  go_loopw [3, 21] (fun l i wr => ∃ (k : Nat) (last : Int), k ≤ xs.length ∧ i = .int .i64 k ∧ l = .int .i64 last ∧ rng last ∧ okm last (xs.drop k) = okm 0 xs ∧ Below w.heap.size w wr) (fun _ i _ => xs.length - (intOf i).toNat)
  case atStart => exact ⟨0, 0, by omega, rfl, rfl, ⟨by omega, by omega⟩, rfl, (Below.refl _ _).alloc (Nat.le_refl _) _⟩
  case round =>
    obtain ⟨k, last, hk, rfl, rfl, hrl, hok, hbel⟩ := hrel
    by_cases hlt : k < xs.length
    · obtain ⟨b, off, c, rfl, -, hrd, hcell⟩ := (HV.out.below hbel).at k hlt
      obtain ⟨pd, pt, rfl, p1, -, -, -, -, p6, p7⟩ := hrd
      obtain ⟨ma, mac, rfl, -⟩ := p6.len
      obtain ⟨mb, mbc, rfl, -⟩ := p7.len
      have x0 : wr.cell? ⟨b, off + k * 7, none⟩ = some (.int .i64 xs[k].arr) := hcell 0 (by decide)
      have x1 : wr.cell? ⟨b, off + k * 7 + 1, none⟩ = some (.int .i64 xs[k].kind) := hcell 1 (by decide)
      have x2 : wr.cell? ⟨b, off + k * 7 + 2, none⟩ = some (.int .i64 xs[k].terminal) := hcell 2 (by decide)
      have x3 : wr.cell? ⟨b, off + k * 7 + 3, none⟩ = some (.int .i64 xs[k].bearer) := hcell 3 (by decide)
      have x4 : wr.cell? ⟨b, off + k * 7 + 4, none⟩ = some (.int .i64 xs[k].number) := hcell 4 (by decide)
      have x5 : wr.cell? ⟨b, off + k * 7 + 5, none⟩ = some (.slice ma xs[k].data.length mac) := hcell 5 (by decide)
      have x6 : wr.cell? ⟨b, off + k * 7 + 6, none⟩ = some (.slice mb xs[k].tickets.length mbc) := hcell 6 (by decide)
      have hdr : okm last (xs.drop k) = if xs[k].arr < last ∨ 2097152 < xs[k].arr then false else okm xs[k].arr (xs.drop (k + 1)) := by
        rw [List.drop_eq_getElem_cons hlt]; rfl
      generalize hmk : xs[k] = mk at *
      clear hmk hcell p6 p7
      rw [hdr] at hok
      clear hdr
      have HBe := Lib.hid hbel; clear hbel
      by_cases g1 : mk.arr < last
      · rw [if_pos (.inl g1)] at hok
        have HK := Lib.hid hok; clear hok
        go_wp2_with fail
        go_ret
        exact ⟨by rw [HC.out, ← HK.out]; rfl, HBe.out.alloc HBe.out.size _⟩
      by_cases g2 : 2097152 < mk.arr
      · rw [if_pos (.inr g2)] at hok
        have HK := Lib.hid hok; clear hok
        go_wp2_with fail
        go_ret
        exact ⟨by rw [HC.out, ← HK.out]; rfl, HBe.out.alloc HBe.out.size _⟩
      rw [if_neg (by omega)] at hok
      have HK := Lib.hid hok; clear hok
      have HP := Lib.hid p1; clear p1
      go_wp2_with fail
      go_roundw
      case rel => exact ⟨k + 1, mk.arr, by omega, by go_num, rfl, HP.out, HK.out, HBe.out.alloc HBe.out.size _⟩
      case measure => simp [intOf]; omega
    · have hok2 : okm 0 xs = true := by rw [← hok, List.drop_of_length_le (by omega)]; rfl
      have HK := Lib.hid hok2; clear hok hok2
      have HBe := Lib.hid hbel; clear hbel
      go_wp2_with fail
      go_ret
      exact ⟨by rw [HC.out, HK.out]; rfl, HBe.out⟩

set_option maxHeartbeats 1000000 in
theorem begin_any (delay : Int) (v : Value) (xs : List Msg) (tick : Int) (S : Nat → Prop) (w : World) (hv : Sl msgR S w v xs) :
    Calls Try.prog 25 #[.agg #[.int .i64 delay, v], .int .i64 tick] w fun e w' => e = .returned (.int .i64 (bgn delay xs tick)) ∧ Below w.heap.size w w' := by
  obtain ⟨va, vcap, rfl, hm⟩ := hv.len
  have HV := Lib.hid hv; clear hv
  go_enter Try.func25, Try.ntmps25
  go_wp2_with fail
  refine (check_any delay _ xs S _ (HV.out.below ((Below.refl _ _).alloc (Nat.le_refl _) _))).mono ?_
  rintro e w1 ⟨rfl, hb1⟩
  have HB := Lib.hid (((Below.refl w.heap.size w).alloc (Nat.le_refl _) _).trans (hb1.mono (by simp))); clear hb1
  by_cases hc : chk delay xs = 0
  · have HC := Lib.hid hc
    rw [hc]
    clear hc
    by_cases t1 : tick < 0
    · go_wp2_with fail
      go_ret
      exact ⟨by unfold bgn; rw [if_pos HC.out, if_pos (.inl t1)]; rfl, HB.out⟩
    by_cases t2 : 1048576 < tick
    · go_wp2_with fail
      go_ret
      exact ⟨by unfold bgn; rw [if_pos HC.out, if_pos (.inr t2)]; rfl, HB.out⟩
    go_wp2_with fail
    go_ret
    exact ⟨by unfold bgn; rw [if_pos HC.out, if_neg (by omega)]; rfl, HB.out⟩
  · have hcb : (chk delay xs != 0) = true := by rw [bne_iff_ne]; exact hc
    have HC := Lib.hid hc; clear hc
    generalize hx : chk delay xs = x at *
    have HX := Lib.hid hx; clear hx
    go_wp2_with fail
    go_ret
    exact ⟨by unfold bgn; rw [HX.out, if_neg HC.out]; rfl, HB.out⟩
end Go.Proofs.Ytmfifkkmbkcibaa
