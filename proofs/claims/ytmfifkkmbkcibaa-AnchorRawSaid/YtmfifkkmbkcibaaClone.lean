/-
  The contracts of slices.Clone: a new row that reads as the old one.
-/
import Derived.Test.YtmfifkkmbkcibaaRows
import Derived.Test.YtmfifkkmbkcibaaMsgRep
import Derived.WalkKit
import Derived.WalkSpells
import Derived.WalkLawsBesides
namespace Go.Proofs.Ytmfifkkmbkcibaa
set_option linter.unusedVariables false
open Go.RowKit


set_option maxHeartbeats 400000 in
theorem cloneB_any (v : Value) (S : Nat → Prop) (xs : List _) (w : World) (hsl : Sl byteR S w v xs) (hl : xs.length * 1 ≤ 140737488355328) :
    Calls Try.prog 32 #[v] w fun e w' => ∃ v', e = .returned v' ∧ Own byteR (fun b => S b ∧ b < w.heap.size) w.heap.size 5 w' v' xs ∧ Below w.heap.size w w' := by
  obtain ⟨i0, hi, hz0, hz1, hz2⟩ := info_parts (P := Try.prog) (e := 5) (z := .int .u8 0) (size := byteR.n) (bytes := 1) (by kernel_rfl)
  have hsl2 := hsl.lt (S' := fun b => S b ∧ b < w.heap.size) (by decide) (fun b hb hlt => ⟨hb, hlt⟩)
  obtain ⟨a, cap, rfl, h1, h2, h3, h4⟩ := hsl
  cases a with
  | none =>
    obtain rfl := h3 rfl
    obtain rfl : xs = [] := List.eq_nil_of_length_eq_zero (by omega)
    clear hsl2 h4
    have hq := fun (w : World) => Lib.run_eql_slice_nil (P := Try.prog) w 22 5 none 0 0 0 0 Try.underlying22
    go_enter Try.func32, Try.ntmps32
    go_wp2_with fail
    go_ret
    exact ⟨_, rfl, Own.nil _ _ _ _ _, Below.refl _ _⟩
  | some ad =>
    have HS := Lib.hid hsl2; clear hsl2 h4 h3
    have hq := fun (w : World) => Lib.run_eql_slice_nil (P := Try.prog) w 22 5 (some ad) xs.length cap 0 0 Try.underlying22
    go_enter Try.func32, Try.ntmps32
    go_wp2_with (at_builtin; refine wpList_appR (R := byteR) (S := fun b => S b ∧ b < w.heap.size) rfl _ _ 22 rfl w.heap.size 5 i0 (.int .u8 0) 1 Try.underlying22 hi hz0 hz1 hz2 rfl (by decide) _ [] rfl (own_empty _ _ w _) _ xs rfl (HS.out.below ((Below.refl _ _).alloc (Nat.le_refl _) _)) ?c1 ?c2 ?c3 ?c4 ?_)
    case c1 => intros; simp only [Value.ownBlock]; intro hx; injection hx with hx; have hx2 : _ = w.heap.size := hx; omega
    case c2 => unfold maxLen; simp; omega
    case c3 => simp; omega
    case c4 => simp
    intro v' w1 hown hg _
    try rw [List.nil_append] at hown
    have hb : Below w.heap.size w w1 := ((Below.refl w.heap.size w).alloc (Nat.le_refl _) _).grown hg (by simp) (by intro k hk; simp [Value.ownBlock] at hk; omega)
    have HO := Lib.hid hown; clear hown
    have HB := Lib.hid hb; clear hb hg
    go_wp2_with fail
    go_ret
    exact ⟨_, rfl, HO.out, HB.out⟩


set_option maxHeartbeats 400000 in
theorem cloneI_any (v : Value) (S : Nat → Prop) (xs : List _) (w : World) (hsl : Sl intR S w v xs) (hl : xs.length * 8 ≤ 140737488355328) :
    Calls Try.prog 29 #[v] w fun e w' => ∃ v', e = .returned v' ∧ Own intR (fun b => S b ∧ b < w.heap.size) w.heap.size 3 w' v' xs ∧ Below w.heap.size w w' := by
  obtain ⟨i0, hi, hz0, hz1, hz2⟩ := info_parts (P := Try.prog) (e := 3) (z := .int .i64 0) (size := intR.n) (bytes := 8) (by kernel_rfl)
  have hsl2 := hsl.lt (S' := fun b => S b ∧ b < w.heap.size) (by decide) (fun b hb hlt => ⟨hb, hlt⟩)
  obtain ⟨a, cap, rfl, h1, h2, h3, h4⟩ := hsl
  cases a with
  | none =>
    obtain rfl := h3 rfl
    obtain rfl : xs = [] := List.eq_nil_of_length_eq_zero (by omega)
    clear hsl2 h4
    have hq := fun (w : World) => Lib.run_eql_slice_nil (P := Try.prog) w 28 3 none 0 0 0 0 Try.underlying28
    go_enter Try.func29, Try.ntmps29
    go_wp2_with fail
    go_ret
    exact ⟨_, rfl, Own.nil _ _ _ _ _, Below.refl _ _⟩
  | some ad =>
    have HS := Lib.hid hsl2; clear hsl2 h4 h3
    have hq := fun (w : World) => Lib.run_eql_slice_nil (P := Try.prog) w 28 3 (some ad) xs.length cap 0 0 Try.underlying28
    go_enter Try.func29, Try.ntmps29
    go_wp2_with (at_builtin; refine wpList_appR (R := intR) (S := fun b => S b ∧ b < w.heap.size) rfl _ _ 28 rfl w.heap.size 3 i0 (.int .i64 0) 8 Try.underlying28 hi hz0 hz1 hz2 rfl (by decide) _ [] rfl (own_empty _ _ w _) _ xs rfl (HS.out.below ((Below.refl _ _).alloc (Nat.le_refl _) _)) ?c1 ?c2 ?c3 ?c4 ?_)
    case c1 => intros; simp only [Value.ownBlock]; intro hx; injection hx with hx; have hx2 : _ = w.heap.size := hx; omega
    case c2 => unfold maxLen; simp; omega
    case c3 => simp; omega
    case c4 => simp
    intro v' w1 hown hg _
    try rw [List.nil_append] at hown
    have hb : Below w.heap.size w w1 := ((Below.refl w.heap.size w).alloc (Nat.le_refl _) _).grown hg (by simp) (by intro k hk; simp [Value.ownBlock] at hk; omega)
    have HO := Lib.hid hown; clear hown
    have HB := Lib.hid hb; clear hb hg
    go_wp2_with fail
    go_ret
    exact ⟨_, rfl, HO.out, HB.out⟩


set_option maxHeartbeats 400000 in
theorem cloneT_any (v : Value) (S : Nat → Prop) (xs : List _) (w : World) (hsl : Sl ticketR S w v xs) (hl : xs.length * 48 ≤ 140737488355328) :
    Calls Try.prog 33 #[v] w fun e w' => ∃ v', e = .returned v' ∧ Own ticketR (fun b => S b ∧ b < w.heap.size) w.heap.size 58 w' v' xs ∧ Below w.heap.size w w' := by
  obtain ⟨i0, hi, hz0, hz1, hz2⟩ := info_parts (P := Try.prog) (e := 58) (z := .agg #[.int .i64 0, .slice none 0 0, .int .i64 0, .int .i64 0]) (size := ticketR.n) (bytes := 48) (by kernel_rfl)
  have hsl2 := hsl.lt (S' := fun b => S b ∧ b < w.heap.size) (by decide) (fun b hb hlt => ⟨hb, hlt⟩)
  obtain ⟨a, cap, rfl, h1, h2, h3, h4⟩ := hsl
  cases a with
  | none =>
    obtain rfl := h3 rfl
    obtain rfl : xs = [] := List.eq_nil_of_length_eq_zero (by omega)
    clear hsl2 h4
    have hq := fun (w : World) => Lib.run_eql_slice_nil (P := Try.prog) w 32 58 none 0 0 0 0 Try.underlying32
    go_enter Try.func33, Try.ntmps33
    go_wp2_with fail
    go_ret
    exact ⟨_, rfl, Own.nil _ _ _ _ _, Below.refl _ _⟩
  | some ad =>
    have HS := Lib.hid hsl2; clear hsl2 h4 h3
    have hq := fun (w : World) => Lib.run_eql_slice_nil (P := Try.prog) w 32 58 (some ad) xs.length cap 0 0 Try.underlying32
    go_enter Try.func33, Try.ntmps33
    go_wp2_with (at_builtin; refine wpList_appR (R := ticketR) (S := fun b => S b ∧ b < w.heap.size) rfl _ _ 32 rfl w.heap.size 58 i0 (.agg #[.int .i64 0, .slice none 0 0, .int .i64 0, .int .i64 0]) 48 Try.underlying32 hi hz0 hz1 hz2 rfl (by decide) _ [] rfl (own_empty _ _ w _) _ xs rfl (HS.out.below ((Below.refl _ _).alloc (Nat.le_refl _) _)) ?c1 ?c2 ?c3 ?c4 ?_)
    case c1 => intros; simp only [Value.ownBlock]; intro hx; injection hx with hx; have hx2 : _ = w.heap.size := hx; omega
    case c2 => unfold maxLen; simp; omega
    case c3 => simp; omega
    case c4 => simp
    intro v' w1 hown hg _
    try rw [List.nil_append] at hown
    have hb : Below w.heap.size w w1 := ((Below.refl w.heap.size w).alloc (Nat.le_refl _) _).grown hg (by simp) (by intro k hk; simp [Value.ownBlock] at hk; omega)
    have HO := Lib.hid hown; clear hown
    have HB := Lib.hid hb; clear hb hg
    go_wp2_with fail
    go_ret
    exact ⟨_, rfl, HO.out, HB.out⟩


set_option maxHeartbeats 400000 in
theorem cloneM_any (v : Value) (S : Nat → Prop) (xs : List _) (w : World) (hsl : Sl msgR S w v xs) (hl : xs.length * 88 ≤ 140737488355328) :
    Calls Try.prog 31 #[v] w fun e w' => ∃ v', e = .returned v' ∧ Own msgR (fun b => S b ∧ b < w.heap.size) w.heap.size 34 w' v' xs ∧ Below w.heap.size w w' := by
  obtain ⟨i0, hi, hz0, hz1, hz2⟩ := info_parts (P := Try.prog) (e := 34) (z := .agg #[.int .i64 0, .int .i64 0, .int .i64 0, .int .i64 0, .int .i64 0, .slice none 0 0, .slice none 0 0]) (size := msgR.n) (bytes := 88) (by kernel_rfl)
  have hsl2 := hsl.lt (S' := fun b => S b ∧ b < w.heap.size) (by decide) (fun b hb hlt => ⟨hb, hlt⟩)
  obtain ⟨a, cap, rfl, h1, h2, h3, h4⟩ := hsl
  cases a with
  | none =>
    obtain rfl := h3 rfl
    obtain rfl : xs = [] := List.eq_nil_of_length_eq_zero (by omega)
    clear hsl2 h4
    have hq := fun (w : World) => Lib.run_eql_slice_nil (P := Try.prog) w 25 34 none 0 0 0 0 Try.underlying25
    go_enter Try.func31, Try.ntmps31
    go_wp2_with fail
    go_ret
    exact ⟨_, rfl, Own.nil _ _ _ _ _, Below.refl _ _⟩
  | some ad =>
    have HS := Lib.hid hsl2; clear hsl2 h4 h3
    have hq := fun (w : World) => Lib.run_eql_slice_nil (P := Try.prog) w 25 34 (some ad) xs.length cap 0 0 Try.underlying25
    go_enter Try.func31, Try.ntmps31
    go_wp2_with (at_builtin; refine wpList_appR (R := msgR) (S := fun b => S b ∧ b < w.heap.size) rfl _ _ 25 rfl w.heap.size 34 i0 (.agg #[.int .i64 0, .int .i64 0, .int .i64 0, .int .i64 0, .int .i64 0, .slice none 0 0, .slice none 0 0]) 88 Try.underlying25 hi hz0 hz1 hz2 rfl (by decide) _ [] rfl (own_empty _ _ w _) _ xs rfl (HS.out.below ((Below.refl _ _).alloc (Nat.le_refl _) _)) ?c1 ?c2 ?c3 ?c4 ?_)
    case c1 => intros; simp only [Value.ownBlock]; intro hx; injection hx with hx; have hx2 : _ = w.heap.size := hx; omega
    case c2 => unfold maxLen; simp; omega
    case c3 => simp; omega
    case c4 => simp
    intro v' w1 hown hg _
    try rw [List.nil_append] at hown
    have hb : Below w.heap.size w w1 := ((Below.refl w.heap.size w).alloc (Nat.le_refl _) _).grown hg (by simp) (by intro k hk; simp [Value.ownBlock] at hk; omega)
    have HO := Lib.hid hown; clear hown
    have HB := Lib.hid hb; clear hb hg
    go_wp2_with fail
    go_ret
    exact ⟨_, rfl, HO.out, HB.out⟩

end Go.Proofs.Ytmfifkkmbkcibaa
