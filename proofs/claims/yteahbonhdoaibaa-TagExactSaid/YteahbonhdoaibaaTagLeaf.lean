/-
  The contracts of the small functions that the tags are made of: words of bytes, the taking of a word, equality of bytes, made bytes.
-/
import Derived.Test.YteahbonhdoaibaaRows
import Derived.Test.YteahbonhdoaibaaBytes
import Derived.Test.YteahbonhdoaibaaTagRounds
import Derived.WalkKit
import Derived.WalkSpells
import Derived.WalkLawsBesides
import Derived.StillTailTactics
import Derived.Deep.DeepCutAuto
namespace Go.Proofs.Yteahbonhdoaibaa
open Go.RowKit

set_option maxHeartbeats 400000 in
theorem load_any (b off cap : Nat) (l : List UInt8) (w : World) (h8 : 8 ≤ l.length) (hc : l.length ≤ cap) (hcell : ∀ i, i < l.length → w.cell? ⟨b, off + i, none⟩ = some (.int .u8 (B (l.getD i 0)))) :
    Calls Try.prog 21 #[.slice (some ⟨b, off, none⟩) l.length cap] w fun e w' => e = .returned (.int .u64 (U (ldw (l.take 8)))) ∧ w = w' := by
  have hc8 : 8 ≤ cap := by omega
  have HC := Lib.hid hcell; clear hcell
  go_enter Try.func21, Try.ntmps21
  go_wp2
  go_loop [3, 9] (fun v i => ∃ k : Nat, k ≤ 8 ∧ i = .int .i64 k ∧ v = .int .u64 (U (ldw (l.take k)))) (fun _ i => 8 - (intOf i).toNat)
  case atStart => exact ⟨0, by omega, rfl, rfl⟩
  case round =>
    obtain ⟨k, hk, rfl, rfl⟩ := hrel
    by_cases hlt : k < 8
    · have hcell := HC.out k (by omega)
      rw [B_U] at hcell
      have h1 := U_shl (l.getD k 0).toUInt64 (8 * k) (by omega)
      have h2 := U_or
      have h4 := U_wrap
      have H3 := Lib.hid (ldw_take l k (by omega))
      generalize l.getD k 0 = c at *
      go_wp2
      go_round
      case rel => exact ⟨k + 1, by omega, by go_num, by rw [H3.out]⟩
      case measure => simp [intOf]; omega
    · obtain rfl : k = 8 := by omega
      go_wp2
      go_ret
      exact ⟨rfl, rfl⟩

set_option maxHeartbeats 400000 in
theorem word_any (v : Value) (l : List UInt8) (w : World) (h8 : l.length ≤ 8) (hb : Bts w v l) :
    Calls Try.prog 18 #[v] w fun e w' => e = .returned (.int .u64 (U (ldw l))) ∧ w = w' := by
  obtain ⟨a, cap, rfl, hcell⟩ : ∃ a cap, v = .slice a l.length cap ∧ ∀ k, k < l.length → ∃ b off, a = some ⟨b, off, none⟩ ∧ w.cell? ⟨b, off + k, none⟩ = some (.int .u8 (B (l.getD k 0))) := by
    rcases hb with ⟨rfl, rfl⟩ | ⟨b, off, cap, rfl, h1, h2, h3⟩
    · exact ⟨none, 0, rfl, fun k hk => by simp at hk⟩
    · exact ⟨_, _, rfl, fun k hk => ⟨b, off, rfl, h3 k hk⟩⟩
  have HC := Lib.hid hcell; clear hcell
  go_enter Try.func18, Try.ntmps18
  go_wp2
  go_loop [3, 4] (fun v i => ∃ k : Nat, k ≤ l.length ∧ i = .int .i64 k ∧ v = .int .u64 (U (ldw (l.take k)))) (fun _ i => l.length - (intOf i).toNat)
  case atStart => exact ⟨0, by omega, rfl, rfl⟩
  case round =>
    obtain ⟨k, hk, rfl, rfl⟩ := hrel
    by_cases hlt : k < l.length
    · obtain ⟨b, off, rfl, hcell⟩ := HC.out k (by omega)
      rw [B_U] at hcell
      have h1 := U_shl (l.getD k 0).toUInt64 (8 * k) (by omega)
      have h2 := U_or
      have h4 := U_wrap
      have H3 := Lib.hid (ldw_take l k (by omega))
      generalize l.getD k 0 = c at *
      go_wp2
      go_round
      case rel => exact ⟨k + 1, by omega, by go_num, by rw [H3.out]⟩
      case measure => simp [intOf]; omega
    · obtain rfl : k = l.length := by omega
      go_wp2
      go_ret
      exact ⟨rfl, rfl⟩

theorem conv_bytes {w : World} {v : Value} {l : List UInt8} (hb : Bts w v l) : (convert 22 9 v).run Try.prog w = .ok (.string ⟨l.toArray⟩) w := by
  rcases hb with ⟨rfl, rfl⟩ | ⟨b, off, cap, rfl, h1, h2, h3⟩
  · exact run_convert_bytes_nil w 22 5 Try.underlying22 Try.underlying5 0 0 9 Try.underlying9
  · rw [run_convert_bytes_arg w 22 5 Try.underlying22 Try.underlying5 b off l.length cap (l.map B) (by simp) (fun i hi => by rw [h3 i hi]; simp [List.getD_eq_getElem?_getD, hi]) 9 Try.underlying9]
    congr 3
    unfold strOfNums
    congr 1
    simp only [List.map_map]
    congr 1
    conv => rhs; rw [← List.map_id l]
    apply List.map_congr_left
    intro c _
    simp [B]

set_option maxHeartbeats 400000 in
theorem same_any (v1 v2 : Value) (l1 l2 : List UInt8) (w : World) (h1 : Bts w v1 l1) (h2 : Bts w v2 l2) :
    Calls Try.prog 11 #[v1, v2] w fun e w' => e = .returned (.bool (l1 == l2)) ∧ w = w' := by
  have c1 := conv_bytes h1
  have c2 := conv_bytes h2
  go_enter Try.func11, Try.ntmps11
  go_wp2
  go_ret
  exact ⟨rfl, rfl⟩

theorem tmod_facts (n m : Int) (h : 0 < m) : -m < n.tmod m ∧ n.tmod m < m ∧ (n.tmod m < 0 → n.tmod m + m = n % m) ∧ (0 ≤ n.tmod m → n.tmod m = n % m) := by
  have h1 := Int.tmod_lt_of_pos n h
  have h2 : -m < n.tmod m := by
    rcases Int.lt_or_le n 0 with hn | hn
    · have := Int.tmod_lt_of_pos (-n) h
      rw [Int.neg_tmod] at this; omega
    · have := Int.tmod_nonneg m hn; omega
  have h3 : n.tmod m + m * n.tdiv m = n := Int.tmod_add_mul_tdiv n m
  have h4 : n % m = n.tmod m % m := by
    conv => lhs; rw [← h3]
    rw [Int.add_mul_emod_self_left]
  refine ⟨h2, h1, fun hlt => ?_, fun hge => ?_⟩
  · rw [h4, ← Int.add_emod_right, Int.emod_eq_of_lt (by omega) (by omega)]
  · rw [h4, Int.emod_eq_of_lt hge h1]
set_option maxHeartbeats 400000 in
theorem mod_any (n m : Int) (w : World) (h0 : 0 < m) (h1 : m ≤ 9223372036854775807) :
    Calls Try.prog 7 #[.int .i64 n, .int .i64 m] w fun e w' => e = .returned (.int .i64 (n % m)) ∧ w = w' := by
  obtain ⟨hl, hh, hneg, hpos⟩ := tmod_facts n m h0
  by_cases h : n.tmod m < 0
  · have H := Lib.hid (hneg h); clear hneg hpos
    go_enter Try.func7, Try.ntmps7
    go_wp2
    go_ret
    exact ⟨by rw [← H.out]; rfl, rfl⟩
  · have H := Lib.hid (hpos (by omega)); clear hneg hpos
    go_enter Try.func7, Try.ntmps7
    go_wp2
    go_ret
    exact ⟨by rw [← H.out]; rfl, rfl⟩
end Go.Proofs.Yteahbonhdoaibaa
