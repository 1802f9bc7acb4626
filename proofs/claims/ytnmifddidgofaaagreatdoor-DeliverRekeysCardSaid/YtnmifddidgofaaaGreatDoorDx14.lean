/-
  Contracts of the functions that the laws reach.
-/
import Derived.Test.YtnmifddidgofaaaGreatDoorDx01
import Derived.Test.YtnmifddidgofaaaGreatDoorDx02
import Derived.Test.YtnmifddidgofaaaGreatDoorDx03
import Derived.Test.YtnmifddidgofaaaGreatDoorDx04
import Derived.Test.YtnmifddidgofaaaGreatDoorDx05
import Derived.Test.YtnmifddidgofaaaGreatDoorDx06
import Derived.Test.YtnmifddidgofaaaGreatDoorDx07
import Derived.Test.YtnmifddidgofaaaGreatDoorDx08
import Derived.Test.YtnmifddidgofaaaGreatDoorDx09
import Derived.Test.YtnmifddidgofaaaGreatDoorDx10
import Derived.Test.YtnmifddidgofaaaGreatDoorDx11
import Derived.Test.YtnmifddidgofaaaGreatDoorDx12
set_option maxHeartbeats 8000000
set_option linter.all false
namespace Go.Proofs.YtnmifddidgofaaaGreatDoor
open Go.RowKit
theorem onI_k (x : In) : (onI x).b = x.b ∧ (onI x).k = x.k ∧ (onI x).f = x.f ∧ (onI x).t = x.t ∧ (onI x).n = nxV x ∧ (((onI x).l = 0 ∧ (onI x).m = 0 ∧ (x.l = 0 → x.m = 0)) ∨ ((onI x).l = x.t ∧ (onI x).m = nxV x ∧ 0 < x.t ∧ x.f < nxV x) ∨ ((onI x).l = x.l ∧ (onI x).m = x.m ∧ ¬ (0 < x.l ∧ x.m ≤ x.f))) := by
 by_cases h1 : 0 < x.l ∧ x.m ≤ x.f
 · by_cases h2 : 0 < x.t ∧ x.f < nxV x
   · rw [onI_a h1.1 h1.2 h2.1 h2.2]; exact ⟨rfl, rfl, rfl, rfl, rfl, .inr (.inl ⟨rfl, rfl, h2⟩)⟩
   · rw [onI_b h1.1 h1.2 h2]; exact ⟨rfl, rfl, rfl, rfl, rfl, .inl ⟨rfl, rfl, fun h => by omega⟩⟩
 · by_cases h2 : x.l = 0 ∧ 0 < x.t ∧ x.f < nxV x
   · rw [onI_c h1 h2.1 h2.2.1 h2.2.2]; exact ⟨rfl, rfl, rfl, rfl, rfl, .inr (.inl ⟨rfl, rfl, h2.2⟩)⟩
   · rw [onI_d h1 h2]; exact ⟨rfl, rfl, rfl, rfl, rfl, .inr (.inr ⟨rfl, rfl, h1⟩)⟩
theorem win_pow {b : Int} (h : bitsOk b = true) : winR b = 2 ^ (b - 1).toNat ∧ 16 ≤ winR b ∧ winR b ≤ 256 := by
 rcases bits_cases h with rfl | rfl | rfl | rfl | rfl <;> decide +kernel
theorem hd_drop (l : List Hl) (n j : Nat) : (l.drop n).getD j Hl.z = l.getD (n + j) Hl.z := hl_drop l n j
theorem beh_ok {x : In} {h : List Hl} (hb : bitsOk x.b = true) (hk : x.k.ok = true) (hf : 0 ≤ x.f ∧ x.f ≤ 1048576) (hn : x.n ≤ 1048576) (ht : 0 ≤ x.t ∧ x.t ≤ 1000) (hm : (x.l = 0 ∧ x.m = 0) ∨ (0 < x.l ∧ x.l ≤ x.t ∧ x.m ≤ x.n)) (hw : x.n ≤ x.f + winR x.b)
   (ha : ascH h) (hr : ∀ j, j < h.length → x.f ≤ (h.getD j Hl.z).c ∧ (h.getD j Hl.z).c < x.n ∧ 1 ≤ (h.getD j Hl.z).d.length ∧ (h.getD j Hl.z).d.length ≤ 2048) (he : (h.length = 0 ∧ x.n ≤ x.f) ∨ (0 < h.length ∧ (h.getD (h.length - 1) Hl.z).c = x.n - 1)) :
   Vf { onI (stpI x (runN x.f h)) with h := h.drop (runN x.f h) } := by
 have hwp := win_pow hb
 have hN := runN_le h x.f
 have hyes := runN_yes h x.f
 have hno := runN_no h x.f
 generalize runN x.f h = N at *
 have h1 := onI_k (stpI x N)
 generalize onI (stpI x N) = y at *
 obtain ⟨e1, e2, e3, e4, e5, e6⟩ := h1
 have s1 : (stpI x N).b = x.b := rfl
 have s2 : (stpI x N).k = x.k := rfl
 have s3 : (stpI x N).f = x.f + N := rfl
 have s4 : (stpI x N).t = x.t := rfl
 have s5 : (stpI x N).n = x.n := rfl
 have s6 : (stpI x N).l = x.l := rfl
 have s7 : (stpI x N).m = x.m := rfl
 have sx : nxV (stpI x N) = if x.n < x.f + N then x.f + N else x.n := rfl
 rw [sx] at e5 e6
 rw [s1] at e1
 rw [s2] at e2
 rw [s3] at e3 e6
 rw [s4] at e4 e6
 rw [s6, s7] at e6
 -- where the run ends
 have hup : x.f + N ≤ 1048576 ∧ (0 < N → x.f + N ≤ x.n) := by
   by_cases h0 : N = 0
   · subst h0; exact ⟨by simpa using hf.2, fun h => by omega⟩
   · have h2 := hyes (N - 1) (by omega)
     have h3 := (hr (N - 1) (by omega)).2.1
     rw [h2] at h3
     exact ⟨by omega, fun _ => by omega⟩
 have hgt : ∀ j, N ≤ j → j < h.length → x.f + N < (h.getD j Hl.z).c := fun j h2 h3 => by
   have h4 : x.f + N < (h.getD N Hl.z).c := by
     have h5 := hno (by omega)
     by_cases h0 : N = 0
     · subst h0
       have := (hr 0 (by omega)).1
       omega
     · have h6 := hyes (N - 1) (by omega)
       have h7 := ha (N - 1) N (by omega) (by omega)
       omega
   by_cases h6 : N = j
   · subst h6; exact h4
   · have := ha N j (by omega) h3; omega
 have hlast : (N < h.length ∧ x.f + N < x.n ∧ (h.getD (h.length - 1) Hl.z).c = x.n - 1) ∨ (N = h.length ∧ x.n ≤ x.f + N) := by
   rcases he with ⟨h2, h3⟩ | ⟨h2, h3⟩
   · exact .inr ⟨by omega, by omega⟩
   · by_cases h4 : N < h.length
     · have := hgt (h.length - 1) (by omega) (by omega)
       exact .inl ⟨h4, by omega, h3⟩
     · have h5 := hyes (N - 1) (by omega)
       rw [show N - 1 = h.length - 1 by omega, h3] at h5
       exact .inr ⟨by omega, by omega⟩
 have e5' : y.n = if x.n < x.f + N then x.f + N else x.n := e5
 refine Vf.mk1 (by show bitsOk y.b = true; rw [e1]; exact hb) (by show y.k.ok = true; rw [e2]; exact hk) (by show 0 ≤ y.f ∧ y.f ≤ _; rw [e3]; omega) (by show y.f ≤ y.n ∧ y.n ≤ _; rw [e3, e5]; split <;> omega) (by show 0 ≤ y.t ∧ y.t ≤ _; rw [e4]; exact ht) ?_ ?_ ?_ ?_ ?_
 · show 0 ≤ y.l ∧ y.l ≤ y.t
   rw [e4]
   rcases e6 with h2 | h2 | h2 <;> omega
 · show (y.l = 0 ∧ y.m = 0) ∨ (0 < y.l ∧ y.f < y.m ∧ y.m ≤ y.n)
   rw [e3, e5]
   rcases e6 with h2 | h2 | h2
   · exact .inl ⟨h2.1, h2.2.1⟩
   · refine .inr ?_; omega
   · rcases hm with h3 | h3
     · exact .inl (by omega)
     · refine .inr ⟨by omega, by omega, ?_⟩
       split <;> omega
 · show y.n ≤ iarith .add .i64 y.f (winR y.b)
   rw [e3, e5, e1, iadd_in _ _ (by omega) (by omega)]
   split <;> omega
 · have hu : ∀ j, j < (h.drop N).length → lastC (x.f + N) (h.drop N) j < ((h.drop N).getD j Hl.z).c ∧ 1 ≤ ((h.drop N).getD j Hl.z).d.length ∧ ((h.drop N).getD j Hl.z).d.length ≤ 2048 := fun j hj => by
     rw [List.length_drop] at hj
     rw [hd_drop]
     refine ⟨?_, (hr (N + j) (by omega)).2.2⟩
     cases j with
     | zero => exact hgt N (by omega) (by omega)
     | succ j =>
       show ((h.drop N).getD j Hl.z).c < _
       rw [hd_drop]
       exact ha _ _ (by omega) (by omega)
   have hu' : ∀ j, j < (h.drop N).length → lastC y.f (h.drop N) j < ((h.drop N).getD j Hl.z).c ∧ 1 ≤ ((h.drop N).getD j Hl.z).d.length ∧ ((h.drop N).getD j Hl.z).d.length ≤ 2048 := by rw [e3]; exact hu
   with_unfolding_all exact hu'
 · show (0 < (h.drop N).length ∧ lastC y.f (h.drop N) (h.drop N).length = y.n - 1) ∨ ((h.drop N).length = 0 ∧ y.f = y.n)
   rw [e3, e5, List.length_drop]
   rcases hlast with ⟨h2, h3, h4⟩ | ⟨h2, h3⟩
   · refine .inl ⟨by omega, ?_⟩
     obtain ⟨m, hm'⟩ : ∃ m, h.length - N = m + 1 := ⟨h.length - N - 1, by omega⟩
     rw [hm', if_neg (by omega)]
     show ((h.drop N).getD m Hl.z).c = _
     rw [hd_drop, show N + m = h.length - 1 by omega, h4]
   · refine .inr ⟨by omega, ?_⟩
     split <;> omega
theorem ins_get {l : List Hl} {i : Nat} (x : Hl) (j : Nat) (hi : i ≤ l.length) : (insL l i x).getD j Hl.z = if j < i then l.getD j Hl.z else if j = i then x else l.getD (j - 1) Hl.z := by
 unfold insL
 simp only [List.getD_eq_getElem?_getD]
 by_cases h : j < i
 · rw [if_pos h, List.getElem?_append_left (by rw [List.length_take]; omega), List.getElem?_take, if_pos h]
 · rw [if_neg h, List.getElem?_append_right (by rw [List.length_take]; omega), List.length_take, Nat.min_eq_left hi]
   by_cases h2 : j = i
   · subst h2; rw [if_pos rfl, Nat.sub_self]; rfl
   · rw [if_neg h2]
     obtain ⟨k, rfl⟩ : ∃ k, j = i + k + 1 := ⟨j - i - 1, by omega⟩
     rw [show i + k + 1 - i = k + 1 by omega, List.getElem?_cons_succ, List.getElem?_drop]
     congr 2
theorem vf_last {i : In} (v : Vf i) (h : 0 < i.h.length) : (i.h.getD (i.h.length - 1) Hl.z).c = i.n - 1 := by
 rcases v.e with ⟨-, h2, -⟩ | ⟨-, h2⟩
 · obtain ⟨m, hm⟩ : ∃ m, i.h.length = m + 1 := ⟨i.h.length - 1, by omega⟩
   rw [hm] at h2 ⊢
   exact h2
 · rw [h2] at h; exact absurd h (by decide)
theorem vf_win {i : In} (v : Vf i) : i.n ≤ i.f + winR i.b := by
 have h1 := v.w
 have h2 := win_pow v.b
 have h3 := v.f
 rwa [iadd_in _ _ (by omega) (by omega)] at h1
theorem beh_next {i : In} (v : Vf i) (hf : i.f < 1048576) : Vf (behI { i with f := i.f + 1 } 0) := by
 have h1 := vf_win v
 have h2 := v.f
 have h3 := v.n
 have h4 := win_pow v.b
 have e : behI { i with f := i.f + 1 } 0 = { onI (stpI { i with f := i.f + 1 } (runN (i.f + 1) i.h)) with h := i.h.drop (runN (i.f + 1) i.h) } := by
   unfold behI; simp only [List.drop_zero, Nat.zero_add]
 rw [e]
 refine beh_ok (x := { i with f := i.f + 1 }) v.b v.k (by show 0 ≤ i.f + 1 ∧ i.f + 1 ≤ _; omega) h3.2 v.t ?_ (by show i.n ≤ i.f + 1 + winR i.b; omega) v.asc ?_ ?_
 · have := v.m; have := v.l; show (i.l = 0 ∧ i.m = 0) ∨ (0 < i.l ∧ i.l ≤ i.t ∧ i.m ≤ i.n); omega
 · intro j hj
   have h5 := v.lo j hj
   have h6 := v.h j hj
   exact ⟨by show i.f + 1 ≤ _; omega, h6.2⟩
 · by_cases h0 : 0 < i.h.length
   · exact .inr ⟨h0, vf_last v h0⟩
   · refine .inl ⟨by show i.h.length = 0; omega, ?_⟩
     show i.n ≤ i.f + 1
     rcases v.e with h5 | h5 <;> omega
theorem beh_put {i : In} (v : Vf i) {c : Int} {d : List UInt8} (hc : i.f < c) (hc2 : c < 1048576) (hcw : c + 1 ≤ i.f + winR i.b) (hh : hitR i.h c = false) (hd : 1 ≤ d.length ∧ d.length ≤ 2048) : Vf (behI (putI i c d) 0) := by
 have h1 := vf_win v
 have h2 := v.f
 have h3 := v.n
 have h4 := win_pow v.b
 have hP := pos_le i.h c
 have hlt := pos_lt i.h c
 have hge : posR i.h c < i.h.length → c < (i.h.getD (posR i.h c) Hl.z).c := fun h => by
   have h5 := pos_ge i.h c h
   have h6 : ¬ (posR i.h c < i.h.length ∧ (i.h.getD (posR i.h c) Hl.z).c = c) := of_decide_eq_false hh
   have : ¬ (i.h.getD (posR i.h c) Hl.z).c = c := fun h7 => h6 ⟨h, h7⟩
   omega
 have e : behI (putI i c d) 0 = { onI (stpI (putI i c d) (runN (putI i c d).f (putI i c d).h)) with h := (putI i c d).h.drop (runN (putI i c d).f (putI i c d).h) } := by
   unfold behI; simp only [List.drop_zero, Nat.zero_add]
 rw [e]
 have eh : (putI i c d).h = insL i.h (posR i.h c) ⟨c, d⟩ := rfl
 have en : (putI i c d).n = if i.n < c + 1 then c + 1 else i.n := rfl
 have ef : (putI i c d).f = i.f := rfl
 have eb : (putI i c d).b = i.b := rfl
 have ek : (putI i c d).k = i.k := rfl
 have et : (putI i c d).t = i.t := rfl
 have el : (putI i c d).l = i.l := rfl
 have em : (putI i c d).m = i.m := rfl
 generalize putI i c d = x at *
 have hasc := v.asc
 have hlen := insL_len i.h (posR i.h c) ⟨c, d⟩
 have hg : ∀ j, x.h.getD j Hl.z = if j < posR i.h c then i.h.getD j Hl.z else if j = posR i.h c then ⟨c, d⟩ else i.h.getD (j - 1) Hl.z := fun j => by rw [eh]; exact ins_get _ j hP
 rw [← eh] at hlen
 have hge' : ∀ j, posR i.h c ≤ j → j < i.h.length → c < (i.h.getD j Hl.z).c := fun j h5 h6 => by
   have h7 := hge (by omega)
   by_cases h8 : posR i.h c = j
   · rw [← h8]; exact h7
   · have := hasc (posR i.h c) j (by omega) h6; omega
 refine beh_ok (by rw [eb]; exact v.b) (by rw [ek]; exact v.k) (by rw [ef]; exact h2) (by rw [en]; split <;> omega) (by rw [et]; exact v.t) ?_ (by rw [en, ef, eb]; split <;> omega) ?_ ?_ ?_
 · rw [el, em, et, en]
   rcases v.m with h5 | h5
   · exact .inl h5
   · have := v.l
     refine .inr ⟨h5.1, this.2, ?_⟩
     split <;> omega
 · intro a b hab hb
   rw [hg, hg]
   rw [hlen] at hb
   by_cases c1 : b < posR i.h c
   · rw [if_pos (by omega), if_pos c1]; exact hasc a b hab (by omega)
   · rw [if_neg c1]
     by_cases c2 : b = posR i.h c
     · rw [if_pos c2, if_pos (by omega)]; exact hlt a (by omega)
     · rw [if_neg c2]
       by_cases c3 : a < posR i.h c
       · rw [if_pos c3]
         exact hasc a (b - 1) (by omega) (by omega)
       · rw [if_neg c3]
         by_cases c4 : a = posR i.h c
         · rw [if_pos c4]; exact hge' (b - 1) (by omega) (by omega)
         · rw [if_neg c4]; exact hasc (a - 1) (b - 1) (by omega) (by omega)
 · intro j hj
   rw [hlen] at hj
   rw [hg, ef, en]
   by_cases c1 : j < posR i.h c
   · rw [if_pos c1]
     have h5 := v.lo j (by omega)
     have h6 := v.h j (by omega)
     exact ⟨by omega, by split <;> omega, h6.2.2⟩
   · rw [if_neg c1]
     by_cases c2 : j = posR i.h c
     · rw [if_pos c2]; exact ⟨by show _ ≤ c; omega, by show c < _; split <;> omega, hd⟩
     · rw [if_neg c2]
       have h5 := v.lo (j - 1) (by omega)
       have h6 := v.h (j - 1) (by omega)
       exact ⟨by omega, by split <;> omega, h6.2.2⟩
 · refine .inr ⟨by omega, ?_⟩
   rw [hlen, hg, en]
   rw [show i.h.length + 1 - 1 = i.h.length by omega, if_neg (by omega)]
   by_cases c1 : i.h.length = posR i.h c
   · rw [if_pos c1]
     show c = _
     by_cases h0 : 0 < i.h.length
     · have h5 := vf_last v h0
       have h6 := hlt (i.h.length - 1) (by omega)
       rw [if_pos (by omega)]; omega
     · rcases v.e with h5 | h5
       · omega
       · rw [if_pos (by omega)]; omega
   · rw [if_neg c1]
     have h5 := vf_last v (by omega)
     have h6 := hge' (i.h.length - 1) (by omega) (by omega)
     rw [h5] at h6 ⊢
     rw [if_neg (by omega)]
theorem beh_out {i : In} (v : Vf i) (hl : 0 < i.l) : Vf (behI { i with l := 0, f := i.m, m := 0 } (posR i.h i.m)) := by
 have h1 := vf_win v
 have h2 := v.f
 have h3 := v.n
 have h4 := win_pow v.b
 have hP := pos_le i.h i.m
 have hm : i.f < i.m ∧ i.m ≤ i.n := by have := v.m; omega
 have e : behI { i with l := 0, f := i.m, m := 0 } (posR i.h i.m) = { onI (stpI { i with l := 0, f := i.m, m := 0 } (runN i.m (i.h.drop (posR i.h i.m)))) with h := (i.h.drop (posR i.h i.m)).drop (runN i.m (i.h.drop (posR i.h i.m))) } := by
   unfold behI; rw [List.drop_drop]
 rw [e]
 have hge : ∀ j, posR i.h i.m ≤ j → j < i.h.length → i.m ≤ (i.h.getD j Hl.z).c := fun j h5 h6 => by
   have h7 := pos_ge i.h i.m (by omega)
   by_cases h8 : posR i.h i.m = j
   · rw [← h8]; exact h7
   · have := v.asc (posR i.h i.m) j (by omega) h6; omega
 refine beh_ok (x := { i with l := 0, f := i.m, m := 0 }) v.b v.k (by show 0 ≤ i.m ∧ i.m ≤ _; omega) h3.2 v.t (.inl ⟨rfl, rfl⟩) (by show i.n ≤ i.m + winR i.b; omega) ?_ ?_ ?_
 · intro a b hab hb
   rw [List.length_drop] at hb
   rw [hd_drop, hd_drop]
   exact v.asc _ _ (by omega) (by omega)
 · intro j hj
   rw [List.length_drop] at hj
   rw [hd_drop]
   exact ⟨hge _ (by omega) (by omega), (v.h _ (by omega)).2⟩
 · rw [List.length_drop]
   have h0 : 0 < i.h.length := by rcases v.e with h5 | h5 <;> omega
   have h5 := vf_last v h0
   by_cases c1 : posR i.h i.m < i.h.length
   · refine .inr ⟨by omega, ?_⟩
     rw [hd_drop, show posR i.h i.m + (i.h.length - posR i.h i.m - 1) = i.h.length - 1 by omega]
     exact h5
   · refine .inl ⟨by omega, ?_⟩
     have h6 := pos_lt i.h i.m (i.h.length - 1) (by omega)
     show i.n ≤ i.m
     omega
theorem sg_top {b f x : Int} (h : bitsOk b = true) : sg b f x + 1 ≤ winR b ∧ - winR b ≤ sg b f x := by
 have h1 := lw_rng b (x - f)
 rw [(win_pow h).1]
 unfold sg
 rcases bits_cases h with rfl | rfl | rfl | rfl | rfl <;> (simp only [show ∀ n : Nat, (OfNat.ofNat n : Int).toNat = n from fun n => rfl] at *; split <;> (simp at *; omega))
theorem inf_win {b f x : Int} (h : (infR b f x).2 = 0) : bitsOk b = true ∧ (infR b f x).1 + 1 ≤ f + winR b ∧ 0 ≤ (infR b f x).1 ∧ (infR b f x).1 < 1048576 := by
 have h0 := inf_ok h
 unfold infR at *
 split at h
 · rename_i hc
   rw [if_pos hc] at h0 ⊢
   have := sg_top (f := f) (x := x) hc.1
   split at h
   · simp at h
   · rename_i h1
     rw [if_neg h1] at h0 ⊢
     split at h
     · rename_i h2
       rw [if_pos h2] at h0 ⊢
       exact ⟨hc.1, by dsimp only; omega, h0.1, h0.2⟩
     · simp at h
 · simp at h
theorem inf_near {b f c : Int} (hb : bitsOk b = true) (hf : 0 ≤ f ∧ f ≤ 1048576) (hc : countOk c = true) (h1 : c < f + winR b) (h2 : f - winR b ≤ c) : infR b f (lowR b c) = (c, 0) := by
 have hl : lowR b c = lw b c := by unfold lw; exact lowR_eq b c hb hc
 have hlp : 0 ≤ lowR b c ∧ lowR b c < 2 ^ b.toNat := by rw [hl]; exact lw_rng b c
 have hs : sg b f (lowR b c) = c - f := by
   have e : lw b (lowR b c - f) = lw b (c - f) := by rw [hl]; exact lw_sub_l b c f
   unfold sg
   rw [e]
   rw [(win_pow hb).1] at h1 h2
   unfold lw
   rcases bits_cases hb with rfl | rfl | rfl | rfl | rfl <;> (simp only [show ∀ n : Nat, (OfNat.ofNat n : Int).toNat = n from fun n => rfl] at *; split <;> (simp at *; omega))
 unfold infR
 rw [hs, if_pos ⟨hb, hf.1, hf.2, hlp.1, hlp.2⟩, show f + (c - f) = c by omega, if_neg (by simp [countOk] at hc; omega), if_pos hc]
theorem open_len {k : Ky} {b n : Int} {u : List UInt8} (h : (openR k b n u).2 = 0) : 1 ≤ (openR k b n u).1.length ∧ (openR k b n u).1.length ≤ 2048 := by
 by_cases h1 : k.ok = true
 · by_cases h2 : (bitsOk b && countOk n) = true
   · by_cases h3 : (numR b u).2 = 0
     · by_cases h4 : (numR b u).1 = lowR b n
       · have h5 := numR_ok h3
         rw [openR_ok h1 h2 h3 h4] at h ⊢
         split at h
         · rename_i h6
           rw [if_pos h6]
           show 1 ≤ (List.take _ _).length ∧ (List.take _ _).length ≤ 2048
           rw [List.length_take, xorL_len, List.length_drop]
           omega
         · simp at h
       · rw [openR_sn h1 h2 h3 h4] at h; simp at h
     · rw [openR_err h1 h2 h3] at h; exact absurd h h3
   · rw [openR_num u h1 (by simpa using h2)] at h; simp at h
 · rw [openR_key b n u (by simpa using h1)] at h; simp at h
theorem beh_kb (i : In) (j : Nat) : (behI i j).b = i.b ∧ (behI i j).k = i.k ∧ i.f ≤ (behI i j).f ∧ (behI i j).t = i.t := by
 have h := onI_k (stpI i (runN i.f (i.h.drop j)))
 refine ⟨h.1, h.2.1, ?_, h.2.2.2.1⟩
 show _ ≤ (onI _).f
 rw [h.2.2.1]
 show i.f ≤ i.f + _
 omega
theorem rcv_ok {i : In} (u : List UInt8) (v : Vf i) : Vf (rcvR i u).1 ∧ (rcvR i u).1.b = i.b ∧ (rcvR i u).1.k = i.k ∧ (rcvR i u).1.t = i.t ∧ i.f ≤ (rcvR i u).1.f := by
 have hb := inf_win (b := i.b) (f := i.f) (x := (numR i.b u).1)
 have hd := open_len (k := i.k) (b := i.b) (n := (infR i.b i.f (numR i.b u).1).1) (u := u)
 have hself : Vf i ∧ i.b = i.b ∧ i.k = i.k ∧ i.t = i.t ∧ i.f ≤ i.f := ⟨v, rfl, rfl, rfl, Int.le_refl _⟩
 unfold rcvR
 rw [if_pos v.to]
 split
 · split
   · rename_i h1 h2
     split
     · rename_i h3
       obtain ⟨-, hb1, hb2, hb3⟩ := hb h2
       have hd1 := hd h3
       generalize (openR i.k i.b (infR i.b i.f (numR i.b u).1).1 u).1 = d at *
       generalize (infR i.b i.f (numR i.b u).1).1 = c at *
       unfold takeR
       split
       · exact hself
       · split
         · exact hself
         · split
           · have h5 := beh_kb { i with f := i.f + 1 } 0
             refine ⟨beh_next v (by omega), h5.1, h5.2.1, h5.2.2.2, ?_⟩
             have := h5.2.2.1
             dsimp only at this ⊢
             omega
           · have h5 := beh_kb (putI i c d) 0
             refine ⟨beh_put v (by omega) hb3 hb1 (by simpa using ‹¬ hitR i.h c = true›) hd1, h5.1, h5.2.1, h5.2.2.2, h5.2.2.1⟩
     · exact hself
   · exact hself
 · exact hself
theorem tick_ok {i : In} (v : Vf i) : Vf (tickR i).1 ∧ (tickR i).1.b = i.b ∧ (tickR i).1.k = i.k ∧ (tickR i).1.t = i.t := by
 unfold tickR
 rw [if_pos v.to]
 split
 · exact ⟨v, rfl, rfl, rfl⟩
 · split
   · have h5 := beh_kb { i with l := 0, f := i.m, m := 0 } (posR i.h i.m)
     exact ⟨beh_out v (by omega), h5.1, h5.2.1, h5.2.2.2⟩
   · have h1 := v.l
     refine ⟨⟨v.b, v.k, v.f, v.n, v.t, ?_, ?_, v.w, v.h, v.e⟩, rfl, rfl, rfl⟩
     · show 0 ≤ i.l - 1 ∧ i.l - 1 ≤ i.t; omega
     · show (i.l - 1 = 0 ∧ i.m = 0) ∨ (0 < i.l - 1 ∧ i.f < i.m ∧ i.m ≤ i.n)
       have := v.m
       omega
open Go.RowKit
def rdmStp (t : List Int) (b : Int) (x : In × Nat) : In × Nat :=
 if nextR t x.2 3 = iarith .sub .i64 3 1 then ((tickR x.1).1, nextA t x.2)
 else if iarith .add .i64 x.1.f (nextR t (nextA t x.2) 12) < 1048576 then ((rcvR x.1 (sealB b (iarith .add .i64 x.1.f (nextR t (nextA t x.2) 12)))).1, nextA t (nextA t x.2))
 else (x.1, nextA t (nextA t x.2))
def rdmK (t : List Int) (b : Int) (x : In × Nat) : Nat → In × Nat
 | 0 => x
 | k + 1 => rdmStp t b (rdmK t b x k)
def rdm0 (t : List Int) : In × Nat :=
 if oneR t (nextA t (nextA t 0)) 4 = true then
   (⟨bitsR t 0, awK, iarith .sub .i64 1048576 (nextR t (nextA t (nextA t (nextA t 0))) 20), iarith .sub .i64 1048576 (nextR t (nextA t (nextA t (nextA t 0))) 20), 0, 0, nextR t (nextA t 0) 6, []⟩, nextA t (nextA t (nextA t (nextA t 0))))
 else (⟨bitsR t 0, awK, 0, 0, 0, 0, nextR t (nextA t 0) 6, []⟩, nextA t (nextA t (nextA t 0)))
def rdmN (t : List Int) : Nat := (nextR t (rdm0 t).2 25).toNat
def rdmE (t : List Int) : In × Nat := rdmK t (bitsR t 0) ((rdm0 t).1, nextA t (rdm0 t).2) (rdmN t)
structure RndOk (b0 : Int) (n0 : Nat) (i : In) : Prop where
 v : Vf i
 b : i.b = b0
 k : i.k = awK
 h : i.h.length ≤ n0
theorem new_vf {b t f : Int} (hb : bitsOk b = true) (ht : 0 ≤ t ∧ t ≤ 1000) (hf : 0 ≤ f ∧ f ≤ 1048576) : Vf ⟨b, awK, f, f, 0, 0, t, []⟩ := by
 have h2 := win_pow hb
 refine ⟨hb, awK_ok, hf, ⟨Int.le_refl _, hf.2⟩, ht, ⟨Int.le_refl _, ht.1⟩, .inl ⟨rfl, rfl⟩, ?_, fun j hj => absurd hj (by simp), .inr ⟨rfl, rfl⟩⟩
 show f ≤ iarith .add .i64 f (winR b)
 rw [iadd_in _ _ (by omega) (by omega)]
 omega
theorem rdm0_ok (t : List Int) : RndOk (bitsR t 0) 0 (rdm0 t).1 := by
 have hb := bitsR_ok t 0
 have h1 := nextR_lt t (nextA t 0) 6 (by decide) (by decide)
 have h2 := nextR_lt t (nextA t (nextA t (nextA t 0))) 20 (by decide) (by decide)
 have h3 : iarith .sub .i64 1048576 (nextR t (nextA t (nextA t (nextA t 0))) 20) = 1048576 - nextR t (nextA t (nextA t (nextA t 0))) 20 := by (exact T.num)
 unfold rdm0
 split
 · exact ⟨new_vf hb (by omega) (by rw [h3]; omega), rfl, rfl, Nat.le_refl _⟩
 · exact ⟨new_vf hb (by omega) (by omega), rfl, rfl, Nat.le_refl _⟩
theorem rdmK_ok (t : List Int) {b : Int} {x : In × Nat} (h : RndOk b 0 x.1) : ∀ k, RndOk b k (rdmK t b x k).1
 | 0 => h
 | k + 1 => by
   have ih := rdmK_ok t h k
   show RndOk b (k + 1) (rdmStp t b (rdmK t b x k)).1
   generalize rdmK t b x k = y at *
   obtain ⟨v, hb, hk, hh⟩ := ih
   unfold rdmStp
   split
   · have h1 := tick_ok v
     have h2 := tick_len y.1
     exact ⟨h1.1, h1.2.1.trans hb, h1.2.2.1.trans hk, by dsimp only; omega⟩
   · split
     · have h1 := rcv_ok (sealB b (iarith .add .i64 y.1.f (nextR t (nextA t y.2) 12))) v
       have h2 := rcv_len y.1 (sealB b (iarith .add .i64 y.1.f (nextR t (nextA t y.2) 12)))
       exact ⟨h1.1, h1.2.1.trans hb, h1.2.2.1.trans hk, by dsimp only; omega⟩
     · exact ⟨v, hb, hk, by dsimp only; omega⟩
theorem rdmN_lt (t : List Int) : rdmN t ≤ 24 ∧ nextR t (rdm0 t).2 25 = (rdmN t : Int) := by
 have h := nextR_lt t (rdm0 t).2 25 (by decide) (by decide)
 unfold rdmN
 omega
theorem rdmE_ok (t : List Int) : RndOk (bitsR t 0) 24 (rdmE t).1 := by
 have h := rdmK_ok t (x := ((rdm0 t).1, nextA t (rdm0 t).2)) (rdm0_ok t) (rdmN t)
 have h2 := (rdmN_lt t).1
 exact ⟨h.v, h.b, h.k, by have := h.h; unfold rdmE; omega⟩
theorem random_c (t : List Int) (ht : t.length ≤ 400) (p : Nm) : LSpec Tryz.prog gl 9 [.ptr p 0] [(p, dice t 0)] (fun _ => ((rdmE t).1.av, [(p, dice t (rdmE t).2)])) := by
 have hb := bitsR_ok t 0
 have h1 := nextR_lt t (nextA t 0) 6 (by decide) (by decide)
 have hnew := rnew17_c (G := gl) (bitsR t 0) (nextR t (nextA t 0) 6) awK
 rw [show newI (bitsR t 0) (nextR t (nextA t 0) 6) awK = (⟨bitsR t 0, awK, 0, 0, 0, 0, nextR t (nextA t 0) 6, []⟩, 0) by unfold newI; rw [if_pos ⟨hb, by omega, by omega⟩, if_pos awK_ok]] at hnew
 have hok := fun k => rdmK_ok t (x := ((rdm0 t).1, nextA t (rdm0 t).2)) (rdm0_ok t) k
 have hT : ∀ k, k ≤ 25 → LSpec Tryz.prog gl 33 [(rdmK t (bitsR t 0) ((rdm0 t).1, nextA t (rdm0 t).2) k).1.av] [] (fun _ => (rAV (tickR (rdmK t (bitsR t 0) ((rdm0 t).1, nextA t (rdm0 t).2) k).1), [])) := fun k hk => r17tick_c _ (by have := (hok k).h; omega)
 have hR : ∀ k c, k ≤ 25 → LSpec Tryz.prog gl 14 [(rdmK t (bitsR t 0) ((rdm0 t).1, nextA t (rdm0 t).2) k).1.av, bv (sealB (bitsR t 0) c)] [] (fun _ => (rAV (rcvR (rdmK t (bitsR t 0) ((rdm0 t).1, nextA t (rdm0 t).2) k).1 (sealB (bitsR t 0) c)), [])) := fun k c hk => r17receive_c _ _ (by have := (hok k).h; omega)
 have hS := fun c => seal17_c (bitsR t 0) c
 have hone := fun a n p => one_c (G := gl) t a n ht p
 have hN := rdmN_lt t
 unfold rdmE
 have s1 : ∀ k, nextR t (rdmK t (bitsR t 0) ((rdm0 t).1, nextA t (rdm0 t).2) k).2 3 = iarith .sub .i64 3 1 → rdmK t (bitsR t 0) ((rdm0 t).1, nextA t (rdm0 t).2) (k + 1) = ((tickR (rdmK t (bitsR t 0) ((rdm0 t).1, nextA t (rdm0 t).2) k).1).1, nextA t (rdmK t (bitsR t 0) ((rdm0 t).1, nextA t (rdm0 t).2) k).2) := fun k h => if_pos h
 have s2 : ∀ k, ¬ nextR t (rdmK t (bitsR t 0) ((rdm0 t).1, nextA t (rdm0 t).2) k).2 3 = iarith .sub .i64 3 1 → iarith .add .i64 (rdmK t (bitsR t 0) ((rdm0 t).1, nextA t (rdm0 t).2) k).1.f (nextR t (nextA t (rdmK t (bitsR t 0) ((rdm0 t).1, nextA t (rdm0 t).2) k).2) 12) < 1048576 → rdmK t (bitsR t 0) ((rdm0 t).1, nextA t (rdm0 t).2) (k + 1) = ((rcvR (rdmK t (bitsR t 0) ((rdm0 t).1, nextA t (rdm0 t).2) k).1 (sealB (bitsR t 0) (iarith .add .i64 (rdmK t (bitsR t 0) ((rdm0 t).1, nextA t (rdm0 t).2) k).1.f (nextR t (nextA t (rdmK t (bitsR t 0) ((rdm0 t).1, nextA t (rdm0 t).2) k).2) 12)))).1, nextA t (nextA t (rdmK t (bitsR t 0) ((rdm0 t).1, nextA t (rdm0 t).2) k).2)) := fun k h h2 => (if_neg h).trans (if_pos h2)
 have s3 : ∀ k, ¬ nextR t (rdmK t (bitsR t 0) ((rdm0 t).1, nextA t (rdm0 t).2) k).2 3 = iarith .sub .i64 3 1 → ¬ iarith .add .i64 (rdmK t (bitsR t 0) ((rdm0 t).1, nextA t (rdm0 t).2) k).1.f (nextR t (nextA t (rdmK t (bitsR t 0) ((rdm0 t).1, nextA t (rdm0 t).2) k).2) 12) < 1048576 → rdmK t (bitsR t 0) ((rdm0 t).1, nextA t (rdm0 t).2) (k + 1) = ((rdmK t (bitsR t 0) ((rdm0 t).1, nextA t (rdm0 t).2) k).1, nextA t (nextA t (rdmK t (bitsR t 0) ((rdm0 t).1, nextA t (rdm0 t).2) k).2)) := fun k h h2 => (if_neg h).trans (if_neg h2)
 have s0 : rdmK t (bitsR t 0) ((rdm0 t).1, nextA t (rdm0 t).2) 0 = ((rdm0 t).1, nextA t (rdm0 t).2) := rfl
 generalize rdmN t = N at *
 generalize rdmK t (bitsR t 0) ((rdm0 t).1, nextA t (rdm0 t).2) = X at *
 by_cases h4 : oneR t (nextA t (nextA t 0)) 4 = true
 all_goals
  first | (rw [show rdm0 t = _ from if_pos h4] at s0 hN) | (rw [show rdm0 t = _ from if_neg h4] at s0 hN)
  have hone4 := fun p => hone (nextA t (nextA t 0)) 4 p
  first | rw [h4] at hone4 | rw [Bool.eq_false_iff.2 h4] at hone4
  have s0a := congrArg Prod.fst s0
  have s0b := congrArg Prod.snd s0
  dsimp only at s0a s0b hN
  refine goW [] Tryz.func9 rfl ?_
  conv => whnf
  repeat' ((first | exact Nm.b 0 | (show LCall _ _ _ _ _ _; first | (apply LCall.upd (dbits_c t _ ht _); (repeat first | refine goH ?_ | apply LHas.here | apply LHas.next); refine ⟨rfl, ?_⟩) | (apply LCall.upd (hone4 _); (repeat first | refine goH ?_ | apply LHas.here | apply LHas.next); refine ⟨rfl, ?_⟩) | (apply LCall.upd (hone _ _ _); (repeat first | refine goH ?_ | apply LHas.here | apply LHas.next); refine ⟨rfl, ?_⟩) | (apply LCall.upd (next_c t _ _ ht _); (repeat first | refine goH ?_ | apply LHas.here | apply LHas.next); refine ⟨rfl, ?_⟩) | refine LCall.pure (key17_c) ?_ | refine LCall.pure (hnew) ?_ | refine LCall.pure (hT _ (by omega)) ?_ | refine LCall.pure (hS _) ?_ | refine LCall.pure (hR _ _ (by omega)) ?_ | refine goE ?_) | refine T.s ?_ | ((first | apply goB | apply ABr.dec | apply ABr.gen) <;> intro h <;> try (exfalso; omega)) | refine LFresh.mk fun r => ?_ | (show SWpL _ _ _ (.loop _) _ _ _; first | (apply goO tyOk [] 7 (S := Nat × Nm × Nm) [0, 3] (fun (k, b2, b4) => ⟨[(2, .ptr b2 0), (4, .ptr b4 0), (6, .int .i64 ((N : Int) - (k : Int)))], [(p, dice t (X k).2), (b4, ⟨32, (X k).1.cs⟩), (b2, ⟨32, zIn⟩)], k ≤ N, N - k⟩) ((0, _, _)) (by rfl); (focus ((repeat' first | exact trivial | (refine And.intro ?_ ?_) | exact LSub.nil | (with_reducible exact LSub.refl) | (apply LSub.cons; (repeat first | refine goH ?_ | apply LHas.here | apply LHas.next); refine And.intro ?_ ?_; (focus (try (first | (with_reducible rfl) | (refine congrArg (Pl.mk _) ?_; (first | rfl | (simp; done))) | rfl | (with_reducible refine congrArg (Pl.mk _) ?_))))) | assumption | (rw [s0a] <;> rfl) | (rw [s0b] <;> rfl) | (rw [s1 k] <;> first | assumption | rfl) | (rw [s2 k] <;> first | assumption | rfl) | (rw [s3 k] <;> first | assumption | rfl) | (first | (focus (apply Eq.trans; (conv => lhs; whnf); (conv => rhs; whnf); done)) | rfl | ((conv => lhs; whnf); first | rfl | (refine congrArg (AV.int _) ?_; (exact T.num)) | (refine congrArg AV.bool ?_; (exact T.num)) | (refine vw_congr ?_; first | (exact T.num) | (first | rfl | (simp; done))) | (refine sl_congr ?_ ?_ <;> first | (exact T.num) | (first | rfl | (simp; done))) | (first | rfl | (simp; done)))) | (exact T.num) | (dsimp only; (exact T.num)) | (first | rfl | (simp; done))); done)); rintro ⟨k, b2, b4⟩ hok; (try dsimp only at hok))) | (show SWpL _ _ _ _ _ _ _; first | refine gX 11 [1, 3] [0, 1, 2, 3, 4, 5] [p] ?_ | refine gX 13 [0, 3] [0, 1, 2, 3, 4, 5, 6, 7, 8, 9] [p] ?_) | (show AtL _ _ _ _ _ _ _ _ _ _; first | (apply AtL.mk' (id := 7) (S := Nat × Nm × Nm) ((k + 1, b2, b4)); (repeat' first | exact trivial | (refine And.intro ?_ ?_) | exact LSub.nil | (with_reducible exact LSub.refl) | (apply LSub.cons; (repeat first | refine goH ?_ | apply LHas.here | apply LHas.next); refine And.intro ?_ ?_; (focus (try (first | (with_reducible rfl) | (refine congrArg (Pl.mk _) ?_; (first | rfl | (simp; done))) | rfl | (with_reducible refine congrArg (Pl.mk _) ?_))))) | assumption | (rw [s0a] <;> rfl) | (rw [s0b] <;> rfl) | (rw [s1 k] <;> first | assumption | rfl) | (rw [s2 k] <;> first | assumption | rfl) | (rw [s3 k] <;> first | assumption | rfl) | (first | (focus (apply Eq.trans; (conv => lhs; whnf); (conv => rhs; whnf); done)) | rfl | ((conv => lhs; whnf); first | rfl | (refine congrArg (AV.int _) ?_; (exact T.num)) | (refine congrArg AV.bool ?_; (exact T.num)) | (refine vw_congr ?_; first | (exact T.num) | (first | rfl | (simp; done))) | (refine sl_congr ?_ ?_ <;> first | (exact T.num) | (first | rfl | (simp; done))) | (first | rfl | (simp; done)))) | (exact T.num) | (dsimp only; (exact T.num)) | (first | rfl | (simp; done))); done) | (apply AtL.mk' (id := 7) (S := Nat × Nm × Nm) ((k + 1, b2, b4)); (repeat' first | exact trivial | (refine And.intro ?_ ?_) | exact LSub.nil | (with_reducible exact LSub.refl) | (apply LSub.cons; (repeat first | refine goH ?_ | apply LHas.here | apply LHas.next); refine And.intro ?_ ?_; (focus (try (first | (with_reducible rfl) | (refine congrArg (Pl.mk _) ?_; (first | rfl | (simp; done))) | rfl | (with_reducible refine congrArg (Pl.mk _) ?_))))) | assumption | (rw [s0a] <;> rfl) | (rw [s0b] <;> rfl) | (rw [s1 k] <;> first | assumption | rfl) | (rw [s2 k] <;> first | assumption | rfl) | (rw [s3 k] <;> first | assumption | rfl) | (first | (focus (apply Eq.trans; (conv => lhs; whnf); (conv => rhs; whnf); done)) | rfl | ((conv => lhs; whnf); first | rfl | (refine congrArg (AV.int _) ?_; (exact T.num)) | (refine congrArg AV.bool ?_; (exact T.num)) | (refine vw_congr ?_; first | (exact T.num) | (first | rfl | (simp; done))) | (refine sl_congr ?_ ?_ <;> first | (exact T.num) | (first | rfl | (simp; done))) | (first | rfl | (simp; done)))) | (exact T.num) | (dsimp only; (exact T.num)) | (first | rfl | (simp; done))))) | exact T.z | fail) <;> conv => whnf)
  all_goals (try dsimp only)
  all_goals
   obtain rfl : N = k := by omega
   (show RetL _ _ _; refine goR ?_)
   rfl
open Go.RowKit
def kyQ : Ky := ⟨filled 32 1, filled 16 2, 9, 0, 0⟩
theorem kyQ_ok : kyQ.ok = true := by simp [kyQ, Ky.ok]
theorem vf_key {i : In} (v : Vf i) {k : Ky} (hk : k.ok = true) : Vf { i with k := k } := ⟨v.b, hk, v.f, v.n, v.t, v.l, v.m, v.w, v.h, v.e⟩
theorem openR_06 {k : Ky} {b n : Int} {u : List UInt8} (h : k.ok = true) (h2 : (bitsOk b && countOk n) = true) (h3 : numR b u = (lowR b n, 0)) : (openR k b n u).2 = 0 ∨ (openR k b n u).2 = 6 := by
 rw [openR_ok h h2 (by rw [h3]) (by rw [h3])]
 split
 · exact .inl rfl
 · exact .inr rfl
theorem rcv_first {i : In} (v : Vf i) {u : List UInt8} (hf : i.f < 1048576) (hu : numR i.b u = (lowR i.b i.f, 0)) :
   rcvR i u = if (openR i.k i.b i.f u).2 = 0 then (behI { i with f := i.f + 1 } 0, [(openR i.k i.b i.f u).1] ++ behO { i with f := i.f + 1 } 0, 0) else (i, [], (openR i.k i.b i.f u).2) := by
 have h1 := v.f
 have h2 := win_pow v.b
 have hi : infR i.b i.f (lowR i.b i.f) = (i.f, 0) := inf_near v.b h1 (by simp [countOk]; omega) (by omega) (by omega)
 have hh : hitR i.h i.f = false := decide_eq_false fun h => by
   have := v.lo (posR i.h i.f) h.1
   omega
 unfold rcvR
 rw [if_pos v.to, hu, if_pos rfl, hi, if_pos rfl]
 split
 · show takeR i i.f _ = _
   unfold takeR
   rw [if_neg (by omega), if_neg (by rw [hh]; decide), if_pos rfl]
 · rfl
theorem rk_old {i : In} (v : Vf i) (hf : i.f < 1048576) : ∃ x y e, rcvR { i with k := kyQ } (sealB i.b i.f) = (x, y, e) ∧ ((e = 6 ∧ y = []) ∨ e = 0) := by
 have h1 := v.f
 have hc : countOk i.f = true := by simp [countOk]; omega
 have hn : numR i.b (sealB i.b i.f) = (lowR i.b i.f, 0) := by
   unfold sealB
   rw [sealR_ok awK_ok (by rw [v.b, hc]; rfl) rfl]
   exact num_seal awK i.b i.f _ awK_ok v.b hc rfl
 have h2 := rcv_first (i := { i with k := kyQ }) (vf_key v kyQ_ok) hf hn
 have h3 := openR_06 (k := kyQ) (b := i.b) (n := i.f) (u := sealB i.b i.f) kyQ_ok (by rw [v.b, hc]; rfl) hn
 have h3' : (openR ({ i with k := kyQ } : In).k ({ i with k := kyQ } : In).b ({ i with k := kyQ } : In).f (sealB i.b i.f)).2 = 0 ∨ (openR ({ i with k := kyQ } : In).k ({ i with k := kyQ } : In).b ({ i with k := kyQ } : In).f (sealB i.b i.f)).2 = 6 := h3
 rcases h3' with h4 | h4
 · rw [if_pos h4] at h2; exact ⟨_, _, _, h2, .inr rfl⟩
 · rw [if_neg (by rw [h4]; decide), h4] at h2; exact ⟨_, _, _, h2, .inl ⟨rfl, rfl⟩⟩
theorem rk_new {i : In} (v : Vf i) (hf : i.f < 1048576) : ∃ x y, rcvR { i with k := kyQ } (sealL kyQ i.b i.f [5]) = (x, [5] :: y, 0) ∧ i.f < x.f := by
 have h1 := v.f
 have hc : countOk i.f = true := by simp [countOk]; omega
 have h2 := rcv_first (i := { i with k := kyQ }) (vf_key v kyQ_ok) hf (num_seal kyQ i.b i.f [5] kyQ_ok v.b hc rfl)
 have h3 := open_seal kyQ i.b i.f [5] kyQ_ok v.b hc rfl
 have h3' : openR ({ i with k := kyQ } : In).k ({ i with k := kyQ } : In).b ({ i with k := kyQ } : In).f (sealL kyQ i.b i.f [5]) = ([5], 0) := h3
 rw [h3', if_pos rfl] at h2
 refine ⟨_, _, h2, ?_⟩
 have := (beh_kb { i with k := kyQ, f := i.f + 1 } 0).2.2.1
 dsimp only at this ⊢
 omega
theorem rekeys_c (t : List Int) : LSpec Tryz.prog gl 3 [iv t] [] (fun _ => (.bool true, [])) := by
 by_cases ht : t.length ≤ 400
 · have hl := light_c (G := gl) t
   rw [decide_eq_true ht] at hl
   have hr := fun p => random_c t ht p
   have hok := rdmE_ok t
   generalize rdmE t = E at *
   obtain ⟨i, a⟩ := E
   obtain ⟨v, hb, hk, hh⟩ := hok
   dsimp only at v hb hk hh hr
   have hrk := drekey_c (G := gl) i kyQ (by omega)
   have erk : rkyI i kyQ = ({ i with k := kyQ }, 0) := by
     unfold rkyI
     rw [if_pos v.to, if_pos ⟨kyQ_ok, by rw [hk]; decide⟩]
   have hrs := drestart_c (G := gl) i kyQ (by omega)
   have ers : rstI i kyQ = (⟨i.b, kyQ, 0, 0, 0, 0, i.t, []⟩, i.h.map (·.d), 0) := by
     unfold rstI
     rw [erk, if_pos rfl]
   rw [erk] at hrk
   rw [ers] at hrs
   by_cases hf : i.f = 1048576
   · refine goW [] Tryz.func3 rfl ?_
     conv => whnf
     repeat' ((first | exact Nm.b 0 | (show LCall _ _ _ _ _ _; first | refine LCall.pure (awake17_c) ?_ | refine LCall.pure (hl) ?_ | refine LCall.own (roll_c t) ?_ | (apply LCall.upd (hr _); (repeat first | refine goH ?_ | apply LHas.here | apply LHas.next); refine ⟨rfl, ?_⟩) | refine LCall.pure (key17_c) ?_ | refine LCall.pure (hrk) ?_ | refine goE ?_) | refine T.s ?_ | ((first | apply goB | apply ABr.dec | apply ABr.gen) <;> intro h <;> try (exfalso; omega)) | refine LFresh.mk fun r => ?_ | (show SWpL _ _ _ _ _ _ _; first | (refine goD tyOk mixed 12 [0, 5] [0, 1, 2, 3, 4, 5, 6, 7, 8, 9, 10, 11, 12, 13, 14] [] (by kernel_rfl) ?_) | (refine goD tyOk mixed 13 [0, 5] [0, 1, 2, 3, 4, 5, 6, 7, 8, 9, 10, 11, 12, 13, 14] [] (by kernel_rfl) ?_)) | exact T.z | fail) <;> conv => whnf)
     all_goals (try dsimp only)
     all_goals first | contradiction | ((show RetL _ _ _; refine goR ?_); rfl) | trace_state
   · have hf2 : i.f < 1048576 := by have := v.f; omega
     obtain ⟨x1, y1, e1, h1, h1c⟩ := rk_old v hf2
     obtain ⟨x2, y2, h2, h2c⟩ := rk_new v hf2
     have hR1 := dreceive_c { i with k := kyQ } (sealB i.b i.f) (by dsimp only; omega)
     have hR1' := r17receive_c { i with k := kyQ } (sealB i.b i.f) (by dsimp only; omega)
     have hR2 := dreceive_c { i with k := kyQ } (sealL kyQ i.b i.f [5]) (by dsimp only; omega)
     rw [h1] at hR1 hR1'
     rw [h2] at hR2
     have hsd := seal17_c i.b i.f
     have hsn := rseal_c kyQ i.b i.f [5]
     rw [sealR_ok kyQ_ok (by rw [v.b, show countOk i.f = true by simp [countOk]; have := v.f; omega]; rfl) rfl] at hsn
     have hsm := same_r (G := gl) [5]
     generalize sealB i.b i.f = u1 at *
     generalize sealL kyQ i.b i.f [5] = u2 at *
     have hml : ((i.h.map (·.d)).length : Int) = (i.h.length : Int) := by rw [List.length_map]
     rcases h1c with ⟨rfl, rfl⟩ | rfl
     all_goals
      refine goW [] Tryz.func3 rfl ?_
      conv => whnf
      repeat' ((first | (show LEra _ _ _; conv => whnf) | (show List.map bAV _ = _; exact rfl) | exact Nm.b 0 | (show LCall _ _ _ _ _ _; first | refine LCall.pure (awake17_c) ?_ | refine LCall.pure (hl) ?_ | refine LCall.own (roll_c t) ?_ | (apply LCall.upd (hr _); (repeat first | refine goH ?_ | apply LHas.here | apply LHas.next); refine ⟨rfl, ?_⟩) | refine LCall.pure (key17_c) ?_ | refine LCall.pure (hrk) ?_ | refine LCall.pure (hsd) ?_ | refine LCall.pure (hR1) ?_ | refine LCall.pure (hR1') ?_ | refine LCall.mk' (hsn) [_] ⟨LF.eq rfl, LF.eq rfl, LF.eq rfl, LF.row InL.here ?_, trivial⟩ ?_ | refine LCall.pure (hR2) ?_ | refine LCall.pure (hrs) ?_ | refine LCall.mk' (hsm) [_] ⟨LF.eq rfl, LF.row InL.here ?_, trivial⟩ ?_ | refine goE ?_) | refine T.s ?_ | ((first | apply goB | apply ABr.dec | apply ABr.gen) <;> intro h <;> try (exfalso; omega)) | refine LFresh.mk fun r => ?_ | (show SWpL _ _ _ _ _ _ _; first | refine gX 12 [0, 5] [0, 1, 2, 3, 4, 5, 6, 7, 8, 9, 10, 11, 12, 13, 14] [] ?_ | refine gX 13 [0, 5] [0, 1, 2, 3, 4, 5, 6, 7, 8, 9, 10, 11, 12, 13, 14] [] ?_) | exact T.z | fail) <;> conv => whnf)
      all_goals (try dsimp only)
      all_goals first | contradiction | ((show RetL _ _ _; refine goR ?_); rfl) | ((show RetL _ _ _; refine goR ?_); simp [icmp]; done) | (exfalso; revert h; simp; done) | trace_state
 · have hl := light_c (G := gl) t
   rw [decide_eq_false ht] at hl
   refine goW [] Tryz.func3 rfl ?_
   conv => whnf
   repeat' ((first | exact Nm.b 0 | (show LCall _ _ _ _ _ _; first | refine LCall.pure (awake17_c) ?_ | refine LCall.pure (hl) ?_ | refine goE ?_) | refine T.s ?_ | ((first | apply goB | apply ABr.dec | apply ABr.gen) <;> intro h <;> try (exfalso; omega)) | refine LFresh.mk fun r => ?_ | (show SWpL _ _ _ _ _ _ _; first | (refine goD tyOk mixed 12 [0, 5] [0, 1, 2, 3, 4, 5, 6, 7, 8, 9, 10, 11, 12, 13, 14] [] (by kernel_rfl) ?_) | (refine goD tyOk mixed 13 [0, 5] [0, 1, 2, 3, 4, 5, 6, 7, 8, 9, 10, 11, 12, 13, 14] [] (by kernel_rfl) ?_)) | exact T.z | fail) <;> conv => whnf)
   all_goals (try dsimp only)
   all_goals first | contradiction | ((show RetL _ _ _; refine goR ?_); rfl) | trace_state
end Go.Proofs.YtnmifddidgofaaaGreatDoor
