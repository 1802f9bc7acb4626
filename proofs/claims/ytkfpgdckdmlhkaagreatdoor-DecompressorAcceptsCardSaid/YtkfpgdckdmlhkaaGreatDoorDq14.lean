/-
  Contracts of the functions that the laws reach.
-/
import Derived.Test.YtkfpgdckdmlhkaaGreatDoorDq01
import Derived.Test.YtkfpgdckdmlhkaaGreatDoorDq02
import Derived.Test.YtkfpgdckdmlhkaaGreatDoorDq03
import Derived.Test.YtkfpgdckdmlhkaaGreatDoorDq04
import Derived.Test.YtkfpgdckdmlhkaaGreatDoorDq05
import Derived.Test.YtkfpgdckdmlhkaaGreatDoorDq06
import Derived.Test.YtkfpgdckdmlhkaaGreatDoorDq07
import Derived.Test.YtkfpgdckdmlhkaaGreatDoorDq08
import Derived.Test.YtkfpgdckdmlhkaaGreatDoorDq09
import Derived.Test.YtkfpgdckdmlhkaaGreatDoorDq10
import Derived.Test.YtkfpgdckdmlhkaaGreatDoorDq11
import Derived.Test.YtkfpgdckdmlhkaaGreatDoorDq12
import Derived.Test.YtkfpgdckdmlhkaaGreatDoorDq13
set_option maxHeartbeats 4000000
set_option linter.all false
namespace Go.Proofs.YtkfpgdckdmlhkaaGreatDoor
open Go.RowKit
variable {G : Nat → AV}
theorem fmR_rng (c : UInt8) : 0 ≤ fmR c ∧ fmR c ≤ 6 := by unfold fmR; (repeat' split) <;> omega
theorem kM {b : List UInt8} {c f : Int} (h : ql b = (c, f, 0)) : (0 ≤ c ∧ c < 16) ∧ 1 ≤ f ∧ f ≤ 6 := by
 unfold ql at h
 split at h
 · injection h with h1 h; injection h with h2 h3; cases h3
 · rename_i a r
   split at h
   · rename_i ha
     split at h
     · injection h with h1 h; injection h with h2 h3; cases h3
     · rename_i d l
       split at h
       · injection h with h1 h; injection h with h2 h3; cases h3
       · injection h with h1 h; injection h with h2 h3
         have := fmR_rng d
         omega
   · split at h
     · injection h with h1 h; injection h with h2 h3; cases h3
     · injection h with h1 h; injection h with h2 h3
       have := fmR_rng a
       omega
theorem fdecE_c (b : List UInt8) (k : Int) (ck : Bool) (c f e : Int) (hp : ql b = (c, f, e)) (he : e ≠ 0) : LP Tryz.prog G 62 [bv b, iAV k, .bool ck] [] (fun _ => (de (.inr e), [])) := by
 refine goW [] Tryz.func62 rfl ?_
 conv => whnf
 repeat' ((first | (show LC _ _ _ _ _ _; first | refine LC.pure (fpk hp) ?_ | refine goE ?_) | refine T.s ?_ | ((first | apply goB | apply AB.dec | apply AB.gen) <;> intro h <;> try (exfalso; omega)) | refine LQ.mk fun r => ?_ | exact T.z | fail) <;> conv => whnf)
 all_goals (try dsimp only)
 (show RL _ _ _; refine goR ?_)
 rfl
theorem rdecE_c (b : List UInt8) (k : Int) (ck : Bool) (c f e : Int) (hp : ql b = (c, f, e)) (he : e ≠ 0) : LP Tryz.prog G 28 [bv b, iAV k, .bool ck] [] (fun _ => (de (.inr e), [])) := by
 refine goW [] Tryz.func28 rfl ?_
 conv => whnf
 repeat' ((first | (show LC _ _ _ _ _ _; first | refine LC.pure (rpk hp) ?_ | refine goE ?_) | refine T.s ?_ | ((first | apply goB | apply AB.dec | apply AB.gen) <;> intro h <;> try (exfalso; omega)) | refine LQ.mk fun r => ?_ | exact T.z | fail) <;> conv => whnf)
 all_goals (try dsimp only)
 (show RL _ _ _; refine goR ?_)
 rfl
theorem fdecK_c (b : List UInt8) (hb : b.length ≤ 140737488355328) (k : Int) (ck : Bool) (c f : Int) (hp : ql b = (c, f, 0)) (hf : f ≤ 4) (h1 : k ≠ 1) (h2 : k ≠ 2) : LP Tryz.prog G 62 [bv b, iAV k, .bool ck] [] (fun _ => (de (.inr 7), [])) := by
 refine goW [] Tryz.func62 rfl ?_
 conv => whnf
 repeat' ((first | (show LC _ _ _ _ _ _; first | refine LC.pure (fpk hp) ?_ | (apply LC.upd (jU _ b hb); (repeat first | refine goH ?_ | apply LH.here | apply LH.next); refine ⟨rfl, ?_⟩) | refine goE ?_) | refine T.s ?_ | ((first | apply goB | apply AB.dec | apply AB.gen) <;> intro h <;> try (exfalso; omega)) | refine LQ.mk fun r => ?_ | exact T.z | fail) <;> conv => whnf)
 all_goals (try dsimp only)
 all_goals (show RL _ _ _; refine goR ?_)
 all_goals rfl
theorem rdecK_c (b : List UInt8) (k : Int) (ck : Bool) (c f : Int) (hp : ql b = (c, f, 0)) (hf : f ≤ 4) (h1 : k ≠ 1) (h2 : k ≠ 2) : LP Tryz.prog G 28 [bv b, iAV k, .bool ck] [] (fun _ => (de (.inr 7), [])) := by
 refine goW [] Tryz.func28 rfl ?_
 conv => whnf
 repeat' ((first | (show LC _ _ _ _ _ _; first | refine LC.pure (rpk hp) ?_ | refine goE ?_) | refine T.s ?_ | ((first | apply goB | apply AB.dec | apply AB.gen) <;> intro h <;> try (exfalso; omega)) | refine LQ.mk fun r => ?_ | exact T.z | fail) <;> conv => whnf)
 all_goals (try dsimp only)
 all_goals (show RL _ _ _; refine goR ?_)
 all_goals rfl
theorem z7 {n : Nat} {X : Rdr} (h : rE (rtk n X) = false) : rE X = false ∧ (rL X).length = n + (rL (rtk n X)).length := by
 obtain ⟨_ | l, hl⟩ := X
 · exfalso
   unfold rE rtk at h
   cases h
 · unfold rE rtk at h
   unfold rE rL rtk
   refine ⟨rfl, ?_⟩
   show l.length = n + ((tkR n (some l)).getD []).length
   by_cases hn : l.length < n
   · have e : tkR n (some l) = none := if_pos hn
     have h : (tkR n (some l)).isNone = false := h
     rw [e] at h
     cases h
   · have e : tkR n (some l) = some (l.drop n) := if_neg hn
     rw [e]
     simp
     omega
theorem kz (ck : Bool) (X : Rdr) (s : Sm) (b : List UInt8) (N : Nat) (hf : s.f = 1 ∨ s.f = 2 ∨ s.f = 3) (hN : rE X = false → b.length = N + (rL X).length) (hd : (xq s).length + (qD s).length = N) : jq ck X s b = zi ck X s b := by
 cases ck with
 | false => rfl
 | true =>
   show xW (rtk 2 X) (wud s (rv 2 X)) b = _
   cases hE : rE (rtk 2 X) with
   | true => rw [w7 hE, zM hE]
   | false =>
     by_cases h0 : rv 2 X = 0
     · rw [w8 hE h0, h0]
       refine z5 hE fun e => ?_
       have h1 := z7 hE
       have h2 := hN h1.1
       have e2 := congrArg List.length e
       have h3 : ∀ s' : Sm, xq s' = xq s → qD s' = qD s → kc s' = 0 → s'.pl = rL (rtk 2 X) → (zu s').1.length = b.length → False := by
         intro s' k1 k2 k3 k4 k5
         unfold zu at k5
         split at k5
         · unfold hdL at k5
           rw [if_pos k3, k1, k2, k4] at k5
           simp only [List.length_append, List.length_nil] at k5
           omega
         · simp only [List.length_nil] at k5
           omega
       refine h3 _ ?_ ?_ ?_ rfl e2
       · unfold xq; rfl
       · unfold qD; rfl
       · rw [sum_eq]; exact if_neg (show ¬ (s.f = 4 ∨ s.f = 5) by omega)
     · rw [w6 hE h0]
theorem pre_ln (s : Sm) : (xq s).length = if 0 < s.cx then 1 else 0 := by unfold xq; split <;> rfl
theorem body1 (s : Sm) (h : s.f = 1) : (qD s).length = 1 := by unfold qD; rw [if_pos h]; rfl
theorem body2T (s : Sm) (h : s.f = 2) (hk : s.h.k = 2) : (qD s).length = 4 := by unfold qD; rw [if_neg (by omega), if_pos h, if_pos hk]; simp
theorem body2U (s : Sm) (h : s.f = 2) (hk : s.h.k ≠ 2) : (qD s).length = 2 := by unfold qD; rw [if_neg (by omega), if_pos h, if_neg hk]; simp
theorem body3T (s : Sm) (h : s.f = 3) (hk : s.h.k = 2) : (qD s).length = 9 := by unfold qD; rw [if_neg (by omega), if_neg (by omega), if_pos h, if_pos hk, if_pos hk]; simp
theorem body3U (s : Sm) (h : s.f = 3) (hk : s.h.k ≠ 2) : (qD s).length = 4 := by unfold qD; rw [if_neg (by omega), if_neg (by omega), if_pos h, if_neg hk, if_neg hk]; simp
theorem kw {b : List UInt8} {hb : b.length ≤ 140737488355328} {c : Int} {X : Rdr} (hc : (0 < c ∧ X = rtk 1 (rdr b hb)) ∨ (¬ 0 < c ∧ X = rdr b hb)) (h : rE X = false) : b.length = (if 0 < c then 1 else 0) + (rL X).length := by
 have e : (rL (rdr b hb)).length = b.length := by unfold rL rdr; rfl
 rcases hc with ⟨h1, rfl⟩ | ⟨h1, rfl⟩
 · rw [if_pos h1, ← e]; exact (z7 h).2
 · rw [if_neg h1, Nat.zero_add, e]
theorem decR_e {b : List UInt8} {hb : b.length ≤ 140737488355328} {k : Int} {ck : Bool} {c f e : Int} (hp : ql b = (c, f, e)) (he : e ≠ 0) : qY b hb k ck = .inr e := by
 unfold qY; rw [hp]; exact if_pos he
theorem decR_k {b : List UInt8} {hb : b.length ≤ 140737488355328} {k : Int} {ck : Bool} {c f : Int} (hp : ql b = (c, f, 0)) (hf : f ≤ 4) (h1 : k ≠ 1) (h2 : k ≠ 2) : qY b hb k ck = .inr 7 := by
 unfold qY; rw [hp]; rw [if_neg (fun h => h rfl), if_pos ⟨hf, h1, h2⟩]
theorem decR_b {b : List UInt8} {hb : b.length ≤ 140737488355328} {k : Int} {ck : Bool} {c f : Int} (hp : ql b = (c, f, 0)) (h : ¬ (f ≤ 4 ∧ k ≠ 1 ∧ k ≠ 2)) : qY b hb k ck = decB f c (if 0 < c then rtk 1 (rdr b hb) else rdr b hb) b k ck := by
 unfold qY; rw [hp]; rw [if_neg (fun h => h rfl), if_neg h]
theorem full_e {c : Int} {Y : Rdr} {b : List UInt8} (h : rE (rtk 1 Y) = true) : kP c Y b = .inr 5 := if_pos h
theorem full_t {c : Int} {Y : Rdr} {b : List UInt8} (h : rE (rtk 1 Y) = false) (hk : rv 1 Y = 2) : kP c Y b = ka (qq (rtk 4 (stX Y))) (jg (rtk 4 (stX Y)) (stT Y (s0 c 5))) (jl (rtk 4 (stX Y))) b := by
 unfold kP; rw [if_neg (by rw [h]; decide), if_pos hk]
theorem full_u {c : Int} {Y : Rdr} {b : List UInt8} (h : rE (rtk 1 Y) = false) (hk : rv 1 Y = 1) : kP c Y b = ka (qp (stX Y)) (jf (stX Y) (stH Y (s0 c 5))) (jl (stX Y)) b := by
 unfold kP; rw [if_neg (by rw [h]; decide), if_neg (by omega), if_pos hk]
theorem full_f {c : Int} {Y : Rdr} {b : List UInt8} (h : rE (rtk 1 Y) = false) (h1 : rv 1 Y ≠ 1) (h2 : rv 1 Y ≠ 2) : kP c Y b = .inr 4 := by
 unfold kP; rw [if_neg (by rw [h]; decide), if_neg h2, if_neg h1]
theorem rdecode_c (b : List UInt8) (hb : b.length ≤ 140737488355328) (k : Int) (ck : Bool) : LP Tryz.prog G 28 [bv b, iAV k, .bool ck] [] (fun _ => (de (qY b hb k ck), [])) := by
 obtain ⟨c, f, e, hp⟩ : ∃ c f e, ql b = (c, f, e) := ⟨_, _, _, rfl⟩
 by_cases he : ¬ e = 0
 · rw [decR_e hp he]; exact rdecE_c b k ck c f e hp he
 have he : e = 0 := Decidable.of_not_not he
 subst he
 obtain ⟨hc, hf⟩ := kM hp
 by_cases hk : f ≤ 4 ∧ k ≠ 1 ∧ k ≠ 2
 · rw [decR_k hp hk.1 hk.2.1 hk.2.2]; exact rdecK_c b k ck c f hp hk.1 hk.2.1 hk.2.2
 rw [decR_b hp hk]
 have hX : (0 < c ∧ (if 0 < c then rtk 1 (rdr b hb) else rdr b hb) = rtk 1 (rdr b hb)) ∨ (¬ 0 < c ∧ (if 0 < c then rtk 1 (rdr b hb) else rdr b hb) = rdr b hb) := by
   by_cases h : 0 < c
   · exact .inl ⟨h, if_pos h⟩
   · exact .inr ⟨h, if_neg h⟩
 generalize (if 0 < c then rtk 1 (rdr b hb) else rdr b hb) = X at hX ⊢
 have h6 : f = 1 ∨ f = 2 ∨ f = 3 ∨ f = 4 ∨ f = 5 ∨ f = 6 := by omega
 have hkk : f ≤ 4 → k = 1 ∨ k = 2 := by omega
 unfold decB
 rcases h6 with rfl | rfl | rfl | rfl | rfl | rfl
 · exact rdec1_c b hb k ck c X hp (hkk (by decide)) hX
 · rcases hkk (by decide) with rfl | rfl
   · exact rdec2U_c b hb ck c X hp hX
   · exact rdec2T_c b hb ck c X hp hX
 · rcases hkk (by decide) with rfl | rfl
   · exact rdec3U_c b hb ck c X hp hX
   · exact rdec3T_c b hb ck c X hp hX
 · rcases hkk (by decide) with rfl | rfl
   · exact rdec4U_c b hb ck c X hp hX
   · exact rdec4T_c b hb ck c X hp hX
 · show LP _ G _ _ _ fun _ => (de (kP c (rtk 1 X) b), [])
   cases hE : rE (rtk 1 (rtk 1 X)) with
   | true => rw [full_e hE]; exact rdec5E_c b hb k ck c X hp hE hX
   | false =>
     by_cases h2 : rv 1 (rtk 1 X) = 2
     · rw [full_t hE h2]; exact rdec5T_c b hb k ck c X hp hE h2 hX
     · by_cases h1 : rv 1 (rtk 1 X) = 1
       · rw [full_u hE h1]; exact rdec5U_c b hb k ck c X hp hE h1 hX
       · rw [full_f hE h1 h2]; exact rdec5F_c b hb k ck c X hp hE h1 h2 hX
 · exact rdec6_c b hb k ck c X hp hX
theorem fdecode_c (b : List UInt8) (hb : b.length ≤ 140737488355328) (k : Int) (ck : Bool) : LP Tryz.prog G 62 [bv b, iAV k, .bool ck] [] (fun _ => (de (qY b hb k ck), [])) := by
 obtain ⟨c, f, e, hp⟩ : ∃ c f e, ql b = (c, f, e) := ⟨_, _, _, rfl⟩
 by_cases he : ¬ e = 0
 · rw [decR_e hp he]; exact fdecE_c b k ck c f e hp he
 have he : e = 0 := Decidable.of_not_not he
 subst he
 obtain ⟨hc, hf⟩ := kM hp
 by_cases hk : f ≤ 4 ∧ k ≠ 1 ∧ k ≠ 2
 · rw [decR_k hp hk.1 hk.2.1 hk.2.2]; exact fdecK_c b hb k ck c f hp hk.1 hk.2.1 hk.2.2
 rw [decR_b hp hk]
 have hX : (0 < c ∧ (if 0 < c then rtk 1 (rdr b hb) else rdr b hb) = rtk 1 (rdr b hb)) ∨ (¬ 0 < c ∧ (if 0 < c then rtk 1 (rdr b hb) else rdr b hb) = rdr b hb) := by
   by_cases h : 0 < c
   · exact .inl ⟨h, if_pos h⟩
   · exact .inr ⟨h, if_neg h⟩
 generalize (if 0 < c then rtk 1 (rdr b hb) else rdr b hb) = X at hX ⊢
 have h6 : f = 1 ∨ f = 2 ∨ f = 3 ∨ f = 4 ∨ f = 5 ∨ f = 6 := by omega
 have hkk : f ≤ 4 → k = 1 ∨ k = 2 := by omega
 unfold decB
 rcases h6 with rfl | rfl | rfl | rfl | rfl | rfl
 · have e : jq ck (xr X) (lw1 X k (s0 c 1)) b = zi ck (xr X) (lw1 X k (s0 c 1)) b := by
     refine kz _ _ _ _ _ (.inl rfl) (fun h => ?_) rfl
     have h1 := z7 h
     have := kw hX h1.1
     rw [pre_ln, body1 _ rfl]
     show b.length = (if 0 < c then 1 else 0) + 1 + (rL (rtk 1 X)).length
     omega
   exact e ▸ fdec1_c b hb k ck c X hp (hkk (by decide)) hX
 · rcases hkk (by decide) with rfl | rfl
   · have e : jq ck (ze X) (ym X 1 (s0 c 2)) b = zi ck (ze X) (ym X 1 (s0 c 2)) b := by
       refine kz _ _ _ _ _ (.inr (.inl rfl)) (fun h => ?_) rfl
       have h1 := z7 h
       have h2 := z7 h1.1
       have := kw hX h2.1
       rw [pre_ln, body2U _ rfl (show (1 : Int) ≠ 2 by decide)]
       show b.length = (if 0 < c then 1 else 0) + 2 + (rL (rtk 1 (rtk 1 X))).length
       omega
     exact e ▸ fdec2U_c b hb ck c X hp hX
   · have e : jq ck (zf X) (yn X 2 (s0 c 2)) b = zi ck (zf X) (yn X 2 (s0 c 2)) b := by
       refine kz _ _ _ _ _ (.inr (.inl rfl)) (fun h => ?_) rfl
       have h1 := z7 h
       have h2 := z7 h1.1
       have h3 := z7 h2.1
       have := kw hX h3.1
       rw [pre_ln, body2T _ rfl rfl]
       show b.length = (if 0 < c then 1 else 0) + 4 + (rL (rtk 1 (rtk 2 (rtk 1 X)))).length
       omega
     exact e ▸ fdec2T_c b hb ck c X hp hX
 · rcases hkk (by decide) with rfl | rfl
   · have e : jq ck (zc X) (yk X 1 (s0 c 3)) b = zi ck (zc X) (yk X 1 (s0 c 3)) b := by
       refine kz _ _ _ _ _ (.inr (.inr rfl)) (fun h => ?_) rfl
       have h1 := z7 h
       have h2 := z7 h1.1
       have h3 := z7 h2.1
       have := kw hX h3.1
       rw [pre_ln, body3U _ rfl (show (1 : Int) ≠ 2 by decide)]
       show b.length = (if 0 < c then 1 else 0) + 4 + (rL (rtk 1 (rtk 2 (rtk 1 X)))).length
       omega
     exact e ▸ fdec3U_c b hb ck c X hp hX
   · have e : jq ck (zd X) (yl X 2 (s0 c 3)) b = zi ck (zd X) (yl X 2 (s0 c 3)) b := by
       refine kz _ _ _ _ _ (.inr (.inr rfl)) (fun h => ?_) rfl
       have h1 := z7 h
       have h2 := z7 h1.1
       have h3 := z7 h2.1
       have h4 := z7 h3.1
       have h5 := z7 h4.1
       have := kw hX h5.1
       rw [pre_ln, body3T _ rfl rfl]
       show b.length = (if 0 < c then 1 else 0) + 9 + (rL (rtk 1 (rtk 2 (rtk 4 (rtk 1 (rtk 1 X)))))).length
       omega
     exact e ▸ fdec3T_c b hb ck c X hp hX
 · rcases hkk (by decide) with rfl | rfl
   · exact fdec4U_c b hb ck c X hp hX
   · exact fdec4T_c b hb ck c X hp hX
 · show LP _ G _ _ _ fun _ => (de (kP c (rtk 1 X) b), [])
   cases hE : rE (rtk 1 (rtk 1 X)) with
   | true => rw [full_e hE]; exact fdec5E_c b hb k ck c X hp hE hX
   | false =>
     by_cases h2 : rv 1 (rtk 1 X) = 2
     · rw [full_t hE h2]; exact fdec5T_c b hb k ck c X hp hE h2 hX
     · by_cases h1 : rv 1 (rtk 1 X) = 1
       · rw [full_u hE h1]; exact fdec5U_c b hb k ck c X hp hE h1 hX
       · rw [full_f hE h1 h2]; exact fdec5F_c b hb k ck c X hp hE h1 h2 hX
 · exact fdec6_c b hb k ck c X hp hX
open Go.RowKit
variable {G : Nat → AV}
def dsm : Sm ⊕ Int → Sm
 | .inl s => s
 | .inr _ => s0 0 0
theorem LP.weak {P : Program} {f : FuncId} {args : List AV} {x y : AV} (h : LP P G f args [] (fun _ => (x, []))) (hw : ∀ σ w v, Rd σ w x v → Rd σ w y v) : LP P G f args [] (fun _ => (y, [])) := by
 unfold LP at h ⊢
 exact ⟨h.1, fun q => ⟨by simp, by simp⟩, fun τ w vs h1 h2 h3 h4 h5 => (h.2.2 τ w vs h1 h2 h3 h4 h5).mono fun e w' ⟨v, q, k1, k2, k3, k4, k5, k6⟩ => ⟨v, q, k1, k2, k3, hw _ _ _ k4, k5, k6⟩⟩
theorem weak_agg {σ : q9} {w : World} (l : List AV) (v : Value) (h : Rd σ w (.agg (l ++ [.nils])) v) : Rd σ w (.agg (l ++ [.sl 0 []])) v := by
 obtain ⟨cs, vs, h1, h2⟩ : ∃ cs : List AV, ∃ vs : Array Value, v = .agg vs ∧ (l ++ [AV.nils]).length = vs.size ∧ ∀ i, i < (l ++ [AV.nils]).length → Rd σ w ((l ++ [AV.nils]).getD i .any) (vs.getD i undef) := by
   cases h with
   | agg cs vs h hc => exact ⟨[], vs, rfl, h, hc⟩
 obtain ⟨rfl, h2, h3⟩ := (⟨h1, h2⟩ : _ ∧ _ ∧ _)
 refine .agg _ _ (by simpa using h2) fun i hi => ?_
 have h4 := h3 i (by simpa using hi)
 by_cases hl : i < l.length
 · simpa [List.getD_eq_getElem?_getD, List.getElem?_append_left hl] using h4
 · have hi' : i = l.length := by simp at hi; omega
   subst hi'
   simp only [List.getD_eq_getElem?_getD, List.getElem?_append_right (Nat.le_refl _), Nat.sub_self, List.getElem?_cons_zero, Option.getD_some] at h4 ⊢
   generalize vs.getD l.length undef = u at h4 ⊢
   cases h4
   exact .slnil
theorem LP.warg {P : Program} {f : FuncId} {args args' : List AV} {x : AV} (h : LP P G f args [] (fun _ => (x, []))) (hw : ∀ σ w vs, RdL σ w args' vs → RdL σ w args vs) : LP P G f args' [] (fun _ => (x, [])) := by
 unfold LP at h ⊢
 exact ⟨h.1, fun q => ⟨by simp, by simp⟩, fun τ w vs h1 h2 h3 h4 h5 => h.2.2 τ w vs h1 h2 h3 h4 (hw _ _ _ h5)⟩
theorem weak_dsv {σ : q9} {w : World} (D : Sm ⊕ Int) (v : Value) (h : Rd σ w (de D) v) : Rd σ w (.tup [(dsm D).av, iAV (dse D)]) v := by
 cases D with
 | inl s => exact h
 | inr e =>
   unfold de at h
   generalize hx : [dsv (.inr e), iAV (dse (.inr e))] = l at h
   cases h with
   | tup cs vs h hc =>
     subst hx
     refine .tup _ _ h fun i hi => ?_
     have h4 := hc i hi
     match i, hi with
     | 0, _ => exact weak_agg [iAV 0, iAV 0, iAV 0, iAV 0, iAV 0, iAV 0, iAV 0, iAV 0, iAV 0, iAV 0, iAV 0, iAV 0, iAV 0, iAV 0, iAV 0, iAV 0, iAV 0, iAV 0, iAV 0, iAV 0, iAV 0, iAV 0, iAV 0, iAV 0, iAV 0] _ h4
     | 1, _ => exact h4
theorem vj (b : List UInt8) (hb : b.length ≤ 140737488355328) (k : Int) (ck : Bool) : LP Tryz.prog G 62 [bv b, iAV k, .bool ck] [] (fun _ => (.tup [(dsm (qY b hb k ck)).av, iAV (dse (qY b hb k ck))], [])) := (fdecode_c b hb k ck).weak fun _ _ => weak_dsv _
theorem jQ (b : List UInt8) (hb : b.length ≤ 140737488355328) (k : Int) (ck : Bool) : LP Tryz.prog G 28 [bv b, iAV k, .bool ck] [] (fun _ => (.tup [(dsm (qY b hb k ck)).av, iAV (dse (qY b hb k ck))], [])) := (rdecode_c b hb k ck).weak fun _ _ => weak_dsv _
attribute [irreducible] dsm
theorem sameT_c (a : List UInt8) : LP Tryz.prog G 26 [bv a, bv a] [] (fun _ => (.bool true, [])) := by
 have h := xw (G := G) a a
 rwa [decide_eq_true (rfl : a = a)] at h
open Go.RowKit
structure Rc where
 st : Int
 la : Hd
 dy : Dy
 er : Int
 deriving DecidableEq
@[reducible] def Hd.cs (h : Hd) : List AV := [iAV h.k, iAV h.tos, iAV h.id, iAV h.fx, iAV h.ttl, iAV h.fr, iAV h.to, iAV h.fp, iAV h.tp, iAV h.ck, iAV h.mr, iAV h.ty, iAV h.sq, iAV h.tm, iAV h.sr]
@[reducible] def Rc.cs (r : Rc) : List AV := [iAV r.st, iAV r.la.k, iAV r.la.tos, iAV r.la.id, iAV r.la.fx, iAV r.la.ttl, iAV r.la.fr, iAV r.la.to, iAV r.la.fp, iAV r.la.tp, iAV r.la.ck, iAV r.la.mr, iAV r.la.ty, iAV r.la.sq, iAV r.la.tm, iAV r.la.sr, iAV r.dy.st, iAV r.dy.fo, iAV r.er]
theorem Rc.cs_len (r : Rc) : r.cs.length = 19 := rfl
@[reducible] def Rc.av (r : Rc) : AV := .agg r.cs
def Rc.z : Rc := ⟨0, Hd.z, Dy.z, 0⟩
def rcv (l : List Rc) : AV := .sl l.length (l.flatMap Rc.cs)
structure De where
 m : Int
 cx : List Rc
@[reducible] def De.av (d : De) : AV := .agg [iAV d.m, rcv d.cx]
def De.z : De := ⟨0, []⟩
def Rc.ok (r : Rc) : Bool := decide (0 ≤ r.er ∧ r.er < 3) && (if r.st = 0 then decide (r.la = Hd.z ∧ r.dy = Dy.z) else if r.st = 1 ∨ r.st = 2 then r.la.ok && (r.dy.ok && decide (r.la.k = 2 ∨ r.dy = Dy.z)) else false)
def jE (m : Int) : Bool := decide (1 ≤ m ∧ m ≤ 3)
def De.ok (d : De) : Bool := jE d.m && (decide (d.cx.length = 16) && d.cx.all Rc.ok)
def ve (m : Int) : De × Int := if jE m = true then (⟨m, List.replicate 16 Rc.z⟩, 0) else (De.z, 3)
structure Fb where
 c : Int
 k : Int
 n : Int
@[reducible] def Fb.cs (x : Fb) : List AV := [iAV x.c, iAV x.k, iAV x.n]
def fbv (l : List Fb) : AV := .sl l.length (l.flatMap Fb.cs)
def xJ (m c : Int) (r : Rc) : List Fb := if m = 1 then [] else if r.st = 0 then [⟨c, 2, r.la.num⟩] else [⟨c, 1, r.la.num⟩]
def zw (f : Int) : Int := if f = 5 then 0 else if f = 4 then 1 else 2
def qN (r : Rc) (s : Sm) : Int := if s.f = 3 ∧ r.la.k = 1 then s.n else (xF 16 r.la.num (wid s.f r.la.k 0) s.n).1
def qS (r : Rc) (s : Sm) (n : Int) : Hd :=
 if s.f = 5 then s.h else if s.f = 4 then { s.h with fr := r.la.fr, to := r.la.to, fp := r.la.fp, tp := r.la.tp, sr := r.la.sr }
 else if r.la.k = 2 then (if s.f = 2 then { xg r.dy r.la n with ck := s.ud, mr := s.mr, tm := (xF 32 r.la.tm 16 s.tm).1 } else if s.f = 3 then { xg r.dy r.la n with ck := s.ud, mr := s.mr, tm := s.tm, id := s.id } else { xg r.dy r.la n with ck := s.ud })
 else { xg r.dy r.la n with ck := s.ud }
def zK (f : Int) (h : Hd) : Int := vk (cbR f) (headO h)
def wy (s : Sm) (h : Hd) : Bool := decide (zK s.f h = s.ck)
def js (m : Int) (r : Rc) (s : Sm) : Hd × Bool :=
 if s.f = 4 ∨ s.f = 5 then (qS r s 0, wy s (qS r s 0))
 else if wy s (qS r s (qN r s)) = true then (qS r s (qN r s), true)
 else if s.f ≠ 1 ∨ m = 3 then (Hd.z, false)
 else (qS r s (lw 16 (qN r s + 16)), wy s (qS r s (lw 16 (qN r s + 16))))
def yL (r : Rc) (s : Sm) (h : Hd) : Rc := ⟨2, h, if s.f = 4 ∨ s.f = 5 then s.d else r.dy, 0⟩
def ackR (m c : Int) (s : Sm) (h : Hd) : List Fb := if m = 3 ∨ m = 2 ∧ (s.f = 4 ∨ s.f = 5) then [⟨c, 0, h.num⟩] else []
def ku (r : Rc) : Rc := if r.er + 1 < 3 then { r with er := r.er + 1 } else if r.st - 1 ≤ 0 then Rc.z else { r with er := 0, st := r.st - 1 }
structure Dr where
 d : De
 p : List UInt8
 b : List Fb
 e : Int
def dre (x : Dr) : AV := .tup [x.d.av, bv x.p, fbv x.b, iAV x.e]
def De.set (d : De) (c : Int) (r : Rc) : De := ⟨d.m, d.cx.set c.toNat r⟩
def decP (d : De) (c : Int) (r : Rc) (s : Sm) : Dr :=
 match js d.m r s with
 | (h, true) => if (zm h s.pl).2 = 0 then ⟨d.set c (yL r s h), (zm h s.pl).1, ackR d.m c s h, 0⟩ else ⟨d, [], [], (zm h s.pl).2⟩
 | (_, false) => ⟨d.set c (ku r), [], xJ d.m c (ku r), 6⟩
def qk (d : De) (b : List UInt8) (hb : b.length ≤ 140737488355328) : Dr :=
 if d.ok = true then
   (if (ql b).2.2 = 0 then
     (if (ql b).2.1 = 6 then
       (if dse (qY b hb 0 false) = 0 ∧ (dsm (qY b hb 0 false)).pl ≠ [] then ⟨d, (dsm (qY b hb 0 false)).pl, [], 0⟩ else ⟨d, [], [], 4⟩)
     else if (d.cx.getD (ql b).1.toNat Rc.z).st < zw (ql b).2.1 then ⟨d, [], xJ d.m (ql b).1 (d.cx.getD (ql b).1.toNat Rc.z), 8⟩
     else if dse (qY b hb (d.cx.getD (ql b).1.toNat Rc.z).la.k (decide ((d.cx.getD (ql b).1.toNat Rc.z).la.ck ≠ 0))) = 0 then
       decP d (ql b).1 (d.cx.getD (ql b).1.toNat Rc.z) (dsm (qY b hb (d.cx.getD (ql b).1.toNat Rc.z).la.k (decide ((d.cx.getD (ql b).1.toNat Rc.z).la.ck ≠ 0))))
     else ⟨d, [], [], dse (qY b hb (d.cx.getD (ql b).1.toNat Rc.z).la.k (decide ((d.cx.getD (ql b).1.toNat Rc.z).la.ck ≠ 0)))⟩)
   else ⟨d, [], [], (ql b).2.2⟩)
 else ⟨De.z, [], [], 1⟩
open Go.RowKit
variable {G : Nat → AV}
def st2 (l : List UInt8) (a : Nat) (x : Int) : List UInt8 := (l.set (a + 1) (b8 x)).set a (b8 (x.fdiv 256))
def st4 (l : List UInt8) (a : Nat) (x : Int) : List UInt8 := (((l.set (a + 3) (b8 x)).set (a + 2) (b8 (x.fdiv 256))).set (a + 1) (b8 ((x.fdiv 256).fdiv 256))).set a (b8 (((x.fdiv 256).fdiv 256).fdiv 256))
@[simp] theorem st2_len (l : List UInt8) (a : Nat) (x : Int) : (st2 l a x).length = l.length := by simp [st2]
@[simp] theorem st4_len (l : List UInt8) (a : Nat) (x : Int) : (st4 l a x).length = l.length := by simp [st4]
theorem ix {a n : Nat} {k : Int} (ha : a ≤ 100000) (hk : k = (n : Int)) (hn : n ≤ 10) : 0 + (q7 .add .i64 (a : Int) k).toNat * 1 = a + n := by
 have : q7 .add .i64 (a : Int) k = ((a + n : Nat) : Int) := by (exact T.num)
 rw [this]; omega
theorem pput2_c (l : List UInt8) (a n : Nat) (x : Int) (h : a + 2 ≤ n) (hn : n ≤ l.length) (ha : a ≤ 100000) (p : Nm) : LP Tryz.prog G 110 [.vw p 0 n 1, iAV a, iAV 2, iAV x] [(p, ⟨5, l.map bAV⟩)] (fun _ => (.tup [], [(p, ⟨5, (st2 l a x).map bAV⟩)])) := by
 refine goW [] Tryz.func110 rfl ?_
 conv => whnf
 repeat' ((first | refine T.s ?_ | ((first | apply goB | apply AB.dec | apply AB.gen) <;> intro h <;> try (exfalso; omega)) | refine LQ.mk fun r => ?_ | (show SQ _ _ _ _ _ _ _; first | refine SQ.times 1 3 (by rfl) ?_ | refine AtL.step tQ [] ?_) | exact T.z | refine ⟨_, rfl, rfl, ?_⟩ | fail) <;> conv => whnf)
 all_goals (try dsimp only)
 all_goals
   refine RL.val rfl (LB.cons ?_)
   (repeat first | refine goH ?_ | apply LH.here | apply LH.next)
   refine And.intro (congrArg (Pl.mk _) ?_) LB.nil
   rw [ix ha (show q7 .sub .i64 (q7 .sub .i64 2 1) 1 = ((0 : Nat) : Int) from rfl) (by decide), ix ha (show q7 .sub .i64 2 1 = ((1 : Nat) : Int) from rfl) (by decide)]
   rfl
theorem pput4_c (l : List UInt8) (a n : Nat) (x : Int) (h : a + 4 ≤ n) (hn : n ≤ l.length) (ha : a ≤ 100000) (p : Nm) : LP Tryz.prog G 110 [.vw p 0 n 1, iAV a, iAV 4, iAV x] [(p, ⟨5, l.map bAV⟩)] (fun _ => (.tup [], [(p, ⟨5, (st4 l a x).map bAV⟩)])) := by
 refine goW [] Tryz.func110 rfl ?_
 conv => whnf
 repeat' ((first | refine T.s ?_ | ((first | apply goB | apply AB.dec | apply AB.gen) <;> intro h <;> try (exfalso; omega)) | refine LQ.mk fun r => ?_ | (show SQ _ _ _ _ _ _ _; first | refine SQ.times 1 5 (by rfl) ?_ | refine AtL.step tQ [] ?_) | exact T.z | refine ⟨_, rfl, rfl, ?_⟩ | fail) <;> conv => whnf)
 all_goals (try dsimp only)
 all_goals
   refine RL.val rfl (LB.cons ?_)
   (repeat first | refine goH ?_ | apply LH.here | apply LH.next)
   refine And.intro (congrArg (Pl.mk _) ?_) LB.nil
   rw [ix ha (show q7 .sub .i64 (q7 .sub .i64 (q7 .sub .i64 (q7 .sub .i64 4 1) 1) 1) 1 = ((0 : Nat) : Int) from rfl) (by decide), ix ha (show q7 .sub .i64 (q7 .sub .i64 (q7 .sub .i64 4 1) 1) 1 = ((1 : Nat) : Int) from rfl) (by decide), ix ha (show q7 .sub .i64 (q7 .sub .i64 4 1) 1 = ((2 : Nat) : Int) from rfl) (by decide), ix ha (show q7 .sub .i64 4 1 = ((3 : Nat) : Int) from rfl) (by decide)]
   rfl
theorem pput2v_c (l : List UInt8) (a n m : Nat) (x : Int) (h : a + 2 ≤ n) (hn : n ≤ l.length) (ha : a ≤ 100000) (p : Nm) : LP Tryz.prog G 110 [.vc p 0 n m 1, iAV a, iAV 2, iAV x] [(p, ⟨5, l.map bAV⟩)] (fun _ => (.tup [], [(p, ⟨5, (st2 l a x).map bAV⟩)])) := by
 refine goW [] Tryz.func110 rfl ?_
 conv => whnf
 repeat' ((first | refine T.s ?_ | ((first | apply goB | apply AB.dec | apply AB.gen) <;> intro h <;> try (exfalso; omega)) | refine LQ.mk fun r => ?_ | (show SQ _ _ _ _ _ _ _; first | refine SQ.times 1 3 (by rfl) ?_ | refine AtL.step tQ [] ?_) | exact T.z | refine ⟨_, rfl, rfl, ?_⟩ | fail) <;> conv => whnf)
 all_goals (try dsimp only)
 all_goals
   refine RL.val rfl (LB.cons ?_)
   (repeat first | refine goH ?_ | apply LH.here | apply LH.next)
   refine And.intro (congrArg (Pl.mk _) ?_) LB.nil
   rw [ix ha (show q7 .sub .i64 (q7 .sub .i64 2 1) 1 = ((0 : Nat) : Int) from rfl) (by decide), ix ha (show q7 .sub .i64 2 1 = ((1 : Nat) : Int) from rfl) (by decide)]
   rfl
theorem pput4v_c (l : List UInt8) (a n m : Nat) (x : Int) (h : a + 4 ≤ n) (hn : n ≤ l.length) (ha : a ≤ 100000) (p : Nm) : LP Tryz.prog G 110 [.vc p 0 n m 1, iAV a, iAV 4, iAV x] [(p, ⟨5, l.map bAV⟩)] (fun _ => (.tup [], [(p, ⟨5, (st4 l a x).map bAV⟩)])) := by
 refine goW [] Tryz.func110 rfl ?_
 conv => whnf
 repeat' ((first | refine T.s ?_ | ((first | apply goB | apply AB.dec | apply AB.gen) <;> intro h <;> try (exfalso; omega)) | refine LQ.mk fun r => ?_ | (show SQ _ _ _ _ _ _ _; first | refine SQ.times 1 5 (by rfl) ?_ | refine AtL.step tQ [] ?_) | exact T.z | refine ⟨_, rfl, rfl, ?_⟩ | fail) <;> conv => whnf)
 all_goals (try dsimp only)
 all_goals
   refine RL.val rfl (LB.cons ?_)
   (repeat first | refine goH ?_ | apply LH.here | apply LH.next)
   refine And.intro (congrArg (Pl.mk _) ?_) LB.nil
   rw [ix ha (show q7 .sub .i64 (q7 .sub .i64 (q7 .sub .i64 (q7 .sub .i64 4 1) 1) 1) 1 = ((0 : Nat) : Int) from rfl) (by decide), ix ha (show q7 .sub .i64 (q7 .sub .i64 (q7 .sub .i64 4 1) 1) 1 = ((1 : Nat) : Int) from rfl) (by decide), ix ha (show q7 .sub .i64 (q7 .sub .i64 4 1) 1 = ((2 : Nat) : Int) from rfl) (by decide), ix ha (show q7 .sub .i64 4 1 = ((3 : Nat) : Int) from rfl) (by decide)]
   rfl
attribute [irreducible] st2 st4
open Go.RowKit
variable {G : Nat → AV}
theorem fdiv2 (x : Int) : (x.fdiv 256).fdiv 256 = x.fdiv 65536 := by
 rw [Int.fdiv_eq_ediv_of_nonneg _ (by decide), Int.fdiv_eq_ediv_of_nonneg _ (by decide), Int.fdiv_eq_ediv_of_nonneg _ (by decide)]
 omega
theorem fdiv3 (x : Int) : ((x.fdiv 256).fdiv 256).fdiv 256 = x.fdiv 16777216 := by
 rw [fdiv2, Int.fdiv_eq_ediv_of_nonneg _ (by decide), Int.fdiv_eq_ediv_of_nonneg _ (by decide), Int.fdiv_eq_ediv_of_nonneg _ (by decide)]
 omega
theorem putB2 (x : Int) : qG x 2 = [b8 (x.fdiv 256), b8 x] := by
 show [b8 (x.fdiv 256), b8 (x.fdiv 1)] = _
 rw [Int.fdiv_one]
theorem putB4 (x : Int) : qG x 4 = [b8 (((x.fdiv 256).fdiv 256).fdiv 256), b8 ((x.fdiv 256).fdiv 256), b8 (x.fdiv 256), b8 x] := by
 rw [fdiv3, fdiv2]
 show [b8 (x.fdiv 16777216), b8 (x.fdiv 65536), b8 (x.fdiv 256), b8 (x.fdiv 1)] = _
 rw [Int.fdiv_one]
theorem headL_1 {h : Hd} (k : h.k = 1) : qM h = [69, b8 h.tos, 0, 0, b8 (h.id.fdiv 256), b8 h.id, b8 (64 * h.fx), 0, b8 h.ttl, 17, 0, 0, b8 (((h.fr.fdiv 256).fdiv 256).fdiv 256), b8 ((h.fr.fdiv 256).fdiv 256), b8 (h.fr.fdiv 256), b8 h.fr,
   b8 (((h.to.fdiv 256).fdiv 256).fdiv 256), b8 ((h.to.fdiv 256).fdiv 256), b8 (h.to.fdiv 256), b8 h.to, b8 (h.fp.fdiv 256), b8 h.fp, b8 (h.tp.fdiv 256), b8 h.tp, 0, 0, b8 (h.ck.fdiv 256), b8 h.ck] := by
 unfold qM
 rw [if_neg (by omega)]
 simp only [putB2, putB4]
 rfl
theorem headL_2 {h : Hd} (k : h.k = 2) : qM h = [69, b8 h.tos, 0, 0, b8 (h.id.fdiv 256), b8 h.id, b8 (64 * h.fx), 0, b8 h.ttl, 17, 0, 0, b8 (((h.fr.fdiv 256).fdiv 256).fdiv 256), b8 ((h.fr.fdiv 256).fdiv 256), b8 (h.fr.fdiv 256), b8 h.fr,
   b8 (((h.to.fdiv 256).fdiv 256).fdiv 256), b8 ((h.to.fdiv 256).fdiv 256), b8 (h.to.fdiv 256), b8 h.to, b8 (h.fp.fdiv 256), b8 h.fp, b8 (h.tp.fdiv 256), b8 h.tp, 0, 0, b8 (h.ck.fdiv 256), b8 h.ck,
   128, b8 (128 * h.mr + h.ty), b8 (h.sq.fdiv 256), b8 h.sq, b8 (((h.tm.fdiv 256).fdiv 256).fdiv 256), b8 ((h.tm.fdiv 256).fdiv 256), b8 (h.tm.fdiv 256), b8 h.tm, b8 (((h.sr.fdiv 256).fdiv 256).fdiv 256), b8 ((h.sr.fdiv 256).fdiv 256), b8 (h.sr.fdiv 256), b8 h.sr] := by
 unfold qM
 rw [if_pos k]
 simp only [putB2, putB4]
 rfl
theorem updW {P : Program} {f : FuncId} {args : List AV} {p : Nm} {n t : Nat} {R : List UInt8 → List UInt8} {K : AV → LS → Prop} {l : LS} (hs : ∀ L : List UInt8, n ≤ L.length → LP P G f args [(p, ⟨t, L.map bAV⟩)] fun _ => (.tup [], [(p, ⟨t, (R L).map bAV⟩)]))
   (hk : LH l p fun c s _ => ∃ L : List UInt8, c = ⟨t, L.map bAV⟩ ∧ n ≤ L.length ∧ K (.tup []) (s ⟨t, (R L).map bAV⟩)) : LC P G f args l K := by
 obtain ⟨l1, c, l2, rfl, L, rfl, h2, h3⟩ := hk.ex
 exact LC.upd (hs L h2) ⟨l1, _, l2, rfl, rfl, h3⟩
theorem phead_n (h : Hd) (k : h.ok = false) : LP Tryz.prog G 109 [h.av] [] (fun _ => (.nils, [])) := by
 have hv := j5 (G := G) h
 rw [k] at hv
 refine goW [] Tryz.func109 rfl ?_
 conv => whnf
 repeat' ((first | exact Nm.b 0 | (show LC _ _ _ _ _ _; first | refine LC.pure (hv) ?_ | refine goE ?_) | refine T.s ?_ | ((first | apply goB | apply AB.dec | apply AB.gen) <;> intro h <;> try (exfalso; omega)) | refine LQ.mk fun r => ?_ | (show SQ _ _ _ _ _ _ _; first | (refine goD tQ qb 4 [3, 6] [0, 1, 2, 3, 4, 5, 6, 7, 8] [] (by kernel_rfl) ?_) | (refine goD tQ qb 15 [3, 6, 10] [0, 1, 2, 3, 4, 5, 6, 7, 8, 9, 10, 11, 12] [] (by kernel_rfl) ?_)) | (show (_ → _) ∧ (¬ _ → _); first | refine T.y ?_ | refine qn (fun h => ?_) (fun h => ?_)) | exact T.z | refine ⟨_, rfl, rfl, ?_⟩ | fail) <;> conv => whnf)
 all_goals (try dsimp only)
 all_goals
   (show RL _ _ _; refine goR ?_)
   rfl
theorem bAV69 : AV.int .u8 69 = bAV (69 : UInt8) := rfl
theorem bAV17 : AV.int .u8 17 = bAV (17 : UInt8) := rfl
theorem bAV128 : AV.int .u8 128 = bAV (128 : UInt8) := rfl
theorem fx64 {x : Int} (h : 0 ≤ x ∧ x ≤ 1) : q7 .mul .i64 64 x = 64 * x := by (exact T.num)
theorem mt128 {x y : Int} (h : 0 ≤ x ∧ x ≤ 1) (h2 : 0 ≤ y ∧ y ≤ 127) : q7 .add .i64 (q7 .mul .i64 128 x) y = 128 * x + y := by (exact T.num)
theorem phead_1 (h : Hd) (ko : h.ok = true) (k : h.k = 1) : LP Tryz.prog G 109 [h.av] [] (fun q => (.vc q 0 28 40 1, [(q, ⟨5, (qM h ++ List.replicate 12 0).map bAV⟩)])) := by
 have hv := j5 (G := G) h
 rw [ko] at hv
 have hfx := fx64 (h.of ko).2.2.2.2.2.2.2.1
 refine goW [] Tryz.func109 rfl ?_
 conv => whnf
 repeat' ((first | (show LC _ _ _ _ _ _; refine updW (fun l h1 => pput2v_c l _ _ _ _ (by decide) h1 (by decide) _) ?_; (repeat first | refine goH ?_ | apply LH.here | apply LH.next); refine ⟨_, rfl, (by simp), ?_⟩; conv => whnf) | (show LC _ _ _ _ _ _; refine updW (fun l h1 => pput4v_c l _ _ _ _ (by decide) h1 (by decide) _) ?_; (repeat first | refine goH ?_ | apply LH.here | apply LH.next); refine ⟨_, rfl, (by simp), ?_⟩; conv => whnf) | exact Nm.b 0 | (show LC _ _ _ _ _ _; first | refine LC.pure (hv) ?_ | refine goE ?_) | (show AQ _ _; first | (refine AQ.eq (cs' := (List.replicate 40 (0 : UInt8)).map bAV) rfl ?_) | (with_reducible refine AQ.set (x := b8 _) (qT _).symm ?_ ?_; (focus (simp; done))) | (with_reducible refine AQ.set (f := bAV) (x := (69 : UInt8)) bAV69 ?_ ?_; (focus (simp; done))) | (with_reducible refine AQ.set (f := bAV) (x := (17 : UInt8)) bAV17 ?_ ?_; (focus (simp; done)))) | refine T.s ?_ | ((first | apply goB | apply AB.dec | apply AB.gen) <;> intro h <;> try (exfalso; omega)) | refine LQ.mk fun r => ?_ | (show SQ _ _ _ _ _ _ _; first | refine gX 4 [3, 6] [0, 1, 2, 3, 4, 5, 6, 7, 8] [r] ?_ | refine gX 15 [3, 6, 10] [0, 1, 2, 3, 4, 5, 6, 7, 8, 9, 10, 11, 12] [r] ?_) | (show (_ → _) ∧ (¬ _ → _); first | refine T.y ?_ | refine qn (fun h => ?_) (fun h => ?_)) | exact T.z | refine ⟨_, rfl, rfl, ?_⟩ | fail) <;> conv => whnf)
 all_goals (try dsimp only)
 all_goals
   refine RL.own r rfl ?_ ?_
   · (repeat first | refine goH ?_ | apply LH.here | apply LH.next); trivial
   · refine LB.cons ?_
     (repeat first | refine goH ?_ | apply LH.here | apply LH.next)
     refine And.intro (congrArg (Pl.mk _) (congrArg (List.map bAV) ?_)) LB.nil
     rw [hfx, headL_1 k]
     kernel_rfl
theorem phead_2 (h : Hd) (ko : h.ok = true) (k : h.k = 2) : LP Tryz.prog G 109 [h.av] [] (fun q => (.vw q 0 40 1, [(q, ⟨5, (qM h).map bAV⟩)])) := by
 have hv := j5 (G := G) h
 rw [ko] at hv
 have hfx := fx64 (h.of ko).2.2.2.2.2.2.2.1
 have hmt := mt128 (h.of ko).2.2.2.2.2.2.2.2.2.2.1 (h.of ko).2.2.2.2.2.2.2.2.2.2.2.1
 refine goW [] Tryz.func109 rfl ?_
 conv => whnf
 repeat' ((first | (show LC _ _ _ _ _ _; refine updW (fun l h1 => pput2v_c l _ _ _ _ (by decide) h1 (by decide) _) ?_; (repeat first | refine goH ?_ | apply LH.here | apply LH.next); refine ⟨_, rfl, (by simp), ?_⟩; conv => whnf) | (show LC _ _ _ _ _ _; refine updW (fun l h1 => pput2_c l _ _ _ (by decide) h1 (by decide) _) ?_; (repeat first | refine goH ?_ | apply LH.here | apply LH.next); refine ⟨_, rfl, (by simp), ?_⟩; conv => whnf) | (show LC _ _ _ _ _ _; refine updW (fun l h1 => pput4_c l _ _ _ (by decide) h1 (by decide) _) ?_; (repeat first | refine goH ?_ | apply LH.here | apply LH.next); refine ⟨_, rfl, (by simp), ?_⟩; conv => whnf) | (show LC _ _ _ _ _ _; refine updW (fun l h1 => pput4v_c l _ _ _ _ (by decide) h1 (by decide) _) ?_; (repeat first | refine goH ?_ | apply LH.here | apply LH.next); refine ⟨_, rfl, (by simp), ?_⟩; conv => whnf) | exact Nm.b 0 | (show LC _ _ _ _ _ _; first | refine LC.pure (hv) ?_ | refine goE ?_) | (show AQ _ _; first | (refine AQ.eq (cs' := (List.replicate 40 (0 : UInt8)).map bAV) rfl ?_) | (with_reducible refine AQ.set (x := b8 _) (qT _).symm ?_ ?_; (focus (simp; done))) | (with_reducible refine AQ.set (f := bAV) (x := (69 : UInt8)) bAV69 ?_ ?_; (focus (simp; done))) | (with_reducible refine AQ.set (f := bAV) (x := (17 : UInt8)) bAV17 ?_ ?_; (focus (simp; done))) | (with_reducible refine AQ.set (f := bAV) (x := (128 : UInt8)) bAV128 ?_ ?_; (focus (simp; done)))) | refine T.s ?_ | ((first | apply goB | apply AB.dec | apply AB.gen) <;> intro h <;> try (exfalso; omega)) | refine LQ.mk fun r => ?_ | (show SQ _ _ _ _ _ _ _; first | refine gX 4 [3, 6] [0, 1, 2, 3, 4, 5, 6, 7, 8] [r] ?_ | refine gX 15 [3, 6, 10] [0, 1, 2, 3, 4, 5, 6, 7, 8, 9, 10, 11, 12] [r] ?_) | (show (_ → _) ∧ (¬ _ → _); first | refine T.y ?_ | refine qn (fun h => ?_) (fun h => ?_)) | exact T.z | refine ⟨_, rfl, rfl, ?_⟩ | fail) <;> conv => whnf)
 all_goals (try dsimp only)
 all_goals
   refine RL.own r rfl ?_ ?_
   · (repeat first | refine goH ?_ | apply LH.here | apply LH.next); trivial
   · refine LB.cons ?_
     (repeat first | refine goH ?_ | apply LH.here | apply LH.next)
     refine And.intro (congrArg (Pl.mk _) (congrArg (List.map bAV) ?_)) LB.nil
     rw [hfx, hmt, headL_2 k]
     kernel_rfl
open Go.RowKit
variable {G : Nat → AV}
def fnx (y : Int) : Int := y % 65536 + y / 65536
theorem fold_e {y : Int} (h0 : 0 ≤ y) (h : y ≤ 1000000000000000) : q7 .add .i64 (y.tmod 65536) (IntKind.i64.wrap (y.tdiv 65536)) = fnx y := by
 unfold fnx
 rw [Int.tmod_eq_emod_of_nonneg h0, Int.tdiv_eq_ediv_of_nonneg h0]
 (exact T.num)
theorem fold_e2 {y x : Int} (h : 65535 < y) (h2 : qK y = qK x) : qK (fnx y) = qK x := (foldR_step h).trans h2
theorem fold_e3 {y : Int} (h : 65535 < y) : 0 ≤ fnx y ∧ fnx y < y := by unfold fnx; omega
theorem cfold_c (x : Int) (h0 : 0 ≤ x) (h : x ≤ 1000000000000000) : LP Tryz.prog G 146 [iAV x] [] (fun _ => (iAV (qK x), [])) := by
 refine goW [] Tryz.func146 rfl ?_
 conv => whnf
 repeat' ((first | refine T.s ?_ | ((first | apply goB | apply AB.dec | apply AB.gen) <;> intro h <;> try (exfalso; omega)) | refine LQ.mk fun r => ?_ | (show SQ _ _ _ (.loop _) _ _ _; first | (apply goO tQ [] 3 (S := Int) [] (fun y => ⟨[(0, .int .i64 y)], [], 0 ≤ y ∧ y ≤ x ∧ qK y = qK x, y.toNat⟩) (x) (by rfl); (focus (all_goals (try exact K6CC); done)); rintro y ⟨hk, hk, hok⟩)) | (show AtL _ _ _ _ _ _ _ _ _ _; first | (apply AtL.mk' (id := 3) (S := Int) (fnx y); all_goals (try exact K6CC); done) | (apply AtL.mk' (id := 3) (S := Int) (fnx y); all_goals (try exact K6CC))) | exact T.z | fail) <;> conv => whnf)
 all_goals (try dsimp only)
 all_goals
   (show RL _ _ _; refine goR ?_)
   rw [← hok, foldR_id (by assumption) (by assumption)]
   rfl
theorem r4fold_c (x : Int) (h0 : 0 ≤ x) (h : x ≤ 1000000000000000) : LP Tryz.prog G 133 [iAV x] [] (fun _ => (iAV (qK x), [])) := by
 refine goW [] Tryz.func133 rfl ?_
 conv => whnf
 repeat' ((first | refine T.s ?_ | ((first | apply goB | apply AB.dec | apply AB.gen) <;> intro h <;> try (exfalso; omega)) | refine LQ.mk fun r => ?_ | (show SQ _ _ _ (.loop _) _ _ _; first | (apply goO tQ [] 3 (S := Int) [] (fun y => ⟨[(0, .int .i64 y)], [], 0 ≤ y ∧ y ≤ x ∧ qK y = qK x, y.toNat⟩) (x) (by rfl); (focus (all_goals (try exact K6CC); done)); rintro y ⟨hk, hk, hok⟩)) | (show AtL _ _ _ _ _ _ _ _ _ _; first | (apply AtL.mk' (id := 3) (S := Int) (fnx y); all_goals (try exact K6CC); done) | (apply AtL.mk' (id := 3) (S := Int) (fnx y); all_goals (try exact K6CC))) | exact T.z | fail) <;> conv => whnf)
 all_goals (try dsimp only)
 all_goals
   (show RL _ _ _; refine goR ?_)
   rw [← hok, foldR_id (by assumption) (by assumption)]
   rfl
theorem shl8 {c : Nat} (h : c < 256) : IntKind.i64.wrap (IntKind.i64.wrap (c : Int) * 2 ^ min (8 : Int).toNat IntKind.i64.bits) = 256 * (c : Int) := by
 rw [show (2 : Int) ^ min (8 : Int).toNat IntKind.i64.bits = 256 by decide, IntKind.wrap_i64, IntKind.wrap_i64]
 omega
theorem cadd_e {s w c d : Int} {k : Nat} (h0 : 0 ≤ s ∧ s ≤ 65535) (hk : k ≤ 1000000) (hw : 0 ≤ w ∧ w ≤ 65535 * (k : Int)) (hc : 0 ≤ c ∧ c < 256) (hd : 0 ≤ d ∧ d < 256) : q7 .add .i64 (q7 .add .i64 (s + w) (256 * c)) (IntKind.i64.wrap d) = s + (w + (256 * c + d)) := by
 (exact T.num)
theorem cadd_e1 {s w c : Int} {k : Nat} (h0 : 0 ≤ s ∧ s ≤ 65535) (hk : k ≤ 1000000) (hw : 0 ≤ w ∧ w ≤ 65535 * (k : Int)) (hc : 0 ≤ c ∧ c < 256) : q7 .add .i64 (s + w) (256 * c) = s + (w + (256 * c + 0)) := by
 (exact T.num)
theorem cstart (F : Int) (l : List UInt8) : F = F + z9 (l.take (2 * 0)) := by
 rw [Nat.mul_zero, List.take_zero, wsum_nil, Int.add_zero]
theorem cstep {F : Int} {l : List UInt8} {j : Nat} (hF : 0 ≤ F ∧ F ≤ 65535) (hl : l.length ≤ 1000000) (h : ((2 * j : Nat) : Int) < (l.length : Int)) : q7 .add .i64 (q7 .add .i64 (F + z9 (l.take (2 * j))) (IntKind.i64.wrap (IntKind.i64.wrap ((l.getD (2 * j) 0).toNat : Int) * 2 ^ min (8 : Int).toNat IntKind.i64.bits))) (IntKind.i64.wrap ((l.getD (2 * j + 1) 0).toNat : Int)) = F + z9 (l.take (2 * (j + 1))) := by
 have h1 := (l.getD (2 * j) 0).toNat_lt
 have h2 := (l.getD (2 * j + 1) 0).toNat_lt
 rw [kY l j (by omega), shl8 h1]
 exact cadd_e hF (k := 1000000) (by omega) (jp _ 1000000 (by simp; omega)) (by omega) (by omega)
theorem cstep1 {F : Int} {l : List UInt8} {j : Nat} (hF : 0 ≤ F ∧ F ≤ 65535) (hl : l.length ≤ 1000000) (h : ((2 * j : Nat) : Int) < (l.length : Int)) (h3 : ¬ q7 .add .i64 ((2 * j : Nat) : Int) 1 < (l.length : Int)) : q7 .add .i64 (F + z9 (l.take (2 * j))) (IntKind.i64.wrap (IntKind.i64.wrap ((l.getD (2 * j) 0).toNat : Int) * 2 ^ min (8 : Int).toNat IntKind.i64.bits)) = F + z9 (l.take (2 * (j + 1))) := by
 have h1 := (l.getD (2 * j) 0).toNat_lt
 have e : q7 .add .i64 ((2 * j : Nat) : Int) 1 = ((2 * j : Nat) : Int) + 1 := by (exact T.num)
 rw [e] at h3
 rw [kY l j (by omega), shl8 h1, show l.getD (2 * j + 1) 0 = 0 by rw [List.getD_eq_getElem?_getD, List.getElem?_eq_none (by omega)]; rfl]
 exact cadd_e1 hF (k := 1000000) (by omega) (jp _ 1000000 (by simp; omega)) (by omega)
theorem cnext6 {j : Nat} (h : j ≤ 1000000) : q7 .add .i64 ((2 * j : Nat) : Int) 2 = ((2 * (j + 1) : Nat) : Int) := by (exact T.num)
theorem ix1 {j : Nat} (h : j ≤ 1000000) : (q7 .add .i64 ((2 * j : Nat) : Int) 1).toNat * 1 = 2 * j + 1 := by
 have e : q7 .add .i64 ((2 * j : Nat) : Int) 1 = ((2 * j + 1 : Nat) : Int) := by (exact T.num)
 rw [e]; omega
theorem ix2 {j n : Nat} (h : j ≤ 1000000) (h2 : q7 .add .i64 ((2 * j : Nat) : Int) 1 < (n : Int)) : 2 * j + 1 < n := by
 have e : q7 .add .i64 ((2 * j : Nat) : Int) 1 = ((2 * j + 1 : Nat) : Int) := by (exact T.num)
 rw [e] at h2; omega
theorem cadd_c (s : Int) (l : List UInt8) (h0 : 0 ≤ s) (h : s ≤ 1000000000) (hl : l.length ≤ 1000000) : LP Tryz.prog G 132 [iAV s, bv l] [] (fun _ => (iAV (qK (s + z9 l)), [])) := by
 have hf := xV s
 have hw := jp l 1000000 (by omega)
 have hz : ∀ j : Nat, 2 * j ≤ l.length + 1 → ¬ ((2 * j : Nat) : Int) < (l.length : Int) → qK s + z9 (l.take (2 * j)) = qK s + z9 l := fun j _ h => by rw [List.take_of_length_le (by omega)]
 refine goW [] Tryz.func132 rfl ?_
 conv => whnf
 repeat' ((first | (show LC _ _ _ _ _ _; refine LC.eq (congrArg (fun z => [AV.int .i64 z]) (hz j hok (by assumption))) ?_; refine LC.pure (cfold_c _ (by omega) (by omega)) ?_; conv => whnf) | (show LC _ _ _ _ _ _; refine LC.pure (cfold_c s h0 (by omega)) ?_; conv => whnf) | (show AC _ _ _; first | (refine AC.idx (2 * j + 1) 0 (ix1 (by omega)) ?_ ?_; (focus (exact ix2 (by omega) (by assumption)))) | (refine AC.idx (2 * j) 0 (Nat.mul_one _) ?_ ?_; (focus omega))) | refine T.s ?_ | ((first | apply goB | apply AB.dec | apply AB.gen) <;> intro h <;> try (exfalso; omega)) | refine LQ.mk fun r => ?_ | (show SQ _ _ _ (.loop _) _ _ _; first | (apply goO tQ [] 3 (S := Nat) [1] (fun j => ⟨[(6, .int .i64 ((2 * j : Nat) : Int)), (5, .int .i64 (qK s + z9 (l.take (2 * j))))], [], 2 * j ≤ l.length + 1, l.length + 1 - j⟩) (0) (by rfl); (focus (all_goals (try exact KB44); done)); rintro j hok; (try dsimp only at hok))) | (show AtL _ _ _ _ _ _ _ _ _ _; first | (apply AtL.mk' (id := 3) (S := Nat) (j + 1); all_goals (try exact KB44); done) | (apply AtL.mk' (id := 3) (S := Nat) (j + 1); all_goals (try exact KB44))) | exact T.z | refine ⟨_, rfl, rfl, ?_⟩ | fail) <;> conv => whnf)
 all_goals (try dsimp only)
 all_goals
   (show RL _ _ _; refine goR ?_)
   rw [foldR_add h0 hw.1]
   rfl
theorem csum4_c (l : List UInt8) (hl : l.length ≤ 1000000) : LP Tryz.prog G 111 [bv l] [] (fun _ => (iAV (csR l), [])) := by
 have hf := xV (z9 l)
 refine goW [] Tryz.func111 rfl ?_
 conv => whnf
 repeat' ((first | (show LC _ _ _ _ _ _; first | refine LC.pure (cadd_c 0 l (by decide) (by decide) hl) ?_ | refine goE ?_) | refine T.s ?_ | ((first | apply goB | apply AB.dec | apply AB.gen) <;> intro h <;> try (exfalso; omega)) | refine LQ.mk fun r => ?_ | exact T.z | fail) <;> conv => whnf)
 all_goals (try dsimp only)
 (show RL _ _ _; refine goR ?_)
 unfold csR
 rw [Int.zero_add]
 (first | (focus (apply Eq.trans; (conv => lhs; whnf); (conv => rhs; whnf); done)) | rfl | ((conv => lhs; whnf); first | rfl | (refine congrArg (AV.int _) ?_; (exact T.num)) | (refine congrArg AV.bool ?_; (exact T.num)) | (refine vwc ?_; first | (exact T.num) | (first | rfl | (simp; done))) | (refine qa ?_ ?_ <;> first | (exact T.num) | (first | rfl | (simp; done))) | (first | rfl | (simp; done))))
theorem r4step {F : Int} {l : List UInt8} {j : Nat} (hF : 0 ≤ F) (h : ((2 * j : Nat) : Int) < (l.length : Int)) (hl : l.length ≤ 1000000) (hj : j ≤ 1000000) : qK (qK (F + z9 (l.take (2 * j))) + (256 * ((l.getD (2 * j) 0).toNat : Int) + ((l.getD (2 * j + 1) 0).toNat : Int))) = qK (F + z9 (l.take (2 * (j + 1)))) := by
 have h1 := (l.getD (2 * j) 0).toNat_lt
 have hw := jp (l.take (2 * j)) 1000000 (by simp; omega)
 rw [foldR_add (by omega) (by omega), kY l j (by omega)]
 congr 1
 omega
theorem r4a {c d : Nat} {X : Int} (hX : 0 ≤ X ∧ X ≤ 65535) (h : c < 256) (h2 : d < 256) : q7 .add .i64 X (q7 .add .i64 (q7 .mul .i64 256 (IntKind.i64.wrap (c : Int))) (IntKind.i64.wrap (d : Int))) = X + (256 * (c : Int) + (d : Int)) := by
 rw [show IntKind.i64.wrap (c : Int) = c by rw [IntKind.wrap_i64]; omega, show IntKind.i64.wrap (d : Int) = d by rw [IntKind.wrap_i64]; omega]
 have e : q7 .mul .i64 256 (c : Int) = 256 * (c : Int) := by show IntKind.i64.wrap _ = _; rw [IntKind.wrap_i64]; omega
 rw [e]
 (exact T.num)
theorem r4b {c : Nat} {X : Int} (hX : 0 ≤ X ∧ X ≤ 65535) (h : c < 256) : q7 .add .i64 X (q7 .mul .i64 256 (IntKind.i64.wrap (c : Int))) = X + (256 * (c : Int) + ((0 : Nat) : Int)) := by
 rw [show IntKind.i64.wrap (c : Int) = c by rw [IntKind.wrap_i64]; omega]
 have e : q7 .mul .i64 256 (c : Int) = 256 * (c : Int) := by show IntKind.i64.wrap _ = _; rw [IntKind.wrap_i64]; omega
 rw [e]
 (exact T.num)
theorem r4add_c (s : Int) (l : List UInt8) (h0 : 0 ≤ s) (h : s ≤ 1000000000) (hl : l.length ≤ 1000000) : LP Tryz.prog G 112 [iAV s, bv l] [] (fun _ => (iAV (qK (s + z9 l)), [])) := by
 have hf := xV s
 have hb : ∀ i, (l.getD i 0).toNat < 256 := fun i => (l.getD i 0).toNat_lt
 have hA : ∀ j : Nat, 2 * j ≤ l.length + 1 → ((2 * j : Nat) : Int) < (l.length : Int) → LP Tryz.prog G 133 [iAV (q7 .add .i64 (qK (s + z9 (l.take (2 * j)))) (q7 .add .i64 (q7 .mul .i64 256 (IntKind.i64.wrap ((l.getD (2 * j) 0).toNat : Int))) (IntKind.i64.wrap ((l.getD (2 * j + 1) 0).toNat : Int))))] [] (fun _ => (iAV (qK (s + z9 (l.take (2 * (j + 1))))), [])) := fun j hj h1 => by
   have h2 := xV (s + z9 (l.take (2 * j)))
   have h3 := hb (2 * j)
   have h4 := hb (2 * j + 1)
   rw [r4a h2 h3 h4, ← r4step h0 h1 hl (by omega)]
   exact r4fold_c _ (by omega) (by omega)
 have hB : ∀ j : Nat, 2 * j ≤ l.length + 1 → ((2 * j : Nat) : Int) < (l.length : Int) → ¬ q7 .add .i64 ((2 * j : Nat) : Int) 1 < (l.length : Int) → LP Tryz.prog G 133 [iAV (q7 .add .i64 (qK (s + z9 (l.take (2 * j)))) (q7 .mul .i64 256 (IntKind.i64.wrap ((l.getD (2 * j) 0).toNat : Int))))] [] (fun _ => (iAV (qK (s + z9 (l.take (2 * (j + 1))))), [])) := fun j hj h1 h5 => by
   have h2 := xV (s + z9 (l.take (2 * j)))
   have h3 := hb (2 * j)
   have e : q7 .add .i64 ((2 * j : Nat) : Int) 1 = ((2 * j : Nat) : Int) + 1 := by (exact T.num)
   rw [e] at h5
   have h6 := r4step h0 h1 hl (by omega)
   rw [show l.getD (2 * j + 1) 0 = 0 by rw [List.getD_eq_getElem?_getD, List.getElem?_eq_none (by omega)]; rfl] at h6
   rw [r4b h2 h3, ← h6]
   exact r4fold_c _ (by omega) (by show _ + (_ + (0 : Int)) ≤ _; omega)
 refine goW [] Tryz.func112 rfl ?_
 conv => whnf
 repeat' ((first | (show LC _ _ _ _ _ _; first | refine LC.pure (r4fold_c _ h0 (by omega)) ?_ | refine LC.pure (hA j hok (by assumption)) ?_ | refine LC.pure (hB j hok (by assumption) (by assumption)) ?_ | refine goE ?_) | (show AC _ _ _; first | (refine AC.idx (2 * j + 1) 0 (ix1 (by omega)) ?_ ?_; (focus (exact ix2 (by omega) (by assumption)))) | (refine AC.idx (2 * j) 0 (Nat.mul_one _) ?_ ?_; (focus omega))) | refine T.s ?_ | ((first | apply goB | apply AB.dec | apply AB.gen) <;> intro h <;> try (exfalso; omega)) | refine LQ.mk fun r => ?_ | (show SQ _ _ _ (.loop _) _ _ _; first | (apply goO tQ [] 3 (S := Nat) [1] (fun j => ⟨[(6, .int .i64 ((2 * j : Nat) : Int)), (5, .int .i64 (qK (s + z9 (l.take (2 * j)))))], [], 2 * j ≤ l.length + 1, l.length + 1 - j⟩) (0) (by rfl); (focus (all_goals (try exact K315); done)); rintro j hok; (try dsimp only at hok))) | (show AtL _ _ _ _ _ _ _ _ _ _; first | (apply AtL.mk' (id := 3) (S := Nat) (j + 1); all_goals (try exact K315); done) | (apply AtL.mk' (id := 3) (S := Nat) (j + 1); all_goals (try exact K315))) | exact T.z | refine ⟨_, rfl, rfl, ?_⟩ | fail) <;> conv => whnf)
 all_goals (try dsimp only)
 all_goals
   (show RL _ _ _; refine goR ?_)
   rw [List.take_of_length_le (by omega)]
   rfl
theorem r4sum_c (l : List UInt8) (hl : l.length ≤ 1000000) : LP Tryz.prog G 73 [bv l] [] (fun _ => (iAV (csR l), [])) := by
 have hf := xV (z9 l)
 refine goW [] Tryz.func73 rfl ?_
 conv => whnf
 repeat' ((first | (show LC _ _ _ _ _ _; first | refine LC.pure (r4add_c 0 l (by decide) (by decide) hl) ?_ | refine goE ?_) | refine T.s ?_ | ((first | apply goB | apply AB.dec | apply AB.gen) <;> intro h <;> try (exfalso; omega)) | refine LQ.mk fun r => ?_ | exact T.z | fail) <;> conv => whnf)
 all_goals (try dsimp only)
 (show RL _ _ _; refine goR ?_)
 unfold csR
 rw [Int.zero_add]
 (first | (focus (apply Eq.trans; (conv => lhs; whnf); (conv => rhs; whnf); done)) | rfl | ((conv => lhs; whnf); first | rfl | (refine congrArg (AV.int _) ?_; (exact T.num)) | (refine congrArg AV.bool ?_; (exact T.num)) | (refine vwc ?_; first | (exact T.num) | (first | rfl | (simp; done))) | (refine qa ?_ ?_ <;> first | (exact T.num) | (first | rfl | (simp; done))) | (first | rfl | (simp; done))))
open Go.RowKit
variable {G : Nat → AV}
theorem setW_2 (x : Int) : ∀ (a : Nat) (l : List UInt8), a + 2 ≤ l.length → setW l a (qG x 2) = st2 l a x := by
 have key : ∀ (u v : UInt8) (a : Nat) (l : List UInt8), a + 2 ≤ l.length → l.take a ++ [u, v] ++ l.drop (a + 2) = (l.set (a + 1) v).set a u := by
   intro u v a
   induction a with
   | zero =>
     intro l h
     match l, h with
     | c :: d :: t, _ => rfl
   | succ a ih =>
     intro l h
     match l, h with
     | c :: t, h =>
       have := ih t (by simp at h; omega)
       show c :: (t.take a ++ [u, v] ++ t.drop (a + 2)) = c :: ((t.set (a + 1) v).set a u)
       rw [this]
 intro a l h
 unfold setW
 rw [putB2]
 refine (key _ _ a l h).trans ?_
 unfold st2
 rfl
theorem bldR_g {h : Hd} {p : List UInt8} (ko : h.ok = true) (hp : (qM h).length + p.length ≤ 1500) : zm h p = (bldL h p, 0) := by unfold zm; rw [if_pos ko, if_pos hp]
theorem bldR_s {h : Hd} {p : List UInt8} (ko : h.ok = true) (hp : ¬ (qM h).length + p.length ≤ 1500) : zm h p = ([], 2) := by unfold zm; rw [if_pos ko, if_neg hp]
theorem bldR_n {h : Hd} {p : List UInt8} (ko : h.ok = false) : zm h p = ([], 1) := by unfold zm; rw [if_neg (by rw [ko]; decide)]
theorem LF.headB {L : List UInt8} {F : List Nm} {p : Nm} {n : Nat} {l : LS} (hF : InL p F) (h : LH l p fun c _ _ => c.cs = L.map bAV ∧ n ≤ L.length) : LF l F (.vw p 0 n 1) (bv (L.take n)) := by
 obtain ⟨l1, c, l2, rfl, h1, h2⟩ := h.ex
 refine LF.part hF ⟨l1, c, l2, rfl, by decide, by rw [h1]; simp; omega, by simp; omega, by rw [h1]; simp [List.map_take]⟩
theorem csumT (L : List UInt8) : LP Tryz.prog G 111 [bv (L.take 20)] [] (fun _ => (iAV (csR (L.take 20)), [])) := csum4_c _ (by simp; omega)
theorem bldL_e (h : Hd) (p : List UInt8) : bldL h p = st2 (st2 (st2 (qM h ++ p) 2 (((qM h).length + p.length : Nat) : Int)) 24 (((qM h).length + p.length : Nat) - 20)) 10 (csR ((st2 (st2 (qM h ++ p) 2 (((qM h).length + p.length : Nat) : Int)) 24 (((qM h).length + p.length : Nat) - 20)).take 20)) := by
 have h1 := zP h
 have h2 : 28 ≤ (qM h).length := by rw [h1]; split <;> omega
 have e : bld1 h p = st2 (st2 (qM h ++ p) 2 (((qM h).length + p.length : Nat) : Int)) 24 (((qM h).length + p.length : Nat) - 20) := by
   unfold bld1
   rw [setW_2 _ 2 _ (by simp; omega), setW_2 _ 24 _ (by simp; omega)]
 unfold bldL
 rw [e, setW_2 _ 10 _ (by simp; omega)]
theorem app_hd {L R p : List UInt8} {n : Nat} (h : L.length = n) : List.take n (List.drop 0 ((L ++ R).map bAV)) ++ p.map bAV = (L ++ p).map bAV := by subst h; simp
theorem app_hd0 {L p : List UInt8} {n : Nat} (h : L.length = n) : List.take n (List.drop 0 (L.map bAV)) ++ p.map bAV = (L ++ p).map bAV := by subst h; rw [List.drop_zero, List.take_of_length_le (by simp), List.map_append]
theorem LC.headB {P : Program} {f : FuncId} {R : List UInt8 → Int} {n : Nat} {r : Nm} {l : LS} {K : AV → LS → Prop} (hs : ∀ L : List UInt8, LP P G f [bv (L.take n)] [] fun _ => (iAV (R (L.take n)), []))
   (h : LH l r fun c _ _ => ∃ L : List UInt8, c.cs = L.map bAV ∧ n ≤ L.length ∧ K (iAV (R (L.take n))) l) : LC P G f [.vw r 0 n 1] l K := by
 obtain ⟨l1, c, l2, rfl, L, h1, h2, h3⟩ := h.ex
 exact LC.lend (hs L) [r] ⟨LF.headB InL.here ⟨l1, c, l2, rfl, h1, h2⟩, trivial⟩ (Flat.int _ _) h3
theorem RL.bytes2 {b : List UInt8} {q : Nm} {n : Nat} {e : Int} {l : LS} (h : LH l q fun c _ _ => c.cs = b.map bAV ∧ n = b.length) : RL (fun _ => (.tup [bv b, iAV e], [])) (.tup [.vw q 0 n 1, .int .i64 e]) l := by
 obtain ⟨l1, c, l2, rfl, h1, rfl⟩ := h.ex
 exact RL.frz [q] (LF.tup (xs := [.vw q 0 b.length 1, .int .i64 e]) (ys := [bv b, iAV e]) ⟨LF.rowF InL.here ⟨l1, c, l2, rfl, h1, rfl⟩, LF.eq rfl, trivial⟩) ⟨l1, c, l2, rfl, LB.nil⟩
theorem RL.nil2 {e : Int} {l : LS} : RL (fun _ => (.tup [bv [], iAV e], [])) (.tup [.nils, .int .i64 e]) l :=
 RL.frz [] (LF.tup (xs := [.nils, .int .i64 e]) (ys := [bv [], iAV e]) ⟨LF.nils rfl rfl, LF.eq rfl, trivial⟩) LB.nil
theorem pbuild_n (h : Hd) (p : List UInt8) (ko : h.ok = false) : LP Tryz.prog G 67 [h.av, bv p] [] (fun _ => (.tup [bv (zm h p).1, iAV (zm h p).2], [])) := by
 rw [bldR_n ko]
 refine goW [] Tryz.func67 rfl ?_
 conv => whnf
 repeat' ((first | (show LC _ _ _ _ _ _; first | refine LC.pure (phead_n h ko) ?_ | refine goE ?_) | refine T.s ?_ | ((first | apply goB | apply AB.dec | apply AB.gen) <;> intro h <;> try (exfalso; omega)) | refine LQ.mk fun r => ?_ | (show (_ → _) ∧ (¬ _ → _); first | refine T.y ?_ | refine qn (fun h => ?_) (fun h => ?_)) | exact T.z | fail) <;> conv => whnf)
 all_goals (try dsimp only)
 all_goals
   exact RL.nil2
theorem pbuild_1 (hd : Hd) (p : List UInt8) (ko : hd.ok = true) (k : hd.k = 1) (hp : p.length ≤ 100000) : LP Tryz.prog G 67 [hd.av, bv p] [] (fun _ => (.tup [bv (zm hd p).1, iAV (zm hd p).2], [])) := by
 have hn : (qM hd).length = 28 := by rw [zP]; rw [if_neg (by omega)]
 have e15 : q7 .sub .i64 1500 ((28 : Nat) : Int) = 1472 := rfl
 by_cases hs : p.length ≤ 1500 - 28
 · rw [bldR_g ko (by omega)]
   refine goW [] Tryz.func67 rfl ?_
   conv => whnf
   repeat' ((first | (show LC _ _ _ _ _ _; refine updW (fun l h1 => pput2_c l _ _ _ (Nat.le_trans (m := 28) (by decide) (Nat.le_add_right _ _)) h1 (by decide) _) ?_; (repeat first | refine goH ?_ | apply LH.here | apply LH.next); refine ⟨_, rfl, (by simp [hn]; try omega), ?_⟩; conv => whnf) | (show LC _ _ _ _ _ _; refine LC.eq (args' := [AV.vw r 0 20 1]) (by rfl) ?_; refine LC.headB csumT ?_; (repeat first | refine goH ?_ | apply LH.here | apply LH.next); refine ⟨_, rfl, (by simp [hn]; try omega), ?_⟩; conv => whnf) | (refine And.intro ?_ ?_; (focus (first | (simp [hn]; done) | (simp [hn]; omega) | exact T.kx | exact T.side))) | (show LC _ _ _ _ _ _; first | refine LC.own (phead_1 hd ko k) ?_ | refine goE ?_) | (show AQ _ _; first | (refine AQ.eq (cs' := (qM hd ++ p).map bAV) (app_hd (hn.trans rfl)) ?_)) | refine T.s ?_ | ((first | apply goB | apply AB.dec | apply AB.gen) <;> intro h <;> try (exfalso; omega)) | refine LQ.mk fun r => ?_ | (show (_ → _) ∧ (¬ _ → _); first | refine T.y ?_ | refine qn (fun h => ?_) (fun h => ?_)) | exact T.z | fail) <;> conv => whnf)
   all_goals (try dsimp only)
   have e20 : q7 .sub .i64 ((28 + p.length : Nat) : Int) 20 = ((28 + p.length : Nat) : Int) - 20 := by (exact T.num)
   rw [bldL_e, hn, ← e20]
   refine RL.bytes2 ?_
   (repeat first | refine goH ?_ | apply LH.here | apply LH.next)
   exact ⟨rfl, by simp [hn]⟩
 · rw [bldR_s ko (by omega)]
   refine goW [] Tryz.func67 rfl ?_
   conv => whnf
   repeat' ((first | (refine And.intro ?_ ?_; (focus (first | (simp [hn]; done) | (simp [hn]; omega) | exact T.kx | exact T.side))) | (show LC _ _ _ _ _ _; first | refine LC.own (phead_1 hd ko k) ?_ | refine goE ?_) | refine T.s ?_ | ((first | apply goB | apply AB.dec | apply AB.gen) <;> intro h <;> try (exfalso; omega)) | refine LQ.mk fun r => ?_ | (show (_ → _) ∧ (¬ _ → _); first | refine T.y ?_ | refine qn (fun h => ?_) (fun h => ?_)) | exact T.z | fail) <;> conv => whnf)
   all_goals (try dsimp only)
   exact RL.nil2
theorem pbuild_2 (hd : Hd) (p : List UInt8) (ko : hd.ok = true) (k : hd.k = 2) (hp : p.length ≤ 100000) : LP Tryz.prog G 67 [hd.av, bv p] [] (fun _ => (.tup [bv (zm hd p).1, iAV (zm hd p).2], [])) := by
 have hn : (qM hd).length = 40 := by rw [zP]; rw [if_pos k]
 have e15 : q7 .sub .i64 1500 ((40 : Nat) : Int) = 1460 := rfl
 by_cases hs : p.length ≤ 1500 - 40
 · rw [bldR_g ko (by omega)]
   refine goW [] Tryz.func67 rfl ?_
   conv => whnf
   repeat' ((first | (show LC _ _ _ _ _ _; refine updW (fun l h1 => pput2_c l _ _ _ (Nat.le_trans (m := 40) (by decide) (Nat.le_add_right _ _)) h1 (by decide) _) ?_; (repeat first | refine goH ?_ | apply LH.here | apply LH.next); refine ⟨_, rfl, (by simp [hn]; try omega), ?_⟩; conv => whnf) | (show LC _ _ _ _ _ _; refine LC.eq (args' := [AV.vw r 0 20 1]) (by rfl) ?_; refine LC.headB csumT ?_; (repeat first | refine goH ?_ | apply LH.here | apply LH.next); refine ⟨_, rfl, (by simp [hn]; try omega), ?_⟩; conv => whnf) | (refine And.intro ?_ ?_; (focus (first | (simp [hn]; done) | (simp [hn]; omega) | exact T.kx | exact T.side))) | (show LC _ _ _ _ _ _; first | refine LC.own (phead_2 hd ko k) ?_ | refine goE ?_) | (show AQ _ _; first | (refine AQ.eq (cs' := (qM hd ++ p).map bAV) (app_hd0 (hn.trans rfl)) ?_)) | refine T.s ?_ | ((first | apply goB | apply AB.dec | apply AB.gen) <;> intro h <;> try (exfalso; omega)) | refine LQ.mk fun r => ?_ | (show (_ → _) ∧ (¬ _ → _); first | refine T.y ?_ | refine qn (fun h => ?_) (fun h => ?_)) | exact T.z | fail) <;> conv => whnf)
   all_goals (try dsimp only)
   have e20 : q7 .sub .i64 ((40 + p.length : Nat) : Int) 20 = ((40 + p.length : Nat) : Int) - 20 := by (exact T.num)
   rw [bldL_e, hn, ← e20]
   refine RL.bytes2 ?_
   (repeat first | refine goH ?_ | apply LH.here | apply LH.next)
   exact ⟨rfl, by simp [hn]⟩
 · rw [bldR_s ko (by omega)]
   refine goW [] Tryz.func67 rfl ?_
   conv => whnf
   repeat' ((first | (refine And.intro ?_ ?_; (focus (first | (simp [hn]; done) | (simp [hn]; omega) | exact T.kx | exact T.side))) | (show LC _ _ _ _ _ _; first | refine LC.own (phead_2 hd ko k) ?_ | refine goE ?_) | refine T.s ?_ | ((first | apply goB | apply AB.dec | apply AB.gen) <;> intro h <;> try (exfalso; omega)) | refine LQ.mk fun r => ?_ | (show (_ → _) ∧ (¬ _ → _); first | refine T.y ?_ | refine qn (fun h => ?_) (fun h => ?_)) | exact T.z | fail) <;> conv => whnf)
   all_goals (try dsimp only)
   exact RL.nil2
theorem pbuild_c (h : Hd) (p : List UInt8) (hp : p.length ≤ 100000) : LP Tryz.prog G 67 [h.av, bv p] [] (fun _ => (.tup [bv (zm h p).1, iAV (zm h p).2], [])) := by
 cases ko : h.ok with
 | true =>
   rcases (h.of ko).1 with k | k
   · exact pbuild_1 h p ko k hp
   · exact pbuild_2 h p ko k hp
 | false => exact pbuild_n h p ko
open Go.RowKit
variable {G : Nat → AV}
theorem b8_mod {x : Int} (h : 0 ≤ x) : b8 (x.tmod 256) = b8 x := by
 rw [Int.tmod_eq_emod_of_nonneg h]
 unfold b8
 congr 2
 omega
theorem b8_wrap (x : Int) : b8 (IntKind.i64.wrap x) = b8 x := by
 unfold b8
 rw [IntKind.wrap_i64]
 congr 2
 omega
theorem rset_e (l : List UInt8) (a : Nat) {x : Int} (h : 0 ≤ x) : (l.set a (b8 (IntKind.i64.wrap (x.tdiv 256)))).set (a + 1) (b8 (x.tmod 256)) = st2 l a x := by
 unfold st2
 rw [b8_mod h, b8_wrap, Int.tdiv_eq_ediv_of_nonneg h, Int.fdiv_eq_ediv_of_nonneg _ (by decide), List.set_comm _ _ (by omega)]
theorem ix0 (a : Nat) : 0 + (a : Int).toNat * 1 = a := by omega
theorem ix01 {a : Nat} (h : a ≤ 100000) : 0 + (q7 .add .i64 (a : Int) 1).toNat * 1 = a + 1 := ix h rfl (by decide)
theorem rset_c (l : List UInt8) (a n : Nat) (x : Int) (h : a + 2 ≤ n) (hn : n ≤ l.length) (ha : a ≤ 100000) (hx : 0 ≤ x) (p : Nm) : LP Tryz.prog G 72 [.vw p 0 n 1, iAV a, iAV x] [(p, ⟨5, l.map bAV⟩)] (fun _ => (.tup [], [(p, ⟨5, (st2 l a x).map bAV⟩)])) := by
 have e1 : q7 .add .i64 (a : Int) 1 = ((a + 1 : Nat) : Int) := by (exact T.num)
 refine goW [] Tryz.func72 rfl ?_
 conv => whnf
 repeat' ((first | refine T.s ?_ | ((first | apply goB | apply AB.dec | apply AB.gen) <;> intro h <;> try (exfalso; omega)) | refine LQ.mk fun r => ?_ | exact T.z | refine ⟨_, rfl, rfl, ?_⟩ | fail) <;> conv => whnf)
 all_goals (try dsimp only)
 all_goals
   refine RL.val rfl (LB.cons ?_)
   (repeat first | refine goH ?_ | apply LH.here | apply LH.next)
   refine And.intro (congrArg (Pl.mk _) ?_) LB.nil
   rw [ix0, ix01 ha]
   exact congrArg (List.map bAV) (rset_e l a hx)
theorem head_lit (t : Int) : [AV.int .u8 69, AV.int .u8 (IntKind.u8.wrap t), AV.int .u8 0, AV.int .u8 0] = ([69, b8 t, 0, 0] : List UInt8).map bAV := by
 simp only [List.map_cons, List.map_nil, qT]; rfl
theorem head_mid (f t : Int) : [AV.int .u8 (IntKind.u8.wrap f), AV.int .u8 0, AV.int .u8 (IntKind.u8.wrap t), AV.int .u8 17, AV.int .u8 0, AV.int .u8 0] = ([b8 f, 0, b8 t, 17, 0, 0] : List UInt8).map bAV := by
 simp only [List.map_cons, List.map_nil, qT]; rfl
theorem head_00 : [AV.int .u8 0, AV.int .u8 0] = ([0, 0] : List UInt8).map bAV := rfl
theorem head_80 (t : Int) : [AV.int .u8 128, AV.int .u8 (IntKind.u8.wrap t)] = ([128, b8 t] : List UInt8).map bAV := by
 simp only [List.map_cons, List.map_nil, qT]; rfl
theorem RL.ownB {M : List UInt8} {q : Nm} {n : Nat} {l : LS} (h : LH l q fun c _ _ => ∃ L : List UInt8, c = ⟨5, L.map bAV⟩ ∧ L = M ∧ n = M.length) : RL (fun q => (.vw q 0 M.length 1, [(q, ⟨5, M.map bAV⟩)])) (.vw q 0 n 1) l := by
 obtain ⟨l1, c, l2, rfl, L, rfl, rfl, rfl⟩ := h.ex
 exact RL.own q rfl ⟨l1, _, l2, rfl, trivial⟩ (LB.cons ⟨l1, _, l2, rfl, rfl, LB.nil⟩)
theorem r5head_c (hd : Hd) (ko : hd.ok = true) : LP Tryz.prog G 71 [hd.av] [] (fun q => (.vw q 0 (qM hd).length 1, [(q, ⟨5, (qM hd).map bAV⟩)])) := by
 have hv := zn (G := G) hd
 rw [ko] at hv
 have hk := (hd.of ko).1
 have hfx := fx64 (hd.of ko).2.2.2.2.2.2.2.1
 have hmt := mt128 (hd.of ko).2.2.2.2.2.2.2.2.2.2.1 (hd.of ko).2.2.2.2.2.2.2.2.2.2.2.1
 refine goW [] Tryz.func71 rfl ?_
 conv => whnf
 repeat' ((first | (show LC _ _ _ _ _ _; refine LC.putk 2 (fun bs p hb => put2_c bs _ hb p) ?_; (repeat first | refine goH ?_ | apply LH.here | apply LH.next); refine ⟨_, congrArg (Pl.mk _) (head_lit _), (by first | exact rfl | (simp; done)), (by first | exact Nat.le_of_ble_eq_true rfl | (simp; omega) | (simp; done)), ?_⟩; conv => whnf) | (show LC _ _ _ _ _ _; refine LC.putk 2 (fun bs p hb => put2_c bs _ hb p) ?_; (repeat first | refine goH ?_ | apply LH.here | apply LH.next); refine ⟨_, rfl, (by first | exact rfl | (simp; done)), (by first | exact Nat.le_of_ble_eq_true rfl | (simp; omega) | (simp; done)), ?_⟩; conv => whnf) | (show LC _ _ _ _ _ _; refine LC.putk 4 (fun bs p hb => put4_c bs _ hb p) ?_; (repeat first | refine goH ?_ | apply LH.here | apply LH.next); refine ⟨_, rfl, (by first | exact rfl | (simp; done)), (by first | exact Nat.le_of_ble_eq_true rfl | (simp; omega) | (simp; done)), ?_⟩; conv => whnf) | exact Nm.b 0 | (show LC _ _ _ _ _ _; first | refine LC.pure (hv) ?_ | refine goE ?_) | (show AQ _ _; first | (with_reducible refine AQ.appM ?_ (head_mid _ _) ?_; (focus (first | exact Nat.le_of_ble_eq_true rfl | (simp; done) | (simp; omega)))) | (with_reducible refine AQ.appM ?_ head_00 ?_; (focus (first | exact Nat.le_of_ble_eq_true rfl | (simp; done) | (simp; omega)))) | (with_reducible refine AQ.appM ?_ (head_80 _) ?_; (focus (first | exact Nat.le_of_ble_eq_true rfl | (simp; done) | (simp; omega))))) | refine T.s ?_ | ((first | apply goB | apply AB.dec | apply AB.gen) <;> intro h <;> try (exfalso; omega)) | refine LQ.mk fun r => ?_ | (show SQ _ _ _ _ _ _ _; first | (apply goD tQ qb 6 [5, 3] [0, 1, 2, 4, 5, 3, 6, 7] [_] (by kernel_rfl)) | (refine goD tQ qb 6 [5, 3] [0, 1, 2, 4, 5, 3, 6, 7] [] (by kernel_rfl) ?_) | (apply goD tQ qb 7 [5, 3] [0, 1, 2, 4, 5, 3, 6, 7] [_] (by kernel_rfl)) | (refine goD tQ qb 7 [5, 3] [0, 1, 2, 4, 5, 3, 6, 7] [] (by kernel_rfl) ?_) | (apply goD tQ qb 8 [4, 2] [0, 3, 4, 1, 2, 5, 6] [_] (by kernel_rfl)) | (refine goD tQ qb 8 [4, 2] [0, 3, 4, 1, 2, 5, 6] [] (by kernel_rfl) ?_) | (apply goD tQ qb 11 [5, 8, 3, 6] [0, 1, 2, 4, 5, 7, 8, 3, 6, 9, 10] [_] (by kernel_rfl)) | (refine goD tQ qb 11 [5, 8, 3, 6] [0, 1, 2, 4, 5, 7, 8, 3, 6, 9, 10] [] (by kernel_rfl) ?_)) | exact T.z | refine ⟨_, rfl, rfl, ?_⟩ | fail) <;> try (show (_ : Prop); conv => whnf))
 all_goals (try dsimp only)
 all_goals (refine RL.ownB ?_; (repeat first | refine goH ?_ | apply LH.here | apply LH.next); refine ⟨_, rfl, ?_, ?_⟩)
 · unfold qM
   rw [if_pos h, hfx, hmt]
   simp only [List.append_assoc]
 · rw [zP, if_pos h]
   simp
 · unfold qM
   rw [if_neg h, hfx]
   simp only [List.append_assoc, List.append_nil]
 · rw [zP, if_neg h]
   simp
theorem r5head_n (hd : Hd) (ko : hd.ok = false) : LP Tryz.prog G 71 [hd.av] [] (fun _ => (.nils, [])) := by
 have hv := zn (G := G) hd
 rw [ko] at hv
 refine goW [] Tryz.func71 rfl ?_
 conv => whnf
 repeat' ((first | exact Nm.b 0 | (show LC _ _ _ _ _ _; first | refine LC.pure (hv) ?_ | refine goE ?_) | refine T.s ?_ | ((first | apply goB | apply AB.dec | apply AB.gen) <;> intro h <;> try (exfalso; omega)) | refine LQ.mk fun r => ?_ | (show SQ _ _ _ _ _ _ _; first | (refine goD tQ qb 6 [5, 3] [0, 1, 2, 4, 5, 3, 6, 7] [] (by kernel_rfl) ?_) | (refine goD tQ qb 7 [5, 3] [0, 1, 2, 4, 5, 3, 6, 7] [] (by kernel_rfl) ?_) | (refine goD tQ qb 8 [4, 2] [0, 3, 4, 1, 2, 5, 6] [] (by kernel_rfl) ?_) | (refine goD tQ qb 11 [5, 8, 3, 6] [0, 1, 2, 4, 5, 7, 8, 3, 6, 9, 10] [] (by kernel_rfl) ?_)) | exact T.z | refine ⟨_, rfl, rfl, ?_⟩ | fail) <;> conv => whnf)
 all_goals (try dsimp only)
 all_goals
   (show RL _ _ _; refine goR ?_)
   rfl
theorem csR_rng (l : List UInt8) : 0 ≤ csR l := by
 have := xV (z9 l)
 unfold csR
 omega
theorem csumT4 (L : List UInt8) : LP Tryz.prog G 73 [bv (L.take 20)] [] (fun _ => (iAV (csR (L.take 20)), [])) := r4sum_c _ (by simp; omega)
theorem rsetW (l : LS) {K : AV → LS → Prop} {p : Nm} {n a : Nat} {x : Int} (m : Nat) (h : a + 2 ≤ m) (hm : m ≤ n) (ha : a ≤ 100000) (hx : 0 ≤ x) (hk : LH l p fun c s _ => ∃ L : List UInt8, c = ⟨5, L.map bAV⟩ ∧ n ≤ L.length ∧ K (.tup []) (s ⟨5, (st2 L a x).map bAV⟩)) : LC Tryz.prog G 72 [.vw p 0 n 1, iAV a, iAV x] l K :=
 updW (fun L h1 => rset_c L a n x (Nat.le_trans h hm) h1 ha hx p) hk
theorem rbuild_g (hd : Hd) (p : List UInt8) (ko : hd.ok = true) (hp : p.length ≤ 100000) : LP Tryz.prog G 29 [hd.av, bv p] [] (fun _ => (.tup [bv (zm hd p).1, iAV (zm hd p).2], [])) := by
 have hv := zn (G := G) hd
 rw [ko] at hv
 have hn : 28 ≤ (qM hd).length ∧ (qM hd).length ≤ 40 := by rw [zP]; split <;> omega
 generalize hN : (qM hd).length = M at hn
 have hh := r5head_c (G := G) hd ko
 rw [hN] at hh
 by_cases hs : M + p.length ≤ 1500
 · rw [bldR_g ko (by omega)]
   have e20 : q7 .sub .i64 ((M + p.length : Nat) : Int) 20 = ((M + p.length : Nat) : Int) - 20 := by (exact T.num)
   refine goW [] Tryz.func29 rfl ?_
   conv => whnf
   repeat' ((first | (show LC _ _ _ _ _ _; refine LC.eq (congrArg (fun z => [AV.vw r 0 (M + p.length) 1, AV.int .i64 24, AV.int .i64 z]) e20) ?_; refine rsetW _ 28 (by decide) (by omega) (by decide) (by omega) ?_; (repeat first | refine goH ?_ | apply LH.here | apply LH.next); refine ⟨_, rfl, (by simp [hN]; try omega), ?_⟩; conv => whnf) | (show LC _ _ _ _ _ _; refine rsetW _ 28 (by decide) (by omega) (by decide) (by first | exact csR_rng _ | omega) ?_; (repeat first | refine goH ?_ | apply LH.here | apply LH.next); refine ⟨_, rfl, (by simp [hN]; try omega), ?_⟩; conv => whnf) | (show LC _ _ _ _ _ _; refine LC.eq (args' := [AV.vw r 0 20 1]) (by rfl) ?_; refine LC.headB csumT4 ?_; (repeat first | refine goH ?_ | apply LH.here | apply LH.next); refine ⟨_, rfl, (by simp [hN]; try omega), ?_⟩; conv => whnf) | (refine And.intro ?_ ?_; (focus (first | (simp [hN]; done) | (simp [hN]; omega) | exact T.kx | exact T.side))) | (show LC _ _ _ _ _ _; first | refine LC.pure (hv) ?_ | refine LC.own (hh) ?_ | refine goE ?_) | (show AQ _ _; first | (refine AQ.eq (cs' := (qM hd ++ p).map bAV) (app_hd0 (hN.trans (Nat.mul_one _).symm)) ?_)) | refine T.s ?_ | ((first | apply goB | apply AB.dec | apply AB.gen) <;> intro h <;> try (exfalso; omega)) | refine LQ.mk fun r => ?_ | (show (_ → _) ∧ (¬ _ → _); first | refine T.y ?_ | refine qn (fun h => ?_) (fun h => ?_)) | exact T.z | fail) <;> conv => whnf)
   all_goals (try dsimp only)
   all_goals
     rw [bldL_e, hN]
     refine RL.bytes2 ?_
     (repeat first | refine goH ?_ | apply LH.here | apply LH.next)
     exact ⟨rfl, by simp [hN]⟩
 · rw [bldR_s ko (by omega)]
   refine goW [] Tryz.func29 rfl ?_
   conv => whnf
   repeat' ((first | (refine And.intro ?_ ?_; (focus (first | (simp [hN]; done) | (simp [hN]; omega) | exact T.kx | exact T.side))) | (show LC _ _ _ _ _ _; first | refine LC.pure (hv) ?_ | refine LC.own (hh) ?_ | refine goE ?_) | (show AQ _ _; first | (refine AQ.eq (cs' := (qM hd ++ p).map bAV) (app_hd0 (hN.trans (Nat.mul_one _).symm)) ?_)) | refine T.s ?_ | ((first | apply goB | apply AB.dec | apply AB.gen) <;> intro h <;> try (exfalso; omega)) | refine LQ.mk fun r => ?_ | (show (_ → _) ∧ (¬ _ → _); first | refine T.y ?_ | refine qn (fun h => ?_) (fun h => ?_)) | exact T.z | fail) <;> conv => whnf)
   all_goals (try dsimp only)
   all_goals exact RL.nil2
theorem kE (h : Hd) (p : List UInt8) (hp : p.length ≤ 100000) : LP Tryz.prog G 29 [h.av, bv p] [] (fun _ => (.tup [bv (zm h p).1, iAV (zm h p).2], [])) := by
 cases ko : h.ok with
 | true => exact rbuild_g h p ko hp
 | false =>
   have hv := zn (G := G) h
   rw [ko] at hv
   rw [bldR_n ko]
   refine goW [] Tryz.func29 rfl ?_
   conv => whnf
   repeat' ((first | (show LC _ _ _ _ _ _; first | refine LC.pure (hv) ?_ | refine goE ?_) | refine T.s ?_ | ((first | apply goB | apply AB.dec | apply AB.gen) <;> intro h <;> try (exfalso; omega)) | refine LQ.mk fun r => ?_ | (show (_ → _) ∧ (¬ _ → _); first | refine T.y ?_ | refine qn (fun h => ?_) (fun h => ?_)) | exact T.z | fail) <;> conv => whnf)
   all_goals (try dsimp only)
   all_goals exact RL.nil2
end Go.Proofs.YtkfpgdckdmlhkaaGreatDoor
