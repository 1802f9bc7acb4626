import Derived.Test.YtkfpgdckdmlhkaaGreatDoorDp04
namespace Go.Proofs.YtkfpgdckdmlhkaaGreatDoor
open Go.RowKit
set_option linter.all false
theorem ipow_le {a b : Nat} (h : a ≤ b) : (2 : Int) ^ a ≤ 2 ^ b := by
 have := Nat.pow_le_pow_right (n := 2) (by decide) h
 exact_mod_cast this
theorem and_mask (x : Int) (n : Nat) (hn : n ≤ 32) : ibits .and .i64 x (2 ^ n - 1) = x % 2 ^ n := by
 have hp : (2 : Int) ^ n ≤ 2 ^ 32 := ipow_le hn
 have hp' : (2 : Nat) ^ n ≤ 2 ^ 32 := Nat.pow_le_pow_right (by decide) hn
 have hq : (0 : Int) < 2 ^ n := Int.pow_pos (by decide)
 show IntKind.i64.wrap ((BitVec.ofInt 64 x &&& BitVec.ofInt 64 (2 ^ n - 1)).toNat : Int) = _
 have hd : (2 : Int) ^ n ∣ 2 ^ 64 := ⟨2 ^ (64 - n), by rw [← Int.pow_add]; congr 1; omega⟩
 have e2 : ((2 : Int) ^ n - 1) = ((2 ^ n - 1 : Nat) : Int) := by
   have : 0 < (2 : Nat) ^ n := Nat.pow_pos (by decide)
   rw [Int.ofNat_sub this]; simp
 have e : ((BitVec.ofInt 64 x &&& BitVec.ofInt 64 (2 ^ n - 1)).toNat : Int) = x % 2 ^ n := by
   rw [e2, BitVec.toNat_and, BitVec.ofInt_natCast, BitVec.toNat_ofNat, Nat.mod_eq_of_lt (show 2 ^ n - 1 < 2 ^ 64 by omega), Nat.and_two_pow_sub_one_eq_mod, BitVec.toNat_ofInt]
   have h0 : 0 ≤ x % ((2 : Int) ^ 64) := Int.emod_nonneg _ (by decide)
   have h1 : (((x % (2 : Int) ^ 64).toNat : Nat) : Int) = x % 2 ^ 64 := Int.toNat_of_nonneg h0
   rw [Int.natCast_emod]
   show (((x % (2 : Int) ^ 64).toNat : Nat) : Int) % ((2 ^ n : Nat) : Int) = _
   rw [h1]
   push_cast
   exact Int.emod_emod_of_dvd x hd
 rw [e, IntKind.wrap_i64]
 have h1 := Int.emod_nonneg x (show (2 : Int) ^ n ≠ 0 by omega)
 have h2 := Int.emod_lt_of_pos x hq
 omega
def lw (n x : Int) : Int := x % 2 ^ n.toNat
theorem pw_pos (n : Int) : (0 : Int) < 2 ^ n.toNat := Int.pow_pos (by decide)
theorem pw_le {n : Int} {m : Nat} (h : n ≤ m) : (2 : Int) ^ n.toNat ≤ 2 ^ m := ipow_le (by omega)
theorem lw_rng (n x : Int) : 0 ≤ lw n x ∧ lw n x < 2 ^ n.toNat := ⟨Int.emod_nonneg x (by have := pw_pos n; omega), Int.emod_lt_of_pos x (pw_pos n)⟩
theorem shl1 {n : Int} (h1 : n ≤ 32) : IntKind.i64.wrap (1 * 2 ^ min n.toNat 64) = 2 ^ n.toNat := by
 have h2 := pw_le (m := 32) h1
 have h3 := pw_pos n
 rw [show min n.toNat 64 = n.toNat by omega, IntKind.wrap_i64]
 omega
theorem mask_e {n : Int} (h1 : n ≤ 32) : iarith .sub .i64 (IntKind.i64.wrap (1 * 2 ^ min n.toNat 64)) 1 = 2 ^ n.toNat - 1 := by
 have h2 := pw_le (m := 32) h1
 have h3 := pw_pos n
 rw [shl1 h1]
 show IntKind.i64.wrap _ = _
 rw [IntKind.wrap_i64]
 omega
theorem low_e {n : Int} (x : Int) (h1 : n ≤ 32) : ibits .and .i64 x (iarith .sub .i64 (IntKind.i64.wrap (1 * 2 ^ min n.toNat 64)) 1) = lw n x := by
 rw [mask_e h1]
 exact and_mask x n.toNat (by omega)
theorem dvd64 {n : Int} (h : n ≤ 32) : (2 : Int) ^ n.toNat ∣ 18446744073709551616 := ⟨2 ^ (64 - n.toNat), by rw [← Int.pow_add, show n.toNat + (64 - n.toNat) = 64 by omega]; rfl⟩
theorem lw_wrap {n : Int} (x : Int) (h : n ≤ 32) : lw n (IntKind.i64.wrap x) = lw n x := by
 obtain ⟨c, hc⟩ := dvd64 h
 unfold lw
 have : IntKind.i64.wrap x = x - 18446744073709551616 * ((x + 9223372036854775808) / 18446744073709551616) := by
   rw [IntKind.wrap_i64]; omega
 rw [this, hc, Int.mul_assoc, Int.sub_mul_emod_self_left]
theorem lw_small {n x : Int} (h0 : 0 ≤ x) (h1 : x < 2 ^ n.toNat) : lw n x = x := Int.emod_eq_of_lt h0 h1
theorem lw_lw (n x : Int) : lw n (lw n x) = lw n x := by unfold lw; exact Int.emod_emod_of_dvd x (Int.dvd_refl _)
theorem lw_add_r (n x y : Int) : lw n (x + lw n y) = lw n (x + y) := by unfold lw; exact Int.add_emod_emod ..
theorem lw_sub_l (n x y : Int) : lw n (lw n x - y) = lw n (x - y) := by unfold lw; exact Int.emod_sub_emod ..
theorem lw_sub_r (n x y : Int) : lw n (x - lw n y) = lw n (x - y) := by unfold lw; exact Int.sub_emod_emod ..
def sg (n a b : Int) : Int := if 2 ^ (n - 1).toNat ≤ lw n (b - a) then lw n (b - a) - 2 ^ n.toNat else lw n (b - a)
def offK (k : Int) : Int := 2 ^ (k - 3).toNat - 1
def lsbV (width r k l : Int) : Int := lw width (r - offK k + lw k (l - (r - offK k)))
def wideB (width : Int) : Bool := decide (width = 8 ∨ width = 16 ∨ width = 32)
def valB (width v : Int) : Bool := decide (0 ≤ v ∧ v < 2 ^ width.toNat)
def lsbR (width r k l : Int) : Int × Int :=
 if wideB width then (if k < 3 ∨ k > width ∨ valB width r = false ∨ valB k l = false then (0, 3) else (lsbV width r k l, 0)) else (0, 7)
attribute [irreducible] lw
open Go.RowKit
variable {G : Nat → AV}
theorem svalid_c (n : Int) (h1 : 1 ≤ n) (h2 : n ≤ 32) : LP Tryz.prog G 131 [iAV n] [] (fun _ => (.bool true, [])) := by
 refine goW [] Tryz.func131 rfl ?_
 conv => whnf
 repeat' ((first
   | refine T.s ?_
   | ((first | refine goB (fun h => ?_) (fun h => ?_) | refine AB.dec (fun h => ?_) (fun h => ?_) | refine AB.gen (fun h => ?_) (fun h => ?_)) <;> try (exfalso; omega))
   | refine LFresh.mk fun r => ?_
   | exact T.z
   | fail) <;> conv => whnf)
 all_goals (try dsimp only)
 all_goals
   (show RL _ _ _; refine goR ?_)
   simp [icmp] <;> omega
theorem slow_c (n x : Int) (h1 : 1 ≤ n) (h2 : n ≤ 32) : LP Tryz.prog G 108 [iAV n, iAV x] [] (fun _ => (iAV (lw n x), [])) := by
 refine goW [] Tryz.func108 rfl ?_
 conv => whnf
 repeat' ((first
   | (show LC _ _ _ _ _ _; first | refine LC.pure (svalid_c _ h1 h2) ?_ | refine goE ?_)
   | refine T.s ?_
   | ((first | refine goB (fun h => ?_) (fun h => ?_) | refine AB.dec (fun h => ?_) (fun h => ?_) | refine AB.gen (fun h => ?_) (fun h => ?_)) <;> try (exfalso; omega))
   | refine LFresh.mk fun r => ?_
   | exact T.z
   | fail) <;> conv => whnf)
 all_goals (try dsimp only)
 (show RL _ _ _; refine goR ?_)
 exact congrArg iAV (low_e x h2)
theorem sdist_c (n a b : Int) (h1 : 1 ≤ n) (h2 : n ≤ 32) : LP Tryz.prog G 148 [iAV n, iAV a, iAV b] [] (fun _ => (iAV (lw n (b - a)), [])) := by
 refine goW [] Tryz.func148 rfl ?_
 conv => whnf
 repeat' ((first
   | (show LC _ _ _ _ _ _; first | refine LC.pure (slow_c _ _ h1 h2) ?_ | refine goE ?_)
   | refine T.s ?_
   | ((first | refine goB (fun h => ?_) (fun h => ?_) | refine AB.dec (fun h => ?_) (fun h => ?_) | refine AB.gen (fun h => ?_) (fun h => ?_)) <;> try (exfalso; omega))
   | refine LFresh.mk fun r => ?_
   | exact T.z
   | fail) <;> conv => whnf)
 all_goals (try dsimp only)
 (show RL _ _ _; refine goR ?_)
 exact congrArg iAV (lw_wrap _ h2)
theorem shalf_c (n : Int) (h1 : 1 ≤ n) (h2 : n ≤ 32) : LP Tryz.prog G 149 [iAV n] [] (fun _ => (iAV (2 ^ (n - 1).toNat), [])) := by
 refine goW [] Tryz.func149 rfl ?_
 conv => whnf
 repeat' ((first
   | refine T.s ?_
   | ((first | refine goB (fun h => ?_) (fun h => ?_) | refine AB.dec (fun h => ?_) (fun h => ?_) | refine AB.gen (fun h => ?_) (fun h => ?_)) <;> try (exfalso; omega))
   | refine LFresh.mk fun r => ?_
   | exact T.z
   | fail) <;> conv => whnf)
 all_goals (try dsimp only)
 have e : iarith .sub .i64 n 1 = n - 1 := by (exact T.num)
 (show RL _ _ _; refine goR ?_)
 rw [e]
 exact congrArg iAV (shl1 (by omega))
theorem sg_e {n : Int} (h1 : 1 ≤ n) (h2 : n ≤ 32) (a b : Int) (h : 2 ^ (n - 1).toNat ≤ lw n (b - a)) : iarith .sub .i64 (lw n (b - a)) (IntKind.i64.wrap (1 * 2 ^ min n.toNat 64)) = sg n a b := by
 have h3 := lw_rng n (b - a)
 have h4 := pw_le (m := 32) h2
 rw [shl1 h2]
 unfold sg
 rw [if_pos h]
 show IntKind.i64.wrap _ = _
 rw [IntKind.wrap_i64]
 omega
theorem ssigned_c (n a b : Int) (h1 : 1 ≤ n) (h2 : n ≤ 32) : LP Tryz.prog G 140 [iAV n, iAV a, iAV b] [] (fun _ => (iAV (sg n a b), [])) := by
 refine goW [] Tryz.func140 rfl ?_
 conv => whnf
 repeat' ((first
   | (show LC _ _ _ _ _ _; first | refine LC.pure (svalid_c _ h1 h2) ?_ | refine LC.pure (sdist_c _ _ _ h1 h2) ?_ | refine LC.pure (shalf_c _ h1 h2) ?_ | refine goE ?_)
   | refine T.s ?_
   | ((first | refine goB (fun h => ?_) (fun h => ?_) | refine AB.dec (fun h => ?_) (fun h => ?_) | refine AB.gen (fun h => ?_) (fun h => ?_)) <;> try (exfalso; omega))
   | refine LFresh.mk fun r => ?_
   | exact T.z
   | fail) <;> conv => whnf)
 all_goals (try dsimp only)
 · (show RL _ _ _; refine goR ?_)
   exact congrArg iAV (sg_e h1 h2 a b (by omega))
 · (show RL _ _ _; refine goR ?_)
   unfold sg
   rw [if_neg (by omega)]
   try rfl
theorem r2valid_c (n : Int) (h1 : 1 ≤ n) (h2 : n ≤ 32) : LP Tryz.prog G 85 [iAV n] [] (fun _ => (.bool true, [])) := by
 refine goW [] Tryz.func85 rfl ?_
 conv => whnf
 repeat' ((first
   | refine T.s ?_
   | ((first | refine goB (fun h => ?_) (fun h => ?_) | refine AB.dec (fun h => ?_) (fun h => ?_) | refine AB.gen (fun h => ?_) (fun h => ?_)) <;> try (exfalso; omega))
   | refine LFresh.mk fun r => ?_
   | exact T.z
   | fail) <;> conv => whnf)
 all_goals (try dsimp only)
 all_goals
   (show RL _ _ _; refine goR ?_)
   simp [icmp] <;> omega
theorem u64n {n : Int} (h1 : 0 ≤ n) (h2 : n ≤ 32) : (IntKind.u64.wrap n).toNat = n.toNat := by rw [IntKind.wrap_u64]; omega
theorem r2low_c (n x : Int) (h1 : 1 ≤ n) (h2 : n ≤ 32) : LP Tryz.prog G 87 [iAV n, iAV x] [] (fun _ => (iAV (lw n x), [])) := by
 refine goW [] Tryz.func87 rfl ?_
 conv => whnf
 repeat' ((first
   | (show LC _ _ _ _ _ _; first | refine LC.pure (r2valid_c _ h1 h2) ?_ | refine goE ?_)
   | refine T.s ?_
   | ((first | refine goB (fun h => ?_) (fun h => ?_) | refine AB.dec (fun h => ?_) (fun h => ?_) | refine AB.gen (fun h => ?_) (fun h => ?_)) <;> try (exfalso; omega))
   | refine LFresh.mk fun r => ?_
   | exact T.z
   | refine ⟨_, rfl, rfl, ?_⟩
   | fail) <;> conv => whnf)
 all_goals (try dsimp only)
 (show RL _ _ _; refine goR ?_)
 rw [u64n (by omega) h2]
 exact congrArg iAV (low_e x h2)
theorem r2dist_c (n a b : Int) (h1 : 1 ≤ n) (h2 : n ≤ 32) : LP Tryz.prog G 86 [iAV n, iAV a, iAV b] [] (fun _ => (iAV (lw n (b - a)), [])) := by
 refine goW [] Tryz.func86 rfl ?_
 conv => whnf
 repeat' ((first
   | (show LC _ _ _ _ _ _; first | refine LC.pure (r2valid_c _ h1 h2) ?_ | refine LC.pure (r2low_c _ _ h1 h2) ?_ | refine goE ?_)
   | refine T.s ?_
   | ((first | refine goB (fun h => ?_) (fun h => ?_) | refine AB.dec (fun h => ?_) (fun h => ?_) | refine AB.gen (fun h => ?_) (fun h => ?_)) <;> try (exfalso; omega))
   | refine LFresh.mk fun r => ?_
   | exact T.z
   | refine ⟨_, rfl, rfl, ?_⟩
   | fail) <;> conv => whnf)
 all_goals (try dsimp only)
 (show RL _ _ _; refine goR ?_)
 rw [u64n (by omega) h2]
 refine congrArg iAV ((low_e _ h2).trans ?_)
 show lw n (IntKind.i64.wrap _) = _
 rw [lw_wrap _ h2, lw_sub_l, lw_sub_r]
theorem r2signed_c (n a b : Int) (h1 : 1 ≤ n) (h2 : n ≤ 32) : LP Tryz.prog G 48 [iAV n, iAV a, iAV b] [] (fun _ => (iAV (sg n a b), [])) := by
 have e : iarith .sub .i64 n 1 = n - 1 := by (exact T.num)
 have e2 : IntKind.i64.wrap (1 * 2 ^ min (IntKind.u64.wrap (n - 1)).toNat IntKind.i64.bits) = 2 ^ (n - 1).toNat := by show IntKind.i64.wrap (1 * 2 ^ min (IntKind.u64.wrap (n - 1)).toNat 64) = _; rw [u64n (by omega) (by omega)]; exact shl1 (by omega)
 refine goW [] Tryz.func48 rfl ?_
 conv => whnf
 repeat' ((first
   | (show LC _ _ _ _ _ _; first | refine LC.pure (r2valid_c _ h1 h2) ?_ | refine LC.pure (r2dist_c _ _ _ h1 h2) ?_ | refine goE ?_)
   | refine T.s ?_
   | ((first | refine goB (fun h => ?_) (fun h => ?_) | refine AB.dec (fun h => ?_) (fun h => ?_) | refine AB.gen (fun h => ?_) (fun h => ?_)) <;> try (exfalso; omega))
   | refine LFresh.mk fun r => ?_
   | exact T.z
   | refine ⟨_, rfl, rfl, ?_⟩
   | fail) <;> conv => whnf)
 all_goals (try dsimp only)
 · rw [e, e2] at h
   (show RL _ _ _; refine goR ?_)
   rw [u64n (by omega) h2]
   exact congrArg iAV (sg_e h1 h2 a b (by omega))
 · rw [e, e2] at h
   (show RL _ _ _; refine goR ?_)
   unfold sg
   rw [if_neg (by omega)]
   try rfl
open Go.RowKit
variable {G : Nat → AV}
def modR (n m : Int) : Int := if m < 1 then 0 else if n.tmod m < 0 then IntKind.i64.wrap (n.tmod m + m) else n.tmod m
theorem mod_c (n m : Int) : LP Tryz.prog G 11 [iAV n, iAV m] [] (fun _ => (iAV (modR n m), [])) := by
 refine goW [] Tryz.func11 rfl ?_
 conv => whnf
 repeat' ((first
   | refine T.s ?_
   | ((first | refine goB (fun h => ?_) (fun h => ?_) | refine AB.dec (fun h => ?_) (fun h => ?_) | refine AB.gen (fun h => ?_) (fun h => ?_)) <;> try (exfalso; omega))
   | refine LFresh.mk fun r => ?_
   | exact T.z
   | fail) <;> conv => whnf)
 all_goals (try dsimp only)
 all_goals
   (show RL _ _ _; refine goR ?_)
   unfold modR
   (repeat first | rw [if_pos (by first | assumption | omega)] | rw [if_neg (by first | assumption | omega)])
   rfl
def dice (t : List Int) (a : Nat) : Pl := ⟨85, [iv t, iAV a]⟩
theorem light_c (t : List Int) : LP Tryz.prog G 15 [iv t] [] (fun _ => (.bool (decide (t.length ≤ 400)), [])) := by
 refine goW [] Tryz.func15 rfl ?_
 conv => whnf
 repeat' ((first
   | refine T.s ?_
   | ((first | refine goB (fun h => ?_) (fun h => ?_) | refine AB.dec (fun h => ?_) (fun h => ?_) | refine AB.gen (fun h => ?_) (fun h => ?_)) <;> try (exfalso; omega))
   | refine LFresh.mk fun r => ?_
   | exact T.z
   | fail) <;> conv => whnf)
 all_goals (try dsimp only)
 (show RL _ _ _; refine goR ?_)
 simp [icmp]
 omega
theorem roll_c (t : List Int) : LP Tryz.prog G 16 [iv t] [] (fun q => (.ptr q 0, [(q, dice t 0)])) := by
 refine goW [] Tryz.func16 rfl ?_
 conv => whnf
 repeat' ((first
   | refine T.s ?_
   | ((first | refine goB (fun h => ?_) (fun h => ?_) | refine AB.dec (fun h => ?_) (fun h => ?_) | refine AB.gen (fun h => ?_) (fun h => ?_)) <;> try (exfalso; omega))
   | refine LFresh.mk fun r => ?_
   | exact T.z
   | fail) <;> conv => whnf)
 all_goals (try dsimp only)
 refine RL.own r ?_ ?_ ?_
 · rfl
 · (repeat first | refine goH ?_ | apply LH.here | apply LH.next); trivial
 · (repeat' first | exact LB.nil | (with_reducible exact LB.refl) | (apply LB.cons; (repeat first | refine goH ?_ | apply LH.here | apply LH.next); refine And.intro ?_ ?_; (focus (try (first | (with_reducible rfl) | (refine congrArg (Pl.mk _) ?_; (first | rfl | (simp; done))) | rfl | (with_reducible refine congrArg (Pl.mk _) ?_))))))
def nextR (t : List Int) (a : Nat) (n : Int) : Int := if a < t.length then modR (t.getD a 0) n else 0
def nextA (t : List Int) (a : Nat) : Nat := if a < t.length then a + 1 else a
theorem modR_lt (n m : Int) (h0 : 0 < m) (h1 : m < 4611686018427387904) : 0 ≤ modR n m ∧ modR n m < m := by
 unfold modR
 rw [if_neg (by omega)]
 have h2 : n.tmod m < m := Int.tmod_lt_of_pos n h0
 have h3 : -m < n.tmod m := by
   have := Int.lt_tmod_of_pos n h0
   omega
 split
 · rw [IntKind.wrap_i64]; omega
 · omega
theorem nextR_lt (t : List Int) (a : Nat) (m : Int) (h0 : 0 < m) (h1 : m < 4611686018427387904) : 0 ≤ nextR t a m ∧ nextR t a m < m := by
 unfold nextR
 split
 · exact modR_lt _ _ h0 h1
 · omega
theorem next_c (t : List Int) (a : Nat) (n : Int) (ht : t.length ≤ 400) (p : Nm) : LP Tryz.prog G 17 [.ptr p 0, iAV n] [(p, dice t a)] (fun _ => (iAV (nextR t a n), [(p, dice t (nextA t a))])) := by
 refine goW [] Tryz.func17 rfl ?_
 conv => whnf
 repeat' ((first
   | exact Nm.b 0
   | (show LC _ _ _ _ _ _; first | refine LC.pure (mod_c _ _) ?_ | refine goE ?_)
   | refine T.s ?_
   | ((first | refine goB (fun h => ?_) (fun h => ?_) | refine AB.dec (fun h => ?_) (fun h => ?_) | refine AB.gen (fun h => ?_) (fun h => ?_)) <;> try (exfalso; omega))
   | refine LFresh.mk fun r => ?_
   | (show SQ _ _ _ _ _ _ _; first | (refine goD tQ mixed 1 [] [0, 1, 2, 3, 4, 5, 6, 7, 8, 9] [] (by kernel_rfl) ?_) | (refine goD tQ mixed 4 [] [0, 1, 2, 3, 4, 5, 6, 7, 8, 9, 10, 11, 12, 13] [] (by kernel_rfl) ?_))
   | exact T.z
   | fail) <;> conv => whnf)
 all_goals (try dsimp only)
 · have e1 : nextA t a = a := by unfold nextA; (repeat first | rw [if_pos (by first | assumption | omega)] | rw [if_neg (by first | assumption | omega)])
   have e2 : nextR t a n = 0 := by unfold nextR; (repeat first | rw [if_pos (by first | assumption | omega)] | rw [if_neg (by first | assumption | omega)])
   rw [e1, e2]
   (show RL _ _ _; refine goR ?_)
   rfl
 · have e1 : nextA t a = a + 1 := by unfold nextA; (repeat first | rw [if_pos (by first | assumption | omega)] | rw [if_neg (by first | assumption | omega)])
   have e2 : nextR t a n = modR (t.getD a 0) n := by unfold nextR; (repeat first | rw [if_pos (by first | assumption | omega)] | rw [if_neg (by first | assumption | omega)])
   have h1 : iarith .add .i64 (a : Int) 1 = ((a + 1 : Nat) : Int) := by (exact T.num)
   have h2 : iarith .sub .i64 ((a + 1 : Nat) : Int) 1 = (a : Int) := by (exact T.num)
   rw [e1, e2, h1, h2]
   (show RL _ _ _; refine goR ?_)
   simp [iAV]
open Go.RowKit
variable {G : Nat → AV}
def oneR (t : List Int) (a : Nat) (n : Int) : Bool := icmp .eql (nextR t a n) (iarith .sub .i64 n 1)
theorem one_c (t : List Int) (a : Nat) (n : Int) (ht : t.length ≤ 400) (p : Nm) : LP Tryz.prog G 20 [.ptr p 0, iAV n] [(p, dice t a)] (fun _ => (.bool (oneR t a n), [(p, dice t (nextA t a))])) := by
 refine goW [] Tryz.func20 rfl ?_
 conv => whnf
 repeat' ((first
   | (show LC _ _ _ _ _ _; first | (apply LC.upd (next_c t _ _ ht _); (repeat first | refine goH ?_ | apply LH.here | apply LH.next); refine ⟨rfl, ?_⟩) | refine goE ?_)
   | refine T.s ?_
   | ((first | refine goB (fun h => ?_) (fun h => ?_) | refine AB.dec (fun h => ?_) (fun h => ?_) | refine AB.gen (fun h => ?_) (fun h => ?_)) <;> try (exfalso; omega))
   | refine LFresh.mk fun r => ?_
   | exact T.z
   | fail) <;> conv => whnf)
 all_goals (try dsimp only)
 (show RL _ _ _; refine goR ?_)
 rfl
structure Ky where
 s : List UInt8
 g : List UInt8
 n : Int
 b : Int
 d : Int
def Ky.av (k : Ky) : AV := .agg [bv k.s, bv k.g, iAV k.n, iAV k.b, iAV k.d]
def adv (t : List Int) (a : Nat) : Nat → Nat
 | 0 => a
 | k + 1 => nextA t (adv t a k)
def bytesL (t : List Int) (a k : Nat) : List UInt8 := (List.range k).map fun j => b8 (nextR t (adv t a j) 256)
@[simp] theorem bytesL_len (t : List Int) (a k : Nat) : (bytesL t a k).length = k := by simp [bytesL]
def manyR (t : List Int) (a : Nat) (most : Int) : Nat := (nextR t a (iarith .add .i64 most 1)).toNat
theorem dbytes_c (t : List Int) (a : Nat) (most : Int) (h0 : 0 ≤ most) (h1 : most ≤ 1000) (ht : t.length ≤ 400) (p : Nm) : LP Tryz.prog G 40 [.ptr p 0, iAV most] [(p, dice t a)] (fun _ => (bv (bytesL t (nextA t a) (manyR t a most)), [(p, dice t (adv t (nextA t a) (manyR t a most)))])) := by
 have hm : iarith .add .i64 most 1 = most + 1 := by (exact T.num)
 have hb := nextR_lt t a (iarith .add .i64 most 1) (by omega) (by omega)
 have hN : nextR t a (iarith .add .i64 most 1) = (manyR t a most : Int) := by unfold manyR; omega
 refine goW [] Tryz.func40 rfl ?_
 conv => whnf
 repeat' ((first
   | (show LC _ _ _ _ _ _; first | (apply LC.upd (next_c t _ _ ht _); (repeat first | refine goH ?_ | apply LH.here | apply LH.next); refine ⟨rfl, ?_⟩) | refine goE ?_)
   | refine T.s ?_
   | ((first | refine goB (fun h => ?_) (fun h => ?_) | refine AB.dec (fun h => ?_) (fun h => ?_) | refine AB.gen (fun h => ?_) (fun h => ?_)) <;> try (exfalso; omega))
   | refine LFresh.mk fun r => ?_
   | (show SQ _ _ _ (.loop _) _ _ _; first | (apply goO tQ [] 3 (S := Nat × Nm) [0] (fun (i, q) => ⟨[(5, .vw q 0 i 1), (6, .int .i64 ((manyR t a most : Int) - (i : Int)))], [(p, dice t (adv t (nextA t a) i)), (q, ⟨5, (bytesL t (nextA t a) i).map bAV⟩)], i ≤ manyR t a most, manyR t a most - i⟩) ((0, q)) (by rfl); (focus (all_goals (try exact K8FA); done)); rintro ⟨i, q⟩ hok; (try dsimp only at hok); (repeat (have hk := And.left hok; replace hok := And.right hok))))
   | (show SQ _ _ _ _ _ _ _; first | refine SQ.adopt 5 1 5 (by rfl) fun q => ?_)
   | (show AtL _ _ _ _ _ _ _ _ _ _; first | (apply AtL.mk' (id := 3) (S := Nat × Nm) ((i + 1, _)); all_goals (try exact K8FA); done) | (apply AtL.mk' (id := 3) (S := Nat × Nm) ((i + 1, _)); all_goals (try exact K8FA)))
   | exact T.z
   | refine ⟨_, rfl, rfl, ?_⟩
   | fail) <;> conv => whnf)
 all_goals (try dsimp only)
 have hi : manyR t a most = i := by omega
 rw [hi]
 (refine RL.rowF ?_; (repeat first | refine goH ?_ | apply LH.here | apply LH.next); refine And.intro ?_ (And.intro ?_ ?_); rotate_left; rotate_left; (focus ((repeat' first | exact LB.nil | (with_reducible exact LB.refl) | (apply LB.cons; (repeat first | refine goH ?_ | apply LH.here | apply LH.next); refine And.intro ?_ ?_; (focus (try (first | (with_reducible rfl) | (refine congrArg (Pl.mk _) ?_; (first | rfl | (simp; done))) | rfl | (with_reducible refine congrArg (Pl.mk _) ?_)))))))))
 · rfl
 · simp
open Go.RowKit
variable {G : Nat → AV}
def someR (t : List Int) (a : Nat) (most : Int) : List UInt8 := b8 (nextR t a 256) :: bytesL t (adv t a 2) (manyR t (adv t a 1) (iarith .sub .i64 most 1))
def someA (t : List Int) (a : Nat) (most : Int) : Nat := adv t (adv t a 2) (manyR t (adv t a 1) (iarith .sub .i64 most 1))
theorem dsome_c (t : List Int) (a : Nat) (most : Int) (h0 : 1 ≤ most) (h1 : most ≤ 1000) (ht : t.length ≤ 400) (p : Nm) : LP Tryz.prog G 42 [.ptr p 0, iAV most] [(p, dice t a)] (fun _ => (bv (someR t a most), [(p, dice t (someA t a most))])) := by
 have hm : iarith .sub .i64 most 1 = most - 1 := by (exact T.num)
 have hb := nextR_lt t (nextA t a) (iarith .add .i64 (iarith .sub .i64 most 1) 1) (by (exact T.num)) (by (exact T.num))
 have hN : manyR t (nextA t a) (iarith .sub .i64 most 1) ≤ 1000 := by unfold manyR; (exact T.num)
 refine goW [] Tryz.func42 rfl ?_
 conv => whnf
 repeat' ((first
   | (show LC _ _ _ _ _ _; first | (apply LC.upd (next_c t _ _ ht _); (repeat first | refine goH ?_ | apply LH.here | apply LH.next); refine ⟨rfl, ?_⟩) | (apply LC.upd (dbytes_c t _ _ (by (exact T.num)) (by (exact T.num)) ht _); (repeat first | refine goH ?_ | apply LH.here | apply LH.next); refine ⟨rfl, ?_⟩) | refine goE ?_)
   | refine T.s ?_
   | ((first | refine goB (fun h => ?_) (fun h => ?_) | refine AB.dec (fun h => ?_) (fun h => ?_) | refine AB.gen (fun h => ?_) (fun h => ?_)) <;> try (exfalso; omega))
   | refine LFresh.mk fun r => ?_
   | exact T.z
   | refine ⟨_, rfl, rfl, ?_⟩
   | fail) <;> conv => whnf)
 all_goals (try dsimp only)
 (refine RL.rowF ?_; (repeat first | refine goH ?_ | apply LH.here | apply LH.next); refine And.intro ?_ (And.intro ?_ ?_); rotate_left; rotate_left; (focus ((repeat' first | exact LB.nil | (with_reducible exact LB.refl) | (apply LB.cons; (repeat first | refine goH ?_ | apply LH.here | apply LH.next); refine And.intro ?_ ?_; (focus (try (first | (with_reducible rfl) | (refine congrArg (Pl.mk _) ?_; (first | rfl | (simp; done))) | rfl | (with_reducible refine congrArg (Pl.mk _) ?_)))))))))
 · simp [someR, bAV_b8, adv]
 · simp [someR, adv]; omega
end Go.Proofs.YtkfpgdckdmlhkaaGreatDoor
