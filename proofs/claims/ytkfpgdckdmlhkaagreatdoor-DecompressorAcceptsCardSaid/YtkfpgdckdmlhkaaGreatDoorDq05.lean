/-
  Contracts of the functions that the laws reach.
-/
import Derived.Test.YtkfpgdckdmlhkaaGreatDoorDq01
import Derived.Test.YtkfpgdckdmlhkaaGreatDoorDq02
import Derived.Test.YtkfpgdckdmlhkaaGreatDoorDq03
import Derived.Test.YtkfpgdckdmlhkaaGreatDoorDq04
set_option maxHeartbeats 2000000
set_option linter.all false
namespace Go.Proofs.YtkfpgdckdmlhkaaGreatDoor
open Go.RowKit
theorem ipow_le {a b : Nat} (h : a ≤ b) : (2 : Int) ^ a ≤ 2 ^ b := by
 have := Nat.pow_le_pow_right (n := 2) (by decide) h
 exact_mod_cast this
theorem yK (x : Int) (n : Nat) (hn : n ≤ 32) : qB .and .i64 x (2 ^ n - 1) = x % 2 ^ n := by
 have hp : (2 : Int) ^ n ≤ 2 ^ 32 := ipow_le hn
 have hp' : (2 : Nat) ^ n ≤ 2 ^ 32 := Nat.pow_le_pow_right (by decide) hn
 have hq : (0 : Int) < 2 ^ n := Int.pow_pos (by decide)
 show IntKind.i64.wrap ((BitVec.ofInt 64 x &&& BitVec.ofInt 64 (2 ^ n - 1)).toNat : Int) = _
 have hd : (2 : Int) ^ n ∣ 2 ^ 64 := ⟨2 ^ (64 - n), by rw [← Int.pow_add]; congr 1; omega⟩
 have e2 : ((2 : Int) ^ n - 1) = ((2 ^ n - 1 : Nat) : Int) := by
   have : 0 < (2 : Nat) ^ n := Nat.pow_pos (by decide)
   rw [Int.ofNat_sub this]; simp
 have e : ((BitVec.ofInt 64 x &&& BitVec.ofInt 64 (2 ^ n - 1)).toNat : Int) = x % 2 ^ n := by
   rw [e2, BitVec.toNat_and, BitVec.ofInt_natCast, BitVec.toNat_ofNat, Nat.mod_eq_of_lt (show 2 ^ n - 1 < 2 ^ 64 by omega), Nat.and_two_pow_sub_one_eq_mod, BitVec.toNat_ofInt]
   have h0 : 0 ≤ x % ((2 : Int) ^ 64) := Int.emod_nonneg _ (by decide)
   have h1 : (((x % (2 : Int) ^ 64).toNat : Nat) : Int) = x % 2 ^ 64 := Int.toNat_of_nonneg h0
   rw [Int.natCast_emod]
   show (((x % (2 : Int) ^ 64).toNat : Nat) : Int) % ((2 ^ n : Nat) : Int) = _
   rw [h1]
   push_cast
   exact Int.emod_emod_of_dvd x hd
 rw [e, IntKind.wrap_i64]
 have h1 := Int.emod_nonneg x (show (2 : Int) ^ n ≠ 0 by omega)
 have h2 := Int.emod_lt_of_pos x hq
 omega
def lw (n x : Int) : Int := x % 2 ^ n.toNat
theorem pw_pos (n : Int) : (0 : Int) < 2 ^ n.toNat := Int.pow_pos (by decide)
theorem pw_le {n : Int} {m : Nat} (h : n ≤ m) : (2 : Int) ^ n.toNat ≤ 2 ^ m := ipow_le (by omega)
theorem wF (n x : Int) : 0 ≤ lw n x ∧ lw n x < 2 ^ n.toNat := ⟨Int.emod_nonneg x (by have := pw_pos n; omega), Int.emod_lt_of_pos x (pw_pos n)⟩
theorem vF {n : Int} (h1 : n ≤ 32) : IntKind.i64.wrap (1 * 2 ^ min n.toNat 64) = 2 ^ n.toNat := by
 have h2 := pw_le (m := 32) h1
 have h3 := pw_pos n
 rw [show min n.toNat 64 = n.toNat by omega, IntKind.wrap_i64]
 omega
theorem mask_e {n : Int} (h1 : n ≤ 32) : q7 .sub .i64 (IntKind.i64.wrap (1 * 2 ^ min n.toNat 64)) 1 = 2 ^ n.toNat - 1 := by
 have h2 := pw_le (m := 32) h1
 have h3 := pw_pos n
 rw [vF h1]
 show IntKind.i64.wrap _ = _
 rw [IntKind.wrap_i64]
 omega
theorem low_e {n : Int} (x : Int) (h1 : n ≤ 32) : qB .and .i64 x (q7 .sub .i64 (IntKind.i64.wrap (1 * 2 ^ min n.toNat 64)) 1) = lw n x := by
 rw [mask_e h1]
 exact yK x n.toNat (by omega)
theorem dvd64 {n : Int} (h : n ≤ 32) : (2 : Int) ^ n.toNat ∣ 18446744073709551616 := ⟨2 ^ (64 - n.toNat), by rw [← Int.pow_add, show n.toNat + (64 - n.toNat) = 64 by omega]; rfl⟩
theorem jF {n : Int} (x : Int) (h : n ≤ 32) : lw n (IntKind.i64.wrap x) = lw n x := by
 obtain ⟨c, hc⟩ := dvd64 h
 unfold lw
 have : IntKind.i64.wrap x = x - 18446744073709551616 * ((x + 9223372036854775808) / 18446744073709551616) := by
   rw [IntKind.wrap_i64]; omega
 rw [this, hc, Int.mul_assoc, Int.sub_mul_emod_self_left]
theorem lw_small {n x : Int} (h0 : 0 ≤ x) (h1 : x < 2 ^ n.toNat) : lw n x = x := Int.emod_eq_of_lt h0 h1
theorem lw_lw (n x : Int) : lw n (lw n x) = lw n x := by unfold lw; exact Int.emod_emod_of_dvd x (Int.dvd_refl _)
theorem lw_add_r (n x y : Int) : lw n (x + lw n y) = lw n (x + y) := by unfold lw; exact Int.add_emod_emod ..
theorem lw_sub_l (n x y : Int) : lw n (lw n x - y) = lw n (x - y) := by unfold lw; exact Int.emod_sub_emod ..
theorem lw_sub_r (n x y : Int) : lw n (x - lw n y) = lw n (x - y) := by unfold lw; exact Int.sub_emod_emod ..
def sg (n a b : Int) : Int := if 2 ^ (n - 1).toNat ≤ lw n (b - a) then lw n (b - a) - 2 ^ n.toNat else lw n (b - a)
def offK (k : Int) : Int := 2 ^ (k - 3).toNat - 1
def lsbV (width r k l : Int) : Int := lw width (r - offK k + lw k (l - (r - offK k)))
def xZ (width : Int) : Bool := decide (width = 8 ∨ width = 16 ∨ width = 32)
def zQ (width v : Int) : Bool := decide (0 ≤ v ∧ v < 2 ^ width.toNat)
def xF (width r k l : Int) : Int × Int :=
 if xZ width then (if k < 3 ∨ k > width ∨ zQ width r = false ∨ zQ k l = false then (0, 3) else (lsbV width r k l, 0)) else (0, 7)
attribute [irreducible] lw
open Go.RowKit
variable {G : Nat → AV}
theorem svalid_c (n : Int) (h1 : 1 ≤ n) (h2 : n ≤ 32) : LP Tryz.prog G 131 [iAV n] [] (fun _ => (.bool true, [])) := by
 refine goW [] Tryz.func131 rfl ?_
 conv => whnf
 repeat' ((first | refine T.s ?_ | ((first | apply goB | apply AB.dec | apply AB.gen) <;> intro h <;> try (exfalso; omega)) | refine LQ.mk fun r => ?_ | exact T.z | fail) <;> conv => whnf)
 all_goals (try dsimp only)
 all_goals
   (show RL _ _ _; refine goR ?_)
   simp [qu] <;> omega
theorem yR (n x : Int) (h1 : 1 ≤ n) (h2 : n ≤ 32) : LP Tryz.prog G 108 [iAV n, iAV x] [] (fun _ => (iAV (lw n x), [])) := by
 refine goW [] Tryz.func108 rfl ?_
 conv => whnf
 repeat' ((first | (show LC _ _ _ _ _ _; first | refine LC.pure (svalid_c _ h1 h2) ?_ | refine goE ?_) | refine T.s ?_ | ((first | apply goB | apply AB.dec | apply AB.gen) <;> intro h <;> try (exfalso; omega)) | refine LQ.mk fun r => ?_ | exact T.z | fail) <;> conv => whnf)
 all_goals (try dsimp only)
 (show RL _ _ _; refine goR ?_)
 exact congrArg iAV (low_e x h2)
theorem sdist_c (n a b : Int) (h1 : 1 ≤ n) (h2 : n ≤ 32) : LP Tryz.prog G 148 [iAV n, iAV a, iAV b] [] (fun _ => (iAV (lw n (b - a)), [])) := by
 refine goW [] Tryz.func148 rfl ?_
 conv => whnf
 repeat' ((first | (show LC _ _ _ _ _ _; first | refine LC.pure (yR _ _ h1 h2) ?_ | refine goE ?_) | refine T.s ?_ | ((first | apply goB | apply AB.dec | apply AB.gen) <;> intro h <;> try (exfalso; omega)) | refine LQ.mk fun r => ?_ | exact T.z | fail) <;> conv => whnf)
 all_goals (try dsimp only)
 (show RL _ _ _; refine goR ?_)
 exact congrArg iAV (jF _ h2)
theorem shalf_c (n : Int) (h1 : 1 ≤ n) (h2 : n ≤ 32) : LP Tryz.prog G 149 [iAV n] [] (fun _ => (iAV (2 ^ (n - 1).toNat), [])) := by
 refine goW [] Tryz.func149 rfl ?_
 conv => whnf
 repeat' ((first | refine T.s ?_ | ((first | apply goB | apply AB.dec | apply AB.gen) <;> intro h <;> try (exfalso; omega)) | refine LQ.mk fun r => ?_ | exact T.z | fail) <;> conv => whnf)
 all_goals (try dsimp only)
 have e : q7 .sub .i64 n 1 = n - 1 := by (exact T.num)
 (show RL _ _ _; refine goR ?_)
 rw [e]
 exact congrArg iAV (vF (by omega))
theorem sg_e {n : Int} (h1 : 1 ≤ n) (h2 : n ≤ 32) (a b : Int) (h : 2 ^ (n - 1).toNat ≤ lw n (b - a)) : q7 .sub .i64 (lw n (b - a)) (IntKind.i64.wrap (1 * 2 ^ min n.toNat 64)) = sg n a b := by
 have h3 := wF n (b - a)
 have h4 := pw_le (m := 32) h2
 rw [vF h2]
 unfold sg
 rw [if_pos h]
 show IntKind.i64.wrap _ = _
 rw [IntKind.wrap_i64]
 omega
theorem ssigned_c (n a b : Int) (h1 : 1 ≤ n) (h2 : n ≤ 32) : LP Tryz.prog G 140 [iAV n, iAV a, iAV b] [] (fun _ => (iAV (sg n a b), [])) := by
 refine goW [] Tryz.func140 rfl ?_
 conv => whnf
 repeat' ((first | (show LC _ _ _ _ _ _; first | refine LC.pure (svalid_c _ h1 h2) ?_ | refine LC.pure (sdist_c _ _ _ h1 h2) ?_ | refine LC.pure (shalf_c _ h1 h2) ?_ | refine goE ?_) | refine T.s ?_ | ((first | apply goB | apply AB.dec | apply AB.gen) <;> intro h <;> try (exfalso; omega)) | refine LQ.mk fun r => ?_ | exact T.z | fail) <;> conv => whnf)
 all_goals (try dsimp only)
 · (show RL _ _ _; refine goR ?_)
   exact congrArg iAV (sg_e h1 h2 a b (by omega))
 · (show RL _ _ _; refine goR ?_)
   unfold sg
   rw [if_neg (by omega)]
   try rfl
theorem yV (n : Int) (h1 : 1 ≤ n) (h2 : n ≤ 32) : LP Tryz.prog G 85 [iAV n] [] (fun _ => (.bool true, [])) := by
 refine goW [] Tryz.func85 rfl ?_
 conv => whnf
 repeat' ((first | refine T.s ?_ | ((first | apply goB | apply AB.dec | apply AB.gen) <;> intro h <;> try (exfalso; omega)) | refine LQ.mk fun r => ?_ | exact T.z | fail) <;> conv => whnf)
 all_goals (try dsimp only)
 all_goals
   (show RL _ _ _; refine goR ?_)
   simp [qu] <;> omega
theorem u64n {n : Int} (h1 : 0 ≤ n) (h2 : n ≤ 32) : (IntKind.u64.wrap n).toNat = n.toNat := by rw [IntKind.wrap_u64]; omega
theorem xb (n x : Int) (h1 : 1 ≤ n) (h2 : n ≤ 32) : LP Tryz.prog G 87 [iAV n, iAV x] [] (fun _ => (iAV (lw n x), [])) := by
 refine goW [] Tryz.func87 rfl ?_
 conv => whnf
 repeat' ((first | (show LC _ _ _ _ _ _; first | refine LC.pure (yV _ h1 h2) ?_ | refine goE ?_) | refine T.s ?_ | ((first | apply goB | apply AB.dec | apply AB.gen) <;> intro h <;> try (exfalso; omega)) | refine LQ.mk fun r => ?_ | exact T.z | refine ⟨_, rfl, rfl, ?_⟩ | fail) <;> conv => whnf)
 all_goals (try dsimp only)
 (show RL _ _ _; refine goR ?_)
 rw [u64n (by omega) h2]
 exact congrArg iAV (low_e x h2)
theorem r2dist_c (n a b : Int) (h1 : 1 ≤ n) (h2 : n ≤ 32) : LP Tryz.prog G 86 [iAV n, iAV a, iAV b] [] (fun _ => (iAV (lw n (b - a)), [])) := by
 refine goW [] Tryz.func86 rfl ?_
 conv => whnf
 repeat' ((first | (show LC _ _ _ _ _ _; first | refine LC.pure (yV _ h1 h2) ?_ | refine LC.pure (xb _ _ h1 h2) ?_ | refine goE ?_) | refine T.s ?_ | ((first | apply goB | apply AB.dec | apply AB.gen) <;> intro h <;> try (exfalso; omega)) | refine LQ.mk fun r => ?_ | exact T.z | refine ⟨_, rfl, rfl, ?_⟩ | fail) <;> conv => whnf)
 all_goals (try dsimp only)
 (show RL _ _ _; refine goR ?_)
 rw [u64n (by omega) h2]
 refine congrArg iAV ((low_e _ h2).trans ?_)
 show lw n (IntKind.i64.wrap _) = _
 rw [jF _ h2, lw_sub_l, lw_sub_r]
theorem zX (n a b : Int) (h1 : 1 ≤ n) (h2 : n ≤ 32) : LP Tryz.prog G 48 [iAV n, iAV a, iAV b] [] (fun _ => (iAV (sg n a b), [])) := by
 have e : q7 .sub .i64 n 1 = n - 1 := by (exact T.num)
 have e2 : IntKind.i64.wrap (1 * 2 ^ min (IntKind.u64.wrap (n - 1)).toNat IntKind.i64.bits) = 2 ^ (n - 1).toNat := by show IntKind.i64.wrap (1 * 2 ^ min (IntKind.u64.wrap (n - 1)).toNat 64) = _; rw [u64n (by omega) (by omega)]; exact vF (by omega)
 refine goW [] Tryz.func48 rfl ?_
 conv => whnf
 repeat' ((first | (show LC _ _ _ _ _ _; first | refine LC.pure (yV _ h1 h2) ?_ | refine LC.pure (r2dist_c _ _ _ h1 h2) ?_ | refine goE ?_) | refine T.s ?_ | ((first | apply goB | apply AB.dec | apply AB.gen) <;> intro h <;> try (exfalso; omega)) | refine LQ.mk fun r => ?_ | exact T.z | refine ⟨_, rfl, rfl, ?_⟩ | fail) <;> conv => whnf)
 all_goals (try dsimp only)
 · rw [e, e2] at h
   (show RL _ _ _; refine goR ?_)
   rw [u64n (by omega) h2]
   exact congrArg iAV (sg_e h1 h2 a b (by omega))
 · rw [e, e2] at h
   (show RL _ _ _; refine goR ?_)
   unfold sg
   rw [if_neg (by omega)]
   try rfl
open Go.RowKit
variable {G : Nat → AV}
def xB (n m : Int) : Int := if m < 1 then 0 else if n.tmod m < 0 then IntKind.i64.wrap (n.tmod m + m) else n.tmod m
theorem mod_c (n m : Int) : LP Tryz.prog G 11 [iAV n, iAV m] [] (fun _ => (iAV (xB n m), [])) := by
 refine goW [] Tryz.func11 rfl ?_
 conv => whnf
 repeat' ((first | refine T.s ?_ | ((first | apply goB | apply AB.dec | apply AB.gen) <;> intro h <;> try (exfalso; omega)) | refine LQ.mk fun r => ?_ | exact T.z | fail) <;> conv => whnf)
 all_goals (try dsimp only)
 all_goals
   (show RL _ _ _; refine goR ?_)
   unfold xB
   (repeat first | rw [if_pos (by first | assumption | omega)] | rw [if_neg (by first | assumption | omega)])
   rfl
def zl (t : List Int) (a : Nat) : Pl := ⟨85, [iv t, iAV a]⟩
theorem wi (t : List Int) : LP Tryz.prog G 15 [iv t] [] (fun _ => (.bool (decide (t.length ≤ 400)), [])) := by
 refine goW [] Tryz.func15 rfl ?_
 conv => whnf
 repeat' ((first | refine T.s ?_ | ((first | apply goB | apply AB.dec | apply AB.gen) <;> intro h <;> try (exfalso; omega)) | refine LQ.mk fun r => ?_ | exact T.z | fail) <;> conv => whnf)
 all_goals (try dsimp only)
 (show RL _ _ _; refine goR ?_)
 simp [qu]
 omega
theorem roll_c (t : List Int) : LP Tryz.prog G 16 [iv t] [] (fun q => (.ptr q 0, [(q, zl t 0)])) := by
 refine goW [] Tryz.func16 rfl ?_
 conv => whnf
 repeat' ((first | refine T.s ?_ | ((first | apply goB | apply AB.dec | apply AB.gen) <;> intro h <;> try (exfalso; omega)) | refine LQ.mk fun r => ?_ | exact T.z | fail) <;> conv => whnf)
 all_goals (try dsimp only)
 refine RL.own r ?_ ?_ ?_
 · rfl
 · (repeat first | refine goH ?_ | apply LH.here | apply LH.next); trivial
 · (repeat' first | exact LB.nil | (with_reducible exact LB.refl) | (apply LB.cons; (repeat first | refine goH ?_ | apply LH.here | apply LH.next); refine And.intro ?_ ?_; (focus (try (first | (with_reducible rfl) | (refine congrArg (Pl.mk _) ?_; (first | rfl | (simp; done))) | rfl | (with_reducible refine congrArg (Pl.mk _) ?_))))))
def qg (t : List Int) (a : Nat) (n : Int) : Int := if a < t.length then xB (t.getD a 0) n else 0
def qd (t : List Int) (a : Nat) : Nat := if a < t.length then a + 1 else a
theorem yj (n m : Int) (h0 : 0 < m) (h1 : m < 4611686018427387904) : 0 ≤ xB n m ∧ xB n m < m := by
 unfold xB
 rw [if_neg (by omega)]
 have h2 : n.tmod m < m := Int.tmod_lt_of_pos n h0
 have h3 : -m < n.tmod m := by
   have := Int.lt_tmod_of_pos n h0
   omega
 split
 · rw [IntKind.wrap_i64]; omega
 · omega
theorem zA (t : List Int) (a : Nat) (m : Int) (h0 : 0 < m) (h1 : m < 4611686018427387904) : 0 ≤ qg t a m ∧ qg t a m < m := by
 unfold qg
 split
 · exact yj _ _ h0 h1
 · omega
theorem je (t : List Int) (a : Nat) (n : Int) (ht : t.length ≤ 400) (p : Nm) : LP Tryz.prog G 17 [.ptr p 0, iAV n] [(p, zl t a)] (fun _ => (iAV (qg t a n), [(p, zl t (qd t a))])) := by
 refine goW [] Tryz.func17 rfl ?_
 conv => whnf
 repeat' ((first | exact Nm.b 0 | (show LC _ _ _ _ _ _; first | refine LC.pure (mod_c _ _) ?_ | refine goE ?_) | refine T.s ?_ | ((first | apply goB | apply AB.dec | apply AB.gen) <;> intro h <;> try (exfalso; omega)) | refine LQ.mk fun r => ?_ | (show SQ _ _ _ _ _ _ _; first | (refine goD tQ qb 1 [] [0, 1, 2, 3, 4, 5, 6, 7, 8, 9] [] (by kernel_rfl) ?_) | (refine goD tQ qb 4 [] [0, 1, 2, 3, 4, 5, 6, 7, 8, 9, 10, 11, 12, 13] [] (by kernel_rfl) ?_)) | exact T.z | fail) <;> conv => whnf)
 all_goals (try dsimp only)
 · have e1 : qd t a = a := by unfold qd; (repeat first | rw [if_pos (by first | assumption | omega)] | rw [if_neg (by first | assumption | omega)])
   have e2 : qg t a n = 0 := by unfold qg; (repeat first | rw [if_pos (by first | assumption | omega)] | rw [if_neg (by first | assumption | omega)])
   rw [e1, e2]
   (show RL _ _ _; refine goR ?_)
   rfl
 · have e1 : qd t a = a + 1 := by unfold qd; (repeat first | rw [if_pos (by first | assumption | omega)] | rw [if_neg (by first | assumption | omega)])
   have e2 : qg t a n = xB (t.getD a 0) n := by unfold qg; (repeat first | rw [if_pos (by first | assumption | omega)] | rw [if_neg (by first | assumption | omega)])
   have h1 : q7 .add .i64 (a : Int) 1 = ((a + 1 : Nat) : Int) := by (exact T.num)
   have h2 : q7 .sub .i64 ((a + 1 : Nat) : Int) 1 = (a : Int) := by (exact T.num)
   rw [e1, e2, h1, h2]
   (show RL _ _ _; refine goR ?_)
   simp [iAV]
open Go.RowKit
variable {G : Nat → AV}
def jd (t : List Int) (a : Nat) (n : Int) : Bool := qu .eql (qg t a n) (q7 .sub .i64 n 1)
theorem one_c (t : List Int) (a : Nat) (n : Int) (ht : t.length ≤ 400) (p : Nm) : LP Tryz.prog G 20 [.ptr p 0, iAV n] [(p, zl t a)] (fun _ => (.bool (jd t a n), [(p, zl t (qd t a))])) := by
 refine goW [] Tryz.func20 rfl ?_
 conv => whnf
 repeat' ((first | (show LC _ _ _ _ _ _; first | (apply LC.upd (je t _ _ ht _); (repeat first | refine goH ?_ | apply LH.here | apply LH.next); refine ⟨rfl, ?_⟩) | refine goE ?_) | refine T.s ?_ | ((first | apply goB | apply AB.dec | apply AB.gen) <;> intro h <;> try (exfalso; omega)) | refine LQ.mk fun r => ?_ | exact T.z | fail) <;> conv => whnf)
 all_goals (try dsimp only)
 (show RL _ _ _; refine goR ?_)
 rfl
structure Ky where
 s : List UInt8
 g : List UInt8
 n : Int
 b : Int
 d : Int
def Ky.av (k : Ky) : AV := .agg [bv k.s, bv k.g, iAV k.n, iAV k.b, iAV k.d]
def adv (t : List Int) (a : Nat) : Nat → Nat
 | 0 => a
 | k + 1 => qd t (adv t a k)
def xX (t : List Int) (a k : Nat) : List UInt8 := (List.range k).map fun j => b8 (qg t (adv t a j) 256)
@[simp] theorem bytesL_len (t : List Int) (a k : Nat) : (xX t a k).length = k := by simp [xX]
def xE (t : List Int) (a : Nat) (most : Int) : Nat := (qg t a (q7 .add .i64 most 1)).toNat
theorem dbytes_c (t : List Int) (a : Nat) (most : Int) (h0 : 0 ≤ most) (h1 : most ≤ 1000) (ht : t.length ≤ 400) (p : Nm) : LP Tryz.prog G 40 [.ptr p 0, iAV most] [(p, zl t a)] (fun _ => (bv (xX t (qd t a) (xE t a most)), [(p, zl t (adv t (qd t a) (xE t a most)))])) := by
 have hm : q7 .add .i64 most 1 = most + 1 := by (exact T.num)
 have hb := zA t a (q7 .add .i64 most 1) (by omega) (by omega)
 have hN : qg t a (q7 .add .i64 most 1) = (xE t a most : Int) := by unfold xE; omega
 refine goW [] Tryz.func40 rfl ?_
 conv => whnf
 repeat' ((first | (show LC _ _ _ _ _ _; first | (apply LC.upd (je t _ _ ht _); (repeat first | refine goH ?_ | apply LH.here | apply LH.next); refine ⟨rfl, ?_⟩) | refine goE ?_) | refine T.s ?_ | ((first | apply goB | apply AB.dec | apply AB.gen) <;> intro h <;> try (exfalso; omega)) | refine LQ.mk fun r => ?_ | (show SQ _ _ _ (.loop _) _ _ _; first | (apply goO tQ [] 3 (S := Nat × Nm) [0] (fun (i, q) => ⟨[(5, .vw q 0 i 1), (6, .int .i64 ((xE t a most : Int) - (i : Int)))], [(p, zl t (adv t (qd t a) i)), (q, ⟨5, (xX t (qd t a) i).map bAV⟩)], i ≤ xE t a most, xE t a most - i⟩) ((0, q)) (by rfl); (focus (all_goals (try exact K8FA); done)); rintro ⟨i, q⟩ hok; (try dsimp only at hok))) | (show SQ _ _ _ _ _ _ _; first | refine SQ.adopt 5 1 5 (by rfl) fun q => ?_) | (show AtL _ _ _ _ _ _ _ _ _ _; first | (apply AtL.mk' (id := 3) (S := Nat × Nm) ((i + 1, _)); all_goals (try exact K8FA); done) | (apply AtL.mk' (id := 3) (S := Nat × Nm) ((i + 1, _)); all_goals (try exact K8FA))) | exact T.z | refine ⟨_, rfl, rfl, ?_⟩ | fail) <;> conv => whnf)
 all_goals (try dsimp only)
 have hi : xE t a most = i := by omega
 rw [hi]
 (refine RL.rowF ?_; (repeat first | refine goH ?_ | apply LH.here | apply LH.next); refine And.intro ?_ (And.intro ?_ ?_); rotate_left; rotate_left; (focus ((repeat' first | exact LB.nil | (with_reducible exact LB.refl) | (apply LB.cons; (repeat first | refine goH ?_ | apply LH.here | apply LH.next); refine And.intro ?_ ?_; (focus (try (first | (with_reducible rfl) | (refine congrArg (Pl.mk _) ?_; (first | rfl | (simp; done))) | rfl | (with_reducible refine congrArg (Pl.mk _) ?_)))))))))
 · rfl
 · simp
open Go.RowKit
variable {G : Nat → AV}
def ky (t : List Int) (a : Nat) (most : Int) : List UInt8 := b8 (qg t a 256) :: xX t (adv t a 2) (xE t (adv t a 1) (q7 .sub .i64 most 1))
def someA (t : List Int) (a : Nat) (most : Int) : Nat := adv t (adv t a 2) (xE t (adv t a 1) (q7 .sub .i64 most 1))
theorem dsome_c (t : List Int) (a : Nat) (most : Int) (h0 : 1 ≤ most) (h1 : most ≤ 1000) (ht : t.length ≤ 400) (p : Nm) : LP Tryz.prog G 42 [.ptr p 0, iAV most] [(p, zl t a)] (fun _ => (bv (ky t a most), [(p, zl t (someA t a most))])) := by
 have hm : q7 .sub .i64 most 1 = most - 1 := by (exact T.num)
 have hb := zA t (qd t a) (q7 .add .i64 (q7 .sub .i64 most 1) 1) (by (exact T.num)) (by (exact T.num))
 have hN : xE t (qd t a) (q7 .sub .i64 most 1) ≤ 1000 := by unfold xE; (exact T.num)
 refine goW [] Tryz.func42 rfl ?_
 conv => whnf
 repeat' ((first | (show LC _ _ _ _ _ _; first | (apply LC.upd (je t _ _ ht _); (repeat first | refine goH ?_ | apply LH.here | apply LH.next); refine ⟨rfl, ?_⟩) | (apply LC.upd (dbytes_c t _ _ (by (exact T.num)) (by (exact T.num)) ht _); (repeat first | refine goH ?_ | apply LH.here | apply LH.next); refine ⟨rfl, ?_⟩) | refine goE ?_) | refine T.s ?_ | ((first | apply goB | apply AB.dec | apply AB.gen) <;> intro h <;> try (exfalso; omega)) | refine LQ.mk fun r => ?_ | exact T.z | refine ⟨_, rfl, rfl, ?_⟩ | fail) <;> conv => whnf)
 all_goals (try dsimp only)
 (refine RL.rowF ?_; (repeat first | refine goH ?_ | apply LH.here | apply LH.next); refine And.intro ?_ (And.intro ?_ ?_); rotate_left; rotate_left; (focus ((repeat' first | exact LB.nil | (with_reducible exact LB.refl) | (apply LB.cons; (repeat first | refine goH ?_ | apply LH.here | apply LH.next); refine And.intro ?_ ?_; (focus (try (first | (with_reducible rfl) | (refine congrArg (Pl.mk _) ?_; (first | rfl | (simp; done))) | rfl | (with_reducible refine congrArg (Pl.mk _) ?_)))))))))
 · simp [ky, qT, adv]
 · simp [ky, adv]; omega
open Go.RowKit
variable {G : Nat → AV}
def flip8 (c : UInt8) (n : Int) : UInt8 := b8 (qB .xor .u8 c.toNat (IntKind.u8.wrap (1 * 2 ^ (min (IntKind.u64.wrap n).toNat 8))))
theorem bAV_flip (c : UInt8) (n : Int) : bAV (flip8 c n) = .int .u8 (qB .xor .u8 c.toNat (IntKind.u8.wrap (1 * 2 ^ (min (IntKind.u64.wrap n).toNat 8)))) := by
 rw [flip8, qT]
 simp [qB, IntKind.wrap_u8]
def zh (t : List Int) (a : Nat) (b : List UInt8) : List UInt8 :=
 if b.length = 0 then [b8 (qg t a 256)]
 else if qg t (adv t a 2) 4 = 0 then b.set (qg t (adv t a 1) b.length).toNat (b8 (qg t a 256))
 else if qg t (adv t a 2) 4 = 1 then b.set (qg t (adv t a 1) b.length).toNat (flip8 (b.getD (qg t (adv t a 1) b.length).toNat 0) (qg t (adv t a 3) 8))
 else if qg t (adv t a 2) 4 = 2 then b.take (qg t (adv t a 1) b.length).toNat ++ b.drop ((qg t (adv t a 1) b.length).toNat + 1)
 else b.take (qg t (adv t a 1) b.length).toNat ++ b8 (qg t a 256) :: b.drop (qg t (adv t a 1) b.length).toNat
def j9 (t : List Int) (a : Nat) (b : List UInt8) : Nat := if b.length = 0 then adv t a 1 else if qg t (adv t a 2) 4 = 1 then adv t a 4 else adv t a 3
theorem dspoil_c (t : List Int) (a : Nat) (b : List UInt8) (hl : b.length ≤ 3000) (ht : t.length ≤ 400) (p : Nm) : LP Tryz.prog G 22 [.ptr p 0, bv b] [(p, zl t a)] (fun _ => (bv (zh t a b), [(p, zl t (j9 t a b))])) := by
 have hk : 0 < b.length → 0 ≤ qg t (qd t a) b.length ∧ qg t (qd t a) b.length < b.length := fun h => zA _ _ _ (by omega) (by omega)
 refine goW [] Tryz.func22 rfl ?_
 conv => whnf
 repeat' ((first | exact Nm.b 0 | (show LC _ _ _ _ _ _; first | (apply LC.upd (je t _ _ ht _); (repeat first | refine goH ?_ | apply LH.here | apply LH.next); refine ⟨rfl, ?_⟩) | refine goE ?_) | (show AQ _ _; first | (refine AQ.set (bAV_flip _ _).symm ?_ ?_; (focus (simp; omega)))) | refine T.s ?_ | ((first | apply goB | apply AB.dec | apply AB.gen) <;> intro h <;> try (exfalso; omega)) | refine LQ.mk fun r => ?_ | (show SQ _ _ _ _ _ _ _; first | (apply goD tQ qb 11 [3, 5] [0, 1, 2, 3, 4, 5, 6, 7, 8, 9, 10] [_] (by kernel_rfl)) | (refine goD tQ qb 11 [3, 5] [0, 1, 2, 3, 4, 5, 6, 7, 8, 9, 10] [] (by kernel_rfl) ?_) | (apply goD tQ qb 13 [] [0, 1, 2, 3, 4, 5, 6, 7, 8] [_] (by kernel_rfl)) | (refine goD tQ qb 13 [] [0, 1, 2, 3, 4, 5, 6, 7, 8] [] (by kernel_rfl) ?_) | (apply goD tQ qb 7 [] [0, 1, 2, 3, 5, 6, 7, 4, 8, 9, 10] [_] (by kernel_rfl)) | (refine goD tQ qb 7 [] [0, 1, 2, 3, 5, 6, 7, 4, 8, 9, 10] [] (by kernel_rfl) ?_)) | (show (_ → _) ∧ (¬ _ → _); first | refine T.y ?_ | refine qn (fun h => ?_) (fun h => ?_)) | exact T.z | refine ⟨_, rfl, rfl, ?_⟩ | fail) <;> try (show (_ : Prop); conv => whnf))
 all_goals (try dsimp only)
 · have h' : b.length = 0 := by omega
   (refine RL.rowF ?_; (repeat first | refine goH ?_ | apply LH.here | apply LH.next); refine And.intro ?_ (And.intro ?_ ?_); rotate_left; rotate_left; (focus ((repeat' first | exact LB.nil | (with_reducible exact LB.refl) | (apply LB.cons; (repeat first | refine goH ?_ | apply LH.here | apply LH.next); refine And.intro ?_ ?_; (focus (try (first | (with_reducible rfl) | (refine congrArg (Pl.mk _) ?_; (first | rfl | (simp; done))) | rfl | (with_reducible refine congrArg (Pl.mk _) ?_)))))))))
   · simp [j9, h', adv]
   · simp [zh, h', qT]
   · simp [zh, h']
 · have h0 : ¬ b.length = 0 := by omega
   have e : zh t a b = b.set (qg t (qd t a) b.length).toNat (b8 (qg t a 256)) := by simp [zh, h0, h, adv]
   rw [e]
   (refine RL.rowF ?_; (repeat first | refine goH ?_ | apply LH.here | apply LH.next); refine And.intro ?_ (And.intro ?_ ?_); rotate_left; rotate_left; (focus ((repeat' first | exact LB.nil | (with_reducible exact LB.refl) | (apply LB.cons; (repeat first | refine goH ?_ | apply LH.here | apply LH.next); refine And.intro ?_ ?_; (focus (try (first | (with_reducible rfl) | (refine congrArg (Pl.mk _) ?_; (first | rfl | (simp; done))) | rfl | (with_reducible refine congrArg (Pl.mk _) ?_)))))))))
   · simp [j9, h0, h, adv]
   · simp
   · simp
 · have h0 : ¬ b.length = 0 := by omega
   have e : zh t a b = b.set (qg t (qd t a) b.length).toNat (flip8 (b.getD (qg t (qd t a) b.length).toNat 0) (qg t (qd t (qd t (qd t a))) 8)) := by simp [zh, h0, h, adv]
   rw [e]
   (refine RL.rowF ?_; (repeat first | refine goH ?_ | apply LH.here | apply LH.next); refine And.intro ?_ (And.intro ?_ ?_); rotate_left; rotate_left; (focus ((repeat' first | exact LB.nil | (with_reducible exact LB.refl) | (apply LB.cons; (repeat first | refine goH ?_ | apply LH.here | apply LH.next); refine And.intro ?_ ?_; (focus (try (first | (with_reducible rfl) | (refine congrArg (Pl.mk _) ?_; (first | rfl | (simp; done))) | rfl | (with_reducible refine congrArg (Pl.mk _) ?_)))))))))
   · simp [j9, h0, h, adv]
   · simp
   · simp
 · have h0 : ¬ b.length = 0 := by omega
   have hw : qg t (qd t (qd t a)) 4 = 2 := by assumption
   have hk' := hk (by omega)
   have h2 : (q7 .add .i64 (qg t (qd t a) b.length) 1).toNat = (qg t (qd t a) b.length).toNat + 1 := by (exact T.num)
   have e : zh t a b = b.take (qg t (qd t a) b.length).toNat ++ b.drop ((qg t (qd t a) b.length).toNat + 1) := by simp [zh, h0, hw, adv]
   rw [e]
   (refine RL.rowF ?_; (repeat first | refine goH ?_ | apply LH.here | apply LH.next); refine And.intro ?_ (And.intro ?_ ?_); rotate_left; rotate_left; (focus ((repeat' first | exact LB.nil | (with_reducible exact LB.refl) | (apply LB.cons; (repeat first | refine goH ?_ | apply LH.here | apply LH.next); refine And.intro ?_ ?_; (focus (try (first | (with_reducible rfl) | (refine congrArg (Pl.mk _) ?_; (first | rfl | (simp; done))) | rfl | (with_reducible refine congrArg (Pl.mk _) ?_)))))))))
   · simp [j9, h0, hw, adv]
   · simp [h2, List.take_of_length_le]
   · simp [h2]; omega
 · have h0 : ¬ b.length = 0 := by omega
   have hw : qg t (qd t (qd t a)) 4 = 2 := by assumption
   have hk' := hk (by omega)
   have hi : (qg t (qd t a) b.length).toNat + 1 = b.length := by (exact T.num)
   have e : zh t a b = b.take (qg t (qd t a) b.length).toNat ++ b.drop ((qg t (qd t a) b.length).toNat + 1) := by simp [zh, h0, hw, adv]
   rw [e, hi]
   (refine RL.rowF ?_; (repeat first | refine goH ?_ | apply LH.here | apply LH.next); refine And.intro ?_ (And.intro ?_ ?_); rotate_left; rotate_left; (focus ((repeat' first | exact LB.nil | (with_reducible exact LB.refl) | (apply LB.cons; (repeat first | refine goH ?_ | apply LH.here | apply LH.next); refine And.intro ?_ ?_; (focus (try (first | (with_reducible rfl) | (refine congrArg (Pl.mk _) ?_; (first | rfl | (simp; done))) | rfl | (with_reducible refine congrArg (Pl.mk _) ?_)))))))))
   · simp [j9, h0, hw, adv]
   · simp
   · simp; omega
 · have h0 : ¬ b.length = 0 := by omega
   have hw0 : ¬ qg t (qd t (qd t a)) 4 = 0 := by assumption
   have hw1 : ¬ qg t (qd t (qd t a)) 4 = 1 := by assumption
   have hw2 : ¬ qg t (qd t (qd t a)) 4 = 2 := by assumption
   have hk' := hk (by omega)
   have e : zh t a b = b.take (qg t (qd t a) b.length).toNat ++ b8 (qg t a 256) :: b.drop (qg t (qd t a) b.length).toNat := by simp [zh, h0, hw0, hw1, hw2, adv]
   rw [e]
   (refine RL.rowF ?_; (repeat first | refine goH ?_ | apply LH.here | apply LH.next); refine And.intro ?_ (And.intro ?_ ?_); rotate_left; rotate_left; (focus ((repeat' first | exact LB.nil | (with_reducible exact LB.refl) | (apply LB.cons; (repeat first | refine goH ?_ | apply LH.here | apply LH.next); refine And.intro ?_ ?_; (focus (try (first | (with_reducible rfl) | (refine congrArg (Pl.mk _) ?_; (first | rfl | (simp; done))) | rfl | (with_reducible refine congrArg (Pl.mk _) ?_)))))))))
   · simp [j9, h0, hw1, adv]
   · simp [qT, Nat.add_comm 1, List.take_of_length_le, List.take_append]
   · simp; omega
open Go.RowKit
variable {G : Nat → AV}
structure Hd where
 k : Int
 tos : Int
 id : Int
 fx : Int
 ttl : Int
 fr : Int
 to : Int
 fp : Int
 tp : Int
 ck : Int
 mr : Int
 ty : Int
 sq : Int
 tm : Int
 sr : Int
 deriving DecidableEq
@[reducible] def Hd.av (h : Hd) : AV := .agg [iAV h.k, iAV h.tos, iAV h.id, iAV h.fx, iAV h.ttl, iAV h.fr, iAV h.to, iAV h.fp, iAV h.tp, iAV h.ck, iAV h.mr, iAV h.ty, iAV h.sq, iAV h.tm, iAV h.sr]
def inR (n m : Int) : Bool := decide (0 ≤ n ∧ n ≤ m)
theorem inR_t {n m : Int} (h : 0 ≤ n ∧ n ≤ m) : inR n m = true := decide_eq_true h
theorem inR_f {n m : Int} (h : ¬ (0 ≤ n ∧ n ≤ m)) : inR n m = false := decide_eq_false h
def comR (h : Hd) : Bool := inR h.tos 255 && (inR h.ttl 255 && (inR h.id 65535 && (inR h.fp 65535 && (inR h.tp 65535 && (inR h.ck 65535 && (inR h.fx 1 && (inR h.fr 4294967295 && inR h.to 4294967295)))))))
def udpR (h : Hd) : Bool := decide (h.mr = 0 ∧ h.ty = 0 ∧ h.sq = 0 ∧ h.tm = 0 ∧ h.sr = 0)
def rtpR (h : Hd) : Bool := inR h.mr 1 && (inR h.ty 127 && (inR h.sq 65535 && (inR h.tm 4294967295 && inR h.sr 4294967295)))
def Hd.ok (h : Hd) : Bool := if h.k = 1 then comR h && udpR h else if h.k = 2 then comR h && rtpR h else false
theorem in5_c (n m : Int) : LP Tryz.prog G 81 [iAV n, iAV m] [] (fun _ => (.bool (inR n m), [])) := by
 refine goW [] Tryz.func81 rfl ?_
 conv => whnf
 repeat' ((first | refine T.s ?_ | ((first | apply goB | apply AB.dec | apply AB.gen) <;> intro h <;> try (exfalso; omega)) | refine LQ.mk fun r => ?_ | exact T.z | fail) <;> conv => whnf)
 all_goals (try dsimp only)
 all_goals
   (show RL _ _ _; refine goR ?_)
   simp [inR, qu, *]
theorem in8_c (n m : Int) : LP Tryz.prog G 117 [iAV n, iAV m] [] (fun _ => (.bool (inR n m), [])) := by
 refine goW [] Tryz.func117 rfl ?_
 conv => whnf
 repeat' ((first | refine T.s ?_ | ((first | apply goB | apply AB.dec | apply AB.gen) <;> intro h <;> try (exfalso; omega)) | refine LQ.mk fun r => ?_ | exact T.z | fail) <;> conv => whnf)
 all_goals (try dsimp only)
 all_goals
   (show RL _ _ _; refine goR ?_)
   simp [inR, qu, *]
def kU (g : Int) (l : List Int) : Bool := l.all fun x => inR x g
theorem allIn_take (g : Int) (l : List Int) (i : Nat) (h : i < l.length) : kU g (l.take (i + 1)) = (kU g (l.take i) && inR (l.getD i 0) g) := by
 unfold kU
 rw [List.take_succ_eq_append_getElem h, List.all_append]
 simp [List.getD_eq_getElem?_getD, h]
theorem allIn_bad (g : Int) (l : List Int) (i : Nat) (h : i < l.length) (hb : inR (l.getD i 0) g = false) : kU g l = false := by
 have h1 := allIn_take g l i h
 rw [hb, Bool.and_false] at h1
 cases hc : kU g l with
 | false => rfl
 | true =>
   unfold kU at hc h1
   have h2 : ((l.take (i + 1)).all fun x => inR x g) = true := by
     rw [List.all_eq_true] at hc ⊢
     exact fun x hx => hc x (List.mem_of_mem_take hx)
   rw [h1] at h2
   cases h2
theorem upto_c (g : Int) (l : List Int) (hl : l.length ≤ 1000) : LP Tryz.prog G 115 [iAV g, iv l] [] (fun _ => (.bool (kU g l), [])) := by
 refine goW [] Tryz.func115 rfl ?_
 conv => whnf
 repeat' ((first | (show AC _ _ _; first | (refine AC.idx (i) (0) ?_ ?_ ?_; (focus (first | exact rfl | (simp; done) | (simp; omega))); (focus (first | omega | exact T.side)))) | refine T.s ?_ | ((first | apply goB | apply AB.dec | apply AB.gen) <;> intro h <;> try (exfalso; omega)) | refine LQ.mk fun r => ?_ | (show SQ _ _ _ (.loop _) _ _ _; first | (apply goO tQ [] 2 (S := Nat) [0, 7, 8] (fun i => ⟨[(9, .int .i64 i)], [], i ≤ l.length ∧ kU g (l.take i) = true, l.length - i⟩) (0) (by rfl); (focus (all_goals (try exact KF74); done)); rintro i ⟨hk, hok⟩)) | (show AtL _ _ _ _ _ _ _ _ _ _; first | (apply AtL.mk' (id := 2) (S := Nat) (i + 1); all_goals (try exact KF74); done) | (apply AtL.mk' (id := 2) (S := Nat) (i + 1); all_goals (try exact KF74))) | exact T.z | fail) <;> conv => whnf)
 all_goals (try dsimp only)
 · (show RL _ _ _; refine goR ?_)
   rw [allIn_bad g l i (by omega) (inR_f (by omega))]
 · (show RL _ _ _; refine goR ?_)
   rw [allIn_bad g l i (by omega) (inR_f (by omega))]
 · (show RL _ _ _; refine goR ?_)
   rw [← hok, List.take_of_length_le (by omega)]
structure Dy where
 st : Int
 fo : Int
 deriving DecidableEq
@[reducible] def Dy.av (d : Dy) : AV := .agg [iAV d.st, iAV d.fo]
def Dy.ok (d : Dy) : Bool := inR d.st 65535 && decide (d.fo = 0 ∨ d.fo = 1)
theorem yq (d : Dy) : LP Tryz.prog G 80 [d.av] [] (fun _ => (.bool d.ok, [])) := by
 refine goW [] Tryz.func80 rfl ?_
 conv => whnf
 repeat' ((first | refine T.s ?_ | ((first | apply goB | apply AB.dec | apply AB.gen) <;> intro h <;> try (exfalso; omega)) | refine LQ.mk fun r => ?_ | exact T.z | fail) <;> conv => whnf)
 all_goals (try dsimp only)
 all_goals
   (show RL _ _ _; refine goR ?_)
   refine congrArg AV.bool ?_
   rw [Bool.eq_iff_iff]
   simp [Dy.ok, inR, qu, *]
theorem xS (d : Dy) : LP Tryz.prog G 38 [d.av] [] (fun _ => (.bool d.ok, [])) := by
 refine goW [] Tryz.func38 rfl ?_
 conv => whnf
 repeat' ((first | refine T.s ?_ | ((first | apply goB | apply AB.dec | apply AB.gen) <;> intro h <;> try (exfalso; omega)) | refine LQ.mk fun r => ?_ | exact T.z | fail) <;> conv => whnf)
 all_goals (try dsimp only)
 all_goals
   (show RL _ _ _; refine goR ?_)
   refine congrArg AV.bool ?_
   rw [Bool.eq_iff_iff]
   simp [Dy.ok, inR, qu, *]
def Hd.static (h : Hd) : Hd := ⟨h.k, 0, 0, 0, 0, h.fr, h.to, h.fp, h.tp, 0, 0, 0, 0, 0, h.sr⟩
theorem fstatic_c (h : Hd) : LP Tryz.prog G 147 [h.av] [] (fun _ => (h.static.av, [])) := by
 refine goW [] Tryz.func147 rfl ?_
 conv => whnf
 repeat' ((first | refine T.s ?_ | ((first | apply goB | apply AB.dec | apply AB.gen) <;> intro h <;> try (exfalso; omega)) | refine LQ.mk fun r => ?_ | exact T.z | fail) <;> conv => whnf)
 all_goals (try dsimp only)
 (show RL _ _ _; refine goR ?_)
 rfl
theorem r6static_c (h : Hd) : LP Tryz.prog G 76 [h.av] [] (fun _ => (h.static.av, [])) := by
 refine goW [] Tryz.func76 rfl ?_
 conv => whnf
 repeat' ((first | refine T.s ?_ | ((first | apply goB | apply AB.dec | apply AB.gen) <;> intro h <;> try (exfalso; omega)) | refine LQ.mk fun r => ?_ | exact T.z | fail) <;> conv => whnf)
 all_goals (try dsimp only)
 (show RL _ _ _; refine goR ?_)
 rfl
theorem zn (x : Hd) : LP Tryz.prog G 37 [x.av] [] (fun _ => (.bool x.ok, [])) := by
 refine goW [] Tryz.func37 rfl ?_
 conv => whnf
 repeat' ((first | (show LC _ _ _ _ _ _; first | refine LC.pure (in5_c _ _) ?_ | refine goE ?_) | refine T.s ?_ | ((first | apply goB | apply AB.dec | apply AB.gen) <;> intro h <;> try (exfalso; omega)) | refine LQ.mk fun r => ?_ | exact T.z | fail) <;> conv => whnf)
 all_goals (try dsimp only)
 all_goals
   (show RL _ _ _; refine goR ?_)
   refine congrArg AV.bool ?_
   rw [Bool.eq_iff_iff]
   simp [Hd.ok, comR, udpR, rtpR, inR, qu, *]
theorem j5 (x : Hd) : LP Tryz.prog G 79 [x.av] [] (fun _ => (.bool x.ok, [])) := by
 refine goW [1] Tryz.func79 rfl ?_
 conv => whnf
 repeat' ((first | (show LC _ _ _ _ _ _; refine LC.rowI (fun zs hz => upto_c _ zs (by omega)) ?_; conv => whnf) | refine T.s ?_ | ((first | apply goB | apply AB.dec | apply AB.gen) <;> intro h <;> try (exfalso; omega)) | refine LQ.mk fun r => ?_ | (show CutL _ _ _ _ _ _ _ _; first | (refine goK tQ [1] 1 (S := Nm) [] (fun p => ⟨[(3, .bool (comR x)), (1, .ptr p 0)], [(p, ⟨65, [iAV x.k, iAV x.tos, iAV x.id, iAV x.fx, iAV x.ttl, iAV x.fr, iAV x.to, iAV x.fp, iAV x.tp, iAV x.ck, iAV x.mr, iAV x.ty, iAV x.sq, iAV x.tm, iAV x.sr]⟩)], True, 0⟩) ?_ ?_; (rintro p -); rotate_left) | refine CutL.go tQ [1] ?_) | (show AtC _ _ _ _ _ _ _ _; first | (apply AtC.mk' (id := 1) (S := Nm) (_); all_goals (try exact K012); done) | (apply AtC.mk' (id := 1) (S := Nm) (_); all_goals (try exact K012))) | exact T.z | fail) <;> conv => whnf)
 all_goals (try dsimp only)
 all_goals
   (show RL _ _ _; refine goR ?_)
   refine congrArg AV.bool ?_
   rw [Bool.eq_iff_iff]
   simp_all [Hd.ok, udpR, rtpR, kU, ints, qu]
attribute [irreducible] inR
open Go.RowKit
variable {G : Nat → AV}
def Hd.z : Hd := ⟨0, 0, 0, 0, 0, 0, 0, 0, 0, 0, 0, 0, 0, 0, 0⟩
def Dy.z : Dy := ⟨0, 0⟩
def Hd.num (h : Hd) : Int := if h.k = 2 then lw 16 h.sq else lw 16 h.id
theorem fnum_c (h : Hd) : LP Tryz.prog G 126 [h.av] [] (fun _ => (iAV h.num, [])) := by
 refine goW [] Tryz.func126 rfl ?_
 conv => whnf
 repeat' ((first | (show LC _ _ _ _ _ _; first | refine LC.pure (yR 16 _ (by decide) (by decide)) ?_ | refine goE ?_) | refine T.s ?_ | ((first | apply goB | apply AB.dec | apply AB.gen) <;> intro h <;> try (exfalso; omega)) | refine LQ.mk fun r => ?_ | exact T.z | fail) <;> conv => whnf)
 all_goals (try dsimp only)
 all_goals
   (show RL _ _ _; refine goR ?_)
   unfold Hd.num
   (repeat first | rw [if_pos (by first | assumption | omega)] | rw [if_neg (by first | assumption | omega)])
   try rfl
theorem qI (h : Hd) : LP Tryz.prog G 49 [h.av] [] (fun _ => (iAV h.num, [])) := by
 refine goW [] Tryz.func49 rfl ?_
 conv => whnf
 repeat' ((first | (show LC _ _ _ _ _ _; first | refine LC.pure (xb 16 _ (by decide) (by decide)) ?_ | refine goE ?_) | refine T.s ?_ | ((first | apply goB | apply AB.dec | apply AB.gen) <;> intro h <;> try (exfalso; omega)) | refine LQ.mk fun r => ?_ | exact T.z | fail) <;> conv => whnf)
 all_goals (try dsimp only)
 all_goals
   (show RL _ _ _; refine goR ?_)
   unfold Hd.num
   (repeat first | rw [if_pos (by first | assumption | omega)] | rw [if_neg (by first | assumption | omega)])
   try rfl
def qA (a b : Hd) : Bool := decide (a.k = b.k ∧ a.fr = b.fr ∧ a.to = b.to ∧ a.fp = b.fp ∧ a.tp = b.tp ∧ a.sr = b.sr)
def stepR (h : Hd) (n : Int) : Int := sg 16 h.num n
def xg (d : Dy) (h : Hd) (n : Int) : Hd :=
 if h.ok = true ∧ d.ok = true then (if h.k = 1 then { h with mr := 0, ck := 0, id := lw 16 n }
   else { h with mr := 0, ck := 0, sq := lw 16 n, tm := lw 32 (h.tm + d.st * stepR h n), id := lw 16 (h.id + d.fo * stepR h n) })
 else Hd.z
theorem sg_low (n a b : Int) : sg n a (lw n b) = sg n a b := by
 unfold sg
 rw [lw_sub_l]
theorem lw_mul {n : Int} (t x y : Int) (h : n ≤ 32) : lw n (q7 .add .i64 t (q7 .mul .i64 x y)) = lw n (t + x * y) := by
 show lw n (IntKind.i64.wrap (t + IntKind.i64.wrap (x * y))) = _
 rw [jF _ h, ← lw_add_r, jF _ h, lw_add_r]
theorem lw_add {n : Int} (t x : Int) (h : n ≤ 32) : lw n (q7 .add .i64 t x) = lw n (t + x) := jF _ h
theorem fpred_c (d : Dy) (h : Hd) (n : Int) : LP Tryz.prog G 127 [d.av, h.av, iAV n] [] (fun _ => ((xg d h n).av, [])) := by
 by_cases h1 : h.ok = true
 · by_cases h2 : d.ok = true
   · refine goW [] Tryz.func127 rfl ?_
     conv => whnf
     repeat' ((first | (show LC _ _ _ _ _ _; refine LC.pure (j5 h) ?_; rw [h1]; conv => whnf) | (show LC _ _ _ _ _ _; refine LC.pure (yq d) ?_; rw [h2]; conv => whnf) | (show LC _ _ _ _ _ _; first | refine LC.pure (fnum_c _) ?_ | refine LC.pure (ssigned_c 16 _ _ (by decide) (by decide)) ?_ | refine LC.pure (yR 16 _ (by decide) (by decide)) ?_ | refine LC.pure (yR 32 _ (by decide) (by decide)) ?_ | refine goE ?_) | refine T.s ?_ | ((first | apply goB | apply AB.dec | apply AB.gen) <;> intro h <;> try (exfalso; omega)) | refine LQ.mk fun r => ?_ | exact T.z | fail) <;> conv => whnf)
     all_goals (try dsimp only)
     all_goals
       (show RL _ _ _; refine goR ?_)
       unfold xg
       rw [if_pos ⟨h1, h2⟩]
       (repeat first | rw [if_pos (by first | assumption | omega)] | rw [if_neg (by first | assumption | omega)])
       try rw [lw_mul _ _ _ (by decide), lw_mul _ _ _ (by decide)]
       rfl
   · have h2' : d.ok = false := by simpa using h2
     refine goW [] Tryz.func127 rfl ?_
     conv => whnf
     repeat' ((first | (show LC _ _ _ _ _ _; refine LC.pure (j5 h) ?_; rw [h1]; conv => whnf) | (show LC _ _ _ _ _ _; refine LC.pure (yq d) ?_; rw [h2']; conv => whnf) | refine T.s ?_ | ((first | apply goB | apply AB.dec | apply AB.gen) <;> intro h <;> try (exfalso; omega)) | refine LQ.mk fun r => ?_ | exact T.z | fail) <;> conv => whnf)
     all_goals (try dsimp only)
     (show RL _ _ _; refine goR ?_)
     unfold xg
     rw [if_neg (by simp [h2'])]
     rfl
 · have h1' : h.ok = false := by simpa using h1
   refine goW [] Tryz.func127 rfl ?_
   conv => whnf
   repeat' ((first | (show LC _ _ _ _ _ _; refine LC.pure (j5 h) ?_; rw [h1']; conv => whnf) | refine T.s ?_ | ((first | apply goB | apply AB.dec | apply AB.gen) <;> intro h <;> try (exfalso; omega)) | refine LQ.mk fun r => ?_ | exact T.z | fail) <;> conv => whnf)
   all_goals (try dsimp only)
   (show RL _ _ _; refine goR ?_)
   unfold xg
   rw [if_neg (by simp [h1'])]
   rfl
theorem ok_id {h : Hd} (h1 : h.ok = true) : 0 ≤ h.id ∧ h.id < 65536 := by
 unfold Hd.ok comR at h1
 have key : ∀ n m, inR n m = true → 0 ≤ n ∧ n ≤ m := fun n m hh => by
   cases hc : decide (0 ≤ n ∧ n ≤ m) with
   | true => simpa using hc
   | false => exact absurd hh (by rw [inR_f (by simpa using hc)]; decide)
 split at h1
 · simp only [Bool.and_eq_true] at h1
   have := key _ _ h1.1.2.2.1
   omega
 · split at h1
   · simp only [Bool.and_eq_true] at h1
     have := key _ _ h1.1.2.2.1
     omega
   · cases h1
theorem ok_fo {d : Dy} (h : d.ok = true) : d.fo = 0 ∨ d.fo = 1 := by
 unfold Dy.ok at h
 simp only [Bool.and_eq_true, decide_eq_true_eq] at h
 exact h.2
theorem ok_k {h : Hd} (h1 : h.ok = true) : h.k = 1 ∨ h.k = 2 := by
 unfold Hd.ok at h1
 split at h1
 · exact .inl ‹_›
 · split at h1
   · exact .inr ‹_›
   · cases h1
theorem zW (d : Dy) (h : Hd) (n : Int) : LP Tryz.prog G 89 [d.av, h.av, iAV n] [] (fun _ => ((xg d h n).av, [])) := by
 by_cases h1 : h.ok = true
 · by_cases h2 : d.ok = true
   · have hk := ok_k h1
     have hid := ok_id h1
     have hfo := ok_fo h2
     refine goW [] Tryz.func89 rfl ?_
     conv => whnf
     repeat' ((first | (show LC _ _ _ _ _ _; refine LC.pure (zn h) ?_; rw [h1]; conv => whnf) | (show LC _ _ _ _ _ _; refine LC.pure (xS d) ?_; rw [h2]; conv => whnf) | (show LC _ _ _ _ _ _; first | refine LC.pure (qI _) ?_ | refine LC.pure (zX 16 _ _ (by decide) (by decide)) ?_ | refine LC.pure (xb 16 _ (by decide) (by decide)) ?_ | refine LC.pure (xb 32 _ (by decide) (by decide)) ?_ | refine goE ?_) | refine T.s ?_ | ((first | apply goB | apply AB.dec | apply AB.gen) <;> intro h <;> try (exfalso; omega)) | refine LQ.mk fun r => ?_ | exact T.z | fail) <;> conv => whnf)
     all_goals (try dsimp only)
     all_goals
       (show RL _ _ _; refine goR ?_)
       unfold xg
       rw [if_pos ⟨h1, h2⟩]
       (repeat first | rw [if_pos (by first | assumption | omega)] | rw [if_neg (by first | assumption | omega)])
       try rw [lw_mul _ _ _ (by decide)]
       try rw [sg_low]
       first
         | rfl
         | (rw [show d.fo = 1 by omega, Int.one_mul, lw_add _ _ (by decide)]; rfl)
         | (rw [show d.fo = 0 by omega, Int.zero_mul, Int.add_zero, lw_small (n := 16) hid.1 hid.2]; rfl)
   · have h2' : d.ok = false := by simpa using h2
     refine goW [] Tryz.func89 rfl ?_
     conv => whnf
     repeat' ((first | (show LC _ _ _ _ _ _; refine LC.pure (zn h) ?_; rw [h1]; conv => whnf) | (show LC _ _ _ _ _ _; refine LC.pure (xS d) ?_; rw [h2']; conv => whnf) | refine T.s ?_ | ((first | apply goB | apply AB.dec | apply AB.gen) <;> intro h <;> try (exfalso; omega)) | refine LQ.mk fun r => ?_ | exact T.z | fail) <;> conv => whnf)
     all_goals (try dsimp only)
     (show RL _ _ _; refine goR ?_)
     unfold xg
     rw [if_neg (by simp [h2'])]
     rfl
 · have h1' : h.ok = false := by simpa using h1
   refine goW [] Tryz.func89 rfl ?_
   conv => whnf
   repeat' ((first | (show LC _ _ _ _ _ _; refine LC.pure (zn h) ?_; rw [h1']; conv => whnf) | refine T.s ?_ | ((first | apply goB | apply AB.dec | apply AB.gen) <;> intro h <;> try (exfalso; omega)) | refine LQ.mk fun r => ?_ | exact T.z | fail) <;> conv => whnf)
   all_goals (try dsimp only)
   (show RL _ _ _; refine goR ?_)
   unfold xg
   rw [if_neg (by simp [h1'])]
   rfl
end Go.Proofs.YtkfpgdckdmlhkaaGreatDoor
