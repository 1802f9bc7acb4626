/-
  Contracts of the functions that the laws reach.
-/
import Derived.Test.YtkfpgdckdmlhkaaGreatDoorDq01
import Derived.Test.YtkfpgdckdmlhkaaGreatDoorDq02
import Derived.Test.YtkfpgdckdmlhkaaGreatDoorDq03
import Derived.Test.YtkfpgdckdmlhkaaGreatDoorDq04
import Derived.Test.YtkfpgdckdmlhkaaGreatDoorDq05
set_option maxHeartbeats 4000000
set_option linter.all false
namespace Go.Proofs.YtkfpgdckdmlhkaaGreatDoor
open Go.RowKit
variable {G : Nat → AV}
theorem lknown_c (n : Int) : LP Tryz.prog G 141 [iAV n] [] (fun _ => (.bool (xZ n), [])) := by
 refine goW [] Tryz.func141 rfl ?_
 conv => whnf
 repeat' ((first | refine T.s ?_ | ((first | apply goB | apply AB.dec | apply AB.gen) <;> intro h <;> try (exfalso; omega)) | refine LQ.mk fun r => ?_ | exact T.z | fail) <;> conv => whnf)
 all_goals (try dsimp only)
 all_goals
   (show RL _ _ _; refine goR ?_)
   refine congrArg AV.bool ?_
   rw [Bool.eq_iff_iff]
   simp [xZ, qu, *]
theorem wZ (n : Int) : LP Tryz.prog G 116 [iAV n] [] (fun _ => (.bool (xZ n), [])) := by
 refine goW [] Tryz.func116 rfl ?_
 conv => whnf
 repeat' ((first | refine T.s ?_ | ((first | apply goB | apply AB.dec | apply AB.gen) <;> intro h <;> try (exfalso; omega)) | refine LQ.mk fun r => ?_ | exact T.z | fail) <;> conv => whnf)
 all_goals (try dsimp only)
 all_goals
   (show RL _ _ _; refine goR ?_)
   refine congrArg AV.bool ?_
   rw [Bool.eq_iff_iff]
   simp [xZ, qu, *]
theorem lvalue_c (n v : Int) (h1 : 0 ≤ n) (h2 : n ≤ 32) : LP Tryz.prog G 142 [iAV n, iAV v] [] (fun _ => (.bool (zQ n v), [])) := by
 have e : IntKind.i64.wrap (2 ^ min n.toNat IntKind.i64.bits) = 2 ^ n.toNat := by have := vF h2; rwa [Int.one_mul] at this
 refine goW [] Tryz.func142 rfl ?_
 conv => whnf
 repeat' ((first | refine T.s ?_ | ((first | apply goB | apply AB.dec | apply AB.gen) <;> intro h <;> try (exfalso; omega)) | refine LQ.mk fun r => ?_ | exact T.z | fail) <;> conv => whnf)
 all_goals (try dsimp only)
 all_goals
   (show RL _ _ _; refine goR ?_)
   simp [zQ, qu, *]
theorem off_e {k : Int} (h1 : 3 ≤ k) (h2 : k ≤ 32) : q7 .sub .i64 (IntKind.i64.wrap (1 * 2 ^ min (q7 .sub .i64 k 3).toNat 64)) 1 = offK k := by
 have e : q7 .sub .i64 k 3 = k - 3 := by (exact T.num)
 rw [e]
 exact mask_e (by omega)
theorem loffset_c (k : Int) (h1 : 3 ≤ k) (h2 : k ≤ 32) : LP Tryz.prog G 150 [iAV k] [] (fun _ => (iAV (offK k), [])) := by
 refine goW [] Tryz.func150 rfl ?_
 conv => whnf
 repeat' ((first | refine T.s ?_ | ((first | apply goB | apply AB.dec | apply AB.gen) <;> intro h <;> try (exfalso; omega)) | refine LQ.mk fun r => ?_ | exact T.z | fail) <;> conv => whnf)
 all_goals (try dsimp only)
 (show RL _ _ _; refine goR ?_)
 exact congrArg iAV (off_e h1 h2)
theorem r7offset_c (k : Int) (h1 : 3 ≤ k) (h2 : k ≤ 32) : LP Tryz.prog G 119 [iAV k] [] (fun _ => (iAV (offK k), [])) := by
 have e : q7 .sub .i64 k 3 = k - 3 := by (exact T.num)
 refine goW [] Tryz.func119 rfl ?_
 conv => whnf
 repeat' ((first | refine T.s ?_ | ((first | apply goB | apply AB.dec | apply AB.gen) <;> intro h <;> try (exfalso; omega)) | refine LQ.mk fun r => ?_ | exact T.z | refine ⟨_, rfl, rfl, ?_⟩ | fail) <;> conv => whnf)
 all_goals (try dsimp only)
 (show RL _ _ _; refine goR ?_)
 rw [e, u64n (by omega) (by omega)]
 exact congrArg iAV (mask_e (by omega))
theorem offK_rng {k : Int} (h2 : k ≤ 32) : 0 ≤ offK k ∧ offK k < 4294967296 := by
 have h3 := pw_pos (k - 3)
 have h4 := pw_le (n := k - 3) (m := 32) (by omega)
 unfold offK
 omega
theorem first_e {r k : Int} (h2 : k ≤ 32) (hr : 0 ≤ r) (hr2 : r < 4294967296) : q7 .sub .i64 r (offK k) = r - offK k := by
 have := offK_rng h2
 (exact T.num)
theorem val_rng {n v : Int} (h : zQ n v = true) (hn : n ≤ 32) : 0 ≤ v ∧ v < 4294967296 := by
 have h4 := pw_le (m := 32) hn
 simp [zQ] at h
 omega
theorem ldec_c (n r k l : Int) (h1 : 3 ≤ k) (h2 : k ≤ n) (h3 : n ≤ 32) (hr : zQ n r = true) : LP Tryz.prog G 143 [iAV n, iAV r, iAV k, iAV l] [] (fun _ => (iAV (lsbV n r k l), [])) := by
 have hv := val_rng hr h3
 have e := first_e (k := k) (by omega) hv.1 hv.2
 refine goW [] Tryz.func143 rfl ?_
 conv => whnf
 repeat' ((first | (show LC _ _ _ _ _ _; first | refine LC.pure (loffset_c _ h1 (by omega)) ?_ | refine LC.pure (sdist_c _ _ _ (by omega) (by omega)) ?_ | refine LC.pure (yR _ _ (by omega) h3) ?_ | refine goE ?_) | refine T.s ?_ | ((first | apply goB | apply AB.dec | apply AB.gen) <;> intro h <;> try (exfalso; omega)) | refine LQ.mk fun r => ?_ | exact T.z | fail) <;> conv => whnf)
 all_goals (try dsimp only)
 (show RL _ _ _; refine goR ?_)
 rw [e]
 exact congrArg iAV (jF _ h3)
theorem lsbR_k {n : Int} (r k l : Int) (h : ¬ xZ n = true) : xF n r k l = (0, 7) := by unfold xF; rw [if_neg h]
theorem lsbR_b {n r k l : Int} (h : xZ n = true) (h2 : k < 3 ∨ k > n ∨ zQ n r = false ∨ zQ k l = false) : xF n r k l = (0, 3) := by unfold xF; rw [if_pos h, if_pos h2]
theorem lsbR_g {n r k l : Int} (h : xZ n = true) (h1 : 3 ≤ k) (h2 : k ≤ n) (h3 : zQ n r = true) (h4 : zQ k l = true) : xF n r k l = (lsbV n r k l, 0) := by
 unfold xF; rw [if_pos h, if_neg (by rw [h3, h4]; simp; omega)]
theorem vK {n : Int} (h : xZ n = true) : 8 ≤ n ∧ n ≤ 32 := by simp [xZ] at h; omega
theorem ldecode_c (n r k l : Int) : LP Tryz.prog G 128 [iAV n, iAV r, iAV k, iAV l] [] (fun _ => (.tup [iAV (xF n r k l).1, iAV (xF n r k l).2], [])) := by
 by_cases hw : xZ n = true
 · have hn := vK hw
   by_cases hb : k < 3 ∨ k > n ∨ zQ n r = false ∨ zQ k l = false
   · rw [lsbR_b hw hb]
     refine goW [] Tryz.func128 rfl ?_
     conv => whnf
     repeat' ((first | (show LC _ _ _ _ _ _; refine LC.eq (by rfl) (LC.pure (lknown_c n) ?_); rw [hw]; conv => whnf) | (show LC _ _ _ _ _ _; first | refine LC.pure (lvalue_c _ _ (by omega) (by omega)) ?_ | refine goE ?_) | refine T.s ?_ | ((first | apply goB | apply AB.dec | apply AB.gen) <;> intro h <;> try (exfalso; omega)) | refine LQ.mk fun r => ?_ | exact T.z | fail) <;> conv => whnf)
     all_goals (try dsimp only)
     all_goals first | ((show RL _ _ _; refine goR ?_); rfl) | (exfalso; simp_all [zQ]; done) | (exfalso; simp_all [zQ]; omega)
   · have h3 : zQ n r = true := by cases h : zQ n r <;> simp_all
     have h4 : zQ k l = true := by cases h : zQ k l <;> simp_all
     rw [lsbR_g hw (by omega) (by omega) h3 h4]
     refine goW [] Tryz.func128 rfl ?_
     conv => whnf
     repeat' ((first | (show LC _ _ _ _ _ _; refine LC.eq (by rfl) (LC.pure (lknown_c n) ?_); rw [hw]; conv => whnf) | (show LC _ _ _ _ _ _; refine LC.eq (by rfl) (LC.pure (lvalue_c n r (by omega) (by omega)) ?_); rw [h3]; conv => whnf) | (show LC _ _ _ _ _ _; refine LC.eq (by rfl) (LC.pure (lvalue_c k l (by omega) (by omega)) ?_); rw [h4]; conv => whnf) | (show LC _ _ _ _ _ _; first | refine LC.pure (ldec_c _ _ _ _ (by omega) (by omega) (by omega) h3) ?_ | refine goE ?_) | refine T.s ?_ | ((first | apply goB | apply AB.dec | apply AB.gen) <;> intro h <;> try (exfalso; omega)) | refine LQ.mk fun r => ?_ | exact T.z | fail) <;> conv => whnf)
     all_goals (try dsimp only)
     all_goals first | ((show RL _ _ _; refine goR ?_); rfl)
 · rw [lsbR_k r k l hw]
   have hw' : xZ n = false := by simpa using hw
   refine goW [] Tryz.func128 rfl ?_
   conv => whnf
   repeat' ((first | (show LC _ _ _ _ _ _; refine LC.eq (by rfl) (LC.pure (lknown_c n) ?_); rw [hw']; conv => whnf) | refine T.s ?_ | ((first | apply goB | apply AB.dec | apply AB.gen) <;> intro h <;> try (exfalso; omega)) | refine LQ.mk fun r => ?_ | exact T.z | fail) <;> conv => whnf)
   all_goals (try dsimp only)
   (show RL _ _ _; refine goR ?_)
   rfl
theorem xx (n r k l : Int) : LP Tryz.prog G 95 [iAV n, iAV r, iAV k, iAV l] [] (fun _ => (.tup [iAV (xF n r k l).1, iAV (xF n r k l).2], [])) := by
 by_cases hw : xZ n = true
 · have hn := vK hw
   have e1 : IntKind.i64.wrap (1 * 2 ^ min (IntKind.u64.wrap n).toNat IntKind.i64.bits) = 2 ^ n.toNat := by show IntKind.i64.wrap (1 * 2 ^ min (IntKind.u64.wrap n).toNat 64) = _; rw [u64n (by omega) (by omega)]; exact vF (by omega)
   by_cases hb : k < 3 ∨ k > n ∨ zQ n r = false ∨ zQ k l = false
   · rw [lsbR_b hw hb]
     refine goW [] Tryz.func95 rfl ?_
     conv => whnf
     repeat' ((first | (show LC _ _ _ _ _ _; refine LC.eq (by rfl) (LC.pure (wZ n) ?_); rw [hw]; conv => whnf) | refine T.s ?_ | ((first | apply goB | apply AB.dec | apply AB.gen) <;> intro h <;> try (exfalso; omega)) | refine LQ.mk fun r => ?_ | exact T.z | refine ⟨_, rfl, rfl, ?_⟩ | fail) <;> conv => whnf)
     all_goals (try dsimp only)
     all_goals first | ((show RL _ _ _; refine goR ?_); rfl) | skip
     all_goals
       exfalso
       have e2 : IntKind.i64.wrap (1 * 2 ^ min (IntKind.u64.wrap k).toNat IntKind.i64.bits) = 2 ^ k.toNat := by show IntKind.i64.wrap (1 * 2 ^ min (IntKind.u64.wrap k).toNat 64) = _; rw [u64n (by omega) (by omega)]; exact vF (by omega)
       rename_i q1 q2 q3 q4
       simp [zQ] at hb
       omega
   · have h3 : zQ n r = true := by cases h : zQ n r <;> simp_all
     have h4 : zQ k l = true := by cases h : zQ k l <;> simp_all
     rw [lsbR_g hw (by omega) (by omega) h3 h4]
     have hv := val_rng h3 (by omega)
     have e := first_e (k := k) (by omega) hv.1 hv.2
     have e2 : IntKind.i64.wrap (1 * 2 ^ min (IntKind.u64.wrap k).toNat IntKind.i64.bits) = 2 ^ k.toNat := by show IntKind.i64.wrap (1 * 2 ^ min (IntKind.u64.wrap k).toNat 64) = _; rw [u64n (by omega) (by omega)]; exact vF (by omega)
     simp only [zQ, decide_eq_true_eq] at h3 h4
     refine goW [] Tryz.func95 rfl ?_
     conv => whnf
     repeat' ((first | (show LC _ _ _ _ _ _; refine LC.eq (by rfl) (LC.pure (wZ n) ?_); rw [hw]; conv => whnf) | (show LC _ _ _ _ _ _; first | refine LC.pure (r7offset_c _ (by omega) (by omega)) ?_ | refine LC.pure (r2dist_c _ _ _ (by omega) (by omega)) ?_ | refine LC.pure (xb _ _ (by omega) (by omega)) ?_ | refine goE ?_) | refine T.s ?_ | ((first | apply goB | apply AB.dec | apply AB.gen) <;> intro h <;> try (exfalso; omega)) | refine LQ.mk fun r => ?_ | exact T.z | refine ⟨_, rfl, rfl, ?_⟩ | fail) <;> conv => whnf)
     all_goals (try dsimp only)
     all_goals try rw [e1] at *
     all_goals try rw [e2] at *
     all_goals first | (exfalso; omega) | skip
     (show RL _ _ _; refine goR ?_)
     rw [e]
     refine congrArg (fun z => AV.tup [iAV z, iAV 0]) (jF _ (by omega))
 · rw [lsbR_k r k l hw]
   have hw' : xZ n = false := by simpa using hw
   refine goW [] Tryz.func95 rfl ?_
   conv => whnf
   repeat' ((first | (show LC _ _ _ _ _ _; refine LC.eq (by rfl) (LC.pure (wZ n) ?_); rw [hw']; conv => whnf) | refine T.s ?_ | ((first | apply goB | apply AB.dec | apply AB.gen) <;> intro h <;> try (exfalso; omega)) | refine LQ.mk fun r => ?_ | exact T.z | refine ⟨_, rfl, rfl, ?_⟩ | fail) <;> conv => whnf)
   all_goals (try dsimp only)
   (show RL _ _ _; refine goR ?_)
   rfl
open Go.RowKit
variable {G : Nat → AV}
def Ky.ok (k : Ky) : Bool := decide (k.s.length = 32 ∧ k.g.length = 16 ∧ 0 ≤ k.n ∧ k.n ≤ 4294967295 ∧ 0 ≤ k.b ∧ k.b ≤ 255 ∧ (k.d = 0 ∨ k.d = 1))
attribute [irreducible] Ky.ok
open Go.RowKit
variable {G : Nat → AV}
theorem xw (a b : List UInt8) : LP Tryz.prog G 26 [bv a, bv b] [] (fun _ => (.bool (decide (a = b)), [])) := by
 refine goW [] Tryz.func26 rfl ?_
 conv => whnf
 repeat' ((first | refine T.s ?_ | ((first | apply goB | apply AB.dec | apply AB.gen) <;> intro h <;> try (exfalso; omega)) | refine LQ.mk fun r => ?_ | exact T.z | refine ⟨_, rfl, rfl, ?_⟩ | fail) <;> conv => whnf)
 all_goals (try dsimp only)
 (show RL _ _ _; refine goR ?_)
 refine congrArg AV.bool ?_
 rw [ByteArray.toList_eq, ByteArray.toList_eq, Bool.eq_iff_iff]
 simp
def qG (n : Int) : Nat → List UInt8
 | 0 => []
 | k + 1 => b8 (n.fdiv (2 ^ min (8 * k) 64)) :: qG n k
open Go.RowKit
variable {G : Nat → AV}
theorem put4_c (l : List UInt8) (n : Int) (hl : l.length ≤ 1000) (p : Nm) : LP Tryz.prog G 92 [.vw p 0 l.length 1, iAV 4, iAV n] [(p, ⟨5, l.map bAV⟩)] (fun q => (.vw q 0 (l.length + 4) 1, [(q, ⟨5, (l ++ qG n 4).map bAV⟩)])) := by
 refine goW [] Tryz.func92 rfl ?_
 conv => whnf
 repeat' ((first | refine T.s ?_ | ((first | apply goB | apply AB.dec | apply AB.gen) <;> intro h <;> try (exfalso; omega)) | refine LQ.mk fun r => ?_ | (show SQ _ _ _ _ _ _ _; first | refine SQ.times 2 5 (by rfl) ?_ | refine AtL.step tQ [] ?_) | exact T.z | refine ⟨_, rfl, rfl, ?_⟩ | fail) <;> conv => whnf)
 all_goals (try dsimp only)
 refine RL.own r rfl ?_ ?_
 · (repeat first | refine goH ?_ | apply LH.here | apply LH.next); trivial
 · apply LB.cons
   (repeat first | refine goH ?_ | apply LH.here | apply LH.next)
   refine And.intro (congrArg (Pl.mk _) ?_) LB.nil
   simp only [qG, List.map_append, List.map_cons, List.map_nil, qT, List.append_assoc, List.cons_append, List.nil_append]
   rfl
open Go.RowKit
def crcB (k p r b : Nat) : Nat := if r / 2 ^ (k - 1) = b then (2 * r) % 2 ^ k else ((2 * r) % 2 ^ k) ^^^ p
def jh (k p r c : Nat) : Nat → Nat
 | 0 => r
 | j + 1 => crcB k p (jh k p r c j) (c / 2 ^ (7 - j) % 2)
def jy (k p : Nat) (r : Nat) : List UInt8 → Nat
 | [] => r
 | c :: l => jy k p (jh k p r c.toNat 8) l
theorem crcL_app (k p : Nat) : ∀ (l m : List UInt8) (r : Nat), jy k p r (l ++ m) = jy k p (jy k p r l) m
 | [], _, _ => rfl
 | c :: l, m, r => crcL_app k p l m _
theorem crcL_take (k p r : Nat) (l : List UInt8) (i : Nat) (h : i < l.length) : jy k p r (l.take (i + 1)) = jh k p (jy k p r (l.take i)) (l.getD i 0).toNat 8 := by
 rw [List.take_succ_eq_append_getElem h, crcL_app]
 simp [jy, List.getD_eq_getElem?_getD, h]
theorem crcB_lt {k p r b : Nat} (hp : p < 2 ^ k) : crcB k p r b < 2 ^ k := by
 have h : (2 * r) % 2 ^ k < 2 ^ k := Nat.mod_lt _ (Nat.pow_pos (by decide))
 unfold crcB
 split
 · exact h
 · exact Nat.xor_lt_two_pow h hp
theorem yC {k p r c : Nat} (hp : p < 2 ^ k) (hr : r < 2 ^ k) : ∀ j, jh k p r c j < 2 ^ k
 | 0 => hr
 | _ + 1 => crcB_lt hp
theorem wt {k p : Nat} (hp : p < 2 ^ k) : ∀ (l : List UInt8) {r : Nat}, r < 2 ^ k → jy k p r l < 2 ^ k
 | [], _, h => h
 | _ :: l, _, h => wt hp l (yC hp h 8)
theorem crcN_zero (k p r c : Nat) : jh k p r c 0 = r := rfl
theorem wq (k p r c j : Nat) : jh k p r c (j + 1) = crcB k p (jh k p r c j) (c / 2 ^ (7 - j) % 2) := rfl
theorem crcL_nil (k p r : Nat) : jy k p r [] = r := rfl
attribute [irreducible] crcB jh jy
def xO (n : Int) : Int := if n = 3 then 3 else if n = 7 then 9 else if n = 8 then 7 else if n = 16 then 4129 else if n = 24 then 8801531 else 0
def vk (n : Int) (l : List UInt8) : Int := (jy n.toNat (xO n).toNat (2 ^ n.toNat - 1) l : Nat)
theorem crcS_eq (n : Int) (l : List UInt8) : (jy n.toNat (xO n).toNat (2 ^ n.toNat - 1) l : Int) = vk n l := rfl
attribute [irreducible] vk
theorem ixor_nat (a b : Nat) (ha : a < 4294967296) (hb : b < 4294967296) : qB .xor .i64 (a : Int) (b : Int) = ((a ^^^ b : Nat) : Int) := by
 show IntKind.i64.wrap ((BitVec.ofInt 64 (a : Int) ^^^ BitVec.ofInt 64 (b : Int)).toNat : Int) = _
 have h : a ^^^ b < 2 ^ 32 := Nat.xor_lt_two_pow ha hb
 rw [BitVec.toNat_xor, BitVec.ofInt_natCast, BitVec.ofInt_natCast, BitVec.toNat_ofNat, BitVec.toNat_ofNat, Nat.mod_eq_of_lt (show a < 2 ^ 64 by omega), Nat.mod_eq_of_lt (show b < 2 ^ 64 by omega), IntKind.wrap_i64]
 omega
section
variable {n : Int} {R c j : Nat}
theorem top_e (hn : 1 ≤ n ∧ n ≤ 32) : (R : Int).fdiv (2 ^ min (q7 .sub .i64 n 1).toNat IntKind.i64.bits) = ((R / 2 ^ (n.toNat - 1) : Nat) : Int) := by
 have e : q7 .sub .i64 n 1 = n - 1 := by (exact T.num)
 rw [e, Int.fdiv_eq_ediv_of_nonneg _ (Int.le_of_lt (Int.pow_pos (by decide))), show min (n - 1).toNat IntKind.i64.bits = n.toNat - 1 by show min _ 64 = _; omega]
 simp
theorem shc_e (hc : c < 256) (hj : j < 8) : qB .and .i64 ((IntKind.i64.wrap (c : Int)).fdiv (2 ^ min (7 - (j : Int)).toNat IntKind.i64.bits)) 1 = ((c / 2 ^ (7 - j) % 2 : Nat) : Int) := by
 rw [show IntKind.i64.wrap (c : Int) = c by rw [IntKind.wrap_i64]; omega, Int.fdiv_eq_ediv_of_nonneg _ (Int.le_of_lt (Int.pow_pos (by decide))), show min (7 - (j : Int)).toNat IntKind.i64.bits = 7 - j by show min _ 64 = _; omega]
 refine (yK _ 1 (by decide)).trans ?_
 simp
theorem xor_ne {a b : Nat} (ha : a < 2) (hb : b < 2) : a ^^^ b = 1 ↔ a ≠ b := by
 obtain rfl | rfl : a = 0 ∨ a = 1 := by omega
 · obtain rfl | rfl : b = 0 ∨ b = 1 := by omega
   · decide
   · decide
 · obtain rfl | rfl : b = 0 ∨ b = 1 := by omega
   · decide
   · decide
theorem shl_e (hn : 1 ≤ n ∧ n ≤ 24) (hR : R < 2 ^ n.toNat) : qB .and .i64 (IntKind.i64.wrap ((R : Int) * 2 ^ min (1 : Int).toNat IntKind.i64.bits)) (q7 .sub .i64 (IntKind.i64.wrap (1 * 2 ^ min n.toNat IntKind.i64.bits)) 1) = ((2 * R % 2 ^ n.toNat : Nat) : Int) := by
 have h := Nat.pow_le_pow_right (n := 2) (by decide) (show n.toNat ≤ 24 by omega)
 refine (low_e _ (by omega)).trans ?_
 rw [jF _ (by omega)]
 unfold lw
 rw [show (R : Int) * 2 ^ min (1 : Int).toNat IntKind.i64.bits = ((2 * R : Nat) : Int) by show (R : Int) * 2 ^ 1 = _; push_cast; omega]
 simp
theorem topx {p r : Nat} (hn : 1 ≤ n ∧ n ≤ 24) (hR : R < 2 ^ n.toNat) (hc : c < 256) (hj : j < 8) : qB .xor .i64 ((R : Int).fdiv (2 ^ min (q7 .sub .i64 n 1).toNat IntKind.i64.bits)) (qB .and .i64 ((IntKind.i64.wrap (c : Int)).fdiv (2 ^ min (7 - (j : Int)).toNat IntKind.i64.bits)) 1) = 1 ↔ R / 2 ^ (n.toNat - 1) ≠ c / 2 ^ (7 - j) % 2 := by
 have h1 : R / 2 ^ (n.toNat - 1) < 2 := by
   rw [Nat.div_lt_iff_lt_mul (Nat.pow_pos (by decide)), Nat.mul_comm, ← Nat.pow_succ, show (n.toNat - 1).succ = n.toNat by omega]
   exact hR
 have h2 : c / 2 ^ (7 - j) % 2 < 2 := Nat.mod_lt _ (by decide)
 rw [top_e (by omega), shc_e hc hj, ixor_nat _ _ (by omega) (by omega), ← xor_ne h1 h2]
 exact ⟨fun h => by exact_mod_cast h, fun h => by exact_mod_cast h⟩
theorem crc_t {p r : Nat} (hn : 1 ≤ n ∧ n ≤ 24) (hp : p < 2 ^ n.toNat) (hr : r < 2 ^ n.toNat) (hc : c < 256) (hj0 : (0 : Int) ≤ 7 - (j : Int))
   (h : qB .xor .i64 ((jh n.toNat p r c j : Int).fdiv (2 ^ min (q7 .sub .i64 n 1).toNat IntKind.i64.bits)) (qB .and .i64 ((IntKind.i64.wrap (c : Int)).fdiv (2 ^ min (7 - (j : Int)).toNat IntKind.i64.bits)) 1) = 1) :
   qB .xor .i64 (qB .and .i64 (IntKind.i64.wrap ((jh n.toNat p r c j : Int) * 2 ^ min (1 : Int).toNat IntKind.i64.bits)) (q7 .sub .i64 (IntKind.i64.wrap (1 * 2 ^ min n.toNat IntKind.i64.bits)) 1)) (p : Int) = ((jh n.toNat p r c (j + 1) : Nat) : Int) := by
 have hj : j < 8 := by omega
 have hR := yC (c := c) hp hr j
 have h24 := Nat.pow_le_pow_right (n := 2) (by decide) (show n.toNat ≤ 24 by omega)
 rw [topx (p := p) (r := r) hn hR hc hj] at h
 have h3 : 2 * jh n.toNat p r c j % 2 ^ n.toNat < 2 ^ n.toNat := Nat.mod_lt _ (Nat.pow_pos (by decide))
 rw [shl_e hn hR, ixor_nat _ _ (by omega) (by omega), wq]
 unfold crcB
 rw [if_neg h]
theorem crc_f {p r : Nat} (hn : 1 ≤ n ∧ n ≤ 24) (hp : p < 2 ^ n.toNat) (hr : r < 2 ^ n.toNat) (hc : c < 256) (hj0 : (0 : Int) ≤ 7 - (j : Int))
   (h : ¬ qB .xor .i64 ((jh n.toNat p r c j : Int).fdiv (2 ^ min (q7 .sub .i64 n 1).toNat IntKind.i64.bits)) (qB .and .i64 ((IntKind.i64.wrap (c : Int)).fdiv (2 ^ min (7 - (j : Int)).toNat IntKind.i64.bits)) 1) = 1) :
   qB .and .i64 (IntKind.i64.wrap ((jh n.toNat p r c j : Int) * 2 ^ min (1 : Int).toNat IntKind.i64.bits)) (q7 .sub .i64 (IntKind.i64.wrap (1 * 2 ^ min n.toNat IntKind.i64.bits)) 1) = ((jh n.toNat p r c (j + 1) : Nat) : Int) := by
 have hj : j < 8 := by omega
 have hR := yC (c := c) hp hr j
 rw [topx (p := p) (r := r) hn hR hc hj] at h
 rw [shl_e hn hR, wq]
 unfold crcB
 rw [if_pos (by omega)]
end
def qK (x : Int) : Int := if x ≤ 0 then 0 else (x - 1) % 65535 + 1
theorem foldR_small {x : Int} (h0 : 0 ≤ x) (h : x ≤ 65535) : qK x = x := by unfold qK; split <;> omega
theorem foldR_step {x : Int} (h : 65535 < x) : qK (x % 65536 + x / 65536) = qK x := by
 unfold qK
 rw [if_neg (by omega), if_neg (by omega)]
 omega
theorem xV (x : Int) : 0 ≤ qK x ∧ qK x ≤ 65535 := by unfold qK; split <;> omega
theorem foldR_add {x y : Int} (h0 : 0 ≤ x) (h : 0 ≤ y) : qK (qK x + y) = qK (x + y) := by
 unfold qK
 split
 · split <;> split <;> omega
 · split <;> split <;> omega
def z9 : List UInt8 → Int
 | [] => 0
 | [a] => 256 * (a.toNat : Int)
 | a :: b :: l => 256 * (a.toNat : Int) + (b.toNat : Int) + z9 l
theorem kY (l : List UInt8) : ∀ (j : Nat), 2 * j < l.length → z9 (l.take (2 * (j + 1))) = z9 (l.take (2 * j)) + (256 * ((l.getD (2 * j) 0).toNat : Int) + ((l.getD (2 * j + 1) 0).toNat : Int)) := by
 intro j
 induction j generalizing l with
 | zero =>
   intro h
   match l, h with
   | [a], _ => simp [z9]
   | a :: b :: l, _ => simp [z9]
 | succ j ih =>
   intro h
   match l, h with
   | a :: b :: l, h =>
     have h2 : 2 * j < l.length := by simp at h; omega
     have := ih l h2
     have e1 : List.take (2 * (j + 1 + 1)) (a :: b :: l) = a :: b :: List.take (2 * (j + 1)) l := rfl
     have e2 : List.take (2 * (j + 1)) (a :: b :: l) = a :: b :: List.take (2 * j) l := rfl
     have e3 : (a :: b :: l).getD (2 * (j + 1)) 0 = l.getD (2 * j) 0 := rfl
     have e4 : (a :: b :: l).getD (2 * (j + 1) + 1) 0 = l.getD (2 * j + 1) 0 := rfl
     rw [e1, e2, e3, e4]
     simp only [z9]
     omega
theorem jp (l : List UInt8) : ∀ n, l.length ≤ 2 * n → 0 ≤ z9 l ∧ z9 l ≤ 65535 * (n : Int) := by
 intro n
 induction n generalizing l with
 | zero => intro h; obtain rfl := List.eq_nil_of_length_eq_zero (by omega : l.length = 0); exact ⟨by decide, by decide⟩
 | succ n ih =>
   intro h
   match l, h with
   | [], _ => exact ⟨by decide, by simp only [z9]; omega⟩
   | [a], _ => have := a.toNat_lt; simp only [z9]; omega
   | a :: b :: l, h =>
     have h1 := a.toNat_lt
     have h2 := b.toNat_lt
     have := ih l (by simp at h; omega)
     simp only [z9]
     omega
theorem foldR_id {x : Int} (h : ¬ 65535 < x) (h0 : 0 ≤ x) : qK x = x := foldR_small h0 (by omega)
theorem wsum_nil : z9 [] = 0 := rfl
attribute [irreducible] z9 qK
def csR (l : List UInt8) : Int := 65535 - qK (z9 l)
def qM (h : Hd) : List UInt8 :=
 [69, b8 h.tos, 0, 0] ++ qG h.id 2 ++ [b8 (64 * h.fx), 0, b8 h.ttl, 17, 0, 0] ++ qG h.fr 4 ++ qG h.to 4 ++ qG h.fp 2 ++ qG h.tp 2 ++ [0, 0] ++ qG h.ck 2 ++
   (if h.k = 2 then [128, b8 (128 * h.mr + h.ty)] ++ qG h.sq 2 ++ qG h.tm 4 ++ qG h.sr 4 else [])
@[simp] theorem putBlen (n : Int) (k : Nat) : (qG n k).length = k := by
 induction k with
 | zero => rfl
 | succ k ih => simp [qG, ih]
theorem zP (h : Hd) : (qM h).length = if h.k = 2 then 40 else 28 := by unfold qM; split <;> simp
def setW (l : List UInt8) (a : Nat) (xs : List UInt8) : List UInt8 := l.take a ++ xs ++ l.drop (a + xs.length)
def bld1 (h : Hd) (p : List UInt8) : List UInt8 := setW (setW (qM h ++ p) 2 (qG (((qM h).length + p.length : Nat) : Int) 2)) 24 (qG (((qM h).length + p.length : Nat) - 20) 2)
def bldL (h : Hd) (p : List UInt8) : List UInt8 := setW (bld1 h p) 10 (qG (csR ((bld1 h p).take 20)) 2)
def zm (h : Hd) (p : List UInt8) : List UInt8 × Int :=
 if h.ok = true then (if (qM h).length + p.length ≤ 1500 then (bldL h p, 0) else ([], 2)) else ([], 1)
def headO (h : Hd) : List UInt8 := if h.ok = true then qM h else []
open Go.RowKit
section
variable {α : Type} {f : α → List AV} {n : Nat}
theorem qy (hf : ∀ x, (f x).length = n) : ∀ l : List α, (l.flatMap f).length = l.length * n
 | [] => by simp
 | x :: l => by rw [List.flatMap_cons, List.length_append, qy hf l, hf, List.length_cons, Nat.succ_mul, Nat.add_comm]
theorem yy (hf : ∀ x, (f x).length = n) : ∀ (l : List α) (i : Nat), (l.flatMap f).drop (i * n) = (l.drop i).flatMap f
 | _, 0 => by simp
 | [], i + 1 => by simp
 | x :: l, i + 1 => by
   rw [List.flatMap_cons, List.drop_append, hf, List.drop_of_length_le (by rw [hf, Nat.succ_mul]; omega), List.nil_append, show (i + 1) * n - n = i * n by rw [Nat.succ_mul]; omega, yy hf l i]
   rfl
theorem fm_take (hf : ∀ x, (f x).length = n) : ∀ (l : List α) (i : Nat), (l.flatMap f).take (i * n) = (l.take i).flatMap f
 | _, 0 => by simp
 | [], i + 1 => by simp
 | x :: l, i + 1 => by
   rw [List.flatMap_cons, List.take_append, hf, List.take_of_length_le (by rw [hf, Nat.succ_mul]; omega), show (i + 1) * n - n = i * n by rw [Nat.succ_mul]; omega, fm_take hf l i]
   rfl
theorem drop_getD (l : List α) (i : Nat) (d : α) (h : i < l.length) : l.drop i = l.getD i d :: l.drop (i + 1) := by
 rw [List.drop_eq_getElem_cons h]
 simp [List.getD_eq_getElem?_getD, h]
theorem fm_at (hf : ∀ x, (f x).length = n) (l : List α) (i : Nat) (d : α) (h : i < l.length) : (l.flatMap f).drop (i * n) = f (l.getD i d) ++ (l.drop (i + 1)).flatMap f := by
 rw [yy hf, drop_getD l i d h, List.flatMap_cons]
theorem AC.recd {agg : Bool} {l : List α} {o m : Nat} {K : AV → Prop} (hf : ∀ x, (f x).length = n) (i : Nat) (d : α) (ho : o = i * n) (hm : m = n) (h : i < l.length) (k : K (mkv agg (f (l.getD i d)))) : AC agg (((l.flatMap f).drop o).take m) K := ⟨by
 subst ho hm
 rw [fm_at hf l i d h, List.take_append_of_le_length (by rw [hf]; omega), List.take_of_length_le (by rw [hf]; omega)]
 exact k⟩
theorem AC.fld {l : List α} {o m : Nat} {K : AV → Prop} (hf : ∀ x, (f x).length = n) (i j : Nat) (d : α) (v : AV) (ho : o = i * n + j) (hj : j + m ≤ n) (h : i < l.length) (hv : mkv false (((f (l.getD i d)).drop j).take m) = v) (k : K v) : AC false (((l.flatMap f).drop o).take m) K := ⟨by
 subst ho
 rw [← List.drop_drop, fm_at hf l i d h, List.drop_append_of_le_length (by rw [hf]; omega), List.take_append_of_le_length (by simp [hf]; omega), hv]
 exact k⟩
theorem yQ (hf : ∀ x, (f x).length = n) (l : List α) (i j : Nat) (d y : α) (xs : List AV) (h : i < l.length) (hj : j + xs.length ≤ n) (hy : f y = qo (f (l.getD i d)) j xs) : qo (l.flatMap f) (i * n + j) xs = (l.set i y).flatMap f := by
 have h1 : (l.flatMap f).take (i * n + j) = (l.take i).flatMap f ++ (f (l.getD i d)).take j := by
   rw [List.take_add, fm_take hf, fm_at hf l i d h, List.take_append_of_le_length (by rw [hf]; omega)]
 have h2 : (l.flatMap f).drop (i * n + j + xs.length) = (f (l.getD i d)).drop (j + xs.length) ++ (l.drop (i + 1)).flatMap f := by
   rw [Nat.add_assoc, ← List.drop_drop, fm_at hf l i d h, List.drop_append_of_le_length (by rw [hf]; omega)]
 unfold qo at hy ⊢
 rw [h1, h2, List.set_eq_take_append_cons_drop, if_pos h, List.flatMap_append, List.flatMap_cons, hy]
 simp [List.append_assoc]
end
theorem drop_behind {A B : List AV} {o k : Nat} (h : o = A.length) : (A ++ B).drop (o + k) = B.drop k := by subst h; rw [List.drop_append]; simp
theorem splice_behind {A B xs : List AV} {o k : Nat} (h : o = A.length) : qo (A ++ B) (o + k) xs = A ++ qo B k xs := by
 subst h
 unfold qo
 rw [List.take_append, List.take_of_length_le (by omega), Nat.add_assoc, List.drop_append, List.drop_of_length_le (by omega)]
 simp [List.append_assoc]
theorem AC.behind {agg : Bool} {A B : List AV} {o k m : Nat} {K : AV → Prop} (h : o = A.length) (g : AC agg ((B.drop k).take m) K) : AC agg (((A ++ B).drop (o + k)).take m) K := ⟨by rw [drop_behind h]; exact g.go⟩
theorem AQ.behind {A B xs : List AV} {o k : Nat} {K : List AV → Prop} (h : o = A.length) (g : AQ (qo B k xs) fun cs => K (A ++ cs)) : AQ (qo (A ++ B) (o + k) xs) K := ⟨by rw [splice_behind h]; exact g.go⟩
open Go.RowKit
variable {G : Nat → AV}
structure Sm where
 cx : Int
 f : Int
 n : Int
 tm : Int
 mr : Int
 id : Int
 ud : Int
 h : Hd
 d : Dy
 ck : Int
 pl : List UInt8
@[reducible] def Sm.cs (s : Sm) : List AV := [iAV s.cx, iAV s.f, iAV s.n, iAV s.tm, iAV s.mr, iAV s.id, iAV s.ud, iAV s.h.k, iAV s.h.tos, iAV s.h.id, iAV s.h.fx, iAV s.h.ttl, iAV s.h.fr, iAV s.h.to, iAV s.h.fp, iAV s.h.tp, iAV s.h.ck, iAV s.h.mr, iAV s.h.ty, iAV s.h.sq, iAV s.h.tm, iAV s.h.sr, iAV s.d.st, iAV s.d.fo, iAV s.ck, bv s.pl]
@[reducible] def Sm.av (s : Sm) : AV := .agg s.cs
def cbR (f : Int) : Int := if f = 1 then 3 else if f = 2 then 7 else 8
theorem yH (f : Int) : LP Tryz.prog G 130 [iAV f] [] (fun _ => (iAV (cbR f), [])) := by
 refine goW [] Tryz.func130 rfl ?_
 conv => whnf
 repeat' ((first | refine T.s ?_ | ((first | apply goB | apply AB.dec | apply AB.gen) <;> intro h <;> try (exfalso; omega)) | refine LQ.mk fun r => ?_ | exact T.z | fail) <;> conv => whnf)
 all_goals (try dsimp only)
 all_goals
   (show RL _ _ _; refine goR ?_)
   simp [cbR, iAV, *]
def wid (f k : Int) (i : Nat) : Int := (if f = 1 then [4, 0, 0, 0] else if f = 2 ∧ k = 2 then [5, 16, 1, 0] else if f = 2 then [5, 0, 0, 0] else if k = 2 then [8, 32, 1, 16] else [16, 0, 0, 0] : List Int).getD i 0
theorem widths_c (f k : Int) : LP Tryz.prog G 134 [iAV f, iAV k] [] (fun _ => (.agg [iAV (wid f k 0), iAV (wid f k 1), iAV (wid f k 2), iAV (wid f k 3)], [])) := by
 refine goW [] Tryz.func134 rfl ?_
 conv => whnf
 repeat' ((first | refine T.s ?_ | ((first | apply goB | apply AB.dec | apply AB.gen) <;> intro h <;> try (exfalso; omega)) | refine LQ.mk fun r => ?_ | exact T.z | fail) <;> conv => whnf)
 all_goals (try dsimp only)
 all_goals
   (show RL _ _ _; refine goR ?_)
   simp [wid, iAV, qu, *]
theorem nbits_c (f k : Int) : LP Tryz.prog G 120 [iAV f, iAV k] [] (fun _ => (iAV (wid f k 0), [])) := by
 refine goW [] Tryz.func120 rfl ?_
 conv => whnf
 repeat' ((first | (show LC _ _ _ _ _ _; first | refine LC.pure (widths_c _ _) ?_ | refine goE ?_) | refine T.s ?_ | ((first | apply goB | apply AB.dec | apply AB.gen) <;> intro h <;> try (exfalso; omega)) | refine LQ.mk fun r => ?_ | exact T.z | fail) <;> conv => whnf)
 all_goals (try dsimp only)
 (show RL _ _ _; refine goR ?_)
 rfl
def qW (n v : Int) : Bool := decide (0 ≤ v ∧ v < 2 ^ n.toNat)
theorem pow_w (n : Int) (h0 : 0 ≤ n) (h1 : n ≤ 32) : IntKind.i64.wrap (1 * 2 ^ min n.toNat IntKind.i64.bits) = 2 ^ n.toNat := by
 have e : min n.toNat IntKind.i64.bits = n.toNat := Nat.min_eq_left (by show n.toNat ≤ 64; omega)
 rw [e, Int.one_mul, IntKind.wrap_i64]
 have h2 : (2 : Int) ^ n.toNat ≤ 2 ^ 32 := by exact_mod_cast Nat.pow_le_pow_right (by decide) (show n.toNat ≤ 32 by omega)
 have h3 : (0 : Int) < 2 ^ n.toNat := Int.pow_pos (by decide)
 omega
theorem ffits_c (n v : Int) (h0 : 0 ≤ n) (h1 : n ≤ 32) : LP Tryz.prog G 135 [iAV n, iAV v] [] (fun _ => (.bool (qW n v), [])) := by
 have hw := pow_w n h0 h1
 refine goW [] Tryz.func135 rfl ?_
 conv => whnf
 repeat' ((first | refine T.s ?_ | ((first | apply goB | apply AB.dec | apply AB.gen) <;> intro h <;> try (exfalso; omega)) | refine LQ.mk fun r => ?_ | exact T.z | fail) <;> conv => whnf)
 all_goals (try dsimp only)
 all_goals
   (show RL _ _ _; refine goR ?_)
   refine congrArg AV.bool ?_
   rw [Bool.eq_iff_iff]
   simp_all [qW, qu] <;> (intros; omega)
attribute [irreducible] qW
def jD (s : Sm) : Bool := decide (s.n = 0 ∧ s.tm = 0 ∧ s.mr = 0 ∧ s.id = 0 ∧ s.ud = 0)
def hzR (h : Hd) (k : Int) : Bool := decide (h.k = k ∧ h.tos = 0 ∧ h.id = 0 ∧ h.fx = 0 ∧ h.ttl = 0 ∧ h.fr = 0 ∧ h.to = 0 ∧ h.fp = 0 ∧ h.tp = 0 ∧ h.ck = 0 ∧ h.mr = 0 ∧ h.ty = 0 ∧ h.sq = 0 ∧ h.tm = 0 ∧ h.sr = 0)
def szR (h : Hd) : Bool := decide (h.fr = 0 ∧ h.to = 0 ∧ h.fp = 0 ∧ h.tp = 0 ∧ h.sr = 0)
def dzR (d : Dy) : Bool := decide (d.st = 0 ∧ d.fo = 0)
def xP (s : Sm) : Bool := s.h.ok && (s.d.ok && (!(decide (s.h.k = 1) && !(dzR s.d)) && (decide (s.f = 5) || szR s.h)))
def zH (s : Sm) : Bool := qW (wid s.f s.h.k 0) s.n && (qW (wid s.f s.h.k 1) s.tm && (qW (wid s.f s.h.k 2) s.mr && (qW (wid s.f s.h.k 3) s.id && qW 16 s.ud)))
def ww (s : Sm) : Bool := decide (0 ≤ s.cx ∧ s.cx < 16 ∧ s.pl.length ≤ 1500) && qW (cbR s.f) s.ck
def Sm.ok (s : Sm) : Bool :=
 ww s && (if s.f = 1 ∨ s.f = 2 ∨ s.f = 3 then zH s && (decide (s.h.k = 1 ∨ s.h.k = 2) && (hzR s.h s.h.k && dzR s.d))
   else if s.f = 4 ∨ s.f = 5 then jD s && xP s
   else if s.f = 6 then jD s && (decide (s.cx = 0 ∧ s.ck = 0) && (hzR s.h 0 && dzR s.d)) else false)
theorem wid_le (f k : Int) (i : Nat) : 0 ≤ wid f k i ∧ wid f k i ≤ 32 := by
 unfold wid
 rcases i with _ | _ | _ | _ | i <;> (repeat' split) <;> simp
theorem cbR_le (f : Int) : 0 ≤ cbR f ∧ cbR f ≤ 32 := by
 unfold cbR
 (repeat' split) <;> omega
theorem fwhole_c (s : Sm) : LP Tryz.prog G 136 [s.av] [] (fun _ => (.bool (xP s), [])) := by
 refine goW [] Tryz.func136 rfl ?_
 conv => whnf
 repeat' ((first | exact Nm.b 0 | (show LC _ _ _ _ _ _; first | refine LC.pure (j5 s.h) ?_ | refine LC.pure (yq s.d) ?_ | refine LC.pure (fstatic_c s.h) ?_ | refine goE ?_) | refine T.s ?_ | ((first | apply goB | apply AB.dec | apply AB.gen) <;> intro h <;> try (exfalso; omega)) | refine LQ.mk fun r => ?_ | (show SQ _ _ _ _ _ _ _; first | (apply goD tQ qb 4 [7, 5] [0, 1, 2, 3, 4, 6, 7, 8, 5, 9, 10, 11] [_] (by kernel_rfl)) | (refine goD tQ qb 4 [7, 5] [0, 1, 2, 3, 4, 6, 7, 8, 5, 9, 10, 11] [] (by kernel_rfl) ?_)) | exact T.z | fail) <;> try (show (_ : Prop); conv => whnf))
 all_goals (try dsimp only)
 all_goals
   (show RL _ _ _; refine goR ?_)
   refine congrArg AV.bool ?_
   rw [Bool.eq_iff_iff]
   simp_all [xP, dzR, szR, qU, qu, Hd.static]
open Go.RowKit
variable {G : Nat → AV}
theorem fvalid8_c (s : Sm) : LP Tryz.prog G 121 [s.av] [] (fun _ => (.bool s.ok, [])) := by
 refine goW [3, 10] Tryz.func121 rfl ?_
 conv => whnf
 repeat' ((first | exact Nm.b 0 | (show LC _ _ _ _ _ _; first | refine LC.pure (yH _) ?_ | refine LC.pure (widths_c _ _) ?_ | refine LC.pure (ffits_c _ _ (cbR_le _).1 (cbR_le _).2) ?_ | refine LC.pure (ffits_c _ _ (wid_le _ _ _).1 (wid_le _ _ _).2) ?_ | refine LC.pure (ffits_c _ _ (by decide) (by decide)) ?_ | refine LC.pure (fwhole_c s) ?_ | refine goE ?_) | refine T.s ?_ | ((first | apply goB | apply AB.dec | apply AB.gen) <;> intro h <;> try (exfalso; omega)) | refine LQ.mk fun r => ?_ | (show SQ _ _ _ _ _ _ _; first | (apply goD tQ qb 1 [19, 17] [0, 1, 2, 3, 4, 5, 6, 7, 8, 9, 10, 11, 12, 13, 14, 15, 16, 18, 19, 17, 20, 21, 22] [_] (by kernel_rfl)) | (refine goD tQ qb 1 [19, 17] [0, 1, 2, 3, 4, 5, 6, 7, 8, 9, 10, 11, 12, 13, 14, 15, 16, 18, 19, 17, 20, 21, 22] [] (by kernel_rfl) ?_)) | (show CutL _ _ _ _ _ _ _ _; first | (refine goK tQ [3, 10] 3 (S := Nm) [] (fun p => ⟨[(3, .bool (jD s)), (1, .ptr p 0)], [(p, ⟨67, s.cs⟩)], True, 0⟩) ?_ ?_; (rintro p -); rotate_left) | (refine goK tQ [3, 10] 10 (S := Nm) [4] (fun p => ⟨[(6, .bool (zH s)), (1, .ptr p 0)], [(p, ⟨67, s.cs⟩)], True, 0⟩) ?_ ?_; (rintro p -); rotate_left) | refine CutL.go tQ [3, 10] ?_) | (show AtC _ _ _ _ _ _ _ _; first | (apply AtC.mk' (id := 3) (S := Nm) (_); all_goals (try exact K476); done) | (apply AtC.mk' (id := 10) (S := Nm) (_); all_goals (try exact K476); done) | (apply AtC.mk' (id := 3) (S := Nm) (_); all_goals (try exact K476)) | (apply AtC.mk' (id := 10) (S := Nm) (_); all_goals (try exact K476))) | exact T.z | fail) <;> try (show (_ : Prop); conv => whnf))
 all_goals (try dsimp only)
 all_goals
   (show RL _ _ _; refine goR ?_)
   refine congrArg AV.bool ?_
   rw [Bool.eq_iff_iff]
   simp_all [Sm.ok, ww, jD, hzR, dzR, qU, qu] <;> (intros; omega)
def vI (s : Sm) : Bool := decide (s.h.k = 1 ∨ s.h.k = 2) && (hzR s.h s.h.k && (dzR s.d && (inR s.ud 65535 &&
 (inR s.n (if s.f = 2 then 31 else if s.f = 3 then (if s.h.k = 2 then 255 else 65535) else 15) && (inR s.tm (if s.h.k = 2 then (if s.f = 2 then 65535 else if s.f = 3 then 4294967295 else 0) else 0) &&
 (inR s.mr (if s.h.k = 2 ∧ (s.f = 2 ∨ s.f = 3) then 1 else 0) && (inR s.id (if s.h.k = 2 ∧ s.f = 3 then 65535 else 0) && inR s.ck (if s.f = 2 then 127 else if s.f = 3 then 255 else 7))))))))
theorem rfields_c (s : Sm) : LP Tryz.prog G 118 [s.av] [] (fun _ => (.bool (vI s), [])) := by
 refine goW [] Tryz.func118 rfl ?_
 conv => whnf
 repeat' ((first | (show LC _ _ _ _ _ _; first | refine LC.pure (in8_c _ _) ?_ | refine goE ?_) | refine T.s ?_ | ((first | apply goB | apply AB.dec | apply AB.gen) <;> intro h <;> try (exfalso; omega)) | refine LQ.mk fun r => ?_ | exact T.z | fail) <;> conv => whnf)
 all_goals (try dsimp only)
 all_goals
   ((show RL _ _ _; refine goR ?_); (focus (refine congrArg AV.bool ?_; rw [Bool.eq_iff_iff])))
   simp_all [vI, hzR, dzR, qU, qu] <;> (intros; simp_all [inR] <;> (intros; omega))
open Go.RowKit
variable {G : Nat → AV}
def xM (s : Sm) : Bool := inR s.cx 15 && (decide (1 ≤ s.f ∧ s.f ≤ 6 ∧ s.pl.length ≤ 1500) && (if s.f < 4 then vI s else jD s && (if s.f = 6 then decide (s.cx = 0 ∧ s.ck = 0) && (hzR s.h 0 && dzR s.d) else
 s.h.ok && (s.d.ok && (!(decide (s.h.k = 1) && !(dzR s.d)) && (inR s.ck 255 && (decide (s.f = 5) || szR s.h)))))))
theorem jL (n : Nat) (v : Int) : qW (n : Int) v = inR v (2 ^ n - 1) := by
 unfold qW inR
 rw [Int.toNat_natCast]
 have : (v < 2 ^ n) ↔ (v ≤ 2 ^ n - 1) := by omega
 rw [decide_eq_decide]
 simp only [this]
theorem rval_ok (s : Sm) : xM s = s.ok := by
 have f0 : ∀ v, qW 0 v = inR v 0 := fun v => jL 0 v
 have f1 : ∀ v, qW 1 v = inR v 1 := fun v => jL 1 v
 have f3 : ∀ v, qW 3 v = inR v 7 := fun v => jL 3 v
 have f4 : ∀ v, qW 4 v = inR v 15 := fun v => jL 4 v
 have f5 : ∀ v, qW 5 v = inR v 31 := fun v => jL 5 v
 have f7 : ∀ v, qW 7 v = inR v 127 := fun v => jL 7 v
 have f8 : ∀ v, qW 8 v = inR v 255 := fun v => jL 8 v
 have f16 : ∀ v, qW 16 v = inR v 65535 := fun v => jL 16 v
 have f32 : ∀ v, qW 32 v = inR v 4294967295 := fun v => jL 32 v
 have hcx : inR s.cx 15 = decide (0 ≤ s.cx ∧ s.cx < 16) := by
   unfold inR
   rw [decide_eq_decide]
   omega
 have key : ∀ f : Int, s.f = f → (f = 1 ∨ f = 2 ∨ f = 3 ∨ f = 4 ∨ f = 5 ∨ f = 6) → xM s = s.ok := by
   intro f hf hc
   rcases hc with rfl | rfl | rfl | rfl | rfl | rfl
   · by_cases h1 : s.h.k = 1
     · simp [xM, Sm.ok, ww, zH, vI, wid, cbR, hf, h1, f0, f3, f4, f16, hcx, Bool.and_assoc, Bool.and_comm, Bool.and_left_comm]
     · by_cases h2 : s.h.k = 2
       · simp [xM, Sm.ok, ww, zH, vI, wid, cbR, hf, h2, f0, f3, f4, f16, hcx, Bool.and_assoc, Bool.and_comm, Bool.and_left_comm]
       · simp [xM, Sm.ok, vI, hf, h1, h2]
   · by_cases h1 : s.h.k = 1
     · simp [xM, Sm.ok, ww, zH, vI, wid, cbR, hf, h1, f0, f5, f7, f16, hcx, Bool.and_assoc, Bool.and_comm, Bool.and_left_comm]
     · by_cases h2 : s.h.k = 2
       · simp [xM, Sm.ok, ww, zH, vI, wid, cbR, hf, h2, f0, f1, f5, f7, f16, hcx, Bool.and_assoc, Bool.and_comm, Bool.and_left_comm]
       · simp [xM, Sm.ok, vI, hf, h1, h2]
   · by_cases h1 : s.h.k = 1
     · simp [xM, Sm.ok, ww, zH, vI, wid, cbR, hf, h1, f0, f8, f16, hcx, Bool.and_assoc, Bool.and_comm, Bool.and_left_comm]
     · by_cases h2 : s.h.k = 2
       · simp [xM, Sm.ok, ww, zH, vI, wid, cbR, hf, h2, f0, f1, f8, f16, f32, hcx, Bool.and_assoc, Bool.and_comm, Bool.and_left_comm]
       · simp [xM, Sm.ok, vI, hf, h1, h2]
   · simp [xM, Sm.ok, ww, xP, cbR, hf, f8, hcx, Bool.and_assoc, Bool.and_comm, Bool.and_left_comm]
   · simp [xM, Sm.ok, ww, xP, cbR, hf, f8, hcx, Bool.and_assoc, Bool.and_comm, Bool.and_left_comm]
   · by_cases h : s.ck = 0
     · simp [xM, Sm.ok, ww, cbR, hf, f8, hcx, h, inR, Bool.and_assoc, Bool.and_comm, Bool.and_left_comm]
     · simp [xM, Sm.ok, hf, h]
 by_cases h : 1 ≤ s.f ∧ s.f ≤ 6
 · exact key s.f rfl (by omega)
 · have e1 : xM s = false := by
     have : ¬ (1 ≤ s.f ∧ s.f ≤ 6 ∧ s.pl.length ≤ 1500) := fun k => h ⟨k.1, k.2.1⟩
     simp [xM, this]
   have e2 : s.ok = false := by
     unfold Sm.ok
     rw [if_neg (by omega), if_neg (by omega), if_neg (by omega), Bool.and_false]
   rw [e1, e2]
theorem rvalid8_c (s : Sm) : LP Tryz.prog G 91 [s.av] [] (fun _ => (.bool s.ok, [])) := by
 rw [← rval_ok]
 refine goW [] Tryz.func91 rfl ?_
 conv => whnf
 repeat' ((first | exact Nm.b 0 | (show LC _ _ _ _ _ _; first | refine LC.pure (in8_c _ _) ?_ | refine LC.pure (rfields_c s) ?_ | refine LC.pure (zn s.h) ?_ | refine LC.pure (xS s.d) ?_ | refine LC.pure (r6static_c s.h) ?_ | refine goE ?_) | refine T.s ?_ | ((first | apply goB | apply AB.dec | apply AB.gen) <;> intro h <;> try (exfalso; omega)) | refine LQ.mk fun r => ?_ | (show SQ _ _ _ _ _ _ _; first | (apply goD tQ qb 12 [7, 5] [0, 1, 2, 3, 4, 6, 7, 8, 5, 9, 10, 11] [_] (by kernel_rfl)) | (refine goD tQ qb 12 [7, 5] [0, 1, 2, 3, 4, 6, 7, 8, 5, 9, 10, 11] [] (by kernel_rfl) ?_)) | exact T.z | fail) <;> try (show (_ : Prop); conv => whnf))
 all_goals (try dsimp only)
 all_goals
   ((show RL _ _ _; refine goR ?_); (focus (refine congrArg AV.bool ?_; rw [Bool.eq_iff_iff])))
   simp_all [xM, jD, hzR, szR, dzR, qU, qu, Hd.static] <;> (intros; first | omega | (rw [if_neg (by omega)]; first | omega | (simp_all; done) | (simp_all; omega)))
end Go.Proofs.YtkfpgdckdmlhkaaGreatDoor
