/-
  Contracts of the functions that the laws reach.
-/
import Derived.Test.YtbagbjacmakfhaaGreatDoorCq01
import Derived.Test.YtbagbjacmakfhaaGreatDoorCq02
import Derived.Test.YtbagbjacmakfhaaGreatDoorCq03
import Derived.Test.YtbagbjacmakfhaaGreatDoorCq04
set_option maxHeartbeats 2000000
set_option linter.all false
namespace Go.Proofs.YtbagbjacmakfhaaGreatDoor
open Go.RowKit
theorem ipow_le {a b : Nat} (h : a ≤ b) : (2 : Int) ^ a ≤ 2 ^ b := by
 have := Nat.pow_le_pow_right (n := 2) (by decide) h
 exact_mod_cast this
theorem y6 (x : Int) (n : Nat) (hn : n ≤ 32) : qu .and .i64 x (2 ^ n - 1) = x % 2 ^ n := by
 have hp : (2 : Int) ^ n ≤ 2 ^ 32 := ipow_le hn
 have hp' : (2 : Nat) ^ n ≤ 2 ^ 32 := Nat.pow_le_pow_right (by decide) hn
 have hq : (0 : Int) < 2 ^ n := Int.pow_pos (by decide)
 show IntKind.i64.wrap ((BitVec.ofInt 64 x &&& BitVec.ofInt 64 (2 ^ n - 1)).toNat : Int) = _
 have hd : (2 : Int) ^ n ∣ 2 ^ 64 := ⟨2 ^ (64 - n), by rw [← Int.pow_add]; congr 1; omega⟩
 have e2 : ((2 : Int) ^ n - 1) = ((2 ^ n - 1 : Nat) : Int) := by
   have : 0 < (2 : Nat) ^ n := Nat.pow_pos (by decide)
   rw [Int.ofNat_sub this]; simp
 have e : ((BitVec.ofInt 64 x &&& BitVec.ofInt 64 (2 ^ n - 1)).toNat : Int) = x % 2 ^ n := by
   rw [e2, BitVec.toNat_and, BitVec.ofInt_natCast, BitVec.toNat_ofNat, Nat.mod_eq_of_lt (show 2 ^ n - 1 < 2 ^ 64 by omega), Nat.and_two_pow_sub_one_eq_mod, BitVec.toNat_ofInt]
   have h0 : 0 ≤ x % ((2 : Int) ^ 64) := Int.emod_nonneg _ (by decide)
   have h1 : (((x % (2 : Int) ^ 64).toNat : Nat) : Int) = x % 2 ^ 64 := Int.toNat_of_nonneg h0
   rw [Int.natCast_emod]
   show (((x % (2 : Int) ^ 64).toNat : Nat) : Int) % ((2 ^ n : Nat) : Int) = _
   rw [h1]
   push_cast
   exact Int.emod_emod_of_dvd x hd
 rw [e, IntKind.wrap_i64]
 have h1 := Int.emod_nonneg x (show (2 : Int) ^ n ≠ 0 by omega)
 have h2 := Int.emod_lt_of_pos x hq
 omega
def lw (n x : Int) : Int := x % 2 ^ n.toNat
theorem vB (n : Int) : (0 : Int) < 2 ^ n.toNat := Int.pow_pos (by decide)
theorem pw_le {n : Int} {m : Nat} (h : n ≤ m) : (2 : Int) ^ n.toNat ≤ 2 ^ m := ipow_le (by omega)
theorem yu (n x : Int) : 0 ≤ lw n x ∧ lw n x < 2 ^ n.toNat := ⟨Int.emod_nonneg x (by have := vB n; omega), Int.emod_lt_of_pos x (vB n)⟩
theorem yU {n : Int} (h1 : n ≤ 32) : IntKind.i64.wrap (1 * 2 ^ min n.toNat 64) = 2 ^ n.toNat := by
 have h2 := pw_le (m := 32) h1
 have h3 := vB n
 rw [show min n.toNat 64 = n.toNat by omega, IntKind.wrap_i64]
 omega
theorem mask_e {n : Int} (h1 : n ≤ 32) : q7 .sub .i64 (IntKind.i64.wrap (1 * 2 ^ min n.toNat 64)) 1 = 2 ^ n.toNat - 1 := by
 have h2 := pw_le (m := 32) h1
 have h3 := vB n
 rw [yU h1]
 show IntKind.i64.wrap _ = _
 rw [IntKind.wrap_i64]
 omega
theorem low_e {n : Int} (x : Int) (h1 : n ≤ 32) : qu .and .i64 x (q7 .sub .i64 (IntKind.i64.wrap (1 * 2 ^ min n.toNat 64)) 1) = lw n x := by
 rw [mask_e h1]
 exact y6 x n.toNat (by omega)
theorem dvd64 {n : Int} (h : n ≤ 32) : (2 : Int) ^ n.toNat ∣ 18446744073709551616 := ⟨2 ^ (64 - n.toNat), by rw [← Int.pow_add, show n.toNat + (64 - n.toNat) = 64 by omega]; rfl⟩
theorem jh {n : Int} (x : Int) (h : n ≤ 32) : lw n (IntKind.i64.wrap x) = lw n x := by
 obtain ⟨c, hc⟩ := dvd64 h
 unfold lw
 have : IntKind.i64.wrap x = x - 18446744073709551616 * ((x + 9223372036854775808) / 18446744073709551616) := by
   rw [IntKind.wrap_i64]; omega
 rw [this, hc, Int.mul_assoc, Int.sub_mul_emod_self_left]
theorem lw_small {n x : Int} (h0 : 0 ≤ x) (h1 : x < 2 ^ n.toNat) : lw n x = x := Int.emod_eq_of_lt h0 h1
theorem lw_add_r (n x y : Int) : lw n (x + lw n y) = lw n (x + y) := by unfold lw; exact Int.add_emod_emod ..
theorem lw_sub_l (n x y : Int) : lw n (lw n x - y) = lw n (x - y) := by unfold lw; exact Int.emod_sub_emod ..
theorem lw_sub_r (n x y : Int) : lw n (x - lw n y) = lw n (x - y) := by unfold lw; exact Int.sub_emod_emod ..
def sg (n a b : Int) : Int := if 2 ^ (n - 1).toNat ≤ lw n (b - a) then lw n (b - a) - 2 ^ n.toNat else lw n (b - a)
def offK (k : Int) : Int := 2 ^ (k - 3).toNat - 1
def lsbV (width r k l : Int) : Int := lw width (r - offK k + lw k (l - (r - offK k)))
def xt (width : Int) : Bool := decide (width = 8 ∨ width = 16 ∨ width = 32)
def zO (width v : Int) : Bool := decide (0 ≤ v ∧ v < 2 ^ width.toNat)
def wL (width r k l : Int) : Int × Int :=
 if xt width then (if k < 3 ∨ k > width ∨ zO width r = false ∨ zO k l = false then (0, 3) else (lsbV width r k l, 0)) else (0, 7)
attribute [irreducible] lw
open Go.RowKit
variable {G : Nat → AV}
def xC (n m : Int) : Int := if m < 1 then 0 else if n.tmod m < 0 then IntKind.i64.wrap (n.tmod m + m) else n.tmod m
theorem mod_c (n m : Int) : LP Tryz.prog G 22 [iAV n, iAV m] [] (fun _ => (iAV (xC n m), [])) := by
 refine goW [] Tryz.func22 rfl ?_
 conv => whnf
 repeat' ((first | refine T.s ?_ | ((first | apply goB | apply AB.dec | apply AB.gen) <;> intro h <;> try (exfalso; omega)) | refine LQ.mk fun r => ?_ | exact T.z | fail) <;> conv => whnf)
 all_goals (try dsimp only)
 all_goals
   (show RL _ _ _; refine goR ?_)
   unfold xC
   (repeat first | rw [if_pos (by first | assumption | omega)] | rw [if_neg (by first | assumption | omega)])
   rfl
def z4 (t : List Int) (a : Nat) : Pl := ⟨69, [iv t, iAV a]⟩
theorem kN (t : List Int) : LP Tryz.prog G 7 [iv t] [] (fun _ => (.bool (decide (t.length ≤ 400)), [])) := by
 refine goW [] Tryz.func7 rfl ?_
 conv => whnf
 repeat' ((first | refine T.s ?_ | ((first | apply goB | apply AB.dec | apply AB.gen) <;> intro h <;> try (exfalso; omega)) | refine LQ.mk fun r => ?_ | exact T.z | fail) <;> conv => whnf)
 all_goals (try dsimp only)
 (show RL _ _ _; refine goR ?_)
 simp [qo]
 omega
theorem roll_c (t : List Int) : LP Tryz.prog G 9 [iv t] [] (fun q => (.ptr q 0, [(q, z4 t 0)])) := by
 refine goW [] Tryz.func9 rfl ?_
 conv => whnf
 repeat' ((first | refine T.s ?_ | ((first | apply goB | apply AB.dec | apply AB.gen) <;> intro h <;> try (exfalso; omega)) | refine LQ.mk fun r => ?_ | exact T.z | fail) <;> conv => whnf)
 all_goals (try dsimp only)
 refine RL.own r ?_ ?_ ?_
 · rfl
 · (repeat first | refine goH ?_ | apply LH.here | apply LH.next); trivial
 · (repeat' first | exact LB.nil | (with_reducible exact LB.refl) | (apply LB.cons; (repeat first | refine goH ?_ | apply LH.here | apply LH.next); refine And.intro ?_ ?_; (focus (try (first | (with_reducible rfl) | (refine congrArg (Pl.mk _) ?_; (first | rfl | (simp; done))) | rfl | (with_reducible refine congrArg (Pl.mk _) ?_))))))
def qi (t : List Int) (a : Nat) (n : Int) : Int := if a < t.length then xC (t.getD a 0) n else 0
def qe (t : List Int) (a : Nat) : Nat := if a < t.length then a + 1 else a
theorem wJ (n m : Int) (h0 : 0 < m) (h1 : m < 4611686018427387904) : 0 ≤ xC n m ∧ xC n m < m := by
 unfold xC
 rw [if_neg (by omega)]
 have h2 : n.tmod m < m := Int.tmod_lt_of_pos n h0
 have h3 : -m < n.tmod m := by
   have := Int.lt_tmod_of_pos n h0
   omega
 split
 · rw [IntKind.wrap_i64]; omega
 · omega
theorem qQ (t : List Int) (a : Nat) (m : Int) (h0 : 0 < m) (h1 : m < 4611686018427387904) : 0 ≤ qi t a m ∧ qi t a m < m := by
 unfold qi
 split
 · exact wJ _ _ h0 h1
 · omega
theorem zZ (t : List Int) (a : Nat) (n : Int) (ht : t.length ≤ 400) (p : Nm) : LP Tryz.prog G 10 [.ptr p 0, iAV n] [(p, z4 t a)] (fun _ => (iAV (qi t a n), [(p, z4 t (qe t a))])) := by
 refine goW [] Tryz.func10 rfl ?_
 conv => whnf
 repeat' ((first | exact Nm.b 0 | (show LC _ _ _ _ _ _; first | refine LC.pure (mod_c _ _) ?_ | refine goE ?_) | refine T.s ?_ | ((first | apply goB | apply AB.dec | apply AB.gen) <;> intro h <;> try (exfalso; omega)) | refine LQ.mk fun r => ?_ | (show SQ _ _ _ _ _ _ _; first | (refine goD tQ qd 1 [] [0, 1, 2, 3, 4, 5, 6, 7, 8, 9] [] (by kernel_rfl) ?_) | (refine goD tQ qd 4 [] [0, 1, 2, 3, 4, 5, 6, 7, 8, 9, 10, 11, 12, 13] [] (by kernel_rfl) ?_)) | exact T.z | fail) <;> conv => whnf)
 all_goals (try dsimp only)
 · have e1 : qe t a = a := by unfold qe; (repeat first | rw [if_pos (by first | assumption | omega)] | rw [if_neg (by first | assumption | omega)])
   have e2 : qi t a n = 0 := by unfold qi; (repeat first | rw [if_pos (by first | assumption | omega)] | rw [if_neg (by first | assumption | omega)])
   rw [e1, e2]
   (show RL _ _ _; refine goR ?_)
   rfl
 · have e1 : qe t a = a + 1 := by unfold qe; (repeat first | rw [if_pos (by first | assumption | omega)] | rw [if_neg (by first | assumption | omega)])
   have e2 : qi t a n = xC (t.getD a 0) n := by unfold qi; (repeat first | rw [if_pos (by first | assumption | omega)] | rw [if_neg (by first | assumption | omega)])
   have h1 : q7 .add .i64 (a : Int) 1 = ((a + 1 : Nat) : Int) := by (exact T.num)
   have h2 : q7 .sub .i64 ((a + 1 : Nat) : Int) 1 = (a : Int) := by (exact T.num)
   rw [e1, e2, h1, h2]
   (show RL _ _ _; refine goR ?_)
   simp [iAV]
open Go.RowKit
variable {G : Nat → AV}
def zG (t : List Int) (a : Nat) (n : Int) : Bool := qo .eql (qi t a n) (q7 .sub .i64 n 1)
theorem vH (t : List Int) (a : Nat) (n : Int) (ht : t.length ≤ 400) (p : Nm) : LP Tryz.prog G 12 [.ptr p 0, iAV n] [(p, z4 t a)] (fun _ => (.bool (zG t a n), [(p, z4 t (qe t a))])) := by
 refine goW [] Tryz.func12 rfl ?_
 conv => whnf
 repeat' ((first | (show LC _ _ _ _ _ _; first | (apply LC.upd (zZ t _ _ ht _); (repeat first | refine goH ?_ | apply LH.here | apply LH.next); refine ⟨rfl, ?_⟩) | refine goE ?_) | refine T.s ?_ | ((first | apply goB | apply AB.dec | apply AB.gen) <;> intro h <;> try (exfalso; omega)) | refine LQ.mk fun r => ?_ | exact T.z | fail) <;> conv => whnf)
 all_goals (try dsimp only)
 (show RL _ _ _; refine goR ?_)
 rfl
structure Ky where
 s : List UInt8
 g : List UInt8
 n : Int
 b : Int
 d : Int
def Ky.av (k : Ky) : AV := .agg [bv k.s, bv k.g, iAV k.n, iAV k.b, iAV k.d]
def adv (t : List Int) (a : Nat) : Nat → Nat
 | 0 => a
 | k + 1 => qe t (adv t a k)
def xp (t : List Int) (a k : Nat) : List UInt8 := (List.range k).map fun j => b8 (qi t (adv t a j) 256)
@[simp] theorem bytesL_len (t : List Int) (a k : Nat) : (xp t a k).length = k := by simp [xp]
def x9 (t : List Int) (a : Nat) (most : Int) : Nat := (qi t a (q7 .add .i64 most 1)).toNat
theorem dbytes_c (t : List Int) (a : Nat) (most : Int) (h0 : 0 ≤ most) (h1 : most ≤ 1000) (ht : t.length ≤ 400) (p : Nm) : LP Tryz.prog G 35 [.ptr p 0, iAV most] [(p, z4 t a)] (fun _ => (bv (xp t (qe t a) (x9 t a most)), [(p, z4 t (adv t (qe t a) (x9 t a most)))])) := by
 have hm : q7 .add .i64 most 1 = most + 1 := by (exact T.num)
 have hb := qQ t a (q7 .add .i64 most 1) (by omega) (by omega)
 have hN : qi t a (q7 .add .i64 most 1) = (x9 t a most : Int) := by unfold x9; omega
 refine goW [] Tryz.func35 rfl ?_
 conv => whnf
 repeat' ((first | (show LC _ _ _ _ _ _; first | (apply LC.upd (zZ t _ _ ht _); (repeat first | refine goH ?_ | apply LH.here | apply LH.next); refine ⟨rfl, ?_⟩) | refine goE ?_) | refine T.s ?_ | ((first | apply goB | apply AB.dec | apply AB.gen) <;> intro h <;> try (exfalso; omega)) | refine LQ.mk fun r => ?_ | (show SQ _ _ _ (.loop _) _ _ _; first | (apply goO tQ [] 3 (S := Nat × Nm) [0] (fun (i, q) => ⟨[(5, .vw q 0 i 1), (6, .int .i64 ((x9 t a most : Int) - (i : Int)))], [(p, z4 t (adv t (qe t a) i)), (q, ⟨5, (xp t (qe t a) i).map bAV⟩)], i ≤ x9 t a most, x9 t a most - i⟩) ((0, q)) (by rfl); (focus (all_goals (try exact K8FA); done)); rintro ⟨i, q⟩ hok; (try dsimp only at hok))) | (show SQ _ _ _ _ _ _ _; first | refine SQ.adopt 5 1 5 (by rfl) fun q => ?_) | (show AtL _ _ _ _ _ _ _ _ _ _; first | (apply AtL.mk' (id := 3) (S := Nat × Nm) ((i + 1, _)); all_goals (try exact K8FA); done) | (apply AtL.mk' (id := 3) (S := Nat × Nm) ((i + 1, _)); all_goals (try exact K8FA))) | exact T.z | refine ⟨_, rfl, rfl, ?_⟩ | fail) <;> conv => whnf)
 all_goals (try dsimp only)
 have hi : x9 t a most = i := by omega
 rw [hi]
 (refine RL.rowF ?_; (repeat first | refine goH ?_ | apply LH.here | apply LH.next); refine And.intro ?_ (And.intro ?_ ?_); rotate_left; rotate_left; (focus ((repeat' first | exact LB.nil | (with_reducible exact LB.refl) | (apply LB.cons; (repeat first | refine goH ?_ | apply LH.here | apply LH.next); refine And.intro ?_ ?_; (focus (try (first | (with_reducible rfl) | (refine congrArg (Pl.mk _) ?_; (first | rfl | (simp; done))) | rfl | (with_reducible refine congrArg (Pl.mk _) ?_)))))))))
 · rfl
 · simp
open Go.RowKit
variable {G : Nat → AV}
def jU (t : List Int) (a : Nat) (most : Int) : List UInt8 := b8 (qi t a 256) :: xp t (adv t a 2) (x9 t (adv t a 1) (q7 .sub .i64 most 1))
def yG (t : List Int) (a : Nat) (most : Int) : Nat := adv t (adv t a 2) (x9 t (adv t a 1) (q7 .sub .i64 most 1))
theorem dsome_c (t : List Int) (a : Nat) (most : Int) (h0 : 1 ≤ most) (h1 : most ≤ 1000) (ht : t.length ≤ 400) (p : Nm) : LP Tryz.prog G 14 [.ptr p 0, iAV most] [(p, z4 t a)] (fun _ => (bv (jU t a most), [(p, z4 t (yG t a most))])) := by
 have hm : q7 .sub .i64 most 1 = most - 1 := by (exact T.num)
 have hb := qQ t (qe t a) (q7 .add .i64 (q7 .sub .i64 most 1) 1) (by (exact T.num)) (by (exact T.num))
 have hN : x9 t (qe t a) (q7 .sub .i64 most 1) ≤ 1000 := by unfold x9; (exact T.num)
 refine goW [] Tryz.func14 rfl ?_
 conv => whnf
 repeat' ((first | (show LC _ _ _ _ _ _; first | (apply LC.upd (zZ t _ _ ht _); (repeat first | refine goH ?_ | apply LH.here | apply LH.next); refine ⟨rfl, ?_⟩) | (apply LC.upd (dbytes_c t _ _ (by (exact T.num)) (by (exact T.num)) ht _); (repeat first | refine goH ?_ | apply LH.here | apply LH.next); refine ⟨rfl, ?_⟩) | refine goE ?_) | refine T.s ?_ | ((first | apply goB | apply AB.dec | apply AB.gen) <;> intro h <;> try (exfalso; omega)) | refine LQ.mk fun r => ?_ | exact T.z | refine ⟨_, rfl, rfl, ?_⟩ | fail) <;> conv => whnf)
 all_goals (try dsimp only)
 (refine RL.rowF ?_; (repeat first | refine goH ?_ | apply LH.here | apply LH.next); refine And.intro ?_ (And.intro ?_ ?_); rotate_left; rotate_left; (focus ((repeat' first | exact LB.nil | (with_reducible exact LB.refl) | (apply LB.cons; (repeat first | refine goH ?_ | apply LH.here | apply LH.next); refine And.intro ?_ ?_; (focus (try (first | (with_reducible rfl) | (refine congrArg (Pl.mk _) ?_; (first | rfl | (simp; done))) | rfl | (with_reducible refine congrArg (Pl.mk _) ?_)))))))))
 · simp [jU, qR, adv]
 · simp [jU, adv]; omega
open Go.RowKit
variable {G : Nat → AV}
structure Hd where
 k : Int
 tos : Int
 id : Int
 fx : Int
 ttl : Int
 fr : Int
 to : Int
 fp : Int
 tp : Int
 ck : Int
 mr : Int
 ty : Int
 sq : Int
 tm : Int
 sr : Int
 deriving DecidableEq
@[reducible] def Hd.av (h : Hd) : AV := .agg [iAV h.k, iAV h.tos, iAV h.id, iAV h.fx, iAV h.ttl, iAV h.fr, iAV h.to, iAV h.fp, iAV h.tp, iAV h.ck, iAV h.mr, iAV h.ty, iAV h.sq, iAV h.tm, iAV h.sr]
def inR (n m : Int) : Bool := decide (0 ≤ n ∧ n ≤ m)
theorem inR_t {n m : Int} (h : 0 ≤ n ∧ n ≤ m) : inR n m = true := decide_eq_true h
theorem inR_f {n m : Int} (h : ¬ (0 ≤ n ∧ n ≤ m)) : inR n m = false := decide_eq_false h
def comR (h : Hd) : Bool := inR h.tos 255 && (inR h.ttl 255 && (inR h.id 65535 && (inR h.fp 65535 && (inR h.tp 65535 && (inR h.ck 65535 && (inR h.fx 1 && (inR h.fr 4294967295 && inR h.to 4294967295)))))))
def udpR (h : Hd) : Bool := decide (h.mr = 0 ∧ h.ty = 0 ∧ h.sq = 0 ∧ h.tm = 0 ∧ h.sr = 0)
def rtpR (h : Hd) : Bool := inR h.mr 1 && (inR h.ty 127 && (inR h.sq 65535 && (inR h.tm 4294967295 && inR h.sr 4294967295)))
def Hd.ok (h : Hd) : Bool := if h.k = 1 then comR h && udpR h else if h.k = 2 then comR h && rtpR h else false
theorem in5_c (n m : Int) : LP Tryz.prog G 122 [iAV n, iAV m] [] (fun _ => (.bool (inR n m), [])) := by
 refine goW [] Tryz.func122 rfl ?_
 conv => whnf
 repeat' ((first | refine T.s ?_ | ((first | apply goB | apply AB.dec | apply AB.gen) <;> intro h <;> try (exfalso; omega)) | refine LQ.mk fun r => ?_ | exact T.z | fail) <;> conv => whnf)
 all_goals (try dsimp only)
 all_goals
   (show RL _ _ _; refine goR ?_)
   simp [inR, qo, *]
theorem in8_c (n m : Int) : LP Tryz.prog G 136 [iAV n, iAV m] [] (fun _ => (.bool (inR n m), [])) := by
 refine goW [] Tryz.func136 rfl ?_
 conv => whnf
 repeat' ((first | refine T.s ?_ | ((first | apply goB | apply AB.dec | apply AB.gen) <;> intro h <;> try (exfalso; omega)) | refine LQ.mk fun r => ?_ | exact T.z | fail) <;> conv => whnf)
 all_goals (try dsimp only)
 all_goals
   (show RL _ _ _; refine goR ?_)
   simp [inR, qo, *]
def kA (g : Int) (l : List Int) : Bool := l.all fun x => inR x g
theorem allIn_take (g : Int) (l : List Int) (i : Nat) (h : i < l.length) : kA g (l.take (i + 1)) = (kA g (l.take i) && inR (l.getD i 0) g) := by
 unfold kA
 rw [List.take_succ_eq_append_getElem h, List.all_append]
 simp [List.getD_eq_getElem?_getD, h]
theorem allIn_bad (g : Int) (l : List Int) (i : Nat) (h : i < l.length) (hb : inR (l.getD i 0) g = false) : kA g l = false := by
 have h1 := allIn_take g l i h
 rw [hb, Bool.and_false] at h1
 cases hc : kA g l with
 | false => rfl
 | true =>
   unfold kA at hc h1
   have h2 : ((l.take (i + 1)).all fun x => inR x g) = true := by
     rw [List.all_eq_true] at hc ⊢
     exact fun x hx => hc x (List.mem_of_mem_take hx)
   rw [h1] at h2
   cases h2
theorem upto_c (g : Int) (l : List Int) (hl : l.length ≤ 1000) : LP Tryz.prog G 119 [iAV g, iv l] [] (fun _ => (.bool (kA g l), [])) := by
 refine goW [] Tryz.func119 rfl ?_
 conv => whnf
 repeat' ((first | (show AC _ _ _; first | (refine AC.idx (i) (0) ?_ ?_ ?_; (focus (first | exact rfl | (simp; done) | (simp; omega))); (focus (first | omega | exact T.side)))) | refine T.s ?_ | ((first | apply goB | apply AB.dec | apply AB.gen) <;> intro h <;> try (exfalso; omega)) | refine LQ.mk fun r => ?_ | (show SQ _ _ _ (.loop _) _ _ _; first | (apply goO tQ [] 2 (S := Nat) [0, 7, 8] (fun i => ⟨[(9, .int .i64 i)], [], i ≤ l.length ∧ kA g (l.take i) = true, l.length - i⟩) (0) (by rfl); (focus (all_goals (try exact KF74); done)); rintro i ⟨hk, hok⟩)) | (show AtL _ _ _ _ _ _ _ _ _ _; first | (apply AtL.mk' (id := 2) (S := Nat) (i + 1); all_goals (try exact KF74); done) | (apply AtL.mk' (id := 2) (S := Nat) (i + 1); all_goals (try exact KF74))) | exact T.z | fail) <;> conv => whnf)
 all_goals (try dsimp only)
 · (show RL _ _ _; refine goR ?_)
   rw [allIn_bad g l i (by omega) (inR_f (by omega))]
 · (show RL _ _ _; refine goR ?_)
   rw [allIn_bad g l i (by omega) (inR_f (by omega))]
 · (show RL _ _ _; refine goR ?_)
   rw [← hok, List.take_of_length_le (by omega)]
structure Dy where
 st : Int
 fo : Int
 deriving DecidableEq
@[reducible] def Dy.av (d : Dy) : AV := .agg [iAV d.st, iAV d.fo]
def Dy.ok (d : Dy) : Bool := inR d.st 65535 && decide (d.fo = 0 ∨ d.fo = 1)
theorem jA (d : Dy) : LP Tryz.prog G 75 [d.av] [] (fun _ => (.bool d.ok, [])) := by
 refine goW [] Tryz.func75 rfl ?_
 conv => whnf
 repeat' ((first | refine T.s ?_ | ((first | apply goB | apply AB.dec | apply AB.gen) <;> intro h <;> try (exfalso; omega)) | refine LQ.mk fun r => ?_ | exact T.z | fail) <;> conv => whnf)
 all_goals (try dsimp only)
 all_goals
   (show RL _ _ _; refine goR ?_)
   refine congrArg AV.bool ?_
   rw [Bool.eq_iff_iff]
   simp [Dy.ok, inR, qo, *]
theorem xP (d : Dy) : LP Tryz.prog G 79 [d.av] [] (fun _ => (.bool d.ok, [])) := by
 refine goW [] Tryz.func79 rfl ?_
 conv => whnf
 repeat' ((first | refine T.s ?_ | ((first | apply goB | apply AB.dec | apply AB.gen) <;> intro h <;> try (exfalso; omega)) | refine LQ.mk fun r => ?_ | exact T.z | fail) <;> conv => whnf)
 all_goals (try dsimp only)
 all_goals
   (show RL _ _ _; refine goR ?_)
   refine congrArg AV.bool ?_
   rw [Bool.eq_iff_iff]
   simp [Dy.ok, inR, qo, *]
def Hd.static (h : Hd) : Hd := ⟨h.k, 0, 0, 0, 0, h.fr, h.to, h.fp, h.tp, 0, 0, 0, 0, 0, h.sr⟩
theorem fstatic_c (h : Hd) : LP Tryz.prog G 77 [h.av] [] (fun _ => (h.static.av, [])) := by
 refine goW [] Tryz.func77 rfl ?_
 conv => whnf
 repeat' ((first | refine T.s ?_ | ((first | apply goB | apply AB.dec | apply AB.gen) <;> intro h <;> try (exfalso; omega)) | refine LQ.mk fun r => ?_ | exact T.z | fail) <;> conv => whnf)
 all_goals (try dsimp only)
 (show RL _ _ _; refine goR ?_)
 rfl
theorem vz (h : Hd) : LP Tryz.prog G 80 [h.av] [] (fun _ => (h.static.av, [])) := by
 refine goW [] Tryz.func80 rfl ?_
 conv => whnf
 repeat' ((first | refine T.s ?_ | ((first | apply goB | apply AB.dec | apply AB.gen) <;> intro h <;> try (exfalso; omega)) | refine LQ.mk fun r => ?_ | exact T.z | fail) <;> conv => whnf)
 all_goals (try dsimp only)
 (show RL _ _ _; refine goR ?_)
 rfl
theorem zg (x : Hd) : LP Tryz.prog G 69 [x.av] [] (fun _ => (.bool x.ok, [])) := by
 refine goW [] Tryz.func69 rfl ?_
 conv => whnf
 repeat' ((first | (show LC _ _ _ _ _ _; first | refine LC.pure (in5_c _ _) ?_ | refine goE ?_) | refine T.s ?_ | ((first | apply goB | apply AB.dec | apply AB.gen) <;> intro h <;> try (exfalso; omega)) | refine LQ.mk fun r => ?_ | exact T.z | fail) <;> conv => whnf)
 all_goals (try dsimp only)
 all_goals
   (show RL _ _ _; refine goR ?_)
   refine congrArg AV.bool ?_
   rw [Bool.eq_iff_iff]
   simp [Hd.ok, comR, udpR, rtpR, inR, qo, *]
theorem zR (x : Hd) : LP Tryz.prog G 67 [x.av] [] (fun _ => (.bool x.ok, [])) := by
 refine goW [1] Tryz.func67 rfl ?_
 conv => whnf
 repeat' ((first | (show LC _ _ _ _ _ _; refine LC.rowI (fun zs hz => upto_c _ zs (by omega)) ?_; conv => whnf) | refine T.s ?_ | ((first | apply goB | apply AB.dec | apply AB.gen) <;> intro h <;> try (exfalso; omega)) | refine LQ.mk fun r => ?_ | (show CutL _ _ _ _ _ _ _ _; first | (refine goK tQ [1] 1 (S := Nm) [] (fun p => ⟨[(3, .bool (comR x)), (1, .ptr p 0)], [(p, ⟨50, [iAV x.k, iAV x.tos, iAV x.id, iAV x.fx, iAV x.ttl, iAV x.fr, iAV x.to, iAV x.fp, iAV x.tp, iAV x.ck, iAV x.mr, iAV x.ty, iAV x.sq, iAV x.tm, iAV x.sr]⟩)], True, 0⟩) ?_ ?_; (rintro p -); rotate_left) | refine CutL.go tQ [1] ?_) | (show AtC _ _ _ _ _ _ _ _; first | (apply AtC.mk' (id := 1) (S := Nm) (_); all_goals (try exact K012); done) | (apply AtC.mk' (id := 1) (S := Nm) (_); all_goals (try exact K012))) | exact T.z | fail) <;> conv => whnf)
 all_goals (try dsimp only)
 all_goals
   (show RL _ _ _; refine goR ?_)
   refine congrArg AV.bool ?_
   rw [Bool.eq_iff_iff]
   simp_all [Hd.ok, udpR, rtpR, kA, ints, qo]
attribute [irreducible] inR
open Go.RowKit
variable {G : Nat → AV}
def Ky.ok (k : Ky) : Bool := decide (k.s.length = 32 ∧ k.g.length = 16 ∧ 0 ≤ k.n ∧ k.n ≤ 4294967295 ∧ 0 ≤ k.b ∧ k.b ≤ 255 ∧ (k.d = 0 ∨ k.d = 1))
attribute [irreducible] Ky.ok
open Go.RowKit
variable {G : Nat → AV}
theorem same_c (a b : List UInt8) : LP Tryz.prog G 20 [bv a, bv b] [] (fun _ => (.bool (decide (a = b)), [])) := by
 refine goW [] Tryz.func20 rfl ?_
 conv => whnf
 repeat' ((first | refine T.s ?_ | ((first | apply goB | apply AB.dec | apply AB.gen) <;> intro h <;> try (exfalso; omega)) | refine LQ.mk fun r => ?_ | exact T.z | refine ⟨_, rfl, rfl, ?_⟩ | fail) <;> conv => whnf)
 all_goals (try dsimp only)
 (show RL _ _ _; refine goR ?_)
 refine congrArg AV.bool ?_
 rw [ByteArray.toList_eq, ByteArray.toList_eq, Bool.eq_iff_iff]
 simp
def qx (n : Int) : Nat → List UInt8
 | 0 => []
 | k + 1 => b8 (n.fdiv (2 ^ min (8 * k) 64)) :: qx n k
end Go.Proofs.YtbagbjacmakfhaaGreatDoor
