/-
  Contracts of the functions that the laws reach.
-/
import Derived.Test.YtbagbjacmakfhaaDoorCr01
import Derived.Test.YtbagbjacmakfhaaDoorCr02
import Derived.Test.YtbagbjacmakfhaaDoorCr03
import Derived.Test.YtbagbjacmakfhaaDoorCr04
set_option maxHeartbeats 2000000
set_option linter.all false
namespace Go.Proofs.YtbagbjacmakfhaaDoor
open Go.RowKit
theorem ipow_le {a b : Nat} (h : a ≤ b) : (2 : Int) ^ a ≤ 2 ^ b := by
 have := Nat.pow_le_pow_right (n := 2) (by decide) h
 exact_mod_cast this
theorem and_mask (x : Int) (n : Nat) (hn : n ≤ 32) : qF .and .i64 x (2 ^ n - 1) = x % 2 ^ n := by
 have hp : (2 : Int) ^ n ≤ 2 ^ 32 := ipow_le hn
 have hp' : (2 : Nat) ^ n ≤ 2 ^ 32 := Nat.pow_le_pow_right (by decide) hn
 have hq : (0 : Int) < 2 ^ n := Int.pow_pos (by decide)
 show IntKind.i64.wrap ((BitVec.ofInt 64 x &&& BitVec.ofInt 64 (2 ^ n - 1)).toNat : Int) = _
 have hd : (2 : Int) ^ n ∣ 2 ^ 64 := ⟨2 ^ (64 - n), by rw [← Int.pow_add]; congr 1; omega⟩
 have e2 : ((2 : Int) ^ n - 1) = ((2 ^ n - 1 : Nat) : Int) := by
   have : 0 < (2 : Nat) ^ n := Nat.pow_pos (by decide)
   rw [Int.ofNat_sub this]; simp
 have e : ((BitVec.ofInt 64 x &&& BitVec.ofInt 64 (2 ^ n - 1)).toNat : Int) = x % 2 ^ n := by
   rw [e2, BitVec.toNat_and, BitVec.ofInt_natCast, BitVec.toNat_ofNat, Nat.mod_eq_of_lt (show 2 ^ n - 1 < 2 ^ 64 by omega), Nat.and_two_pow_sub_one_eq_mod, BitVec.toNat_ofInt]
   have h0 : 0 ≤ x % ((2 : Int) ^ 64) := Int.emod_nonneg _ (by decide)
   have h1 : (((x % (2 : Int) ^ 64).toNat : Nat) : Int) = x % 2 ^ 64 := Int.toNat_of_nonneg h0
   rw [Int.natCast_emod]
   show (((x % (2 : Int) ^ 64).toNat : Nat) : Int) % ((2 ^ n : Nat) : Int) = _
   rw [h1]
   push_cast
   exact Int.emod_emod_of_dvd x hd
 rw [e, IntKind.wrap_i64]
 have h1 := Int.emod_nonneg x (show (2 : Int) ^ n ≠ 0 by omega)
 have h2 := Int.emod_lt_of_pos x hq
 omega
def lw (n x : Int) : Int := x % 2 ^ n.toNat
theorem wB (n : Int) : (0 : Int) < 2 ^ n.toNat := Int.pow_pos (by decide)
theorem yr {n : Int} {m : Nat} (h : n ≤ m) : (2 : Int) ^ n.toNat ≤ 2 ^ m := ipow_le (by omega)
theorem wG (n x : Int) : 0 ≤ lw n x ∧ lw n x < 2 ^ n.toNat := ⟨Int.emod_nonneg x (by have := wB n; omega), Int.emod_lt_of_pos x (wB n)⟩
theorem shl1 {n : Int} (h1 : n ≤ 32) : IntKind.i64.wrap (1 * 2 ^ min n.toNat 64) = 2 ^ n.toNat := by
 have h2 := yr (m := 32) h1
 have h3 := wB n
 rw [show min n.toNat 64 = n.toNat by omega, IntKind.wrap_i64]
 omega
theorem mask_e {n : Int} (h1 : n ≤ 32) : qc .sub .i64 (IntKind.i64.wrap (1 * 2 ^ min n.toNat 64)) 1 = 2 ^ n.toNat - 1 := by
 have h2 := yr (m := 32) h1
 have h3 := wB n
 rw [shl1 h1]
 show IntKind.i64.wrap _ = _
 rw [IntKind.wrap_i64]
 omega
theorem low_e {n : Int} (x : Int) (h1 : n ≤ 32) : qF .and .i64 x (qc .sub .i64 (IntKind.i64.wrap (1 * 2 ^ min n.toNat 64)) 1) = lw n x := by
 rw [mask_e h1]
 exact and_mask x n.toNat (by omega)
theorem dvd64 {n : Int} (h : n ≤ 32) : (2 : Int) ^ n.toNat ∣ 18446744073709551616 := ⟨2 ^ (64 - n.toNat), by rw [← Int.pow_add, show n.toNat + (64 - n.toNat) = 64 by omega]; rfl⟩
theorem ka {n : Int} (x : Int) (h : n ≤ 32) : lw n (IntKind.i64.wrap x) = lw n x := by
 obtain ⟨c, hc⟩ := dvd64 h
 unfold lw
 have : IntKind.i64.wrap x = x - 18446744073709551616 * ((x + 9223372036854775808) / 18446744073709551616) := by
   rw [IntKind.wrap_i64]; omega
 rw [this, hc, Int.mul_assoc, Int.sub_mul_emod_self_left]
theorem lw_small {n x : Int} (h0 : 0 ≤ x) (h1 : x < 2 ^ n.toNat) : lw n x = x := Int.emod_eq_of_lt h0 h1
theorem lw_add_r (n x y : Int) : lw n (x + lw n y) = lw n (x + y) := by unfold lw; exact Int.add_emod_emod ..
def sg (n a b : Int) : Int := if 2 ^ (n - 1).toNat ≤ lw n (b - a) then lw n (b - a) - 2 ^ n.toNat else lw n (b - a)
def yd (k : Int) : Int := 2 ^ (k - 3).toNat - 1
def lsbV (width r k l : Int) : Int := lw width (r - yd k + lw k (l - (r - yd k)))
def jP (width : Int) : Bool := decide (width = 8 ∨ width = 16 ∨ width = 32)
def j0 (width v : Int) : Bool := decide (0 ≤ v ∧ v < 2 ^ width.toNat)
attribute [irreducible] lw
open Go.RowKit
variable {G : Nat → AV}
def z8 (n m : Int) : Int := if m < 1 then 0 else if n.tmod m < 0 then IntKind.i64.wrap (n.tmod m + m) else n.tmod m
theorem yy (n m : Int) : LP Tryd.prog G 8 [iAV n, iAV m] [] (fun _ => (iAV (z8 n m), [])) := by
 refine goW [] Tryd.func8 rfl ?_
 conv => whnf
 repeat' ((first | refine T.s ?_ | ((first | apply goB | apply AB.dec | apply AB.gen) <;> intro h <;> try (exfalso; omega)) | refine LQ.mk fun r => ?_ | exact T.z | fail) <;> conv => whnf)
 all_goals (try dsimp only)
 all_goals
   (show RL _ _ _; refine goR ?_)
   unfold z8
   (repeat first | rw [if_pos (by first | assumption | omega)] | rw [if_neg (by first | assumption | omega)])
   rfl
def zT (t : List Int) (a : Nat) : Pl := ⟨62, [iv t, iAV a]⟩
theorem light_c (t : List Int) : LP Tryd.prog G 12 [iv t] [] (fun _ => (.bool (decide (t.length ≤ 400)), [])) := by
 refine goW [] Tryd.func12 rfl ?_
 conv => whnf
 repeat' ((first | refine T.s ?_ | ((first | apply goB | apply AB.dec | apply AB.gen) <;> intro h <;> try (exfalso; omega)) | refine LQ.mk fun r => ?_ | exact T.z | fail) <;> conv => whnf)
 all_goals (try dsimp only)
 (show RL _ _ _; refine goR ?_)
 simp [ql]
 omega
theorem roll_c (t : List Int) : LP Tryd.prog G 13 [iv t] [] (fun q => (.ptr q 0, [(q, zT t 0)])) := by
 refine goW [] Tryd.func13 rfl ?_
 conv => whnf
 repeat' ((first | refine T.s ?_ | ((first | apply goB | apply AB.dec | apply AB.gen) <;> intro h <;> try (exfalso; omega)) | refine LQ.mk fun r => ?_ | exact T.z | fail) <;> conv => whnf)
 all_goals (try dsimp only)
 refine RL.own r ?_ ?_ ?_
 · rfl
 · (repeat first | refine goH ?_ | apply LH.here | apply LH.next); trivial
 · (repeat' first | exact LB.nil | (with_reducible exact LB.refl) | (apply LB.cons; (repeat first | refine goH ?_ | apply LH.here | apply LH.next); refine And.intro ?_ ?_; (focus (try (first | (with_reducible rfl) | (refine congrArg (Pl.mk _) ?_; (first | rfl | (simp; done))) | rfl | (with_reducible refine congrArg (Pl.mk _) ?_))))))
def qm (t : List Int) (a : Nat) (n : Int) : Int := if a < t.length then z8 (t.getD a 0) n else 0
def zc (t : List Int) (a : Nat) : Nat := if a < t.length then a + 1 else a
theorem ve (n m : Int) (h0 : 0 < m) (h1 : m < 4611686018427387904) : 0 ≤ z8 n m ∧ z8 n m < m := by
 unfold z8
 rw [if_neg (by omega)]
 have h2 : n.tmod m < m := Int.tmod_lt_of_pos n h0
 have h3 : -m < n.tmod m := by
   have := Int.lt_tmod_of_pos n h0
   omega
 split
 · rw [IntKind.wrap_i64]; omega
 · omega
theorem zb (t : List Int) (a : Nat) (m : Int) (h0 : 0 < m) (h1 : m < 4611686018427387904) : 0 ≤ qm t a m ∧ qm t a m < m := by
 unfold qm
 split
 · exact ve _ _ h0 h1
 · omega
theorem jF (t : List Int) (a : Nat) (n : Int) (ht : t.length ≤ 400) (p : Nm) : LP Tryd.prog G 15 [.ptr p 0, iAV n] [(p, zT t a)] (fun _ => (iAV (qm t a n), [(p, zT t (zc t a))])) := by
 refine goW [] Tryd.func15 rfl ?_
 conv => whnf
 repeat' ((first | exact Nm.b 0 | (show LC _ _ _ _ _ _; first | refine LC.pure (yy _ _) ?_ | refine goE ?_) | refine T.s ?_ | ((first | apply goB | apply AB.dec | apply AB.gen) <;> intro h <;> try (exfalso; omega)) | refine LQ.mk fun r => ?_ | (show SQ _ _ _ _ _ _ _; first | (refine goD tQ qf 1 [] [0, 1, 2, 3, 4, 5, 6, 7, 8, 9] [] (by kernel_rfl) ?_) | (refine goD tQ qf 4 [] [0, 1, 2, 3, 4, 5, 6, 7, 8, 9, 10, 11, 12, 13] [] (by kernel_rfl) ?_)) | exact T.z | fail) <;> conv => whnf)
 all_goals (try dsimp only)
 · have e1 : zc t a = a := by unfold zc; (repeat first | rw [if_pos (by first | assumption | omega)] | rw [if_neg (by first | assumption | omega)])
   have e2 : qm t a n = 0 := by unfold qm; (repeat first | rw [if_pos (by first | assumption | omega)] | rw [if_neg (by first | assumption | omega)])
   rw [e1, e2]
   (show RL _ _ _; refine goR ?_)
   rfl
 · have e1 : zc t a = a + 1 := by unfold zc; (repeat first | rw [if_pos (by first | assumption | omega)] | rw [if_neg (by first | assumption | omega)])
   have e2 : qm t a n = z8 (t.getD a 0) n := by unfold qm; (repeat first | rw [if_pos (by first | assumption | omega)] | rw [if_neg (by first | assumption | omega)])
   have h1 : qc .add .i64 (a : Int) 1 = ((a + 1 : Nat) : Int) := by (exact T.num)
   have h2 : qc .sub .i64 ((a + 1 : Nat) : Int) 1 = (a : Int) := by (exact T.num)
   rw [e1, e2, h1, h2]
   (show RL _ _ _; refine goR ?_)
   simp [iAV]
open Go.RowKit
variable {G : Nat → AV}
def wF (t : List Int) (a : Nat) (n : Int) : Bool := ql .eql (qm t a n) (qc .sub .i64 n 1)
theorem one_c (t : List Int) (a : Nat) (n : Int) (ht : t.length ≤ 400) (p : Nm) : LP Tryd.prog G 29 [.ptr p 0, iAV n] [(p, zT t a)] (fun _ => (.bool (wF t a n), [(p, zT t (zc t a))])) := by
 refine goW [] Tryd.func29 rfl ?_
 conv => whnf
 repeat' ((first | (show LC _ _ _ _ _ _; first | (apply LC.upd (jF t _ _ ht _); (repeat first | refine goH ?_ | apply LH.here | apply LH.next); refine ⟨rfl, ?_⟩) | refine goE ?_) | refine T.s ?_ | ((first | apply goB | apply AB.dec | apply AB.gen) <;> intro h <;> try (exfalso; omega)) | refine LQ.mk fun r => ?_ | exact T.z | fail) <;> conv => whnf)
 all_goals (try dsimp only)
 (show RL _ _ _; refine goR ?_)
 rfl
structure Ky where
 s : List UInt8
 g : List UInt8
 n : Int
 b : Int
 d : Int
def Ky.av (k : Ky) : AV := .agg [bv k.s, bv k.g, iAV k.n, iAV k.b, iAV k.d]
def adv (t : List Int) (a : Nat) : Nat → Nat
 | 0 => a
 | k + 1 => zc t (adv t a k)
def zQ (t : List Int) (a k : Nat) : List UInt8 := (List.range k).map fun j => b8 (qm t (adv t a j) 256)
@[simp] theorem bytesL_len (t : List Int) (a k : Nat) : (zQ t a k).length = k := by simp [zQ]
def xd (t : List Int) (a : Nat) (most : Int) : Nat := (qm t a (qc .add .i64 most 1)).toNat
theorem dbytes_c (t : List Int) (a : Nat) (most : Int) (h0 : 0 ≤ most) (h1 : most ≤ 1000) (ht : t.length ≤ 400) (p : Nm) : LP Tryd.prog G 16 [.ptr p 0, iAV most] [(p, zT t a)] (fun _ => (bv (zQ t (zc t a) (xd t a most)), [(p, zT t (adv t (zc t a) (xd t a most)))])) := by
 have hm : qc .add .i64 most 1 = most + 1 := by (exact T.num)
 have hb := zb t a (qc .add .i64 most 1) (by omega) (by omega)
 have hN : qm t a (qc .add .i64 most 1) = (xd t a most : Int) := by unfold xd; omega
 refine goW [] Tryd.func16 rfl ?_
 conv => whnf
 repeat' ((first | (show LC _ _ _ _ _ _; first | (apply LC.upd (jF t _ _ ht _); (repeat first | refine goH ?_ | apply LH.here | apply LH.next); refine ⟨rfl, ?_⟩) | refine goE ?_) | refine T.s ?_ | ((first | apply goB | apply AB.dec | apply AB.gen) <;> intro h <;> try (exfalso; omega)) | refine LQ.mk fun r => ?_ | (show SQ _ _ _ (.loop _) _ _ _; first | (apply goO tQ [] 3 (S := Nat × Nm) [0] (fun (i, q) => ⟨[(5, .vw q 0 i 1), (6, .int .i64 ((xd t a most : Int) - (i : Int)))], [(p, zT t (adv t (zc t a) i)), (q, ⟨5, (zQ t (zc t a) i).map bAV⟩)], i ≤ xd t a most, xd t a most - i⟩) ((0, q)) (by rfl); (focus (all_goals (try exact K8FA); done)); rintro ⟨i, q⟩ hok; (try dsimp only at hok))) | (show SQ _ _ _ _ _ _ _; first | refine SQ.adopt 5 1 5 (by rfl) fun q => ?_) | (show AtL _ _ _ _ _ _ _ _ _ _; first | (apply AtL.mk' (id := 3) (S := Nat × Nm) ((i + 1, _)); all_goals (try exact K8FA); done) | (apply AtL.mk' (id := 3) (S := Nat × Nm) ((i + 1, _)); all_goals (try exact K8FA))) | exact T.z | refine ⟨_, rfl, rfl, ?_⟩ | fail) <;> conv => whnf)
 all_goals (try dsimp only)
 have hi : xd t a most = i := by omega
 rw [hi]
 (refine RL.rowF ?_; (repeat first | refine goH ?_ | apply LH.here | apply LH.next); refine And.intro ?_ (And.intro ?_ ?_); rotate_left; rotate_left; (focus ((repeat' first | exact LB.nil | (with_reducible exact LB.refl) | (apply LB.cons; (repeat first | refine goH ?_ | apply LH.here | apply LH.next); refine And.intro ?_ ?_; (focus (try (first | (with_reducible rfl) | (refine congrArg (Pl.mk _) ?_; (first | rfl | (simp; done))) | rfl | (with_reducible refine congrArg (Pl.mk _) ?_)))))))))
 · rfl
 · simp
open Go.RowKit
variable {G : Nat → AV}
structure Hd where
 k : Int
 tos : Int
 id : Int
 fx : Int
 ttl : Int
 fr : Int
 to : Int
 fp : Int
 tp : Int
 ck : Int
 mr : Int
 ty : Int
 sq : Int
 tm : Int
 sr : Int
 deriving DecidableEq
@[reducible] def Hd.av (h : Hd) : AV := .agg [iAV h.k, iAV h.tos, iAV h.id, iAV h.fx, iAV h.ttl, iAV h.fr, iAV h.to, iAV h.fp, iAV h.tp, iAV h.ck, iAV h.mr, iAV h.ty, iAV h.sq, iAV h.tm, iAV h.sr]
def inR (n m : Int) : Bool := decide (0 ≤ n ∧ n ≤ m)
theorem inR_t {n m : Int} (h : 0 ≤ n ∧ n ≤ m) : inR n m = true := decide_eq_true h
theorem inR_f {n m : Int} (h : ¬ (0 ≤ n ∧ n ≤ m)) : inR n m = false := decide_eq_false h
def jL (h : Hd) : Bool := inR h.tos 255 && (inR h.ttl 255 && (inR h.id 65535 && (inR h.fp 65535 && (inR h.tp 65535 && (inR h.ck 65535 && (inR h.fx 1 && (inR h.fr 4294967295 && inR h.to 4294967295)))))))
def yM (h : Hd) : Bool := decide (h.mr = 0 ∧ h.ty = 0 ∧ h.sq = 0 ∧ h.tm = 0 ∧ h.sr = 0)
def vU (h : Hd) : Bool := inR h.mr 1 && (inR h.ty 127 && (inR h.sq 65535 && (inR h.tm 4294967295 && inR h.sr 4294967295)))
def Hd.ok (h : Hd) : Bool := if h.k = 1 then jL h && yM h else if h.k = 2 then jL h && vU h else false
theorem in5_c (n m : Int) : LP Tryd.prog G 81 [iAV n, iAV m] [] (fun _ => (.bool (inR n m), [])) := by
 refine goW [] Tryd.func81 rfl ?_
 conv => whnf
 repeat' ((first | refine T.s ?_ | ((first | apply goB | apply AB.dec | apply AB.gen) <;> intro h <;> try (exfalso; omega)) | refine LQ.mk fun r => ?_ | exact T.z | fail) <;> conv => whnf)
 all_goals (try dsimp only)
 all_goals
   (show RL _ _ _; refine goR ?_)
   simp [inR, ql, *]
def ji (g : Int) (l : List Int) : Bool := l.all fun x => inR x g
theorem wX (g : Int) (l : List Int) (i : Nat) (h : i < l.length) : ji g (l.take (i + 1)) = (ji g (l.take i) && inR (l.getD i 0) g) := by
 unfold ji
 rw [List.take_succ_eq_append_getElem h, List.all_append]
 simp [List.getD_eq_getElem?_getD, h]
theorem yK (g : Int) (l : List Int) (i : Nat) (h : i < l.length) (hb : inR (l.getD i 0) g = false) : ji g l = false := by
 have h1 := wX g l i h
 rw [hb, Bool.and_false] at h1
 cases hc : ji g l with
 | false => rfl
 | true =>
   unfold ji at hc h1
   have h2 : ((l.take (i + 1)).all fun x => inR x g) = true := by
     rw [List.all_eq_true] at hc ⊢
     exact fun x hx => hc x (List.mem_of_mem_take hx)
   rw [h1] at h2
   cases h2
theorem upto_c (g : Int) (l : List Int) (hl : l.length ≤ 1000) : LP Tryd.prog G 79 [iAV g, iv l] [] (fun _ => (.bool (ji g l), [])) := by
 refine goW [] Tryd.func79 rfl ?_
 conv => whnf
 repeat' ((first | (show AC _ _ _; first | (refine AC.idx (i) (0) ?_ ?_ ?_; (focus (first | exact rfl | (simp; done) | (simp; omega))); (focus (first | omega | exact T.side)))) | refine T.s ?_ | ((first | apply goB | apply AB.dec | apply AB.gen) <;> intro h <;> try (exfalso; omega)) | refine LQ.mk fun r => ?_ | (show SQ _ _ _ (.loop _) _ _ _; first | (apply goO tQ [] 2 (S := Nat) [0, 7, 8] (fun i => ⟨[(9, .int .i64 i)], [], i ≤ l.length ∧ ji g (l.take i) = true, l.length - i⟩) (0) (by rfl); (focus (all_goals (try exact KF74); done)); rintro i ⟨hk, hok⟩)) | (show AtL _ _ _ _ _ _ _ _ _ _; first | (apply AtL.mk' (id := 2) (S := Nat) (i + 1); all_goals (try exact KF74); done) | (apply AtL.mk' (id := 2) (S := Nat) (i + 1); all_goals (try exact KF74))) | exact T.z | fail) <;> conv => whnf)
 all_goals (try dsimp only)
 · (show RL _ _ _; refine goR ?_)
   rw [yK g l i (by omega) (inR_f (by omega))]
 · (show RL _ _ _; refine goR ?_)
   rw [yK g l i (by omega) (inR_f (by omega))]
 · (show RL _ _ _; refine goR ?_)
   rw [← hok, List.take_of_length_le (by omega)]
structure Dy where
 st : Int
 fo : Int
 deriving DecidableEq
@[reducible] def Dy.av (d : Dy) : AV := .agg [iAV d.st, iAV d.fo]
def Dy.ok (d : Dy) : Bool := inR d.st 65535 && decide (d.fo = 0 ∨ d.fo = 1)
theorem xD (d : Dy) : LP Tryd.prog G 46 [d.av] [] (fun _ => (.bool d.ok, [])) := by
 refine goW [] Tryd.func46 rfl ?_
 conv => whnf
 repeat' ((first | refine T.s ?_ | ((first | apply goB | apply AB.dec | apply AB.gen) <;> intro h <;> try (exfalso; omega)) | refine LQ.mk fun r => ?_ | exact T.z | fail) <;> conv => whnf)
 all_goals (try dsimp only)
 all_goals
   (show RL _ _ _; refine goR ?_)
   refine congrArg AV.bool ?_
   rw [Bool.eq_iff_iff]
   simp [Dy.ok, inR, ql, *]
theorem kH (d : Dy) : LP Tryd.prog G 50 [d.av] [] (fun _ => (.bool d.ok, [])) := by
 refine goW [] Tryd.func50 rfl ?_
 conv => whnf
 repeat' ((first | refine T.s ?_ | ((first | apply goB | apply AB.dec | apply AB.gen) <;> intro h <;> try (exfalso; omega)) | refine LQ.mk fun r => ?_ | exact T.z | fail) <;> conv => whnf)
 all_goals (try dsimp only)
 all_goals
   (show RL _ _ _; refine goR ?_)
   refine congrArg AV.bool ?_
   rw [Bool.eq_iff_iff]
   simp [Dy.ok, inR, ql, *]
def Hd.static (h : Hd) : Hd := ⟨h.k, 0, 0, 0, 0, h.fr, h.to, h.fp, h.tp, 0, 0, 0, 0, 0, h.sr⟩
theorem yB (h : Hd) : LP Tryd.prog G 48 [h.av] [] (fun _ => (h.static.av, [])) := by
 refine goW [] Tryd.func48 rfl ?_
 conv => whnf
 repeat' ((first | refine T.s ?_ | ((first | apply goB | apply AB.dec | apply AB.gen) <;> intro h <;> try (exfalso; omega)) | refine LQ.mk fun r => ?_ | exact T.z | fail) <;> conv => whnf)
 all_goals (try dsimp only)
 (show RL _ _ _; refine goR ?_)
 rfl
theorem r6static_c (h : Hd) : LP Tryd.prog G 52 [h.av] [] (fun _ => (h.static.av, [])) := by
 refine goW [] Tryd.func52 rfl ?_
 conv => whnf
 repeat' ((first | refine T.s ?_ | ((first | apply goB | apply AB.dec | apply AB.gen) <;> intro h <;> try (exfalso; omega)) | refine LQ.mk fun r => ?_ | exact T.z | fail) <;> conv => whnf)
 all_goals (try dsimp only)
 (show RL _ _ _; refine goR ?_)
 rfl
theorem r5valid_c (x : Hd) : LP Tryd.prog G 51 [x.av] [] (fun _ => (.bool x.ok, [])) := by
 refine goW [] Tryd.func51 rfl ?_
 conv => whnf
 repeat' ((first | (show LC _ _ _ _ _ _; first | refine LC.pure (in5_c _ _) ?_ | refine goE ?_) | refine T.s ?_ | ((first | apply goB | apply AB.dec | apply AB.gen) <;> intro h <;> try (exfalso; omega)) | refine LQ.mk fun r => ?_ | exact T.z | fail) <;> conv => whnf)
 all_goals (try dsimp only)
 all_goals
   (show RL _ _ _; refine goR ?_)
   refine congrArg AV.bool ?_
   rw [Bool.eq_iff_iff]
   simp [Hd.ok, jL, yM, vU, inR, ql, *]
theorem zt (x : Hd) : LP Tryd.prog G 45 [x.av] [] (fun _ => (.bool x.ok, [])) := by
 refine goW [1] Tryd.func45 rfl ?_
 conv => whnf
 repeat' ((first | (show LC _ _ _ _ _ _; refine LC.rowI (fun zs hz => upto_c _ zs (by omega)) ?_; conv => whnf) | refine T.s ?_ | ((first | apply goB | apply AB.dec | apply AB.gen) <;> intro h <;> try (exfalso; omega)) | refine LQ.mk fun r => ?_ | (show CutL _ _ _ _ _ _ _ _; first | (refine goK tQ [1] 1 (S := Nm) [] (fun p => ⟨[(3, .bool (jL x)), (1, .ptr p 0)], [(p, ⟨38, [iAV x.k, iAV x.tos, iAV x.id, iAV x.fx, iAV x.ttl, iAV x.fr, iAV x.to, iAV x.fp, iAV x.tp, iAV x.ck, iAV x.mr, iAV x.ty, iAV x.sq, iAV x.tm, iAV x.sr]⟩)], True, 0⟩) ?_ ?_; (rintro p -); rotate_left) | refine CutL.go tQ [1] ?_) | (show AtC _ _ _ _ _ _ _ _; first | (apply AtC.mk' (id := 1) (S := Nm) (_); all_goals (try exact K012); done) | (apply AtC.mk' (id := 1) (S := Nm) (_); all_goals (try exact K012))) | exact T.z | fail) <;> conv => whnf)
 all_goals (try dsimp only)
 all_goals
   (show RL _ _ _; refine goR ?_)
   refine congrArg AV.bool ?_
   rw [Bool.eq_iff_iff]
   simp_all [Hd.ok, yM, vU, ji, ints, ql]
attribute [irreducible] inR
open Go.RowKit
variable {G : Nat → AV}
def Ky.ok (k : Ky) : Bool := decide (k.s.length = 32 ∧ k.g.length = 16 ∧ 0 ≤ k.n ∧ k.n ≤ 4294967295 ∧ 0 ≤ k.b ∧ k.b ≤ 255 ∧ (k.d = 0 ∨ k.d = 1))
attribute [irreducible] Ky.ok
open Go.RowKit
variable {G : Nat → AV}
def qu (n : Int) : Nat → List UInt8
 | 0 => []
 | k + 1 => b8 (n.fdiv (2 ^ min (8 * k) 64)) :: qu n k
open Go.RowKit
def crcB (k p r b : Nat) : Nat := if r / 2 ^ (k - 1) = b then (2 * r) % 2 ^ k else ((2 * r) % 2 ^ k) ^^^ p
def jh (k p r c : Nat) : Nat → Nat
 | 0 => r
 | j + 1 => crcB k p (jh k p r c j) (c / 2 ^ (7 - j) % 2)
def xV (k p : Nat) (r : Nat) : List UInt8 → Nat
 | [] => r
 | c :: l => xV k p (jh k p r c.toNat 8) l
theorem crcL_app (k p : Nat) : ∀ (l m : List UInt8) (r : Nat), xV k p r (l ++ m) = xV k p (xV k p r l) m
 | [], _, _ => rfl
 | c :: l, m, r => crcL_app k p l m _
theorem crcL_take (k p r : Nat) (l : List UInt8) (i : Nat) (h : i < l.length) : xV k p r (l.take (i + 1)) = jh k p (xV k p r (l.take i)) (l.getD i 0).toNat 8 := by
 rw [List.take_succ_eq_append_getElem h, crcL_app]
 simp [xV, List.getD_eq_getElem?_getD, h]
theorem crcB_lt {k p r b : Nat} (hp : p < 2 ^ k) : crcB k p r b < 2 ^ k := by
 have h : (2 * r) % 2 ^ k < 2 ^ k := Nat.mod_lt _ (Nat.pow_pos (by decide))
 unfold crcB
 split
 · exact h
 · exact Nat.xor_lt_two_pow h hp
theorem vz {k p r c : Nat} (hp : p < 2 ^ k) (hr : r < 2 ^ k) : ∀ j, jh k p r c j < 2 ^ k
 | 0 => hr
 | _ + 1 => crcB_lt hp
theorem wm {k p : Nat} (hp : p < 2 ^ k) : ∀ (l : List UInt8) {r : Nat}, r < 2 ^ k → xV k p r l < 2 ^ k
 | [], _, h => h
 | _ :: l, _, h => wm hp l (vz hp h 8)
theorem crcN_zero (k p r c : Nat) : jh k p r c 0 = r := rfl
theorem yF (k p r c j : Nat) : jh k p r c (j + 1) = crcB k p (jh k p r c j) (c / 2 ^ (7 - j) % 2) := rfl
theorem crcL_nil (k p r : Nat) : xV k p r [] = r := rfl
attribute [irreducible] crcB jh xV
def j6 (n : Int) : Int := if n = 3 then 3 else if n = 7 then 9 else if n = 8 then 7 else if n = 16 then 4129 else if n = 24 then 8801531 else 0
def vv (n : Int) (l : List UInt8) : Int := (xV n.toNat (j6 n).toNat (2 ^ n.toNat - 1) l : Nat)
theorem crcS_eq (n : Int) (l : List UInt8) : (xV n.toNat (j6 n).toNat (2 ^ n.toNat - 1) l : Int) = vv n l := rfl
attribute [irreducible] vv
theorem ixor_nat (a b : Nat) (ha : a < 4294967296) (hb : b < 4294967296) : qF .xor .i64 (a : Int) (b : Int) = ((a ^^^ b : Nat) : Int) := by
 show IntKind.i64.wrap ((BitVec.ofInt 64 (a : Int) ^^^ BitVec.ofInt 64 (b : Int)).toNat : Int) = _
 have h : a ^^^ b < 2 ^ 32 := Nat.xor_lt_two_pow ha hb
 rw [BitVec.toNat_xor, BitVec.ofInt_natCast, BitVec.ofInt_natCast, BitVec.toNat_ofNat, BitVec.toNat_ofNat, Nat.mod_eq_of_lt (show a < 2 ^ 64 by omega), Nat.mod_eq_of_lt (show b < 2 ^ 64 by omega), IntKind.wrap_i64]
 omega
section
variable {n : Int} {R c j : Nat}
theorem top_e (hn : 1 ≤ n ∧ n ≤ 32) : (R : Int).fdiv (2 ^ min (qc .sub .i64 n 1).toNat IntKind.i64.bits) = ((R / 2 ^ (n.toNat - 1) : Nat) : Int) := by
 have e : qc .sub .i64 n 1 = n - 1 := by (exact T.num)
 rw [e, Int.fdiv_eq_ediv_of_nonneg _ (Int.le_of_lt (Int.pow_pos (by decide))), show min (n - 1).toNat IntKind.i64.bits = n.toNat - 1 by show min _ 64 = _; omega]
 simp
theorem shc_e (hc : c < 256) (hj : j < 8) : qF .and .i64 ((IntKind.i64.wrap (c : Int)).fdiv (2 ^ min (7 - (j : Int)).toNat IntKind.i64.bits)) 1 = ((c / 2 ^ (7 - j) % 2 : Nat) : Int) := by
 rw [show IntKind.i64.wrap (c : Int) = c by rw [IntKind.wrap_i64]; omega, Int.fdiv_eq_ediv_of_nonneg _ (Int.le_of_lt (Int.pow_pos (by decide))), show min (7 - (j : Int)).toNat IntKind.i64.bits = 7 - j by show min _ 64 = _; omega]
 refine (and_mask _ 1 (by decide)).trans ?_
 simp
theorem xor_ne {a b : Nat} (ha : a < 2) (hb : b < 2) : a ^^^ b = 1 ↔ a ≠ b := by
 obtain rfl | rfl : a = 0 ∨ a = 1 := by omega
 · obtain rfl | rfl : b = 0 ∨ b = 1 := by omega
   · decide
   · decide
 · obtain rfl | rfl : b = 0 ∨ b = 1 := by omega
   · decide
   · decide
theorem shl_e (hn : 1 ≤ n ∧ n ≤ 24) (hR : R < 2 ^ n.toNat) : qF .and .i64 (IntKind.i64.wrap ((R : Int) * 2 ^ min (1 : Int).toNat IntKind.i64.bits)) (qc .sub .i64 (IntKind.i64.wrap (1 * 2 ^ min n.toNat IntKind.i64.bits)) 1) = ((2 * R % 2 ^ n.toNat : Nat) : Int) := by
 have h := Nat.pow_le_pow_right (n := 2) (by decide) (show n.toNat ≤ 24 by omega)
 refine (low_e _ (by omega)).trans ?_
 rw [ka _ (by omega)]
 unfold lw
 rw [show (R : Int) * 2 ^ min (1 : Int).toNat IntKind.i64.bits = ((2 * R : Nat) : Int) by show (R : Int) * 2 ^ 1 = _; push_cast; omega]
 simp
theorem topx {p r : Nat} (hn : 1 ≤ n ∧ n ≤ 24) (hR : R < 2 ^ n.toNat) (hc : c < 256) (hj : j < 8) : qF .xor .i64 ((R : Int).fdiv (2 ^ min (qc .sub .i64 n 1).toNat IntKind.i64.bits)) (qF .and .i64 ((IntKind.i64.wrap (c : Int)).fdiv (2 ^ min (7 - (j : Int)).toNat IntKind.i64.bits)) 1) = 1 ↔ R / 2 ^ (n.toNat - 1) ≠ c / 2 ^ (7 - j) % 2 := by
 have h1 : R / 2 ^ (n.toNat - 1) < 2 := by
   rw [Nat.div_lt_iff_lt_mul (Nat.pow_pos (by decide)), Nat.mul_comm, ← Nat.pow_succ, show (n.toNat - 1).succ = n.toNat by omega]
   exact hR
 have h2 : c / 2 ^ (7 - j) % 2 < 2 := Nat.mod_lt _ (by decide)
 rw [top_e (by omega), shc_e hc hj, ixor_nat _ _ (by omega) (by omega), ← xor_ne h1 h2]
 exact ⟨fun h => by exact_mod_cast h, fun h => by exact_mod_cast h⟩
theorem crc_t {p r : Nat} (hn : 1 ≤ n ∧ n ≤ 24) (hp : p < 2 ^ n.toNat) (hr : r < 2 ^ n.toNat) (hc : c < 256) (hj0 : (0 : Int) ≤ 7 - (j : Int))
   (h : qF .xor .i64 ((jh n.toNat p r c j : Int).fdiv (2 ^ min (qc .sub .i64 n 1).toNat IntKind.i64.bits)) (qF .and .i64 ((IntKind.i64.wrap (c : Int)).fdiv (2 ^ min (7 - (j : Int)).toNat IntKind.i64.bits)) 1) = 1) :
   qF .xor .i64 (qF .and .i64 (IntKind.i64.wrap ((jh n.toNat p r c j : Int) * 2 ^ min (1 : Int).toNat IntKind.i64.bits)) (qc .sub .i64 (IntKind.i64.wrap (1 * 2 ^ min n.toNat IntKind.i64.bits)) 1)) (p : Int) = ((jh n.toNat p r c (j + 1) : Nat) : Int) := by
 have hj : j < 8 := by omega
 have hR := vz (c := c) hp hr j
 have h24 := Nat.pow_le_pow_right (n := 2) (by decide) (show n.toNat ≤ 24 by omega)
 rw [topx (p := p) (r := r) hn hR hc hj] at h
 have h3 : 2 * jh n.toNat p r c j % 2 ^ n.toNat < 2 ^ n.toNat := Nat.mod_lt _ (Nat.pow_pos (by decide))
 rw [shl_e hn hR, ixor_nat _ _ (by omega) (by omega), yF]
 unfold crcB
 rw [if_neg h]
theorem crc_f {p r : Nat} (hn : 1 ≤ n ∧ n ≤ 24) (hp : p < 2 ^ n.toNat) (hr : r < 2 ^ n.toNat) (hc : c < 256) (hj0 : (0 : Int) ≤ 7 - (j : Int))
   (h : ¬ qF .xor .i64 ((jh n.toNat p r c j : Int).fdiv (2 ^ min (qc .sub .i64 n 1).toNat IntKind.i64.bits)) (qF .and .i64 ((IntKind.i64.wrap (c : Int)).fdiv (2 ^ min (7 - (j : Int)).toNat IntKind.i64.bits)) 1) = 1) :
   qF .and .i64 (IntKind.i64.wrap ((jh n.toNat p r c j : Int) * 2 ^ min (1 : Int).toNat IntKind.i64.bits)) (qc .sub .i64 (IntKind.i64.wrap (1 * 2 ^ min n.toNat IntKind.i64.bits)) 1) = ((jh n.toNat p r c (j + 1) : Nat) : Int) := by
 have hj : j < 8 := by omega
 have hR := vz (c := c) hp hr j
 rw [topx (p := p) (r := r) hn hR hc hj] at h
 rw [shl_e hn hR, yF]
 unfold crcB
 rw [if_pos (by omega)]
end
def qI (x : Int) : Int := if x ≤ 0 then 0 else (x - 1) % 65535 + 1
theorem foldR_small {x : Int} (h0 : 0 ≤ x) (h : x ≤ 65535) : qI x = x := by unfold qI; split <;> omega
theorem foldR_step {x : Int} (h : 65535 < x) : qI (x % 65536 + x / 65536) = qI x := by
 unfold qI
 rw [if_neg (by omega), if_neg (by omega)]
 omega
theorem yC (x : Int) : 0 ≤ qI x ∧ qI x ≤ 65535 := by unfold qI; split <;> omega
theorem foldR_add {x y : Int} (h0 : 0 ≤ x) (h : 0 ≤ y) : qI (qI x + y) = qI (x + y) := by
 unfold qI
 split
 · split <;> split <;> omega
 · split <;> split <;> omega
def za : List UInt8 → Int
 | [] => 0
 | [a] => 256 * (a.toNat : Int)
 | a :: b :: l => 256 * (a.toNat : Int) + (b.toNat : Int) + za l
theorem kB (l : List UInt8) : ∀ (j : Nat), 2 * j < l.length → za (l.take (2 * (j + 1))) = za (l.take (2 * j)) + (256 * ((l.getD (2 * j) 0).toNat : Int) + ((l.getD (2 * j + 1) 0).toNat : Int)) := by
 intro j
 induction j generalizing l with
 | zero =>
   intro h
   match l, h with
   | [a], _ => simp [za]
   | a :: b :: l, _ => simp [za]
 | succ j ih =>
   intro h
   match l, h with
   | a :: b :: l, h =>
     have h2 : 2 * j < l.length := by simp at h; omega
     have := ih l h2
     have e1 : List.take (2 * (j + 1 + 1)) (a :: b :: l) = a :: b :: List.take (2 * (j + 1)) l := rfl
     have e2 : List.take (2 * (j + 1)) (a :: b :: l) = a :: b :: List.take (2 * j) l := rfl
     have e3 : (a :: b :: l).getD (2 * (j + 1)) 0 = l.getD (2 * j) 0 := rfl
     have e4 : (a :: b :: l).getD (2 * (j + 1) + 1) 0 = l.getD (2 * j + 1) 0 := rfl
     rw [e1, e2, e3, e4]
     simp only [za]
     omega
theorem xz (l : List UInt8) : ∀ n, l.length ≤ 2 * n → 0 ≤ za l ∧ za l ≤ 65535 * (n : Int) := by
 intro n
 induction n generalizing l with
 | zero => intro h; obtain rfl := List.eq_nil_of_length_eq_zero (by omega : l.length = 0); exact ⟨by decide, by decide⟩
 | succ n ih =>
   intro h
   match l, h with
   | [], _ => exact ⟨by decide, by simp only [za]; omega⟩
   | [a], _ => have := a.toNat_lt; simp only [za]; omega
   | a :: b :: l, h =>
     have h1 := a.toNat_lt
     have h2 := b.toNat_lt
     have := ih l (by simp at h; omega)
     simp only [za]
     omega
theorem foldR_id {x : Int} (h : ¬ 65535 < x) (h0 : 0 ≤ x) : qI x = x := foldR_small h0 (by omega)
theorem wsum_nil : za [] = 0 := rfl
attribute [irreducible] za qI
def csR (l : List UInt8) : Int := 65535 - qI (za l)
def qq (h : Hd) : List UInt8 :=
 [69, b8 h.tos, 0, 0] ++ qu h.id 2 ++ [b8 (64 * h.fx), 0, b8 h.ttl, 17, 0, 0] ++ qu h.fr 4 ++ qu h.to 4 ++ qu h.fp 2 ++ qu h.tp 2 ++ [0, 0] ++ qu h.ck 2 ++
   (if h.k = 2 then [128, b8 (128 * h.mr + h.ty)] ++ qu h.sq 2 ++ qu h.tm 4 ++ qu h.sr 4 else [])
@[simp] theorem putBlen (n : Int) (k : Nat) : (qu n k).length = k := by
 induction k with
 | zero => rfl
 | succ k ih => simp [qu, ih]
theorem qT (h : Hd) : (qq h).length = if h.k = 2 then 40 else 28 := by unfold qq; split <;> simp
def yb (l : List UInt8) (a : Nat) (xs : List UInt8) : List UInt8 := l.take a ++ xs ++ l.drop (a + xs.length)
theorem jQ {l : List UInt8} {a : Nat} {xs : List UInt8} (h : a + xs.length ≤ l.length) : (yb l a xs).length = l.length := by simp [yb]; omega
def wU (h : Hd) (p : List UInt8) : List UInt8 := yb (yb (qq h ++ p) 2 (qu (((qq h).length + p.length : Nat) : Int) 2)) 24 (qu (((qq h).length + p.length : Nat) - 20) 2)
def wc (h : Hd) (p : List UInt8) : List UInt8 := yb (wU h p) 10 (qu (csR ((wU h p).take 20)) 2)
def zC (h : Hd) (p : List UInt8) : List UInt8 × Int :=
 if h.ok = true then (if (qq h).length + p.length ≤ 1500 then (wc h p, 0) else ([], 2)) else ([], 1)
def headO (h : Hd) : List UInt8 := if h.ok = true then qq h else []
theorem bld1_len (h : Hd) (p : List UInt8) : (wU h p).length = (qq h).length + p.length := by
 have h1 := qT h
 have h2 : 28 ≤ (qq h).length := by rw [h1]; split <;> omega
 unfold wU
 rw [jQ, jQ, List.length_append]
 · simp; omega
 · rw [jQ] <;> simp <;> omega
theorem bldL_len (h : Hd) (p : List UInt8) : (wc h p).length = (qq h).length + p.length := by
 have h1 := qT h
 have h2 : 28 ≤ (qq h).length := by rw [h1]; split <;> omega
 unfold wc
 rw [jQ, bld1_len]
 rw [bld1_len]; simp; omega
end Go.Proofs.YtbagbjacmakfhaaDoor
