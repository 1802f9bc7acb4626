/-
  Contracts of the functions that the laws reach.
-/
import Derived.Test.YtbagbjacmakfhaaDoorCr01
import Derived.Test.YtbagbjacmakfhaaDoorCr02
import Derived.Test.YtbagbjacmakfhaaDoorCr03
import Derived.Test.YtbagbjacmakfhaaDoorCr04
import Derived.Test.YtbagbjacmakfhaaDoorCr05
import Derived.Test.YtbagbjacmakfhaaDoorCr06
import Derived.Test.YtbagbjacmakfhaaDoorCr07
import Derived.Test.YtbagbjacmakfhaaDoorCr08
import Derived.Test.YtbagbjacmakfhaaDoorCr09
import Derived.Test.YtbagbjacmakfhaaDoorCr10
set_option maxHeartbeats 8000000
set_option linter.all false
namespace Go.Proofs.YtbagbjacmakfhaaDoor
open Go.RowKit
variable {G : Nat → AV}
theorem vP (n : Int) (h1 : 1 ≤ n) (h2 : n ≤ 32) : LP Tryd.prog G 67 [iAV n] [] (fun _ => (.bool true, [])) := by
 refine goW [] Tryd.func67 rfl ?_
 conv => whnf
 repeat' ((first | refine T.s ?_ | ((first | apply goB | apply AB.dec | apply AB.gen) <;> intro h <;> try (exfalso; omega)) | refine LQ.mk fun r => ?_ | exact T.z | fail) <;> conv => whnf)
 all_goals (try dsimp only)
 all_goals
   (show RL _ _ _; refine goR ?_)
   simp [ql] <;> omega
theorem zZ (n x : Int) (h1 : 1 ≤ n) (h2 : n ≤ 32) : LP Tryd.prog G 70 [iAV n, iAV x] [] (fun _ => (iAV (lw n x), [])) := by
 refine goW [] Tryd.func70 rfl ?_
 conv => whnf
 repeat' ((first | (show LC _ _ _ _ _ _; first | refine LC.pure (vP _ h1 h2) ?_ | refine goE ?_) | refine T.s ?_ | ((first | apply goB | apply AB.dec | apply AB.gen) <;> intro h <;> try (exfalso; omega)) | refine LQ.mk fun r => ?_ | exact T.z | fail) <;> conv => whnf)
 all_goals (try dsimp only)
 (show RL _ _ _; refine goR ?_)
 exact congrArg iAV (low_e x h2)
theorem sdist_c (n a b : Int) (h1 : 1 ≤ n) (h2 : n ≤ 32) : LP Tryd.prog G 68 [iAV n, iAV a, iAV b] [] (fun _ => (iAV (lw n (b - a)), [])) := by
 refine goW [] Tryd.func68 rfl ?_
 conv => whnf
 repeat' ((first | (show LC _ _ _ _ _ _; first | refine LC.pure (zZ _ _ h1 h2) ?_ | refine goE ?_) | refine T.s ?_ | ((first | apply goB | apply AB.dec | apply AB.gen) <;> intro h <;> try (exfalso; omega)) | refine LQ.mk fun r => ?_ | exact T.z | fail) <;> conv => whnf)
 all_goals (try dsimp only)
 (show RL _ _ _; refine goR ?_)
 exact congrArg iAV (ka _ h2)
theorem shalf_c (n : Int) (h1 : 1 ≤ n) (h2 : n ≤ 32) : LP Tryd.prog G 69 [iAV n] [] (fun _ => (iAV (2 ^ (n - 1).toNat), [])) := by
 refine goW [] Tryd.func69 rfl ?_
 conv => whnf
 repeat' ((first | refine T.s ?_ | ((first | apply goB | apply AB.dec | apply AB.gen) <;> intro h <;> try (exfalso; omega)) | refine LQ.mk fun r => ?_ | exact T.z | fail) <;> conv => whnf)
 all_goals (try dsimp only)
 have e : qc .sub .i64 n 1 = n - 1 := by (exact T.num)
 (show RL _ _ _; refine goR ?_)
 rw [e]
 exact congrArg iAV (shl1 (by omega))
theorem sg_e {n : Int} (h1 : 1 ≤ n) (h2 : n ≤ 32) (a b : Int) (h : 2 ^ (n - 1).toNat ≤ lw n (b - a)) : qc .sub .i64 (lw n (b - a)) (IntKind.i64.wrap (1 * 2 ^ min n.toNat 64)) = sg n a b := by
 have h3 := wG n (b - a)
 have h4 := yr (m := 32) h2
 rw [shl1 h2]
 unfold sg
 rw [if_pos h]
 show IntKind.i64.wrap _ = _
 rw [IntKind.wrap_i64]
 omega
theorem zI (n a b : Int) (h1 : 1 ≤ n) (h2 : n ≤ 32) : LP Tryd.prog G 35 [iAV n, iAV a, iAV b] [] (fun _ => (iAV (sg n a b), [])) := by
 refine goW [] Tryd.func35 rfl ?_
 conv => whnf
 repeat' ((first | (show LC _ _ _ _ _ _; first | refine LC.pure (vP _ h1 h2) ?_ | refine LC.pure (sdist_c _ _ _ h1 h2) ?_ | refine LC.pure (shalf_c _ h1 h2) ?_ | refine goE ?_) | refine T.s ?_ | ((first | apply goB | apply AB.dec | apply AB.gen) <;> intro h <;> try (exfalso; omega)) | refine LQ.mk fun r => ?_ | exact T.z | fail) <;> conv => whnf)
 all_goals (try dsimp only)
 · (show RL _ _ _; refine goR ?_)
   exact congrArg iAV (sg_e h1 h2 a b (by omega))
 · (show RL _ _ _; refine goR ?_)
   unfold sg
   rw [if_neg (by omega)]
   try rfl
open Go.RowKit
variable {G : Nat → AV}
def Hd.z : Hd := ⟨0, 0, 0, 0, 0, 0, 0, 0, 0, 0, 0, 0, 0, 0, 0⟩
def Dy.z : Dy := ⟨0, 0⟩
def Hd.num (h : Hd) : Int := if h.k = 2 then lw 16 h.sq else lw 16 h.id
theorem ja (h : Hd) : LP Tryd.prog G 36 [h.av] [] (fun _ => (iAV h.num, [])) := by
 refine goW [] Tryd.func36 rfl ?_
 conv => whnf
 repeat' ((first | (show LC _ _ _ _ _ _; first | refine LC.pure (zZ 16 _ (by decide) (by decide)) ?_ | refine goE ?_) | refine T.s ?_ | ((first | apply goB | apply AB.dec | apply AB.gen) <;> intro h <;> try (exfalso; omega)) | refine LQ.mk fun r => ?_ | exact T.z | fail) <;> conv => whnf)
 all_goals (try dsimp only)
 all_goals
   (show RL _ _ _; refine goR ?_)
   unfold Hd.num
   (repeat first | rw [if_pos (by first | assumption | omega)] | rw [if_neg (by first | assumption | omega)])
   try rfl
def qo (a b : Hd) : Bool := decide (a.k = b.k ∧ a.fr = b.fr ∧ a.to = b.to ∧ a.fp = b.fp ∧ a.tp = b.tp ∧ a.sr = b.sr)
def wu (h : Hd) (n : Int) : Int := sg 16 h.num n
def jX (d : Dy) (h : Hd) (n : Int) : Hd :=
 if h.ok = true ∧ d.ok = true then (if h.k = 1 then { h with mr := 0, ck := 0, id := lw 16 n }
   else { h with mr := 0, ck := 0, sq := lw 16 n, tm := lw 32 (h.tm + d.st * wu h n), id := lw 16 (h.id + d.fo * wu h n) })
 else Hd.z
theorem lw_mul {n : Int} (t x y : Int) (h : n ≤ 32) : lw n (qc .add .i64 t (qc .mul .i64 x y)) = lw n (t + x * y) := by
 show lw n (IntKind.i64.wrap (t + IntKind.i64.wrap (x * y))) = _
 rw [ka _ h, ← lw_add_r, ka _ h, lw_add_r]
theorem fpred_c (d : Dy) (h : Hd) (n : Int) : LP Tryd.prog G 90 [d.av, h.av, iAV n] [] (fun _ => ((jX d h n).av, [])) := by
 by_cases h1 : h.ok = true
 · by_cases h2 : d.ok = true
   · refine goW [] Tryd.func90 rfl ?_
     conv => whnf
     repeat' ((first | (show LC _ _ _ _ _ _; refine LC.pure (zt h) ?_; rw [h1]; conv => whnf) | (show LC _ _ _ _ _ _; refine LC.pure (xD d) ?_; rw [h2]; conv => whnf) | (show LC _ _ _ _ _ _; first | refine LC.pure (ja _) ?_ | refine LC.pure (zI 16 _ _ (by decide) (by decide)) ?_ | refine LC.pure (zZ 16 _ (by decide) (by decide)) ?_ | refine LC.pure (zZ 32 _ (by decide) (by decide)) ?_ | refine goE ?_) | refine T.s ?_ | ((first | apply goB | apply AB.dec | apply AB.gen) <;> intro h <;> try (exfalso; omega)) | refine LQ.mk fun r => ?_ | exact T.z | fail) <;> conv => whnf)
     all_goals (try dsimp only)
     all_goals
       (show RL _ _ _; refine goR ?_)
       unfold jX
       rw [if_pos ⟨h1, h2⟩]
       (repeat first | rw [if_pos (by first | assumption | omega)] | rw [if_neg (by first | assumption | omega)])
       try rw [lw_mul _ _ _ (by decide), lw_mul _ _ _ (by decide)]
       rfl
   · have h2' : d.ok = false := by simpa using h2
     refine goW [] Tryd.func90 rfl ?_
     conv => whnf
     repeat' ((first | (show LC _ _ _ _ _ _; refine LC.pure (zt h) ?_; rw [h1]; conv => whnf) | (show LC _ _ _ _ _ _; refine LC.pure (xD d) ?_; rw [h2']; conv => whnf) | refine T.s ?_ | ((first | apply goB | apply AB.dec | apply AB.gen) <;> intro h <;> try (exfalso; omega)) | refine LQ.mk fun r => ?_ | exact T.z | fail) <;> conv => whnf)
     all_goals (try dsimp only)
     (show RL _ _ _; refine goR ?_)
     unfold jX
     rw [if_neg (by simp [h2'])]
     rfl
 · have h1' : h.ok = false := by simpa using h1
   refine goW [] Tryd.func90 rfl ?_
   conv => whnf
   repeat' ((first | (show LC _ _ _ _ _ _; refine LC.pure (zt h) ?_; rw [h1']; conv => whnf) | refine T.s ?_ | ((first | apply goB | apply AB.dec | apply AB.gen) <;> intro h <;> try (exfalso; omega)) | refine LQ.mk fun r => ?_ | exact T.z | fail) <;> conv => whnf)
   all_goals (try dsimp only)
   (show RL _ _ _; refine goR ?_)
   unfold jX
   rw [if_neg (by simp [h1'])]
   rfl
theorem ok_id {h : Hd} (h1 : h.ok = true) : 0 ≤ h.id ∧ h.id < 65536 := by
 unfold Hd.ok jL at h1
 have key : ∀ n m, inR n m = true → 0 ≤ n ∧ n ≤ m := fun n m hh => by
   cases hc : decide (0 ≤ n ∧ n ≤ m) with
   | true => simpa using hc
   | false => exact absurd hh (by rw [inR_f (by simpa using hc)]; decide)
 split at h1
 · simp only [Bool.and_eq_true] at h1
   have := key _ _ h1.1.2.2.1
   omega
 · split at h1
   · simp only [Bool.and_eq_true] at h1
     have := key _ _ h1.1.2.2.1
     omega
   · cases h1
theorem ok_k {h : Hd} (h1 : h.ok = true) : h.k = 1 ∨ h.k = 2 := by
 unfold Hd.ok at h1
 split at h1
 · exact .inl ‹_›
 · split at h1
   · exact .inr ‹_›
   · cases h1
open Go.RowKit
variable {G : Nat → AV}
theorem lknown_c (n : Int) : LP Tryd.prog G 95 [iAV n] [] (fun _ => (.bool (jP n), [])) := by
 refine goW [] Tryd.func95 rfl ?_
 conv => whnf
 repeat' ((first | refine T.s ?_ | ((first | apply goB | apply AB.dec | apply AB.gen) <;> intro h <;> try (exfalso; omega)) | refine LQ.mk fun r => ?_ | exact T.z | fail) <;> conv => whnf)
 all_goals (try dsimp only)
 all_goals
   (show RL _ _ _; refine goR ?_)
   refine congrArg AV.bool ?_
   rw [Bool.eq_iff_iff]
   simp [jP, ql, *]
theorem kb (n v : Int) (h1 : 0 ≤ n) (h2 : n ≤ 32) : LP Tryd.prog G 96 [iAV n, iAV v] [] (fun _ => (.bool (j0 n v), [])) := by
 have e : IntKind.i64.wrap (2 ^ min n.toNat IntKind.i64.bits) = 2 ^ n.toNat := by have := shl1 h2; rwa [Int.one_mul] at this
 refine goW [] Tryd.func96 rfl ?_
 conv => whnf
 repeat' ((first | refine T.s ?_ | ((first | apply goB | apply AB.dec | apply AB.gen) <;> intro h <;> try (exfalso; omega)) | refine LQ.mk fun r => ?_ | exact T.z | fail) <;> conv => whnf)
 all_goals (try dsimp only)
 all_goals
   (show RL _ _ _; refine goR ?_)
   simp [j0, ql, *]
theorem off_e {k : Int} (h1 : 3 ≤ k) (h2 : k ≤ 32) : qc .sub .i64 (IntKind.i64.wrap (1 * 2 ^ min (qc .sub .i64 k 3).toNat 64)) 1 = yd k := by
 have e : qc .sub .i64 k 3 = k - 3 := by (exact T.num)
 rw [e]
 exact mask_e (by omega)
theorem loffset_c (k : Int) (h1 : 3 ≤ k) (h2 : k ≤ 32) : LP Tryd.prog G 99 [iAV k] [] (fun _ => (iAV (yd k), [])) := by
 refine goW [] Tryd.func99 rfl ?_
 conv => whnf
 repeat' ((first | refine T.s ?_ | ((first | apply goB | apply AB.dec | apply AB.gen) <;> intro h <;> try (exfalso; omega)) | refine LQ.mk fun r => ?_ | exact T.z | fail) <;> conv => whnf)
 all_goals (try dsimp only)
 (show RL _ _ _; refine goR ?_)
 exact congrArg iAV (off_e h1 h2)
theorem offK_rng {k : Int} (h2 : k ≤ 32) : 0 ≤ yd k ∧ yd k < 4294967296 := by
 have h3 := wB (k - 3)
 have h4 := yr (n := k - 3) (m := 32) (by omega)
 unfold yd
 omega
theorem first_e {r k : Int} (h2 : k ≤ 32) (hr : 0 ≤ r) (hr2 : r < 4294967296) : qc .sub .i64 r (yd k) = r - yd k := by
 have := offK_rng h2
 (exact T.num)
theorem val_rng {n v : Int} (h : j0 n v = true) (hn : n ≤ 32) : 0 ≤ v ∧ v < 4294967296 := by
 have h4 := yr (m := 32) hn
 simp [j0] at h
 omega
theorem ldec_c (n r k l : Int) (h1 : 3 ≤ k) (h2 : k ≤ n) (h3 : n ≤ 32) (hr : j0 n r = true) : LP Tryd.prog G 97 [iAV n, iAV r, iAV k, iAV l] [] (fun _ => (iAV (lsbV n r k l), [])) := by
 have hv := val_rng hr h3
 have e := first_e (k := k) (by omega) hv.1 hv.2
 refine goW [] Tryd.func97 rfl ?_
 conv => whnf
 repeat' ((first | (show LC _ _ _ _ _ _; first | refine LC.pure (loffset_c _ h1 (by omega)) ?_ | refine LC.pure (sdist_c _ _ _ (by omega) (by omega)) ?_ | refine LC.pure (zZ _ _ (by omega) h3) ?_ | refine goE ?_) | refine T.s ?_ | ((first | apply goB | apply AB.dec | apply AB.gen) <;> intro h <;> try (exfalso; omega)) | refine LQ.mk fun r => ?_ | exact T.z | fail) <;> conv => whnf)
 all_goals (try dsimp only)
 (show RL _ _ _; refine goR ?_)
 rw [e]
 exact congrArg iAV (ka _ h3)
theorem wide_le {n : Int} (h : jP n = true) : 8 ≤ n ∧ n ≤ 32 := by simp [jP] at h; omega
open Go.RowKit
section
variable {α : Type} {f : α → List AV} {n : Nat}
theorem qJ (hf : ∀ x, (f x).length = n) : ∀ l : List α, (l.flatMap f).length = l.length * n
 | [] => by simp
 | x :: l => by rw [List.flatMap_cons, List.length_append, qJ hf l, hf, List.length_cons, Nat.succ_mul, Nat.add_comm]
theorem kk (hf : ∀ x, (f x).length = n) : ∀ (l : List α) (i : Nat), (l.flatMap f).drop (i * n) = (l.drop i).flatMap f
 | _, 0 => by simp
 | [], i + 1 => by simp
 | x :: l, i + 1 => by
   rw [List.flatMap_cons, List.drop_append, hf, List.drop_of_length_le (by rw [hf, Nat.succ_mul]; omega), List.nil_append, show (i + 1) * n - n = i * n by rw [Nat.succ_mul]; omega, kk hf l i]
   rfl
theorem vk (hf : ∀ x, (f x).length = n) : ∀ (l : List α) (i : Nat), (l.flatMap f).take (i * n) = (l.take i).flatMap f
 | _, 0 => by simp
 | [], i + 1 => by simp
 | x :: l, i + 1 => by
   rw [List.flatMap_cons, List.take_append, hf, List.take_of_length_le (by rw [hf, Nat.succ_mul]; omega), show (i + 1) * n - n = i * n by rw [Nat.succ_mul]; omega, vk hf l i]
   rfl
theorem yD (l : List α) (i : Nat) (d : α) (h : i < l.length) : l.drop i = l.getD i d :: l.drop (i + 1) := by
 rw [List.drop_eq_getElem_cons h]
 simp [List.getD_eq_getElem?_getD, h]
theorem fm_at (hf : ∀ x, (f x).length = n) (l : List α) (i : Nat) (d : α) (h : i < l.length) : (l.flatMap f).drop (i * n) = f (l.getD i d) ++ (l.drop (i + 1)).flatMap f := by
 rw [kk hf, yD l i d h, List.flatMap_cons]
theorem AC.recd {agg : Bool} {l : List α} {o m : Nat} {K : AV → Prop} (hf : ∀ x, (f x).length = n) (i : Nat) (d : α) (ho : o = i * n) (hm : m = n) (h : i < l.length) (k : K (mkv agg (f (l.getD i d)))) : AC agg (((l.flatMap f).drop o).take m) K := ⟨by
 subst ho hm
 rw [fm_at hf l i d h, List.take_append_of_le_length (by rw [hf]; omega), List.take_of_length_le (by rw [hf]; omega)]
 exact k⟩
theorem AC.fld {l : List α} {o m : Nat} {K : AV → Prop} (hf : ∀ x, (f x).length = n) (i j : Nat) (d : α) (v : AV) (ho : o = i * n + j) (hj : j + m ≤ n) (h : i < l.length) (hv : mkv false (((f (l.getD i d)).drop j).take m) = v) (k : K v) : AC false (((l.flatMap f).drop o).take m) K := ⟨by
 subst ho
 rw [← List.drop_drop, fm_at hf l i d h, List.drop_append_of_le_length (by rw [hf]; omega), List.take_append_of_le_length (by simp [hf]; omega), hv]
 exact k⟩
end
theorem drop_behind {A B : List AV} {o k : Nat} (h : o = A.length) : (A ++ B).drop (o + k) = B.drop k := by subst h; rw [List.drop_append]; simp
theorem ya {A B xs : List AV} {o k : Nat} (h : o = A.length) : qi (A ++ B) (o + k) xs = A ++ qi B k xs := by
 subst h
 unfold qi
 rw [List.take_append, List.take_of_length_le (by omega), Nat.add_assoc, List.drop_append, List.drop_of_length_le (by omega)]
 simp [List.append_assoc]
theorem AC.behind {agg : Bool} {A B : List AV} {o k m : Nat} {K : AV → Prop} (h : o = A.length) (g : AC agg ((B.drop k).take m) K) : AC agg (((A ++ B).drop (o + k)).take m) K := ⟨by rw [drop_behind h]; exact g.go⟩
theorem AQ.behind {A B xs : List AV} {o k : Nat} {K : List AV → Prop} (h : o = A.length) (g : AQ (qi B k xs) fun cs => K (A ++ cs)) : AQ (qi (A ++ B) (o + k) xs) K := ⟨by rw [ya h]; exact g.go⟩
open Go.RowKit
structure Rc where
 st : Int
 la : Hd
 dy : Dy
 er : Int
 deriving DecidableEq
@[reducible] def Hd.cs (h : Hd) : List AV := [iAV h.k, iAV h.tos, iAV h.id, iAV h.fx, iAV h.ttl, iAV h.fr, iAV h.to, iAV h.fp, iAV h.tp, iAV h.ck, iAV h.mr, iAV h.ty, iAV h.sq, iAV h.tm, iAV h.sr]
@[reducible] def Rc.cs (r : Rc) : List AV := [iAV r.st, iAV r.la.k, iAV r.la.tos, iAV r.la.id, iAV r.la.fx, iAV r.la.ttl, iAV r.la.fr, iAV r.la.to, iAV r.la.fp, iAV r.la.tp, iAV r.la.ck, iAV r.la.mr, iAV r.la.ty, iAV r.la.sq, iAV r.la.tm, iAV r.la.sr, iAV r.dy.st, iAV r.dy.fo, iAV r.er]
theorem Rc.cs_len (r : Rc) : r.cs.length = 19 := rfl
@[reducible] def Rc.av (r : Rc) : AV := .agg r.cs
def Rc.z : Rc := ⟨0, Hd.z, Dy.z, 0⟩
def rcv (l : List Rc) : AV := .sl l.length (l.flatMap Rc.cs)
structure De where
 m : Int
 cx : List Rc
@[reducible] def De.av (d : De) : AV := .agg [iAV d.m, rcv d.cx]
def De.z : De := ⟨0, []⟩
def Rc.ok (r : Rc) : Bool := decide (0 ≤ r.er ∧ r.er < 3) && (if r.st = 0 then decide (r.la = Hd.z ∧ r.dy = Dy.z) else if r.st = 1 ∨ r.st = 2 then r.la.ok && (r.dy.ok && decide (r.la.k = 2 ∨ r.dy = Dy.z)) else false)
def modeR (m : Int) : Bool := decide (1 ≤ m ∧ m ≤ 3)
def De.ok (d : De) : Bool := modeR d.m && (decide (d.cx.length = 16) && d.cx.all Rc.ok)
structure Fb where
 c : Int
 k : Int
 n : Int
@[reducible] def Fb.cs (x : Fb) : List AV := [iAV x.c, iAV x.k, iAV x.n]
def kP (f : Int) (h : Hd) : Int := vv (cbR f) (headO h)
def De.set (d : De) (c : Int) (r : Rc) : De := ⟨d.m, d.cx.set c.toNat r⟩
open Go.RowKit
variable {G : Nat → AV}
theorem mput2_c (l : List UInt8) (n : Nat) (x : Int) (hl : l.length = n) (hn : n ≤ 100000) (p : Nm) : LP Tryd.prog G 40 [.vw p 0 n 1, iAV 2, iAV x] [(p, ⟨5, l.map bAV⟩)] (fun q => (.vw q 0 (n + 2) 1, [(q, ⟨5, (l ++ qu x 2).map bAV⟩)])) := by
 subst hl
 refine goW [] Tryd.func40 rfl ?_
 conv => whnf
 repeat' ((first | refine T.s ?_ | ((first | apply goB | apply AB.dec | apply AB.gen) <;> intro h <;> try (exfalso; omega)) | refine LQ.mk fun r => ?_ | (show SQ _ _ _ _ _ _ _; first | refine SQ.times 2 3 (by rfl) ?_ | refine AtL.step tQ [] ?_) | exact T.z | refine ⟨_, rfl, rfl, ?_⟩ | fail) <;> conv => whnf)
 all_goals (try dsimp only)
 all_goals
   refine RL.own r rfl ?_ ?_
   · (repeat first | refine goH ?_ | apply LH.here | apply LH.next); trivial
   · apply LB.cons
     (repeat first | refine goH ?_ | apply LH.here | apply LH.next)
     refine And.intro (congrArg (Pl.mk _) ?_) LB.nil
     simp only [qu, List.map_append, List.map_cons, List.map_nil, zx, List.append_assoc, List.cons_append, List.nil_append]
     rfl
theorem mput4_c (l : List UInt8) (n : Nat) (x : Int) (hl : l.length = n) (hn : n ≤ 100000) (p : Nm) : LP Tryd.prog G 40 [.vw p 0 n 1, iAV 4, iAV x] [(p, ⟨5, l.map bAV⟩)] (fun q => (.vw q 0 (n + 4) 1, [(q, ⟨5, (l ++ qu x 4).map bAV⟩)])) := by
 subst hl
 refine goW [] Tryd.func40 rfl ?_
 conv => whnf
 repeat' ((first | refine T.s ?_ | ((first | apply goB | apply AB.dec | apply AB.gen) <;> intro h <;> try (exfalso; omega)) | refine LQ.mk fun r => ?_ | (show SQ _ _ _ _ _ _ _; first | refine SQ.times 2 5 (by rfl) ?_ | refine AtL.step tQ [] ?_) | exact T.z | refine ⟨_, rfl, rfl, ?_⟩ | fail) <;> conv => whnf)
 all_goals (try dsimp only)
 all_goals
   refine RL.own r rfl ?_ ?_
   · (repeat first | refine goH ?_ | apply LH.here | apply LH.next); trivial
   · apply LB.cons
     (repeat first | refine goH ?_ | apply LH.here | apply LH.next)
     refine And.intro (congrArg (Pl.mk _) ?_) LB.nil
     simp only [qu, List.map_append, List.map_cons, List.map_nil, zx, List.append_assoc, List.cons_append, List.nil_append]
     rfl
theorem LC.mput2 {l : LS} {K : AV → LS → Prop} {p : Nm} {n : Nat} {x : Int} (hn : n ≤ 100000) (h : LH l p fun c _ rest => ∃ L : List UInt8, c = ⟨5, L.map bAV⟩ ∧ L.length = n ∧ LQ fun q => K (.vw q 0 (n + 2) 1) ((q, ⟨5, (L ++ qu x 2).map bAV⟩) :: rest)) : LC Tryd.prog G 40 [.vw p 0 n 1, .int .i64 2, .int .i64 x] l K := by
 obtain ⟨l1, c, l2, rfl, L, rfl, h1, h2⟩ := h.ex
 exact LC.take (mput2_c L n x h1 hn p) ⟨l1, _, l2, rfl, rfl, h2⟩
theorem LC.mput4 {l : LS} {K : AV → LS → Prop} {p : Nm} {n : Nat} {x : Int} (hn : n ≤ 100000) (h : LH l p fun c _ rest => ∃ L : List UInt8, c = ⟨5, L.map bAV⟩ ∧ L.length = n ∧ LQ fun q => K (.vw q 0 (n + 4) 1) ((q, ⟨5, (L ++ qu x 4).map bAV⟩) :: rest)) : LC Tryd.prog G 40 [.vw p 0 n 1, .int .i64 4, .int .i64 x] l K := by
 obtain ⟨l1, c, l2, rfl, L, rfl, h1, h2⟩ := h.ex
 exact LC.take (mput4_c L n x h1 hn p) ⟨l1, _, l2, rfl, rfl, h2⟩
def xu (h : Hd) (n : Int) : List UInt8 := [69, b8 h.tos] ++ qu n 2 ++ qu h.id 2 ++ [b8 (qc .mul .i64 64 h.fx), 0, b8 h.ttl, 17, 0, 0] ++ qu h.fr 4 ++ qu h.to 4
theorem wE (h : Hd) (n : Int) : (xu h n).length = 20 := by simp [xu]
def pkT (h : Hd) : List UInt8 := if h.k = 2 then [128, b8 (qc .add .i64 (qc .mul .i64 128 h.mr) h.ty)] ++ qu h.sq 2 ++ qu h.tm 4 ++ qu h.sr 4 else []
def pkN (h : Hd) (pl : List UInt8) : Int := if h.k = 2 then qc .add .i64 40 pl.length else qc .add .i64 28 pl.length
def xZ (h : Hd) (pl : List UInt8) : List UInt8 :=
 st2 (xu h (pkN h pl)) 10 (csR (xu h (pkN h pl))) ++ qu h.fp 2 ++ qu h.tp 2 ++ qu (qc .sub .i64 (pkN h pl) 20) 2 ++ qu h.ck 2 ++ pkT h ++ pl
theorem pk_a (t : Int) : [AV.int .u8 69, AV.int .u8 (IntKind.u8.wrap t)] = ([69, b8 t] : List UInt8).map bAV := by
 simp only [List.map_cons, List.map_nil, zx]; rfl
theorem pk_b {L : List UInt8} {n : Nat} (f t : Int) (h : L.length = n) : List.take n (List.drop 0 (L.map bAV)) ++ [AV.int .u8 (IntKind.u8.wrap f), AV.int .u8 0, AV.int .u8 (IntKind.u8.wrap t), AV.int .u8 17, AV.int .u8 0, AV.int .u8 0] = (L ++ [b8 f, 0, b8 t, 17, 0, 0]).map bAV := by
 rw [List.drop_zero, List.take_of_length_le (by simp; omega), List.map_append, ← head_mid]
theorem pk_c {L : List UInt8} {n : Nat} (t : Int) (h : L.length = n) : List.take n (List.drop 0 (L.map bAV)) ++ [AV.int .u8 128, AV.int .u8 (IntKind.u8.wrap t)] = (L ++ [128, b8 t]).map bAV := by
 rw [List.drop_zero, List.take_of_length_le (by simp; omega), List.map_append, ← head_80]
theorem pk_add {c d : Nat} {X : Int} (hX : 0 ≤ X ∧ X ≤ 1000000000) (h : c < 256) (h2 : d < 256) : qc .add .i64 X (qc .add .i64 (qc .mul .i64 256 (IntKind.i64.wrap (c : Int))) (IntKind.i64.wrap (d : Int))) = X + (256 * (c : Int) + (d : Int)) := by
 rw [show IntKind.i64.wrap (c : Int) = c by rw [IntKind.wrap_i64]; omega, show IntKind.i64.wrap (d : Int) = d by rw [IntKind.wrap_i64]; omega]
 have e : qc .mul .i64 256 (c : Int) = 256 * (c : Int) := by show IntKind.i64.wrap _ = _; rw [IntKind.wrap_i64]; omega
 rw [e]
 (exact T.num)
theorem pk_step {L : List UInt8} (hL : L.length = 20) {j : Nat} (h : 2 * j < 20) : qc .add .i64 (za (L.take (2 * j))) (qc .add .i64 (qc .mul .i64 256 (IntKind.i64.wrap ((L.getD (2 * j) 0).toNat : Int))) (IntKind.i64.wrap ((L.getD (2 * j + 1) 0).toNat : Int))) = za (L.take (2 * (j + 1))) := by
 have h1 := xz (L.take (2 * j)) 10 (by simp; omega)
 rw [pk_add (by omega) (UInt8.toNat_lt _) (UInt8.toNat_lt _), kB L j (by omega)]
theorem pk_set {L : List UInt8} {F : Int} (hF : 0 ≤ F ∧ F ≤ 65535) : (L.set 10 (b8 (IntKind.i64.wrap ((qc .sub .i64 65535 F).tdiv 256)))).set 11 (b8 ((qc .sub .i64 65535 F).tmod 256)) = st2 L 10 (65535 - F) := by
 have e : qc .sub .i64 65535 F = 65535 - F := by (exact T.num)
 rw [e]
 exact rset_e L 10 (by omega)
theorem RL.bytes {b : List UInt8} {q : Nm} {n : Nat} {l : LS} (h : LH l q fun c _ _ => c.cs = b.map bAV ∧ n = b.length) : RL (fun _ => (bv b, [])) (.vw q 0 n 1) l := by
 obtain ⟨l1, c, l2, rfl, h1, h2⟩ := h.ex
 exact RL.rowF ⟨l1, c, l2, rfl, h1, h2, LB.nil⟩
theorem pk_i1 {j : Nat} (h : j ≤ 10) : 0 + (qc .add .i64 ((2 * j : Nat) : Int) 1).toNat * 1 = 2 * j + 1 := by
 have e : qc .add .i64 ((2 * j : Nat) : Int) 1 = ((2 * j + 1 : Nat) : Int) := by (exact T.num)
 rw [e]; omega
theorem pk_i0 (j : Nat) : 0 + ((2 * j : Nat) : Int).toNat * 1 = 2 * j := by omega
theorem pk_all {L : List UInt8} {j : Nat} (hL : L.length = 20) (h : ¬ ((2 * j : Nat) : Int) < 20) : qI (za (L.take (2 * j))) = qI (za L) := by
 rw [List.take_of_length_le (by omega)]
theorem pk_end {hd : Hd} {pl T : List UInt8} {N y : Int} (hN : pkN hd pl = N) (hT : pkT hd = T) (h1 : ¬ 65535 < y) (h0 : 0 ≤ y) (h : qI y = qI (za (xu hd N))) :
   (((xu hd N).set 10 (b8 (IntKind.i64.wrap ((qc .sub .i64 65535 y).tdiv 256)))).set 11 (b8 ((qc .sub .i64 65535 y).tmod 256))) ++ qu hd.fp 2 ++ qu hd.tp 2 ++ qu (qc .sub .i64 N 20) 2 ++ qu hd.ck 2 ++ T ++ pl = xZ hd pl := by
 have hy : y = qI (za (xu hd N)) := by rw [← h, foldR_id h1 h0]
 rw [pk_set (by omega), hy]
 unfold xZ csR
 rw [hN, hT]
theorem pk_0 (L : List UInt8) : (0 : Int) = za (L.take (2 * 0)) := wsum_nil.symm
theorem mpacket_1 (hd : Hd) (pl : List UInt8) (hk : hd.k = 1) (hp : pl.length ≤ 100000) : LP Tryd.prog G 18 [hd.av, bv pl] [] (fun _ => (bv (xZ hd pl), [])) := by
 have hL := wE hd (qc .add .i64 28 pl.length)
 have hW := fun j => xz ((xu hd (qc .add .i64 28 pl.length)).take (2 * j)) 10 (by rw [List.length_take, hL]; omega)
 refine goW [] Tryd.func18 rfl ?_
 conv => whnf
 repeat' ((first | (show LC _ _ _ _ _ _; refine LC.mput2 (by first | omega | (simp; omega)) ?_; (repeat first | refine goH ?_ | apply LH.here | apply LH.next); refine ⟨_, rfl, ?_, ?_⟩; (focus (first | (simp only [List.length_append, List.length_set, hL, putBlen, List.length_nil, List.length_cons]; done) | rfl | (simp; done) | (simp [hL]; done)))) | (show LC _ _ _ _ _ _; refine LC.mput4 (by first | omega | (simp; omega)) ?_; (repeat first | refine goH ?_ | apply LH.here | apply LH.next); refine ⟨_, rfl, ?_, ?_⟩; (focus (first | (simp only [List.length_append, List.length_set, hL, putBlen, List.length_nil, List.length_cons]; done) | rfl | (simp; done) | (simp [hL]; done)))) | exact Nm.b 0 | (show AC _ _ _; first | (refine AC.idx (2 * j + 1) 0 (pk_i1 (by omega)) ?_ ?_; (focus (rw [hL]; omega))) | (refine AC.idx (2 * j) 0 (pk_i0 j) ?_ ?_; (focus (rw [hL]; omega)))) | (show AQ _ _; first | (refine AQ.eq (pk_a _) ?_) | ((with_reducible show AQ (_ ++ [_, _, _, _, _, _]) _); refine AQ.eq (pk_b _ _ ?_) ?_; (focus rfl)) | ((with_reducible show AQ (_ ++ [_, _]) _); refine AQ.eq (pk_c _ ?_) ?_; (focus (first | (simp only [List.length_append, List.length_set, hL, putBlen, List.length_nil, List.length_cons]; done) | rfl)))) | refine T.s ?_ | ((first | apply goB | apply AB.dec | apply AB.gen) <;> intro h <;> try (exfalso; omega)) | refine LQ.mk fun r => ?_ | (show SQ _ _ _ (.loop _) _ _ _; first | (apply goO tQ [] 10 (S := Nat × Nm × Nm) [1, 6] (fun (j, b, q) => ⟨[(8, .int .i64 ((2 * j : Nat) : Int)), (7, .int .i64 (za ((xu hd (qc .add .i64 28 pl.length)).take (2 * j)))), (2, .ptr b 0), (5, .vw q 0 20 1)], [(b, ⟨38, hd.cs⟩), (q, ⟨5, (xu hd (qc .add .i64 28 pl.length)).map bAV⟩)], j ≤ 10, 10 - j⟩) ((0, _, _)) (by rfl); (focus (all_goals (try exact K205); done)); rintro ⟨j, b, q⟩ hok; (try dsimp only at hok)) | (apply goO tQ [] 13 (S := Int × Nm × Nm) [1, 6] (fun (y, b, q) => ⟨[(7, .int .i64 y), (2, .ptr b 0), (5, .vw q 0 20 1)], [(b, ⟨38, hd.cs⟩), (q, ⟨5, (xu hd (qc .add .i64 28 pl.length)).map bAV⟩)], 0 ≤ y ∧ y ≤ 1000000000 ∧ qI y = qI (za (xu hd (qc .add .i64 28 pl.length))), y.toNat⟩) ((za ((xu hd (qc .add .i64 28 pl.length)).take (2 * j)), _, _)) (by rfl); (focus (all_goals (try exact K205); done)); rintro ⟨y, b, q⟩ ⟨hk, hk, hok⟩)) | (show SQ _ _ _ _ _ _ _; first | (apply goD tQ qf 5 [4, 2] [0, 1, 3, 4, 2, 5, 6] [_] (by kernel_rfl)) | (refine goD tQ qf 5 [4, 2] [0, 1, 3, 4, 2, 5, 6] [] (by kernel_rfl) ?_) | (apply goD tQ qf 7 [5, 3] [0, 1, 2, 4, 5, 3, 6, 7] [_] (by kernel_rfl)) | (refine goD tQ qf 7 [5, 3] [0, 1, 2, 4, 5, 3, 6, 7] [] (by kernel_rfl) ?_) | (refine goD tQ qf 12 [] [0, 1, 2, 3, 4, 5, 6, 7, 8, 9, 10, 11, 12, 13, 14, 15] [] (by kernel_rfl) ?_) | (apply goD tQ qf 16 [5, 3] [0, 1, 2, 4, 5, 3, 6, 7] [_] (by kernel_rfl)) | (refine goD tQ qf 16 [5, 3] [0, 1, 2, 4, 5, 3, 6, 7] [] (by kernel_rfl) ?_) | (apply goD tQ qf 17 [5, 3] [0, 1, 2, 4, 5, 3, 6, 7] [_] (by kernel_rfl)) | (refine goD tQ qf 17 [5, 3] [0, 1, 2, 4, 5, 3, 6, 7] [] (by kernel_rfl) ?_) | (apply goD tQ qf 20 [5, 8, 3, 6] [0, 1, 2, 4, 5, 7, 8, 3, 6, 9, 10] [_] (by kernel_rfl)) | (refine goD tQ qf 20 [5, 8, 3, 6] [0, 1, 2, 4, 5, 7, 8, 3, 6, 9, 10] [] (by kernel_rfl) ?_)) | (show AtL _ _ _ _ _ _ _ _ _ _; first | (apply AtL.mk' (id := 10) (S := Nat × Nm × Nm) ((j + 1, _, _)); all_goals (try exact K205); done) | (apply AtL.mk' (id := 13) (S := Int × Nm × Nm) ((fnx y, _, _)); all_goals (try exact K205); done) | (apply AtL.mk' (id := 10) (S := Nat × Nm × Nm) ((j + 1, _, _)); all_goals (try exact K205)) | (apply AtL.mk' (id := 13) (S := Int × Nm × Nm) ((fnx y, _, _)); all_goals (try exact K205))) | exact T.z | refine ⟨_, rfl, rfl, ?_⟩ | fail) <;> try (show (_ : Prop); conv => whnf))
 all_goals (try dsimp only)
 all_goals
   have hN : pkN hd pl = qc .add .i64 28 pl.length := if_neg (by omega)
   have hT : pkT hd = _ := if_neg (by omega)
   rw [← pk_end (hd := hd) (pl := pl) hN hT (by assumption) (by assumption) (by assumption)]
   refine RL.bytes ?_
   (repeat first | refine goH ?_ | apply LH.here | apply LH.next)
   refine ⟨?_, ?_⟩
   · simp only [show 0 + Int.toNat 10 * 1 = 10 from rfl, show 0 + Int.toNat 11 * 1 = 11 from rfl, List.map_append, List.append_nil, List.append_assoc, List.map_cons, List.map_nil, List.cons_append, List.nil_append]
   · simp only [List.length_append, List.length_set, hL, putBlen, List.length_nil, List.length_cons, Nat.add_zero]
theorem mpacket_2 (hd : Hd) (pl : List UInt8) (hK : hd.k = 2) (hp : pl.length ≤ 100000) : LP Tryd.prog G 18 [hd.av, bv pl] [] (fun _ => (bv (xZ hd pl), [])) := by
 have hL := wE hd (qc .add .i64 40 pl.length)
 have hW := fun j => xz ((xu hd (qc .add .i64 40 pl.length)).take (2 * j)) 10 (by rw [List.length_take, hL]; omega)
 refine goW [] Tryd.func18 rfl ?_
 conv => whnf
 repeat' ((first | (show LC _ _ _ _ _ _; refine LC.mput2 (by first | omega | (simp; omega)) ?_; (repeat first | refine goH ?_ | apply LH.here | apply LH.next); refine ⟨_, rfl, ?_, ?_⟩; (focus (first | (simp only [List.length_append, List.length_set, hL, putBlen, List.length_nil, List.length_cons]; done) | rfl | (simp; done) | (simp [hL]; done)))) | (show LC _ _ _ _ _ _; refine LC.mput4 (by first | omega | (simp; omega)) ?_; (repeat first | refine goH ?_ | apply LH.here | apply LH.next); refine ⟨_, rfl, ?_, ?_⟩; (focus (first | (simp only [List.length_append, List.length_set, hL, putBlen, List.length_nil, List.length_cons]; done) | rfl | (simp; done) | (simp [hL]; done)))) | exact Nm.b 0 | (show AC _ _ _; first | (refine AC.idx (2 * j + 1) 0 (pk_i1 (by omega)) ?_ ?_; (focus (rw [hL]; omega))) | (refine AC.idx (2 * j) 0 (pk_i0 j) ?_ ?_; (focus (rw [hL]; omega)))) | (show AQ _ _; first | (refine AQ.eq (pk_a _) ?_) | ((with_reducible show AQ (_ ++ [_, _, _, _, _, _]) _); refine AQ.eq (pk_b _ _ ?_) ?_; (focus rfl)) | ((with_reducible show AQ (_ ++ [_, _]) _); refine AQ.eq (pk_c _ ?_) ?_; (focus (first | (simp only [List.length_append, List.length_set, hL, putBlen, List.length_nil, List.length_cons]; done) | rfl)))) | refine T.s ?_ | ((first | apply goB | apply AB.dec | apply AB.gen) <;> intro h <;> try (exfalso; omega)) | refine LQ.mk fun r => ?_ | (show SQ _ _ _ (.loop _) _ _ _; first | (apply goO tQ [] 10 (S := Nat × Nm × Nm) [1, 6] (fun (j, b, q) => ⟨[(8, .int .i64 ((2 * j : Nat) : Int)), (7, .int .i64 (za ((xu hd (qc .add .i64 40 pl.length)).take (2 * j)))), (2, .ptr b 0), (5, .vw q 0 20 1)], [(b, ⟨38, hd.cs⟩), (q, ⟨5, (xu hd (qc .add .i64 40 pl.length)).map bAV⟩)], j ≤ 10, 10 - j⟩) ((0, _, _)) (by rfl); (focus (all_goals (try exact K205); done)); rintro ⟨j, b, q⟩ hok; (try dsimp only at hok)) | (apply goO tQ [] 13 (S := Int × Nm × Nm) [1, 6] (fun (y, b, q) => ⟨[(7, .int .i64 y), (2, .ptr b 0), (5, .vw q 0 20 1)], [(b, ⟨38, hd.cs⟩), (q, ⟨5, (xu hd (qc .add .i64 40 pl.length)).map bAV⟩)], 0 ≤ y ∧ y ≤ 1000000000 ∧ qI y = qI (za (xu hd (qc .add .i64 40 pl.length))), y.toNat⟩) ((za ((xu hd (qc .add .i64 40 pl.length)).take (2 * j)), _, _)) (by rfl); (focus (all_goals (try exact K205); done)); rintro ⟨y, b, q⟩ ⟨hk, hk, hok⟩)) | (show SQ _ _ _ _ _ _ _; first | (apply goD tQ qf 5 [4, 2] [0, 1, 3, 4, 2, 5, 6] [_] (by kernel_rfl)) | (refine goD tQ qf 5 [4, 2] [0, 1, 3, 4, 2, 5, 6] [] (by kernel_rfl) ?_) | (apply goD tQ qf 7 [5, 3] [0, 1, 2, 4, 5, 3, 6, 7] [_] (by kernel_rfl)) | (refine goD tQ qf 7 [5, 3] [0, 1, 2, 4, 5, 3, 6, 7] [] (by kernel_rfl) ?_) | (refine goD tQ qf 12 [] [0, 1, 2, 3, 4, 5, 6, 7, 8, 9, 10, 11, 12, 13, 14, 15] [] (by kernel_rfl) ?_) | (apply goD tQ qf 16 [5, 3] [0, 1, 2, 4, 5, 3, 6, 7] [_] (by kernel_rfl)) | (refine goD tQ qf 16 [5, 3] [0, 1, 2, 4, 5, 3, 6, 7] [] (by kernel_rfl) ?_) | (apply goD tQ qf 17 [5, 3] [0, 1, 2, 4, 5, 3, 6, 7] [_] (by kernel_rfl)) | (refine goD tQ qf 17 [5, 3] [0, 1, 2, 4, 5, 3, 6, 7] [] (by kernel_rfl) ?_) | (apply goD tQ qf 20 [5, 8, 3, 6] [0, 1, 2, 4, 5, 7, 8, 3, 6, 9, 10] [_] (by kernel_rfl)) | (refine goD tQ qf 20 [5, 8, 3, 6] [0, 1, 2, 4, 5, 7, 8, 3, 6, 9, 10] [] (by kernel_rfl) ?_)) | (show AtL _ _ _ _ _ _ _ _ _ _; first | (apply AtL.mk' (id := 10) (S := Nat × Nm × Nm) ((j + 1, _, _)); all_goals (try exact K205); done) | (apply AtL.mk' (id := 13) (S := Int × Nm × Nm) ((fnx y, _, _)); all_goals (try exact K205); done) | (apply AtL.mk' (id := 10) (S := Nat × Nm × Nm) ((j + 1, _, _)); all_goals (try exact K205)) | (apply AtL.mk' (id := 13) (S := Int × Nm × Nm) ((fnx y, _, _)); all_goals (try exact K205))) | exact T.z | refine ⟨_, rfl, rfl, ?_⟩ | fail) <;> try (show (_ : Prop); conv => whnf))
 all_goals (try dsimp only)
 all_goals
   have hN : pkN hd pl = qc .add .i64 40 pl.length := if_pos hK
   have hT : pkT hd = _ := if_pos hK
   rw [← pk_end (hd := hd) (pl := pl) hN hT (by assumption) (by assumption) (by assumption)]
   refine RL.bytes ?_
   (repeat first | refine goH ?_ | apply LH.here | apply LH.next)
   refine ⟨?_, ?_⟩
   · simp only [show 0 + Int.toNat 10 * 1 = 10 from rfl, show 0 + Int.toNat 11 * 1 = 11 from rfl, List.map_append, List.append_nil, List.append_assoc, List.map_cons, List.map_nil, List.cons_append, List.nil_append]
   · simp only [List.length_append, List.length_set, hL, putBlen, List.length_nil, List.length_cons, Nat.add_zero]
theorem yx (hd : Hd) (pl : List UInt8) (hk : hd.k = 1 ∨ hd.k = 2) (hp : pl.length ≤ 100000) : LP Tryd.prog G 18 [hd.av, bv pl] [] (fun _ => (bv (xZ hd pl), [])) := by
 rcases hk with hk | hk
 · exact mpacket_1 hd pl hk hp
 · exact mpacket_2 hd pl hk hp
open Go.RowKit
variable {G : Nat → AV}
@[simp] theorem adv_adv (t : List Int) (a i j : Nat) : adv t (adv t a i) j = adv t a (i + j) := by
 induction j with
 | zero => rfl
 | succ j ih => exact congrArg (zc t) ih
def jN (t : List Int) (a : Nat) (m : Int) : Int := if qm t a 4 = 0 then qm t (adv t a 1) 3 else if qm t a 4 = 1 then qc .sub .i64 m (qm t (adv t a 1) 3) else qm t (adv t a 1) (qc .add .i64 m 1)
theorem kC (t : List Int) (a : Nat) (m : Int) (h : 2 ≤ m) (h2 : m < 4294967296) : 0 ≤ jN t a m ∧ jN t a m ≤ m := by
 unfold jN
 have h3 := zb t (adv t a 1) 3 (by decide) (by decide)
 have e : qc .add .i64 m 1 = m + 1 := by (exact T.num)
 have h4 := zb t (adv t a 1) (m + 1) (by omega) (by omega)
 have e2 : qc .sub .i64 m (qm t (adv t a 1) 3) = m - qm t (adv t a 1) 3 := by (exact T.num)
 rw [e, e2]
 split
 · omega
 · split <;> omega
theorem word_c (t : List Int) (a : Nat) (m : Int) (ht : t.length ≤ 400) (p : Nm) : LP Tryd.prog G 28 [.ptr p 0, iAV m] [(p, zT t a)] (fun _ => (iAV (jN t a m), [(p, zT t (adv t a 2))])) := by
 refine goW [] Tryd.func28 rfl ?_
 conv => whnf
 repeat' ((first | (show LC _ _ _ _ _ _; first | (apply LC.upd (jF t _ _ ht _); (repeat first | refine goH ?_ | apply LH.here | apply LH.next); refine ⟨rfl, ?_⟩) | refine goE ?_) | refine T.s ?_ | ((first | apply goB | apply AB.dec | apply AB.gen) <;> intro h <;> try (exfalso; omega)) | refine LQ.mk fun r => ?_ | exact T.z | fail) <;> conv => whnf)
 all_goals (try dsimp only)
 all_goals
   (show RL _ _ _; refine goR ?_)
   unfold jN
   (repeat first | rw [if_pos (by first | assumption | omega)] | rw [if_neg (by first | assumption | omega)])
   rfl
attribute [irreducible] jN
theorem xB (t : List Int) (a : Nat) (n : Int) : wF t a n = true ↔ qm t a n = qc .sub .i64 n 1 := by simp [wF, ql]
def hckR (t : List Int) (a : Nat) : Int := if wF t (adv t a 5) 2 = true then qc .add .i64 1 (qm t (adv t a 6) 65535) else 0
def jH (t : List Int) (a : Nat) : Nat := if wF t (adv t a 5) 2 = true then 7 else 6
def jG (fl : Int) : Int := qc .add .i64 1 (z8 fl 2)
def kM (t : List Int) (a : Nat) (fl : Int) : Hd :=
 { k := jG fl, tos := qm t a 2, ttl := qc .add .i64 64 (qm t (adv t a 1) 2), fx := qm t (adv t a 2) 2, id := jN t (adv t a 3) 65535, fr := 167772161, to := qc .add .i64 167772162 (IntKind.i64.wrap (fl.tdiv 2)), fp := 5000, tp := qc .add .i64 6000 fl,
   ck := hckR t a
   ty := if jG fl = 2 then 96 else 0
   sq := if jG fl = 2 then jN t (adv t a (jH t a)) 65535 else 0
   tm := if jG fl = 2 then jN t (adv t a (jH t a + 2)) 4294967295 else 0
   sr := if jG fl = 2 then qc .add .i64 77 fl else 0
   mr := if jG fl = 2 then qm t (adv t a (jH t a + 4)) 2 else 0 }
def hdrA (t : List Int) (a : Nat) (fl : Int) : Nat := adv t a (jH t a + if jG fl = 2 then 5 else 0)
theorem dheader_c (t : List Int) (a : Nat) (fl : Int) (ht : t.length ≤ 400) (p : Nm) : LP Tryd.prog G 14 [.ptr p 0, iAV fl] [(p, zT t a)] (fun _ => ((kM t a fl).av, [(p, zT t (hdrA t a fl))])) := by
 refine goW [] Tryd.func14 rfl ?_
 conv => whnf
 repeat' ((first | (show LC _ _ _ _ _ _; first | (apply LC.upd (jF t _ _ ht _); (repeat first | refine goH ?_ | apply LH.here | apply LH.next); refine ⟨rfl, ?_⟩) | (apply LC.upd (one_c t _ _ ht _); (repeat first | refine goH ?_ | apply LH.here | apply LH.next); refine ⟨rfl, ?_⟩) | (apply LC.upd (word_c t _ _ ht _); (repeat first | refine goH ?_ | apply LH.here | apply LH.next); refine ⟨rfl, ?_⟩) | refine LC.pure (yy _ _) ?_ | refine goE ?_) | refine T.s ?_ | ((first | apply goB | apply AB.dec | apply AB.gen) <;> intro h <;> try (exfalso; omega)) | refine LQ.mk fun r => ?_ | exact T.z | fail) <;> conv => whnf)
 all_goals (try dsimp only)
 all_goals (refine RL.val ?_ ?_; rotate_left; (focus ((repeat' first | exact LB.nil | (with_reducible exact LB.refl) | (apply LB.cons; (repeat first | refine goH ?_ | apply LH.here | apply LH.next); refine And.intro ?_ ?_; (focus (try (first | (with_reducible rfl) | (refine congrArg (Pl.mk _) ?_; (first | rfl | (simp; done))) | rfl | (with_reducible refine congrArg (Pl.mk _) ?_)))))))))
 all_goals rename_i h1
 all_goals first
   | (have ho : wF t (adv t a 5) 2 = true := (xB _ _ _).2 h1
      have hk : jG fl = 2 := h
      (first | (unfold hdrA jH; rewrite [if_pos ho, if_pos hk]; rfl) | (unfold kM hckR jH; simp only [if_pos ho, if_pos hk]; rfl)))
   | (have ho : wF t (adv t a 5) 2 = true := (xB _ _ _).2 h1
      have hk : ¬ jG fl = 2 := h
      (first | (unfold hdrA jH; rewrite [if_pos ho, if_neg hk]; rfl) | (unfold kM hckR jH; simp only [if_pos ho, if_neg hk]; rfl)))
   | (have ho : ¬ wF t (adv t a 5) 2 = true := fun hh => h1 ((xB _ _ _).1 hh)
      have hk : jG fl = 2 := h
      (first | (unfold hdrA jH; rewrite [if_neg ho, if_pos hk]; rfl) | (unfold kM hckR jH; simp only [if_neg ho, if_pos hk]; rfl)))
   | (have ho : ¬ wF t (adv t a 5) 2 = true := fun hh => h1 ((xB _ _ _).1 hh)
      have hk : ¬ jG fl = 2 := h
      (first | (unfold hdrA jH; rewrite [if_neg ho, if_neg hk]; rfl) | (unfold kM hckR jH; simp only [if_neg ho, if_neg hk]; rfl)))
   | trace_state
open Go.RowKit
variable {G : Nat → AV}
def foS (t : List Int) (a : Nat) (reg : Bool) : Int × Nat :=
 if reg = true then (1, a) else if wF t a 4 = true then (qc .add .i64 1 (qm t (adv t a 1) 20), adv t a 2) else (1, adv t a 1)
def foI (h : Hd) (s : Int) : Hd := { h with id := z8 (qc .add .i64 h.id s) 65536 }
def foB (t : List Int) (a : Nat) (h : Hd) : Hd × Nat := if h.ck ≠ 0 then ({ h with ck := qc .add .i64 1 (qm t a 65535) }, adv t a 1) else (h, a)
def foT (s : Int) (h : Hd) : Hd := if h.k = 2 then { h with sq := z8 (qc .add .i64 h.sq s) 65536, tm := z8 (qc .add .i64 h.tm (qc .mul .i64 160 s)) 4294967296, mr := 0 } else h
def foX (t : List Int) (a : Nat) (h : Hd) : Hd × Nat :=
 if qm t a 14 = 0 then ({ h with tos := qm t (adv t a 1) 4 }, adv t a 2)
 else if qm t a 14 = 1 then ({ h with ttl := qc .add .i64 60 (qm t (adv t a 1) 4) }, adv t a 2)
 else if qm t a 14 = 2 then (if h.k = 2 then { h with mr := 1 } else h, adv t a 1)
 else if qm t a 14 = 3 then (if h.k = 2 then ({ h with tm := z8 (qc .add .i64 h.tm (qm t (adv t a 1) 1048576)) 4294967296 }, adv t a 2) else (h, adv t a 1))
 else if qm t a 14 = 4 then (if h.k = 2 then ({ h with id := qm t (adv t a 1) 65536 }, adv t a 2) else (h, adv t a 1))
 else if qm t a 14 = 5 then (if h.k = 2 then ({ h with ty := qc .add .i64 90 (qm t (adv t a 1) 10) }, adv t a 2) else (h, adv t a 1))
 else if qm t a 14 = 6 then (if h.ck = 0 then { h with ck := 5 } else { h with ck := 0 }, adv t a 1)
 else (h, adv t a 1)
def xR (t : List Int) (a : Nat) (h : Hd) (reg : Bool) : Hd × Nat :=
 if reg = true then (foT (foS t a reg).1 (foB t (foS t a reg).2 (foI h (foS t a reg).1)).1, (foB t (foS t a reg).2 (foI h (foS t a reg).1)).2)
 else foX t (foB t (foS t a reg).2 (foI h (foS t a reg).1)).2 (foT (foS t a reg).1 (foB t (foS t a reg).2 (foI h (foS t a reg).1)).1)
section
variable {t : List Int} {a a1 a2 : Nat} {h x y : Hd} {s : Int}
theorem xE (e : qm t a 4 = qc .sub .i64 4 1) : (qc .add .i64 1 (qm t (adv t a 1) 20), adv t a 2) = foS t a false := by
 unfold foS; rw [if_neg (by decide), if_pos ((xB _ _ _).2 e)]
theorem xF (e : ¬ qm t a 4 = qc .sub .i64 4 1) : (1, adv t a 1) = foS t a false := by
 unfold foS; rw [if_neg (by decide), if_neg (fun k => e ((xB _ _ _).1 k))]
theorem zn (e : ¬ h.ck = 0) : (({ h with ck := qc .add .i64 1 (qm t a 65535) } : Hd), adv t a 1) = foB t a h := by unfold foB; rw [if_pos e]
theorem zo (e : h.ck = 0) : (h, a) = foB t a h := by unfold foB; rw [if_neg (fun k => k e)]
theorem zl (e : h.k = 2) : ({ h with sq := z8 (qc .add .i64 h.sq s) 65536, tm := z8 (qc .add .i64 h.tm (qc .mul .i64 160 s)) 4294967296, mr := 0 } : Hd) = foT s h := by unfold foT; rw [if_pos e]
theorem zm (e : ¬ h.k = 2) : h = foT s h := by unfold foT; rw [if_neg e]
theorem fol_t (e2 : (x, a2) = foB t a (foI h 1)) (e3 : y = foT 1 x) : xR t a h true = (y, a2) := by
 have e1 : foS t a true = (1, a) := rfl
 unfold xR
 rw [if_pos rfl, e1]
 simp only [← e2, e3]
theorem fol_f (e1 : (s, a1) = foS t a false) (e2 : (x, a2) = foB t a1 (foI h s)) (e3 : y = foT s x) : xR t a h false = foX t a2 y := by
 unfold xR
 rw [if_neg (by decide), ← e1]
 simp only [← e2, e3]
end
theorem follow_t (t : List Int) (a : Nat) (hd : Hd) (ht : t.length ≤ 400) (p : Nm) : LP Tryd.prog G 20 [.ptr p 0, hd.av, .bool true] [(p, zT t a)] (fun _ => ((xR t a hd true).1.av, [(p, zT t (xR t a hd true).2)])) := by
 refine goW [5, 7] Tryd.func20 rfl ?_
 conv => whnf
 repeat' ((first | exact Nm.b 0 | (show LC _ _ _ _ _ _; first | (apply LC.upd (jF t _ _ ht _); (repeat first | refine goH ?_ | apply LH.here | apply LH.next); refine ⟨rfl, ?_⟩) | (apply LC.upd (one_c t _ _ ht _); (repeat first | refine goH ?_ | apply LH.here | apply LH.next); refine ⟨rfl, ?_⟩) | refine LC.pure (yy _ _) ?_ | refine goE ?_) | refine T.s ?_ | ((first | apply goB | apply AB.dec | apply AB.gen) <;> intro h <;> try (exfalso; omega)) | refine LQ.mk fun r => ?_ | (show SQ _ _ _ _ _ _ _; first | (refine goD tQ qf 23 [1, 3] [0, 1, 2, 3, 4, 5, 6, 7] [] (by kernel_rfl) ?_)) | (show CutL _ _ _ _ _ _ _ _; first | (refine goK tQ [5, 7] 5 (S := Hd × Nat × Nm × Nm) [0, 2, 7] (fun (x, a2, b, o) => ⟨[(4, .ptr b 0), (6, .ptr o 0)], [(p, zT t a2), (b, ⟨38, x.cs⟩), (o, ⟨38, Hd.cs ⟨0, 0, 0, 0, 0, 0, 0, 0, 0, 0, 0, 0, 0, 0, 0⟩⟩)], (x, a2) = foB t a (foI hd 1), 0⟩) ?_ ?_; (rintro ⟨x, a2, b, o⟩ hok; (try dsimp only at hok)); rotate_left) | (refine goK tQ [5, 7] 7 (S := Hd × Nm × Nm) [0, 2] (fun (y, b, o) => ⟨[(4, .ptr b 0), (6, .ptr o 0)], [(p, zT t a2), (b, ⟨38, y.cs⟩), (o, ⟨38, Hd.cs ⟨0, 0, 0, 0, 0, 0, 0, 0, 0, 0, 0, 0, 0, 0, 0⟩⟩)], y = foT 1 x, 0⟩) ?_ ?_; (rintro ⟨y, b, o⟩ hok; (try dsimp only at hok)); rotate_left) | refine CutL.go tQ [5, 7] ?_) | (show AtC _ _ _ _ _ _ _ _; first | (apply AtC.mk' (id := 5) (S := Hd × Nat × Nm × Nm) ((foI hd 1, a, _, _)); (repeat' first | exact trivial | (refine And.intro ?_ ?_) | exact LB.nil | (with_reducible exact LB.refl) | (apply LB.cons; (repeat first | refine goH ?_ | apply LH.here | apply LH.next); refine And.intro ?_ ?_; (focus (try (first | (with_reducible rfl) | (refine congrArg (Pl.mk _) ?_; (first | rfl | (simp; done))) | rfl | (with_reducible refine congrArg (Pl.mk _) ?_))))) | assumption | (show (_, _) = foB _ _ _; first | exact zn (by assumption) | exact zo (by assumption)) | (show _ = foT _ _; first | exact zl (by assumption) | exact zm (by assumption)) | (first | (focus (apply Eq.trans; (conv => lhs; whnf); (conv => rhs; whnf); done)) | rfl | ((conv => lhs; whnf); first | rfl | (refine congrArg (AV.int _) ?_; (exact T.num)) | (refine congrArg AV.bool ?_; (exact T.num)) | (refine vwc ?_; first | (exact T.num) | (first | rfl | (simp; done))) | (refine qe ?_ ?_ <;> first | (exact T.num) | (first | rfl | (simp; done))) | (first | rfl | (simp; done)))) | (exact T.num) | (dsimp only; (exact T.num)) | (first | rfl | (simp; done))); done) | (apply AtC.mk' (id := 5) (S := Hd × Nat × Nm × Nm) (({ foI hd 1 with ck := qc .add .i64 1 (qm t a 65535) }, adv t a 1, _, _)); (repeat' first | exact trivial | (refine And.intro ?_ ?_) | exact LB.nil | (with_reducible exact LB.refl) | (apply LB.cons; (repeat first | refine goH ?_ | apply LH.here | apply LH.next); refine And.intro ?_ ?_; (focus (try (first | (with_reducible rfl) | (refine congrArg (Pl.mk _) ?_; (first | rfl | (simp; done))) | rfl | (with_reducible refine congrArg (Pl.mk _) ?_))))) | assumption | (show (_, _) = foB _ _ _; first | exact zn (by assumption) | exact zo (by assumption)) | (show _ = foT _ _; first | exact zl (by assumption) | exact zm (by assumption)) | (first | (focus (apply Eq.trans; (conv => lhs; whnf); (conv => rhs; whnf); done)) | rfl | ((conv => lhs; whnf); first | rfl | (refine congrArg (AV.int _) ?_; (exact T.num)) | (refine congrArg AV.bool ?_; (exact T.num)) | (refine vwc ?_; first | (exact T.num) | (first | rfl | (simp; done))) | (refine qe ?_ ?_ <;> first | (exact T.num) | (first | rfl | (simp; done))) | (first | rfl | (simp; done)))) | (exact T.num) | (dsimp only; (exact T.num)) | (first | rfl | (simp; done))); done) | (apply AtC.mk' (id := 7) (S := Hd × Nm × Nm) ((x, _, _)); (repeat' first | exact trivial | (refine And.intro ?_ ?_) | exact LB.nil | (with_reducible exact LB.refl) | (apply LB.cons; (repeat first | refine goH ?_ | apply LH.here | apply LH.next); refine And.intro ?_ ?_; (focus (try (first | (with_reducible rfl) | (refine congrArg (Pl.mk _) ?_; (first | rfl | (simp; done))) | rfl | (with_reducible refine congrArg (Pl.mk _) ?_))))) | assumption | (show (_, _) = foB _ _ _; first | exact zn (by assumption) | exact zo (by assumption)) | (show _ = foT _ _; first | exact zl (by assumption) | exact zm (by assumption)) | (first | (focus (apply Eq.trans; (conv => lhs; whnf); (conv => rhs; whnf); done)) | rfl | ((conv => lhs; whnf); first | rfl | (refine congrArg (AV.int _) ?_; (exact T.num)) | (refine congrArg AV.bool ?_; (exact T.num)) | (refine vwc ?_; first | (exact T.num) | (first | rfl | (simp; done))) | (refine qe ?_ ?_ <;> first | (exact T.num) | (first | rfl | (simp; done))) | (first | rfl | (simp; done)))) | (exact T.num) | (dsimp only; (exact T.num)) | (first | rfl | (simp; done))); done) | (apply AtC.mk' (id := 7) (S := Hd × Nm × Nm) (({ x with sq := z8 (qc .add .i64 x.sq 1) 65536, tm := z8 (qc .add .i64 x.tm (qc .mul .i64 160 1)) 4294967296, mr := 0 }, _, _)); (repeat' first | exact trivial | (refine And.intro ?_ ?_) | exact LB.nil | (with_reducible exact LB.refl) | (apply LB.cons; (repeat first | refine goH ?_ | apply LH.here | apply LH.next); refine And.intro ?_ ?_; (focus (try (first | (with_reducible rfl) | (refine congrArg (Pl.mk _) ?_; (first | rfl | (simp; done))) | rfl | (with_reducible refine congrArg (Pl.mk _) ?_))))) | assumption | (show (_, _) = foB _ _ _; first | exact zn (by assumption) | exact zo (by assumption)) | (show _ = foT _ _; first | exact zl (by assumption) | exact zm (by assumption)) | (first | (focus (apply Eq.trans; (conv => lhs; whnf); (conv => rhs; whnf); done)) | rfl | ((conv => lhs; whnf); first | rfl | (refine congrArg (AV.int _) ?_; (exact T.num)) | (refine congrArg AV.bool ?_; (exact T.num)) | (refine vwc ?_; first | (exact T.num) | (first | rfl | (simp; done))) | (refine qe ?_ ?_ <;> first | (exact T.num) | (first | rfl | (simp; done))) | (first | rfl | (simp; done)))) | (exact T.num) | (dsimp only; (exact T.num)) | (first | rfl | (simp; done))); done) | (apply AtC.mk' (id := 5) (S := Hd × Nat × Nm × Nm) ((foI hd 1, a, _, _)); (repeat' first | exact trivial | (refine And.intro ?_ ?_) | exact LB.nil | (with_reducible exact LB.refl) | (apply LB.cons; (repeat first | refine goH ?_ | apply LH.here | apply LH.next); refine And.intro ?_ ?_; (focus (try (first | (with_reducible rfl) | (refine congrArg (Pl.mk _) ?_; (first | rfl | (simp; done))) | rfl | (with_reducible refine congrArg (Pl.mk _) ?_))))) | assumption | (show (_, _) = foB _ _ _; first | exact zn (by assumption) | exact zo (by assumption)) | (show _ = foT _ _; first | exact zl (by assumption) | exact zm (by assumption)) | (first | (focus (apply Eq.trans; (conv => lhs; whnf); (conv => rhs; whnf); done)) | rfl | ((conv => lhs; whnf); first | rfl | (refine congrArg (AV.int _) ?_; (exact T.num)) | (refine congrArg AV.bool ?_; (exact T.num)) | (refine vwc ?_; first | (exact T.num) | (first | rfl | (simp; done))) | (refine qe ?_ ?_ <;> first | (exact T.num) | (first | rfl | (simp; done))) | (first | rfl | (simp; done)))) | (exact T.num) | (dsimp only; (exact T.num)) | (first | rfl | (simp; done)))) | (apply AtC.mk' (id := 5) (S := Hd × Nat × Nm × Nm) (({ foI hd 1 with ck := qc .add .i64 1 (qm t a 65535) }, adv t a 1, _, _)); (repeat' first | exact trivial | (refine And.intro ?_ ?_) | exact LB.nil | (with_reducible exact LB.refl) | (apply LB.cons; (repeat first | refine goH ?_ | apply LH.here | apply LH.next); refine And.intro ?_ ?_; (focus (try (first | (with_reducible rfl) | (refine congrArg (Pl.mk _) ?_; (first | rfl | (simp; done))) | rfl | (with_reducible refine congrArg (Pl.mk _) ?_))))) | assumption | (show (_, _) = foB _ _ _; first | exact zn (by assumption) | exact zo (by assumption)) | (show _ = foT _ _; first | exact zl (by assumption) | exact zm (by assumption)) | (first | (focus (apply Eq.trans; (conv => lhs; whnf); (conv => rhs; whnf); done)) | rfl | ((conv => lhs; whnf); first | rfl | (refine congrArg (AV.int _) ?_; (exact T.num)) | (refine congrArg AV.bool ?_; (exact T.num)) | (refine vwc ?_; first | (exact T.num) | (first | rfl | (simp; done))) | (refine qe ?_ ?_ <;> first | (exact T.num) | (first | rfl | (simp; done))) | (first | rfl | (simp; done)))) | (exact T.num) | (dsimp only; (exact T.num)) | (first | rfl | (simp; done)))) | (apply AtC.mk' (id := 7) (S := Hd × Nm × Nm) ((x, _, _)); (repeat' first | exact trivial | (refine And.intro ?_ ?_) | exact LB.nil | (with_reducible exact LB.refl) | (apply LB.cons; (repeat first | refine goH ?_ | apply LH.here | apply LH.next); refine And.intro ?_ ?_; (focus (try (first | (with_reducible rfl) | (refine congrArg (Pl.mk _) ?_; (first | rfl | (simp; done))) | rfl | (with_reducible refine congrArg (Pl.mk _) ?_))))) | assumption | (show (_, _) = foB _ _ _; first | exact zn (by assumption) | exact zo (by assumption)) | (show _ = foT _ _; first | exact zl (by assumption) | exact zm (by assumption)) | (first | (focus (apply Eq.trans; (conv => lhs; whnf); (conv => rhs; whnf); done)) | rfl | ((conv => lhs; whnf); first | rfl | (refine congrArg (AV.int _) ?_; (exact T.num)) | (refine congrArg AV.bool ?_; (exact T.num)) | (refine vwc ?_; first | (exact T.num) | (first | rfl | (simp; done))) | (refine qe ?_ ?_ <;> first | (exact T.num) | (first | rfl | (simp; done))) | (first | rfl | (simp; done)))) | (exact T.num) | (dsimp only; (exact T.num)) | (first | rfl | (simp; done)))) | (apply AtC.mk' (id := 7) (S := Hd × Nm × Nm) (({ x with sq := z8 (qc .add .i64 x.sq 1) 65536, tm := z8 (qc .add .i64 x.tm (qc .mul .i64 160 1)) 4294967296, mr := 0 }, _, _)); (repeat' first | exact trivial | (refine And.intro ?_ ?_) | exact LB.nil | (with_reducible exact LB.refl) | (apply LB.cons; (repeat first | refine goH ?_ | apply LH.here | apply LH.next); refine And.intro ?_ ?_; (focus (try (first | (with_reducible rfl) | (refine congrArg (Pl.mk _) ?_; (first | rfl | (simp; done))) | rfl | (with_reducible refine congrArg (Pl.mk _) ?_))))) | assumption | (show (_, _) = foB _ _ _; first | exact zn (by assumption) | exact zo (by assumption)) | (show _ = foT _ _; first | exact zl (by assumption) | exact zm (by assumption)) | (first | (focus (apply Eq.trans; (conv => lhs; whnf); (conv => rhs; whnf); done)) | rfl | ((conv => lhs; whnf); first | rfl | (refine congrArg (AV.int _) ?_; (exact T.num)) | (refine congrArg AV.bool ?_; (exact T.num)) | (refine vwc ?_; first | (exact T.num) | (first | rfl | (simp; done))) | (refine qe ?_ ?_ <;> first | (exact T.num) | (first | rfl | (simp; done))) | (first | rfl | (simp; done)))) | (exact T.num) | (dsimp only; (exact T.num)) | (first | rfl | (simp; done))))) | exact T.z | fail) <;> conv => whnf)
 all_goals (try dsimp only)
 all_goals
   rw [fol_t (x := x) (a2 := a2) (y := y) (by assumption) (by assumption)]
   (show RL _ _ _; refine goR ?_)
   rfl
theorem follow_f (t : List Int) (a : Nat) (hd : Hd) (ht : t.length ≤ 400) (p : Nm) : LP Tryd.prog G 20 [.ptr p 0, hd.av, .bool false] [(p, zT t a)] (fun _ => ((xR t a hd false).1.av, [(p, zT t (xR t a hd false).2)])) := by
 refine goW [2, 5, 7] Tryd.func20 rfl ?_
 conv => whnf
 repeat' ((first | exact Nm.b 0 | (show LC _ _ _ _ _ _; first | (apply LC.upd (jF t _ _ ht _); (repeat first | refine goH ?_ | apply LH.here | apply LH.next); refine ⟨rfl, ?_⟩) | (apply LC.upd (one_c t _ _ ht _); (repeat first | refine goH ?_ | apply LH.here | apply LH.next); refine ⟨rfl, ?_⟩) | refine LC.pure (yy _ _) ?_ | refine goE ?_) | refine T.s ?_ | ((first | apply goB | apply AB.dec | apply AB.gen) <;> intro h <;> try (exfalso; omega)) | refine LQ.mk fun r => ?_ | (show SQ _ _ _ _ _ _ _; first | refine gX 23 [1, 3] [0, 1, 2, 3, 4, 5, 6, 7] [p] ?_) | (show CutL _ _ _ _ _ _ _ _; first | (refine goK tQ [2, 5, 7] 2 (S := Int × Nat × Nm × Nm) [0, 2] (fun (s, a1, b, o) => ⟨[(7, .int .i64 s), (4, .ptr b 0), (6, .ptr o 0)], [(p, zT t a1), (b, ⟨38, hd.cs⟩), (o, ⟨38, Hd.cs ⟨0, 0, 0, 0, 0, 0, 0, 0, 0, 0, 0, 0, 0, 0, 0⟩⟩)], (s, a1) = foS t a false, 0⟩) ?_ ?_; (rintro ⟨s, a1, b, o⟩ hok; (try dsimp only at hok)); rotate_left) | (refine goK tQ [2, 5, 7] 5 (S := Hd × Nat × Nm × Nm) [0, 2, 7] (fun (x, a2, b, o) => ⟨[(4, .ptr b 0), (6, .ptr o 0)], [(p, zT t a2), (b, ⟨38, x.cs⟩), (o, ⟨38, Hd.cs ⟨0, 0, 0, 0, 0, 0, 0, 0, 0, 0, 0, 0, 0, 0, 0⟩⟩)], (x, a2) = foB t a1 (foI hd s), 0⟩) ?_ ?_; (rintro ⟨x, a2, b, o⟩ hok; (try dsimp only at hok)); rotate_left) | (refine goK tQ [2, 5, 7] 7 (S := Hd × Nm × Nm) [0, 2] (fun (y, b, o) => ⟨[(4, .ptr b 0), (6, .ptr o 0)], [(p, zT t a2), (b, ⟨38, y.cs⟩), (o, ⟨38, Hd.cs ⟨0, 0, 0, 0, 0, 0, 0, 0, 0, 0, 0, 0, 0, 0, 0⟩⟩)], y = foT s x, 0⟩) ?_ ?_; (rintro ⟨y, b, o⟩ hok; (try dsimp only at hok)); rotate_left) | refine CutL.go tQ [2, 5, 7] ?_) | (show AtC _ _ _ _ _ _ _ _; first | (apply AtC.mk' (id := 2) (S := Int × Nat × Nm × Nm) ((1, adv t a 1, _, _)); (repeat' first | exact trivial | (refine And.intro ?_ ?_) | exact LB.nil | (with_reducible exact LB.refl) | (apply LB.cons; (repeat first | refine goH ?_ | apply LH.here | apply LH.next); refine And.intro ?_ ?_; (focus (try (first | (with_reducible rfl) | (refine congrArg (Pl.mk _) ?_; (first | rfl | (simp; done))) | rfl | (with_reducible refine congrArg (Pl.mk _) ?_))))) | assumption | (show (_, _) = foS _ _ _; first | exact xE (by assumption) | exact xF (by assumption)) | (show (_, _) = foB _ _ _; first | exact zn (by assumption) | exact zo (by assumption)) | (show _ = foT _ _; first | exact zl (by assumption) | exact zm (by assumption)) | (first | (focus (apply Eq.trans; (conv => lhs; whnf); (conv => rhs; whnf); done)) | rfl | ((conv => lhs; whnf); first | rfl | (refine congrArg (AV.int _) ?_; (exact T.num)) | (refine congrArg AV.bool ?_; (exact T.num)) | (refine vwc ?_; first | (exact T.num) | (first | rfl | (simp; done))) | (refine qe ?_ ?_ <;> first | (exact T.num) | (first | rfl | (simp; done))) | (first | rfl | (simp; done)))) | (exact T.num) | (dsimp only; (exact T.num)) | (first | rfl | (simp; done))); done) | (apply AtC.mk' (id := 2) (S := Int × Nat × Nm × Nm) ((qc .add .i64 1 (qm t (adv t a 1) 20), adv t a 2, _, _)); (repeat' first | exact trivial | (refine And.intro ?_ ?_) | exact LB.nil | (with_reducible exact LB.refl) | (apply LB.cons; (repeat first | refine goH ?_ | apply LH.here | apply LH.next); refine And.intro ?_ ?_; (focus (try (first | (with_reducible rfl) | (refine congrArg (Pl.mk _) ?_; (first | rfl | (simp; done))) | rfl | (with_reducible refine congrArg (Pl.mk _) ?_))))) | assumption | (show (_, _) = foS _ _ _; first | exact xE (by assumption) | exact xF (by assumption)) | (show (_, _) = foB _ _ _; first | exact zn (by assumption) | exact zo (by assumption)) | (show _ = foT _ _; first | exact zl (by assumption) | exact zm (by assumption)) | (first | (focus (apply Eq.trans; (conv => lhs; whnf); (conv => rhs; whnf); done)) | rfl | ((conv => lhs; whnf); first | rfl | (refine congrArg (AV.int _) ?_; (exact T.num)) | (refine congrArg AV.bool ?_; (exact T.num)) | (refine vwc ?_; first | (exact T.num) | (first | rfl | (simp; done))) | (refine qe ?_ ?_ <;> first | (exact T.num) | (first | rfl | (simp; done))) | (first | rfl | (simp; done)))) | (exact T.num) | (dsimp only; (exact T.num)) | (first | rfl | (simp; done))); done) | (apply AtC.mk' (id := 5) (S := Hd × Nat × Nm × Nm) ((foI hd s, a1, _, _)); (repeat' first | exact trivial | (refine And.intro ?_ ?_) | exact LB.nil | (with_reducible exact LB.refl) | (apply LB.cons; (repeat first | refine goH ?_ | apply LH.here | apply LH.next); refine And.intro ?_ ?_; (focus (try (first | (with_reducible rfl) | (refine congrArg (Pl.mk _) ?_; (first | rfl | (simp; done))) | rfl | (with_reducible refine congrArg (Pl.mk _) ?_))))) | assumption | (show (_, _) = foS _ _ _; first | exact xE (by assumption) | exact xF (by assumption)) | (show (_, _) = foB _ _ _; first | exact zn (by assumption) | exact zo (by assumption)) | (show _ = foT _ _; first | exact zl (by assumption) | exact zm (by assumption)) | (first | (focus (apply Eq.trans; (conv => lhs; whnf); (conv => rhs; whnf); done)) | rfl | ((conv => lhs; whnf); first | rfl | (refine congrArg (AV.int _) ?_; (exact T.num)) | (refine congrArg AV.bool ?_; (exact T.num)) | (refine vwc ?_; first | (exact T.num) | (first | rfl | (simp; done))) | (refine qe ?_ ?_ <;> first | (exact T.num) | (first | rfl | (simp; done))) | (first | rfl | (simp; done)))) | (exact T.num) | (dsimp only; (exact T.num)) | (first | rfl | (simp; done))); done) | (apply AtC.mk' (id := 5) (S := Hd × Nat × Nm × Nm) (({ foI hd s with ck := qc .add .i64 1 (qm t a1 65535) }, adv t a1 1, _, _)); (repeat' first | exact trivial | (refine And.intro ?_ ?_) | exact LB.nil | (with_reducible exact LB.refl) | (apply LB.cons; (repeat first | refine goH ?_ | apply LH.here | apply LH.next); refine And.intro ?_ ?_; (focus (try (first | (with_reducible rfl) | (refine congrArg (Pl.mk _) ?_; (first | rfl | (simp; done))) | rfl | (with_reducible refine congrArg (Pl.mk _) ?_))))) | assumption | (show (_, _) = foS _ _ _; first | exact xE (by assumption) | exact xF (by assumption)) | (show (_, _) = foB _ _ _; first | exact zn (by assumption) | exact zo (by assumption)) | (show _ = foT _ _; first | exact zl (by assumption) | exact zm (by assumption)) | (first | (focus (apply Eq.trans; (conv => lhs; whnf); (conv => rhs; whnf); done)) | rfl | ((conv => lhs; whnf); first | rfl | (refine congrArg (AV.int _) ?_; (exact T.num)) | (refine congrArg AV.bool ?_; (exact T.num)) | (refine vwc ?_; first | (exact T.num) | (first | rfl | (simp; done))) | (refine qe ?_ ?_ <;> first | (exact T.num) | (first | rfl | (simp; done))) | (first | rfl | (simp; done)))) | (exact T.num) | (dsimp only; (exact T.num)) | (first | rfl | (simp; done))); done) | (apply AtC.mk' (id := 7) (S := Hd × Nm × Nm) ((x, _, _)); (repeat' first | exact trivial | (refine And.intro ?_ ?_) | exact LB.nil | (with_reducible exact LB.refl) | (apply LB.cons; (repeat first | refine goH ?_ | apply LH.here | apply LH.next); refine And.intro ?_ ?_; (focus (try (first | (with_reducible rfl) | (refine congrArg (Pl.mk _) ?_; (first | rfl | (simp; done))) | rfl | (with_reducible refine congrArg (Pl.mk _) ?_))))) | assumption | (show (_, _) = foS _ _ _; first | exact xE (by assumption) | exact xF (by assumption)) | (show (_, _) = foB _ _ _; first | exact zn (by assumption) | exact zo (by assumption)) | (show _ = foT _ _; first | exact zl (by assumption) | exact zm (by assumption)) | (first | (focus (apply Eq.trans; (conv => lhs; whnf); (conv => rhs; whnf); done)) | rfl | ((conv => lhs; whnf); first | rfl | (refine congrArg (AV.int _) ?_; (exact T.num)) | (refine congrArg AV.bool ?_; (exact T.num)) | (refine vwc ?_; first | (exact T.num) | (first | rfl | (simp; done))) | (refine qe ?_ ?_ <;> first | (exact T.num) | (first | rfl | (simp; done))) | (first | rfl | (simp; done)))) | (exact T.num) | (dsimp only; (exact T.num)) | (first | rfl | (simp; done))); done) | (apply AtC.mk' (id := 7) (S := Hd × Nm × Nm) (({ x with sq := z8 (qc .add .i64 x.sq s) 65536, tm := z8 (qc .add .i64 x.tm (qc .mul .i64 160 s)) 4294967296, mr := 0 }, _, _)); (repeat' first | exact trivial | (refine And.intro ?_ ?_) | exact LB.nil | (with_reducible exact LB.refl) | (apply LB.cons; (repeat first | refine goH ?_ | apply LH.here | apply LH.next); refine And.intro ?_ ?_; (focus (try (first | (with_reducible rfl) | (refine congrArg (Pl.mk _) ?_; (first | rfl | (simp; done))) | rfl | (with_reducible refine congrArg (Pl.mk _) ?_))))) | assumption | (show (_, _) = foS _ _ _; first | exact xE (by assumption) | exact xF (by assumption)) | (show (_, _) = foB _ _ _; first | exact zn (by assumption) | exact zo (by assumption)) | (show _ = foT _ _; first | exact zl (by assumption) | exact zm (by assumption)) | (first | (focus (apply Eq.trans; (conv => lhs; whnf); (conv => rhs; whnf); done)) | rfl | ((conv => lhs; whnf); first | rfl | (refine congrArg (AV.int _) ?_; (exact T.num)) | (refine congrArg AV.bool ?_; (exact T.num)) | (refine vwc ?_; first | (exact T.num) | (first | rfl | (simp; done))) | (refine qe ?_ ?_ <;> first | (exact T.num) | (first | rfl | (simp; done))) | (first | rfl | (simp; done)))) | (exact T.num) | (dsimp only; (exact T.num)) | (first | rfl | (simp; done))); done) | (apply AtC.mk' (id := 2) (S := Int × Nat × Nm × Nm) ((1, adv t a 1, _, _)); (repeat' first | exact trivial | (refine And.intro ?_ ?_) | exact LB.nil | (with_reducible exact LB.refl) | (apply LB.cons; (repeat first | refine goH ?_ | apply LH.here | apply LH.next); refine And.intro ?_ ?_; (focus (try (first | (with_reducible rfl) | (refine congrArg (Pl.mk _) ?_; (first | rfl | (simp; done))) | rfl | (with_reducible refine congrArg (Pl.mk _) ?_))))) | assumption | (show (_, _) = foS _ _ _; first | exact xE (by assumption) | exact xF (by assumption)) | (show (_, _) = foB _ _ _; first | exact zn (by assumption) | exact zo (by assumption)) | (show _ = foT _ _; first | exact zl (by assumption) | exact zm (by assumption)) | (first | (focus (apply Eq.trans; (conv => lhs; whnf); (conv => rhs; whnf); done)) | rfl | ((conv => lhs; whnf); first | rfl | (refine congrArg (AV.int _) ?_; (exact T.num)) | (refine congrArg AV.bool ?_; (exact T.num)) | (refine vwc ?_; first | (exact T.num) | (first | rfl | (simp; done))) | (refine qe ?_ ?_ <;> first | (exact T.num) | (first | rfl | (simp; done))) | (first | rfl | (simp; done)))) | (exact T.num) | (dsimp only; (exact T.num)) | (first | rfl | (simp; done)))) | (apply AtC.mk' (id := 2) (S := Int × Nat × Nm × Nm) ((qc .add .i64 1 (qm t (adv t a 1) 20), adv t a 2, _, _)); (repeat' first | exact trivial | (refine And.intro ?_ ?_) | exact LB.nil | (with_reducible exact LB.refl) | (apply LB.cons; (repeat first | refine goH ?_ | apply LH.here | apply LH.next); refine And.intro ?_ ?_; (focus (try (first | (with_reducible rfl) | (refine congrArg (Pl.mk _) ?_; (first | rfl | (simp; done))) | rfl | (with_reducible refine congrArg (Pl.mk _) ?_))))) | assumption | (show (_, _) = foS _ _ _; first | exact xE (by assumption) | exact xF (by assumption)) | (show (_, _) = foB _ _ _; first | exact zn (by assumption) | exact zo (by assumption)) | (show _ = foT _ _; first | exact zl (by assumption) | exact zm (by assumption)) | (first | (focus (apply Eq.trans; (conv => lhs; whnf); (conv => rhs; whnf); done)) | rfl | ((conv => lhs; whnf); first | rfl | (refine congrArg (AV.int _) ?_; (exact T.num)) | (refine congrArg AV.bool ?_; (exact T.num)) | (refine vwc ?_; first | (exact T.num) | (first | rfl | (simp; done))) | (refine qe ?_ ?_ <;> first | (exact T.num) | (first | rfl | (simp; done))) | (first | rfl | (simp; done)))) | (exact T.num) | (dsimp only; (exact T.num)) | (first | rfl | (simp; done)))) | (apply AtC.mk' (id := 5) (S := Hd × Nat × Nm × Nm) ((foI hd s, a1, _, _)); (repeat' first | exact trivial | (refine And.intro ?_ ?_) | exact LB.nil | (with_reducible exact LB.refl) | (apply LB.cons; (repeat first | refine goH ?_ | apply LH.here | apply LH.next); refine And.intro ?_ ?_; (focus (try (first | (with_reducible rfl) | (refine congrArg (Pl.mk _) ?_; (first | rfl | (simp; done))) | rfl | (with_reducible refine congrArg (Pl.mk _) ?_))))) | assumption | (show (_, _) = foS _ _ _; first | exact xE (by assumption) | exact xF (by assumption)) | (show (_, _) = foB _ _ _; first | exact zn (by assumption) | exact zo (by assumption)) | (show _ = foT _ _; first | exact zl (by assumption) | exact zm (by assumption)) | (first | (focus (apply Eq.trans; (conv => lhs; whnf); (conv => rhs; whnf); done)) | rfl | ((conv => lhs; whnf); first | rfl | (refine congrArg (AV.int _) ?_; (exact T.num)) | (refine congrArg AV.bool ?_; (exact T.num)) | (refine vwc ?_; first | (exact T.num) | (first | rfl | (simp; done))) | (refine qe ?_ ?_ <;> first | (exact T.num) | (first | rfl | (simp; done))) | (first | rfl | (simp; done)))) | (exact T.num) | (dsimp only; (exact T.num)) | (first | rfl | (simp; done)))) | (apply AtC.mk' (id := 5) (S := Hd × Nat × Nm × Nm) (({ foI hd s with ck := qc .add .i64 1 (qm t a1 65535) }, adv t a1 1, _, _)); (repeat' first | exact trivial | (refine And.intro ?_ ?_) | exact LB.nil | (with_reducible exact LB.refl) | (apply LB.cons; (repeat first | refine goH ?_ | apply LH.here | apply LH.next); refine And.intro ?_ ?_; (focus (try (first | (with_reducible rfl) | (refine congrArg (Pl.mk _) ?_; (first | rfl | (simp; done))) | rfl | (with_reducible refine congrArg (Pl.mk _) ?_))))) | assumption | (show (_, _) = foS _ _ _; first | exact xE (by assumption) | exact xF (by assumption)) | (show (_, _) = foB _ _ _; first | exact zn (by assumption) | exact zo (by assumption)) | (show _ = foT _ _; first | exact zl (by assumption) | exact zm (by assumption)) | (first | (focus (apply Eq.trans; (conv => lhs; whnf); (conv => rhs; whnf); done)) | rfl | ((conv => lhs; whnf); first | rfl | (refine congrArg (AV.int _) ?_; (exact T.num)) | (refine congrArg AV.bool ?_; (exact T.num)) | (refine vwc ?_; first | (exact T.num) | (first | rfl | (simp; done))) | (refine qe ?_ ?_ <;> first | (exact T.num) | (first | rfl | (simp; done))) | (first | rfl | (simp; done)))) | (exact T.num) | (dsimp only; (exact T.num)) | (first | rfl | (simp; done)))) | (apply AtC.mk' (id := 7) (S := Hd × Nm × Nm) ((x, _, _)); (repeat' first | exact trivial | (refine And.intro ?_ ?_) | exact LB.nil | (with_reducible exact LB.refl) | (apply LB.cons; (repeat first | refine goH ?_ | apply LH.here | apply LH.next); refine And.intro ?_ ?_; (focus (try (first | (with_reducible rfl) | (refine congrArg (Pl.mk _) ?_; (first | rfl | (simp; done))) | rfl | (with_reducible refine congrArg (Pl.mk _) ?_))))) | assumption | (show (_, _) = foS _ _ _; first | exact xE (by assumption) | exact xF (by assumption)) | (show (_, _) = foB _ _ _; first | exact zn (by assumption) | exact zo (by assumption)) | (show _ = foT _ _; first | exact zl (by assumption) | exact zm (by assumption)) | (first | (focus (apply Eq.trans; (conv => lhs; whnf); (conv => rhs; whnf); done)) | rfl | ((conv => lhs; whnf); first | rfl | (refine congrArg (AV.int _) ?_; (exact T.num)) | (refine congrArg AV.bool ?_; (exact T.num)) | (refine vwc ?_; first | (exact T.num) | (first | rfl | (simp; done))) | (refine qe ?_ ?_ <;> first | (exact T.num) | (first | rfl | (simp; done))) | (first | rfl | (simp; done)))) | (exact T.num) | (dsimp only; (exact T.num)) | (first | rfl | (simp; done)))) | (apply AtC.mk' (id := 7) (S := Hd × Nm × Nm) (({ x with sq := z8 (qc .add .i64 x.sq s) 65536, tm := z8 (qc .add .i64 x.tm (qc .mul .i64 160 s)) 4294967296, mr := 0 }, _, _)); (repeat' first | exact trivial | (refine And.intro ?_ ?_) | exact LB.nil | (with_reducible exact LB.refl) | (apply LB.cons; (repeat first | refine goH ?_ | apply LH.here | apply LH.next); refine And.intro ?_ ?_; (focus (try (first | (with_reducible rfl) | (refine congrArg (Pl.mk _) ?_; (first | rfl | (simp; done))) | rfl | (with_reducible refine congrArg (Pl.mk _) ?_))))) | assumption | (show (_, _) = foS _ _ _; first | exact xE (by assumption) | exact xF (by assumption)) | (show (_, _) = foB _ _ _; first | exact zn (by assumption) | exact zo (by assumption)) | (show _ = foT _ _; first | exact zl (by assumption) | exact zm (by assumption)) | (first | (focus (apply Eq.trans; (conv => lhs; whnf); (conv => rhs; whnf); done)) | rfl | ((conv => lhs; whnf); first | rfl | (refine congrArg (AV.int _) ?_; (exact T.num)) | (refine congrArg AV.bool ?_; (exact T.num)) | (refine vwc ?_; first | (exact T.num) | (first | rfl | (simp; done))) | (refine qe ?_ ?_ <;> first | (exact T.num) | (first | rfl | (simp; done))) | (first | rfl | (simp; done)))) | (exact T.num) | (dsimp only; (exact T.num)) | (first | rfl | (simp; done))))) | exact T.z | fail) <;> conv => whnf)
 all_goals (try dsimp only)
 all_goals
   rw [fol_f (s := s) (a1 := a1) (x := x) (a2 := a2) (y := y) (by assumption) (by assumption) (by assumption)]
   unfold foX
   (repeat first | rw [if_pos (by first | assumption | omega)] | rw [if_neg (by first | assumption | omega)])
   (show RL _ _ _; refine goR ?_)
   rfl
theorem follow_c (t : List Int) (a : Nat) (hd : Hd) (reg : Bool) (ht : t.length ≤ 400) (p : Nm) : LP Tryd.prog G 20 [.ptr p 0, hd.av, .bool reg] [(p, zT t a)] (fun _ => ((xR t a hd reg).1.av, [(p, zT t (xR t a hd reg).2)])) := by
 cases reg
 · exact follow_f t a hd ht p
 · exact follow_t t a hd ht p
open Go.RowKit
section
variable {P : Program} {G : Nat → AV} {N : Nat} {e : Env} {l : LS} {σ σ0 : qd} {w0 w : World} {a : Act}
theorem Rel.dummy (t : TypeId) (h : Rel G N e σ σ0 w0 a w) {k : Nat} (hk : σ (.v k) = none) : Rel G N e (upd σ (.v k) ⟨t, []⟩) σ0 w0 a w := by
 have hst : Stp σ w (upd σ (.v k) ⟨t, []⟩) w := Stp.forget _ _ w fun b hb => by rw [qg _ _ (by simp)]; exact hb
 refine ⟨h.n, h.d, fun x => (h.env x).mono hst, ⟨fun q c hq => ?_, fun m c hm => ?_, xT h.mem.fin _ _⟩, h.st.trans hst, h.glob.mono hst⟩
 · rw [qg _ _ (by simp)] at hq
   obtain ⟨cur, k1, k2, k3⟩ := h.mem.pl q c hq
   exact ⟨cur, k1, k2, fun i hi => (k3 i hi).mono hst⟩
 · by_cases hmk : m = k
   · subst hmk; rw [qp] at hm; cases hm; rfl
   · rw [qg _ _ (by simp; exact hmk)] at hm
     exact h.mem.vl m c hm
theorem SQ.dummy (t : TypeId) {c : Code} {Q : Exit → Env → LS → Prop} (h : ∀ q, SQ P G N c Q e ((q, ⟨t, []⟩) :: l)) : SQ P G N c Q e l := by
 refine ⟨fun φ hs => ⟨fun σ0 w0 a w hr => ?_⟩⟩
 obtain ⟨B, hB⟩ := hr.mem.fin
 have hk := hB B (Nat.le_refl _)
 exact ((h (.v B)).run φ (hs.new hk _)).run σ0 w0 a w (hr.dummy t hk)
theorem LFs.fm {α : Type} {F : List Nm} {f g : α → List AV} (h : ∀ x, LFs l F (f x) (g x)) : ∀ xs : List α, LFs l F (xs.flatMap f) (xs.flatMap g)
 | [] => trivial
 | x :: xs => by rw [List.flatMap_cons, List.flatMap_cons]; exact LFs.app (h x) (LFs.fm h xs)
theorem LFs.same {F : List Nm} : ∀ xs : List AV, LFs l F xs xs
 | [] => trivial
 | _ :: xs => ⟨.eq rfl, LFs.same xs⟩
end
open Go.RowKit
section
variable {P : Program} {G : Nat → AV} {l : LS}
theorem LC.twoK {f : FuncId} {args : List AV} {x : AV} {r p : Nm} {c d c' d' : Pl} {K : AV → LS → Prop} (hs : r ≠ p → LP P G f args [(r, c), (p, d)] fun _ => (x, [(r, c'), (p, d')]))
   (hk : LH l r fun c1 s rest => c1 = c ∧ LH rest p fun d1 _ _ => d1 = d ∧ LH (s c') p fun _ s2 _ => K x (s2 d')) : LC P G f args l K := ⟨fun φ hsp => by
 obtain ⟨l1, c1, l2, rfl, rfl, ha⟩ := hk.ex
 obtain ⟨l3, d1, l4, e, rfl, hb⟩ := ha.ex
 obtain ⟨m1, e1, m2, e2, h⟩ := hb.ex
 clear hk ha hb
 have hnd := xc hsp.nd
 have hp : p ∈ (l1 ++ l2).map (·.1) := by rw [e]; simp
 have hne : r ≠ p := fun hh => by
   subst hh
   rw [List.map_append, List.mem_append] at hp
   exact hp.elim hnd.1 hnd.2.1
 have hpp : pQ φ (l1 ++ (r, c1) :: l2) p = some d1 := by
   have h1 := hsp.rest
   rw [e] at h1
   have h2 := h1.get
   rw [← e, ← hsp.era', qM _ (Ne.symm hne)] at h2
   exact h2
 refine ⟨.inl ⟨[], args, [(r, c1), (p, d1)], _, rfl, fun _ _ => .refl _, hs hne, fun x hx => ?_, by simp [hne], fun q hq hn => ?_⟩⟩
 · simp only [List.mem_cons, List.not_mem_nil, or_false] at hx
   rcases hx with rfl | rfl
   · exact hsp.get
   · exact hpp
 · have h3 : Sep φ (l1 ++ (r, c') :: l2) := hsp.set
   have e3 : l1 ++ (r, c') :: l2 = m1 ++ (p, e1) :: m2 := e2
   have h4 := h3
   rw [e3] at h4
   refine ⟨m1 ++ (p, d') :: m2, ?_, h4.set, h⟩
   rw [← h4.set' d', ← e3, ← hsp.set' c']
   have key : ∀ σ : qd, Go.Proofs.YtbagbjacmakfhaaDoor.upd (Go.Proofs.YtbagbjacmakfhaaDoor.upd (era (era σ p) r) p d') r c' = Go.Proofs.YtbagbjacmakfhaaDoor.upd (Go.Proofs.YtbagbjacmakfhaaDoor.upd σ r c') p d' := fun σ => by
    funext y
    by_cases hy : y = r
    · subst hy
      rw [qp, qg _ _ hne, qp]
    · rw [qg _ _ hy]
      by_cases hz : y = p
      · subst hz; rw [qp, qp]
      · rw [qg _ _ hz, qg _ _ hz, qg _ _ hy, qM _ hy, qM _ hz]
   exact key _⟩
end
open Go.RowKit
theorem hkd_12 (fl : Int) : jG fl = 1 ∨ jG fl = 2 := by
 have h := ve fl 2 (by decide) (by decide)
 have e : jG fl = 1 + z8 fl 2 := by unfold jG; (exact T.num)
 omega
theorem hck_rng (t : List Int) (a : Nat) : 0 ≤ hckR t a ∧ hckR t a ≤ 65535 := by
 unfold hckR
 have h := zb t (adv t a 6) 65535 (by decide) (by decide)
 split
 · have e : qc .add .i64 1 (qm t (adv t a 6) 65535) = 1 + qm t (adv t a 6) 65535 := by (exact T.num)
   omega
 · omega
theorem hdrR_ok (t : List Int) (a : Nat) (fl : Int) (h : 0 ≤ fl ∧ fl ≤ 1000) : (kM t a fl).ok = true := by
 have a1 := zb t a 2 (by decide) (by decide)
 have a2 := zb t (adv t a 1) 2 (by decide) (by decide)
 have a3 := zb t (adv t a 2) 2 (by decide) (by decide)
 have w1 := kC t (adv t a 3) 65535 (by decide) (by decide)
 have w2 := kC t (adv t a (jH t a)) 65535 (by decide) (by decide)
 have w3 := kC t (adv t a (jH t a + 2)) 4294967295 (by decide) (by decide)
 have a5 := zb t (adv t a (jH t a + 4)) 2 (by decide) (by decide)
 have c := hck_rng t a
 have e1 : qc .add .i64 64 (qm t (adv t a 1) 2) = 64 + qm t (adv t a 1) 2 := by (exact T.num)
 have e2 : IntKind.i64.wrap (fl.tdiv 2) = fl / 2 := by
   rw [Int.tdiv_eq_ediv_of_nonneg h.1, IntKind.wrap_i64]
   omega
 have e3 : qc .add .i64 167772162 (fl / 2) = 167772162 + fl / 2 := by (exact T.num)
 have e4 : qc .add .i64 6000 fl = 6000 + fl := by (exact T.num)
 have e5 : qc .add .i64 77 fl = 77 + fl := by (exact T.num)
 unfold Hd.ok
 rcases hkd_12 fl with hk | hk
 · have hk' : (kM t a fl).k = 1 := hk
   rw [if_pos hk']
   simp only [jL, yM, Bool.and_eq_true, xe, decide_eq_true_eq, kM, hk, e1, e2, e3, e4, e5, reduceIte]
   omega
 · have hk' : (kM t a fl).k = 2 := hk
   rw [if_neg (by omega), if_pos hk']
   simp only [jL, vU, Bool.and_eq_true, xe, decide_eq_true_eq, kM, hk, e1, e2, e3, e4, e5, reduceIte]
   omega
theorem ok_low (s : Sm) (hf : s.f = 1 ∨ s.f = 2 ∨ s.f = 3) (h1 : 0 ≤ s.cx ∧ s.cx < 16 ∧ s.pl.length ≤ 1500) (h2 : qL (cbR s.f) s.ck = true) (h3 : zA s = true) (hk : s.h.k = 1 ∨ s.h.k = 2) (hz : hzR s.h s.h.k = true) (hd : dzR s.d = true) : s.ok = true := by
 unfold Sm.ok topR
 rw [if_pos hf, h2, h3, hz, hd, decide_eq_true h1, decide_eq_true hk]
 rfl
theorem ok_big (s : Sm) (hf : s.f = 4 ∨ s.f = 5) (h1 : 0 ≤ s.cx ∧ s.cx < 16 ∧ s.pl.length ≤ 1500) (h2 : qL (cbR s.f) s.ck = true) (h3 : k9 s = true) (h4 : xM s = true) : s.ok = true := by
 unfold Sm.ok topR
 rw [if_neg (by omega), if_pos hf, h2, h3, h4, decide_eq_true h1]
 rfl
theorem zE (n : Nat) (v : Int) : qL (n : Int) v = true ↔ 0 ≤ v ∧ v ≤ 2 ^ n - 1 := by rw [fit_in, xe]
open Go.RowKit
theorem yz {α : Type} {p : α → Bool} (l : List α) (i : Nat) (d : α) (h : i < l.length) : (l.take (i + 1)).findIdx? p = ((l.take i).findIdx? p).or (if p (l.getD i d) = true then some i else none) := by
 rw [List.take_succ_eq_append_getElem h, List.findIdx?_append]
 have e : l[i] = l.getD i d := by simp [List.getD_eq_getElem?_getD, h]
 rw [e, List.findIdx?_singleton]
 congr 1
 split
 · simp; omega
 · rfl
theorem wI {α : Type} {p : α → Bool} (l : List α) (i : Nat) (d : α) (h : i < l.length) (h0 : (l.take i).findIdx? p = none) (hp : p (l.getD i d) = true) : l.findIdx? p = some i := by
 have e : l = l.take (i + 1) ++ l.drop (i + 1) := (List.take_append_drop _ _).symm
 rw [e, List.findIdx?_append, yz l i d h, h0, if_pos hp]
 rfl
theorem gidx_n {α : Type} {p : α → Bool} {l : List α} {i : Nat} (d : α) (h : i < l.length) (h0 : (l.take i).findIdx? p = none) (hp : p (l.getD i d) = false) : (l.take (i + 1)).findIdx? p = none := by
 rw [yz l i d h, h0, if_neg (by rw [hp]; decide)]; rfl
theorem gidx_e {α : Type} {p : α → Bool} {l : List α} {i : Nat} (h : l.length ≤ i) (h0 : (l.take i).findIdx? p = none) : l.findIdx? p = none := by rwa [List.take_of_length_le h] at h0
end Go.Proofs.YtbagbjacmakfhaaDoor
