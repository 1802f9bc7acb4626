/-
  Contracts of the functions that the laws reach.
-/
import Derived.Test.YtkfpgdckdmlhkaaGreatDoorDq01
import Derived.Test.YtkfpgdckdmlhkaaGreatDoorDq02
import Derived.Test.YtkfpgdckdmlhkaaGreatDoorDq03
import Derived.Test.YtkfpgdckdmlhkaaGreatDoorDq04
import Derived.Test.YtkfpgdckdmlhkaaGreatDoorDq05
import Derived.Test.YtkfpgdckdmlhkaaGreatDoorDq06
import Derived.Test.YtkfpgdckdmlhkaaGreatDoorDq07
import Derived.Test.YtkfpgdckdmlhkaaGreatDoorDq08
import Derived.Test.YtkfpgdckdmlhkaaGreatDoorDq10
import Derived.Test.YtkfpgdckdmlhkaaGreatDoorDq14
import Derived.Test.YtkfpgdckdmlhkaaGreatDoorDq15
import Derived.Test.YtkfpgdckdmlhkaaGreatDoorDq16
import Derived.Test.YtkfpgdckdmlhkaaGreatDoorDq17
set_option maxHeartbeats 4000000
set_option linter.all false
namespace Go.Proofs.YtkfpgdckdmlhkaaGreatDoor
open Go.RowKit
variable {G : Nat → AV}
@[simp] theorem adv_adv (t : List Int) (a i j : Nat) : adv t (adv t a i) j = adv t a (i + j) := by
 induction j with
 | zero => rfl
 | succ j ih => exact congrArg (qd t) ih
def wordR (t : List Int) (a : Nat) (m : Int) : Int := if qg t a 4 = 0 then qg t (adv t a 1) 3 else if qg t a 4 = 1 then q7 .sub .i64 m (qg t (adv t a 1) 3) else qg t (adv t a 1) (q7 .add .i64 m 1)
theorem word_c (t : List Int) (a : Nat) (m : Int) (ht : t.length ≤ 400) (p : Nm) : LP Tryz.prog G 82 [.ptr p 0, iAV m] [(p, zl t a)] (fun _ => (iAV (wordR t a m), [(p, zl t (adv t a 2))])) := by
 refine goW [] Tryz.func82 rfl ?_
 conv => whnf
 repeat' ((first | (show LC _ _ _ _ _ _; first | (apply LC.upd (je t _ _ ht _); (repeat first | refine goH ?_ | apply LH.here | apply LH.next); refine ⟨rfl, ?_⟩) | refine goE ?_) | refine T.s ?_ | ((first | apply goB | apply AB.dec | apply AB.gen) <;> intro h <;> try (exfalso; omega)) | refine LQ.mk fun r => ?_ | exact T.z | fail) <;> conv => whnf)
 all_goals (try dsimp only)
 all_goals
   (show RL _ _ _; refine goR ?_)
   unfold wordR
   (repeat first | rw [if_pos (by first | assumption | omega)] | rw [if_neg (by first | assumption | omega)])
   rfl
attribute [irreducible] wordR
theorem j7 (t : List Int) (a : Nat) (n : Int) : jd t a n = true ↔ qg t a n = q7 .sub .i64 n 1 := by simp [jd, qu]
def hckR (t : List Int) (a : Nat) : Int := if jd t (adv t a 5) 2 = true then q7 .add .i64 1 (qg t (adv t a 6) 65535) else 0
def vH (t : List Int) (a : Nat) : Nat := if jd t (adv t a 5) 2 = true then 7 else 6
def wH (fl : Int) : Int := q7 .add .i64 1 (xB fl 2)
def hdrR (t : List Int) (a : Nat) (fl : Int) : Hd :=
 { k := wH fl, tos := qg t a 2, ttl := q7 .add .i64 64 (qg t (adv t a 1) 2), fx := qg t (adv t a 2) 2, id := wordR t (adv t a 3) 65535, fr := 167772161, to := q7 .add .i64 167772162 (IntKind.i64.wrap (fl.tdiv 2)), fp := 5000, tp := q7 .add .i64 6000 fl,
   ck := hckR t a
   ty := if wH fl = 2 then 96 else 0
   sq := if wH fl = 2 then wordR t (adv t a (vH t a)) 65535 else 0
   tm := if wH fl = 2 then wordR t (adv t a (vH t a + 2)) 4294967295 else 0
   sr := if wH fl = 2 then q7 .add .i64 77 fl else 0
   mr := if wH fl = 2 then qg t (adv t a (vH t a + 4)) 2 else 0 }
def hdrA (t : List Int) (a : Nat) (fl : Int) : Nat := adv t a (vH t a + if wH fl = 2 then 5 else 0)
theorem dheader_c (t : List Int) (a : Nat) (fl : Int) (ht : t.length ≤ 400) (p : Nm) : LP Tryz.prog G 39 [.ptr p 0, iAV fl] [(p, zl t a)] (fun _ => ((hdrR t a fl).av, [(p, zl t (hdrA t a fl))])) := by
 refine goW [] Tryz.func39 rfl ?_
 conv => whnf
 repeat' ((first | (show LC _ _ _ _ _ _; first | (apply LC.upd (je t _ _ ht _); (repeat first | refine goH ?_ | apply LH.here | apply LH.next); refine ⟨rfl, ?_⟩) | (apply LC.upd (one_c t _ _ ht _); (repeat first | refine goH ?_ | apply LH.here | apply LH.next); refine ⟨rfl, ?_⟩) | (apply LC.upd (word_c t _ _ ht _); (repeat first | refine goH ?_ | apply LH.here | apply LH.next); refine ⟨rfl, ?_⟩) | refine LC.pure (mod_c _ _) ?_ | refine goE ?_) | refine T.s ?_ | ((first | apply goB | apply AB.dec | apply AB.gen) <;> intro h <;> try (exfalso; omega)) | refine LQ.mk fun r => ?_ | exact T.z | fail) <;> conv => whnf)
 all_goals (try dsimp only)
 all_goals (refine RL.val ?_ ?_; rotate_left; (focus ((repeat' first | exact LB.nil | (with_reducible exact LB.refl) | (apply LB.cons; (repeat first | refine goH ?_ | apply LH.here | apply LH.next); refine And.intro ?_ ?_; (focus (try (first | (with_reducible rfl) | (refine congrArg (Pl.mk _) ?_; (first | rfl | (simp; done))) | rfl | (with_reducible refine congrArg (Pl.mk _) ?_)))))))))
 all_goals rename_i h1
 all_goals first
   | (have ho : jd t (adv t a 5) 2 = true := (j7 _ _ _).2 h1
      have hk : wH fl = 2 := h
      (first | (unfold hdrA vH; rewrite [if_pos ho, if_pos hk]; rfl) | (unfold hdrR hckR vH; simp only [if_pos ho, if_pos hk]; rfl)))
   | (have ho : jd t (adv t a 5) 2 = true := (j7 _ _ _).2 h1
      have hk : ¬ wH fl = 2 := h
      (first | (unfold hdrA vH; rewrite [if_pos ho, if_neg hk]; rfl) | (unfold hdrR hckR vH; simp only [if_pos ho, if_neg hk]; rfl)))
   | (have ho : ¬ jd t (adv t a 5) 2 = true := fun hh => h1 ((j7 _ _ _).1 hh)
      have hk : wH fl = 2 := h
      (first | (unfold hdrA vH; rewrite [if_neg ho, if_pos hk]; rfl) | (unfold hdrR hckR vH; simp only [if_neg ho, if_pos hk]; rfl)))
   | (have ho : ¬ jd t (adv t a 5) 2 = true := fun hh => h1 ((j7 _ _ _).1 hh)
      have hk : ¬ wH fl = 2 := h
      (first | (unfold hdrA vH; rewrite [if_neg ho, if_neg hk]; rfl) | (unfold hdrR hckR vH; simp only [if_neg ho, if_neg hk]; rfl)))
   | trace_state
open Go.RowKit
variable {G : Nat → AV}
def foS (t : List Int) (a : Nat) (reg : Bool) : Int × Nat :=
 if reg = true then (1, a) else if jd t a 4 = true then (q7 .add .i64 1 (qg t (adv t a 1) 20), adv t a 2) else (1, adv t a 1)
def foI (h : Hd) (s : Int) : Hd := { h with id := xB (q7 .add .i64 h.id s) 65536 }
def foB (t : List Int) (a : Nat) (h : Hd) : Hd × Nat := if h.ck ≠ 0 then ({ h with ck := q7 .add .i64 1 (qg t a 65535) }, adv t a 1) else (h, a)
def foT (s : Int) (h : Hd) : Hd := if h.k = 2 then { h with sq := xB (q7 .add .i64 h.sq s) 65536, tm := xB (q7 .add .i64 h.tm (q7 .mul .i64 160 s)) 4294967296, mr := 0 } else h
def foX (t : List Int) (a : Nat) (h : Hd) : Hd × Nat :=
 if qg t a 14 = 0 then ({ h with tos := qg t (adv t a 1) 4 }, adv t a 2)
 else if qg t a 14 = 1 then ({ h with ttl := q7 .add .i64 60 (qg t (adv t a 1) 4) }, adv t a 2)
 else if qg t a 14 = 2 then (if h.k = 2 then { h with mr := 1 } else h, adv t a 1)
 else if qg t a 14 = 3 then (if h.k = 2 then ({ h with tm := xB (q7 .add .i64 h.tm (qg t (adv t a 1) 1048576)) 4294967296 }, adv t a 2) else (h, adv t a 1))
 else if qg t a 14 = 4 then (if h.k = 2 then ({ h with id := qg t (adv t a 1) 65536 }, adv t a 2) else (h, adv t a 1))
 else if qg t a 14 = 5 then (if h.k = 2 then ({ h with ty := q7 .add .i64 90 (qg t (adv t a 1) 10) }, adv t a 2) else (h, adv t a 1))
 else if qg t a 14 = 6 then (if h.ck = 0 then { h with ck := 5 } else { h with ck := 0 }, adv t a 1)
 else (h, adv t a 1)
def yw (t : List Int) (a : Nat) (h : Hd) (reg : Bool) : Hd × Nat :=
 if reg = true then (foT (foS t a reg).1 (foB t (foS t a reg).2 (foI h (foS t a reg).1)).1, (foB t (foS t a reg).2 (foI h (foS t a reg).1)).2)
 else foX t (foB t (foS t a reg).2 (foI h (foS t a reg).1)).2 (foT (foS t a reg).1 (foB t (foS t a reg).2 (foI h (foS t a reg).1)).1)
section
variable {t : List Int} {a a1 a2 : Nat} {h x y : Hd} {s : Int}
theorem jV (e : qg t a 4 = q7 .sub .i64 4 1) : (q7 .add .i64 1 (qg t (adv t a 1) 20), adv t a 2) = foS t a false := by
 unfold foS; rw [if_neg (by decide), if_pos ((j7 _ _ _).2 e)]
theorem jW (e : ¬ qg t a 4 = q7 .sub .i64 4 1) : (1, adv t a 1) = foS t a false := by
 unfold foS; rw [if_neg (by decide), if_neg (fun k => e ((j7 _ _ _).1 k))]
theorem xl (e : ¬ h.ck = 0) : (({ h with ck := q7 .add .i64 1 (qg t a 65535) } : Hd), adv t a 1) = foB t a h := by unfold foB; rw [if_pos e]
theorem xm (e : h.ck = 0) : (h, a) = foB t a h := by unfold foB; rw [if_neg (fun k => k e)]
theorem xj (e : h.k = 2) : ({ h with sq := xB (q7 .add .i64 h.sq s) 65536, tm := xB (q7 .add .i64 h.tm (q7 .mul .i64 160 s)) 4294967296, mr := 0 } : Hd) = foT s h := by unfold foT; rw [if_pos e]
theorem xk (e : ¬ h.k = 2) : h = foT s h := by unfold foT; rw [if_neg e]
theorem fol_t (e2 : (x, a2) = foB t a (foI h 1)) (e3 : y = foT 1 x) : yw t a h true = (y, a2) := by
 have e1 : foS t a true = (1, a) := rfl
 unfold yw
 rw [if_pos rfl, e1]
 simp only [← e2, e3]
theorem fol_f (e1 : (s, a1) = foS t a false) (e2 : (x, a2) = foB t a1 (foI h s)) (e3 : y = foT s x) : yw t a h false = foX t a2 y := by
 unfold yw
 rw [if_neg (by decide), ← e1]
 simp only [← e2, e3]
end
theorem follow_t (t : List Int) (a : Nat) (hd : Hd) (ht : t.length ≤ 400) (p : Nm) : LP Tryz.prog G 41 [.ptr p 0, hd.av, .bool true] [(p, zl t a)] (fun _ => ((yw t a hd true).1.av, [(p, zl t (yw t a hd true).2)])) := by
 refine goW [5, 7] Tryz.func41 rfl ?_
 conv => whnf
 repeat' ((first | exact Nm.b 0 | (show LC _ _ _ _ _ _; first | (apply LC.upd (je t _ _ ht _); (repeat first | refine goH ?_ | apply LH.here | apply LH.next); refine ⟨rfl, ?_⟩) | (apply LC.upd (one_c t _ _ ht _); (repeat first | refine goH ?_ | apply LH.here | apply LH.next); refine ⟨rfl, ?_⟩) | refine LC.pure (mod_c _ _) ?_ | refine goE ?_) | refine T.s ?_ | ((first | apply goB | apply AB.dec | apply AB.gen) <;> intro h <;> try (exfalso; omega)) | refine LQ.mk fun r => ?_ | (show SQ _ _ _ _ _ _ _; first | (refine goD tQ qb 23 [1, 3] [0, 1, 2, 3, 4, 5, 6, 7] [] (by kernel_rfl) ?_)) | (show CutL _ _ _ _ _ _ _ _; first | (refine goK tQ [5, 7] 5 (S := Hd × Nat × Nm × Nm) [0, 2, 7] (fun (x, a2, b, o) => ⟨[(4, .ptr b 0), (6, .ptr o 0)], [(p, zl t a2), (b, ⟨65, x.cs⟩), (o, ⟨65, Hd.cs ⟨0, 0, 0, 0, 0, 0, 0, 0, 0, 0, 0, 0, 0, 0, 0⟩⟩)], (x, a2) = foB t a (foI hd 1), 0⟩) ?_ ?_; (rintro ⟨x, a2, b, o⟩ hok; (try dsimp only at hok)); rotate_left) | (refine goK tQ [5, 7] 7 (S := Hd × Nm × Nm) [0, 2] (fun (y, b, o) => ⟨[(4, .ptr b 0), (6, .ptr o 0)], [(p, zl t a2), (b, ⟨65, y.cs⟩), (o, ⟨65, Hd.cs ⟨0, 0, 0, 0, 0, 0, 0, 0, 0, 0, 0, 0, 0, 0, 0⟩⟩)], y = foT 1 x, 0⟩) ?_ ?_; (rintro ⟨y, b, o⟩ hok; (try dsimp only at hok)); rotate_left) | refine CutL.go tQ [5, 7] ?_) | (show AtC _ _ _ _ _ _ _ _; first | (apply AtC.mk' (id := 5) (S := Hd × Nat × Nm × Nm) ((foI hd 1, a, _, _)); (repeat' first | exact trivial | (refine And.intro ?_ ?_) | exact LB.nil | (with_reducible exact LB.refl) | (apply LB.cons; (repeat first | refine goH ?_ | apply LH.here | apply LH.next); refine And.intro ?_ ?_; (focus (try (first | (with_reducible rfl) | (refine congrArg (Pl.mk _) ?_; (first | rfl | (simp; done))) | rfl | (with_reducible refine congrArg (Pl.mk _) ?_))))) | assumption | (show (_, _) = foB _ _ _; first | exact xl (by assumption) | exact xm (by assumption)) | (show _ = foT _ _; first | exact xj (by assumption) | exact xk (by assumption)) | (first | (focus (apply Eq.trans; (conv => lhs; whnf); (conv => rhs; whnf); done)) | rfl | ((conv => lhs; whnf); first | rfl | (refine congrArg (AV.int _) ?_; (exact T.num)) | (refine congrArg AV.bool ?_; (exact T.num)) | (refine vwc ?_; first | (exact T.num) | (first | rfl | (simp; done))) | (refine qa ?_ ?_ <;> first | (exact T.num) | (first | rfl | (simp; done))) | (first | rfl | (simp; done)))) | (exact T.num) | (dsimp only; (exact T.num)) | (first | rfl | (simp; done))); done) | (apply AtC.mk' (id := 5) (S := Hd × Nat × Nm × Nm) (({ foI hd 1 with ck := q7 .add .i64 1 (qg t a 65535) }, adv t a 1, _, _)); (repeat' first | exact trivial | (refine And.intro ?_ ?_) | exact LB.nil | (with_reducible exact LB.refl) | (apply LB.cons; (repeat first | refine goH ?_ | apply LH.here | apply LH.next); refine And.intro ?_ ?_; (focus (try (first | (with_reducible rfl) | (refine congrArg (Pl.mk _) ?_; (first | rfl | (simp; done))) | rfl | (with_reducible refine congrArg (Pl.mk _) ?_))))) | assumption | (show (_, _) = foB _ _ _; first | exact xl (by assumption) | exact xm (by assumption)) | (show _ = foT _ _; first | exact xj (by assumption) | exact xk (by assumption)) | (first | (focus (apply Eq.trans; (conv => lhs; whnf); (conv => rhs; whnf); done)) | rfl | ((conv => lhs; whnf); first | rfl | (refine congrArg (AV.int _) ?_; (exact T.num)) | (refine congrArg AV.bool ?_; (exact T.num)) | (refine vwc ?_; first | (exact T.num) | (first | rfl | (simp; done))) | (refine qa ?_ ?_ <;> first | (exact T.num) | (first | rfl | (simp; done))) | (first | rfl | (simp; done)))) | (exact T.num) | (dsimp only; (exact T.num)) | (first | rfl | (simp; done))); done) | (apply AtC.mk' (id := 7) (S := Hd × Nm × Nm) ((x, _, _)); (repeat' first | exact trivial | (refine And.intro ?_ ?_) | exact LB.nil | (with_reducible exact LB.refl) | (apply LB.cons; (repeat first | refine goH ?_ | apply LH.here | apply LH.next); refine And.intro ?_ ?_; (focus (try (first | (with_reducible rfl) | (refine congrArg (Pl.mk _) ?_; (first | rfl | (simp; done))) | rfl | (with_reducible refine congrArg (Pl.mk _) ?_))))) | assumption | (show (_, _) = foB _ _ _; first | exact xl (by assumption) | exact xm (by assumption)) | (show _ = foT _ _; first | exact xj (by assumption) | exact xk (by assumption)) | (first | (focus (apply Eq.trans; (conv => lhs; whnf); (conv => rhs; whnf); done)) | rfl | ((conv => lhs; whnf); first | rfl | (refine congrArg (AV.int _) ?_; (exact T.num)) | (refine congrArg AV.bool ?_; (exact T.num)) | (refine vwc ?_; first | (exact T.num) | (first | rfl | (simp; done))) | (refine qa ?_ ?_ <;> first | (exact T.num) | (first | rfl | (simp; done))) | (first | rfl | (simp; done)))) | (exact T.num) | (dsimp only; (exact T.num)) | (first | rfl | (simp; done))); done) | (apply AtC.mk' (id := 7) (S := Hd × Nm × Nm) (({ x with sq := xB (q7 .add .i64 x.sq 1) 65536, tm := xB (q7 .add .i64 x.tm (q7 .mul .i64 160 1)) 4294967296, mr := 0 }, _, _)); (repeat' first | exact trivial | (refine And.intro ?_ ?_) | exact LB.nil | (with_reducible exact LB.refl) | (apply LB.cons; (repeat first | refine goH ?_ | apply LH.here | apply LH.next); refine And.intro ?_ ?_; (focus (try (first | (with_reducible rfl) | (refine congrArg (Pl.mk _) ?_; (first | rfl | (simp; done))) | rfl | (with_reducible refine congrArg (Pl.mk _) ?_))))) | assumption | (show (_, _) = foB _ _ _; first | exact xl (by assumption) | exact xm (by assumption)) | (show _ = foT _ _; first | exact xj (by assumption) | exact xk (by assumption)) | (first | (focus (apply Eq.trans; (conv => lhs; whnf); (conv => rhs; whnf); done)) | rfl | ((conv => lhs; whnf); first | rfl | (refine congrArg (AV.int _) ?_; (exact T.num)) | (refine congrArg AV.bool ?_; (exact T.num)) | (refine vwc ?_; first | (exact T.num) | (first | rfl | (simp; done))) | (refine qa ?_ ?_ <;> first | (exact T.num) | (first | rfl | (simp; done))) | (first | rfl | (simp; done)))) | (exact T.num) | (dsimp only; (exact T.num)) | (first | rfl | (simp; done))); done) | (apply AtC.mk' (id := 5) (S := Hd × Nat × Nm × Nm) ((foI hd 1, a, _, _)); (repeat' first | exact trivial | (refine And.intro ?_ ?_) | exact LB.nil | (with_reducible exact LB.refl) | (apply LB.cons; (repeat first | refine goH ?_ | apply LH.here | apply LH.next); refine And.intro ?_ ?_; (focus (try (first | (with_reducible rfl) | (refine congrArg (Pl.mk _) ?_; (first | rfl | (simp; done))) | rfl | (with_reducible refine congrArg (Pl.mk _) ?_))))) | assumption | (show (_, _) = foB _ _ _; first | exact xl (by assumption) | exact xm (by assumption)) | (show _ = foT _ _; first | exact xj (by assumption) | exact xk (by assumption)) | (first | (focus (apply Eq.trans; (conv => lhs; whnf); (conv => rhs; whnf); done)) | rfl | ((conv => lhs; whnf); first | rfl | (refine congrArg (AV.int _) ?_; (exact T.num)) | (refine congrArg AV.bool ?_; (exact T.num)) | (refine vwc ?_; first | (exact T.num) | (first | rfl | (simp; done))) | (refine qa ?_ ?_ <;> first | (exact T.num) | (first | rfl | (simp; done))) | (first | rfl | (simp; done)))) | (exact T.num) | (dsimp only; (exact T.num)) | (first | rfl | (simp; done)))) | (apply AtC.mk' (id := 5) (S := Hd × Nat × Nm × Nm) (({ foI hd 1 with ck := q7 .add .i64 1 (qg t a 65535) }, adv t a 1, _, _)); (repeat' first | exact trivial | (refine And.intro ?_ ?_) | exact LB.nil | (with_reducible exact LB.refl) | (apply LB.cons; (repeat first | refine goH ?_ | apply LH.here | apply LH.next); refine And.intro ?_ ?_; (focus (try (first | (with_reducible rfl) | (refine congrArg (Pl.mk _) ?_; (first | rfl | (simp; done))) | rfl | (with_reducible refine congrArg (Pl.mk _) ?_))))) | assumption | (show (_, _) = foB _ _ _; first | exact xl (by assumption) | exact xm (by assumption)) | (show _ = foT _ _; first | exact xj (by assumption) | exact xk (by assumption)) | (first | (focus (apply Eq.trans; (conv => lhs; whnf); (conv => rhs; whnf); done)) | rfl | ((conv => lhs; whnf); first | rfl | (refine congrArg (AV.int _) ?_; (exact T.num)) | (refine congrArg AV.bool ?_; (exact T.num)) | (refine vwc ?_; first | (exact T.num) | (first | rfl | (simp; done))) | (refine qa ?_ ?_ <;> first | (exact T.num) | (first | rfl | (simp; done))) | (first | rfl | (simp; done)))) | (exact T.num) | (dsimp only; (exact T.num)) | (first | rfl | (simp; done)))) | (apply AtC.mk' (id := 7) (S := Hd × Nm × Nm) ((x, _, _)); (repeat' first | exact trivial | (refine And.intro ?_ ?_) | exact LB.nil | (with_reducible exact LB.refl) | (apply LB.cons; (repeat first | refine goH ?_ | apply LH.here | apply LH.next); refine And.intro ?_ ?_; (focus (try (first | (with_reducible rfl) | (refine congrArg (Pl.mk _) ?_; (first | rfl | (simp; done))) | rfl | (with_reducible refine congrArg (Pl.mk _) ?_))))) | assumption | (show (_, _) = foB _ _ _; first | exact xl (by assumption) | exact xm (by assumption)) | (show _ = foT _ _; first | exact xj (by assumption) | exact xk (by assumption)) | (first | (focus (apply Eq.trans; (conv => lhs; whnf); (conv => rhs; whnf); done)) | rfl | ((conv => lhs; whnf); first | rfl | (refine congrArg (AV.int _) ?_; (exact T.num)) | (refine congrArg AV.bool ?_; (exact T.num)) | (refine vwc ?_; first | (exact T.num) | (first | rfl | (simp; done))) | (refine qa ?_ ?_ <;> first | (exact T.num) | (first | rfl | (simp; done))) | (first | rfl | (simp; done)))) | (exact T.num) | (dsimp only; (exact T.num)) | (first | rfl | (simp; done)))) | (apply AtC.mk' (id := 7) (S := Hd × Nm × Nm) (({ x with sq := xB (q7 .add .i64 x.sq 1) 65536, tm := xB (q7 .add .i64 x.tm (q7 .mul .i64 160 1)) 4294967296, mr := 0 }, _, _)); (repeat' first | exact trivial | (refine And.intro ?_ ?_) | exact LB.nil | (with_reducible exact LB.refl) | (apply LB.cons; (repeat first | refine goH ?_ | apply LH.here | apply LH.next); refine And.intro ?_ ?_; (focus (try (first | (with_reducible rfl) | (refine congrArg (Pl.mk _) ?_; (first | rfl | (simp; done))) | rfl | (with_reducible refine congrArg (Pl.mk _) ?_))))) | assumption | (show (_, _) = foB _ _ _; first | exact xl (by assumption) | exact xm (by assumption)) | (show _ = foT _ _; first | exact xj (by assumption) | exact xk (by assumption)) | (first | (focus (apply Eq.trans; (conv => lhs; whnf); (conv => rhs; whnf); done)) | rfl | ((conv => lhs; whnf); first | rfl | (refine congrArg (AV.int _) ?_; (exact T.num)) | (refine congrArg AV.bool ?_; (exact T.num)) | (refine vwc ?_; first | (exact T.num) | (first | rfl | (simp; done))) | (refine qa ?_ ?_ <;> first | (exact T.num) | (first | rfl | (simp; done))) | (first | rfl | (simp; done)))) | (exact T.num) | (dsimp only; (exact T.num)) | (first | rfl | (simp; done))))) | exact T.z | fail) <;> conv => whnf)
 all_goals (try dsimp only)
 all_goals
   rw [fol_t (x := x) (a2 := a2) (y := y) (by assumption) (by assumption)]
   (show RL _ _ _; refine goR ?_)
   rfl
theorem follow_f (t : List Int) (a : Nat) (hd : Hd) (ht : t.length ≤ 400) (p : Nm) : LP Tryz.prog G 41 [.ptr p 0, hd.av, .bool false] [(p, zl t a)] (fun _ => ((yw t a hd false).1.av, [(p, zl t (yw t a hd false).2)])) := by
 refine goW [2, 5, 7] Tryz.func41 rfl ?_
 conv => whnf
 repeat' ((first | exact Nm.b 0 | (show LC _ _ _ _ _ _; first | (apply LC.upd (je t _ _ ht _); (repeat first | refine goH ?_ | apply LH.here | apply LH.next); refine ⟨rfl, ?_⟩) | (apply LC.upd (one_c t _ _ ht _); (repeat first | refine goH ?_ | apply LH.here | apply LH.next); refine ⟨rfl, ?_⟩) | refine LC.pure (mod_c _ _) ?_ | refine goE ?_) | refine T.s ?_ | ((first | apply goB | apply AB.dec | apply AB.gen) <;> intro h <;> try (exfalso; omega)) | refine LQ.mk fun r => ?_ | (show SQ _ _ _ _ _ _ _; first | refine gX 23 [1, 3] [0, 1, 2, 3, 4, 5, 6, 7] [p] ?_) | (show CutL _ _ _ _ _ _ _ _; first | (refine goK tQ [2, 5, 7] 2 (S := Int × Nat × Nm × Nm) [0, 2] (fun (s, a1, b, o) => ⟨[(7, .int .i64 s), (4, .ptr b 0), (6, .ptr o 0)], [(p, zl t a1), (b, ⟨65, hd.cs⟩), (o, ⟨65, Hd.cs ⟨0, 0, 0, 0, 0, 0, 0, 0, 0, 0, 0, 0, 0, 0, 0⟩⟩)], (s, a1) = foS t a false, 0⟩) ?_ ?_; (rintro ⟨s, a1, b, o⟩ hok; (try dsimp only at hok)); rotate_left) | (refine goK tQ [2, 5, 7] 5 (S := Hd × Nat × Nm × Nm) [0, 2, 7] (fun (x, a2, b, o) => ⟨[(4, .ptr b 0), (6, .ptr o 0)], [(p, zl t a2), (b, ⟨65, x.cs⟩), (o, ⟨65, Hd.cs ⟨0, 0, 0, 0, 0, 0, 0, 0, 0, 0, 0, 0, 0, 0, 0⟩⟩)], (x, a2) = foB t a1 (foI hd s), 0⟩) ?_ ?_; (rintro ⟨x, a2, b, o⟩ hok; (try dsimp only at hok)); rotate_left) | (refine goK tQ [2, 5, 7] 7 (S := Hd × Nm × Nm) [0, 2] (fun (y, b, o) => ⟨[(4, .ptr b 0), (6, .ptr o 0)], [(p, zl t a2), (b, ⟨65, y.cs⟩), (o, ⟨65, Hd.cs ⟨0, 0, 0, 0, 0, 0, 0, 0, 0, 0, 0, 0, 0, 0, 0⟩⟩)], y = foT s x, 0⟩) ?_ ?_; (rintro ⟨y, b, o⟩ hok; (try dsimp only at hok)); rotate_left) | refine CutL.go tQ [2, 5, 7] ?_) | (show AtC _ _ _ _ _ _ _ _; first | (apply AtC.mk' (id := 2) (S := Int × Nat × Nm × Nm) ((1, adv t a 1, _, _)); (repeat' first | exact trivial | (refine And.intro ?_ ?_) | exact LB.nil | (with_reducible exact LB.refl) | (apply LB.cons; (repeat first | refine goH ?_ | apply LH.here | apply LH.next); refine And.intro ?_ ?_; (focus (try (first | (with_reducible rfl) | (refine congrArg (Pl.mk _) ?_; (first | rfl | (simp; done))) | rfl | (with_reducible refine congrArg (Pl.mk _) ?_))))) | assumption | (show (_, _) = foS _ _ _; first | exact jV (by assumption) | exact jW (by assumption)) | (show (_, _) = foB _ _ _; first | exact xl (by assumption) | exact xm (by assumption)) | (show _ = foT _ _; first | exact xj (by assumption) | exact xk (by assumption)) | (first | (focus (apply Eq.trans; (conv => lhs; whnf); (conv => rhs; whnf); done)) | rfl | ((conv => lhs; whnf); first | rfl | (refine congrArg (AV.int _) ?_; (exact T.num)) | (refine congrArg AV.bool ?_; (exact T.num)) | (refine vwc ?_; first | (exact T.num) | (first | rfl | (simp; done))) | (refine qa ?_ ?_ <;> first | (exact T.num) | (first | rfl | (simp; done))) | (first | rfl | (simp; done)))) | (exact T.num) | (dsimp only; (exact T.num)) | (first | rfl | (simp; done))); done) | (apply AtC.mk' (id := 2) (S := Int × Nat × Nm × Nm) ((q7 .add .i64 1 (qg t (adv t a 1) 20), adv t a 2, _, _)); (repeat' first | exact trivial | (refine And.intro ?_ ?_) | exact LB.nil | (with_reducible exact LB.refl) | (apply LB.cons; (repeat first | refine goH ?_ | apply LH.here | apply LH.next); refine And.intro ?_ ?_; (focus (try (first | (with_reducible rfl) | (refine congrArg (Pl.mk _) ?_; (first | rfl | (simp; done))) | rfl | (with_reducible refine congrArg (Pl.mk _) ?_))))) | assumption | (show (_, _) = foS _ _ _; first | exact jV (by assumption) | exact jW (by assumption)) | (show (_, _) = foB _ _ _; first | exact xl (by assumption) | exact xm (by assumption)) | (show _ = foT _ _; first | exact xj (by assumption) | exact xk (by assumption)) | (first | (focus (apply Eq.trans; (conv => lhs; whnf); (conv => rhs; whnf); done)) | rfl | ((conv => lhs; whnf); first | rfl | (refine congrArg (AV.int _) ?_; (exact T.num)) | (refine congrArg AV.bool ?_; (exact T.num)) | (refine vwc ?_; first | (exact T.num) | (first | rfl | (simp; done))) | (refine qa ?_ ?_ <;> first | (exact T.num) | (first | rfl | (simp; done))) | (first | rfl | (simp; done)))) | (exact T.num) | (dsimp only; (exact T.num)) | (first | rfl | (simp; done))); done) | (apply AtC.mk' (id := 5) (S := Hd × Nat × Nm × Nm) ((foI hd s, a1, _, _)); (repeat' first | exact trivial | (refine And.intro ?_ ?_) | exact LB.nil | (with_reducible exact LB.refl) | (apply LB.cons; (repeat first | refine goH ?_ | apply LH.here | apply LH.next); refine And.intro ?_ ?_; (focus (try (first | (with_reducible rfl) | (refine congrArg (Pl.mk _) ?_; (first | rfl | (simp; done))) | rfl | (with_reducible refine congrArg (Pl.mk _) ?_))))) | assumption | (show (_, _) = foS _ _ _; first | exact jV (by assumption) | exact jW (by assumption)) | (show (_, _) = foB _ _ _; first | exact xl (by assumption) | exact xm (by assumption)) | (show _ = foT _ _; first | exact xj (by assumption) | exact xk (by assumption)) | (first | (focus (apply Eq.trans; (conv => lhs; whnf); (conv => rhs; whnf); done)) | rfl | ((conv => lhs; whnf); first | rfl | (refine congrArg (AV.int _) ?_; (exact T.num)) | (refine congrArg AV.bool ?_; (exact T.num)) | (refine vwc ?_; first | (exact T.num) | (first | rfl | (simp; done))) | (refine qa ?_ ?_ <;> first | (exact T.num) | (first | rfl | (simp; done))) | (first | rfl | (simp; done)))) | (exact T.num) | (dsimp only; (exact T.num)) | (first | rfl | (simp; done))); done) | (apply AtC.mk' (id := 5) (S := Hd × Nat × Nm × Nm) (({ foI hd s with ck := q7 .add .i64 1 (qg t a1 65535) }, adv t a1 1, _, _)); (repeat' first | exact trivial | (refine And.intro ?_ ?_) | exact LB.nil | (with_reducible exact LB.refl) | (apply LB.cons; (repeat first | refine goH ?_ | apply LH.here | apply LH.next); refine And.intro ?_ ?_; (focus (try (first | (with_reducible rfl) | (refine congrArg (Pl.mk _) ?_; (first | rfl | (simp; done))) | rfl | (with_reducible refine congrArg (Pl.mk _) ?_))))) | assumption | (show (_, _) = foS _ _ _; first | exact jV (by assumption) | exact jW (by assumption)) | (show (_, _) = foB _ _ _; first | exact xl (by assumption) | exact xm (by assumption)) | (show _ = foT _ _; first | exact xj (by assumption) | exact xk (by assumption)) | (first | (focus (apply Eq.trans; (conv => lhs; whnf); (conv => rhs; whnf); done)) | rfl | ((conv => lhs; whnf); first | rfl | (refine congrArg (AV.int _) ?_; (exact T.num)) | (refine congrArg AV.bool ?_; (exact T.num)) | (refine vwc ?_; first | (exact T.num) | (first | rfl | (simp; done))) | (refine qa ?_ ?_ <;> first | (exact T.num) | (first | rfl | (simp; done))) | (first | rfl | (simp; done)))) | (exact T.num) | (dsimp only; (exact T.num)) | (first | rfl | (simp; done))); done) | (apply AtC.mk' (id := 7) (S := Hd × Nm × Nm) ((x, _, _)); (repeat' first | exact trivial | (refine And.intro ?_ ?_) | exact LB.nil | (with_reducible exact LB.refl) | (apply LB.cons; (repeat first | refine goH ?_ | apply LH.here | apply LH.next); refine And.intro ?_ ?_; (focus (try (first | (with_reducible rfl) | (refine congrArg (Pl.mk _) ?_; (first | rfl | (simp; done))) | rfl | (with_reducible refine congrArg (Pl.mk _) ?_))))) | assumption | (show (_, _) = foS _ _ _; first | exact jV (by assumption) | exact jW (by assumption)) | (show (_, _) = foB _ _ _; first | exact xl (by assumption) | exact xm (by assumption)) | (show _ = foT _ _; first | exact xj (by assumption) | exact xk (by assumption)) | (first | (focus (apply Eq.trans; (conv => lhs; whnf); (conv => rhs; whnf); done)) | rfl | ((conv => lhs; whnf); first | rfl | (refine congrArg (AV.int _) ?_; (exact T.num)) | (refine congrArg AV.bool ?_; (exact T.num)) | (refine vwc ?_; first | (exact T.num) | (first | rfl | (simp; done))) | (refine qa ?_ ?_ <;> first | (exact T.num) | (first | rfl | (simp; done))) | (first | rfl | (simp; done)))) | (exact T.num) | (dsimp only; (exact T.num)) | (first | rfl | (simp; done))); done) | (apply AtC.mk' (id := 7) (S := Hd × Nm × Nm) (({ x with sq := xB (q7 .add .i64 x.sq s) 65536, tm := xB (q7 .add .i64 x.tm (q7 .mul .i64 160 s)) 4294967296, mr := 0 }, _, _)); (repeat' first | exact trivial | (refine And.intro ?_ ?_) | exact LB.nil | (with_reducible exact LB.refl) | (apply LB.cons; (repeat first | refine goH ?_ | apply LH.here | apply LH.next); refine And.intro ?_ ?_; (focus (try (first | (with_reducible rfl) | (refine congrArg (Pl.mk _) ?_; (first | rfl | (simp; done))) | rfl | (with_reducible refine congrArg (Pl.mk _) ?_))))) | assumption | (show (_, _) = foS _ _ _; first | exact jV (by assumption) | exact jW (by assumption)) | (show (_, _) = foB _ _ _; first | exact xl (by assumption) | exact xm (by assumption)) | (show _ = foT _ _; first | exact xj (by assumption) | exact xk (by assumption)) | (first | (focus (apply Eq.trans; (conv => lhs; whnf); (conv => rhs; whnf); done)) | rfl | ((conv => lhs; whnf); first | rfl | (refine congrArg (AV.int _) ?_; (exact T.num)) | (refine congrArg AV.bool ?_; (exact T.num)) | (refine vwc ?_; first | (exact T.num) | (first | rfl | (simp; done))) | (refine qa ?_ ?_ <;> first | (exact T.num) | (first | rfl | (simp; done))) | (first | rfl | (simp; done)))) | (exact T.num) | (dsimp only; (exact T.num)) | (first | rfl | (simp; done))); done) | (apply AtC.mk' (id := 2) (S := Int × Nat × Nm × Nm) ((1, adv t a 1, _, _)); (repeat' first | exact trivial | (refine And.intro ?_ ?_) | exact LB.nil | (with_reducible exact LB.refl) | (apply LB.cons; (repeat first | refine goH ?_ | apply LH.here | apply LH.next); refine And.intro ?_ ?_; (focus (try (first | (with_reducible rfl) | (refine congrArg (Pl.mk _) ?_; (first | rfl | (simp; done))) | rfl | (with_reducible refine congrArg (Pl.mk _) ?_))))) | assumption | (show (_, _) = foS _ _ _; first | exact jV (by assumption) | exact jW (by assumption)) | (show (_, _) = foB _ _ _; first | exact xl (by assumption) | exact xm (by assumption)) | (show _ = foT _ _; first | exact xj (by assumption) | exact xk (by assumption)) | (first | (focus (apply Eq.trans; (conv => lhs; whnf); (conv => rhs; whnf); done)) | rfl | ((conv => lhs; whnf); first | rfl | (refine congrArg (AV.int _) ?_; (exact T.num)) | (refine congrArg AV.bool ?_; (exact T.num)) | (refine vwc ?_; first | (exact T.num) | (first | rfl | (simp; done))) | (refine qa ?_ ?_ <;> first | (exact T.num) | (first | rfl | (simp; done))) | (first | rfl | (simp; done)))) | (exact T.num) | (dsimp only; (exact T.num)) | (first | rfl | (simp; done)))) | (apply AtC.mk' (id := 2) (S := Int × Nat × Nm × Nm) ((q7 .add .i64 1 (qg t (adv t a 1) 20), adv t a 2, _, _)); (repeat' first | exact trivial | (refine And.intro ?_ ?_) | exact LB.nil | (with_reducible exact LB.refl) | (apply LB.cons; (repeat first | refine goH ?_ | apply LH.here | apply LH.next); refine And.intro ?_ ?_; (focus (try (first | (with_reducible rfl) | (refine congrArg (Pl.mk _) ?_; (first | rfl | (simp; done))) | rfl | (with_reducible refine congrArg (Pl.mk _) ?_))))) | assumption | (show (_, _) = foS _ _ _; first | exact jV (by assumption) | exact jW (by assumption)) | (show (_, _) = foB _ _ _; first | exact xl (by assumption) | exact xm (by assumption)) | (show _ = foT _ _; first | exact xj (by assumption) | exact xk (by assumption)) | (first | (focus (apply Eq.trans; (conv => lhs; whnf); (conv => rhs; whnf); done)) | rfl | ((conv => lhs; whnf); first | rfl | (refine congrArg (AV.int _) ?_; (exact T.num)) | (refine congrArg AV.bool ?_; (exact T.num)) | (refine vwc ?_; first | (exact T.num) | (first | rfl | (simp; done))) | (refine qa ?_ ?_ <;> first | (exact T.num) | (first | rfl | (simp; done))) | (first | rfl | (simp; done)))) | (exact T.num) | (dsimp only; (exact T.num)) | (first | rfl | (simp; done)))) | (apply AtC.mk' (id := 5) (S := Hd × Nat × Nm × Nm) ((foI hd s, a1, _, _)); (repeat' first | exact trivial | (refine And.intro ?_ ?_) | exact LB.nil | (with_reducible exact LB.refl) | (apply LB.cons; (repeat first | refine goH ?_ | apply LH.here | apply LH.next); refine And.intro ?_ ?_; (focus (try (first | (with_reducible rfl) | (refine congrArg (Pl.mk _) ?_; (first | rfl | (simp; done))) | rfl | (with_reducible refine congrArg (Pl.mk _) ?_))))) | assumption | (show (_, _) = foS _ _ _; first | exact jV (by assumption) | exact jW (by assumption)) | (show (_, _) = foB _ _ _; first | exact xl (by assumption) | exact xm (by assumption)) | (show _ = foT _ _; first | exact xj (by assumption) | exact xk (by assumption)) | (first | (focus (apply Eq.trans; (conv => lhs; whnf); (conv => rhs; whnf); done)) | rfl | ((conv => lhs; whnf); first | rfl | (refine congrArg (AV.int _) ?_; (exact T.num)) | (refine congrArg AV.bool ?_; (exact T.num)) | (refine vwc ?_; first | (exact T.num) | (first | rfl | (simp; done))) | (refine qa ?_ ?_ <;> first | (exact T.num) | (first | rfl | (simp; done))) | (first | rfl | (simp; done)))) | (exact T.num) | (dsimp only; (exact T.num)) | (first | rfl | (simp; done)))) | (apply AtC.mk' (id := 5) (S := Hd × Nat × Nm × Nm) (({ foI hd s with ck := q7 .add .i64 1 (qg t a1 65535) }, adv t a1 1, _, _)); (repeat' first | exact trivial | (refine And.intro ?_ ?_) | exact LB.nil | (with_reducible exact LB.refl) | (apply LB.cons; (repeat first | refine goH ?_ | apply LH.here | apply LH.next); refine And.intro ?_ ?_; (focus (try (first | (with_reducible rfl) | (refine congrArg (Pl.mk _) ?_; (first | rfl | (simp; done))) | rfl | (with_reducible refine congrArg (Pl.mk _) ?_))))) | assumption | (show (_, _) = foS _ _ _; first | exact jV (by assumption) | exact jW (by assumption)) | (show (_, _) = foB _ _ _; first | exact xl (by assumption) | exact xm (by assumption)) | (show _ = foT _ _; first | exact xj (by assumption) | exact xk (by assumption)) | (first | (focus (apply Eq.trans; (conv => lhs; whnf); (conv => rhs; whnf); done)) | rfl | ((conv => lhs; whnf); first | rfl | (refine congrArg (AV.int _) ?_; (exact T.num)) | (refine congrArg AV.bool ?_; (exact T.num)) | (refine vwc ?_; first | (exact T.num) | (first | rfl | (simp; done))) | (refine qa ?_ ?_ <;> first | (exact T.num) | (first | rfl | (simp; done))) | (first | rfl | (simp; done)))) | (exact T.num) | (dsimp only; (exact T.num)) | (first | rfl | (simp; done)))) | (apply AtC.mk' (id := 7) (S := Hd × Nm × Nm) ((x, _, _)); (repeat' first | exact trivial | (refine And.intro ?_ ?_) | exact LB.nil | (with_reducible exact LB.refl) | (apply LB.cons; (repeat first | refine goH ?_ | apply LH.here | apply LH.next); refine And.intro ?_ ?_; (focus (try (first | (with_reducible rfl) | (refine congrArg (Pl.mk _) ?_; (first | rfl | (simp; done))) | rfl | (with_reducible refine congrArg (Pl.mk _) ?_))))) | assumption | (show (_, _) = foS _ _ _; first | exact jV (by assumption) | exact jW (by assumption)) | (show (_, _) = foB _ _ _; first | exact xl (by assumption) | exact xm (by assumption)) | (show _ = foT _ _; first | exact xj (by assumption) | exact xk (by assumption)) | (first | (focus (apply Eq.trans; (conv => lhs; whnf); (conv => rhs; whnf); done)) | rfl | ((conv => lhs; whnf); first | rfl | (refine congrArg (AV.int _) ?_; (exact T.num)) | (refine congrArg AV.bool ?_; (exact T.num)) | (refine vwc ?_; first | (exact T.num) | (first | rfl | (simp; done))) | (refine qa ?_ ?_ <;> first | (exact T.num) | (first | rfl | (simp; done))) | (first | rfl | (simp; done)))) | (exact T.num) | (dsimp only; (exact T.num)) | (first | rfl | (simp; done)))) | (apply AtC.mk' (id := 7) (S := Hd × Nm × Nm) (({ x with sq := xB (q7 .add .i64 x.sq s) 65536, tm := xB (q7 .add .i64 x.tm (q7 .mul .i64 160 s)) 4294967296, mr := 0 }, _, _)); (repeat' first | exact trivial | (refine And.intro ?_ ?_) | exact LB.nil | (with_reducible exact LB.refl) | (apply LB.cons; (repeat first | refine goH ?_ | apply LH.here | apply LH.next); refine And.intro ?_ ?_; (focus (try (first | (with_reducible rfl) | (refine congrArg (Pl.mk _) ?_; (first | rfl | (simp; done))) | rfl | (with_reducible refine congrArg (Pl.mk _) ?_))))) | assumption | (show (_, _) = foS _ _ _; first | exact jV (by assumption) | exact jW (by assumption)) | (show (_, _) = foB _ _ _; first | exact xl (by assumption) | exact xm (by assumption)) | (show _ = foT _ _; first | exact xj (by assumption) | exact xk (by assumption)) | (first | (focus (apply Eq.trans; (conv => lhs; whnf); (conv => rhs; whnf); done)) | rfl | ((conv => lhs; whnf); first | rfl | (refine congrArg (AV.int _) ?_; (exact T.num)) | (refine congrArg AV.bool ?_; (exact T.num)) | (refine vwc ?_; first | (exact T.num) | (first | rfl | (simp; done))) | (refine qa ?_ ?_ <;> first | (exact T.num) | (first | rfl | (simp; done))) | (first | rfl | (simp; done)))) | (exact T.num) | (dsimp only; (exact T.num)) | (first | rfl | (simp; done))))) | exact T.z | fail) <;> conv => whnf)
 all_goals (try dsimp only)
 all_goals
   rw [fol_f (s := s) (a1 := a1) (x := x) (a2 := a2) (y := y) (by assumption) (by assumption) (by assumption)]
   unfold foX
   (repeat first | rw [if_pos (by first | assumption | omega)] | rw [if_neg (by first | assumption | omega)])
   (show RL _ _ _; refine goR ?_)
   rfl
theorem follow_c (t : List Int) (a : Nat) (hd : Hd) (reg : Bool) (ht : t.length ≤ 400) (p : Nm) : LP Tryz.prog G 41 [.ptr p 0, hd.av, .bool reg] [(p, zl t a)] (fun _ => ((yw t a hd reg).1.av, [(p, zl t (yw t a hd reg).2)])) := by
 cases reg
 · exact follow_f t a hd ht p
 · exact follow_t t a hd ht p
open Go.RowKit
section
variable {P : Program} {G : Nat → AV} {l : LS}
theorem LC.twoK {f : FuncId} {args : List AV} {x : AV} {r p : Nm} {c d c' d' : Pl} {K : AV → LS → Prop} (hs : r ≠ p → LP P G f args [(r, c), (p, d)] fun _ => (x, [(r, c'), (p, d')]))
   (hk : LH l r fun c1 s rest => c1 = c ∧ LH rest p fun d1 _ _ => d1 = d ∧ LH (s c') p fun _ s2 _ => K x (s2 d')) : LC P G f args l K := ⟨fun φ hsp => by
 obtain ⟨l1, c1, l2, rfl, rfl, ha⟩ := hk.ex
 obtain ⟨l3, d1, l4, e, rfl, hb⟩ := ha.ex
 obtain ⟨m1, e1, m2, e2, h⟩ := hb.ex
 clear hk ha hb
 have hnd := jw hsp.nd
 have hp : p ∈ (l1 ++ l2).map (·.1) := by rw [e]; simp
 have hne : r ≠ p := fun hh => by
   subst hh
   rw [List.map_append, List.mem_append] at hp
   exact hp.elim hnd.1 hnd.2.1
 have hpp : pQ φ (l1 ++ (r, c1) :: l2) p = some d1 := by
   have h1 := hsp.rest
   rw [e] at h1
   have h2 := h1.get
   rw [← e, ← hsp.era', z6 _ (Ne.symm hne)] at h2
   exact h2
 refine ⟨.inl ⟨[], args, [(r, c1), (p, d1)], _, rfl, fun _ _ => .refl _, hs hne, fun x hx => ?_, by simp [hne], fun q hq hn => ?_⟩⟩
 · simp only [List.mem_cons, List.not_mem_nil, or_false] at hx
   rcases hx with rfl | rfl
   · exact hsp.get
   · exact hpp
 · have h3 : Sep φ (l1 ++ (r, c') :: l2) := hsp.set
   have e3 : l1 ++ (r, c') :: l2 = m1 ++ (p, e1) :: m2 := e2
   have h4 := h3
   rw [e3] at h4
   refine ⟨m1 ++ (p, d') :: m2, ?_, h4.set, h⟩
   rw [← h4.set' d', ← e3, ← hsp.set' c']
   have key : ∀ σ : q9, Go.Proofs.YtkfpgdckdmlhkaaGreatDoor.upd (Go.Proofs.YtkfpgdckdmlhkaaGreatDoor.upd (era (era σ p) r) p d') r c' = Go.Proofs.YtkfpgdckdmlhkaaGreatDoor.upd (Go.Proofs.YtkfpgdckdmlhkaaGreatDoor.upd σ r c') p d' := fun σ => by
    funext y
    by_cases hy : y = r
    · subst hy
      rw [qE, qj _ _ hne, qE]
    · rw [qj _ _ hy]
      by_cases hz : y = p
      · subst hz; rw [qE, qE]
      · rw [qj _ _ hz, qj _ _ hz, qj _ _ hy, z6 _ hy, z6 _ hz]
   exact key _⟩
end
theorem AQ.rset {α : Type} {f : α → List AV} {n : Nat} (hf : ∀ x, (f x).length = n) {l : List α} {o : Nat} {xs : List AV} {K : List AV → Prop} {i : Nat} {x : α} (j : Nat) (y : α) (h : i < l.length) (ho : o = i * n + j) (hj : j + xs.length ≤ n) (hy : f y = qo (f x) j xs) (k : K ((l.set i y).flatMap f)) : AQ (qo ((l.set i x).flatMap f) o xs) K := ⟨by
 subst ho
 have h1 : (l.set i x).getD i x = x := by simp [List.getD_eq_getElem?_getD, h]
 rw [yQ hf (l.set i x) i j x y xs (by simpa using h) hj (by rw [h1]; exact hy), List.set_set]
 exact k⟩
theorem AC.rset {α : Type} {f : α → List AV} {n : Nat} (hf : ∀ x, (f x).length = n) {agg : Bool} {l : List α} {o m : Nat} {K : AV → Prop} {i : Nat} {x : α} (j : Nat) (v : AV) (h : i < l.length) (ho : o = i * n + j) (hj : j + m ≤ n) (hv : mkv agg (((f x).drop j).take m) = v) (k : K v) : AC agg ((((l.set i x).flatMap f).drop o).take m) K := ⟨by
 subst ho
 have h1 : (l.set i x).getD i x = x := by simp [List.getD_eq_getElem?_getD, h]
 rw [← List.drop_drop, fm_at hf (l.set i x) i x (by simpa using h), h1, List.drop_append_of_le_length (by rw [hf]; omega), List.take_append_of_le_length (by simp [hf]; omega), hv]
 exact k⟩
theorem wc {α : Type} {f : α → List AV} {n i j m : Nat} {l : List α} {x : α} (hf : ∀ x, (f x).length = n) (h : i < l.length) (hj : j + m ≤ n) : i * n + j + m ≤ ((l.set i x).flatMap f).length := by
 rw [qy hf, List.length_set]
 have := Nat.mul_le_mul_right n (show i + 1 ≤ l.length from h)
 rw [Nat.succ_mul] at this
 omega
theorem set_at {α : Type} {l : List α} {i : Nat} {d : α} (h : i < l.length) : l.set i (l.getD i d) = l := by
 apply List.ext_getElem
 · simp
 · intro k h1 h2
   rw [List.getElem_set]
   split
   · rename_i e; subst e; simp [List.getD_eq_getElem?_getD, h]
   · rfl
theorem set_gt {α : Type} {l : List α} {i : Nat} {x d : α} (h : i < l.length) : (l.set i x).getD i d = x := by simp [List.getD_eq_getElem?_getD, h]
open Go.RowKit
theorem hkd_12 (fl : Int) : wH fl = 1 ∨ wH fl = 2 := by
 have h := yj fl 2 (by decide) (by decide)
 have e : wH fl = 1 + xB fl 2 := by unfold wH; (exact T.num)
 omega
theorem ok_low (s : Sm) (hf : s.f = 1 ∨ s.f = 2 ∨ s.f = 3) (h1 : 0 ≤ s.cx ∧ s.cx < 16 ∧ s.pl.length ≤ 1500) (h2 : qW (cbR s.f) s.ck = true) (h3 : zH s = true) (hk : s.h.k = 1 ∨ s.h.k = 2) (hz : hzR s.h s.h.k = true) (hd : dzR s.d = true) : s.ok = true := by
 unfold Sm.ok ww
 rw [if_pos hf, h2, h3, hz, hd, decide_eq_true h1, decide_eq_true hk]
 rfl
theorem ok_big (s : Sm) (hf : s.f = 4 ∨ s.f = 5) (h1 : 0 ≤ s.cx ∧ s.cx < 16 ∧ s.pl.length ≤ 1500) (h2 : qW (cbR s.f) s.ck = true) (h3 : jD s = true) (h4 : xP s = true) : s.ok = true := by
 unfold Sm.ok ww
 rw [if_neg (by omega), if_pos hf, h2, h3, h4, decide_eq_true h1]
 rfl
theorem xC (n : Nat) (v : Int) : qW (n : Int) v = true ↔ 0 ≤ v ∧ v ≤ 2 ^ n - 1 := by rw [jL, in_iff]
open Go.RowKit
variable {G : Nat → AV}
theorem Hd.eqz (h : Hd) : qU [(h.k, 0), (h.tos, 0), (h.id, 0), (h.fx, 0), (h.ttl, 0), (h.fr, 0), (h.to, 0), (h.fp, 0), (h.tp, 0), (h.ck, 0), (h.mr, 0), (h.ty, 0), (h.sq, 0), (h.tm, 0), (h.sr, 0)] = decide (h = Hd.z) := Hd.eqs h Hd.z
section
variable {r : Rc}
theorem rc_er (h : r.er < 0 ∨ 2 < r.er) : r.ok = false := by unfold Rc.ok; rw [decide_eq_false (by omega)]; rfl
theorem rc_st (h : r.st < 0 ∨ 2 < r.st) : r.ok = false := by unfold Rc.ok; rw [if_neg (by omega), if_neg (by omega)]; simp
theorem rc_0 (he : 0 ≤ r.er ∧ r.er < 3) (h : r.st = 0) : r.ok = (decide (r.la = Hd.z) && decide (r.dy = Dy.z)) := by unfold Rc.ok; rw [decide_eq_true he, if_pos h, Bool.true_and, Bool.decide_and]
theorem rc_1 (he : 0 ≤ r.er ∧ r.er < 3) (h : r.st = 1 ∨ r.st = 2) : r.ok = (r.la.ok && (r.dy.ok && decide (r.la.k = 2 ∨ r.dy = Dy.z))) := by unfold Rc.ok; rw [decide_eq_true he, if_neg (by omega), if_pos h]; rfl
theorem rcz_t (h1 : ¬ r.er < 0) (h2 : ¬ 2 < r.er) (h : r.st = 0) (h3 : qU [(r.la.k, 0), (r.la.tos, 0), (r.la.id, 0), (r.la.fx, 0), (r.la.ttl, 0), (r.la.fr, 0), (r.la.to, 0), (r.la.fp, 0), (r.la.tp, 0), (r.la.ck, 0), (r.la.mr, 0), (r.la.ty, 0), (r.la.sq, 0), (r.la.tm, 0), (r.la.sr, 0)] = true) (h4 : qU [(r.dy.st, 0), (r.dy.fo, 0)] = true) : r.ok = true := by
 rw [rc_0 (by omega) h, ← Hd.eqz, ← h3, Dy.eqz, h4, h3]; rfl
theorem rcz_f1 (h1 : ¬ r.er < 0) (h2 : ¬ 2 < r.er) (h : r.st = 0) (h3 : qU [(r.la.k, 0), (r.la.tos, 0), (r.la.id, 0), (r.la.fx, 0), (r.la.ttl, 0), (r.la.fr, 0), (r.la.to, 0), (r.la.fp, 0), (r.la.tp, 0), (r.la.ck, 0), (r.la.mr, 0), (r.la.ty, 0), (r.la.sq, 0), (r.la.tm, 0), (r.la.sr, 0)] = false) : r.ok = false := by
 rw [rc_0 (by omega) h, ← Hd.eqz, h3]; rfl
theorem rcz_f2 (h1 : ¬ r.er < 0) (h2 : ¬ 2 < r.er) (h : r.st = 0) (h4 : qU [(r.dy.st, 0), (r.dy.fo, 0)] = false) : r.ok = false := by
 rw [rc_0 (by omega) h, Dy.eqz, h4, Bool.and_false]
theorem rc1_f1 (h1 : ¬ r.er < 0) (h2 : ¬ 2 < r.er) (s1 : ¬ r.st < 0) (s2 : ¬ 2 < r.st) (s3 : ¬ r.st = 0) (hl : r.la.ok = false) : r.ok = false := by rw [rc_1 (by omega) (by omega), hl]; rfl
theorem rc1_f2 (h1 : ¬ r.er < 0) (h2 : ¬ 2 < r.er) (s1 : ¬ r.st < 0) (s2 : ¬ 2 < r.st) (s3 : ¬ r.st = 0) (hl : r.dy.ok = false) : r.ok = false := by rw [rc_1 (by omega) (by omega), hl]; simp
theorem rc1_t1 (h1 : ¬ r.er < 0) (h2 : ¬ 2 < r.er) (s1 : ¬ r.st < 0) (s2 : ¬ 2 < r.st) (s3 : ¬ r.st = 0) (hl : r.la.ok = true) (hd : r.dy.ok = true) (hk : ¬ r.la.k = 1) : r.ok = true := by
 rw [rc_1 (by omega) (by omega), hl, hd, decide_eq_true (.inl (by have := ok_k hl; omega))]; rfl
theorem rc1_t2 (h1 : ¬ r.er < 0) (h2 : ¬ 2 < r.er) (s1 : ¬ r.st < 0) (s2 : ¬ 2 < r.st) (s3 : ¬ r.st = 0) (hl : r.la.ok = true) (hd : r.dy.ok = true) (hz : qU [(r.dy.st, 0), (r.dy.fo, 0)] = true) : r.ok = true := by
 rw [← Dy.eqz] at hz
 rw [rc_1 (by omega) (by omega), hl, hd, decide_eq_true (.inr (of_decide_eq_true hz))]; rfl
theorem rc1_f3 (h1 : ¬ r.er < 0) (h2 : ¬ 2 < r.er) (s1 : ¬ r.st < 0) (s2 : ¬ 2 < r.st) (s3 : ¬ r.st = 0) (hk : r.la.k = 1) (hz : qU [(r.dy.st, 0), (r.dy.fo, 0)] = false) : r.ok = false := by
 rw [← Dy.eqz] at hz
 rw [rc_1 (by omega) (by omega), decide_eq_false (by have := of_decide_eq_false hz; rintro (h | h); omega; exact this h)]; simp
end
def De.at (d : De) (i : Nat) : Rc := d.cx.getD i Rc.z
theorem deok {d : De} (h1 : 1 ≤ d.m ∧ d.m ≤ 3) (h2 : d.cx.length = 16) : d.ok = d.cx.all Rc.ok := by unfold De.ok jE; rw [decide_eq_true h1, decide_eq_true h2]; rfl
theorem deok_f {d : De} (h : ¬ ((1 ≤ d.m ∧ d.m ≤ 3) ∧ d.cx.length = 16)) : d.ok = false := by
 unfold De.ok jE
 by_cases h1 : 1 ≤ d.m ∧ d.m ≤ 3
 · rw [decide_eq_false (fun e => h ⟨h1, e⟩)]; simp
 · rw [decide_eq_false h1]; rfl
theorem zI (dd : De) : LP Tryz.prog G 14 [dd.av] [] (fun _ => (.bool dd.ok, [])) := by
 by_cases hs : (1 ≤ dd.m ∧ dd.m ≤ 3) ∧ dd.cx.length = 16
 · rw [deok hs.1 hs.2]
   have hl := hs.2
   refine goW [] Tryz.func14 rfl ?_
   conv => whnf
   repeat' ((first | (refine And.intro ?_ ?_; (focus (first | exact xn Rc.cs_len (by assumption) | exact T.kx | exact T.side))) | (show LC _ _ _ _ _ _; first | refine LC.pure (zn _) ?_ | refine LC.pure (xS _) ?_ | refine goE ?_) | (show AC _ _ _; first | (refine AC.recd Rc.cs_len i Rc.z rfl rfl ?_ ?_; (focus omega))) | refine T.s ?_ | ((first | apply goB | apply AB.dec | apply AB.gen) <;> intro h <;> try (exfalso; omega)) | refine LQ.mk fun r => ?_ | (show SQ _ _ _ (.loop _) _ _ _; first | (apply goO tQ [] 4 (S := Nat × Nm) [] (fun (i, a) => ⟨[(3, .int .i64 i), (1, .ptr a 0)], [(a, ⟨24, [iAV dd.m, rcv dd.cx]⟩)], i ≤ 16 ∧ (dd.cx.take i).all Rc.ok = true, 16 - i⟩) ((0, _)) (by rfl); (focus (all_goals (try exact KA87); done)); rintro ⟨i, a⟩ ⟨hk, hok⟩)) | (show AtL _ _ _ _ _ _ _ _ _ _; first | (apply AtL.mk' (id := 4) (S := Nat × Nm) ((i + 1, _)); all_goals (try exact KA87); done) | (apply AtL.mk' (id := 4) (S := Nat × Nm) ((i + 1, _)); all_goals (try exact KA87))) | exact T.z | fail) <;> conv => whnf)
   all_goals (try dsimp only)
   all_goals first
     | ((show RL _ _ _; refine goR ?_); rw [zE dd.cx i Rc.z (by omega) (rc_er (.inl (by assumption)))])
     | ((show RL _ _ _; refine goR ?_); rw [zE dd.cx i Rc.z (by omega) (rc_er (.inr (by assumption)))])
     | ((show RL _ _ _; refine goR ?_); rw [zE dd.cx i Rc.z (by omega) (rc_st (.inl (by assumption)))])
     | ((show RL _ _ _; refine goR ?_); rw [zE dd.cx i Rc.z (by omega) (rc_st (.inr (by assumption)))])
     | ((show RL _ _ _; refine goR ?_); rw [zE dd.cx i Rc.z (by omega) (rcz_f1 (by assumption) (by assumption) (by assumption) (by assumption))])
     | ((show RL _ _ _; refine goR ?_); rw [zE dd.cx i Rc.z (by omega) (rcz_f2 (by assumption) (by assumption) (by assumption) (by assumption))])
     | ((show RL _ _ _; refine goR ?_); rw [zE dd.cx i Rc.z (by omega) (rc1_f1 (by assumption) (by assumption) (by assumption) (by assumption) (by assumption) (by assumption))])
     | ((show RL _ _ _; refine goR ?_); rw [zE dd.cx i Rc.z (by omega) (rc1_f2 (by assumption) (by assumption) (by assumption) (by assumption) (by assumption) (by assumption))])
     | ((show RL _ _ _; refine goR ?_); rw [zE dd.cx i Rc.z (by omega) (rc1_f3 (by assumption) (by assumption) (by assumption) (by assumption) (by assumption) (by assumption) (by assumption))])
     | ((show RL _ _ _; refine goR ?_); rw [xt (by omega) hok])
     | trace_state
 · rw [deok_f hs]
   refine goW [] Tryz.func14 rfl ?_
   conv => whnf
   repeat' ((first | refine T.s ?_ | ((first | apply goB | apply AB.dec | apply AB.gen) <;> intro h <;> try (exfalso; omega)) | refine LQ.mk fun r => ?_ | (show SQ _ _ _ (.loop _) _ _ _; first | (refine goL tQ [] 4 (S := Nat) [1] (fun i => ⟨[(3, .int .i64 i)], [], False, 16 - i⟩) (0) ?_; rintro i hok; (try dsimp only at hok))) | (show AtL _ _ _ _ _ _ _ _ _ _; first | (show AtL 4 _ _ _ _ _ _ _ _ _; exact goN 4 (S := Nat) (i + 1)) | (apply AtL.mk' (id := 4) (S := Nat) (i + 1); all_goals (try exact KC12))) | exact T.z | fail) <;> conv => whnf)
   all_goals (try dsimp only)
   all_goals first
     | ((show RL _ _ _; refine goR ?_); rfl)
     | (exfalso; omega)
     | trace_state
open Go.RowKit
variable {G : Nat → AV}
theorem RL.dez {e : Int} {l : LS} : RL (fun _ => (.tup [De.z.av, iAV e], [])) (.tup [.agg [.int .i64 0, .nils], .int .i64 e]) l :=
 RL.frz [] (LF.tup (xs := [.agg [.int .i64 0, .nils], .int .i64 e]) (ys := [De.z.av, iAV e]) ⟨LF.agg (xs := [.int .i64 0, .nils]) (ys := [iAV 0, rcv []]) ⟨LF.eq rfl, LF.nils rfl rfl, trivial⟩, LF.eq rfl, trivial⟩) LB.nil
theorem newR_t {m : Int} (h : 1 ≤ m ∧ m ≤ 3) : ve m = (⟨m, List.replicate 16 Rc.z⟩, 0) := by unfold ve jE; rw [decide_eq_true h]; rfl
theorem newR_f {m : Int} (h : ¬ (1 ≤ m ∧ m ≤ 3)) : ve m = (De.z, 3) := by unfold ve jE; rw [decide_eq_false h]; rfl
theorem RL.de16 {m : Int} {q : Nm} {l : LS} (h : LH l q fun c _ _ => c.cs = (List.replicate 16 Rc.z).flatMap Rc.cs) : RL (fun _ => (.tup [De.av ⟨m, List.replicate 16 Rc.z⟩, iAV 0], [])) (.tup [.agg [.int .i64 m, .vw q 0 16 19], .int .i64 0]) l := by
 obtain ⟨l1, c, l2, rfl, h1⟩ := h.ex
 exact RL.frz [q] (LF.tup (xs := [.agg [.int .i64 m, .vw q 0 16 19], .int .i64 0]) (ys := [De.av ⟨m, List.replicate 16 Rc.z⟩, iAV 0]) ⟨LF.agg (xs := [.int .i64 m, .vw q 0 16 19]) (ys := [iAV m, rcv (List.replicate 16 Rc.z)]) ⟨LF.eq rfl, LF.row InL.here ⟨l1, c, l2, rfl, by decide, by rw [h1, qy Rc.cs_len]; rfl, by simp, h1.symm⟩, trivial⟩, LF.eq rfl, trivial⟩) ⟨l1, c, l2, rfl, LB.nil⟩
set_option maxRecDepth 100000 in
theorem r10new_c (m : Int) : LP Tryz.prog G 10 [iAV m] [] (fun _ => (.tup [(ve m).1.av, iAV (ve m).2], [])) := by
 by_cases h0 : 1 ≤ m ∧ m ≤ 3
 · rw [newR_t h0]
   refine goW [] Tryz.func10 rfl ?_
   conv => whnf
   repeat' ((first | (show AQ _ _; first | (with_reducible show AQ (qO _ _) _; refine AQ.eq (cs' := (List.replicate 16 Rc.z).flatMap Rc.cs) (by kernel_rfl) ?_)) | refine T.s ?_ | ((first | apply goB | apply AB.dec | apply AB.gen) <;> intro h <;> try (exfalso; omega)) | refine LQ.mk fun r => ?_ | exact T.z | fail) <;> conv => whnf)
   all_goals (try dsimp only)
   all_goals
     refine RL.de16 ?_
     (repeat first | refine goH ?_ | apply LH.here | apply LH.next)
     rfl
 · rw [newR_f h0]
   refine goW [] Tryz.func10 rfl ?_
   conv => whnf
   repeat' ((first | (show AQ _ _; first | (with_reducible show AQ (qO _ _) _; refine AQ.eq (cs' := (List.replicate 16 Rc.z).flatMap Rc.cs) (by kernel_rfl) ?_)) | refine T.s ?_ | ((first | apply goB | apply AB.dec | apply AB.gen) <;> intro h <;> try (exfalso; omega)) | refine LQ.mk fun r => ?_ | exact T.z | fail) <;> conv => whnf)
   all_goals (try dsimp only)
   all_goals first
     | (exfalso; omega)
     | exact RL.dez
theorem rcs_one (l : List Rc) : ((l.flatMap Rc.cs).all AV.one) = true := by
 induction l with
 | nil => rfl
 | cons x l ih => rw [List.flatMap_cons, List.all_append, ih]; rfl
theorem xc (d : De) (hl : d.cx.length ≤ 1000) : LP Tryz.prog G 56 [d.av] [] (fun q => (.agg [iAV d.m, .vw q 0 d.cx.length 19], [(q, ⟨71, d.cx.flatMap Rc.cs⟩)])) := by
 refine goW [] Tryz.func56 rfl ?_
 conv => whnf
 repeat' ((first | (refine And.intro ?_ ?_; (focus (first | exact qy Rc.cs_len _ | exact rcs_one _ | exact Nat.le_trans (Nat.mul_le_mul_right _ hl) (by decide) | exact Nat.le_trans hl (by decide) | exact T.kx | exact T.side))) | refine T.s ?_ | ((first | apply goB | apply AB.dec | apply AB.gen) <;> intro h <;> try (exfalso; omega)) | refine LQ.mk fun r => ?_ | exact T.z | fail) <;> conv => whnf)
 all_goals (try dsimp only)
 all_goals
   refine RL.own r rfl ?_ ?_
   · (repeat first | refine goH ?_ | apply LH.here | apply LH.next); trivial
   · exact LB.cons (.here ⟨rfl, LB.nil⟩)
def kv (m : Int) (f : Fb) : List Fb := if m = 1 then [] else [f]
theorem r10told_c (d : De) (f : Fb) : LP Tryz.prog G 57 [d.av, .agg f.cs] [] (fun _ => (fbv (kv d.m f), [])) := by
 refine goW [] Tryz.func57 rfl ?_
 conv => whnf
 repeat' ((first | refine T.s ?_ | ((first | apply goB | apply AB.dec | apply AB.gen) <;> intro h <;> try (exfalso; omega)) | refine LQ.mk fun r => ?_ | exact T.z | fail) <;> conv => whnf)
 all_goals (try dsimp only)
 · rw [show kv d.m f = [] from if_pos h]
   exact RL.frz [] (LF.nils rfl rfl) LB.nil
 · rw [show kv d.m f = [f] from if_neg h]
   refine RL.frz [r] (LF.row InL.here ?_) ?_
   · exact .here ⟨by decide, rfl, rfl, rfl⟩
   · exact .here LB.nil
theorem yW (d : De) (hl : d.cx.length ≤ 1000) : LP Tryz.prog G 12 [d.av, d.av] [] (fun _ => (.bool true, [])) := by
 refine goW [] Tryz.func12 rfl ?_
 conv => whnf
 repeat' ((first | exact Nm.b 0 | (refine And.intro ?_ ?_; (focus (first | exact xn Rc.cs_len (by assumption) | exact T.kx | exact T.side))) | (show AC _ _ _; first | (refine AC.recd Rc.cs_len i Rc.z rfl rfl ?_ ?_; (focus omega))) | refine T.s ?_ | ((first | apply goB | apply AB.dec | apply AB.gen) <;> intro h <;> try (exfalso; omega)) | refine LQ.mk fun r => ?_ | (show SQ _ _ _ (.loop _) _ _ _; first | (refine goL tQ [] 4 (S := Nat × Nm × Nm) [] (fun (i, a, b) => ⟨[(5, .int .i64 i), (2, .ptr a 0), (3, .ptr b 0)], [(a, ⟨24, [iAV d.m, rcv d.cx]⟩), (b, ⟨24, [iAV d.m, rcv d.cx]⟩)], i ≤ d.cx.length, d.cx.length - i⟩) ((0, _, _)) ?_; rintro ⟨i, a, b⟩ hok; (try dsimp only at hok))) | (show SQ _ _ _ _ _ _ _; first | refine gX 6 [] [0, 1, 2, 3, 4, 5, 6, 7, 8, 9, 10] [] ?_) | (show AtL _ _ _ _ _ _ _ _ _ _; first | (show AtL 4 _ _ _ _ _ _ _ _ _; exact goN 4 (S := Nat × Nm × Nm) ((i + 1, _, _))) | (apply AtL.mk' (id := 4) (S := Nat × Nm × Nm) ((i + 1, _, _)); all_goals (try exact KC12))) | exact T.z | fail) <;> conv => whnf)
 all_goals (try dsimp only)
 all_goals first
   | (exfalso; simp [qU] at h; done)
   | ((show RL _ _ _; refine goR ?_); rfl)
   | trace_state
theorem fbs_len (f : Fb) : f.cs.length = 3 := rfl
theorem r10samef_c (l : List Fb) (hl : l.length ≤ 1000) : LP Tryz.prog G 59 [fbv l, fbv l] [] (fun _ => (.bool true, [])) := by
 refine goW [] Tryz.func59 rfl ?_
 conv => whnf
 repeat' ((first | exact Nm.b 0 | (refine And.intro ?_ ?_; (focus (first | exact xn fbs_len (by assumption) | exact T.kx | exact T.side))) | (show AC _ _ _; first | (refine AC.recd fbs_len i ⟨0, 0, 0⟩ rfl rfl ?_ ?_; (focus omega))) | refine T.s ?_ | ((first | apply goB | apply AB.dec | apply AB.gen) <;> intro h <;> try (exfalso; omega)) | refine LQ.mk fun r => ?_ | (show SQ _ _ _ (.loop _) _ _ _; first | (refine goL tQ [] 4 (S := Nat) [0, 1] (fun i => ⟨[(5, .int .i64 i)], [], i ≤ l.length, l.length - i⟩) (0) ?_; rintro i hok; (try dsimp only at hok))) | (show SQ _ _ _ _ _ _ _; first | refine gX 6 [] [0, 1, 2, 3, 4, 5, 6, 7, 8] [] ?_) | (show AtL _ _ _ _ _ _ _ _ _ _; first | (show AtL 4 _ _ _ _ _ _ _ _ _; exact goN 4 (S := Nat) (i + 1)) | (apply AtL.mk' (id := 4) (S := Nat) (i + 1); all_goals (try exact KC12))) | exact T.z | fail) <;> conv => whnf)
 all_goals (try dsimp only)
 all_goals first
   | (exfalso; simp [qU] at h; done)
   | ((show RL _ _ _; refine goR ?_); rfl)
   | trace_state
open Go.RowKit
variable {G : Nat → AV}
theorem dknown_c (m : Int) : LP Tryz.prog G 33 [iAV m] [] (fun _ => (.bool (jE m), [])) := by
 refine goW [] Tryz.func33 rfl ?_
 conv => whnf
 repeat' ((first | refine T.s ?_ | ((first | apply goB | apply AB.dec | apply AB.gen) <;> intro h <;> try (exfalso; omega)) | refine LQ.mk fun r => ?_ | exact T.z | fail) <;> conv => whnf)
 all_goals (try dsimp only)
 all_goals
   (show RL _ _ _; refine goR ?_)
   refine congrArg AV.bool ?_
   rw [Bool.eq_iff_iff]
   simp [jE, qu, *]
theorem rc_er3 {r : Rc} (h : 3 ≤ r.er) : r.ok = false := rc_er (.inr (by omega))
theorem rc_so {r : Rc} (h0 : ¬ r.st = 0) (h1 : ¬ r.st = 1) (h2 : ¬ r.st = 2) : r.ok = false := by unfold Rc.ok; rw [if_neg h0, if_neg (by omega)]; simp
theorem dctx_c (rc : Rc) : LP Tryz.prog G 36 [rc.av] [] (fun _ => (.bool rc.ok, [])) := by
 have hz := Hd.eqz rc.la
 have hd := Dy.eqz rc.dy
 refine goW [] Tryz.func36 rfl ?_
 conv => whnf
 repeat' ((first | (show LC _ _ _ _ _ _; first | refine LC.pure (j5 rc.la) ?_ | refine LC.pure (yq rc.dy) ?_ | refine goE ?_) | refine T.s ?_ | ((first | apply goB | apply AB.dec | apply AB.gen) <;> intro h <;> try (exfalso; omega)) | refine LQ.mk fun r => ?_ | exact T.z | fail) <;> conv => whnf)
 all_goals (try dsimp only)
 all_goals first
   | ((show RL _ _ _; refine goR ?_); rw [rc_er (.inl (by assumption))])
   | ((show RL _ _ _; refine goR ?_); rw [rc_er3 (by assumption)])
   | ((show RL _ _ _; refine goR ?_); rw [rc_so (by assumption) (by assumption) (by assumption)])
   | ((show RL _ _ _; refine goR ?_); rw [rc_0 (by omega) (by assumption), ← hz, hd]; simp_all; done)
   | ((show RL _ _ _; refine goR ?_); rw [rc_1 (by omega) (by omega)]; simp_all; done)
   | trace_state
theorem dvc_c (rc : Rc) : LP Tryz.prog G 35 [rc.av] [] (fun _ => (.bool (!rc.ok), [])) := by
 refine goW [] Tryz.func35 rfl ?_
 conv => whnf
 repeat' ((first | (show LC _ _ _ _ _ _; first | refine LC.pure (dctx_c rc) ?_ | refine goE ?_) | refine T.s ?_ | ((first | apply goB | apply AB.dec | apply AB.gen) <;> intro h <;> try (exfalso; omega)) | refine LQ.mk fun r => ?_ | exact T.z | fail) <;> conv => whnf)
 all_goals (try dsimp only)
 all_goals
   (show RL _ _ _; refine goR ?_)
   rfl
theorem dnew_c (m : Int) : LP Tryz.prog G 9 [iAV m] [] (fun _ => (.tup [(ve m).1.av, iAV (ve m).2], [])) := by
 have hk := dknown_c (G := G) m
 by_cases h0 : 1 ≤ m ∧ m ≤ 3
 · rw [newR_t h0]
   rw [show jE m = true from decide_eq_true h0] at hk
   refine goW [] Tryz.func9 rfl ?_
   conv => whnf
   repeat' ((first | (show LC _ _ _ _ _ _; first | refine LC.pure (hk) ?_ | refine goE ?_) | (show AQ _ _; first | (with_reducible show AQ (qO _ _) _; refine AQ.eq (cs' := (List.replicate 16 Rc.z).flatMap Rc.cs) (by kernel_rfl) ?_)) | refine T.s ?_ | ((first | apply goB | apply AB.dec | apply AB.gen) <;> intro h <;> try (exfalso; omega)) | refine LQ.mk fun r => ?_ | exact T.z | fail) <;> conv => whnf)
   all_goals (try dsimp only)
   all_goals
     refine RL.de16 ?_
     (repeat first | refine goH ?_ | apply LH.here | apply LH.next)
     rfl
 · rw [newR_f h0]
   rw [show jE m = false from decide_eq_false h0] at hk
   refine goW [] Tryz.func9 rfl ?_
   conv => whnf
   repeat' ((first | (show LC _ _ _ _ _ _; first | refine LC.pure (hk) ?_ | refine goE ?_) | refine T.s ?_ | ((first | apply goB | apply AB.dec | apply AB.gen) <;> intro h <;> try (exfalso; omega)) | refine LQ.mk fun r => ?_ | exact T.z | fail) <;> conv => whnf)
   all_goals (try dsimp only)
   all_goals exact RL.dez
theorem gidx_take {α : Type} {p : α → Bool} (l : List α) (i : Nat) (d : α) (h : i < l.length) : (l.take (i + 1)).findIdx? p = ((l.take i).findIdx? p).or (if p (l.getD i d) = true then some i else none) := by
 rw [List.take_succ_eq_append_getElem h, List.findIdx?_append]
 have e : l[i] = l.getD i d := by simp [List.getD_eq_getElem?_getD, h]
 rw [e, List.findIdx?_singleton]
 congr 1
 split
 · simp; omega
 · rfl
theorem gidx_hit {α : Type} {p : α → Bool} (l : List α) (i : Nat) (d : α) (h : i < l.length) (h0 : (l.take i).findIdx? p = none) (hp : p (l.getD i d) = true) : l.findIdx? p = some i := by
 have e : l = l.take (i + 1) ++ l.drop (i + 1) := (List.take_append_drop _ _).symm
 rw [e, List.findIdx?_append, gidx_take l i d h, h0, if_pos hp]
 rfl
theorem gidx_n {α : Type} {p : α → Bool} {l : List α} {i : Nat} (d : α) (h : i < l.length) (h0 : (l.take i).findIdx? p = none) (hp : p (l.getD i d) = false) : (l.take (i + 1)).findIdx? p = none := by
 rw [gidx_take l i d h, h0, if_neg (by rw [hp]; decide)]; rfl
theorem gidx_e {α : Type} {p : α → Bool} {l : List α} {i : Nat} (h : l.length ≤ i) (h0 : (l.take i).findIdx? p = none) : l.findIdx? p = none := by rwa [List.take_of_length_le h] at h0
def wN (r : Rc) : Bool := !r.ok
theorem bad_f {r : Rc} (h : r.ok = true) : wN r = false := by unfold wN; rw [h]; rfl
theorem bad_t {r : Rc} (h : r.ok = false) : wN r = true := by unfold wN; rw [h]; rfl
theorem didx_c (l : List Rc) (hl : l.length ≤ 100000) : LP Tryz.prog G 78 [rcv l, .clo (.func 35) [] []] [] (fun _ => (iAV (optI (l.findIdx? wN)), [])) := by
 have hp : ∀ i : Nat, LP Tryz.prog G 35 [(l.getD i Rc.z).av] [] (fun _ => (.bool (wN (l.getD i Rc.z)), [])) := fun i => dvc_c _
 refine goW [] Tryz.func78 rfl ?_
 conv => whnf
 repeat' ((first | (refine And.intro ?_ ?_; (focus (first | exact xn Rc.cs_len (by assumption) | exact T.kx | exact T.side))) | (show LC _ _ _ _ _ _; first | refine LC.pure (hp i) ?_ | refine goE ?_) | (show AC _ _ _; first | (refine AC.recd Rc.cs_len i Rc.z rfl rfl ?_ ?_; (focus omega))) | refine T.s ?_ | ((first | apply goB | apply AB.dec | apply AB.gen) <;> intro h <;> try (exfalso; omega)) | refine LQ.mk fun r => ?_ | (show SQ _ _ _ (.loop _) _ _ _; first | (apply goO tQ [] 2 (S := Nat) [0, 1, 7] (fun i => ⟨[(8, .int .i64 i)], [], i ≤ l.length ∧ (l.take i).findIdx? wN = none, l.length - i⟩) (0) (by rfl); (focus (all_goals (try exact K790); done)); rintro i ⟨hk, hok⟩)) | (show AtL _ _ _ _ _ _ _ _ _ _; first | (apply AtL.mk' (id := 2) (S := Nat) (i + 1); all_goals (try exact K790); done) | (apply AtL.mk' (id := 2) (S := Nat) (i + 1); all_goals (try exact K790))) | exact T.z | fail) <;> conv => whnf)
 all_goals (try dsimp only)
 all_goals first
   | ((show RL _ _ _; refine goR ?_); rw [gidx_hit l i Rc.z (by omega) hok (bad_t (by assumption))]; rfl)
   | ((show RL _ _ _; refine goR ?_); rw [gidx_e (by omega) hok]; rfl)
   | trace_state
theorem bad_e (l : List Rc) : (!decide (0 ≤ optI (l.findIdx? wN))) = l.all Rc.ok := by
 have e : l.all Rc.ok = !(l.any wN) := by
   rw [Bool.eq_iff_iff]
   simp [wN, List.any_eq_true, List.all_eq_true]
 rw [e]
 cases h : l.findIdx? wN with
 | none =>
   have : l.any wN = false := by
     rw [List.findIdx?_eq_none_iff] at h
     rw [Bool.eq_false_iff]
     intro hh
     obtain ⟨x, hx, hb⟩ := List.any_eq_true.1 hh
     rw [h x hx] at hb
     cases hb
   rw [this]; rfl
 | some j =>
   have : l.any wN = true := by
     rw [List.findIdx?_eq_some_iff_getElem] at h
     obtain ⟨h1, h2, -⟩ := h
     exact List.any_eq_true.2 ⟨_, List.getElem_mem h1, h2⟩
   rw [this]
   simp [optI]
theorem dcont_c (l : List Rc) (hl : l.length ≤ 100000) : LP Tryz.prog G 34 [rcv l, .clo (.func 35) [] []] [] (fun _ => (.bool (decide (0 ≤ optI (l.findIdx? wN))), [])) := by
 refine goW [] Tryz.func34 rfl ?_
 conv => whnf
 repeat' ((first | (show LC _ _ _ _ _ _; first | refine LC.pure (didx_c l hl) ?_ | refine goE ?_) | refine T.s ?_ | ((first | apply goB | apply AB.dec | apply AB.gen) <;> intro h <;> try (exfalso; omega)) | refine LQ.mk fun r => ?_ | exact T.z | fail) <;> conv => whnf)
 all_goals (try dsimp only)
 all_goals
   (show RL _ _ _; refine goR ?_)
   rfl
theorem clo_lit {σ : q9} {w : World} {f : Nat} {x : AV} {vs : Array Value} (h : RdL σ w [x, .lit (.func (.func f) #[] #[])] vs) : RdL σ w [x, .clo (.func f) [] []] vs := ⟨h.1, fun i hi => match i, hi with
 | 0, _ => h.2 0 (by simp)
 | 1, _ => by
   have h1 := h.2 1 (by simp)
   simp only [List.getD_cons_succ, List.getD_cons_zero] at h1 ⊢
   generalize vs.getD 1 undef = u at h1
   cases h1
   exact .clo _ _ _ _ _ rfl rfl (fun i hi => by simp at hi) (fun i hi => by simp at hi)⟩
theorem dcont_l (l : List Rc) (hl : l.length ≤ 100000) : LP Tryz.prog G 34 [rcv l, .lit (.func (.func 35) #[] #[])] [] (fun _ => (.bool (decide (0 ≤ optI (l.findIdx? wN))), [])) := (dcont_c l hl).warg fun _ _ _ h => clo_lit h
theorem xI (d : De) : LP Tryz.prog G 13 [d.av] [] (fun _ => (.bool d.ok, [])) := by
 have hk := dknown_c (G := G) d.m
 by_cases h0 : 1 ≤ d.m ∧ d.m ≤ 3
 · rw [show jE d.m = true from decide_eq_true h0] at hk
   by_cases h1 : d.cx.length = 16
   · rw [deok h0 h1, ← bad_e]
     refine goW [] Tryz.func13 rfl ?_
     conv => whnf
     repeat' ((first | (show LC _ _ _ _ _ _; first | refine LC.pure (hk) ?_ | refine LC.pure (dcont_l d.cx (by omega)) ?_ | refine goE ?_) | refine T.s ?_ | ((first | apply goB | apply AB.dec | apply AB.gen) <;> intro h <;> try (exfalso; omega)) | refine LQ.mk fun r => ?_ | exact T.z | fail) <;> conv => whnf)
     all_goals (try dsimp only)
     all_goals first
       | (exfalso; omega)
       | ((show RL _ _ _; refine goR ?_); rfl)
       | trace_state
   · rw [deok_f fun h => h1 h.2]
     refine goW [] Tryz.func13 rfl ?_
     conv => whnf
     repeat' ((first | (show LC _ _ _ _ _ _; first | refine LC.pure (hk) ?_ | refine goE ?_) | refine T.s ?_ | ((first | apply goB | apply AB.dec | apply AB.gen) <;> intro h <;> try (exfalso; omega)) | refine LQ.mk fun r => ?_ | exact T.z | fail) <;> conv => whnf)
     all_goals (try dsimp only)
     all_goals first
       | ((show RL _ _ _; refine goR ?_); rfl)
       | (exfalso; omega)
       | trace_state
 · rw [show jE d.m = false from decide_eq_false h0] at hk
   rw [deok_f fun h => h0 h.1]
   refine goW [] Tryz.func13 rfl ?_
   conv => whnf
   repeat' ((first | (show LC _ _ _ _ _ _; first | refine LC.pure (hk) ?_ | refine goE ?_) | refine T.s ?_ | ((first | apply goB | apply AB.dec | apply AB.gen) <;> intro h <;> try (exfalso; omega)) | refine LQ.mk fun r => ?_ | exact T.z | fail) <;> conv => whnf)
   all_goals (try dsimp only)
   all_goals
     (show RL _ _ _; refine goR ?_)
     rfl
open Go.RowKit
variable {G : Nat → AV}
theorem AC.sub {agg : Bool} {α : Type} {f : α → List AV} {n : Nat} {l : List α} {o m : Nat} {K : AV → Prop} (hf : ∀ x, (f x).length = n) (i j : Nat) (d : α) (v : AV) (ho : o = i * n + j) (hj : j + m ≤ n) (h : i < l.length) (hv : mkv agg (((f (l.getD i d)).drop j).take m) = v) (k : K v) : AC agg (((l.flatMap f).drop o).take m) K := ⟨by
 subst ho
 rw [← List.drop_drop, fm_at hf l i d h, List.drop_append_of_le_length (by rw [hf]; omega), List.take_append_of_le_length (by simp [hf]; omega), hv]
 exact k⟩
theorem sub_le {α : Type} {f : α → List AV} {n i j m : Nat} {l : List α} (hf : ∀ x, (f x).length = n) (h : i < l.length) (hj : j + m ≤ n) : i * n + j + m ≤ (l.flatMap f).length := by
 rw [qy hf]
 have := Nat.mul_le_mul_right n (show i + 1 ≤ l.length from h)
 rw [Nat.succ_mul] at this
 omega
@[reducible] def wkC (m c : Int) (s : Sm) (a : AV) (q : Nm) (o : Nat) : List AV := [iAV m, iAV c, iAV s.cx, iAV s.f, iAV s.n, iAV s.tm, iAV s.mr, iAV s.id, iAV s.ud, iAV s.h.k, iAV s.h.tos, iAV s.h.id, iAV s.h.fx, iAV s.h.ttl, iAV s.h.fr, iAV s.h.to, iAV s.h.fp, iAV s.h.tp, iAV s.h.ck, iAV s.h.mr, iAV s.h.ty, iAV s.h.sq, iAV s.h.tm, iAV s.h.sr, iAV s.d.st, iAV s.d.fo, iAV s.ck, a, .ptr q o]
theorem wfb_c (w q : Nm) (hne : w ≠ q) (l : List Rc) (i : Nat) (hi : i < l.length) (m c : Int) (s : Sm) (a : AV) (k : Int) : LP Tryz.prog G 104 [.ptr w 0, iAV k] [(w, ⟨112, wkC m c s a q (i * 19)⟩), (q, ⟨71, l.flatMap Rc.cs⟩)] (fun _ => (fbv [⟨c, k, (l.getD i Rc.z).la.num⟩], [(w, ⟨112, wkC m c s a q (i * 19)⟩), (q, ⟨71, l.flatMap Rc.cs⟩)])) := by
 refine goW [] Tryz.func104 rfl ?_
 conv => whnf
 repeat' ((first | exact Nm.b 0 | (refine And.intro ?_ ?_; (focus (first | exact sub_le Rc.cs_len hi (by decide) | exact T.kx | exact T.side))) | (show LC _ _ _ _ _ _; first | refine LC.pure (fnum_c _) ?_ | refine goE ?_) | (show AC _ _ _; first | (refine AC.sub Rc.cs_len i 1 Rc.z _ rfl (by decide) hi rfl ?_)) | refine T.s ?_ | ((first | apply goB | apply AB.dec | apply AB.gen) <;> intro h <;> try (exfalso; omega)) | refine LQ.mk fun r => ?_ | (show SQ _ _ _ _ _ _ _; first | refine gX 1 [3, 12] [0, 1, 2, 3, 4, 5, 6, 7, 8, 9, 10, 11, 12, 13, 14, 15] [] ?_) | exact T.z | fail) <;> conv => whnf)
 all_goals (try dsimp only)
 all_goals exact RL.frz [r] (LF.row InL.here (.here ⟨by decide, rfl, rfl, rfl⟩)) (.here (LB.cons (.here ⟨rfl, LB.cons (.here ⟨rfl, LB.nil⟩)⟩)))
theorem wcomp_c (w q : Nm) (hne : w ≠ q) (l : List Rc) (i : Nat) (hi : i < l.length) (m c : Int) (s : Sm) (a : AV) : LP Tryz.prog G 64 [.ptr w 0] [(w, ⟨112, wkC m c s a q (i * 19)⟩), (q, ⟨71, l.flatMap Rc.cs⟩)] (fun _ => (fbv (xJ m c (l.getD i Rc.z)), [(w, ⟨112, wkC m c s a q (i * 19)⟩), (q, ⟨71, l.flatMap Rc.cs⟩)])) := by
 refine goW [] Tryz.func64 rfl ?_
 conv => whnf
 repeat' ((first | (refine And.intro ?_ ?_; (focus (first | exact sub_le (j := 0) Rc.cs_len hi (by decide) | exact T.kx | exact T.side))) | (show LC _ _ _ _ _ _; first | (apply LC.twoK (fun hne => wfb_c w q hne l i hi m c s a _); (repeat first | refine goH ?_ | apply LH.here | apply LH.next); refine ⟨rfl, ?_⟩; (repeat first | refine goH ?_ | apply LH.here | apply LH.next); refine ⟨rfl, ?_⟩; (repeat first | refine goH ?_ | apply LH.here | apply LH.next)) | refine goE ?_) | (show AC _ _ _; first | (refine AC.sub Rc.cs_len i 0 Rc.z _ rfl (by decide) hi rfl ?_)) | refine T.s ?_ | ((first | apply goB | apply AB.dec | apply AB.gen) <;> intro h <;> try (exfalso; omega)) | refine LQ.mk fun r => ?_ | exact T.z | fail) <;> conv => whnf)
 all_goals (try dsimp only)
 · rw [show xJ m c (l.getD i Rc.z) = [] from if_pos h]
   exact RL.frz [] (LF.nils rfl rfl) (LB.cons (.here ⟨rfl, LB.cons (.here ⟨rfl, LB.nil⟩)⟩))
 · rw [show xJ m c (l.getD i Rc.z) = [⟨c, 2, (l.getD i Rc.z).la.num⟩] from (if_neg (by assumption)).trans (if_pos h)]
   (show RL _ _ _; refine goR ?_)
   all_goals rfl
 · rw [show xJ m c (l.getD i Rc.z) = [⟨c, 1, (l.getD i Rc.z).la.num⟩] from (if_neg (by assumption)).trans (if_neg h)]
   (show RL _ _ _; refine goR ?_)
   all_goals rfl
theorem wnum_c (w q : Nm) (hne : w ≠ q) (l : List Rc) (i : Nat) (hi : i < l.length) (m c : Int) (s : Sm) (a : AV) : LP Tryz.prog G 107 [.ptr w 0] [(w, ⟨112, wkC m c s a q (i * 19)⟩), (q, ⟨71, l.flatMap Rc.cs⟩)] (fun _ => (iAV (qN (l.getD i Rc.z) s), [(w, ⟨112, wkC m c s a q (i * 19)⟩), (q, ⟨71, l.flatMap Rc.cs⟩)])) := by
 refine goW [] Tryz.func107 rfl ?_
 conv => whnf
 repeat' ((first | exact Nm.b 0 | (refine And.intro ?_ ?_; (focus (first | exact sub_le Rc.cs_len hi (by decide) | exact T.kx | exact T.side))) | (show LC _ _ _ _ _ _; first | refine LC.pure (fnum_c _) ?_ | refine LC.pure (nbits_c _ _) ?_ | refine LC.pure (ldecode_c _ _ _ _) ?_ | refine goE ?_) | (show AC _ _ _; first | (refine AC.sub Rc.cs_len i 1 Rc.z _ rfl (by decide) hi rfl ?_)) | refine T.s ?_ | ((first | apply goB | apply AB.dec | apply AB.gen) <;> intro h <;> try (exfalso; omega)) | refine LQ.mk fun r => ?_ | (show SQ _ _ _ _ _ _ _; first | refine gX 4 [12, 19, 7, 14] [0, 1, 2, 3, 4, 5, 6, 8, 9, 10, 11, 12, 13, 15, 16, 17, 18, 19, 7, 14, 20, 21, 22, 23, 24, 25] [] ?_) | exact T.z | fail) <;> conv => whnf)
 all_goals (try dsimp only)
 · rw [show qN (l.getD i Rc.z) s = s.n from if_pos ⟨by assumption, h⟩]
   (show RL _ _ _; refine goR ?_)
   all_goals rfl
 · rw [show qN (l.getD i Rc.z) s = (xF 16 (l.getD i Rc.z).la.num (wid s.f (l.getD i Rc.z).la.k 0) s.n).1 from if_neg (fun e => h e.2)]
   (show RL _ _ _; refine goR ?_)
   all_goals rfl
 · rw [show qN (l.getD i Rc.z) s = (xF 16 (l.getD i Rc.z).la.num (wid s.f (l.getD i Rc.z).la.k 0) s.n).1 from if_neg (fun e => h e.1)]
   (show RL _ _ _; refine goR ?_)
   all_goals rfl
end Go.Proofs.YtkfpgdckdmlhkaaGreatDoor
