import Derived.Test.YtkfpgdckdmlhkaaGreatDoorDp05
import Derived.Test.YtkfpgdckdmlhkaaGreatDoorDp06
import Derived.Test.YtkfpgdckdmlhkaaGreatDoorDp17
import Derived.Test.YtkfpgdckdmlhkaaGreatDoorDp22
import Derived.Test.YtkfpgdckdmlhkaaGreatDoorDp07
import Derived.Test.YtkfpgdckdmlhkaaGreatDoorDp09
set_option maxHeartbeats 4000000
namespace Go.Proofs.YtkfpgdckdmlhkaaGreatDoor
open Go.RowKit
set_option linter.all false
variable {G : Nat → AV}
@[simp] theorem adv_adv (t : List Int) (a i j : Nat) : adv t (adv t a i) j = adv t a (i + j) := by
 induction j with
 | zero => rfl
 | succ j ih => exact congrArg (nextA t) ih
def wordR (t : List Int) (a : Nat) (m : Int) : Int := if nextR t a 4 = 0 then nextR t (adv t a 1) 3 else if nextR t a 4 = 1 then iarith .sub .i64 m (nextR t (adv t a 1) 3) else nextR t (adv t a 1) (iarith .add .i64 m 1)
theorem word_c (t : List Int) (a : Nat) (m : Int) (ht : t.length ≤ 400) (p : Nm) : LP Tryz.prog G 82 [.ptr p 0, iAV m] [(p, dice t a)] (fun _ => (iAV (wordR t a m), [(p, dice t (adv t a 2))])) := by
 refine goW [] Tryz.func82 rfl ?_
 conv => whnf
 repeat' ((first
   | (show LC _ _ _ _ _ _; first | (apply LC.upd (next_c t _ _ ht _); (repeat first | refine goH ?_ | apply LH.here | apply LH.next); refine ⟨rfl, ?_⟩) | refine goE ?_)
   | refine T.s ?_
   | ((first | refine goB (fun h => ?_) (fun h => ?_) | refine AB.dec (fun h => ?_) (fun h => ?_) | refine AB.gen (fun h => ?_) (fun h => ?_)) <;> try (exfalso; omega))
   | refine LFresh.mk fun r => ?_
   | exact T.z
   | fail) <;> conv => whnf)
 all_goals (try dsimp only)
 all_goals
   (show RL _ _ _; refine goR ?_)
   unfold wordR
   (repeat first | rw [if_pos (by first | assumption | omega)] | rw [if_neg (by first | assumption | omega)])
   rfl
attribute [irreducible] wordR
theorem oneR_iff (t : List Int) (a : Nat) (n : Int) : oneR t a n = true ↔ nextR t a n = iarith .sub .i64 n 1 := by simp [oneR, icmp]
def hckR (t : List Int) (a : Nat) : Int := if oneR t (adv t a 5) 2 = true then iarith .add .i64 1 (nextR t (adv t a 6) 65535) else 0
def hckN (t : List Int) (a : Nat) : Nat := if oneR t (adv t a 5) 2 = true then 7 else 6
def hkdR (fl : Int) : Int := iarith .add .i64 1 (modR fl 2)
def hdrR (t : List Int) (a : Nat) (fl : Int) : Hd :=
 { k := hkdR fl, tos := nextR t a 2, ttl := iarith .add .i64 64 (nextR t (adv t a 1) 2), fx := nextR t (adv t a 2) 2, id := wordR t (adv t a 3) 65535, fr := 167772161, to := iarith .add .i64 167772162 (IntKind.i64.wrap (fl.tdiv 2)), fp := 5000, tp := iarith .add .i64 6000 fl,
   ck := hckR t a
   ty := if hkdR fl = 2 then 96 else 0
   sq := if hkdR fl = 2 then wordR t (adv t a (hckN t a)) 65535 else 0
   tm := if hkdR fl = 2 then wordR t (adv t a (hckN t a + 2)) 4294967295 else 0
   sr := if hkdR fl = 2 then iarith .add .i64 77 fl else 0
   mr := if hkdR fl = 2 then nextR t (adv t a (hckN t a + 4)) 2 else 0 }
def hdrA (t : List Int) (a : Nat) (fl : Int) : Nat := adv t a (hckN t a + if hkdR fl = 2 then 5 else 0)
theorem dheader_c (t : List Int) (a : Nat) (fl : Int) (ht : t.length ≤ 400) (p : Nm) : LP Tryz.prog G 39 [.ptr p 0, iAV fl] [(p, dice t a)] (fun _ => ((hdrR t a fl).av, [(p, dice t (hdrA t a fl))])) := by
 refine goW [] Tryz.func39 rfl ?_
 conv => whnf
 repeat' ((first
   | (show LC _ _ _ _ _ _; first | (apply LC.upd (next_c t _ _ ht _); (repeat first | refine goH ?_ | apply LH.here | apply LH.next); refine ⟨rfl, ?_⟩) | (apply LC.upd (one_c t _ _ ht _); (repeat first | refine goH ?_ | apply LH.here | apply LH.next); refine ⟨rfl, ?_⟩) | (apply LC.upd (word_c t _ _ ht _); (repeat first | refine goH ?_ | apply LH.here | apply LH.next); refine ⟨rfl, ?_⟩) | refine LC.pure (mod_c _ _) ?_ | refine goE ?_)
   | refine T.s ?_
   | ((first | refine goB (fun h => ?_) (fun h => ?_) | refine AB.dec (fun h => ?_) (fun h => ?_) | refine AB.gen (fun h => ?_) (fun h => ?_)) <;> try (exfalso; omega))
   | refine LFresh.mk fun r => ?_
   | exact T.z
   | fail) <;> conv => whnf)
 all_goals (try dsimp only)
 all_goals (refine RL.val ?_ ?_; rotate_left; (focus ((repeat' first | exact LB.nil | (with_reducible exact LB.refl) | (apply LB.cons; (repeat first | refine goH ?_ | apply LH.here | apply LH.next); refine And.intro ?_ ?_; (focus (try (first | (with_reducible rfl) | (refine congrArg (Pl.mk _) ?_; (first | rfl | (simp; done))) | rfl | (with_reducible refine congrArg (Pl.mk _) ?_)))))))))
 all_goals rename_i h1
 all_goals first
   | (have ho : oneR t (adv t a 5) 2 = true := (oneR_iff _ _ _).2 h1
      have hk : hkdR fl = 2 := h
      (first | (unfold hdrA hckN; rewrite [if_pos ho, if_pos hk]; rfl) | (unfold hdrR hckR hckN; simp only [if_pos ho, if_pos hk]; rfl)))
   | (have ho : oneR t (adv t a 5) 2 = true := (oneR_iff _ _ _).2 h1
      have hk : ¬ hkdR fl = 2 := h
      (first | (unfold hdrA hckN; rewrite [if_pos ho, if_neg hk]; rfl) | (unfold hdrR hckR hckN; simp only [if_pos ho, if_neg hk]; rfl)))
   | (have ho : ¬ oneR t (adv t a 5) 2 = true := fun hh => h1 ((oneR_iff _ _ _).1 hh)
      have hk : hkdR fl = 2 := h
      (first | (unfold hdrA hckN; rewrite [if_neg ho, if_pos hk]; rfl) | (unfold hdrR hckR hckN; simp only [if_neg ho, if_pos hk]; rfl)))
   | (have ho : ¬ oneR t (adv t a 5) 2 = true := fun hh => h1 ((oneR_iff _ _ _).1 hh)
      have hk : ¬ hkdR fl = 2 := h
      (first | (unfold hdrA hckN; rewrite [if_neg ho, if_neg hk]; rfl) | (unfold hdrR hckR hckN; simp only [if_neg ho, if_neg hk]; rfl)))
   | trace_state
open Go.RowKit
variable {G : Nat → AV}
def foS (t : List Int) (a : Nat) (reg : Bool) : Int × Nat :=
 if reg = true then (1, a) else if oneR t a 4 = true then (iarith .add .i64 1 (nextR t (adv t a 1) 20), adv t a 2) else (1, adv t a 1)
def foI (h : Hd) (s : Int) : Hd := { h with id := modR (iarith .add .i64 h.id s) 65536 }
def foB (t : List Int) (a : Nat) (h : Hd) : Hd × Nat := if h.ck ≠ 0 then ({ h with ck := iarith .add .i64 1 (nextR t a 65535) }, adv t a 1) else (h, a)
def foT (s : Int) (h : Hd) : Hd := if h.k = 2 then { h with sq := modR (iarith .add .i64 h.sq s) 65536, tm := modR (iarith .add .i64 h.tm (iarith .mul .i64 160 s)) 4294967296, mr := 0 } else h
def foX (t : List Int) (a : Nat) (h : Hd) : Hd × Nat :=
 if nextR t a 14 = 0 then ({ h with tos := nextR t (adv t a 1) 4 }, adv t a 2)
 else if nextR t a 14 = 1 then ({ h with ttl := iarith .add .i64 60 (nextR t (adv t a 1) 4) }, adv t a 2)
 else if nextR t a 14 = 2 then (if h.k = 2 then { h with mr := 1 } else h, adv t a 1)
 else if nextR t a 14 = 3 then (if h.k = 2 then ({ h with tm := modR (iarith .add .i64 h.tm (nextR t (adv t a 1) 1048576)) 4294967296 }, adv t a 2) else (h, adv t a 1))
 else if nextR t a 14 = 4 then (if h.k = 2 then ({ h with id := nextR t (adv t a 1) 65536 }, adv t a 2) else (h, adv t a 1))
 else if nextR t a 14 = 5 then (if h.k = 2 then ({ h with ty := iarith .add .i64 90 (nextR t (adv t a 1) 10) }, adv t a 2) else (h, adv t a 1))
 else if nextR t a 14 = 6 then (if h.ck = 0 then { h with ck := 5 } else { h with ck := 0 }, adv t a 1)
 else (h, adv t a 1)
def folR (t : List Int) (a : Nat) (h : Hd) (reg : Bool) : Hd × Nat :=
 if reg = true then (foT (foS t a reg).1 (foB t (foS t a reg).2 (foI h (foS t a reg).1)).1, (foB t (foS t a reg).2 (foI h (foS t a reg).1)).2)
 else foX t (foB t (foS t a reg).2 (foI h (foS t a reg).1)).2 (foT (foS t a reg).1 (foB t (foS t a reg).2 (foI h (foS t a reg).1)).1)
section
variable {t : List Int} {a a1 a2 : Nat} {h x y : Hd} {s : Int}
theorem foS_y (e : nextR t a 4 = iarith .sub .i64 4 1) : (iarith .add .i64 1 (nextR t (adv t a 1) 20), adv t a 2) = foS t a false := by
 unfold foS; rw [if_neg (by decide), if_pos ((oneR_iff _ _ _).2 e)]
theorem foS_n (e : ¬ nextR t a 4 = iarith .sub .i64 4 1) : (1, adv t a 1) = foS t a false := by
 unfold foS; rw [if_neg (by decide), if_neg (fun k => e ((oneR_iff _ _ _).1 k))]
theorem foB_y (e : ¬ h.ck = 0) : (({ h with ck := iarith .add .i64 1 (nextR t a 65535) } : Hd), adv t a 1) = foB t a h := by unfold foB; rw [if_pos e]
theorem foB_n (e : h.ck = 0) : (h, a) = foB t a h := by unfold foB; rw [if_neg (fun k => k e)]
theorem foT_y (e : h.k = 2) : ({ h with sq := modR (iarith .add .i64 h.sq s) 65536, tm := modR (iarith .add .i64 h.tm (iarith .mul .i64 160 s)) 4294967296, mr := 0 } : Hd) = foT s h := by unfold foT; rw [if_pos e]
theorem foT_n (e : ¬ h.k = 2) : h = foT s h := by unfold foT; rw [if_neg e]
theorem fol_t (e2 : (x, a2) = foB t a (foI h 1)) (e3 : y = foT 1 x) : folR t a h true = (y, a2) := by
 have e1 : foS t a true = (1, a) := rfl
 unfold folR
 rw [if_pos rfl, e1]
 simp only [← e2, e3]
theorem fol_f (e1 : (s, a1) = foS t a false) (e2 : (x, a2) = foB t a1 (foI h s)) (e3 : y = foT s x) : folR t a h false = foX t a2 y := by
 unfold folR
 rw [if_neg (by decide), ← e1]
 simp only [← e2, e3]
end
theorem follow_t (t : List Int) (a : Nat) (hd : Hd) (ht : t.length ≤ 400) (p : Nm) : LP Tryz.prog G 41 [.ptr p 0, hd.av, .bool true] [(p, dice t a)] (fun _ => ((folR t a hd true).1.av, [(p, dice t (folR t a hd true).2)])) := by
 refine goW [5, 7] Tryz.func41 rfl ?_
 conv => whnf
 repeat' ((first
   | exact Nm.b 0
   | (show LC _ _ _ _ _ _; first | (apply LC.upd (next_c t _ _ ht _); (repeat first | refine goH ?_ | apply LH.here | apply LH.next); refine ⟨rfl, ?_⟩) | (apply LC.upd (one_c t _ _ ht _); (repeat first | refine goH ?_ | apply LH.here | apply LH.next); refine ⟨rfl, ?_⟩) | refine LC.pure (mod_c _ _) ?_ | refine goE ?_)
   | refine T.s ?_
   | ((first | refine goB (fun h => ?_) (fun h => ?_) | refine AB.dec (fun h => ?_) (fun h => ?_) | refine AB.gen (fun h => ?_) (fun h => ?_)) <;> try (exfalso; omega))
   | refine LFresh.mk fun r => ?_
   | (show SQ _ _ _ _ _ _ _; first | (refine goD tQ mixed 23 [1, 3] [0, 1, 2, 3, 4, 5, 6, 7] [] (by kernel_rfl) ?_))
   | (show CutL _ _ _ _ _ _ _ _; first | (refine goK tQ [5, 7] 5 (S := Hd × Nat × Nm × Nm) [0, 2, 7] (fun (x, a2, b, o) => ⟨[(4, .ptr b 0), (6, .ptr o 0)], [(p, dice t a2), (b, ⟨65, x.cs⟩), (o, ⟨65, Hd.cs ⟨0, 0, 0, 0, 0, 0, 0, 0, 0, 0, 0, 0, 0, 0, 0⟩⟩)], (x, a2) = foB t a (foI hd 1), 0⟩) ?_ ?_; (rintro ⟨x, a2, b, o⟩ hok; (try dsimp only at hok); (repeat (have hk := And.left hok; replace hok := And.right hok))); rotate_left) | (refine goK tQ [5, 7] 7 (S := Hd × Nm × Nm) [0, 2] (fun (y, b, o) => ⟨[(4, .ptr b 0), (6, .ptr o 0)], [(p, dice t a2), (b, ⟨65, y.cs⟩), (o, ⟨65, Hd.cs ⟨0, 0, 0, 0, 0, 0, 0, 0, 0, 0, 0, 0, 0, 0, 0⟩⟩)], y = foT 1 x, 0⟩) ?_ ?_; (rintro ⟨y, b, o⟩ hok; (try dsimp only at hok); (repeat (have hk := And.left hok; replace hok := And.right hok))); rotate_left) | refine CutL.go tQ [5, 7] ?_)
   | (show AtC _ _ _ _ _ _ _ _; first | (apply AtC.mk' (id := 5) (S := Hd × Nat × Nm × Nm) ((foI hd 1, a, _, _)); (repeat' first | exact trivial | (refine And.intro ?_ ?_) | exact LB.nil | (with_reducible exact LB.refl) | (apply LB.cons; (repeat first | refine goH ?_ | apply LH.here | apply LH.next); refine And.intro ?_ ?_; (focus (try (first | (with_reducible rfl) | (refine congrArg (Pl.mk _) ?_; (first | rfl | (simp; done))) | rfl | (with_reducible refine congrArg (Pl.mk _) ?_))))) | assumption | (show (_, _) = foB _ _ _; first | exact foB_y (by assumption) | exact foB_n (by assumption)) | (show _ = foT _ _; first | exact foT_y (by assumption) | exact foT_n (by assumption)) | (first | (focus (apply Eq.trans; (conv => lhs; whnf); (conv => rhs; whnf); done)) | rfl | ((conv => lhs; whnf); first | rfl | (refine congrArg (AV.int _) ?_; (exact T.num)) | (refine congrArg AV.bool ?_; (exact T.num)) | (refine vwc ?_; first | (exact T.num) | (first | rfl | (simp; done))) | (refine sl_congr ?_ ?_ <;> first | (exact T.num) | (first | rfl | (simp; done))) | (first | rfl | (simp; done)))) | (exact T.num) | (dsimp only; (exact T.num)) | (first | rfl | (simp; done))); done) | (apply AtC.mk' (id := 5) (S := Hd × Nat × Nm × Nm) (({ foI hd 1 with ck := iarith .add .i64 1 (nextR t a 65535) }, adv t a 1, _, _)); (repeat' first | exact trivial | (refine And.intro ?_ ?_) | exact LB.nil | (with_reducible exact LB.refl) | (apply LB.cons; (repeat first | refine goH ?_ | apply LH.here | apply LH.next); refine And.intro ?_ ?_; (focus (try (first | (with_reducible rfl) | (refine congrArg (Pl.mk _) ?_; (first | rfl | (simp; done))) | rfl | (with_reducible refine congrArg (Pl.mk _) ?_))))) | assumption | (show (_, _) = foB _ _ _; first | exact foB_y (by assumption) | exact foB_n (by assumption)) | (show _ = foT _ _; first | exact foT_y (by assumption) | exact foT_n (by assumption)) | (first | (focus (apply Eq.trans; (conv => lhs; whnf); (conv => rhs; whnf); done)) | rfl | ((conv => lhs; whnf); first | rfl | (refine congrArg (AV.int _) ?_; (exact T.num)) | (refine congrArg AV.bool ?_; (exact T.num)) | (refine vwc ?_; first | (exact T.num) | (first | rfl | (simp; done))) | (refine sl_congr ?_ ?_ <;> first | (exact T.num) | (first | rfl | (simp; done))) | (first | rfl | (simp; done)))) | (exact T.num) | (dsimp only; (exact T.num)) | (first | rfl | (simp; done))); done) | (apply AtC.mk' (id := 7) (S := Hd × Nm × Nm) ((x, _, _)); (repeat' first | exact trivial | (refine And.intro ?_ ?_) | exact LB.nil | (with_reducible exact LB.refl) | (apply LB.cons; (repeat first | refine goH ?_ | apply LH.here | apply LH.next); refine And.intro ?_ ?_; (focus (try (first | (with_reducible rfl) | (refine congrArg (Pl.mk _) ?_; (first | rfl | (simp; done))) | rfl | (with_reducible refine congrArg (Pl.mk _) ?_))))) | assumption | (show (_, _) = foB _ _ _; first | exact foB_y (by assumption) | exact foB_n (by assumption)) | (show _ = foT _ _; first | exact foT_y (by assumption) | exact foT_n (by assumption)) | (first | (focus (apply Eq.trans; (conv => lhs; whnf); (conv => rhs; whnf); done)) | rfl | ((conv => lhs; whnf); first | rfl | (refine congrArg (AV.int _) ?_; (exact T.num)) | (refine congrArg AV.bool ?_; (exact T.num)) | (refine vwc ?_; first | (exact T.num) | (first | rfl | (simp; done))) | (refine sl_congr ?_ ?_ <;> first | (exact T.num) | (first | rfl | (simp; done))) | (first | rfl | (simp; done)))) | (exact T.num) | (dsimp only; (exact T.num)) | (first | rfl | (simp; done))); done) | (apply AtC.mk' (id := 7) (S := Hd × Nm × Nm) (({ x with sq := modR (iarith .add .i64 x.sq 1) 65536, tm := modR (iarith .add .i64 x.tm (iarith .mul .i64 160 1)) 4294967296, mr := 0 }, _, _)); (repeat' first | exact trivial | (refine And.intro ?_ ?_) | exact LB.nil | (with_reducible exact LB.refl) | (apply LB.cons; (repeat first | refine goH ?_ | apply LH.here | apply LH.next); refine And.intro ?_ ?_; (focus (try (first | (with_reducible rfl) | (refine congrArg (Pl.mk _) ?_; (first | rfl | (simp; done))) | rfl | (with_reducible refine congrArg (Pl.mk _) ?_))))) | assumption | (show (_, _) = foB _ _ _; first | exact foB_y (by assumption) | exact foB_n (by assumption)) | (show _ = foT _ _; first | exact foT_y (by assumption) | exact foT_n (by assumption)) | (first | (focus (apply Eq.trans; (conv => lhs; whnf); (conv => rhs; whnf); done)) | rfl | ((conv => lhs; whnf); first | rfl | (refine congrArg (AV.int _) ?_; (exact T.num)) | (refine congrArg AV.bool ?_; (exact T.num)) | (refine vwc ?_; first | (exact T.num) | (first | rfl | (simp; done))) | (refine sl_congr ?_ ?_ <;> first | (exact T.num) | (first | rfl | (simp; done))) | (first | rfl | (simp; done)))) | (exact T.num) | (dsimp only; (exact T.num)) | (first | rfl | (simp; done))); done) | (apply AtC.mk' (id := 5) (S := Hd × Nat × Nm × Nm) ((foI hd 1, a, _, _)); (repeat' first | exact trivial | (refine And.intro ?_ ?_) | exact LB.nil | (with_reducible exact LB.refl) | (apply LB.cons; (repeat first | refine goH ?_ | apply LH.here | apply LH.next); refine And.intro ?_ ?_; (focus (try (first | (with_reducible rfl) | (refine congrArg (Pl.mk _) ?_; (first | rfl | (simp; done))) | rfl | (with_reducible refine congrArg (Pl.mk _) ?_))))) | assumption | (show (_, _) = foB _ _ _; first | exact foB_y (by assumption) | exact foB_n (by assumption)) | (show _ = foT _ _; first | exact foT_y (by assumption) | exact foT_n (by assumption)) | (first | (focus (apply Eq.trans; (conv => lhs; whnf); (conv => rhs; whnf); done)) | rfl | ((conv => lhs; whnf); first | rfl | (refine congrArg (AV.int _) ?_; (exact T.num)) | (refine congrArg AV.bool ?_; (exact T.num)) | (refine vwc ?_; first | (exact T.num) | (first | rfl | (simp; done))) | (refine sl_congr ?_ ?_ <;> first | (exact T.num) | (first | rfl | (simp; done))) | (first | rfl | (simp; done)))) | (exact T.num) | (dsimp only; (exact T.num)) | (first | rfl | (simp; done)))) | (apply AtC.mk' (id := 5) (S := Hd × Nat × Nm × Nm) (({ foI hd 1 with ck := iarith .add .i64 1 (nextR t a 65535) }, adv t a 1, _, _)); (repeat' first | exact trivial | (refine And.intro ?_ ?_) | exact LB.nil | (with_reducible exact LB.refl) | (apply LB.cons; (repeat first | refine goH ?_ | apply LH.here | apply LH.next); refine And.intro ?_ ?_; (focus (try (first | (with_reducible rfl) | (refine congrArg (Pl.mk _) ?_; (first | rfl | (simp; done))) | rfl | (with_reducible refine congrArg (Pl.mk _) ?_))))) | assumption | (show (_, _) = foB _ _ _; first | exact foB_y (by assumption) | exact foB_n (by assumption)) | (show _ = foT _ _; first | exact foT_y (by assumption) | exact foT_n (by assumption)) | (first | (focus (apply Eq.trans; (conv => lhs; whnf); (conv => rhs; whnf); done)) | rfl | ((conv => lhs; whnf); first | rfl | (refine congrArg (AV.int _) ?_; (exact T.num)) | (refine congrArg AV.bool ?_; (exact T.num)) | (refine vwc ?_; first | (exact T.num) | (first | rfl | (simp; done))) | (refine sl_congr ?_ ?_ <;> first | (exact T.num) | (first | rfl | (simp; done))) | (first | rfl | (simp; done)))) | (exact T.num) | (dsimp only; (exact T.num)) | (first | rfl | (simp; done)))) | (apply AtC.mk' (id := 7) (S := Hd × Nm × Nm) ((x, _, _)); (repeat' first | exact trivial | (refine And.intro ?_ ?_) | exact LB.nil | (with_reducible exact LB.refl) | (apply LB.cons; (repeat first | refine goH ?_ | apply LH.here | apply LH.next); refine And.intro ?_ ?_; (focus (try (first | (with_reducible rfl) | (refine congrArg (Pl.mk _) ?_; (first | rfl | (simp; done))) | rfl | (with_reducible refine congrArg (Pl.mk _) ?_))))) | assumption | (show (_, _) = foB _ _ _; first | exact foB_y (by assumption) | exact foB_n (by assumption)) | (show _ = foT _ _; first | exact foT_y (by assumption) | exact foT_n (by assumption)) | (first | (focus (apply Eq.trans; (conv => lhs; whnf); (conv => rhs; whnf); done)) | rfl | ((conv => lhs; whnf); first | rfl | (refine congrArg (AV.int _) ?_; (exact T.num)) | (refine congrArg AV.bool ?_; (exact T.num)) | (refine vwc ?_; first | (exact T.num) | (first | rfl | (simp; done))) | (refine sl_congr ?_ ?_ <;> first | (exact T.num) | (first | rfl | (simp; done))) | (first | rfl | (simp; done)))) | (exact T.num) | (dsimp only; (exact T.num)) | (first | rfl | (simp; done)))) | (apply AtC.mk' (id := 7) (S := Hd × Nm × Nm) (({ x with sq := modR (iarith .add .i64 x.sq 1) 65536, tm := modR (iarith .add .i64 x.tm (iarith .mul .i64 160 1)) 4294967296, mr := 0 }, _, _)); (repeat' first | exact trivial | (refine And.intro ?_ ?_) | exact LB.nil | (with_reducible exact LB.refl) | (apply LB.cons; (repeat first | refine goH ?_ | apply LH.here | apply LH.next); refine And.intro ?_ ?_; (focus (try (first | (with_reducible rfl) | (refine congrArg (Pl.mk _) ?_; (first | rfl | (simp; done))) | rfl | (with_reducible refine congrArg (Pl.mk _) ?_))))) | assumption | (show (_, _) = foB _ _ _; first | exact foB_y (by assumption) | exact foB_n (by assumption)) | (show _ = foT _ _; first | exact foT_y (by assumption) | exact foT_n (by assumption)) | (first | (focus (apply Eq.trans; (conv => lhs; whnf); (conv => rhs; whnf); done)) | rfl | ((conv => lhs; whnf); first | rfl | (refine congrArg (AV.int _) ?_; (exact T.num)) | (refine congrArg AV.bool ?_; (exact T.num)) | (refine vwc ?_; first | (exact T.num) | (first | rfl | (simp; done))) | (refine sl_congr ?_ ?_ <;> first | (exact T.num) | (first | rfl | (simp; done))) | (first | rfl | (simp; done)))) | (exact T.num) | (dsimp only; (exact T.num)) | (first | rfl | (simp; done)))))
   | exact T.z
   | fail) <;> conv => whnf)
 all_goals (try dsimp only)
 all_goals
   rw [fol_t (x := x) (a2 := a2) (y := y) (by assumption) (by assumption)]
   (show RL _ _ _; refine goR ?_)
   rfl
theorem follow_f (t : List Int) (a : Nat) (hd : Hd) (ht : t.length ≤ 400) (p : Nm) : LP Tryz.prog G 41 [.ptr p 0, hd.av, .bool false] [(p, dice t a)] (fun _ => ((folR t a hd false).1.av, [(p, dice t (folR t a hd false).2)])) := by
 refine goW [2, 5, 7] Tryz.func41 rfl ?_
 conv => whnf
 repeat' ((first
   | exact Nm.b 0
   | (show LC _ _ _ _ _ _; first | (apply LC.upd (next_c t _ _ ht _); (repeat first | refine goH ?_ | apply LH.here | apply LH.next); refine ⟨rfl, ?_⟩) | (apply LC.upd (one_c t _ _ ht _); (repeat first | refine goH ?_ | apply LH.here | apply LH.next); refine ⟨rfl, ?_⟩) | refine LC.pure (mod_c _ _) ?_ | refine goE ?_)
   | refine T.s ?_
   | ((first | refine goB (fun h => ?_) (fun h => ?_) | refine AB.dec (fun h => ?_) (fun h => ?_) | refine AB.gen (fun h => ?_) (fun h => ?_)) <;> try (exfalso; omega))
   | refine LFresh.mk fun r => ?_
   | (show SQ _ _ _ _ _ _ _; first | refine gX 23 [1, 3] [0, 1, 2, 3, 4, 5, 6, 7] [p] ?_)
   | (show CutL _ _ _ _ _ _ _ _; first | (refine goK tQ [2, 5, 7] 2 (S := Int × Nat × Nm × Nm) [0, 2] (fun (s, a1, b, o) => ⟨[(7, .int .i64 s), (4, .ptr b 0), (6, .ptr o 0)], [(p, dice t a1), (b, ⟨65, hd.cs⟩), (o, ⟨65, Hd.cs ⟨0, 0, 0, 0, 0, 0, 0, 0, 0, 0, 0, 0, 0, 0, 0⟩⟩)], (s, a1) = foS t a false, 0⟩) ?_ ?_; (rintro ⟨s, a1, b, o⟩ hok; (try dsimp only at hok); (repeat (have hk := And.left hok; replace hok := And.right hok))); rotate_left) | (refine goK tQ [2, 5, 7] 5 (S := Hd × Nat × Nm × Nm) [0, 2, 7] (fun (x, a2, b, o) => ⟨[(4, .ptr b 0), (6, .ptr o 0)], [(p, dice t a2), (b, ⟨65, x.cs⟩), (o, ⟨65, Hd.cs ⟨0, 0, 0, 0, 0, 0, 0, 0, 0, 0, 0, 0, 0, 0, 0⟩⟩)], (x, a2) = foB t a1 (foI hd s), 0⟩) ?_ ?_; (rintro ⟨x, a2, b, o⟩ hok; (try dsimp only at hok); (repeat (have hk := And.left hok; replace hok := And.right hok))); rotate_left) | (refine goK tQ [2, 5, 7] 7 (S := Hd × Nm × Nm) [0, 2] (fun (y, b, o) => ⟨[(4, .ptr b 0), (6, .ptr o 0)], [(p, dice t a2), (b, ⟨65, y.cs⟩), (o, ⟨65, Hd.cs ⟨0, 0, 0, 0, 0, 0, 0, 0, 0, 0, 0, 0, 0, 0, 0⟩⟩)], y = foT s x, 0⟩) ?_ ?_; (rintro ⟨y, b, o⟩ hok; (try dsimp only at hok); (repeat (have hk := And.left hok; replace hok := And.right hok))); rotate_left) | refine CutL.go tQ [2, 5, 7] ?_)
   | (show AtC _ _ _ _ _ _ _ _; first | (apply AtC.mk' (id := 2) (S := Int × Nat × Nm × Nm) ((1, adv t a 1, _, _)); (repeat' first | exact trivial | (refine And.intro ?_ ?_) | exact LB.nil | (with_reducible exact LB.refl) | (apply LB.cons; (repeat first | refine goH ?_ | apply LH.here | apply LH.next); refine And.intro ?_ ?_; (focus (try (first | (with_reducible rfl) | (refine congrArg (Pl.mk _) ?_; (first | rfl | (simp; done))) | rfl | (with_reducible refine congrArg (Pl.mk _) ?_))))) | assumption | (show (_, _) = foS _ _ _; first | exact foS_y (by assumption) | exact foS_n (by assumption)) | (show (_, _) = foB _ _ _; first | exact foB_y (by assumption) | exact foB_n (by assumption)) | (show _ = foT _ _; first | exact foT_y (by assumption) | exact foT_n (by assumption)) | (first | (focus (apply Eq.trans; (conv => lhs; whnf); (conv => rhs; whnf); done)) | rfl | ((conv => lhs; whnf); first | rfl | (refine congrArg (AV.int _) ?_; (exact T.num)) | (refine congrArg AV.bool ?_; (exact T.num)) | (refine vwc ?_; first | (exact T.num) | (first | rfl | (simp; done))) | (refine sl_congr ?_ ?_ <;> first | (exact T.num) | (first | rfl | (simp; done))) | (first | rfl | (simp; done)))) | (exact T.num) | (dsimp only; (exact T.num)) | (first | rfl | (simp; done))); done) | (apply AtC.mk' (id := 2) (S := Int × Nat × Nm × Nm) ((iarith .add .i64 1 (nextR t (adv t a 1) 20), adv t a 2, _, _)); (repeat' first | exact trivial | (refine And.intro ?_ ?_) | exact LB.nil | (with_reducible exact LB.refl) | (apply LB.cons; (repeat first | refine goH ?_ | apply LH.here | apply LH.next); refine And.intro ?_ ?_; (focus (try (first | (with_reducible rfl) | (refine congrArg (Pl.mk _) ?_; (first | rfl | (simp; done))) | rfl | (with_reducible refine congrArg (Pl.mk _) ?_))))) | assumption | (show (_, _) = foS _ _ _; first | exact foS_y (by assumption) | exact foS_n (by assumption)) | (show (_, _) = foB _ _ _; first | exact foB_y (by assumption) | exact foB_n (by assumption)) | (show _ = foT _ _; first | exact foT_y (by assumption) | exact foT_n (by assumption)) | (first | (focus (apply Eq.trans; (conv => lhs; whnf); (conv => rhs; whnf); done)) | rfl | ((conv => lhs; whnf); first | rfl | (refine congrArg (AV.int _) ?_; (exact T.num)) | (refine congrArg AV.bool ?_; (exact T.num)) | (refine vwc ?_; first | (exact T.num) | (first | rfl | (simp; done))) | (refine sl_congr ?_ ?_ <;> first | (exact T.num) | (first | rfl | (simp; done))) | (first | rfl | (simp; done)))) | (exact T.num) | (dsimp only; (exact T.num)) | (first | rfl | (simp; done))); done) | (apply AtC.mk' (id := 5) (S := Hd × Nat × Nm × Nm) ((foI hd s, a1, _, _)); (repeat' first | exact trivial | (refine And.intro ?_ ?_) | exact LB.nil | (with_reducible exact LB.refl) | (apply LB.cons; (repeat first | refine goH ?_ | apply LH.here | apply LH.next); refine And.intro ?_ ?_; (focus (try (first | (with_reducible rfl) | (refine congrArg (Pl.mk _) ?_; (first | rfl | (simp; done))) | rfl | (with_reducible refine congrArg (Pl.mk _) ?_))))) | assumption | (show (_, _) = foS _ _ _; first | exact foS_y (by assumption) | exact foS_n (by assumption)) | (show (_, _) = foB _ _ _; first | exact foB_y (by assumption) | exact foB_n (by assumption)) | (show _ = foT _ _; first | exact foT_y (by assumption) | exact foT_n (by assumption)) | (first | (focus (apply Eq.trans; (conv => lhs; whnf); (conv => rhs; whnf); done)) | rfl | ((conv => lhs; whnf); first | rfl | (refine congrArg (AV.int _) ?_; (exact T.num)) | (refine congrArg AV.bool ?_; (exact T.num)) | (refine vwc ?_; first | (exact T.num) | (first | rfl | (simp; done))) | (refine sl_congr ?_ ?_ <;> first | (exact T.num) | (first | rfl | (simp; done))) | (first | rfl | (simp; done)))) | (exact T.num) | (dsimp only; (exact T.num)) | (first | rfl | (simp; done))); done) | (apply AtC.mk' (id := 5) (S := Hd × Nat × Nm × Nm) (({ foI hd s with ck := iarith .add .i64 1 (nextR t a1 65535) }, adv t a1 1, _, _)); (repeat' first | exact trivial | (refine And.intro ?_ ?_) | exact LB.nil | (with_reducible exact LB.refl) | (apply LB.cons; (repeat first | refine goH ?_ | apply LH.here | apply LH.next); refine And.intro ?_ ?_; (focus (try (first | (with_reducible rfl) | (refine congrArg (Pl.mk _) ?_; (first | rfl | (simp; done))) | rfl | (with_reducible refine congrArg (Pl.mk _) ?_))))) | assumption | (show (_, _) = foS _ _ _; first | exact foS_y (by assumption) | exact foS_n (by assumption)) | (show (_, _) = foB _ _ _; first | exact foB_y (by assumption) | exact foB_n (by assumption)) | (show _ = foT _ _; first | exact foT_y (by assumption) | exact foT_n (by assumption)) | (first | (focus (apply Eq.trans; (conv => lhs; whnf); (conv => rhs; whnf); done)) | rfl | ((conv => lhs; whnf); first | rfl | (refine congrArg (AV.int _) ?_; (exact T.num)) | (refine congrArg AV.bool ?_; (exact T.num)) | (refine vwc ?_; first | (exact T.num) | (first | rfl | (simp; done))) | (refine sl_congr ?_ ?_ <;> first | (exact T.num) | (first | rfl | (simp; done))) | (first | rfl | (simp; done)))) | (exact T.num) | (dsimp only; (exact T.num)) | (first | rfl | (simp; done))); done) | (apply AtC.mk' (id := 7) (S := Hd × Nm × Nm) ((x, _, _)); (repeat' first | exact trivial | (refine And.intro ?_ ?_) | exact LB.nil | (with_reducible exact LB.refl) | (apply LB.cons; (repeat first | refine goH ?_ | apply LH.here | apply LH.next); refine And.intro ?_ ?_; (focus (try (first | (with_reducible rfl) | (refine congrArg (Pl.mk _) ?_; (first | rfl | (simp; done))) | rfl | (with_reducible refine congrArg (Pl.mk _) ?_))))) | assumption | (show (_, _) = foS _ _ _; first | exact foS_y (by assumption) | exact foS_n (by assumption)) | (show (_, _) = foB _ _ _; first | exact foB_y (by assumption) | exact foB_n (by assumption)) | (show _ = foT _ _; first | exact foT_y (by assumption) | exact foT_n (by assumption)) | (first | (focus (apply Eq.trans; (conv => lhs; whnf); (conv => rhs; whnf); done)) | rfl | ((conv => lhs; whnf); first | rfl | (refine congrArg (AV.int _) ?_; (exact T.num)) | (refine congrArg AV.bool ?_; (exact T.num)) | (refine vwc ?_; first | (exact T.num) | (first | rfl | (simp; done))) | (refine sl_congr ?_ ?_ <;> first | (exact T.num) | (first | rfl | (simp; done))) | (first | rfl | (simp; done)))) | (exact T.num) | (dsimp only; (exact T.num)) | (first | rfl | (simp; done))); done) | (apply AtC.mk' (id := 7) (S := Hd × Nm × Nm) (({ x with sq := modR (iarith .add .i64 x.sq s) 65536, tm := modR (iarith .add .i64 x.tm (iarith .mul .i64 160 s)) 4294967296, mr := 0 }, _, _)); (repeat' first | exact trivial | (refine And.intro ?_ ?_) | exact LB.nil | (with_reducible exact LB.refl) | (apply LB.cons; (repeat first | refine goH ?_ | apply LH.here | apply LH.next); refine And.intro ?_ ?_; (focus (try (first | (with_reducible rfl) | (refine congrArg (Pl.mk _) ?_; (first | rfl | (simp; done))) | rfl | (with_reducible refine congrArg (Pl.mk _) ?_))))) | assumption | (show (_, _) = foS _ _ _; first | exact foS_y (by assumption) | exact foS_n (by assumption)) | (show (_, _) = foB _ _ _; first | exact foB_y (by assumption) | exact foB_n (by assumption)) | (show _ = foT _ _; first | exact foT_y (by assumption) | exact foT_n (by assumption)) | (first | (focus (apply Eq.trans; (conv => lhs; whnf); (conv => rhs; whnf); done)) | rfl | ((conv => lhs; whnf); first | rfl | (refine congrArg (AV.int _) ?_; (exact T.num)) | (refine congrArg AV.bool ?_; (exact T.num)) | (refine vwc ?_; first | (exact T.num) | (first | rfl | (simp; done))) | (refine sl_congr ?_ ?_ <;> first | (exact T.num) | (first | rfl | (simp; done))) | (first | rfl | (simp; done)))) | (exact T.num) | (dsimp only; (exact T.num)) | (first | rfl | (simp; done))); done) | (apply AtC.mk' (id := 2) (S := Int × Nat × Nm × Nm) ((1, adv t a 1, _, _)); (repeat' first | exact trivial | (refine And.intro ?_ ?_) | exact LB.nil | (with_reducible exact LB.refl) | (apply LB.cons; (repeat first | refine goH ?_ | apply LH.here | apply LH.next); refine And.intro ?_ ?_; (focus (try (first | (with_reducible rfl) | (refine congrArg (Pl.mk _) ?_; (first | rfl | (simp; done))) | rfl | (with_reducible refine congrArg (Pl.mk _) ?_))))) | assumption | (show (_, _) = foS _ _ _; first | exact foS_y (by assumption) | exact foS_n (by assumption)) | (show (_, _) = foB _ _ _; first | exact foB_y (by assumption) | exact foB_n (by assumption)) | (show _ = foT _ _; first | exact foT_y (by assumption) | exact foT_n (by assumption)) | (first | (focus (apply Eq.trans; (conv => lhs; whnf); (conv => rhs; whnf); done)) | rfl | ((conv => lhs; whnf); first | rfl | (refine congrArg (AV.int _) ?_; (exact T.num)) | (refine congrArg AV.bool ?_; (exact T.num)) | (refine vwc ?_; first | (exact T.num) | (first | rfl | (simp; done))) | (refine sl_congr ?_ ?_ <;> first | (exact T.num) | (first | rfl | (simp; done))) | (first | rfl | (simp; done)))) | (exact T.num) | (dsimp only; (exact T.num)) | (first | rfl | (simp; done)))) | (apply AtC.mk' (id := 2) (S := Int × Nat × Nm × Nm) ((iarith .add .i64 1 (nextR t (adv t a 1) 20), adv t a 2, _, _)); (repeat' first | exact trivial | (refine And.intro ?_ ?_) | exact LB.nil | (with_reducible exact LB.refl) | (apply LB.cons; (repeat first | refine goH ?_ | apply LH.here | apply LH.next); refine And.intro ?_ ?_; (focus (try (first | (with_reducible rfl) | (refine congrArg (Pl.mk _) ?_; (first | rfl | (simp; done))) | rfl | (with_reducible refine congrArg (Pl.mk _) ?_))))) | assumption | (show (_, _) = foS _ _ _; first | exact foS_y (by assumption) | exact foS_n (by assumption)) | (show (_, _) = foB _ _ _; first | exact foB_y (by assumption) | exact foB_n (by assumption)) | (show _ = foT _ _; first | exact foT_y (by assumption) | exact foT_n (by assumption)) | (first | (focus (apply Eq.trans; (conv => lhs; whnf); (conv => rhs; whnf); done)) | rfl | ((conv => lhs; whnf); first | rfl | (refine congrArg (AV.int _) ?_; (exact T.num)) | (refine congrArg AV.bool ?_; (exact T.num)) | (refine vwc ?_; first | (exact T.num) | (first | rfl | (simp; done))) | (refine sl_congr ?_ ?_ <;> first | (exact T.num) | (first | rfl | (simp; done))) | (first | rfl | (simp; done)))) | (exact T.num) | (dsimp only; (exact T.num)) | (first | rfl | (simp; done)))) | (apply AtC.mk' (id := 5) (S := Hd × Nat × Nm × Nm) ((foI hd s, a1, _, _)); (repeat' first | exact trivial | (refine And.intro ?_ ?_) | exact LB.nil | (with_reducible exact LB.refl) | (apply LB.cons; (repeat first | refine goH ?_ | apply LH.here | apply LH.next); refine And.intro ?_ ?_; (focus (try (first | (with_reducible rfl) | (refine congrArg (Pl.mk _) ?_; (first | rfl | (simp; done))) | rfl | (with_reducible refine congrArg (Pl.mk _) ?_))))) | assumption | (show (_, _) = foS _ _ _; first | exact foS_y (by assumption) | exact foS_n (by assumption)) | (show (_, _) = foB _ _ _; first | exact foB_y (by assumption) | exact foB_n (by assumption)) | (show _ = foT _ _; first | exact foT_y (by assumption) | exact foT_n (by assumption)) | (first | (focus (apply Eq.trans; (conv => lhs; whnf); (conv => rhs; whnf); done)) | rfl | ((conv => lhs; whnf); first | rfl | (refine congrArg (AV.int _) ?_; (exact T.num)) | (refine congrArg AV.bool ?_; (exact T.num)) | (refine vwc ?_; first | (exact T.num) | (first | rfl | (simp; done))) | (refine sl_congr ?_ ?_ <;> first | (exact T.num) | (first | rfl | (simp; done))) | (first | rfl | (simp; done)))) | (exact T.num) | (dsimp only; (exact T.num)) | (first | rfl | (simp; done)))) | (apply AtC.mk' (id := 5) (S := Hd × Nat × Nm × Nm) (({ foI hd s with ck := iarith .add .i64 1 (nextR t a1 65535) }, adv t a1 1, _, _)); (repeat' first | exact trivial | (refine And.intro ?_ ?_) | exact LB.nil | (with_reducible exact LB.refl) | (apply LB.cons; (repeat first | refine goH ?_ | apply LH.here | apply LH.next); refine And.intro ?_ ?_; (focus (try (first | (with_reducible rfl) | (refine congrArg (Pl.mk _) ?_; (first | rfl | (simp; done))) | rfl | (with_reducible refine congrArg (Pl.mk _) ?_))))) | assumption | (show (_, _) = foS _ _ _; first | exact foS_y (by assumption) | exact foS_n (by assumption)) | (show (_, _) = foB _ _ _; first | exact foB_y (by assumption) | exact foB_n (by assumption)) | (show _ = foT _ _; first | exact foT_y (by assumption) | exact foT_n (by assumption)) | (first | (focus (apply Eq.trans; (conv => lhs; whnf); (conv => rhs; whnf); done)) | rfl | ((conv => lhs; whnf); first | rfl | (refine congrArg (AV.int _) ?_; (exact T.num)) | (refine congrArg AV.bool ?_; (exact T.num)) | (refine vwc ?_; first | (exact T.num) | (first | rfl | (simp; done))) | (refine sl_congr ?_ ?_ <;> first | (exact T.num) | (first | rfl | (simp; done))) | (first | rfl | (simp; done)))) | (exact T.num) | (dsimp only; (exact T.num)) | (first | rfl | (simp; done)))) | (apply AtC.mk' (id := 7) (S := Hd × Nm × Nm) ((x, _, _)); (repeat' first | exact trivial | (refine And.intro ?_ ?_) | exact LB.nil | (with_reducible exact LB.refl) | (apply LB.cons; (repeat first | refine goH ?_ | apply LH.here | apply LH.next); refine And.intro ?_ ?_; (focus (try (first | (with_reducible rfl) | (refine congrArg (Pl.mk _) ?_; (first | rfl | (simp; done))) | rfl | (with_reducible refine congrArg (Pl.mk _) ?_))))) | assumption | (show (_, _) = foS _ _ _; first | exact foS_y (by assumption) | exact foS_n (by assumption)) | (show (_, _) = foB _ _ _; first | exact foB_y (by assumption) | exact foB_n (by assumption)) | (show _ = foT _ _; first | exact foT_y (by assumption) | exact foT_n (by assumption)) | (first | (focus (apply Eq.trans; (conv => lhs; whnf); (conv => rhs; whnf); done)) | rfl | ((conv => lhs; whnf); first | rfl | (refine congrArg (AV.int _) ?_; (exact T.num)) | (refine congrArg AV.bool ?_; (exact T.num)) | (refine vwc ?_; first | (exact T.num) | (first | rfl | (simp; done))) | (refine sl_congr ?_ ?_ <;> first | (exact T.num) | (first | rfl | (simp; done))) | (first | rfl | (simp; done)))) | (exact T.num) | (dsimp only; (exact T.num)) | (first | rfl | (simp; done)))) | (apply AtC.mk' (id := 7) (S := Hd × Nm × Nm) (({ x with sq := modR (iarith .add .i64 x.sq s) 65536, tm := modR (iarith .add .i64 x.tm (iarith .mul .i64 160 s)) 4294967296, mr := 0 }, _, _)); (repeat' first | exact trivial | (refine And.intro ?_ ?_) | exact LB.nil | (with_reducible exact LB.refl) | (apply LB.cons; (repeat first | refine goH ?_ | apply LH.here | apply LH.next); refine And.intro ?_ ?_; (focus (try (first | (with_reducible rfl) | (refine congrArg (Pl.mk _) ?_; (first | rfl | (simp; done))) | rfl | (with_reducible refine congrArg (Pl.mk _) ?_))))) | assumption | (show (_, _) = foS _ _ _; first | exact foS_y (by assumption) | exact foS_n (by assumption)) | (show (_, _) = foB _ _ _; first | exact foB_y (by assumption) | exact foB_n (by assumption)) | (show _ = foT _ _; first | exact foT_y (by assumption) | exact foT_n (by assumption)) | (first | (focus (apply Eq.trans; (conv => lhs; whnf); (conv => rhs; whnf); done)) | rfl | ((conv => lhs; whnf); first | rfl | (refine congrArg (AV.int _) ?_; (exact T.num)) | (refine congrArg AV.bool ?_; (exact T.num)) | (refine vwc ?_; first | (exact T.num) | (first | rfl | (simp; done))) | (refine sl_congr ?_ ?_ <;> first | (exact T.num) | (first | rfl | (simp; done))) | (first | rfl | (simp; done)))) | (exact T.num) | (dsimp only; (exact T.num)) | (first | rfl | (simp; done)))))
   | exact T.z
   | fail) <;> conv => whnf)
 all_goals (try dsimp only)
 all_goals
   rw [fol_f (s := s) (a1 := a1) (x := x) (a2 := a2) (y := y) (by assumption) (by assumption) (by assumption)]
   unfold foX
   (repeat first | rw [if_pos (by first | assumption | omega)] | rw [if_neg (by first | assumption | omega)])
   (show RL _ _ _; refine goR ?_)
   rfl
theorem follow_c (t : List Int) (a : Nat) (hd : Hd) (reg : Bool) (ht : t.length ≤ 400) (p : Nm) : LP Tryz.prog G 41 [.ptr p 0, hd.av, .bool reg] [(p, dice t a)] (fun _ => ((folR t a hd reg).1.av, [(p, dice t (folR t a hd reg).2)])) := by
 cases reg
 · exact follow_f t a hd ht p
 · exact follow_t t a hd ht p
open Go.RowKit
section
variable {P : Program} {G : Nat → AV} {l : LS}
theorem LC.twoK {f : FuncId} {args : List AV} {x : AV} {r p : Nm} {c d c' d' : Pl} {K : AV → LS → Prop} (hs : r ≠ p → LP P G f args [(r, c), (p, d)] fun _ => (x, [(r, c'), (p, d')]))
   (hk : LH l r fun c1 s rest => c1 = c ∧ LH rest p fun d1 _ _ => d1 = d ∧ LH (s c') p fun _ s2 _ => K x (s2 d')) : LC P G f args l K := ⟨fun φ hsp => by
 obtain ⟨l1, c1, l2, rfl, rfl, ha⟩ := hk.ex
 obtain ⟨l3, d1, l4, e, rfl, hb⟩ := ha.ex
 obtain ⟨m1, e1, m2, e2, h⟩ := hb.ex
 clear hk ha hb
 have hnd := nd_mid hsp.nd
 have hp : p ∈ (l1 ++ l2).map (·.1) := by rw [e]; simp
 have hne : r ≠ p := fun hh => by
   subst hh
   rw [List.map_append, List.mem_append] at hp
   exact hp.elim hnd.1 hnd.2.1
 have hpp : pQ φ (l1 ++ (r, c1) :: l2) p = some d1 := by
   have h1 := hsp.rest
   rw [e] at h1
   have h2 := h1.get
   rw [← e, ← hsp.era', era_ne _ (Ne.symm hne)] at h2
   exact h2
 refine ⟨.inl ⟨[], args, [(r, c1), (p, d1)], _, rfl, fun _ _ => .refl _, hs hne, fun x hx => ?_, by simp [hne], fun q hq hn => ?_⟩⟩
 · simp only [List.mem_cons, List.not_mem_nil, or_false] at hx
   rcases hx with rfl | rfl
   · exact hsp.get
   · exact hpp
 · have h3 : Sep φ (l1 ++ (r, c') :: l2) := hsp.set
   have e3 : l1 ++ (r, c') :: l2 = m1 ++ (p, e1) :: m2 := e2
   have h4 := h3
   rw [e3] at h4
   refine ⟨m1 ++ (p, d') :: m2, ?_, h4.set, h⟩
   rw [← h4.set' d', ← e3, ← hsp.set' c']
   have key : ∀ σ : Store, Go.Proofs.YtkfpgdckdmlhkaaGreatDoor.upd (Go.Proofs.YtkfpgdckdmlhkaaGreatDoor.upd (era (era σ p) r) p d') r c' = Go.Proofs.YtkfpgdckdmlhkaaGreatDoor.upd (Go.Proofs.YtkfpgdckdmlhkaaGreatDoor.upd σ r c') p d' := fun σ => by
    funext y
    by_cases hy : y = r
    · subst hy
      rw [upd_same, upd_ne _ _ hne, upd_same]
    · rw [upd_ne _ _ hy]
      by_cases hz : y = p
      · subst hz; rw [upd_same, upd_same]
      · rw [upd_ne _ _ hz, upd_ne _ _ hz, upd_ne _ _ hy, era_ne _ hy, era_ne _ hz]
   exact key _⟩
end
theorem AQ.rset {α : Type} {f : α → List AV} {n : Nat} (hf : ∀ x, (f x).length = n) {l : List α} {o : Nat} {xs : List AV} {K : List AV → Prop} {i : Nat} {x : α} (j : Nat) (y : α) (h : i < l.length) (ho : o = i * n + j) (hj : j + xs.length ≤ n) (hy : f y = splice (f x) j xs) (k : K ((l.set i y).flatMap f)) : AQ (splice ((l.set i x).flatMap f) o xs) K := ⟨by
 subst ho
 have h1 : (l.set i x).getD i x = x := by simp [List.getD_eq_getElem?_getD, h]
 rw [splice_fm hf (l.set i x) i j x y xs (by simpa using h) hj (by rw [h1]; exact hy), List.set_set]
 exact k⟩
theorem AC.rset {α : Type} {f : α → List AV} {n : Nat} (hf : ∀ x, (f x).length = n) {agg : Bool} {l : List α} {o m : Nat} {K : AV → Prop} {i : Nat} {x : α} (j : Nat) (v : AV) (h : i < l.length) (ho : o = i * n + j) (hj : j + m ≤ n) (hv : mkv agg (((f x).drop j).take m) = v) (k : K v) : AC agg ((((l.set i x).flatMap f).drop o).take m) K := ⟨by
 subst ho
 have h1 : (l.set i x).getD i x = x := by simp [List.getD_eq_getElem?_getD, h]
 rw [← List.drop_drop, fm_at hf (l.set i x) i x (by simpa using h), h1, List.drop_append_of_le_length (by rw [hf]; omega), List.take_append_of_le_length (by simp [hf]; omega), hv]
 exact k⟩
theorem rset_le {α : Type} {f : α → List AV} {n i j m : Nat} {l : List α} {x : α} (hf : ∀ x, (f x).length = n) (h : i < l.length) (hj : j + m ≤ n) : i * n + j + m ≤ ((l.set i x).flatMap f).length := by
 rw [fm_len hf, List.length_set]
 have := Nat.mul_le_mul_right n (show i + 1 ≤ l.length from h)
 rw [Nat.succ_mul] at this
 omega
theorem set_at {α : Type} {l : List α} {i : Nat} {d : α} (h : i < l.length) : l.set i (l.getD i d) = l := by
 apply List.ext_getElem
 · simp
 · intro k h1 h2
   rw [List.getElem_set]
   split
   · rename_i e; subst e; simp [List.getD_eq_getElem?_getD, h]
   · rfl
theorem set_gt {α : Type} {l : List α} {i : Nat} {x d : α} (h : i < l.length) : (l.set i x).getD i d = x := by simp [List.getD_eq_getElem?_getD, h]
open Go.RowKit
variable {G : Nat → AV}
attribute [local irreducible] hdrR hdrA bytesL manyR nextR nextA
end Go.Proofs.YtkfpgdckdmlhkaaGreatDoor
namespace Go.Proofs.YtkfpgdckdmlhkaaGreatDoor
open Go.RowKit
variable {G : Nat → AV}
attribute [local irreducible] nextR nextA
end Go.Proofs.YtkfpgdckdmlhkaaGreatDoor
namespace Go.Proofs.YtkfpgdckdmlhkaaGreatDoor
open Go.RowKit
theorem hkd_12 (fl : Int) : hkdR fl = 1 ∨ hkdR fl = 2 := by
 have h := modR_lt fl 2 (by decide) (by decide)
 have e : hkdR fl = 1 + modR fl 2 := by unfold hkdR; (exact T.num)
 omega
theorem ok_low (s : Sm) (hf : s.f = 1 ∨ s.f = 2 ∨ s.f = 3) (h1 : 0 ≤ s.cx ∧ s.cx < 16 ∧ s.pl.length ≤ 1500) (h2 : fitR (cbR s.f) s.ck = true) (h3 : lowbR s = true) (hk : s.h.k = 1 ∨ s.h.k = 2) (hz : hzR s.h s.h.k = true) (hd : dzR s.d = true) : s.ok = true := by
 unfold Sm.ok topR
 rw [if_pos hf, h2, h3, hz, hd, decide_eq_true h1, decide_eq_true hk]
 rfl
theorem ok_big (s : Sm) (hf : s.f = 4 ∨ s.f = 5) (h1 : 0 ≤ s.cx ∧ s.cx < 16 ∧ s.pl.length ≤ 1500) (h2 : fitR (cbR s.f) s.ck = true) (h3 : noneR s = true) (h4 : wholeR s = true) : s.ok = true := by
 unfold Sm.ok topR
 rw [if_neg (by omega), if_pos hf, h2, h3, h4, decide_eq_true h1]
 rfl
theorem fitN (n : Nat) (v : Int) : fitR (n : Int) v = true ↔ 0 ≤ v ∧ v ≤ 2 ^ n - 1 := by rw [fit_in, in_iff]
open Go.RowKit
variable {G : Nat → AV}
theorem Hd.eqz (h : Hd) : alleq [(h.k, 0), (h.tos, 0), (h.id, 0), (h.fx, 0), (h.ttl, 0), (h.fr, 0), (h.to, 0), (h.fp, 0), (h.tp, 0), (h.ck, 0), (h.mr, 0), (h.ty, 0), (h.sq, 0), (h.tm, 0), (h.sr, 0)] = decide (h = Hd.z) := Hd.eqs h Hd.z
section
variable {r : Rc}
theorem rc_er (h : r.er < 0 ∨ 2 < r.er) : r.ok = false := by unfold Rc.ok; rw [decide_eq_false (by omega)]; rfl
theorem rc_0 (he : 0 ≤ r.er ∧ r.er < 3) (h : r.st = 0) : r.ok = (decide (r.la = Hd.z) && decide (r.dy = Dy.z)) := by unfold Rc.ok; rw [decide_eq_true he, if_pos h, Bool.true_and, Bool.decide_and]
theorem rc_1 (he : 0 ≤ r.er ∧ r.er < 3) (h : r.st = 1 ∨ r.st = 2) : r.ok = (r.la.ok && (r.dy.ok && decide (r.la.k = 2 ∨ r.dy = Dy.z))) := by unfold Rc.ok; rw [decide_eq_true he, if_neg (by omega), if_pos h]; rfl
end
def De.at (d : De) (i : Nat) : Rc := d.cx.getD i Rc.z
theorem deok {d : De} (h1 : 1 ≤ d.m ∧ d.m ≤ 3) (h2 : d.cx.length = 16) : d.ok = d.cx.all Rc.ok := by unfold De.ok modeR; rw [decide_eq_true h1, decide_eq_true h2]; rfl
theorem deok_f {d : De} (h : ¬ ((1 ≤ d.m ∧ d.m ≤ 3) ∧ d.cx.length = 16)) : d.ok = false := by
 unfold De.ok modeR
 by_cases h1 : 1 ≤ d.m ∧ d.m ≤ 3
 · rw [decide_eq_false (fun e => h ⟨h1, e⟩)]; simp
 · rw [decide_eq_false h1]; rfl
end Go.Proofs.YtkfpgdckdmlhkaaGreatDoor
