/-
  Contracts of the functions that the laws reach.
-/
import Derived.Test.YtbagbjacmakfhaaGreatDoorCq01
import Derived.Test.YtbagbjacmakfhaaGreatDoorCq02
import Derived.Test.YtbagbjacmakfhaaGreatDoorCq03
import Derived.Test.YtbagbjacmakfhaaGreatDoorCq04
import Derived.Test.YtbagbjacmakfhaaGreatDoorCq05
import Derived.Test.YtbagbjacmakfhaaGreatDoorCq06
import Derived.Test.YtbagbjacmakfhaaGreatDoorCq08
import Derived.Test.YtbagbjacmakfhaaGreatDoorCq09
import Derived.Test.YtbagbjacmakfhaaGreatDoorCq10
import Derived.Test.YtbagbjacmakfhaaGreatDoorCq13
import Derived.Test.YtbagbjacmakfhaaGreatDoorCq14
import Derived.Test.YtbagbjacmakfhaaGreatDoorCq15
import Derived.Test.YtbagbjacmakfhaaGreatDoorCq16
import Derived.Test.YtbagbjacmakfhaaGreatDoorCq17
import Derived.Test.YtbagbjacmakfhaaGreatDoorCq18
import Derived.Test.YtbagbjacmakfhaaGreatDoorCq22
import Derived.Test.YtbagbjacmakfhaaGreatDoorCq23
set_option maxHeartbeats 8000000
set_option linter.all false
namespace Go.Proofs.YtbagbjacmakfhaaGreatDoor
open Go.RowKit
variable {G : Nat → AV}
section
variable {s : Sn} {h r : Hd} {f : Int}
theorem refB_n1 (h1 : xN r h = 0) (h2 : f = 1) (h3 : qJ [((zy s h r).k, h.k), ((zy s h r).tos, h.tos), ((zy s h r).id, h.id), ((zy s h r).fx, h.fx), ((zy s h r).ttl, h.ttl), ((zy s h r).fr, h.fr), ((zy s h r).to, h.to), ((zy s h r).fp, h.fp), ((zy s h r).tp, h.tp), ((zy s h r).ck, h.ck), ((zy s h r).mr, h.mr), ((zy s h r).ty, h.ty), ((zy s h r).sq, h.sq), ((zy s h r).tm, h.tm), ((zy s h r).sr, h.sr)] = false) : xm s h f r = false := by
 subst h2
 rw [w8 h1, ← Hd.eqs]; exact h3
theorem refB_y1 (h1 : xN r h = 0) (h2 : f = 1) (h3 : qJ [((zy s h r).k, h.k), ((zy s h r).tos, h.tos), ((zy s h r).id, h.id), ((zy s h r).fx, h.fx), ((zy s h r).ttl, h.ttl), ((zy s h r).fr, h.fr), ((zy s h r).to, h.to), ((zy s h r).fp, h.fp), ((zy s h r).tp, h.tp), ((zy s h r).ck, h.ck), ((zy s h r).mr, h.mr), ((zy s h r).ty, h.ty), ((zy s h r).sq, h.sq), ((zy s h r).tm, h.tm), ((zy s h r).sr, h.sr)] = true) : xm s h f r = true := by
 subst h2
 rw [w8 h1, ← Hd.eqs]; exact h3
theorem refB_y2 (h1 : xN r h = 0) (h2 : f = 2) (k : h.k = 2) (h3 : (zy s h r).id = h.id) : xm s h f r = true := by
 subst h2
 rw [w7 h1 k]; exact decide_eq_true h3
theorem refB_n2 (h1 : xN r h = 0) (h2 : f = 2) (k : h.k = 2) (h3 : ¬ (zy s h r).id = h.id) : xm s h f r = false := by
 subst h2
 rw [w7 h1 k]; exact decide_eq_false h3
theorem possR_tm' (hall : s.rf.all (xm s h f) = true) (h2 : f = 2 ∧ h.k = 2) (hf : xD 32 (s.rf.map (·.tm)) 16 h.tm = false) : qU s h f = false := by
 unfold qU
 rw [hall, hf, decide_eq_false (by omega), decide_eq_false (by simp [h2])]
 simp
theorem possR_te (hall : s.rf.all (xm s h f) = true) (h3 : ¬ (f = 3 ∧ h.k ≠ 2)) (hf : (f = 2 ∧ h.k = 2) → xD 32 (s.rf.map (·.tm)) 16 h.tm = true) : qU s h f = xD 16 (s.rf.map Hd.num) (wid f h.k 0) h.num := by
 unfold qU
 rw [hall, decide_eq_false h3]
 by_cases h2 : f = 2 ∧ h.k = 2
 · rw [hf h2]; simp
 · rw [decide_eq_true h2]; simp
end
theorem cposs_c (s : Sn) (hd : Hd) (f : Int) (hf : f = 1 ∨ f = 2 ∨ f = 3) (hl : s.rf.length ≤ 100000) : LP Tryz.prog G 68 [s.av, hd.av, iAV f] [] (fun _ => (.bool (qU s hd f), [])) := by
 have hT := lfits_c (G := G) 32 (s.rf.map (·.tm)) 16 hd.tm (by simpa using hl)
 have hN := lfits_c (G := G) 16 (s.rf.map Hd.num) (wid f hd.k 0) hd.num (by simpa using hl)
 by_cases k : hd.k = 2
 all_goals
   refine goW [] Tryz.func68 rfl ?_
   conv => whnf
   repeat' ((first | (with_reducible refine And.intro (congrArg (fun z => List.map iAV (List.map (fun x : Hd => x.tm) z)) (List.take_of_length_le (by omega))) (by simp; omega)) | (with_reducible refine And.intro (congrArg (fun z => List.map iAV (List.map Hd.num z)) (List.take_of_length_le (by omega))) (by simp; omega)) | exact Nm.b 0 | (refine And.intro ?_ ?_; (focus (first | exact zx Hd.cs_len (by assumption) | exact InL.here | exact T.kx | exact T.side))) | (show LC _ _ _ _ _ _; first | refine LC.pure (fchg_c _ _) ?_ | refine LC.pure (kt _) ?_ | refine LC.pure (fpred_c s.dy _ _) ?_ | refine LC.pure (nbits_c _ _) ?_ | refine LC.mk' (hT) [_] ⟨LF.eq rfl, LF.rowF InL.here ?_, LF.eq rfl, LF.eq rfl, trivial⟩ ?_ | refine LC.mk' (hN) [_] ⟨LF.eq rfl, LF.rowF InL.here ?_, LF.eq rfl, LF.eq rfl, trivial⟩ ?_ | refine goE ?_) | (show AC _ _ _; first | (refine AC.recd Hd.cs_len i Hd.z rfl rfl ?_ ?_; (focus omega))) | refine T.s ?_ | ((first | apply goB | apply AB.dec | apply AB.gen) <;> intro h <;> try (exfalso; omega)) | refine LQ.mk fun r => ?_ | (show SQ _ _ _ (.loop _) _ _ _; first | (apply goO tQ [] 4 (S := Nat × Nm × Nm × Nm × Nm) [2, 9, 18, 19] (fun (i, qa, qb, a, b) => ⟨[(20, .int .i64 i), (7, .vw qa 0 i 1), (8, .vw qb 0 i 1), (3, .ptr a 0), (4, .ptr b 0)], [(qa, ⟨3, (((s.rf.take i).map Hd.num).map iAV)⟩), (qb, ⟨3, (((s.rf.take i).map (·.tm)).map iAV)⟩), (a, ⟨61, s.cs⟩), (b, ⟨50, hd.cs⟩)], i ≤ s.rf.length ∧ (s.rf.take i).all (xm s hd f) = true, s.rf.length - i⟩) ((0, _, _, _, _)) (by rfl); (focus ((repeat' first | exact trivial | (refine And.intro ?_ ?_) | exact LB.nil | (with_reducible exact LB.refl) | (apply LB.cons; (repeat first | refine goH ?_ | apply LH.here | apply LH.next); refine And.intro ?_ ?_; (focus (try (first | (with_reducible rfl) | (refine congrArg (Pl.mk _) ?_; (first | (with_reducible rfl) | (simp only [List.map_nil, List.take_zero]; done) | (rw [q8 _ _ Hd.z (by omega), List.map_append]; rfl) | rfl)) | rfl | (with_reducible refine congrArg (Pl.mk _) ?_))))) | assumption | ((with_reducible show List.all _ _ = true); rw [qA _ _ Hd.z (by omega), hok]; first | exact refB_y1 (by assumption) (by assumption) (by assumption) | exact refB_y2 (by assumption) (by assumption) (by assumption) (by assumption) | exact xV (by assumption) (by omega) (by omega)) | (first | (focus (apply Eq.trans; (conv => lhs; whnf); (conv => rhs; whnf); done)) | rfl | ((conv => lhs; whnf); first | rfl | (refine congrArg (AV.int _) ?_; (exact T.num)) | (refine congrArg AV.bool ?_; (exact T.num)) | (refine vwc ?_; first | (exact T.num) | (first | (with_reducible rfl) | (simp only [List.map_nil, List.take_zero]; done) | (rw [q8 _ _ Hd.z (by omega), List.map_append]; rfl) | rfl)) | (refine qc ?_ ?_ <;> first | (exact T.num) | (first | (with_reducible rfl) | (simp only [List.map_nil, List.take_zero]; done) | (rw [q8 _ _ Hd.z (by omega), List.map_append]; rfl) | rfl)) | (first | (with_reducible rfl) | (simp only [List.map_nil, List.take_zero]; done) | (rw [q8 _ _ Hd.z (by omega), List.map_append]; rfl) | rfl))) | (exact T.num) | (dsimp only; (exact T.num)) | (first | (with_reducible rfl) | (simp only [List.map_nil, List.take_zero]; done) | (rw [q8 _ _ Hd.z (by omega), List.map_append]; rfl) | rfl)); done)); rintro ⟨i, qa, qb, a, b⟩ ⟨hk, hok⟩)) | (show SQ _ _ _ _ _ _ _; first | refine SQ.adopt 7 1 3 (by rfl) fun q => ?_ | refine SQ.adopt 8 1 3 (by rfl) fun q => ?_ | refine gX 8 [1, 2, 4] [0, 1, 2, 3, 4, 5, 6, 7] [] ?_ | (apply goD tQ qd 14 [7, 2, 4] [0, 1, 5, 6, 7, 2, 3, 4, 8, 9, 10, 11] [_] (by kernel_rfl))) | (show AtL _ _ _ _ _ _ _ _ _ _; first | (apply AtL.mk' (id := 4) (S := Nat × Nm × Nm × Nm × Nm) ((i + 1, _, _, _, _)); (repeat' first | exact trivial | (refine And.intro ?_ ?_) | exact LB.nil | (with_reducible exact LB.refl) | (apply LB.cons; (repeat first | refine goH ?_ | apply LH.here | apply LH.next); refine And.intro ?_ ?_; (focus (try (first | (with_reducible rfl) | (refine congrArg (Pl.mk _) ?_; (first | (with_reducible rfl) | (simp only [List.map_nil, List.take_zero]; done) | (rw [q8 _ _ Hd.z (by omega), List.map_append]; rfl) | rfl)) | rfl | (with_reducible refine congrArg (Pl.mk _) ?_))))) | assumption | ((with_reducible show List.all _ _ = true); rw [qA _ _ Hd.z (by omega), hok]; first | exact refB_y1 (by assumption) (by assumption) (by assumption) | exact refB_y2 (by assumption) (by assumption) (by assumption) (by assumption) | exact xV (by assumption) (by omega) (by omega)) | (first | (focus (apply Eq.trans; (conv => lhs; whnf); (conv => rhs; whnf); done)) | rfl | ((conv => lhs; whnf); first | rfl | (refine congrArg (AV.int _) ?_; (exact T.num)) | (refine congrArg AV.bool ?_; (exact T.num)) | (refine vwc ?_; first | (exact T.num) | (first | (with_reducible rfl) | (simp only [List.map_nil, List.take_zero]; done) | (rw [q8 _ _ Hd.z (by omega), List.map_append]; rfl) | rfl)) | (refine qc ?_ ?_ <;> first | (exact T.num) | (first | (with_reducible rfl) | (simp only [List.map_nil, List.take_zero]; done) | (rw [q8 _ _ Hd.z (by omega), List.map_append]; rfl) | rfl)) | (first | (with_reducible rfl) | (simp only [List.map_nil, List.take_zero]; done) | (rw [q8 _ _ Hd.z (by omega), List.map_append]; rfl) | rfl))) | (exact T.num) | (dsimp only; (exact T.num)) | (first | (with_reducible rfl) | (simp only [List.map_nil, List.take_zero]; done) | (rw [q8 _ _ Hd.z (by omega), List.map_append]; rfl) | rfl)); done) | (apply AtL.mk' (id := 4) (S := Nat × Nm × Nm × Nm × Nm) ((i + 1, _, _, _, _)); (repeat' first | exact trivial | (refine And.intro ?_ ?_) | exact LB.nil | (with_reducible exact LB.refl) | (apply LB.cons; (repeat first | refine goH ?_ | apply LH.here | apply LH.next); refine And.intro ?_ ?_; (focus (try (first | (with_reducible rfl) | (refine congrArg (Pl.mk _) ?_; (first | (with_reducible rfl) | (simp only [List.map_nil, List.take_zero]; done) | (rw [q8 _ _ Hd.z (by omega), List.map_append]; rfl) | rfl)) | rfl | (with_reducible refine congrArg (Pl.mk _) ?_))))) | assumption | ((with_reducible show List.all _ _ = true); rw [qA _ _ Hd.z (by omega), hok]; first | exact refB_y1 (by assumption) (by assumption) (by assumption) | exact refB_y2 (by assumption) (by assumption) (by assumption) (by assumption) | exact xV (by assumption) (by omega) (by omega)) | (first | (focus (apply Eq.trans; (conv => lhs; whnf); (conv => rhs; whnf); done)) | rfl | ((conv => lhs; whnf); first | rfl | (refine congrArg (AV.int _) ?_; (exact T.num)) | (refine congrArg AV.bool ?_; (exact T.num)) | (refine vwc ?_; first | (exact T.num) | (first | (with_reducible rfl) | (simp only [List.map_nil, List.take_zero]; done) | (rw [q8 _ _ Hd.z (by omega), List.map_append]; rfl) | rfl)) | (refine qc ?_ ?_ <;> first | (exact T.num) | (first | (with_reducible rfl) | (simp only [List.map_nil, List.take_zero]; done) | (rw [q8 _ _ Hd.z (by omega), List.map_append]; rfl) | rfl)) | (first | (with_reducible rfl) | (simp only [List.map_nil, List.take_zero]; done) | (rw [q8 _ _ Hd.z (by omega), List.map_append]; rfl) | rfl))) | (exact T.num) | (dsimp only; (exact T.num)) | (first | (with_reducible rfl) | (simp only [List.map_nil, List.take_zero]; done) | (rw [q8 _ _ Hd.z (by omega), List.map_append]; rfl) | rfl)))) | exact T.z | fail) <;> try (show (_ : Prop); conv => whnf))
   all_goals (try dsimp only)
   all_goals first
     | ((show RL _ _ _; refine goR ?_); rw [zw i (by omega) (yh (by assumption))])
     | ((show RL _ _ _; refine goR ?_); rw [zw i (by omega) (refB_n1 (by assumption) (by assumption) (by assumption))])
     | ((show RL _ _ _; refine goR ?_); rw [zw i (by omega) (refB_n2 (by assumption) (by assumption) (by assumption) (by assumption))])
     | ((show RL _ _ _; refine goR ?_); rw [kk (zm (by omega) hok) (.inl ⟨by assumption, by assumption⟩) (by omega)])
     | ((show RL _ _ _; refine goR ?_); rw [possR_tm' (zm (by omega) hok) ⟨by assumption, by assumption⟩ (by assumption)])
     | ((show RL _ _ _; refine goR ?_); rw [possR_te (zm (by omega) hok) (by omega) (fun _ => by first | assumption | (exfalso; omega))])
     | trace_state
open Go.RowKit
def zo (w : Int) (s : Sn) (f : Int) : Sn := if f = 5 then { s with full := w, refr := 0 } else { s with refr := w, lng := 0 }
def chA (w : Int) (s : Sn) (h : Hd) (b : Bool) : Sn × Bool :=
 if 0 < s.rf.length ∧ (xN s.lst h ≠ 0 ∨ s.lng = 3 ∧ qN s.lst h ≠ s.dy) then (zo w s (if 0 < s.full then 5 else 4), true) else (s, b)
def chb (s : Sn) : Bool := decide (s.rf.length = 0 ∨ (0 < s.full ∨ 0 < s.refr) ∧ s.ser = (s.rf.length : Int))
def chB (m w : Int) (x : Sn × Bool) : Sn × Bool := if m = 1 ∧ x.1.sin = 32 ∧ x.1.full = 0 then (zo w x.1 5, true) else x
def chC (m w : Int) (x : Sn × Bool) : Sn × Bool := if m = 3 ∧ x.1.rf.length = 32 then ({ zo w x.1 5 with rf := [] }, true) else x
def chL (last h : Hd) (x : Sn) : Sn := { x with ser := x.rf.length, dy := qN last h }
def chD (last h : Hd) (x : Sn × Bool) : Sn := if x.2 = true then chL last h x.1 else x.1
def chE (w : Int) (last h : Hd) (s : Sn) : Sn × Int :=
 if 0 < s.full then (s, 5) else if 0 < s.refr then (s, 4) else if qU s h 1 = true then (s, 1) else if qU s h 2 = true then (s, 2) else if qU s h 3 = true then (s, 3)
 else (chL last h (zo w s 4), 4)
def j9 (m w : Int) (s : Sn) (h : Hd) : Sn × Int := chE w s.lst h (chD s.lst h (chC m w (chB m w (chA w s h (chb s)))))
def ja (w : Int) (s : Sn) : Sn := if s.act = true then s else { s with act := true, full := w }
theorem learn_z (h : Hd) : qN Hd.z h = Dy.z := by
 unfold qN
 rw [if_neg]
 rintro ⟨h1, -⟩
 revert h1
 show Hd.ok _ = true → False
 decide
structure Lk (x y : Sn) : Prop where
 act : x.act = y.act
 full : x.full = y.full
 refr : x.refr = y.refr
 ser : x.ser = y.ser
 sin : x.sin = y.sin
 dy : x.dy = y.dy
 rf : x.rf = y.rf
 lng : x.lng = y.lng ∨ 0 < x.full
theorem Lk.rfl' (x : Sn) : Lk x x := ⟨rfl, rfl, rfl, rfl, rfl, rfl, rfl, .inl rfl⟩
theorem Lk.csF {x y : Sn} {m w : Int} {h : Hd} {f : Int} (k : Lk x y) (h5 : 0 < x.full → f = 5) : csF m w h x f = csF m w h y f := by
 obtain ⟨a1, a2, a3, a4, a5, a6, a7, a8⟩ := k
 unfold Go.Proofs.YtbagbjacmakfhaaGreatDoor.csF
 rw [a1, a2, a3, a4, a5, a6, a7]
 congr 1
 rcases a8 with a8 | a8
 · rw [a8]
 · rw [if_neg (by have := h5 a8; omega), if_neg (by have := h5 a8; omega)]
theorem poss_lk {x y : Sn} {h : Hd} {f : Int} (h1 : x.dy = y.dy) (h2 : x.rf = y.rf) : qU x h f = qU y h f := by
 have e : xm x h f = xm y h f := by
   funext r
   unfold xm zy
   rw [h1]
 unfold qU
 rw [e, h2]
theorem chE_lk {w : Int} {l l' h : Hd} {had : Bool} {x y : Sn} (k : Lk x y) (hl : qN l h = (if had = true then qN l' h else Dy.z)) : (chE w l h x).2 = (csE w l' had h y).2 ∧ Lk (chE w l h x).1 (csE w l' had h y).1 ∧ (0 < (chE w l h x).1.full → (chE w l h x).2 = 5) := by
 have p := fun f => poss_lk (h := h) (f := f) k.dy k.rf
 unfold chE csE
 rw [k.full, k.refr, p, p, p]
 by_cases h1 : 0 < y.full
 · rw [if_pos h1, if_pos h1]; exact ⟨rfl, k, fun _ => rfl⟩
 · rw [if_neg h1, if_neg h1]
   have kl : x.lng = y.lng := k.lng.resolve_right (by rw [k.full]; exact h1)
   by_cases h2 : 0 < y.refr
   · rw [if_pos h2, if_pos h2]; exact ⟨rfl, k, fun h => absurd (k.full ▸ h) h1⟩
   · rw [if_neg h2, if_neg h2]
     split
     · exact ⟨rfl, k, fun h => absurd (k.full ▸ h) h1⟩
     · split
       · exact ⟨rfl, k, fun h => absurd (k.full ▸ h) h1⟩
       · split
         · exact ⟨rfl, k, fun h => absurd (k.full ▸ h) h1⟩
         · refine ⟨rfl, ?_, fun h => absurd (k.full ▸ h) h1⟩
           unfold chL zo wY
           rw [if_neg (by decide)]
           exact ⟨k.act, k.full, rfl, by dsimp only; rw [k.rf], k.sin, hl, k.rf, .inl rfl⟩
theorem cho_eq {m w : Int} {s : Sn} {h : Hd} (hw : 1 ≤ w) (hs : s.ok m w = true) :
   (j9 m w (ja w s) h).2 = (xd m w s h).2 ∧ Lk (j9 m w (ja w s) h).1 (xd m w s h).1 ∧ (0 < (j9 m w (ja w s) h).1.full → (j9 m w (ja w s) h).2 = 5) := by
 unfold j9 xd
 cases ha : s.act with
 | false =>
   obtain ⟨a1, a2, a3, a4, a5, a6, a7⟩ := ye hs ha
   have e0 : ja w s = { s with act := true, full := w } := by unfold ja; rw [if_neg (by rw [ha]; decide)]
   have el : (ja w s).lst = Hd.z := by rw [e0]; unfold Sn.lst; dsimp only; rw [a7]; rfl
   have e1 : chA w (ja w s) h (chb (ja w s)) = (ja w s, true) := by
     unfold chA chb
     rw [if_neg (by rw [e0]; dsimp only; rw [a7]; simp), decide_eq_true (.inl (by rw [e0]; dsimp only; rw [a7]; rfl))]
   have e2 : csA w s h = ({ s with act := true, full := w }, true) := by unfold csA; rw [if_pos ha]
   have e3 : ∀ b, chB m w (ja w s, b) = (ja w s, b) := fun b => by unfold chB; rw [if_neg (by rw [e0]; dsimp only; omega)]
   have e4 : ∀ b, chC m w (ja w s, b) = (ja w s, b) := fun b => by unfold chC; rw [if_neg (by rw [e0]; dsimp only; rw [a7]; simp)]
   have e5 : csB m w ({ s with act := true, full := w }, true) = ({ s with act := true, full := w }, true) := by unfold csB; rw [if_neg (by dsimp only; omega)]
   have e6 : csC m w s.rf.length ({ s with act := true, full := w }, true) = ({ s with act := true, full := w }, true) := by unfold csC; rw [if_neg (by rw [a7]; simp)]
   rw [e1, e3, e4, e2, e5, e6, el]
   refine chE_lk ?_ (by rw [learn_z]; rfl)
   unfold chD csD chL wY
   rw [if_pos rfl, if_pos (.inl rfl), learn_z, e0]
   exact Lk.rfl' _
 | true =>
   have e0 : ja w s = s := if_pos ha
   rw [e0]
   have hp := jf hs ha
   have hR := ((Sn.ok_e ha).1 hs).1
   unfold yg at hR
   refine chE_lk ?_ rfl
   have f1 : Lk (chA w s h (chb s)).1 (csA w s h).1 ∧ ((chA w s h (chb s)).2 = true ∧ (csA w s h).2 = true ∨ (chA w s h (chb s)) = (s, chb s) ∧ csA w s h = (s, false)) := by
     unfold chA csA
     rw [if_neg (show ¬ s.act = false by rw [ha]; decide)]
     by_cases hc : xN s.lst h ≠ 0 ∨ s.lng = 3 ∧ qN s.lst h ≠ s.dy
     · rw [if_pos ⟨hp, hc⟩, if_pos hc]
       refine ⟨?_, .inl ⟨rfl, rfl⟩⟩
       by_cases h5 : 0 < s.full
       · rw [if_pos h5, if_pos h5]
         unfold zo
         rw [if_pos rfl]
         exact ⟨rfl, rfl, by dsimp only; omega, rfl, rfl, rfl, rfl, .inr (by dsimp only; omega)⟩
       · rw [if_neg h5, if_neg h5]
         unfold zo
         rw [if_neg (by decide)]
         exact ⟨rfl, rfl, rfl, rfl, rfl, rfl, rfl, .inl rfl⟩
     · rw [if_neg (fun h => hc h.2), if_neg hc]
       exact ⟨Lk.rfl' _, .inr ⟨rfl, rfl⟩⟩
   generalize hX : chA w s h (chb s) = X at f1
   generalize hY : csA w s h = Y at f1
   have f2 : Lk (chB m w X).1 (csB m w Y).1 ∧ ((chB m w X).2 = true ∧ (csB m w Y).2 = true ∨ chB m w X = (s, chb s) ∧ csB m w Y = (s, false)) := by
     unfold chB csB
     rw [f1.1.sin, f1.1.full]
     split
     · refine ⟨?_, .inl ⟨rfl, rfl⟩⟩
       unfold zo
       rw [if_pos rfl]
       exact ⟨f1.1.act, rfl, rfl, f1.1.ser, f1.1.sin, f1.1.dy, f1.1.rf, .inr (by dsimp only; omega)⟩
     · exact f1
   generalize hX2 : chB m w X = X2 at f2
   generalize hY2 : csB m w Y = Y2 at f2
   have hrf : Y2.1.rf = s.rf := by
     rw [← hY2, ← hY]
     unfold csB csA
     (repeat' split) <;> rfl
   have f3 : Lk (chC m w X2).1 (csC m w s.rf.length Y2).1 ∧ ((chC m w X2).2 = true ∧ (csC m w s.rf.length Y2).2 = true ∨ chC m w X2 = (s, chb s) ∧ csC m w s.rf.length Y2 = (s, false)) := by
     unfold chC csC
     rw [f2.1.rf, hrf]
     split
     · refine ⟨?_, .inl ⟨rfl, rfl⟩⟩
       unfold zo
       rw [if_pos rfl]
       exact ⟨f2.1.act, rfl, rfl, f2.1.ser, f2.1.sin, f2.1.dy, rfl, .inr (by dsimp only; omega)⟩
     · exact f2
   generalize chC m w X2 = X3 at f3
   generalize csC m w s.rf.length Y2 = Y3 at f3
   obtain ⟨g1, g2 | ⟨g2, g3⟩⟩ := f3
   · unfold chD csD
     rw [if_pos g2.1, if_pos (.inl g2.2)]
     unfold chL wY
     rw [g1.rf, if_pos rfl]
     exact ⟨g1.act, g1.full, g1.refr, rfl, g1.sin, rfl, rfl, g1.lng⟩
   · rw [g2, g3]
     unfold chD csD chb
     dsimp only
     have e9 : (decide (s.rf.length = 0 ∨ (0 < s.full ∨ 0 < s.refr) ∧ s.ser = (s.rf.length : Int)) = true) ↔ (false = true ∨ s.ser = (s.rf.length : Int) ∧ (0 < s.full ∨ 0 < s.refr)) := by
       rw [decide_eq_true_iff]
       constructor
       · rintro (k | ⟨k1, k2⟩)
         · omega
         · exact .inr ⟨k2, k1⟩
       · rintro (k | ⟨k1, k2⟩)
         · cases k
         · exact .inr ⟨k2, k1⟩
     by_cases hh : false = true ∨ s.ser = (s.rf.length : Int) ∧ (0 < s.full ∨ 0 < s.refr)
     · rw [if_pos hh, if_pos (e9.2 hh)]
       unfold chL wY
       rw [if_pos rfl]
       exact Lk.rfl' _
     · rw [if_neg hh, if_neg (fun k => hh (e9.1 k))]
       exact Lk.rfl' _
open Go.RowKit
variable {G : Nat → AV}
@[reducible] def wrV (s : Sn) (R : AV) (m w : Int) (h : Hd) : List AV := [.bool s.act, iAV s.full, iAV s.refr, iAV s.ser, iAV s.sin, iAV s.lng, iAV s.dy.st, iAV s.dy.fo, R, iAV m, iAV w, iAV h.k, iAV h.tos, iAV h.id, iAV h.fx, iAV h.ttl, iAV h.fr, iAV h.to, iAV h.fp, iAV h.tp, iAV h.ck, iAV h.mr, iAV h.ty, iAV h.sq, iAV h.tm, iAV h.sr]
theorem lst_idx {n : Nat} (h : 0 < n) (h2 : n ≤ 100000) : (q7 .sub .i64 (n : Int) 1).toNat * 15 = (n - 1) * 15 := by
 congr 1
 (exact T.num)
theorem lst_side {l : List Hd} (h : 0 < l.length) (h2 : l.length ≤ 100000) : 0 + (q7 .sub .i64 (l.length : Int) 1).toNat * 15 + 15 ≤ (l.flatMap Hd.cs).length := by
 rw [lst_idx h h2, qr Hd.cs_len]
 omega
theorem jK (p q : Nm) (hne : p ≠ q) (s : Sn) (m w : Int) (hd : Hd) (hl : s.rf.length ≤ 100000) : LP Tryz.prog G 48 [.ptr p 0] [(p, ⟨86, wrV s (.vw q 0 s.rf.length 15) m w hd⟩), (q, ⟨50, s.rf.flatMap Hd.cs⟩)]
   (fun _ => (.tup [s.lst.av, .bool (decide (0 < s.rf.length))], [(p, ⟨86, wrV s (.vw q 0 s.rf.length 15) m w hd⟩), (q, ⟨50, s.rf.flatMap Hd.cs⟩)])) := by
 by_cases h0 : 0 < s.rf.length
 · rw [decide_eq_true h0]
   refine goW [] Tryz.func48 rfl ?_
   conv => whnf
   repeat' ((first | (refine And.intro ?_ ?_; (focus (first | exact lst_side h0 hl | exact T.kx | exact T.side))) | (show AC _ _ _; first | (refine AC.recd Hd.cs_len (s.rf.length - 1) Hd.z ((Nat.zero_add _).trans (lst_idx h0 hl)) rfl ?_ ?_; (focus omega))) | refine T.s ?_ | ((first | apply goB | apply AB.dec | apply AB.gen) <;> intro h <;> try (exfalso; omega)) | refine LQ.mk fun r => ?_ | exact T.z | fail) <;> conv => whnf)
   all_goals (try dsimp only)
   all_goals
     (show RL _ _ _; refine goR ?_)
     rfl
 · have e : s.rf = [] := List.eq_nil_of_length_eq_zero (by omega)
   have e2 : s.lst = Hd.z := by unfold Sn.lst; rw [e]; rfl
   rw [decide_eq_false h0, e2]
   refine goW [] Tryz.func48 rfl ?_
   conv => whnf
   repeat' ((first | refine T.s ?_ | ((first | apply goB | apply AB.dec | apply AB.gen) <;> intro h <;> try (exfalso; omega)) | refine LQ.mk fun r => ?_ | exact T.z | fail) <;> conv => whnf)
   all_goals (try dsimp only)
   all_goals
     (show RL _ _ _; refine goR ?_)
     rfl
theorem xT (p : Nm) (s : Sn) (R : AV) (m w : Int) (hd : Hd) (f : Int) : LP Tryz.prog G 101 [.ptr p 0, iAV f] [(p, ⟨86, wrV s R m w hd⟩)] (fun _ => (.tup [], [(p, ⟨86, wrV (zo w s f) R m w hd⟩)])) := by
 by_cases hf : f = 5
 · rw [show zo w s f = { s with full := w, refr := 0 } from if_pos hf]
   refine goW [] Tryz.func101 rfl ?_
   conv => whnf
   repeat' ((first | refine T.s ?_ | ((first | apply goB | apply AB.dec | apply AB.gen) <;> intro h <;> try (exfalso; omega)) | refine LQ.mk fun r => ?_ | exact T.z | fail) <;> conv => whnf)
   all_goals (try dsimp only)
   all_goals
     (show RL _ _ _; refine goR ?_)
     rfl
 · rw [show zo w s f = { s with refr := w, lng := 0 } from if_neg hf]
   refine goW [] Tryz.func101 rfl ?_
   conv => whnf
   repeat' ((first | refine T.s ?_ | ((first | apply goB | apply AB.dec | apply AB.gen) <;> intro h <;> try (exfalso; omega)) | refine LQ.mk fun r => ?_ | exact T.z | fail) <;> conv => whnf)
   all_goals (try dsimp only)
   all_goals
     (show RL _ _ _; refine goR ?_)
     rfl
section
variable {P : Program} {l : LS}
theorem LC.many {f : FuncId} {args : List AV} {ps : LS} {post : Nm → AV × LS} {K : AV → LS → Prop} (hs : (ps.map (·.1)).Nodup → LP P G f args ps post) (h : LTake l ps fun r => LQ fun q => K (post q).1 ((post q).2 ++ r)) : LC P G f args l K := ⟨fun φ hsp => by
 obtain ⟨r, -, -, -, h4, -⟩ := LTake.sound h hsp
 exact (LC.mk' (hs h4) [] (.refl _) h).run φ hsp⟩
end
theorem wg (a b p q : Nm) (s : Sn) (n : Nat) (hs : s.rf.length = n) (m w : Int) (last hd : Hd) (hn : [a, b, p].Nodup) : LP Tryz.prog G 102 [.ptr a 0, .ptr b 0] [(a, ⟨84, [.ptr p 0]⟩), (b, ⟨50, last.cs⟩), (p, ⟨86, wrV s (.vw q 0 n 15) m w hd⟩)]
   (fun _ => (.tup [], [(a, ⟨84, [.ptr p 0]⟩), (b, ⟨50, last.cs⟩), (p, ⟨86, wrV (chL last hd s) (.vw q 0 n 15) m w hd⟩)])) := by
 subst hs
 refine goW [] Tryz.func102 rfl ?_
 conv => whnf
 repeat' ((first | exact Nm.b 0 | (show LC _ _ _ _ _ _; first | refine LC.pure (ku _ _) ?_ | refine goE ?_) | refine T.s ?_ | ((first | apply goB | apply AB.dec | apply AB.gen) <;> intro h <;> try (exfalso; omega)) | refine LQ.mk fun r => ?_ | (show SQ _ _ _ _ _ _ _; first | refine gX 0 [] [0, 1, 2, 3, 4, 5, 6, 7, 8, 9, 10] [p] ?_ | refine gX 1 [0, 6] [0, 1, 2, 3, 4, 5, 6, 7, 8, 9, 10] [p] ?_) | exact T.z | fail) <;> conv => whnf)
 all_goals (try dsimp only)
 all_goals
   (show RL _ _ _; refine goR ?_)
   rfl
theorem wlearn_n (a b p : Nm) (s : Sn) (hs : s.rf = []) (m w : Int) (last hd : Hd) (hn : [a, b, p].Nodup) : LP Tryz.prog G 102 [.ptr a 0, .ptr b 0] [(a, ⟨84, [.ptr p 0]⟩), (b, ⟨50, last.cs⟩), (p, ⟨86, wrV s .nils m w hd⟩)]
   (fun _ => (.tup [], [(a, ⟨84, [.ptr p 0]⟩), (b, ⟨50, last.cs⟩), (p, ⟨86, wrV (chL last hd s) .nils m w hd⟩)])) := by
 unfold chL
 rw [hs]
 refine goW [] Tryz.func102 rfl ?_
 conv => whnf
 repeat' ((first | exact Nm.b 0 | (show LC _ _ _ _ _ _; first | refine LC.pure (ku _ _) ?_ | refine goE ?_) | refine T.s ?_ | ((first | apply goB | apply AB.dec | apply AB.gen) <;> intro h <;> try (exfalso; omega)) | refine LQ.mk fun r => ?_ | (show SQ _ _ _ _ _ _ _; first | refine gX 0 [] [0, 1, 2, 3, 4, 5, 6, 7, 8, 9, 10] [p] ?_ | refine gX 1 [0, 6] [0, 1, 2, 3, 4, 5, 6, 7, 8, 9, 10] [p] ?_) | exact T.z | fail) <;> conv => whnf)
 all_goals (try dsimp only)
 all_goals
   (show RL _ _ _; refine goR ?_)
   rfl
open Go.RowKit
variable {G : Nat → AV}
theorem LC.possL {x : Sn} {hd : Hd} {f : Int} {rf : List Hd} {p : Nm} {l : LS} {K : AV → LS → Prop} (hf : f = 1 ∨ f = 2 ∨ f = 3) (hr : x.rf = rf) (hl : rf.length ≤ 100000) (hp : LH l p fun c _ _ => c.cs = rf.flatMap Hd.cs) (k : K (.bool (qU x hd f)) l) :
   LC Tryz.prog G 60 [.agg (x.cv (.vw p 0 rf.length 15)), hd.av, .int .i64 f] l K := by
 subst hr
 exact LC.lend (r9poss_c x hd f hf hl) [p] ⟨LF.agg (xs := x.cv (.vw p 0 x.rf.length 15)) (ys := x.cs) ⟨.eq rfl, .eq rfl, .eq rfl, .eq rfl, .eq rfl, .eq rfl, .eq rfl, .eq rfl, LF.row InL.here (LH.mono hp fun c _ _ e => ⟨by decide, by rw [e]; exact qr Hd.cs_len _, rfl, e.symm⟩), trivial⟩, .eq rfl, .eq rfl, trivial⟩ (Flat.bool _) k
theorem xa {n : Nat} (h : 0 < n ∧ n ≤ 32) : 0 + (q7 .sub .i64 (n : Int) 1).toNat * 15 = (n - 1) * 15 := by
 have : q7 .sub .i64 (n : Int) 1 = ((n - 1 : Nat) : Int) := by (exact T.num)
 rw [this]; omega
theorem kc {l : List Hd} (h : 0 < l.length ∧ l.length ≤ 32) : 0 + (q7 .sub .i64 (l.length : Int) 1).toNat * 15 + 15 ≤ (l.flatMap Hd.cs).length := by
 rw [xa h, qr Hd.cs_len]
 omega
theorem AC.lstc {s : Sn} {o m : Nat} {K : AV → Prop} (ho : o = (s.rf.length - 1) * 15) (hm : m = 15) (h : 0 < s.rf.length) (k : K (.agg s.lst.cs)) : AC true (((s.rf.flatMap Hd.cs).drop o).take m) K := AC.recd Hd.cs_len (s.rf.length - 1) Hd.z ho hm (by omega) k
theorem yq (x y : Nm) : n0 [x, y] = x := rfl
theorem yp (x y : Nm) : n1 [x, y] = y := rfl
theorem csA_k1 {w : Int} {s : Sn} {h : Hd} (ha : s.act = true) (h1 : xN s.lst h = 0) (h2 : ¬ s.lng = 3) : (s, false) = csA w s h := csA_k ha h1 fun hh => h2 hh.1
theorem alq {a d : Dy} : qJ [(a.st, d.st), (a.fo, d.fo)] = decide (a = d) := Dy.eqs a d
theorem csA_k2 {w : Int} {s : Sn} {h : Hd} (ha : s.act = true) (h1 : xN s.lst h = 0) (_ : s.lng = 3) (h3 : qJ [((qN s.lst h).st, s.dy.st), ((qN s.lst h).fo, s.dy.fo)] = true) : (s, false) = csA w s h :=
 csA_k ha h1 fun hh => hh.2 (by rw [alq] at h3; exact of_decide_eq_true h3)
theorem csA_f2 {w : Int} {s : Sn} {h : Hd} (ha : s.act = true) (h2 : s.lng = 3) (h3 : qJ [((qN s.lst h).st, s.dy.st), ((qN s.lst h).fo, s.dy.fo)] = false) (h4 : 0 < s.full) : ({ s with lng := 0, full := w }, true) = csA w s h :=
 csA_f ha (.inr ⟨h2, by rw [alq] at h3; exact of_decide_eq_false h3⟩) h4
theorem csA_r2 {w : Int} {s : Sn} {h : Hd} (ha : s.act = true) (h2 : s.lng = 3) (h3 : qJ [((qN s.lst h).st, s.dy.st), ((qN s.lst h).fo, s.dy.fo)] = false) (h4 : ¬ 0 < s.full) : ({ s with lng := 0, refr := w }, true) = csA w s h :=
 csA_r ha (.inr ⟨h2, by rw [alq] at h3; exact of_decide_eq_false h3⟩) h4
section
variable {m w : Int} {x y u v s : Sn} {bg bh had : Bool} {X Y : Sn × Bool} {U : Sn} {last h : Hd} {rf : List Hd} {f : Int}
theorem csB_q1 (e : (x, bg) = X) (h1 : ¬ (m = 1 ∧ x.sin = 32 ∧ x.full = 0)) : (x, bg) = csB m w X := e ▸ csB_n h1
theorem csB_q2 (e : (x, bg) = X) (h1 : m = 1) (h2 : x.sin = 32) (h3 : x.full = 0) : ({ x with full := w, refr := 0 }, true) = csB m w X := e ▸ csB_y h1 h2 h3
theorem csD_q1 (e : (y, bh) = Y) (er : y.rf = rf) (h1 : bh = true) : ({ y with ser := rf.length, dy := xi last had h } : Sn) = csD last had h Y := by subst er; exact e ▸ csD_y (.inl h1)
theorem csD_q2 (e : (y, bh) = Y) (er : y.rf = rf) (h1 : y.ser = (rf.length : Int)) (h2 : 0 < y.full) : ({ y with ser := rf.length, dy := xi last had h } : Sn) = csD last had h Y := by subst er; exact e ▸ csD_y (.inr ⟨h1, .inl h2⟩)
theorem csD_q3 (e : (y, bh) = Y) (er : y.rf = rf) (h1 : y.ser = (rf.length : Int)) (h2 : 0 < y.refr) : ({ y with ser := rf.length, dy := xi last had h } : Sn) = csD last had h Y := by subst er; exact e ▸ csD_y (.inr ⟨h1, .inr h2⟩)
theorem csD_q4 (e : (y, bh) = Y) (er : y.rf = rf) (h0 : bh = false) (h1 : ¬ y.ser = (rf.length : Int)) : y = csD last had h Y := by subst er; exact e ▸ csD_n fun hh => by rcases hh with hh | hh; rw [h0] at hh; cases hh; exact h1 hh.1
theorem csD_q5 (e : (y, bh) = Y) (h0 : bh = false) (h1 : ¬ 0 < y.full) (h2 : ¬ 0 < y.refr) : y = csD last had h Y := e ▸ csD_n fun hh => by rcases hh with hh | hh; rw [h0] at hh; cases hh; rcases hh.2 with h3 | h3; exact h1 h3; exact h2 h3
theorem csE_q5 (e : u = U) (h1 : 0 < u.full) : (u, (5 : Int)) = csE w last had h U := e ▸ csE_5 h1
theorem csE_q4 (e : u = U) (h1 : ¬ 0 < u.full) (h2 : 0 < u.refr) : (u, (4 : Int)) = csE w last had h U := e ▸ csE_4 h1 h2
theorem csE_qf (e : u = U) (h1 : ¬ 0 < u.full) (h2 : ¬ 0 < u.refr) (h3 : qT u h f) (h4 : f ≤ 3) (h5 : qU u h f = true) : (u, f) = csE w last had h U := e ▸ csE_f h1 h2 h3 h4 h5
theorem csE_qr (e : u = U) (er : u.rf = rf) (h1 : ¬ 0 < u.full) (h2 : ¬ 0 < u.refr) (h3 : qT u h f) (h4 : ¬ f ≤ 3) : (({ ({ u with refr := w, lng := 0 } : Sn) with ser := rf.length, dy := xi last had h } : Sn), (4 : Int)) = csE w last had h U := by subst er; exact e ▸ csE_r h1 h2 h3 h4
theorem wM (h3 : qT u h f) (h4 : f ≤ 3) : f = 1 ∨ f = 2 ∨ f = 3 := by have := h3.1; omega
theorem jz (h3 : qT u h f) (h4 : f ≤ 3) : 1 ≤ f ∧ f ≤ 5 := by have := h3.1; omega
theorem j1 (h3 : qT u h f) : q7 .add .i64 f 1 = f + 1 := by have h1 := h3.1; have h2 := h3.2.1; clear h3; (exact T.num)
theorem j0 (h3 : qT u h f) : (5 - (f + 1)).toNat < (5 - f).toNat := by have h1 := h3.1; have h2 := h3.2.1; omega
theorem rfB (hw : 1 ≤ w) (hs : s.ok m w = true) (hh : s.act = true → qt s.fst h = true) (e : (y, bh) = csB m w (csA w s h)) : y.rf = s.rf := by
 have h1 := vh (m := m) hw hs hh
 have h2 := vg hw h1.1 h1.2.1
 have := congrArg (fun x => x.1.rf) e
 exact this.trans (h2.2.2.trans h1.2.2)
theorem rfD (hw : 1 ≤ w) (hs : s.ok m w = true) (hh : s.act = true → qt s.fst h = true) (e : u = csD last had h (csB m w (csA w s h))) : u.rf = s.rf := by
 have h1 := vh (m := m) hw hs hh
 have h2 := vg hw h1.1 h1.2.1
 have h3 : (csD last had h (csB m w (csA w s h))).rf = (csB m w (csA w s h)).1.rf := by unfold csD wY; split <;> rfl
 rw [e, h3, h2.2.2, h1.2.2]
theorem midE (hw : 1 ≤ w) (hs : s.ok m w = true) (hh : s.act = true → qt s.fst h = true) (h32 : ¬ (m = 3 ∧ (s.rf.length : Int) = 32)) (e : (v, f) = csE w s.lst s.act h (csD s.lst s.act h (csB m w (csA w s h)))) :
   Mid m w h v ∧ (1 ≤ f ∧ f ≤ 5) ∧ (f = 5 → 0 < v.full) ∧ (f = 4 → 0 < v.refr) ∧ v.rf = s.rf := by
 have hl := lst_k hs hh
 have h1 := vh (m := m) hw hs hh
 have h2 := vg hw h1.1 h1.2.1
 have hC : csC m w s.rf.length (csB m w (csA w s h)) = csB m w (csA w s h) := by unfold csC; rw [if_neg (by omega)]
 have h3 := csD_mid (n := s.rf.length) (last := s.lst) (had := s.act) hw (by rw [h2.2.2, h1.2.2]) h2.1 h2.2.1 hl
 rw [hC] at h3
 have h4 := csE_mid (last := s.lst) (had := s.act) (u := h) hw h3.1 hl
 rw [← e] at h4
 exact ⟨h4.1, h4.2.1, h4.2.2.1.1, h4.2.2.2.1.1, h4.2.2.2.2.trans (rfD hw hs hh rfl)⟩
end
theorem zc {a : Int} (h : 0 ≤ a ∧ a ≤ 32) : (if false = true then (if q7 .add .i64 a 1 < 32 then 32 else q7 .add .i64 a 1) else if 32 < q7 .add .i64 a 1 then 32 else q7 .add .i64 a 1) = min (a + 1) 32 := by
 have e : q7 .add .i64 a 1 = a + 1 := by (exact T.num)
 rw [e, if_neg (by decide)]
 split <;> omega
theorem x8 {a : Int} (h : 0 ≤ a ∧ a ≤ 3) : (if false = true then (if q7 .add .i64 a 1 < 3 then 3 else q7 .add .i64 a 1) else if 3 < q7 .add .i64 a 1 then 3 else q7 .add .i64 a 1) = min (a + 1) 3 := by
 have e : q7 .add .i64 a 1 = a + 1 := by (exact T.num)
 rw [e, if_neg (by decide)]
 split <;> omega
theorem zu {a w : Int} (h : 0 ≤ a ∧ a ≤ w) (hw : w ≤ 8) : q7 .sub .i64 a 1 = a - 1 := by (exact T.num)
theorem kI (l : List Hd) : 0 + l.length * 15 ≤ (l.flatMap Hd.cs).length := by rw [qr Hd.cs_len]; omega
theorem vt (l : List Hd) (h : Hd) {n : Nat} (hn : n = l.length * 15) : List.take n (List.drop 0 (l.flatMap Hd.cs)) ++ h.cs = (l ++ [h]).flatMap Hd.cs := by
 rw [List.drop_zero, List.take_of_length_le (by rw [qr Hd.cs_len]; omega), List.flatMap_append]
 simp
theorem LTo.comp {c : Co} {i0 : Nat} (s' : Sn) {R r : Nm} {off n : Nat} {L : List Hd} {m l : LS} (ys : List AV) (hi : i0 < c.cx.length) (hn : n = s'.rf.length) (hL : s'.rf.flatMap Hd.cs = ((L.flatMap Hd.cs).drop off).take (n * 15)) (hb : off + n * 15 ≤ L.length * 15) (hy : ys = s'.cv (.vw r off n 15))
   (hr : LH l r fun cc _ _ => cc.cs = L.flatMap Hd.cs) (h : LH l R fun cc s _ => cc.cs = (List.range i0).flatMap (fun k => (c.at k).cs) ++ (ys ++ frs c (i0 + 1) c.cx.length) ∧ LEra (s ⟨cc.ty, (c.cx.set i0 s').flatMap Sn.cs⟩) [r] (LB m)) : LTo m l := by
 refine LTo.frz R [r] ((c.cx.set i0 s').flatMap Sn.cs) (LH.mono h fun cc s _ hh => ⟨?_, hh.2⟩)
 rw [hh.1, set_fm c i0 hi s', hy]
 refine LFs.app (LFs.same _) (LFs.app ⟨.eq rfl, .eq rfl, .eq rfl, .eq rfl, .eq rfl, .eq rfl, .eq rfl, .eq rfl, LF.part InL.here (LH.mono hr fun cc _ _ e => ⟨by decide, by rw [e, qr Hd.cs_len]; exact hb, hn.symm, by rw [e]; exact hL⟩), trivial⟩ (LFs.same _))
section
variable {l : List Hd} {h : Hd} {X : Int} {k : Nat}
theorem over_n (hX : X = (k : Int)) : ((l.length + 1 : Nat) : Int).toNat - X.toNat = ((l ++ [h]).drop k).length := by subst hX; simp
theorem over_L (hX : X = (k : Int)) : ((l ++ [h]).drop k).flatMap Hd.cs = (((l ++ [h]).flatMap Hd.cs).drop (0 + X.toNat * 15)).take ((((l.length + 1 : Nat) : Int).toNat - X.toNat) * 15) := by
 subst hX
 rw [Nat.zero_add, kP Hd.cs_len, Int.toNat_natCast, List.take_of_length_le (by rw [qr Hd.cs_len]; simp)]
 rfl
theorem over_b (hX : X = (k : Int)) (hk : k ≤ l.length) : 0 + X.toNat * 15 + (((l.length + 1 : Nat) : Int).toNat - X.toNat) * 15 ≤ (l ++ [h]).length * 15 := by subst hX; simp; omega
theorem max0 {a b e : Int} (h : q7 .sub .i64 a b = e) : (if true = true then (if 0 < q7 .sub .i64 a b then q7 .sub .i64 a b else 0) else (if q7 .sub .i64 a b < 0 then q7 .sub .i64 a b else 0)) = max 0 e := by
 rw [h, if_pos rfl]
 split <;> omega
theorem ser_e {a b e : Int} (h : 0 ≤ a ∧ a ≤ 1000) (hb : b = e) (he : 0 ≤ e ∧ e ≤ 1000) : q7 .sub .i64 a b = a - e := by subst hb; (exact T.num)
end
section
variable {m w : Int} {v : Sn} {h : Hd} {f : Int}
theorem csF_n (hc : ¬ (m ≠ 3 ∧ w < (v.rf.length : Int) + 1)) : csF m w h v f = { yA m h v f with rf := v.rf ++ [h] } := by unfold csF yA; rw [if_neg hc, if_neg hc]
theorem csF_o (hc : m ≠ 3 ∧ w < (v.rf.length : Int) + 1) : csF m w h v f = { yA m h v f with ser := max 0 (v.ser - ((v.rf.length : Int) + 1 - w)), rf := (v.rf ++ [h]).drop ((v.rf.length : Int) + 1 - w).toNat } := by unfold csF yA; rw [if_pos hc, if_pos hc]
end
section
variable {P : Program} {G : Nat → AV}
theorem LP.data {f : FuncId} {args : List AV} {v : Nm → AV} {c : Nm → Pl} {v' : AV} (h : LP P G f args [] (fun q => (v q, [(q, c q)]))) (hf : ∀ q, LF [(q, c q)] [q] (v q) v') : LP P G f args [] (fun _ => (v', [])) := by
 unfold LP at h ⊢
 refine ⟨h.1, fun q => ⟨by simp, by simp⟩, fun τ w vs h1 h2 h3 h4 h5 => (h.2.2 τ w vs h1 h2 h3 h4 h5).mono ?_⟩
 rintro e w' ⟨u, q, k1, k2, k3, k4, k5, k6⟩
 have hs : Sep τ [(q, c q)] := ⟨by simp, fun x hx => by simp at hx; subst hx; exact k2⟩
 have hz := (hf q).run τ hs
 have e1 : eraN (pQ τ [(q, c q)]) [q] = τ := by
   funext y
   show era (Go.Proofs.YtbagbjacmakfhaaGreatDoor.upd τ q (c q)) q y = τ y
   by_cases hy : y = q
   · subst hy; rw [qV]; exact k2.symm
   · rw [qZ _ hy, qk _ _ hy]
 have k4 : Rd (pQ τ [(q, c q)]) w' (v q) u := k4
 have k5 : Mem (pQ τ [(q, c q)]) w' := k5
 have k6 : Stp τ w (pQ τ [(q, c q)]) w' := k6
 have a1 := hz.sound k5 k4
 have a2 := k5.forget (xE (pQ τ [(q, c q)]) [q])
 have a3 := k6.trans (Stp.forget _ (eraN (pQ τ [(q, c q)]) [q]) w' fun b hb => qE _ [q] hb)
 rw [e1] at a1 a2 a3
 exact ⟨u, q, k1, k2, by simp, a1, a2, a3⟩
end
def cpo (c : Co) (y : List UInt8) (q : Nm) : AV × LS := (.tup [.agg [iAV c.m, iAV c.w, .vw q 0 c.cx.length 9], bv y, iAV 0], [(q, ⟨61, c.cx.flatMap Sn.cs⟩)])
theorem cpo_lf (c : Co) (y : List UInt8) (q : Nm) : LF (cpo c y q).2 [q] (cpo c y q).1 (cpr ((c, y), 0)) :=
 LF.tup (xs := [.agg [iAV c.m, iAV c.w, .vw q 0 c.cx.length 9], bv y, iAV 0]) (ys := [c.av, bv y, iAV 0]) ⟨LF.agg (xs := [iAV c.m, iAV c.w, .vw q 0 c.cx.length 9]) (ys := [iAV c.m, iAV c.w, snv c.cx]) ⟨.eq rfl, .eq rfl, LF.row InL.here (.here ⟨by decide, qr Sn.cs_len _, rfl, rfl⟩), trivial⟩, .eq rfl, .eq rfl, trivial⟩
theorem RL.cpo {c : Co} {y : List UInt8} {R : Nm} {n : Nat} {l : LS} (hn : n = c.cx.length) (h : LH l R fun cc _ _ => cc = ⟨61, c.cx.flatMap Sn.cs⟩) : RL (fun q => cpo c y q) (.tup [.agg [.int .i64 c.m, .int .i64 c.w, .vw R 0 n 9], bv y, .int .i64 0]) l := by
 subst hn
 obtain ⟨l1, cc, l2, rfl, rfl⟩ := h.ex
 exact RL.own R rfl ⟨l1, _, l2, rfl, trivial⟩ (LB.cons ⟨l1, _, l2, rfl, rfl, LB.nil⟩)
theorem comp_end {c : Co} {i0 : Nat} {hd : Hd} {pl : List UInt8} {v : Sn} {f : Int} (h32 : ¬ (c.m = 3 ∧ ((c.at i0).rf.length : Int) = 32)) (e : (v, f) = csE c.w (c.at i0).lst (c.at i0).act hd (csD (c.at i0).lst (c.at i0).act hd (csB c.m c.w (csA c.w (c.at i0) hd)))) :
   qS c i0 hd pl = (c.set i0 (csF c.m c.w hd v f), (zd (qz v.dy i0 f hd pl)).1) := by
 have hC : csC c.m c.w (c.at i0).rf.length (csB c.m c.w (csA c.w (c.at i0) hd)) = csB c.m c.w (csA c.w (c.at i0) hd) := by unfold csC; rw [if_neg (by omega)]
 have h2 : xd c.m c.w (c.at i0) hd = (v, f) := by unfold xd; rw [hC, e]
 unfold qS
 rw [h2]
theorem leastF_4 {u : Sn} {h : Hd} {f : Int} (h3 : qT u h f) (h4 : ¬ f ≤ 3) : f = 4 := by have h1 := h3.2.1; omega
theorem rf_all (l : List Hd) (h : Hd) : (l ++ [h]).flatMap Hd.cs = (((l ++ [h]).flatMap Hd.cs).drop 0).take ((l.length + 1) * 15) := by
 rw [List.drop_zero, List.take_of_length_le (by rw [qr Hd.cs_len]; simp)]
def fA (m : Int) (v : Sn) (f : Int) : Sn := { v with full := if m ≠ 3 ∧ f = 5 then v.full - 1 else v.full, refr := if m ≠ 3 ∧ f = 4 then v.refr - 1 else v.refr }
theorem fA_5 {m : Int} {v : Sn} {f : Int} (hm : ¬ m = 3) (h : f = 5) : ({ v with full := v.full - 1 } : Sn) = fA m v f := by unfold fA; rw [if_pos ⟨hm, h⟩, if_neg (by omega)]
theorem fA_4 {m : Int} {v : Sn} {f : Int} (hm : ¬ m = 3) (h : f = 4) : ({ v with refr := v.refr - 1 } : Sn) = fA m v f := by unfold fA; rw [if_neg (by omega), if_pos ⟨hm, h⟩]
theorem fA_0 {m : Int} {v : Sn} {f : Int} (h5 : ¬ (m ≠ 3 ∧ f = 5)) (h4 : ¬ (m ≠ 3 ∧ f = 4)) : v = fA m v f := by unfold fA; rw [if_neg h5, if_neg h4]
theorem w5 {m : Int} {h : Hd} {v : Sn} {f : Int} : (yA m h v f).dy = v.dy ∧ (yA m h v f).ser = v.ser ∧ (yA m h v f).rf = v.rf := ⟨rfl, rfl, rfl⟩
end Go.Proofs.YtbagbjacmakfhaaGreatDoor
