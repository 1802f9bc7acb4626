/-
  Contracts of the functions that the laws reach.
-/
import Derived.Test.YtbagbjacmakfhaaGreatDoorCq01
import Derived.Test.YtbagbjacmakfhaaGreatDoorCq02
import Derived.Test.YtbagbjacmakfhaaGreatDoorCq03
import Derived.Test.YtbagbjacmakfhaaGreatDoorCq04
import Derived.Test.YtbagbjacmakfhaaGreatDoorCq05
import Derived.Test.YtbagbjacmakfhaaGreatDoorCq06
import Derived.Test.YtbagbjacmakfhaaGreatDoorCq09
import Derived.Test.YtbagbjacmakfhaaGreatDoorCq10
import Derived.Test.YtbagbjacmakfhaaGreatDoorCq13
import Derived.Test.YtbagbjacmakfhaaGreatDoorCq14
import Derived.Test.YtbagbjacmakfhaaGreatDoorCq15
import Derived.Test.YtbagbjacmakfhaaGreatDoorCq16
import Derived.Test.YtbagbjacmakfhaaGreatDoorCq18
import Derived.Test.YtbagbjacmakfhaaGreatDoorCq22
import Derived.Test.YtbagbjacmakfhaaGreatDoorCq24
set_option maxHeartbeats 16000000
set_option linter.all false
namespace Go.Proofs.YtbagbjacmakfhaaGreatDoor
open Go.RowKit
variable {G : Nat → AV}
theorem comp_new {c : Co} {i0 : Nat} {hd : Hd} (pl : List UInt8) {F : Int} (hc : c.ok = true) (hi : i0 < c.cx.length) (hW : 1 ≤ c.m ∧ c.m ≤ 3 ∧ 1 ≤ c.w ∧ c.w ≤ 8) (ha : (c.at i0).act = false) (hF : F = if c.m ≠ 3 then c.w - 1 else c.w) :
   qS c i0 hd pl = (c.set i0 { (c.at i0) with act := true, full := F, ser := (c.at i0).rf.length, sin := 0, lng := 0, dy := xi Hd.z (c.at i0).act hd, rf := (c.at i0).rf ++ [hd] }, (zd (qz (xi Hd.z (c.at i0).act hd) i0 5 hd pl)).1) := by
 subst hF
 obtain ⟨a1, a2, a3, a4, a5, a6, a7⟩ := ye (co_sn hc i0 hi) ha
 have eA : csA c.w (c.at i0) hd = ({ (c.at i0) with act := true, full := c.w }, true) := by unfold csA; rw [if_pos ha]
 have eB : csB c.m c.w ({ (c.at i0) with act := true, full := c.w }, true) = (({ (c.at i0) with act := true, full := c.w } : Sn), true) := by
   unfold csB; rw [if_neg]; dsimp only; omega
 have eC : csC c.m c.w (c.at i0).rf.length (({ (c.at i0) with act := true, full := c.w } : Sn), true) = (({ (c.at i0) with act := true, full := c.w } : Sn), true) := by
   unfold csC; rw [if_neg]; rw [a7]; simp
 have eD : csD (c.at i0).lst (c.at i0).act hd (({ (c.at i0) with act := true, full := c.w } : Sn), true) = { (c.at i0) with act := true, full := c.w, ser := (c.at i0).rf.length, dy := Dy.z } := by
   rw [← csD_y (.inl rfl)]; unfold wY; rw [ha]; rfl
 have eE : xd c.m c.w (c.at i0) hd = ({ (c.at i0) with act := true, full := c.w, ser := (c.at i0).rf.length, dy := Dy.z }, 5) := by
   unfold xd; rw [eA, eB, eC, eD, ← csE_5 (by dsimp only; omega)]
 have eG : xi Hd.z (c.at i0).act hd = Dy.z := by rw [ha]; rfl
 unfold qS
 rw [eE, eG]
 dsimp only
 rw [csF_n (by dsimp only; rw [a7]; simp; omega)]
 unfold yA
 dsimp only
 rw [if_neg (show ¬ (c.m ≠ 3 ∧ (5 : Int) = 4) by omega), if_pos rfl, if_neg (show ¬ (((5 : Int) = 2 ∨ (5 : Int) = 3) ∧ hd.k = 2) by omega)]
 simp
theorem ECps13_1 {p : Prop} (h : p := by (repeat' first | exact trivial | (refine And.intro ?_ ?_) | exact LB.nil | (with_reducible exact LB.refl) | (apply LB.cons; (repeat first | refine goH ?_ | apply LH.here | apply LH.next); refine And.intro ?_ ?_; (focus (try (first | (with_reducible rfl) | (refine congrArg (Pl.mk _) ?_; (first | rfl | (simp; done))) | rfl | (with_reducible refine congrArg (Pl.mk _) ?_))))) | (with_reducible assumption) | fail | (show (_ : AV) = _; (first | (focus (apply Eq.trans; (conv => lhs; whnf); (conv => rhs; whnf); done)) | rfl | ((conv => lhs; whnf); first | rfl | (refine congrArg (AV.int _) ?_; (exact T.num)) | (refine congrArg AV.bool ?_; (exact T.num)) | (refine vwc ?_; first | (exact T.num) | (first | rfl | (simp; done))) | (refine qc ?_ ?_ <;> first | (exact T.num) | (first | rfl | (simp; done))) | (first | rfl | (simp; done))))) | ((with_reducible first | (show (_ : Int) ≤ _) | (show (_ : Int) < _) | (show (_ : Nat) ≤ _) | (show (_ : Nat) < _) | (show (_ : Int) = _) | (show (_ : Nat) = _)); (exact T.num)) | (first | rfl | (simp; done))); first | done | fail) : p := h
theorem r9comp_new (c : Co) (b : List UInt8) (hd : Hd) (pl : List UInt8) (i0 : Nat) (hc : c.ok = true) (hb : ¬ (b = [] ∨ 1500 < b.length)) (hp : qg b = ((hd, pl), 0)) (hf : qP c.cx hd = some i0) (ha : (c.at i0).act = false) : LP Tryz.prog G 19 [c.av, bv b] [] (fun q => (.tup [.agg [iAV (qS c i0 hd pl).1.m, iAV (qS c i0 hd pl).1.w, .vw q 0 (qS c i0 hd pl).1.cx.length 9], bv (qS c i0 hd pl).2, iAV 0], [(q, ⟨61, (qS c i0 hd pl).1.cx.flatMap Sn.cs⟩)])) := by
 have hv := zf (G := G) c
 rw [hc] at hv
 have hb2 : ¬ (b.length : Int) = 0 := fun h => hb (.inl (List.eq_nil_of_length_eq_zero (by omega)))
 have hb3 : ¬ 1500 < (b.length : Int) := fun h => hb (.inr (by omega))
 obtain ⟨hi, hsn, hsm, -⟩ := zA hc hf
 have h16 := qY hc
 have hi : i0 < c.cx.length := by omega
 have hW := wc hc
 have hcp := zQ (G := G) c hc i0 (by omega)
 have hpr : LP Tryz.prog G 25 [bv b] [] (fun _ => (.tup [hd.av, bv pl, iAV 0], [])) := by
   have h1 := zX (G := G) b (by omega)
   rwa [hp] at h1
 have hfd := xz (G := G) c hc hd
 obtain ⟨a1, a2, a3, a4, a5, a6, a7⟩ := ye hsn ha
 have hl0 : (c.at i0).rf.length = 0 := by rw [a7]; rfl
 have hn2 : ¬ 0 < ((c.at i0).rf.length : Int) := by omega
 have h33 : ¬ ((c.at i0).rf.length : Int) = 32 := by omega
 have hs3 : ¬ (c.at i0).sin = 32 := by omega
 have hw0 : 0 < c.w := hW.2.2.1
 have hov : ¬ 0 < q7 .sub .i64 (((c.at i0).rf.length + 1 : Nat) : Int) c.w := by (exact T.num)
 have hw1 : q7 .sub .i64 c.w 1 = c.w - 1 := by (exact T.num)
 clear hb hp
 refine goW [65] Tryz.func19 rfl ?_
 conv => whnf
 repeat' ((first | (show LFreshN _ _; refine LFreshN.two fun R p => ?_; dsimp only [yq, yp, List.cons_append, List.nil_append]; conv => whnf) | (show LC _ _ _ _ _ _; refine LC.findL (c := c) (hd := hd) i0 hfd ?_ ?_; (focus ((repeat first | refine goH ?_ | apply LH.here | apply LH.next); refine ⟨_, rfl, ?_⟩; (repeat first | refine goH ?_ | apply LH.here | apply LH.next); rfl)); rw [hf, show j3 (some i0) = AV.tup [.int .i64 (i0 : Int), .bool true] from rfl]; conv => whnf) | (show LC _ _ 62 _ _ _; apply LC.upd (js { (c.at i0) with act := true, full := _, ser := (c.at i0).rf.length, sin := 0, lng := 0, dy := xi Hd.z (c.at i0).act hd } hd i0 5 pl (by decide) _ _ _ _); (repeat first | refine goH ?_ | apply LH.here | apply LH.next); refine ⟨rfl, ?_⟩) | (show AtC 65 _ _ _ _ _ _ _; first | (apply AtC.mkF (id := 65) (S := Sn × List UInt8 × Nm × Nm × Nm) ({ (c.at i0) with act := true, full := q7 .sub .i64 c.w 1, ser := (c.at i0).rf.length, sin := 0, lng := 0, dy := xi Hd.z (c.at i0).act hd, rf := (c.at i0).rf ++ [hd] }, (zd (qz (xi Hd.z (c.at i0).act hd) i0 5 hd pl)).1, _, _, R); (focus (refine And.intro ?_ (And.intro ?_ (And.intro ?_ ?_)); (focus exact ECps13_1); (focus (exact T.sm)); (focus (dsimp only; refine LTo.comp { (c.at i0) with act := true, full := q7 .sub .i64 c.w 1, ser := (c.at i0).rf.length, sin := 0, lng := 0, dy := xi Hd.z (c.at i0).act hd, rf := (c.at i0).rf ++ [hd] } (R := R) (r := r) (off := 0) (n := (c.at i0).rf.length + 1) (L := (c.at i0).rf ++ [hd]) _ hi (by simp) (rf_all _ _) (by simp) rfl ?_ ?_; (focus ((repeat first | refine goH ?_ | apply LH.here | apply LH.next); rfl)); (repeat first | refine goH ?_ | apply LH.here | apply LH.next); refine And.intro rfl ?_; (repeat first | refine goH ?_ | apply LH.here | apply LH.next); (repeat' first | exact LB.nil | (with_reducible exact LB.refl) | (apply LB.cons; (repeat first | refine goH ?_ | apply LH.here | apply LH.next); refine And.intro ?_ ?_; (focus (try (first | (with_reducible rfl) | (refine congrArg (Pl.mk _) ?_; (first | rfl | (simp; done))) | rfl | (with_reducible refine congrArg (Pl.mk _) ?_)))))))); (focus (exact comp_new pl hc hi hW ha (by rw [hw1, if_pos (by assumption)])))))) | (apply AtC.mkF (id := 65) (S := Sn × List UInt8 × Nm × Nm × Nm) ({ (c.at i0) with act := true, full := c.w, ser := (c.at i0).rf.length, sin := 0, lng := 0, dy := xi Hd.z (c.at i0).act hd, rf := (c.at i0).rf ++ [hd] }, (zd (qz (xi Hd.z (c.at i0).act hd) i0 5 hd pl)).1, _, _, R); (focus (refine And.intro ?_ (And.intro ?_ (And.intro ?_ ?_)); (focus exact ECps13_1); (focus (exact T.sm)); (focus (dsimp only; refine LTo.comp { (c.at i0) with act := true, full := c.w, ser := (c.at i0).rf.length, sin := 0, lng := 0, dy := xi Hd.z (c.at i0).act hd, rf := (c.at i0).rf ++ [hd] } (R := R) (r := r) (off := 0) (n := (c.at i0).rf.length + 1) (L := (c.at i0).rf ++ [hd]) _ hi (by simp) (rf_all _ _) (by simp) rfl ?_ ?_; (focus ((repeat first | refine goH ?_ | apply LH.here | apply LH.next); rfl)); (repeat first | refine goH ?_ | apply LH.here | apply LH.next); refine And.intro rfl ?_; (repeat first | refine goH ?_ | apply LH.here | apply LH.next); (repeat' first | exact LB.nil | (with_reducible exact LB.refl) | (apply LB.cons; (repeat first | refine goH ?_ | apply LH.here | apply LH.next); refine And.intro ?_ ?_; (focus (try (first | (with_reducible rfl) | (refine congrArg (Pl.mk _) ?_; (first | rfl | (simp; done))) | rfl | (with_reducible refine congrArg (Pl.mk _) ?_)))))))); (focus (exact comp_new pl hc hi hW ha (by rw [if_neg (fun k => k (by assumption))]))))))) | exact Nm.b 0 | (refine And.intro ?_ ?_; (focus (first | (with_reducible exact kI _) | exact T.kx | exact T.side))) | (show LC _ _ _ _ _ _; first | refine LC.pure (hv) ?_ | refine LC.mkN (hcp) [] (LFs.refl _) ?_ | refine LC.pure (hpr) ?_ | refine LC.pure (jq _) ?_ | (apply LC.upd (wt { (c.at i0) with act := true, full := c.w } Hd.z hd (c.at i0).act _ _ _ (by omega)); (repeat first | refine goH ?_ | apply LH.here | apply LH.next); refine ⟨rfl, ?_⟩) | refine goE ?_) | (show AC _ _ _; first | (refine AC.cpA (Nat.zero_add _) rfl hi ?_)) | (show AQ _ _; first | ((with_reducible show AQ (_ ++ _) _); refine AQ.eq (vt (c.at i0).rf hd rfl) ?_) | ((with_reducible show AQ (ql (cpR _ _ _ _) _ _) _); refine AQ.cpS (i0 := i0) (Nat.zero_add _) hi rfl ?_)) | refine T.s ?_ | ((first | apply goB | apply AB.dec | apply AB.gen) <;> intro h) | refine LQ.mk fun r => ?_ | refine LFreshN.two fun r r2 => ?_ | refine LFreshN.three fun r r2 r3 => ?_ | (show SQ _ _ _ _ _ _ _; first | refine gX 8 [0, 2] [0, 1, 2, 3, 4, 5] [] ?_ | refine gX 11 [0, 2] [0, 1, 2, 3, 4, 5] [] ?_ | refine gX 19 [2, 1] [0, 2, 1, 3, 4, 5] [] ?_ | refine gX 21 [0, 2] [0, 1, 2, 3, 4, 5] [] ?_ | (rename_i d0; refine gX 24 [1, 3] [0, 1, 2, 3, 4, 5, 6] [d0] ?_) | refine gX 25 [15, 13] [0, 1, 2, 3, 4, 5, 6, 7, 8, 9, 10, 11, 12, 14, 15, 13, 16, 17, 18, 19] [] ?_) | (show CutL _ _ _ _ _ _ _ _; first | (refine goK tQ [65] 65 (S := Sn × (List UInt8) × Nm × Nm × Nm) [] (fun (s, x, z, o, R) => ⟨[(21, bv x), (4, .ptr z 0), (7, .ptr o 0)], [(z, ⟨34, [iAV 0, iAV 0, .nils]⟩), (o, ⟨34, [iAV c.m, iAV c.w, .vw R 0 c.cx.length 9]⟩), (R, ⟨61, (c.cx.set i0 s).flatMap Sn.cs⟩)], qS c i0 hd pl = (c.set i0 s, x), 0⟩) ?_ ?_; (rintro ⟨s, x, z, o, R⟩ hok; (try dsimp only at hok)); rotate_left) | refine CutL.go tQ [65] ?_) | (show AtC 65 _ _ _ _ _ _ _; first | (apply AtC.mk' (id := 65) (S := Sn × (List UInt8) × Nm × Nm × Nm) ((NS, _, _, _, _)); focus (refine T.a4 ?_ ?_ ?_ <;> exact ECps13_1))) | (show (_ → _) ∧ (¬ _ → _); first | refine T.y ?_ | refine qm (fun h => ?_) (fun h => ?_)) | exact T.z | fail) <;> conv => whnf)
 all_goals (try dsimp only)
 all_goals first
   | (rw [hok]; refine RL.cpo ?_ ?_; (focus (simp [Co.set]; done)); (repeat first | refine goH ?_ | apply LH.here | apply LH.next); rfl)
   | trace_state
end Go.Proofs.YtbagbjacmakfhaaGreatDoor
