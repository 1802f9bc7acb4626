/-
  Contracts of the functions that the laws reach.
-/
import Derived.Test.YtbagbjacmakfhaaGreatDoorCq01
import Derived.Test.YtbagbjacmakfhaaGreatDoorCq02
import Derived.Test.YtbagbjacmakfhaaGreatDoorCq03
import Derived.Test.YtbagbjacmakfhaaGreatDoorCq04
import Derived.Test.YtbagbjacmakfhaaGreatDoorCq05
import Derived.Test.YtbagbjacmakfhaaGreatDoorCq06
import Derived.Test.YtbagbjacmakfhaaGreatDoorCq09
import Derived.Test.YtbagbjacmakfhaaGreatDoorCq10
import Derived.Test.YtbagbjacmakfhaaGreatDoorCq13
import Derived.Test.YtbagbjacmakfhaaGreatDoorCq14
import Derived.Test.YtbagbjacmakfhaaGreatDoorCq15
import Derived.Test.YtbagbjacmakfhaaGreatDoorCq16
import Derived.Test.YtbagbjacmakfhaaGreatDoorCq18
import Derived.Test.YtbagbjacmakfhaaGreatDoorCq22
import Derived.Test.YtbagbjacmakfhaaGreatDoorCq24
set_option maxHeartbeats 16000000
set_option linter.all false
namespace Go.Proofs.YtbagbjacmakfhaaGreatDoor
open Go.RowKit
variable {G : Nat → AV}
theorem comp_32 {c : Co} {i0 : Nat} {hd : Hd} (pl : List UInt8) (hc : c.ok = true) (hi : i0 < c.cx.length) (ha : (c.at i0).act = true) (hm : c.m = 3) (hn : ((c.at i0).rf.length : Int) = 32) (hw : 0 < c.w) :
   qS c i0 hd pl = (c.set i0 { (c.at i0) with full := c.w, refr := 0, ser := 0, sin := 0, lng := 0, dy := xi (c.at i0).lst (c.at i0).act hd, rf := [hd] }, (zd (qz (xi (c.at i0).lst (c.at i0).act hd) i0 5 hd pl)).1) := by
 obtain ⟨a, f, r, l, eA⟩ : ∃ a f r l, csA c.w (c.at i0) hd = (({ (c.at i0) with full := f, refr := r, lng := l } : Sn), a) := by
   unfold csA
   rw [if_neg (by rw [ha]; decide)]
   split
   · split
     · exact ⟨_, _, _, _, rfl⟩
     · exact ⟨_, _, _, _, rfl⟩
   · exact ⟨_, _, _, _, rfl⟩
 have eB : csB c.m c.w (({ (c.at i0) with full := f, refr := r, lng := l } : Sn), a) = (({ (c.at i0) with full := f, refr := r, lng := l } : Sn), a) := by
   unfold csB; rw [if_neg]; dsimp only; omega
 have eC : csC c.m c.w (c.at i0).rf.length (({ (c.at i0) with full := f, refr := r, lng := l } : Sn), a) = (({ (c.at i0) with full := c.w, refr := 0, lng := l, rf := [] } : Sn), true) := by
   unfold csC; rw [if_pos ⟨hm, by omega⟩]
 have eD : csD (c.at i0).lst (c.at i0).act hd (({ (c.at i0) with full := c.w, refr := 0, lng := l, rf := [] } : Sn), true) = { (c.at i0) with full := c.w, refr := 0, lng := l, rf := [], ser := 0, dy := xi (c.at i0).lst (c.at i0).act hd } := by
   rw [← csD_y (.inl rfl)]; rfl
 have eE : xd c.m c.w (c.at i0) hd = ({ (c.at i0) with full := c.w, refr := 0, lng := l, rf := [], ser := 0, dy := xi (c.at i0).lst (c.at i0).act hd }, 5) := by
   unfold xd; rw [eA, eB, eC, eD, ← csE_5 hw]
 unfold qS
 rw [eE]
 dsimp only
 rw [csF_n (by omega)]
 unfold yA
 dsimp only
 rw [if_neg (show ¬ (c.m ≠ 3 ∧ (5 : Int) = 5) by omega), if_neg (show ¬ (c.m ≠ 3 ∧ (5 : Int) = 4) by omega), if_pos rfl, if_neg (show ¬ (((5 : Int) = 2 ∨ (5 : Int) = 3) ∧ hd.k = 2) by omega)]
 simp
theorem kD {p : Prop} (h : p := by (repeat' first | exact trivial | (refine And.intro ?_ ?_) | exact LB.nil | (with_reducible exact LB.refl) | (apply LB.cons; (repeat first | refine goH ?_ | apply LH.here | apply LH.next); refine And.intro ?_ ?_; (focus (try (first | (with_reducible rfl) | (refine congrArg (Pl.mk _) ?_; (first | rfl | (simp; done))) | rfl | (with_reducible refine congrArg (Pl.mk _) ?_))))) | (with_reducible assumption) | fail | (show (_ : AV) = _; (first | (focus (apply Eq.trans; (conv => lhs; whnf); (conv => rhs; whnf); done)) | rfl | ((conv => lhs; whnf); first | rfl | (refine congrArg (AV.int _) ?_; (exact T.num)) | (refine congrArg AV.bool ?_; (exact T.num)) | (refine vwc ?_; first | (exact T.num) | (first | rfl | (simp; done))) | (refine qc ?_ ?_ <;> first | (exact T.num) | (first | rfl | (simp; done))) | (first | rfl | (simp; done))))) | ((with_reducible first | (show (_ : Int) ≤ _) | (show (_ : Int) < _) | (show (_ : Nat) ≤ _) | (show (_ : Nat) < _) | (show (_ : Int) = _) | (show (_ : Nat) = _)); (exact T.num)) | (first | rfl | (simp; done))); first | done | fail) : p := h
theorem r9comp_32 (c : Co) (b : List UInt8) (hd : Hd) (pl : List UInt8) (i0 : Nat) (hc : c.ok = true) (hb : ¬ (b = [] ∨ 1500 < b.length)) (hp : qg b = ((hd, pl), 0)) (hf : qP c.cx hd = some i0) (ha : (c.at i0).act = true) (hm : c.m = 3) (hn : ((c.at i0).rf.length : Int) = 32)
   (ho : ¬ sg 16 (c.at i0).lst.num hd.num < 1) (ho2 : ¬ 255 < sg 16 (c.at i0).lst.num hd.num) : LP Tryz.prog G 19 [c.av, bv b] [] (fun q => (.tup [.agg [iAV (qS c i0 hd pl).1.m, iAV (qS c i0 hd pl).1.w, .vw q 0 (qS c i0 hd pl).1.cx.length 9], bv (qS c i0 hd pl).2, iAV 0], [(q, ⟨61, (qS c i0 hd pl).1.cx.flatMap Sn.cs⟩)])) := by
 have hv := zf (G := G) c
 rw [hc] at hv
 have hb2 : ¬ (b.length : Int) = 0 := fun h => hb (.inl (List.eq_nil_of_length_eq_zero (by omega)))
 have hb3 : ¬ 1500 < (b.length : Int) := fun h => hb (.inr (by omega))
 obtain ⟨hi, hsn, hsm, -⟩ := zA hc hf
 have h16 := qY hc
 have hi : i0 < c.cx.length := by omega
 have hW := wc hc
 have hcp := zQ (G := G) c hc i0 (by omega)
 have hpr : LP Tryz.prog G 25 [bv b] [] (fun _ => (.tup [hd.av, bv pl, iAV 0], [])) := by
   have h1 := zX (G := G) b (by omega)
   rwa [hp] at h1
 have hfd := xz (G := G) c hc hd
 have hn0 := jf hsn ha
 have hn1 := yH hsn hW.2.2.2
 have hn2 : 0 < ((c.at i0).rf.length : Int) := by omega
 have hm1 : ¬ c.m = 1 := by omega
 have hw0 : 0 < c.w := hW.2.2.1
 clear hb hp
 refine goW [25, 65] Tryz.func19 rfl ?_
 conv => whnf
 repeat' ((first | (show LFreshN _ _; refine LFreshN.two fun R p => ?_; dsimp only [yq, yp, List.cons_append, List.nil_append]; conv => whnf) | (show LC _ _ _ _ _ _; refine LC.findL (c := c) (hd := hd) i0 hfd ?_ ?_; (focus ((repeat first | refine goH ?_ | apply LH.here | apply LH.next); refine ⟨_, rfl, ?_⟩; (repeat first | refine goH ?_ | apply LH.here | apply LH.next); rfl)); rw [hf, show j3 (some i0) = AV.tup [.int .i64 (i0 : Int), .bool true] from rfl]; conv => whnf) | ((with_reducible show AB (qo .neq c.m 3) _ _); refine AB.neqF hm ?_) | (show LC _ _ 59 _ _ _; refine LC.pure (r9beg_n { (c.at i0) with full := c.w, refr := 0, lng := g } (c.at i0).lst hd (c.at i0).act) ?_) | (show LC _ _ 62 _ _ _; apply LC.upd (js { (c.at i0) with full := c.w, refr := 0, lng := 0, ser := 0, sin := 0, dy := xi (c.at i0).lst (c.at i0).act hd } hd i0 5 pl (by decide) _ _ _ _); (repeat first | refine goH ?_ | apply LH.here | apply LH.next); refine ⟨rfl, ?_⟩) | (show AtC 65 _ _ _ _ _ _ _; first | (apply AtC.mkF (id := 65) (S := Sn × List UInt8 × Nm × Nm × Nm) ({ (c.at i0) with full := c.w, refr := 0, ser := 0, sin := 0, lng := 0, dy := xi (c.at i0).lst (c.at i0).act hd, rf := [hd] }, (zd (qz (xi (c.at i0).lst (c.at i0).act hd) i0 5 hd pl)).1, _, _, R); (focus (refine And.intro ?_ (And.intro ?_ (And.intro ?_ ?_)); (focus exact kD); (focus (exact T.sm)); (focus (dsimp only; refine LTo.comp { (c.at i0) with full := c.w, refr := 0, ser := 0, sin := 0, lng := 0, dy := xi (c.at i0).lst (c.at i0).act hd, rf := [hd] } (R := R) (r := r) (off := 0) (n := 1) (L := [hd]) _ hi rfl rfl (by simp) rfl ?_ ?_; (focus ((repeat first | refine goH ?_ | apply LH.here | apply LH.next); rfl)); (repeat first | refine goH ?_ | apply LH.here | apply LH.next); refine And.intro rfl ?_; (repeat first | refine goH ?_ | apply LH.here | apply LH.next); (repeat' first | exact LB.nil | (with_reducible exact LB.refl) | (apply LB.cons; (repeat first | refine goH ?_ | apply LH.here | apply LH.next); refine And.intro ?_ ?_; (focus (try (first | (with_reducible rfl) | (refine congrArg (Pl.mk _) ?_; (first | rfl | (simp; done))) | rfl | (with_reducible refine congrArg (Pl.mk _) ?_)))))))); (focus (exact comp_32 pl hc hi ha hm hn hw0)))))) | exact Nm.b 0 | (refine And.intro ?_ ?_; (focus (first | (with_reducible exact kc ⟨hn0, hn1⟩) | exact T.kx | exact T.side))) | (show LC _ _ _ _ _ _; first | refine LC.pure (hv) ?_ | refine LC.mkN (hcp) [] (LFs.refl _) ?_ | refine LC.pure (hpr) ?_ | refine LC.pure (za _) ?_ | refine LC.pure (jd _ _) ?_ | refine LC.pure (ju _ _) ?_ | refine LC.pure (zB 16 _ _ (by decide) (by decide)) ?_ | refine LC.pure (jq _) ?_ | refine goE ?_) | (show AC _ _ _; first | (refine AC.cpA (Nat.zero_add _) rfl hi ?_) | (refine AC.lstc (s := c.at i0) (xa ⟨hn0, hn1⟩) rfl hn0 ?_)) | (show AQ _ _; first | ((with_reducible show AQ (ql (cpR _ _ _ _) _ _) _); refine AQ.cpS (i0 := i0) (Nat.zero_add _) hi rfl ?_)) | refine T.s ?_ | ((first | apply goB | apply AB.dec | apply AB.gen) <;> intro h) | refine LQ.mk fun r => ?_ | refine LFreshN.two fun r r2 => ?_ | refine LFreshN.three fun r r2 r3 => ?_ | (show SQ _ _ _ _ _ _ _; first | refine gX 8 [0, 2] [0, 1, 2, 3, 4, 5] [] ?_ | refine gX 11 [0, 2] [0, 1, 2, 3, 4, 5] [] ?_ | refine gX 19 [2, 1] [0, 2, 1, 3, 4, 5] [] ?_ | refine gX 21 [0, 2] [0, 1, 2, 3, 4, 5] [] ?_ | refine gX 24 [1, 3] [0, 1, 2, 3, 4, 5, 6] [] ?_ | refine gX 25 [15, 13] [0, 1, 2, 3, 4, 5, 6, 7, 8, 9, 10, 11, 12, 14, 15, 13, 16, 17, 18, 19] [] ?_) | (show CutL _ _ _ _ _ _ _ _; first | (refine goK tQ [25, 65] 25 (S := Int × Int × Int × Bool × Nm × Nm × Nm × Nm × Nm × Nm × Nm × Nm) [9, 11, 14, 18] (fun (f, rr, g, bg, a, z, o, b, d, e, R, p) => ⟨[(15, .bool bg), (2, .ptr a 0), (4, .ptr z 0), (7, .ptr o 0), (8, .ptr b 0), (13, .ptr d 0), (16, .ptr e 0)], [(a, ⟨34, [iAV c.m, iAV c.w, snv c.cx]⟩), (z, ⟨34, [iAV 0, iAV 0, .nils]⟩), (o, ⟨34, [iAV c.m, iAV c.w, .vw R 0 c.cx.length 9]⟩), (b, ⟨50, hd.cs⟩), (d, ⟨61, ({ (c.at i0) with full := f, refr := rr, lng := g } : Sn).cv (.vw p 0 (c.at i0).rf.length 15)⟩), (e, ⟨50, (c.at i0).lst.cs⟩), (R, ⟨61, cpR c i0 p c.cx.length⟩), (p, ⟨50, (c.at i0).rf.flatMap Hd.cs⟩)], True, 0⟩) ?_ ?_; (rintro ⟨f, rr, g, bg, a, z, o, b, d, e, R, p⟩ -); rotate_left) | (refine goK tQ [25, 65] 65 (S := Sn × (List UInt8) × Nm × Nm × Nm) [] (fun (s, x, z, o, R) => ⟨[(21, bv x), (4, .ptr z 0), (7, .ptr o 0)], [(z, ⟨34, [iAV 0, iAV 0, .nils]⟩), (o, ⟨34, [iAV c.m, iAV c.w, .vw R 0 c.cx.length 9]⟩), (R, ⟨61, (c.cx.set i0 s).flatMap Sn.cs⟩)], qS c i0 hd pl = (c.set i0 s, x), 0⟩) ?_ ?_; (rintro ⟨s, x, z, o, R⟩ hok; (try dsimp only at hok)); rotate_left) | refine CutL.go tQ [25, 65] ?_) | (show AtC 25 _ _ _ _ _ _ _; first | (apply AtC.mk' (id := 25) (S := Int × Int × Int × Bool × Nm × Nm × Nm × Nm × Nm × Nm × Nm × Nm) (((c.at i0).full, (c.at i0).refr, (c.at i0).lng, false, _, _, _, _, _, _, _, _)); focus (refine T.a4 ?_ ?_ ?_ <;> exact kD)) | (apply AtC.mk' (id := 25) (S := Int × Int × Int × Bool × Nm × Nm × Nm × Nm × Nm × Nm × Nm × Nm) ((c.w, (c.at i0).refr, 0, true, _, _, _, _, _, _, _, _)); focus (refine T.a4 ?_ ?_ ?_ <;> exact kD)) | (apply AtC.mk' (id := 25) (S := Int × Int × Int × Bool × Nm × Nm × Nm × Nm × Nm × Nm × Nm × Nm) (((c.at i0).full, c.w, 0, true, _, _, _, _, _, _, _, _)); focus (refine T.a4 ?_ ?_ ?_ <;> exact kD))) | (show AtC 65 _ _ _ _ _ _ _; first | (apply AtC.mk' (id := 65) (S := Sn × (List UInt8) × Nm × Nm × Nm) ((NS, _, _, _, _)); focus (refine T.a4 ?_ ?_ ?_ <;> exact kD))) | (show (_ → _) ∧ (¬ _ → _); first | refine T.y ?_ | refine qm (fun h => ?_) (fun h => ?_)) | exact T.z | fail) <;> conv => whnf)
 all_goals (try dsimp only)
 all_goals first
   | (rw [hok]; refine RL.cpo ?_ ?_; (focus (simp [Co.set]; done)); (repeat first | refine goH ?_ | apply LH.here | apply LH.next); rfl)
   | trace_state
end Go.Proofs.YtbagbjacmakfhaaGreatDoor
