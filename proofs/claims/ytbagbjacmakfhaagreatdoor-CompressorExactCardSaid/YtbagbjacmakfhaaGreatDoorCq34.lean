/-
  Contracts of the functions that the laws reach.
-/
import Derived.Test.YtbagbjacmakfhaaGreatDoorCq01
import Derived.Test.YtbagbjacmakfhaaGreatDoorCq02
import Derived.Test.YtbagbjacmakfhaaGreatDoorCq03
import Derived.Test.YtbagbjacmakfhaaGreatDoorCq04
import Derived.Test.YtbagbjacmakfhaaGreatDoorCq05
import Derived.Test.YtbagbjacmakfhaaGreatDoorCq06
import Derived.Test.YtbagbjacmakfhaaGreatDoorCq08
import Derived.Test.YtbagbjacmakfhaaGreatDoorCq09
import Derived.Test.YtbagbjacmakfhaaGreatDoorCq10
import Derived.Test.YtbagbjacmakfhaaGreatDoorCq13
import Derived.Test.YtbagbjacmakfhaaGreatDoorCq14
import Derived.Test.YtbagbjacmakfhaaGreatDoorCq15
import Derived.Test.YtbagbjacmakfhaaGreatDoorCq16
import Derived.Test.YtbagbjacmakfhaaGreatDoorCq17
import Derived.Test.YtbagbjacmakfhaaGreatDoorCq18
import Derived.Test.YtbagbjacmakfhaaGreatDoorCq22
import Derived.Test.YtbagbjacmakfhaaGreatDoorCq23
import Derived.Test.YtbagbjacmakfhaaGreatDoorCq24
import Derived.Test.YtbagbjacmakfhaaGreatDoorCq29
import Derived.Test.YtbagbjacmakfhaaGreatDoorCq30
import Derived.Test.YtbagbjacmakfhaaGreatDoorCq31
import Derived.Test.YtbagbjacmakfhaaGreatDoorCq32
import Derived.Test.YtbagbjacmakfhaaGreatDoorCq33
set_option maxHeartbeats 8000000
set_option linter.all false
namespace Go.Proofs.YtbagbjacmakfhaaGreatDoor
open Go.RowKit
variable {G : Nat → AV}
theorem LTo.cop {c : Co} {i0 : Nat} {R p : Nm} {m l : LS} (hp : LH l p fun cc _ _ => cc.cs = (c.at i0).rf.flatMap Hd.cs) (h : LH l R fun cc s _ => cc.cs = cpR c i0 p c.cx.length ∧ LEra (s ⟨cc.ty, c.cx.flatMap Sn.cs⟩) [p] (LB m)) : LTo m l := by
 refine LTo.frz R [p] (c.cx.flatMap Sn.cs) (LH.mono h fun cc s _ hh => ⟨?_, hh.2⟩)
 rw [hh.1, ← xc]
 exact vj InL.here hp _
theorem cx_le {l : List Sn} {i : Nat} (hi : i < l.length) : 0 + (i : Int).toNat * 9 + 9 ≤ (l.flatMap Sn.cs).length := by rw [qr Sn.cs_len]; omega
theorem yi {l : List Hd} (h : 0 < l.length ∧ l.length ≤ 32) : 15 ≤ (List.drop ((q7 .sub .i64 (l.length : Int) 1).toNat * 15) (l.flatMap Hd.cs)).length := by
 have := xa h
 rw [Nat.zero_add] at this
 rw [this, List.length_drop, qr Hd.cs_len]
 omega
theorem rec_lastE {l : List Hd} (h : 0 < l.length ∧ l.length ≤ 32) : 15 ≤ (List.drop (0 + (q7 .sub .i64 (l.length : Int) 1).toNat * 15) (l.flatMap Hd.cs)).length := by
 rw [Nat.zero_add]; exact yi h
theorem AC.cxA {c : Co} {i0 o m : Nat} {K : AV → Prop} (ho : o = i0 * 9) (hm : m = 9) (h : i0 < c.cx.length) (k : K (.agg (c.at i0).cs)) : AC true (((c.cx.flatMap Sn.cs).drop o).take m) K := AC.recd Sn.cs_len i0 Sn.z ho hm h k
theorem LC.findD {c : Co} {hd : Hd} {R : Nm} {l : LS} {K : AV → LS → Prop} (hs : LP Tryz.prog G 55 [c.av, hd.av] [] (fun _ => (j3 (qP c.cx hd), []))) (h : LH l R fun cc _ _ => cc.cs = c.cx.flatMap Sn.cs) (k : K (j3 (qP c.cx hd)) l) :
   LC Tryz.prog G 55 [.agg [.int .i64 c.m, .int .i64 c.w, .vw R 0 c.cx.length 9], hd.av] l K :=
 LC.lend hs [R] ⟨LF.agg (xs := [.int .i64 c.m, .int .i64 c.w, .vw R 0 c.cx.length 9]) (ys := [iAV c.m, iAV c.w, snv c.cx]) ⟨.eq rfl, .eq rfl, LF.row InL.here (LH.mono h fun _ _ _ e => ⟨by decide, by rw [e]; exact qr Sn.cs_len _, rfl, e.symm⟩), trivial⟩, .eq rfl, trivial⟩ (Flat.tup (Flat.cons (Flat.int _ _) (Flat.cons (Flat.bool _) Flat.nil))) k
theorem ECps15_1 {p : Prop} (h : p := by (repeat' first | exact trivial | (refine And.intro ?_ ?_) | exact LB.nil | (with_reducible exact LB.refl) | (apply LB.cons; (repeat first | refine goH ?_ | apply LH.here | apply LH.next); refine And.intro ?_ ?_; (focus (try (first | (with_reducible rfl) | (refine congrArg (Pl.mk _) ?_; (first | rfl | (simp; done))) | rfl | (with_reducible refine congrArg (Pl.mk _) ?_))))) | (with_reducible assumption) | fail | (show (_ : AV) = _; (first | (focus (apply Eq.trans; (conv => lhs; whnf); (conv => rhs; whnf); done)) | rfl | ((conv => lhs; whnf); first | rfl | (refine congrArg (AV.int _) ?_; (exact T.num)) | (refine congrArg AV.bool ?_; (exact T.num)) | (refine vwc ?_; first | (exact T.num) | (first | rfl | (simp; done))) | (refine qc ?_ ?_ <;> first | (exact T.num) | (first | rfl | (simp; done))) | (first | rfl | (simp; done))))) | ((with_reducible first | (show (_ : Int) ≤ _) | (show (_ : Int) < _) | (show (_ : Nat) ≤ _) | (show (_ : Nat) < _) | (show (_ : Int) = _) | (show (_ : Nat) = _)); (exact T.num)) | (first | rfl | (simp; done))); first | done | fail) : p := h
theorem r9raw_e (c : Co) (b : List UInt8) (hc : c.ok = true) (hb : ¬ (b = [] ∨ 1500 < b.length)) (hp : ¬ (qg b).2 = 0) : LP Tryz.prog G 19 [c.av, bv b] [] (fun q => (.tup [.agg [iAV c.m, iAV c.w, .vw q 0 c.cx.length 9], bv (zd (xy b)).1, iAV 0], [(q, ⟨61, c.cx.flatMap Sn.cs⟩)])) := by
 have hv := zf (G := G) c
 rw [hc] at hv
 have hb2 : ¬ (b.length : Int) = 0 := fun h => hb (.inl (List.eq_nil_of_length_eq_zero (by omega)))
 have hb3 : ¬ 1500 < (b.length : Int) := fun h => hb (.inr (by omega))
 have hcp := zQ (G := G) c hc 0 (by decide)
 have hpr := zX (G := G) b (by omega)
 have hfd := xz (G := G) c hc (qg b).1.1
 clear hb
 refine goW [5] Tryz.func19 rfl ?_
 conv => whnf
 repeat' ((first | (show LFreshN _ _; refine LFreshN.two fun R p => ?_; dsimp only [yq, yp, List.cons_append, List.nil_append]; conv => whnf) | ((with_reducible show AB (qo .neq _ _) _ _); first | refine AB.neqT (by assumption) ?_ | refine AB.neqF (by assumption) ?_) | (show AtC 5 _ _ _ _ _ _ _; apply AtC.mkF (id := 5) (S := Nm × Nm × Nm × Nm) (_, _, _, R); (focus (refine And.intro ?_ (And.intro ?_ (And.intro ?_ ?_)); (focus exact ECps15_1); (focus (exact T.sm)); (focus (dsimp only; refine LTo.cop (c := c) (i0 := 0) (R := R) (p := p) ?_ ?_; (focus ((repeat first | refine goH ?_ | apply LH.here | apply LH.next); rfl)); (repeat first | refine goH ?_ | apply LH.here | apply LH.next); refine And.intro rfl ?_; (repeat first | refine goH ?_ | apply LH.here | apply LH.next); (repeat' first | exact LB.nil | (with_reducible exact LB.refl) | (apply LB.cons; (repeat first | refine goH ?_ | apply LH.here | apply LH.next); refine And.intro ?_ ?_; (focus (try (first | (with_reducible rfl) | (refine congrArg (Pl.mk _) ?_; (first | rfl | (simp; done))) | rfl | (with_reducible refine congrArg (Pl.mk _) ?_)))))))); (focus exact trivial)))) | exact Nm.b 0 | (show LC _ _ _ _ _ _; first | refine LC.pure (hv) ?_ | refine LC.mkN (hcp) [] (LFs.refl _) ?_ | refine LC.pure (hpr) ?_ | refine LC.pure (v8 b) ?_ | refine goE ?_) | refine T.s ?_ | ((first | apply goB | apply AB.dec | apply AB.gen) <;> intro h) | refine LQ.mk fun r => ?_ | refine LFreshN.two fun r r2 => ?_ | refine LFreshN.three fun r r2 r3 => ?_ | (show SQ _ _ _ _ _ _ _; first | refine gX 8 [0, 2] [0, 1, 2, 3, 4, 5] [] ?_ | refine gX 11 [0, 2] [0, 1, 2, 3, 4, 5] [] ?_ | refine gX 19 [2, 1] [0, 2, 1, 3, 4, 5] [] ?_ | refine gX 21 [0, 2] [0, 1, 2, 3, 4, 5] [] ?_ | refine gX 24 [1, 3] [0, 1, 2, 3, 4, 5, 6] [] ?_ | refine gX 25 [15, 13] [0, 1, 2, 3, 4, 5, 6, 7, 8, 9, 10, 11, 12, 14, 15, 13, 16, 17, 18, 19] [] ?_) | (show CutL _ _ _ _ _ _ _ _; first | (refine goK tQ [5] 5 (S := Nm × Nm × Nm × Nm) [1] (fun (a, z, o, R) => ⟨[(2, .ptr a 0), (4, .ptr z 0), (7, .ptr o 0)], [(a, ⟨34, [iAV c.m, iAV c.w, snv c.cx]⟩), (z, ⟨34, [iAV 0, iAV 0, .nils]⟩), (o, ⟨34, [iAV c.m, iAV c.w, .vw R 0 c.cx.length 9]⟩), (R, ⟨61, c.cx.flatMap Sn.cs⟩)], True, 0⟩) ?_ ?_; (rintro ⟨a, z, o, R⟩ -); rotate_left) | refine CutL.go tQ [5] ?_) | (show AtC 5 _ _ _ _ _ _ _; first | (apply AtC.mk' (id := 5) (S := Nm × Nm × Nm × Nm) ((_, _, _, _)); focus (refine T.a4 ?_ ?_ ?_ <;> exact ECps15_1))) | (show (_ → _) ∧ (¬ _ → _); first | refine T.y ?_ | refine qm (fun h => ?_) (fun h => ?_)) | exact T.z | fail) <;> conv => whnf)
 all_goals (try dsimp only)
 all_goals first
   | (refine RL.cpo rfl ?_; (repeat first | refine goH ?_ | apply LH.here | apply LH.next); rfl)
   | trace_state
theorem ECps15_2 {p : Prop} (h : p := by (repeat' first | exact trivial | (refine And.intro ?_ ?_) | exact LB.nil | (with_reducible exact LB.refl) | (apply LB.cons; (repeat first | refine goH ?_ | apply LH.here | apply LH.next); refine And.intro ?_ ?_; (focus (try (first | (with_reducible rfl) | (refine congrArg (Pl.mk _) ?_; (first | rfl | (simp; done))) | rfl | (with_reducible refine congrArg (Pl.mk _) ?_))))) | (with_reducible assumption) | fail | (show (_ : AV) = _; (first | (focus (apply Eq.trans; (conv => lhs; whnf); (conv => rhs; whnf); done)) | rfl | ((conv => lhs; whnf); first | rfl | (refine congrArg (AV.int _) ?_; (exact T.num)) | (refine congrArg AV.bool ?_; (exact T.num)) | (refine vwc ?_; first | (exact T.num) | (first | rfl | (simp; done))) | (refine qc ?_ ?_ <;> first | (exact T.num) | (first | rfl | (simp; done))) | (first | rfl | (simp; done))))) | ((with_reducible first | (show (_ : Int) ≤ _) | (show (_ : Int) < _) | (show (_ : Nat) ≤ _) | (show (_ : Nat) < _) | (show (_ : Int) = _) | (show (_ : Nat) = _)); (exact T.num)) | (first | rfl | (simp; done))); first | done | fail) : p := h
theorem r9raw_n (c : Co) (b : List UInt8) (hc : c.ok = true) (hb : ¬ (b = [] ∨ 1500 < b.length)) (hp : (qg b).2 = 0) (hf : qP c.cx (qg b).1.1 = none) : LP Tryz.prog G 19 [c.av, bv b] [] (fun q => (.tup [.agg [iAV c.m, iAV c.w, .vw q 0 c.cx.length 9], bv (zd (xy b)).1, iAV 0], [(q, ⟨61, c.cx.flatMap Sn.cs⟩)])) := by
 have hv := zf (G := G) c
 rw [hc] at hv
 have hb2 : ¬ (b.length : Int) = 0 := fun h => hb (.inl (List.eq_nil_of_length_eq_zero (by omega)))
 have hb3 : ¬ 1500 < (b.length : Int) := fun h => hb (.inr (by omega))
 have hcp := zQ (G := G) c hc 0 (by decide)
 have hpr := zX (G := G) b (by omega)
 have hfd := xz (G := G) c hc (qg b).1.1
 rw [hp] at hpr
 clear hb
 refine goW [5] Tryz.func19 rfl ?_
 conv => whnf
 repeat' ((first | (show LFreshN _ _; refine LFreshN.two fun R p => ?_; dsimp only [yq, yp, List.cons_append, List.nil_append]; conv => whnf) | ((with_reducible show AB (qo .neq _ _) _ _); first | refine AB.neqT (by assumption) ?_ | refine AB.neqF (by assumption) ?_) | (show LC _ _ 55 _ _ _; refine LC.findD (c := c) (hd := (qg b).1.1) hfd ?_ ?_; (focus ((repeat first | refine goH ?_ | apply LH.here | apply LH.next); rfl)); rw [hf]; conv => whnf) | (show AtC 5 _ _ _ _ _ _ _; apply AtC.mkF (id := 5) (S := Nm × Nm × Nm × Nm) (_, _, _, R); (focus (refine And.intro ?_ (And.intro ?_ (And.intro ?_ ?_)); (focus exact ECps15_2); (focus (exact T.sm)); (focus (dsimp only; refine LTo.cop (c := c) (i0 := 0) (R := R) (p := p) ?_ ?_; (focus ((repeat first | refine goH ?_ | apply LH.here | apply LH.next); rfl)); (repeat first | refine goH ?_ | apply LH.here | apply LH.next); refine And.intro rfl ?_; (repeat first | refine goH ?_ | apply LH.here | apply LH.next); (repeat' first | exact LB.nil | (with_reducible exact LB.refl) | (apply LB.cons; (repeat first | refine goH ?_ | apply LH.here | apply LH.next); refine And.intro ?_ ?_; (focus (try (first | (with_reducible rfl) | (refine congrArg (Pl.mk _) ?_; (first | rfl | (simp; done))) | rfl | (with_reducible refine congrArg (Pl.mk _) ?_)))))))); (focus exact trivial)))) | exact Nm.b 0 | (show LC _ _ _ _ _ _; first | refine LC.pure (hv) ?_ | refine LC.mkN (hcp) [] (LFs.refl _) ?_ | refine LC.pure (hpr) ?_ | refine LC.pure (v8 b) ?_ | refine goE ?_) | refine T.s ?_ | ((first | apply goB | apply AB.dec | apply AB.gen) <;> intro h) | refine LQ.mk fun r => ?_ | refine LFreshN.two fun r r2 => ?_ | refine LFreshN.three fun r r2 r3 => ?_ | (show SQ _ _ _ _ _ _ _; first | refine gX 8 [0, 2] [0, 1, 2, 3, 4, 5] [] ?_ | refine gX 11 [0, 2] [0, 1, 2, 3, 4, 5] [] ?_ | refine gX 19 [2, 1] [0, 2, 1, 3, 4, 5] [] ?_ | refine gX 21 [0, 2] [0, 1, 2, 3, 4, 5] [] ?_ | refine gX 24 [1, 3] [0, 1, 2, 3, 4, 5, 6] [] ?_ | refine gX 25 [15, 13] [0, 1, 2, 3, 4, 5, 6, 7, 8, 9, 10, 11, 12, 14, 15, 13, 16, 17, 18, 19] [] ?_) | (show CutL _ _ _ _ _ _ _ _; first | (refine goK tQ [5] 5 (S := Nm × Nm × Nm × Nm) [1] (fun (a, z, o, R) => ⟨[(2, .ptr a 0), (4, .ptr z 0), (7, .ptr o 0)], [(a, ⟨34, [iAV c.m, iAV c.w, snv c.cx]⟩), (z, ⟨34, [iAV 0, iAV 0, .nils]⟩), (o, ⟨34, [iAV c.m, iAV c.w, .vw R 0 c.cx.length 9]⟩), (R, ⟨61, c.cx.flatMap Sn.cs⟩)], True, 0⟩) ?_ ?_; (rintro ⟨a, z, o, R⟩ -); rotate_left) | refine CutL.go tQ [5] ?_) | (show AtC 5 _ _ _ _ _ _ _; first | (apply AtC.mk' (id := 5) (S := Nm × Nm × Nm × Nm) ((_, _, _, _)); focus (refine T.a4 ?_ ?_ ?_ <;> exact ECps15_2))) | (show (_ → _) ∧ (¬ _ → _); first | refine T.y ?_ | refine qm (fun h => ?_) (fun h => ?_)) | exact T.z | fail) <;> conv => whnf)
 all_goals (try dsimp only)
 all_goals first
   | (refine RL.cpo rfl ?_; (repeat first | refine goH ?_ | apply LH.here | apply LH.next); rfl)
   | trace_state
theorem ECps15_3 {p : Prop} (h : p := by (repeat' first | exact trivial | (refine And.intro ?_ ?_) | exact LB.nil | (with_reducible exact LB.refl) | (apply LB.cons; (repeat first | refine goH ?_ | apply LH.here | apply LH.next); refine And.intro ?_ ?_; (focus (try (first | (with_reducible rfl) | (refine congrArg (Pl.mk _) ?_; (first | rfl | (simp; done))) | rfl | (with_reducible refine congrArg (Pl.mk _) ?_))))) | (with_reducible assumption) | fail | (show (_ : AV) = _; (first | (focus (apply Eq.trans; (conv => lhs; whnf); (conv => rhs; whnf); done)) | rfl | ((conv => lhs; whnf); first | rfl | (refine congrArg (AV.int _) ?_; (exact T.num)) | (refine congrArg AV.bool ?_; (exact T.num)) | (refine vwc ?_; first | (exact T.num) | (first | rfl | (simp; done))) | (refine qc ?_ ?_ <;> first | (exact T.num) | (first | rfl | (simp; done))) | (first | rfl | (simp; done))))) | ((with_reducible first | (show (_ : Int) ≤ _) | (show (_ : Int) < _) | (show (_ : Nat) ≤ _) | (show (_ : Nat) < _) | (show (_ : Int) = _) | (show (_ : Nat) = _)); (exact T.num)) | (first | rfl | (simp; done))); first | done | fail) : p := h
theorem r9raw_1 (c : Co) (b : List UInt8) (hc : c.ok = true) (hb : ¬ (b = [] ∨ 1500 < b.length)) (i0 : Nat) (hp : (qg b).2 = 0) (hf : qP c.cx (qg b).1.1 = some i0) (ha : (c.at i0).act = true) (hm : c.m = 3) (ho : sg 16 (c.at i0).lst.num (qg b).1.1.num < 1) : LP Tryz.prog G 19 [c.av, bv b] [] (fun q => (.tup [.agg [iAV c.m, iAV c.w, .vw q 0 c.cx.length 9], bv (zd (xy b)).1, iAV 0], [(q, ⟨61, c.cx.flatMap Sn.cs⟩)])) := by
 have hv := zf (G := G) c
 rw [hc] at hv
 have hb2 : ¬ (b.length : Int) = 0 := fun h => hb (.inl (List.eq_nil_of_length_eq_zero (by omega)))
 have hb3 : ¬ 1500 < (b.length : Int) := fun h => hb (.inr (by omega))
 have hcp := zQ (G := G) c hc 0 (by decide)
 have hpr := zX (G := G) b (by omega)
 have hfd := xz (G := G) c hc (qg b).1.1
 rw [hp] at hpr
 obtain ⟨hi0, hsn, -, -⟩ := zA hc hf
 have h16 := qY hc
 have hi : i0 < c.cx.length := by omega
 have hW := wc hc
 have hn0 := jf hsn ha
 have hn1 := yH hsn hW.2.2.2
 have hn2 : 0 < ((c.at i0).rf.length : Int) := by omega
 clear hb
 refine goW [5] Tryz.func19 rfl ?_
 conv => whnf
 repeat' ((first | (show LFreshN _ _; refine LFreshN.two fun R p => ?_; dsimp only [yq, yp, List.cons_append, List.nil_append]; conv => whnf) | ((with_reducible show AB (qo .neq _ _) _ _); first | refine AB.neqT (by assumption) ?_ | refine AB.neqF (by assumption) ?_) | (show LC _ _ 55 _ _ _; refine LC.findD (c := c) (hd := (qg b).1.1) hfd ?_ ?_; (focus ((repeat first | refine goH ?_ | apply LH.here | apply LH.next); rfl)); rw [hf, show j3 (some i0) = AV.tup [.int .i64 (i0 : Int), .bool true] from rfl]; conv => whnf) | (show AtC 5 _ _ _ _ _ _ _; apply AtC.mkF (id := 5) (S := Nm × Nm × Nm × Nm) (_, _, _, R); (focus (refine And.intro ?_ (And.intro ?_ (And.intro ?_ ?_)); (focus exact ECps15_3); (focus (exact T.sm)); (focus (dsimp only; refine LTo.cop (c := c) (i0 := 0) (R := R) (p := p) ?_ ?_; (focus ((repeat first | refine goH ?_ | apply LH.here | apply LH.next); rfl)); (repeat first | refine goH ?_ | apply LH.here | apply LH.next); refine And.intro rfl ?_; (repeat first | refine goH ?_ | apply LH.here | apply LH.next); (repeat' first | exact LB.nil | (with_reducible exact LB.refl) | (apply LB.cons; (repeat first | refine goH ?_ | apply LH.here | apply LH.next); refine And.intro ?_ ?_; (focus (try (first | (with_reducible rfl) | (refine congrArg (Pl.mk _) ?_; (first | rfl | (simp; done))) | rfl | (with_reducible refine congrArg (Pl.mk _) ?_)))))))); (focus exact trivial)))) | exact Nm.b 0 | (refine And.intro ?_ ?_; (focus (first | (with_reducible exact kc ⟨hn0, hn1⟩) | (with_reducible exact cx_le hi) | (with_reducible exact yi ⟨hn0, hn1⟩) | (with_reducible exact rec_lastE ⟨hn0, hn1⟩) | exact T.kx | exact T.side))) | (show LC _ _ _ _ _ _; first | refine LC.pure (hv) ?_ | refine LC.mkN (hcp) [] (LFs.refl _) ?_ | refine LC.pure (hpr) ?_ | refine LC.pure (v8 b) ?_ | refine LC.pure (za _) ?_ | refine LC.pure (zB 16 _ _ (by decide) (by decide)) ?_ | refine goE ?_) | (show AC _ _ _; first | (refine AC.cxA (c := c) (i0 := i0) (Nat.zero_add _) rfl hi ?_) | (refine AC.lstc (s := c.at i0) (xa ⟨hn0, hn1⟩) rfl hn0 ?_) | (refine AC.lstc (s := c.at i0) ((Nat.zero_add _).symm.trans (xa ⟨hn0, hn1⟩)) rfl hn0 ?_)) | refine T.s ?_ | ((first | apply goB | apply AB.dec | apply AB.gen) <;> intro h) | refine LQ.mk fun r => ?_ | refine LFreshN.two fun r r2 => ?_ | refine LFreshN.three fun r r2 r3 => ?_ | (show SQ _ _ _ _ _ _ _; first | refine gX 8 [0, 2] [0, 1, 2, 3, 4, 5] [] ?_ | refine gX 11 [0, 2] [0, 1, 2, 3, 4, 5] [] ?_ | refine gX 19 [2, 1] [0, 2, 1, 3, 4, 5] [] ?_ | refine gX 21 [0, 2] [0, 1, 2, 3, 4, 5] [] ?_ | refine gX 24 [1, 3] [0, 1, 2, 3, 4, 5, 6] [] ?_ | refine gX 25 [15, 13] [0, 1, 2, 3, 4, 5, 6, 7, 8, 9, 10, 11, 12, 14, 15, 13, 16, 17, 18, 19] [] ?_) | (show CutL _ _ _ _ _ _ _ _; first | (refine goK tQ [5] 5 (S := Nm × Nm × Nm × Nm) [1] (fun (a, z, o, R) => ⟨[(2, .ptr a 0), (4, .ptr z 0), (7, .ptr o 0)], [(a, ⟨34, [iAV c.m, iAV c.w, snv c.cx]⟩), (z, ⟨34, [iAV 0, iAV 0, .nils]⟩), (o, ⟨34, [iAV c.m, iAV c.w, .vw R 0 c.cx.length 9]⟩), (R, ⟨61, c.cx.flatMap Sn.cs⟩)], True, 0⟩) ?_ ?_; (rintro ⟨a, z, o, R⟩ -); rotate_left) | refine CutL.go tQ [5] ?_) | (show AtC 5 _ _ _ _ _ _ _; first | (apply AtC.mk' (id := 5) (S := Nm × Nm × Nm × Nm) ((_, _, _, _)); focus (refine T.a4 ?_ ?_ ?_ <;> exact ECps15_3))) | (show (_ → _) ∧ (¬ _ → _); first | refine T.y ?_ | refine qm (fun h => ?_) (fun h => ?_)) | exact T.z | fail) <;> conv => whnf)
 all_goals (try dsimp only)
 all_goals first
   | (refine RL.cpo rfl ?_; (repeat first | refine goH ?_ | apply LH.here | apply LH.next); rfl)
   | trace_state
theorem ECps15_4 {p : Prop} (h : p := by (repeat' first | exact trivial | (refine And.intro ?_ ?_) | exact LB.nil | (with_reducible exact LB.refl) | (apply LB.cons; (repeat first | refine goH ?_ | apply LH.here | apply LH.next); refine And.intro ?_ ?_; (focus (try (first | (with_reducible rfl) | (refine congrArg (Pl.mk _) ?_; (first | rfl | (simp; done))) | rfl | (with_reducible refine congrArg (Pl.mk _) ?_))))) | (with_reducible assumption) | fail | (show (_ : AV) = _; (first | (focus (apply Eq.trans; (conv => lhs; whnf); (conv => rhs; whnf); done)) | rfl | ((conv => lhs; whnf); first | rfl | (refine congrArg (AV.int _) ?_; (exact T.num)) | (refine congrArg AV.bool ?_; (exact T.num)) | (refine vwc ?_; first | (exact T.num) | (first | rfl | (simp; done))) | (refine qc ?_ ?_ <;> first | (exact T.num) | (first | rfl | (simp; done))) | (first | rfl | (simp; done))))) | ((with_reducible first | (show (_ : Int) ≤ _) | (show (_ : Int) < _) | (show (_ : Nat) ≤ _) | (show (_ : Nat) < _) | (show (_ : Int) = _) | (show (_ : Nat) = _)); (exact T.num)) | (first | rfl | (simp; done))); first | done | fail) : p := h
theorem r9raw_2 (c : Co) (b : List UInt8) (hc : c.ok = true) (hb : ¬ (b = [] ∨ 1500 < b.length)) (i0 : Nat) (hp : (qg b).2 = 0) (hf : qP c.cx (qg b).1.1 = some i0) (ha : (c.at i0).act = true) (hm : c.m = 3) (ho : ¬ sg 16 (c.at i0).lst.num (qg b).1.1.num < 1) (ho2 : 255 < sg 16 (c.at i0).lst.num (qg b).1.1.num) : LP Tryz.prog G 19 [c.av, bv b] [] (fun q => (.tup [.agg [iAV c.m, iAV c.w, .vw q 0 c.cx.length 9], bv (zd (xy b)).1, iAV 0], [(q, ⟨61, c.cx.flatMap Sn.cs⟩)])) := by
 have hv := zf (G := G) c
 rw [hc] at hv
 have hb2 : ¬ (b.length : Int) = 0 := fun h => hb (.inl (List.eq_nil_of_length_eq_zero (by omega)))
 have hb3 : ¬ 1500 < (b.length : Int) := fun h => hb (.inr (by omega))
 have hcp := zQ (G := G) c hc 0 (by decide)
 have hpr := zX (G := G) b (by omega)
 have hfd := xz (G := G) c hc (qg b).1.1
 rw [hp] at hpr
 obtain ⟨hi0, hsn, -, -⟩ := zA hc hf
 have h16 := qY hc
 have hi : i0 < c.cx.length := by omega
 have hW := wc hc
 have hn0 := jf hsn ha
 have hn1 := yH hsn hW.2.2.2
 have hn2 : 0 < ((c.at i0).rf.length : Int) := by omega
 clear hb
 refine goW [5] Tryz.func19 rfl ?_
 conv => whnf
 repeat' ((first | (show LFreshN _ _; refine LFreshN.two fun R p => ?_; dsimp only [yq, yp, List.cons_append, List.nil_append]; conv => whnf) | ((with_reducible show AB (qo .neq _ _) _ _); first | refine AB.neqT (by assumption) ?_ | refine AB.neqF (by assumption) ?_) | (show LC _ _ 55 _ _ _; refine LC.findD (c := c) (hd := (qg b).1.1) hfd ?_ ?_; (focus ((repeat first | refine goH ?_ | apply LH.here | apply LH.next); rfl)); rw [hf, show j3 (some i0) = AV.tup [.int .i64 (i0 : Int), .bool true] from rfl]; conv => whnf) | (show AtC 5 _ _ _ _ _ _ _; apply AtC.mkF (id := 5) (S := Nm × Nm × Nm × Nm) (_, _, _, R); (focus (refine And.intro ?_ (And.intro ?_ (And.intro ?_ ?_)); (focus exact ECps15_4); (focus (exact T.sm)); (focus (dsimp only; refine LTo.cop (c := c) (i0 := 0) (R := R) (p := p) ?_ ?_; (focus ((repeat first | refine goH ?_ | apply LH.here | apply LH.next); rfl)); (repeat first | refine goH ?_ | apply LH.here | apply LH.next); refine And.intro rfl ?_; (repeat first | refine goH ?_ | apply LH.here | apply LH.next); (repeat' first | exact LB.nil | (with_reducible exact LB.refl) | (apply LB.cons; (repeat first | refine goH ?_ | apply LH.here | apply LH.next); refine And.intro ?_ ?_; (focus (try (first | (with_reducible rfl) | (refine congrArg (Pl.mk _) ?_; (first | rfl | (simp; done))) | rfl | (with_reducible refine congrArg (Pl.mk _) ?_)))))))); (focus exact trivial)))) | exact Nm.b 0 | (refine And.intro ?_ ?_; (focus (first | (with_reducible exact kc ⟨hn0, hn1⟩) | (with_reducible exact cx_le hi) | (with_reducible exact yi ⟨hn0, hn1⟩) | (with_reducible exact rec_lastE ⟨hn0, hn1⟩) | exact T.kx | exact T.side))) | (show LC _ _ _ _ _ _; first | refine LC.pure (hv) ?_ | refine LC.mkN (hcp) [] (LFs.refl _) ?_ | refine LC.pure (hpr) ?_ | refine LC.pure (v8 b) ?_ | refine LC.pure (za _) ?_ | refine LC.pure (zB 16 _ _ (by decide) (by decide)) ?_ | refine goE ?_) | (show AC _ _ _; first | (refine AC.cxA (c := c) (i0 := i0) (Nat.zero_add _) rfl hi ?_) | (refine AC.lstc (s := c.at i0) (xa ⟨hn0, hn1⟩) rfl hn0 ?_) | (refine AC.lstc (s := c.at i0) ((Nat.zero_add _).symm.trans (xa ⟨hn0, hn1⟩)) rfl hn0 ?_)) | refine T.s ?_ | ((first | apply goB | apply AB.dec | apply AB.gen) <;> intro h) | refine LQ.mk fun r => ?_ | refine LFreshN.two fun r r2 => ?_ | refine LFreshN.three fun r r2 r3 => ?_ | (show SQ _ _ _ _ _ _ _; first | refine gX 8 [0, 2] [0, 1, 2, 3, 4, 5] [] ?_ | refine gX 11 [0, 2] [0, 1, 2, 3, 4, 5] [] ?_ | refine gX 19 [2, 1] [0, 2, 1, 3, 4, 5] [] ?_ | refine gX 21 [0, 2] [0, 1, 2, 3, 4, 5] [] ?_ | refine gX 24 [1, 3] [0, 1, 2, 3, 4, 5, 6] [] ?_ | refine gX 25 [15, 13] [0, 1, 2, 3, 4, 5, 6, 7, 8, 9, 10, 11, 12, 14, 15, 13, 16, 17, 18, 19] [] ?_) | (show CutL _ _ _ _ _ _ _ _; first | (refine goK tQ [5] 5 (S := Nm × Nm × Nm × Nm) [1] (fun (a, z, o, R) => ⟨[(2, .ptr a 0), (4, .ptr z 0), (7, .ptr o 0)], [(a, ⟨34, [iAV c.m, iAV c.w, snv c.cx]⟩), (z, ⟨34, [iAV 0, iAV 0, .nils]⟩), (o, ⟨34, [iAV c.m, iAV c.w, .vw R 0 c.cx.length 9]⟩), (R, ⟨61, c.cx.flatMap Sn.cs⟩)], True, 0⟩) ?_ ?_; (rintro ⟨a, z, o, R⟩ -); rotate_left) | refine CutL.go tQ [5] ?_) | (show AtC 5 _ _ _ _ _ _ _; first | (apply AtC.mk' (id := 5) (S := Nm × Nm × Nm × Nm) ((_, _, _, _)); focus (refine T.a4 ?_ ?_ ?_ <;> exact ECps15_4))) | (show (_ → _) ∧ (¬ _ → _); first | refine T.y ?_ | refine qm (fun h => ?_) (fun h => ?_)) | exact T.z | fail) <;> conv => whnf)
 all_goals (try dsimp only)
 all_goals first
   | (refine RL.cpo rfl ?_; (repeat first | refine goH ?_ | apply LH.here | apply LH.next); rfl)
   | trace_state
open Go.RowKit
variable {G : Nat → AV}
theorem pars_eta {b : List UInt8} (hp : (qg b).2 = 0) : qg b = (((qg b).1.1, (qg b).1.2), 0) := by rw [← hp]
theorem jT {c : Co} {b : List UInt8} (hc : c.ok = true) (hb : ¬ (b = [] ∨ 1500 < b.length)) (h : ¬ (qg b).2 = 0 ∨ qP c.cx (qg b).1.1 = none ∨ ∃ i, qP c.cx (qg b).1.1 = some i ∧ (c.at i).act = true ∧ c.m = 3 ∧ (sg 16 (c.at i).lst.num (qg b).1.1.num < 1 ∨ 255 < sg 16 (c.at i).lst.num (qg b).1.1.num)) : qf c b = ((c, (zd (xy b)).1), 0) := by
 unfold qf
 rw [if_pos hc, if_neg hb]
 split
 · rename_i hp
   rcases h with h | h | ⟨i, h, h2⟩
   · exact absurd hp h
   · rw [h]
   · rw [h]; dsimp only; rw [if_pos h2]
 · rfl
theorem comprR_c {c : Co} {b : List UInt8} {i : Nat} (hc : c.ok = true) (hb : ¬ (b = [] ∨ 1500 < b.length)) (hp : (qg b).2 = 0) (hf : qP c.cx (qg b).1.1 = some i) (ho : ¬ ((c.at i).act = true ∧ c.m = 3 ∧ (sg 16 (c.at i).lst.num (qg b).1.1.num < 1 ∨ 255 < sg 16 (c.at i).lst.num (qg b).1.1.num))) : qf c b = (qS c i (qg b).1.1 (qg b).1.2, 0) := by
 unfold qf
 rw [if_pos hc, if_neg hb, if_pos hp, hf]
 dsimp only
 rw [if_neg ho]
theorem comp_own (c : Co) (b : List UInt8) (hc : c.ok = true) (hb : ¬ (b = [] ∨ 1500 < b.length)) : LP Tryz.prog G 19 [c.av, bv b] [] (fun q => (.tup [.agg [iAV (qf c b).1.1.m, iAV (qf c b).1.1.w, .vw q 0 (qf c b).1.1.cx.length 9], bv (qf c b).1.2, iAV 0], [(q, ⟨61, (qf c b).1.1.cx.flatMap Sn.cs⟩)])) := by
 by_cases hp : (qg b).2 = 0
 · cases hf : qP c.cx (qg b).1.1 with
   | none =>
     rw [jT hc hb (.inr (.inl hf))]
     exact r9raw_n c b hc hb hp hf
   | some i =>
     have he := pars_eta hp
     by_cases ha : (c.at i).act = true
     · by_cases hm : c.m = 3
       · by_cases h1 : sg 16 (c.at i).lst.num (qg b).1.1.num < 1
         · rw [jT hc hb (.inr (.inr ⟨i, hf, ha, hm, .inl h1⟩))]
           exact r9raw_1 c b hc hb i hp hf ha hm h1
         · by_cases h2 : 255 < sg 16 (c.at i).lst.num (qg b).1.1.num
           · rw [jT hc hb (.inr (.inr ⟨i, hf, ha, hm, .inr h2⟩))]
             exact r9raw_2 c b hc hb i hp hf ha hm h1 h2
           · rw [comprR_c hc hb hp hf (fun h => h.2.2.elim h1 h2)]
             by_cases h3 : ((c.at i).rf.length : Int) = 32
             · exact r9comp_32 c b _ _ i hc hb he hf ha hm h3 h1 h2
             · exact r9comp_3 c b _ _ i hc hb he hf ha hm (by omega) h1 h2 h3 (fun h => h3 h.2)
       · rw [comprR_c hc hb hp hf (fun h => hm h.2.1)]
         refine r9comp_n c b _ _ i hc hb he hf ha hm (fun h => hm h.1) ?_
         have hi := (zA hc hf).1
         have h9 := ((Sn.ok_e ha).1 (co_sn hc i (by rw [qY hc]; exact hi))).1.2.1
         unfold jg at h9
         rw [if_neg hm] at h9
         exact h9
     · have ha : (c.at i).act = false := by simpa using ha
       rw [comprR_c hc hb hp hf (fun h => by rw [ha] at h; cases h.1)]
       exact r9comp_new c b _ _ i hc hb he hf ha
 · rw [jT hc hb (.inl hp)]
   exact r9raw_e c b hc hb hp
theorem comp_dat (c : Co) (b : List UInt8) : LP Tryz.prog G 19 [c.av, bv b] [] (fun _ => (cpr (qf c b), [])) := by
 cases hc : c.ok with
 | false => exact r9comp_inv c b hc
 | true =>
   by_cases hb : b = [] ∨ 1500 < b.length
   · exact r9comp_size c b hc hb
   · have h := LP.data (v' := cpr (qf c b)) (comp_own (G := G) c b hc hb) fun q => by
       have h0 := cpo_lf (qf c b).1.1 (qf c b).1.2 q
       have h1 := (kz hc hb).2.1
       rw [show qf c b = (((qf c b).1.1, (qf c b).1.2), 0) by rw [← h1]]
       exact h0
     exact h
open Go.RowKit
theorem alq_rfl (h : Hd) : qJ [(h.k, h.k), (h.tos, h.tos), (h.id, h.id), (h.fx, h.fx), (h.ttl, h.ttl), (h.fr, h.fr), (h.to, h.to), (h.fp, h.fp), (h.tp, h.tp), (h.ck, h.ck), (h.mr, h.mr), (h.ty, h.ty), (h.sq, h.sq), (h.tm, h.tm), (h.sr, h.sr)] = true := by
 rw [Hd.eqs]; exact decide_eq_true rfl
theorem alq_dy (d : Dy) : qJ [(d.st, d.st), (d.fo, d.fo)] = true := by
 rw [Dy.eqs]; exact decide_eq_true rfl
theorem r9same_c {G : Nat → AV} (c : Co) (hn : c.cx.length ≤ 100000) (hr : ∀ i : Nat, i < c.cx.length → (c.cx.getD i Sn.z).rf.length ≤ 100000) : LP Tryz.prog G 21 [c.av, c.av] [] (fun _ => (.bool true, [])) := by
 refine goW [] Tryz.func21 rfl ?_
 conv => whnf
 repeat' ((first | exact Nm.b 0 | (refine And.intro ?_ ?_; (focus (first | exact InL.here | exact InL.next InL.here | exact zx Sn.cs_len (by assumption) | exact zx Hd.cs_len (by assumption) | exact T.kx | exact T.side))) | (show AC _ _ _; first | (refine AC.recd Sn.cs_len i Sn.z rfl rfl ?_ ?_; (focus omega)) | (refine AC.recd Hd.cs_len k Hd.z rfl rfl ?_ ?_; (focus omega))) | refine T.s ?_ | ((first | apply goB | apply AB.dec | apply AB.gen) <;> intro h <;> try (exfalso; omega)) | refine LQ.mk fun r => ?_ | (show SQ _ _ _ (.loop _) _ _ _; first | (refine goL tQ [] 4 (S := Nat × Nm × Nm) [] (fun (i, a, b) => ⟨[(5, .int .i64 i), (2, .ptr a 0), (3, .ptr b 0)], [(a, ⟨34, [iAV c.m, iAV c.w, snv c.cx]⟩), (b, ⟨34, [iAV c.m, iAV c.w, snv c.cx]⟩)], i ≤ c.cx.length, c.cx.length - i⟩) ((0, _, _)) ?_; rintro ⟨i, a, b⟩ hok; (try dsimp only at hok)) | (refine goL tQ [] 10 (S := Nat × Nm × Nm × Nm × Nm) [5] (fun (k, x, y, a, b) => ⟨[(8, .int .i64 k), (6, .ptr x 0), (7, .ptr y 0), (2, .ptr a 0), (3, .ptr b 0)], [(x, ⟨61, (c.cx.getD i Sn.z).cs⟩), (y, ⟨61, (c.cx.getD i Sn.z).cs⟩), (a, ⟨34, [iAV c.m, iAV c.w, snv c.cx]⟩), (b, ⟨34, [iAV c.m, iAV c.w, snv c.cx]⟩)], k ≤ (c.cx.getD i Sn.z).rf.length, (c.cx.getD i Sn.z).rf.length - k⟩) ((0, _, _, _, _)) ?_; rintro ⟨k, x, y, a, b⟩ hok; (try dsimp only at hok); (have hri := hr i (by omega)))) | (show SQ _ _ _ _ _ _ _; first | (refine goD tQ qd 6 [6, 9, 12] [0, 1, 2, 3, 4, 5, 6, 7, 8, 9, 10, 11, 12, 13] [a, b] (by kernel_rfl) ?_) | refine gX 12 [] [0, 1, 2, 3, 4, 5, 6, 7, 8, 9, 10] [] ?_) | (show AtL _ _ _ _ _ _ _ _ _ _; first | (show AtL 4 _ _ _ _ _ _ _ _ _; exact goN 4 (S := Nat × Nm × Nm) ((i + 1, _, _))) | (show AtL 10 _ _ _ _ _ _ _ _ _; exact goN 10 (S := Nat × Nm × Nm × Nm × Nm) ((k + 1, _, _, _, _))) | (apply AtL.mk' (id := 4) (S := Nat × Nm × Nm) ((i + 1, _, _)); all_goals (try exact KC12)) | (apply AtL.mk' (id := 10) (S := Nat × Nm × Nm × Nm × Nm) ((k + 1, _, _, _, _)); all_goals (try exact KC12))) | exact T.z | fail) <;> conv => whnf)
 all_goals (try dsimp only)
 all_goals first
   | ((show RL _ _ _; refine goR ?_); rfl)
   | (exfalso; simp_all [alq_rfl, alq_dy]; done)
   | trace_state
def w9H : Hd := ⟨1, 0, 5, 0, 64, 0, 0, 0, 0, 0, 0, 0, 0, 0, 0⟩
def w9C : Co := ⟨2, 1, List.replicate 16 Sn.z⟩
def w9P : List UInt8 := xH w9H [9]
def w9C1 : Co := (qf w9C w9P).1.1
def w9Y1 : List UInt8 := (qf w9C w9P).1.2
def w9C2 : Co := (qf w9C1 w9P).1.1
def w9Y2 : List UInt8 := (qf w9C1 w9P).1.2
theorem w9_1 : qf w9C w9P = ((w9C1, w9Y1), 0) := by
 have h : (qf w9C w9P).2 = 0 := by kernel_rfl
 unfold w9C1 w9Y1
 rw [← h]
theorem w9_2 : qf w9C1 w9P = ((w9C2, w9Y2), 0) := by
 have h : (qf w9C1 w9P).2 = 0 := by kernel_rfl
 unfold w9C2 w9Y2
 rw [← h]
theorem w9_3 : ∃ k, jx w9Y1 = (k, 5, 0) := ⟨(jx w9Y1).1, by
 have h1 : (jx w9Y1).2.1 = 5 := by kernel_rfl
 have h2 : (jx w9Y1).2.2 = 0 := by kernel_rfl
 rw [← h1, ← h2]⟩
theorem w9_4 : w9Y2.length = 2 := by kernel_rfl
theorem w9_5 : w9C2.ok = true := by kernel_rfl
theorem w9_6 : w9C2.cx.length = 16 := by kernel_rfl
theorem jI : LP Tryz.prog gm 8 [] [] (fun _ => (.bool true, [])) := by
 have hn : LP Tryz.prog gm 23 [iAV 2, iAV 1] [] (fun _ => (.tup [w9C.av, iAV 0], [])) := by
   have := cnewc_c (G := gm) 2 1
   rwa [show wX 2 1 = (w9C, 0) by kernel_rfl] at this
 have hp : LP Tryz.prog gm 33 [w9H.av, bv [9]] [] (fun _ => (bv w9P, [])) := yr w9H [9] (.inl rfl) (by decide)
 have h1 := jS w9C w9P
 rw [w9_1] at h1
 have h2 := jS w9C1 w9P
 rw [w9_2] at h2
 obtain ⟨k, hk⟩ := w9_3
 have h3 := fpeek_c (G := gm) w9Y1
 rw [hk] at h3
 have h4 := w9_4
 have h5 := zl (G := gm) w9C2
 rw [w9_5] at h5
 have h6 := w9_6
 clear hk
 generalize w9C2 = C2 at h2 h5 h6
 generalize w9Y2 = Y2 at h2 h4
 generalize w9C1 = C1 at h1 h2
 generalize w9Y1 = Y1 at h1 h3
 generalize w9P = P at h1 h2 hp
 obtain ⟨m2, q2, x2⟩ := C2
 obtain ⟨m1, q1, x1⟩ := C1
 refine goW [] Tryz.func8 rfl ?_
 conv => whnf
 repeat' ((first | (show LC _ _ _ _ _ _; first | refine LC.mk' (hp) [_] ⟨LF.eq rfl, LF.rowF InL.here ?_, trivial⟩ ?_ | refine LC.pure (hn) ?_ | refine LC.pure (h1) ?_ | refine LC.pure (h2) ?_ | refine LC.pure (h3) ?_ | refine LC.pure (h5) ?_ | refine goE ?_) | refine T.s ?_ | ((first | apply goB | apply AB.dec | apply AB.gen) <;> intro h) | refine LQ.mk fun r => ?_ | exact T.z | fail) <;> conv => whnf)
 all_goals (try dsimp only)
 all_goals first
   | rfl
   | ((show RL _ _ _; refine goR ?_); rfl)
   | ((show RL _ _ _; refine goR ?_); simp_all [qo]; done)
   | trace_state
end Go.Proofs.YtbagbjacmakfhaaGreatDoor
