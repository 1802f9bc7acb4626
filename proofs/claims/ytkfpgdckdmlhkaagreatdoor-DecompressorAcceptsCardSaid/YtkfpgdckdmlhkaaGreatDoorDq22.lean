/-
  Contracts of the functions that the laws reach.
-/
import Derived.Test.YtkfpgdckdmlhkaaGreatDoorDq01
import Derived.Test.YtkfpgdckdmlhkaaGreatDoorDq02
import Derived.Test.YtkfpgdckdmlhkaaGreatDoorDq03
import Derived.Test.YtkfpgdckdmlhkaaGreatDoorDq04
import Derived.Test.YtkfpgdckdmlhkaaGreatDoorDq05
import Derived.Test.YtkfpgdckdmlhkaaGreatDoorDq06
import Derived.Test.YtkfpgdckdmlhkaaGreatDoorDq07
import Derived.Test.YtkfpgdckdmlhkaaGreatDoorDq08
import Derived.Test.YtkfpgdckdmlhkaaGreatDoorDq10
import Derived.Test.YtkfpgdckdmlhkaaGreatDoorDq14
import Derived.Test.YtkfpgdckdmlhkaaGreatDoorDq15
import Derived.Test.YtkfpgdckdmlhkaaGreatDoorDq16
import Derived.Test.YtkfpgdckdmlhkaaGreatDoorDq17
import Derived.Test.YtkfpgdckdmlhkaaGreatDoorDq18
import Derived.Test.YtkfpgdckdmlhkaaGreatDoorDq19
import Derived.Test.YtkfpgdckdmlhkaaGreatDoorDq20
import Derived.Test.YtkfpgdckdmlhkaaGreatDoorDq21
set_option maxHeartbeats 8000000
set_option linter.all false
namespace Go.Proofs.YtkfpgdckdmlhkaaGreatDoor
open Go.RowKit
variable {G : Nat → AV}
theorem LTo.cop {c : Co} {i0 : Nat} {R p : Nm} {m l : LS} (hp : LH l p fun cc _ _ => cc.cs = (c.at i0).rf.flatMap Hd.cs) (h : LH l R fun cc s _ => cc.cs = cpR c i0 p c.cx.length ∧ LEra (s ⟨cc.ty, c.cx.flatMap Sn.cs⟩) [p] (LB m)) : LTo m l := by
 refine LTo.frz R [p] (c.cx.flatMap Sn.cs) (LH.mono h fun cc s _ hh => ⟨?_, hh.2⟩)
 rw [hh.1, ← kj]
 exact cpR_frz InL.here hp _
theorem cx_le {l : List Sn} {i : Nat} (hi : i < l.length) : 0 + (i : Int).toNat * 9 + 9 ≤ (l.flatMap Sn.cs).length := by rw [qy Sn.cs_len]; omega
theorem yT {l : List Hd} (h : 0 < l.length ∧ l.length ≤ 32) : 15 ≤ (List.drop ((q7 .sub .i64 (l.length : Int) 1).toNat * 15) (l.flatMap Hd.cs)).length := by
 have := xG h
 rw [Nat.zero_add] at this
 rw [this, List.length_drop, qy Hd.cs_len]
 omega
theorem rec_lastE {l : List Hd} (h : 0 < l.length ∧ l.length ≤ 32) : 15 ≤ (List.drop (0 + (q7 .sub .i64 (l.length : Int) 1).toNat * 15) (l.flatMap Hd.cs)).length := by
 rw [Nat.zero_add]; exact yT h
theorem AC.cxA {c : Co} {i0 o m : Nat} {K : AV → Prop} (ho : o = i0 * 9) (hm : m = 9) (h : i0 < c.cx.length) (k : K (.agg (c.at i0).cs)) : AC true (((c.cx.flatMap Sn.cs).drop o).take m) K := AC.recd Sn.cs_len i0 Sn.z ho hm h k
theorem LC.findD {c : Co} {hd : Hd} {R : Nm} {l : LS} {K : AV → LS → Prop} (hs : LP Tryz.prog G 47 [c.av, hd.av] [] (fun _ => (yx (zD c.cx hd), []))) (h : LH l R fun cc _ _ => cc.cs = c.cx.flatMap Sn.cs) (k : K (yx (zD c.cx hd)) l) :
   LC Tryz.prog G 47 [.agg [.int .i64 c.m, .int .i64 c.w, .vw R 0 c.cx.length 9], hd.av] l K :=
 LC.lend hs [R] ⟨LF.agg (xs := [.int .i64 c.m, .int .i64 c.w, .vw R 0 c.cx.length 9]) (ys := [iAV c.m, iAV c.w, snv c.cx]) ⟨.eq rfl, .eq rfl, LF.row InL.here (LH.mono h fun _ _ _ e => ⟨by decide, by rw [e]; exact qy Sn.cs_len _, rfl, e.symm⟩), trivial⟩, .eq rfl, trivial⟩ (Flat.tup (Flat.cons (Flat.int _ _) (Flat.cons (Flat.bool _) Flat.nil))) k
theorem ECps15_1 {p : Prop} (h : p := by (repeat' first | exact trivial | (refine And.intro ?_ ?_) | exact LB.nil | (with_reducible exact LB.refl) | (apply LB.cons; (repeat first | refine goH ?_ | apply LH.here | apply LH.next); refine And.intro ?_ ?_; (focus (try (first | (with_reducible rfl) | (refine congrArg (Pl.mk _) ?_; (first | rfl | (simp; done))) | rfl | (with_reducible refine congrArg (Pl.mk _) ?_))))) | (with_reducible assumption) | fail | (show (_ : AV) = _; (first | (focus (apply Eq.trans; (conv => lhs; whnf); (conv => rhs; whnf); done)) | rfl | ((conv => lhs; whnf); first | rfl | (refine congrArg (AV.int _) ?_; (exact T.num)) | (refine congrArg AV.bool ?_; (exact T.num)) | (refine vwc ?_; first | (exact T.num) | (first | rfl | (simp; done))) | (refine qa ?_ ?_ <;> first | (exact T.num) | (first | rfl | (simp; done))) | (first | rfl | (simp; done))))) | ((with_reducible first | (show (_ : Int) ≤ _) | (show (_ : Int) < _) | (show (_ : Nat) ≤ _) | (show (_ : Nat) < _) | (show (_ : Int) = _) | (show (_ : Nat) = _)); (exact T.num)) | (first | rfl | (simp; done))); first | done | fail) : p := h
theorem r9raw_e (c : Co) (b : List UInt8) (hc : c.ok = true) (hb : ¬ (b = [] ∨ 1500 < b.length)) (hp : ¬ (qv b).2 = 0) : LP Tryz.prog G 21 [c.av, bv b] [] (fun q => (.tup [.agg [iAV c.m, iAV c.w, .vw q 0 c.cx.length 9], bv (zu (yU b)).1, iAV 0], [(q, ⟨59, c.cx.flatMap Sn.cs⟩)])) := by
 have hv := zO (G := G) c
 rw [hc] at hv
 have hb2 : ¬ (b.length : Int) = 0 := fun h => hb (.inl (List.eq_nil_of_length_eq_zero (by omega)))
 have hb3 : ¬ 1500 < (b.length : Int) := fun h => hb (.inr (by omega))
 have hcp := j4 (G := G) c hc 0 (by decide)
 have hpr := j2 (G := G) b (by omega)
 have hfd := j3 (G := G) c hc (qv b).1.1
 clear hb
 refine goW [5] Tryz.func21 rfl ?_
 conv => whnf
 repeat' ((first | (show LFreshN _ _; refine LFreshN.two fun R p => ?_; dsimp only [n0_e, n1_e, List.cons_append, List.nil_append]; conv => whnf) | ((with_reducible show AB (qu .neq _ _) _ _); first | refine AB.neqT (by assumption) ?_ | refine AB.neqF (by assumption) ?_) | (show AtC 5 _ _ _ _ _ _ _; apply AtC.mkF (id := 5) (S := Nm × Nm × Nm × Nm) (_, _, _, R); (focus (refine And.intro ?_ (And.intro ?_ (And.intro ?_ ?_)); (focus exact ECps15_1); (focus (exact T.sm)); (focus (dsimp only; refine LTo.cop (c := c) (i0 := 0) (R := R) (p := p) ?_ ?_; (focus ((repeat first | refine goH ?_ | apply LH.here | apply LH.next); rfl)); (repeat first | refine goH ?_ | apply LH.here | apply LH.next); refine And.intro rfl ?_; (repeat first | refine goH ?_ | apply LH.here | apply LH.next); (repeat' first | exact LB.nil | (with_reducible exact LB.refl) | (apply LB.cons; (repeat first | refine goH ?_ | apply LH.here | apply LH.next); refine And.intro ?_ ?_; (focus (try (first | (with_reducible rfl) | (refine congrArg (Pl.mk _) ?_; (first | rfl | (simp; done))) | rfl | (with_reducible refine congrArg (Pl.mk _) ?_)))))))); (focus exact trivial)))) | exact Nm.b 0 | (show LC _ _ _ _ _ _; first | refine LC.pure (hv) ?_ | refine LC.mkN (hcp) [] (LFs.refl _) ?_ | refine LC.pure (hpr) ?_ | refine LC.pure (r9raw_c b) ?_ | refine goE ?_) | refine T.s ?_ | ((first | apply goB | apply AB.dec | apply AB.gen) <;> intro h) | refine LQ.mk fun r => ?_ | refine LFreshN.two fun r r2 => ?_ | refine LFreshN.three fun r r2 r3 => ?_ | (show SQ _ _ _ _ _ _ _; first | refine gX 8 [0, 2] [0, 1, 2, 3, 4, 5] [] ?_ | refine gX 11 [0, 2] [0, 1, 2, 3, 4, 5] [] ?_ | refine gX 19 [2, 1] [0, 2, 1, 3, 4, 5] [] ?_ | refine gX 21 [0, 2] [0, 1, 2, 3, 4, 5] [] ?_ | refine gX 24 [1, 3] [0, 1, 2, 3, 4, 5, 6] [] ?_ | refine gX 25 [15, 13] [0, 1, 2, 3, 4, 5, 6, 7, 8, 9, 10, 11, 12, 14, 15, 13, 16, 17, 18, 19] [] ?_) | (show CutL _ _ _ _ _ _ _ _; first | (refine goK tQ [5] 5 (S := Nm × Nm × Nm × Nm) [1] (fun (a, z, o, R) => ⟨[(2, .ptr a 0), (4, .ptr z 0), (7, .ptr o 0)], [(a, ⟨41, [iAV c.m, iAV c.w, snv c.cx]⟩), (z, ⟨41, [iAV 0, iAV 0, .nils]⟩), (o, ⟨41, [iAV c.m, iAV c.w, .vw R 0 c.cx.length 9]⟩), (R, ⟨59, c.cx.flatMap Sn.cs⟩)], True, 0⟩) ?_ ?_; (rintro ⟨a, z, o, R⟩ -); rotate_left) | refine CutL.go tQ [5] ?_) | (show AtC 5 _ _ _ _ _ _ _; first | (apply AtC.mk' (id := 5) (S := Nm × Nm × Nm × Nm) ((_, _, _, _)); focus (refine T.a4 ?_ ?_ ?_ <;> exact ECps15_1))) | (show (_ → _) ∧ (¬ _ → _); first | refine T.y ?_ | refine qn (fun h => ?_) (fun h => ?_)) | exact T.z | fail) <;> conv => whnf)
 all_goals (try dsimp only)
 all_goals first
   | (refine RL.cpo rfl ?_; (repeat first | refine goH ?_ | apply LH.here | apply LH.next); rfl)
   | trace_state
theorem ECps15_2 {p : Prop} (h : p := by (repeat' first | exact trivial | (refine And.intro ?_ ?_) | exact LB.nil | (with_reducible exact LB.refl) | (apply LB.cons; (repeat first | refine goH ?_ | apply LH.here | apply LH.next); refine And.intro ?_ ?_; (focus (try (first | (with_reducible rfl) | (refine congrArg (Pl.mk _) ?_; (first | rfl | (simp; done))) | rfl | (with_reducible refine congrArg (Pl.mk _) ?_))))) | (with_reducible assumption) | fail | (show (_ : AV) = _; (first | (focus (apply Eq.trans; (conv => lhs; whnf); (conv => rhs; whnf); done)) | rfl | ((conv => lhs; whnf); first | rfl | (refine congrArg (AV.int _) ?_; (exact T.num)) | (refine congrArg AV.bool ?_; (exact T.num)) | (refine vwc ?_; first | (exact T.num) | (first | rfl | (simp; done))) | (refine qa ?_ ?_ <;> first | (exact T.num) | (first | rfl | (simp; done))) | (first | rfl | (simp; done))))) | ((with_reducible first | (show (_ : Int) ≤ _) | (show (_ : Int) < _) | (show (_ : Nat) ≤ _) | (show (_ : Nat) < _) | (show (_ : Int) = _) | (show (_ : Nat) = _)); (exact T.num)) | (first | rfl | (simp; done))); first | done | fail) : p := h
theorem r9raw_n (c : Co) (b : List UInt8) (hc : c.ok = true) (hb : ¬ (b = [] ∨ 1500 < b.length)) (hp : (qv b).2 = 0) (hf : zD c.cx (qv b).1.1 = none) : LP Tryz.prog G 21 [c.av, bv b] [] (fun q => (.tup [.agg [iAV c.m, iAV c.w, .vw q 0 c.cx.length 9], bv (zu (yU b)).1, iAV 0], [(q, ⟨59, c.cx.flatMap Sn.cs⟩)])) := by
 have hv := zO (G := G) c
 rw [hc] at hv
 have hb2 : ¬ (b.length : Int) = 0 := fun h => hb (.inl (List.eq_nil_of_length_eq_zero (by omega)))
 have hb3 : ¬ 1500 < (b.length : Int) := fun h => hb (.inr (by omega))
 have hcp := j4 (G := G) c hc 0 (by decide)
 have hpr := j2 (G := G) b (by omega)
 have hfd := j3 (G := G) c hc (qv b).1.1
 rw [hp] at hpr
 clear hb
 refine goW [5] Tryz.func21 rfl ?_
 conv => whnf
 repeat' ((first | (show LFreshN _ _; refine LFreshN.two fun R p => ?_; dsimp only [n0_e, n1_e, List.cons_append, List.nil_append]; conv => whnf) | ((with_reducible show AB (qu .neq _ _) _ _); first | refine AB.neqT (by assumption) ?_ | refine AB.neqF (by assumption) ?_) | (show LC _ _ 47 _ _ _; refine LC.findD (c := c) (hd := (qv b).1.1) hfd ?_ ?_; (focus ((repeat first | refine goH ?_ | apply LH.here | apply LH.next); rfl)); rw [hf]; conv => whnf) | (show AtC 5 _ _ _ _ _ _ _; apply AtC.mkF (id := 5) (S := Nm × Nm × Nm × Nm) (_, _, _, R); (focus (refine And.intro ?_ (And.intro ?_ (And.intro ?_ ?_)); (focus exact ECps15_2); (focus (exact T.sm)); (focus (dsimp only; refine LTo.cop (c := c) (i0 := 0) (R := R) (p := p) ?_ ?_; (focus ((repeat first | refine goH ?_ | apply LH.here | apply LH.next); rfl)); (repeat first | refine goH ?_ | apply LH.here | apply LH.next); refine And.intro rfl ?_; (repeat first | refine goH ?_ | apply LH.here | apply LH.next); (repeat' first | exact LB.nil | (with_reducible exact LB.refl) | (apply LB.cons; (repeat first | refine goH ?_ | apply LH.here | apply LH.next); refine And.intro ?_ ?_; (focus (try (first | (with_reducible rfl) | (refine congrArg (Pl.mk _) ?_; (first | rfl | (simp; done))) | rfl | (with_reducible refine congrArg (Pl.mk _) ?_)))))))); (focus exact trivial)))) | exact Nm.b 0 | (show LC _ _ _ _ _ _; first | refine LC.pure (hv) ?_ | refine LC.mkN (hcp) [] (LFs.refl _) ?_ | refine LC.pure (hpr) ?_ | refine LC.pure (r9raw_c b) ?_ | refine goE ?_) | refine T.s ?_ | ((first | apply goB | apply AB.dec | apply AB.gen) <;> intro h) | refine LQ.mk fun r => ?_ | refine LFreshN.two fun r r2 => ?_ | refine LFreshN.three fun r r2 r3 => ?_ | (show SQ _ _ _ _ _ _ _; first | refine gX 8 [0, 2] [0, 1, 2, 3, 4, 5] [] ?_ | refine gX 11 [0, 2] [0, 1, 2, 3, 4, 5] [] ?_ | refine gX 19 [2, 1] [0, 2, 1, 3, 4, 5] [] ?_ | refine gX 21 [0, 2] [0, 1, 2, 3, 4, 5] [] ?_ | refine gX 24 [1, 3] [0, 1, 2, 3, 4, 5, 6] [] ?_ | refine gX 25 [15, 13] [0, 1, 2, 3, 4, 5, 6, 7, 8, 9, 10, 11, 12, 14, 15, 13, 16, 17, 18, 19] [] ?_) | (show CutL _ _ _ _ _ _ _ _; first | (refine goK tQ [5] 5 (S := Nm × Nm × Nm × Nm) [1] (fun (a, z, o, R) => ⟨[(2, .ptr a 0), (4, .ptr z 0), (7, .ptr o 0)], [(a, ⟨41, [iAV c.m, iAV c.w, snv c.cx]⟩), (z, ⟨41, [iAV 0, iAV 0, .nils]⟩), (o, ⟨41, [iAV c.m, iAV c.w, .vw R 0 c.cx.length 9]⟩), (R, ⟨59, c.cx.flatMap Sn.cs⟩)], True, 0⟩) ?_ ?_; (rintro ⟨a, z, o, R⟩ -); rotate_left) | refine CutL.go tQ [5] ?_) | (show AtC 5 _ _ _ _ _ _ _; first | (apply AtC.mk' (id := 5) (S := Nm × Nm × Nm × Nm) ((_, _, _, _)); focus (refine T.a4 ?_ ?_ ?_ <;> exact ECps15_2))) | (show (_ → _) ∧ (¬ _ → _); first | refine T.y ?_ | refine qn (fun h => ?_) (fun h => ?_)) | exact T.z | fail) <;> conv => whnf)
 all_goals (try dsimp only)
 all_goals first
   | (refine RL.cpo rfl ?_; (repeat first | refine goH ?_ | apply LH.here | apply LH.next); rfl)
   | trace_state
theorem ECps15_3 {p : Prop} (h : p := by (repeat' first | exact trivial | (refine And.intro ?_ ?_) | exact LB.nil | (with_reducible exact LB.refl) | (apply LB.cons; (repeat first | refine goH ?_ | apply LH.here | apply LH.next); refine And.intro ?_ ?_; (focus (try (first | (with_reducible rfl) | (refine congrArg (Pl.mk _) ?_; (first | rfl | (simp; done))) | rfl | (with_reducible refine congrArg (Pl.mk _) ?_))))) | (with_reducible assumption) | fail | (show (_ : AV) = _; (first | (focus (apply Eq.trans; (conv => lhs; whnf); (conv => rhs; whnf); done)) | rfl | ((conv => lhs; whnf); first | rfl | (refine congrArg (AV.int _) ?_; (exact T.num)) | (refine congrArg AV.bool ?_; (exact T.num)) | (refine vwc ?_; first | (exact T.num) | (first | rfl | (simp; done))) | (refine qa ?_ ?_ <;> first | (exact T.num) | (first | rfl | (simp; done))) | (first | rfl | (simp; done))))) | ((with_reducible first | (show (_ : Int) ≤ _) | (show (_ : Int) < _) | (show (_ : Nat) ≤ _) | (show (_ : Nat) < _) | (show (_ : Int) = _) | (show (_ : Nat) = _)); (exact T.num)) | (first | rfl | (simp; done))); first | done | fail) : p := h
theorem r9raw_1 (c : Co) (b : List UInt8) (hc : c.ok = true) (hb : ¬ (b = [] ∨ 1500 < b.length)) (i0 : Nat) (hp : (qv b).2 = 0) (hf : zD c.cx (qv b).1.1 = some i0) (ha : (c.at i0).act = true) (hm : c.m = 3) (ho : sg 16 (c.at i0).lst.num (qv b).1.1.num < 1) : LP Tryz.prog G 21 [c.av, bv b] [] (fun q => (.tup [.agg [iAV c.m, iAV c.w, .vw q 0 c.cx.length 9], bv (zu (yU b)).1, iAV 0], [(q, ⟨59, c.cx.flatMap Sn.cs⟩)])) := by
 have hv := zO (G := G) c
 rw [hc] at hv
 have hb2 : ¬ (b.length : Int) = 0 := fun h => hb (.inl (List.eq_nil_of_length_eq_zero (by omega)))
 have hb3 : ¬ 1500 < (b.length : Int) := fun h => hb (.inr (by omega))
 have hcp := j4 (G := G) c hc 0 (by decide)
 have hpr := j2 (G := G) b (by omega)
 have hfd := j3 (G := G) c hc (qv b).1.1
 rw [hp] at hpr
 obtain ⟨hi0, hsn, -, -⟩ := jj hc hf
 have h16 := zS hc
 have hi : i0 < c.cx.length := by omega
 have hW := co_w hc
 have hn0 := yh hsn ha
 have hn1 := sn_rf hsn hW.2.2.2
 have hn2 : 0 < ((c.at i0).rf.length : Int) := by omega
 clear hb
 refine goW [5] Tryz.func21 rfl ?_
 conv => whnf
 repeat' ((first | (show LFreshN _ _; refine LFreshN.two fun R p => ?_; dsimp only [n0_e, n1_e, List.cons_append, List.nil_append]; conv => whnf) | ((with_reducible show AB (qu .neq _ _) _ _); first | refine AB.neqT (by assumption) ?_ | refine AB.neqF (by assumption) ?_) | (show LC _ _ 47 _ _ _; refine LC.findD (c := c) (hd := (qv b).1.1) hfd ?_ ?_; (focus ((repeat first | refine goH ?_ | apply LH.here | apply LH.next); rfl)); rw [hf, show yx (some i0) = AV.tup [.int .i64 (i0 : Int), .bool true] from rfl]; conv => whnf) | (show AtC 5 _ _ _ _ _ _ _; apply AtC.mkF (id := 5) (S := Nm × Nm × Nm × Nm) (_, _, _, R); (focus (refine And.intro ?_ (And.intro ?_ (And.intro ?_ ?_)); (focus exact ECps15_3); (focus (exact T.sm)); (focus (dsimp only; refine LTo.cop (c := c) (i0 := 0) (R := R) (p := p) ?_ ?_; (focus ((repeat first | refine goH ?_ | apply LH.here | apply LH.next); rfl)); (repeat first | refine goH ?_ | apply LH.here | apply LH.next); refine And.intro rfl ?_; (repeat first | refine goH ?_ | apply LH.here | apply LH.next); (repeat' first | exact LB.nil | (with_reducible exact LB.refl) | (apply LB.cons; (repeat first | refine goH ?_ | apply LH.here | apply LH.next); refine And.intro ?_ ?_; (focus (try (first | (with_reducible rfl) | (refine congrArg (Pl.mk _) ?_; (first | rfl | (simp; done))) | rfl | (with_reducible refine congrArg (Pl.mk _) ?_)))))))); (focus exact trivial)))) | exact Nm.b 0 | (refine And.intro ?_ ?_; (focus (first | (with_reducible exact kD ⟨hn0, hn1⟩) | (with_reducible exact cx_le hi) | (with_reducible exact yT ⟨hn0, hn1⟩) | (with_reducible exact rec_lastE ⟨hn0, hn1⟩) | exact T.kx | exact T.side))) | (show LC _ _ _ _ _ _; first | refine LC.pure (hv) ?_ | refine LC.mkN (hcp) [] (LFs.refl _) ?_ | refine LC.pure (hpr) ?_ | refine LC.pure (r9raw_c b) ?_ | refine LC.pure (qI _) ?_ | refine LC.pure (zX 16 _ _ (by decide) (by decide)) ?_ | refine goE ?_) | (show AC _ _ _; first | (refine AC.cxA (c := c) (i0 := i0) (Nat.zero_add _) rfl hi ?_) | (refine AC.lstc (s := c.at i0) (xG ⟨hn0, hn1⟩) rfl hn0 ?_) | (refine AC.lstc (s := c.at i0) ((Nat.zero_add _).symm.trans (xG ⟨hn0, hn1⟩)) rfl hn0 ?_)) | refine T.s ?_ | ((first | apply goB | apply AB.dec | apply AB.gen) <;> intro h) | refine LQ.mk fun r => ?_ | refine LFreshN.two fun r r2 => ?_ | refine LFreshN.three fun r r2 r3 => ?_ | (show SQ _ _ _ _ _ _ _; first | refine gX 8 [0, 2] [0, 1, 2, 3, 4, 5] [] ?_ | refine gX 11 [0, 2] [0, 1, 2, 3, 4, 5] [] ?_ | refine gX 19 [2, 1] [0, 2, 1, 3, 4, 5] [] ?_ | refine gX 21 [0, 2] [0, 1, 2, 3, 4, 5] [] ?_ | refine gX 24 [1, 3] [0, 1, 2, 3, 4, 5, 6] [] ?_ | refine gX 25 [15, 13] [0, 1, 2, 3, 4, 5, 6, 7, 8, 9, 10, 11, 12, 14, 15, 13, 16, 17, 18, 19] [] ?_) | (show CutL _ _ _ _ _ _ _ _; first | (refine goK tQ [5] 5 (S := Nm × Nm × Nm × Nm) [1] (fun (a, z, o, R) => ⟨[(2, .ptr a 0), (4, .ptr z 0), (7, .ptr o 0)], [(a, ⟨41, [iAV c.m, iAV c.w, snv c.cx]⟩), (z, ⟨41, [iAV 0, iAV 0, .nils]⟩), (o, ⟨41, [iAV c.m, iAV c.w, .vw R 0 c.cx.length 9]⟩), (R, ⟨59, c.cx.flatMap Sn.cs⟩)], True, 0⟩) ?_ ?_; (rintro ⟨a, z, o, R⟩ -); rotate_left) | refine CutL.go tQ [5] ?_) | (show AtC 5 _ _ _ _ _ _ _; first | (apply AtC.mk' (id := 5) (S := Nm × Nm × Nm × Nm) ((_, _, _, _)); focus (refine T.a4 ?_ ?_ ?_ <;> exact ECps15_3))) | (show (_ → _) ∧ (¬ _ → _); first | refine T.y ?_ | refine qn (fun h => ?_) (fun h => ?_)) | exact T.z | fail) <;> conv => whnf)
 all_goals (try dsimp only)
 all_goals first
   | (refine RL.cpo rfl ?_; (repeat first | refine goH ?_ | apply LH.here | apply LH.next); rfl)
   | trace_state
theorem ECps15_4 {p : Prop} (h : p := by (repeat' first | exact trivial | (refine And.intro ?_ ?_) | exact LB.nil | (with_reducible exact LB.refl) | (apply LB.cons; (repeat first | refine goH ?_ | apply LH.here | apply LH.next); refine And.intro ?_ ?_; (focus (try (first | (with_reducible rfl) | (refine congrArg (Pl.mk _) ?_; (first | rfl | (simp; done))) | rfl | (with_reducible refine congrArg (Pl.mk _) ?_))))) | (with_reducible assumption) | fail | (show (_ : AV) = _; (first | (focus (apply Eq.trans; (conv => lhs; whnf); (conv => rhs; whnf); done)) | rfl | ((conv => lhs; whnf); first | rfl | (refine congrArg (AV.int _) ?_; (exact T.num)) | (refine congrArg AV.bool ?_; (exact T.num)) | (refine vwc ?_; first | (exact T.num) | (first | rfl | (simp; done))) | (refine qa ?_ ?_ <;> first | (exact T.num) | (first | rfl | (simp; done))) | (first | rfl | (simp; done))))) | ((with_reducible first | (show (_ : Int) ≤ _) | (show (_ : Int) < _) | (show (_ : Nat) ≤ _) | (show (_ : Nat) < _) | (show (_ : Int) = _) | (show (_ : Nat) = _)); (exact T.num)) | (first | rfl | (simp; done))); first | done | fail) : p := h
theorem r9raw_2 (c : Co) (b : List UInt8) (hc : c.ok = true) (hb : ¬ (b = [] ∨ 1500 < b.length)) (i0 : Nat) (hp : (qv b).2 = 0) (hf : zD c.cx (qv b).1.1 = some i0) (ha : (c.at i0).act = true) (hm : c.m = 3) (ho : ¬ sg 16 (c.at i0).lst.num (qv b).1.1.num < 1) (ho2 : 255 < sg 16 (c.at i0).lst.num (qv b).1.1.num) : LP Tryz.prog G 21 [c.av, bv b] [] (fun q => (.tup [.agg [iAV c.m, iAV c.w, .vw q 0 c.cx.length 9], bv (zu (yU b)).1, iAV 0], [(q, ⟨59, c.cx.flatMap Sn.cs⟩)])) := by
 have hv := zO (G := G) c
 rw [hc] at hv
 have hb2 : ¬ (b.length : Int) = 0 := fun h => hb (.inl (List.eq_nil_of_length_eq_zero (by omega)))
 have hb3 : ¬ 1500 < (b.length : Int) := fun h => hb (.inr (by omega))
 have hcp := j4 (G := G) c hc 0 (by decide)
 have hpr := j2 (G := G) b (by omega)
 have hfd := j3 (G := G) c hc (qv b).1.1
 rw [hp] at hpr
 obtain ⟨hi0, hsn, -, -⟩ := jj hc hf
 have h16 := zS hc
 have hi : i0 < c.cx.length := by omega
 have hW := co_w hc
 have hn0 := yh hsn ha
 have hn1 := sn_rf hsn hW.2.2.2
 have hn2 : 0 < ((c.at i0).rf.length : Int) := by omega
 clear hb
 refine goW [5] Tryz.func21 rfl ?_
 conv => whnf
 repeat' ((first | (show LFreshN _ _; refine LFreshN.two fun R p => ?_; dsimp only [n0_e, n1_e, List.cons_append, List.nil_append]; conv => whnf) | ((with_reducible show AB (qu .neq _ _) _ _); first | refine AB.neqT (by assumption) ?_ | refine AB.neqF (by assumption) ?_) | (show LC _ _ 47 _ _ _; refine LC.findD (c := c) (hd := (qv b).1.1) hfd ?_ ?_; (focus ((repeat first | refine goH ?_ | apply LH.here | apply LH.next); rfl)); rw [hf, show yx (some i0) = AV.tup [.int .i64 (i0 : Int), .bool true] from rfl]; conv => whnf) | (show AtC 5 _ _ _ _ _ _ _; apply AtC.mkF (id := 5) (S := Nm × Nm × Nm × Nm) (_, _, _, R); (focus (refine And.intro ?_ (And.intro ?_ (And.intro ?_ ?_)); (focus exact ECps15_4); (focus (exact T.sm)); (focus (dsimp only; refine LTo.cop (c := c) (i0 := 0) (R := R) (p := p) ?_ ?_; (focus ((repeat first | refine goH ?_ | apply LH.here | apply LH.next); rfl)); (repeat first | refine goH ?_ | apply LH.here | apply LH.next); refine And.intro rfl ?_; (repeat first | refine goH ?_ | apply LH.here | apply LH.next); (repeat' first | exact LB.nil | (with_reducible exact LB.refl) | (apply LB.cons; (repeat first | refine goH ?_ | apply LH.here | apply LH.next); refine And.intro ?_ ?_; (focus (try (first | (with_reducible rfl) | (refine congrArg (Pl.mk _) ?_; (first | rfl | (simp; done))) | rfl | (with_reducible refine congrArg (Pl.mk _) ?_)))))))); (focus exact trivial)))) | exact Nm.b 0 | (refine And.intro ?_ ?_; (focus (first | (with_reducible exact kD ⟨hn0, hn1⟩) | (with_reducible exact cx_le hi) | (with_reducible exact yT ⟨hn0, hn1⟩) | (with_reducible exact rec_lastE ⟨hn0, hn1⟩) | exact T.kx | exact T.side))) | (show LC _ _ _ _ _ _; first | refine LC.pure (hv) ?_ | refine LC.mkN (hcp) [] (LFs.refl _) ?_ | refine LC.pure (hpr) ?_ | refine LC.pure (r9raw_c b) ?_ | refine LC.pure (qI _) ?_ | refine LC.pure (zX 16 _ _ (by decide) (by decide)) ?_ | refine goE ?_) | (show AC _ _ _; first | (refine AC.cxA (c := c) (i0 := i0) (Nat.zero_add _) rfl hi ?_) | (refine AC.lstc (s := c.at i0) (xG ⟨hn0, hn1⟩) rfl hn0 ?_) | (refine AC.lstc (s := c.at i0) ((Nat.zero_add _).symm.trans (xG ⟨hn0, hn1⟩)) rfl hn0 ?_)) | refine T.s ?_ | ((first | apply goB | apply AB.dec | apply AB.gen) <;> intro h) | refine LQ.mk fun r => ?_ | refine LFreshN.two fun r r2 => ?_ | refine LFreshN.three fun r r2 r3 => ?_ | (show SQ _ _ _ _ _ _ _; first | refine gX 8 [0, 2] [0, 1, 2, 3, 4, 5] [] ?_ | refine gX 11 [0, 2] [0, 1, 2, 3, 4, 5] [] ?_ | refine gX 19 [2, 1] [0, 2, 1, 3, 4, 5] [] ?_ | refine gX 21 [0, 2] [0, 1, 2, 3, 4, 5] [] ?_ | refine gX 24 [1, 3] [0, 1, 2, 3, 4, 5, 6] [] ?_ | refine gX 25 [15, 13] [0, 1, 2, 3, 4, 5, 6, 7, 8, 9, 10, 11, 12, 14, 15, 13, 16, 17, 18, 19] [] ?_) | (show CutL _ _ _ _ _ _ _ _; first | (refine goK tQ [5] 5 (S := Nm × Nm × Nm × Nm) [1] (fun (a, z, o, R) => ⟨[(2, .ptr a 0), (4, .ptr z 0), (7, .ptr o 0)], [(a, ⟨41, [iAV c.m, iAV c.w, snv c.cx]⟩), (z, ⟨41, [iAV 0, iAV 0, .nils]⟩), (o, ⟨41, [iAV c.m, iAV c.w, .vw R 0 c.cx.length 9]⟩), (R, ⟨59, c.cx.flatMap Sn.cs⟩)], True, 0⟩) ?_ ?_; (rintro ⟨a, z, o, R⟩ -); rotate_left) | refine CutL.go tQ [5] ?_) | (show AtC 5 _ _ _ _ _ _ _; first | (apply AtC.mk' (id := 5) (S := Nm × Nm × Nm × Nm) ((_, _, _, _)); focus (refine T.a4 ?_ ?_ ?_ <;> exact ECps15_4))) | (show (_ → _) ∧ (¬ _ → _); first | refine T.y ?_ | refine qn (fun h => ?_) (fun h => ?_)) | exact T.z | fail) <;> conv => whnf)
 all_goals (try dsimp only)
 all_goals first
   | (refine RL.cpo rfl ?_; (repeat first | refine goH ?_ | apply LH.here | apply LH.next); rfl)
   | trace_state
open Go.RowKit
variable {G : Nat → AV}
theorem pars_eta {b : List UInt8} (hp : (qv b).2 = 0) : qv b = (((qv b).1.1, (qv b).1.2), 0) := by rw [← hp]
theorem kk {c : Co} {b : List UInt8} (hc : c.ok = true) (hb : ¬ (b = [] ∨ 1500 < b.length)) (h : ¬ (qv b).2 = 0 ∨ zD c.cx (qv b).1.1 = none ∨ ∃ i, zD c.cx (qv b).1.1 = some i ∧ (c.at i).act = true ∧ c.m = 3 ∧ (sg 16 (c.at i).lst.num (qv b).1.1.num < 1 ∨ 255 < sg 16 (c.at i).lst.num (qv b).1.1.num)) : qe c b = ((c, (zu (yU b)).1), 0) := by
 unfold qe
 rw [if_pos hc, if_neg hb]
 split
 · rename_i hp
   rcases h with h | h | ⟨i, h, h2⟩
   · exact absurd hp h
   · rw [h]
   · rw [h]; dsimp only; rw [if_pos h2]
 · rfl
theorem comprR_c {c : Co} {b : List UInt8} {i : Nat} (hc : c.ok = true) (hb : ¬ (b = [] ∨ 1500 < b.length)) (hp : (qv b).2 = 0) (hf : zD c.cx (qv b).1.1 = some i) (ho : ¬ ((c.at i).act = true ∧ c.m = 3 ∧ (sg 16 (c.at i).lst.num (qv b).1.1.num < 1 ∨ 255 < sg 16 (c.at i).lst.num (qv b).1.1.num))) : qe c b = (z8 c i (qv b).1.1 (qv b).1.2, 0) := by
 unfold qe
 rw [if_pos hc, if_neg hb, if_pos hp, hf]
 dsimp only
 rw [if_neg ho]
theorem comp_own (c : Co) (b : List UInt8) (hc : c.ok = true) (hb : ¬ (b = [] ∨ 1500 < b.length)) : LP Tryz.prog G 21 [c.av, bv b] [] (fun q => (.tup [.agg [iAV (qe c b).1.1.m, iAV (qe c b).1.1.w, .vw q 0 (qe c b).1.1.cx.length 9], bv (qe c b).1.2, iAV 0], [(q, ⟨59, (qe c b).1.1.cx.flatMap Sn.cs⟩)])) := by
 by_cases hp : (qv b).2 = 0
 · cases hf : zD c.cx (qv b).1.1 with
   | none =>
     rw [kk hc hb (.inr (.inl hf))]
     exact r9raw_n c b hc hb hp hf
   | some i =>
     have he := pars_eta hp
     by_cases ha : (c.at i).act = true
     · by_cases hm : c.m = 3
       · by_cases h1 : sg 16 (c.at i).lst.num (qv b).1.1.num < 1
         · rw [kk hc hb (.inr (.inr ⟨i, hf, ha, hm, .inl h1⟩))]
           exact r9raw_1 c b hc hb i hp hf ha hm h1
         · by_cases h2 : 255 < sg 16 (c.at i).lst.num (qv b).1.1.num
           · rw [kk hc hb (.inr (.inr ⟨i, hf, ha, hm, .inr h2⟩))]
             exact r9raw_2 c b hc hb i hp hf ha hm h1 h2
           · rw [comprR_c hc hb hp hf (fun h => h.2.2.elim h1 h2)]
             by_cases h3 : ((c.at i).rf.length : Int) = 32
             · exact r9comp_32 c b _ _ i hc hb he hf ha hm h3 h1 h2
             · exact r9comp_3 c b _ _ i hc hb he hf ha hm (by omega) h1 h2 h3 (fun h => h3 h.2)
       · rw [comprR_c hc hb hp hf (fun h => hm h.2.1)]
         refine r9comp_n c b _ _ i hc hb he hf ha hm (fun h => hm h.1) ?_
         have hi := (jj hc hf).1
         have h9 := ((Sn.ok_e ha).1 (co_sn hc i (by rw [zS hc]; exact hi))).1.2.1
         unfold vz at h9
         rw [if_neg hm] at h9
         exact h9
     · have ha : (c.at i).act = false := by simpa using ha
       rw [comprR_c hc hb hp hf (fun h => by rw [ha] at h; cases h.1)]
       exact r9comp_new c b _ _ i hc hb he hf ha
 · rw [kk hc hb (.inl hp)]
   exact r9raw_e c b hc hb hp
theorem comp_dat (c : Co) (b : List UInt8) : LP Tryz.prog G 21 [c.av, bv b] [] (fun _ => (cpr (qe c b), [])) := by
 cases hc : c.ok with
 | false => exact r9comp_inv c b hc
 | true =>
   by_cases hb : b = [] ∨ 1500 < b.length
   · exact r9comp_size c b hc hb
   · have h := LP.data (v' := cpr (qe c b)) (comp_own (G := G) c b hc hb) fun q => by
       have h0 := cpo_lf (qe c b).1.1 (qe c b).1.2 q
       have h1 := (compr_ok hc hb).2.1
       rw [show qe c b = (((qe c b).1.1, (qe c b).1.2), 0) by rw [← h1]]
       exact h0
     exact h
end Go.Proofs.YtkfpgdckdmlhkaaGreatDoor
