/-
  Contracts of the functions that the laws reach.
-/
import Derived.Test.YtkfpgdckdmlhkaaGreatDoorDq01
import Derived.Test.YtkfpgdckdmlhkaaGreatDoorDq02
import Derived.Test.YtkfpgdckdmlhkaaGreatDoorDq03
import Derived.Test.YtkfpgdckdmlhkaaGreatDoorDq04
import Derived.Test.YtkfpgdckdmlhkaaGreatDoorDq05
import Derived.Test.YtkfpgdckdmlhkaaGreatDoorDq06
import Derived.Test.YtkfpgdckdmlhkaaGreatDoorDq07
import Derived.Test.YtkfpgdckdmlhkaaGreatDoorDq08
import Derived.Test.YtkfpgdckdmlhkaaGreatDoorDq10
import Derived.Test.YtkfpgdckdmlhkaaGreatDoorDq11
import Derived.Test.YtkfpgdckdmlhkaaGreatDoorDq14
import Derived.Test.YtkfpgdckdmlhkaaGreatDoorDq15
import Derived.Test.YtkfpgdckdmlhkaaGreatDoorDq16
import Derived.Test.YtkfpgdckdmlhkaaGreatDoorDq24
import Derived.Test.YtkfpgdckdmlhkaaGreatDoorDq25
import Derived.Test.YtkfpgdckdmlhkaaGreatDoorDq26
set_option maxHeartbeats 8000000
set_option linter.all false
namespace Go.Proofs.YtkfpgdckdmlhkaaGreatDoor
open Go.RowKit
variable {G : Nat → AV}
theorem vB {s : Sm} {x : Hd} {f : Int} (hf : s.f = f) : wy s x = decide (zK f x = s.ck) := by subst hf; rfl
theorem hdr_lw {r : Rc} {s : Sm} {n : Int} (h4 : s.f ≠ 4) (h5 : s.f ≠ 5) : qS r s (lw 16 n) = qS r s n := by
 unfold qS
 rw [if_neg h5, if_neg h4, if_neg h5, if_neg h4, predR_lw]
theorem hdr_any {r : Rc} {s : Sm} {n n' : Int} (h : s.f = 4 ∨ s.f = 5) : qS r s n = qS r s n' := by
 unfold qS
 rcases h with h | h
 · rw [if_neg (by omega), if_pos h, if_neg (by omega), if_pos h]
 · rw [if_pos h, if_pos h]
theorem reb_A {m : Int} {r : Rc} {s : Sm} {f : Int} (hf : s.f = f) (h : zK f (qS r s (qN r s + 0)) = s.ck) : js m r s = (qS r s (qN r s + 0), true) := by
 have hz : qN r s + 0 = qN r s := Int.add_zero _
 rw [hz] at h ⊢
 by_cases h4 : s.f = 4 ∨ s.f = 5
 · rw [reb4 h4, hdr_any (n := 0) (n' := qN r s) h4, vB hf, decide_eq_true h]
 · rw [reb1 h4 (by rw [vB hf, decide_eq_true h])]
theorem reb_B {m : Int} {r : Rc} {s : Sm} {f : Int} (hf : s.f = f) (h : ¬ zK f (qS r s (qN r s + 0)) = s.ck) (h1 : f = 1) (hm : m ≠ 3) (h2 : zK f (qS r s (qN r s + 16)) = s.ck) : js m r s = (qS r s (qN r s + 16), true) := by
 rw [Int.add_zero] at h
 rw [reb3 (by omega) (by rw [vB hf, decide_eq_false h]) (by omega), hdr_lw (by omega) (by omega), vB hf, decide_eq_true h2]
theorem reb_C {m : Int} {r : Rc} {s : Sm} {f : Int} (hf : s.f = f) (h : ¬ zK f (qS r s (qN r s + 0)) = s.ck) (h1 : ¬ (f = 1 ∧ m ≠ 3 ∧ zK f (qS r s (qN r s + 16)) = s.ck)) : ∃ x, js m r s = (x, false) := by
 rw [Int.add_zero] at h
 by_cases h4 : s.f = 4 ∨ s.f = 5
 · rw [reb4 h4, hdr_any (n := 0) (n' := qN r s) h4, vB hf, decide_eq_false h]
   exact ⟨_, rfl⟩
 · by_cases h5 : s.f ≠ 1 ∨ m = 3
   · exact ⟨_, reb2 h4 (by rw [vB hf, decide_eq_false h]) h5⟩
   · rw [reb3 h4 (by rw [vB hf, decide_eq_false h]) h5, hdr_lw (by omega) (by omega), vB hf, decide_eq_false (fun h2 => h1 ⟨by omega, by omega, h2⟩)]
     exact ⟨_, rfl⟩
theorem zz_num : Rc.z.la.num = 0 := by simp [Rc.z, Hd.num, Hd.z]; unfold lw; rfl
theorem rq1 {r : Rc} (hr : r.ok = true) (h : ¬ q7 .add .i64 r.er 1 = 3) : ku r = { r with er := q7 .add .i64 r.er 1 } := by
 have := (xN hr).1
 refine refR1 this ?_
 rw [er1 this] at h ⊢
 omega
theorem rq2 {r : Rc} (hr : r.ok = true) (h : q7 .add .i64 r.er 1 = 3) (hs : r.st = 2) : ku r = { r with er := 0, st := 1 } := by
 have h1 := (xN hr).1
 have h2 := (xN hr).2.1
 have e := st1 h2
 rw [refR3 h1 h2 (by omega) (by rw [e]; omega), e, hs]
 rfl
theorem rq3 {r : Rc} (hr : r.ok = true) (h : q7 .add .i64 r.er 1 = 3) (hs : ¬ r.st = 2) : ku r = Rc.z := by
 have h1 := (xN hr).1
 have h2 := (xN hr).2.1
 exact refR2 h1 h2 (by omega) (by rw [st1 h2]; omega)
section
variable (d : De) (b : List UInt8) (hb : b.length ≤ 140737488355328)
theorem rdc_A (h : d.ok = true) (hl : d.cx.length = 16) (i : Nat) (f : Int) (hp : ql b = ((i : Int), f, 0)) (hi : i < d.cx.length) (h6 : f ≠ 6) (hr : (d.cx.getD i Rc.z).ok = true) (hs : ¬ (d.cx.getD i Rc.z).st < zw f) (s : Sm) (hD : qY b hb (d.cx.getD i Rc.z).la.k (decide ((d.cx.getD i Rc.z).la.ck ≠ 0)) = .inl s) (hf : 1 ≤ s.f ∧ s.f ≤ 5) (he : s.f = f) (hn : 0 ≤ s.n ∧ s.n < 65536) (hpl : s.pl.length ≤ 1500) (hA : zK f (qS (d.cx.getD i Rc.z) s (qN (d.cx.getD i Rc.z) s + 0)) = s.ck) : LP Tryz.prog G 23 [d.av, bv b] [] (fun _ => (dre (qk d b hb), [])) := by
 rw [dcp_g (r := d.cx.getD i Rc.z) h hp h6 rfl hs hD]
 have hv := zI (G := G) d
 rw [h] at hv
 have hq := ji (G := G) b
 rw [hp] at hq
 dsimp only [pe] at hq
 have hst := (xN hr).2.1
 have hs' : ¬ (f ≠ 5 ∧ ((d.cx.getD i Rc.z).st = 0 ∨ (d.cx.getD i Rc.z).st = 1 ∧ f ≠ 4)) := by
   unfold zw at hs
   (repeat' split at hs) <;> omega
 have hd : LP Tryz.prog G 28 [bv b, iAV (d.cx.getD i Rc.z).la.k, .bool (qu .neq (d.cx.getD i Rc.z).la.ck 0)] [] (fun _ => (.tup [s.av, iAV 0], [])) := by
   have := jQ (G := G) b hb (d.cx.getD i Rc.z).la.k (qu .neq (d.cx.getD i Rc.z).la.ck 0)
   rw [xp, hD, jJ] at this
   rw [xp]
   exact this
 have hk : (d.cx.getD i Rc.z).la.k = 1 ∨ (d.cx.getD i Rc.z).la.k = 2 ∨ 4 ≤ s.f := by
   by_cases h4 : 4 ≤ s.f
   · exact .inr (.inr h4)
   · have h1 : 1 ≤ (d.cx.getD i Rc.z).st := by
       unfold zw at hs
       (repeat' split at hs) <;> omega
     rcases ok_k ((xN hr).2.2.2 h1).1 with hk | hk
     · exact .inl hk
     · exact .inr (.inl hk)
 have hH0 := kH (G := G) (d.cx.getD i Rc.z) s 0 (by decide) hf hk hn
 have hx := reb_A (m := d.m) he hA
 clear hD hp hk hr
 have hV0 := zy (G := G) (qS (d.cx.getD i Rc.z) s (qN (d.cx.getD i Rc.z) s + 0)) f
 generalize qS (d.cx.getD i Rc.z) s (qN (d.cx.getD i Rc.z) s + 0) = x0 at hH0 hV0 hA hx
 generalize zK f x0 = v0 at hA hV0
 have hBl := kE (G := G) x0 s.pl (by omega)
 have k1 := fun hz => decP_g (d := d) (c := (i : Int)) hx hz
 have k2 := fun hz => decP_b (d := d) (c := (i : Int)) hx hz
 generalize (zm x0 s.pl).2 = E at hBl k1 k2
 generalize (zm x0 s.pl).1 = B at hBl k1 k2
 clear hx
 by_cases hE : E = 0
 · subst hE
   rw [k1 rfl]
   clear k1 k2
   refine goW [] Tryz.func23 rfl ?_
   conv => whnf
   repeat' ((first | exact Nm.b 0 | (refine And.intro ?_ ?_; (focus (first | (show KeepX _ _ _; exact KeepX.refl) | (show _ ≤ (List.flatMap Rc.cs _).length; rw [qy Rc.cs_len]; (try dsimp only); omega) | exact T.kx | exact T.side))) | (show LC _ _ _ _ _ _; first | refine LC.pure (hv) ?_ | refine LC.own (xc d (by omega)) ?_ | refine LC.pure (hq) ?_ | refine LC.pure (hd) ?_ | refine LC.pure (hH0) ?_ | refine LC.pure (hV0) ?_ | refine LC.pure (hBl) ?_ | refine LC.pure (qI _) ?_ | refine goE ?_) | (show AC _ _ _; first | (refine AC.recd Rc.cs_len i Rc.z ?_ rfl hi ?_; (focus ((try dsimp only); omega)))) | (show AQ _ _; first | (refine AQ.rsetW Rc.cs_len Rc.z (⟨2, x0, s.d, 0⟩) hi ?_ ?_ ?_; (focus ((try dsimp only); omega)); (focus rfl)) | (refine AQ.rsetW Rc.cs_len Rc.z (⟨2, x0, (d.cx.getD i Rc.z).dy, 0⟩) hi ?_ ?_ ?_; (focus ((try dsimp only); omega)); (focus rfl))) | refine T.s ?_ | ((first | apply goB | apply AB.dec | apply AB.gen) <;> intro h <;> try (exfalso; omega)) | refine LQ.mk fun r => ?_ | (show SQ _ _ _ _ _ _ _; first | refine gX 10 [0, 3] [0, 1, 2, 3, 4, 5, 6, 7] [] ?_ | refine gX 16 [0, 3] [0, 1, 2, 3, 4, 5, 6, 7] [] ?_ | refine gX 21 [4, 2] [0, 1, 3, 4, 2, 5, 6] [] ?_ | refine gX 24 [4, 2] [0, 1, 3, 4, 2, 5, 6] [] ?_ | (apply goD tQ qb 29 [0, 2] [0, 1, 2, 3, 4, 5, 6] [_] (by kernel_rfl)) | refine gX 34 [0, 4] [0, 1, 2, 3, 4, 5, 7, 8, 6, 9, 10] [] ?_ | refine gX 46 [0, 3] [0, 1, 2, 3, 4, 5, 6, 7] [] ?_) | (show (_ → _) ∧ (¬ _ → _); first | refine T.y ?_ | refine qn (fun h => ?_) (fun h => ?_)) | exact T.z | fail) <;> try (show (_ : Prop); conv => whnf))
   all_goals (try dsimp only)
   all_goals first
     | (exfalso; omega)
     | (rw [acc_y (by omega), ack_n (by omega)]; refine RL.dre (.b _) .n (by simp) ?_; (repeat first | refine goH ?_ | apply LH.here | apply LH.next); rfl)
     | (rw [acc_n (by omega), ack_n (by omega)]; refine RL.dre (.b _) .n (by simp) ?_; (repeat first | refine goH ?_ | apply LH.here | apply LH.next); rfl)
     | (rw [acc_y (by omega), ack_y (by omega)]; refine RL.dreG [_, _] (LF.rcv InL.here (by simp) ?_) (LF.eq rfl) (LF.row (InL.next InL.here) ?_) ?_; (focus ((repeat first | refine goH ?_ | apply LH.here | apply LH.next); rfl)); (focus ((repeat first | refine goH ?_ | apply LH.here | apply LH.next); exact ⟨by decide, rfl, rfl, rfl⟩)); (repeat first | refine goH ?_ | apply LH.here | apply LH.next); exact LB.nil)
     | (rw [acc_n (by omega), ack_y (by omega)]; refine RL.dreG [_, _] (LF.rcv InL.here (by simp) ?_) (LF.eq rfl) (LF.row (InL.next InL.here) ?_) ?_; (focus ((repeat first | refine goH ?_ | apply LH.here | apply LH.next); rfl)); (focus ((repeat first | refine goH ?_ | apply LH.here | apply LH.next); exact ⟨by decide, rfl, rfl, rfl⟩)); (repeat first | refine goH ?_ | apply LH.here | apply LH.next); exact LB.nil)
     | trace_state
 · rw [k2 hE]
   clear k1 k2
   refine goW [] Tryz.func23 rfl ?_
   conv => whnf
   repeat' ((first | exact Nm.b 0 | (refine And.intro ?_ ?_; (focus (first | (show KeepX _ _ _; exact KeepX.refl) | (show _ ≤ (List.flatMap Rc.cs _).length; rw [qy Rc.cs_len]; (try dsimp only); omega) | exact T.kx | exact T.side))) | (show LC _ _ _ _ _ _; first | refine LC.pure (hv) ?_ | refine LC.own (xc d (by omega)) ?_ | refine LC.pure (hq) ?_ | refine LC.pure (hd) ?_ | refine LC.pure (hH0) ?_ | refine LC.pure (hV0) ?_ | refine LC.pure (hBl) ?_ | refine LC.pure (qI _) ?_ | refine goE ?_) | (show AC _ _ _; first | (refine AC.recd Rc.cs_len i Rc.z ?_ rfl hi ?_; (focus ((try dsimp only); omega)))) | refine T.s ?_ | ((first | apply goB | apply AB.dec | apply AB.gen) <;> intro h <;> try (exfalso; omega)) | refine LQ.mk fun r => ?_ | (show SQ _ _ _ _ _ _ _; first | refine gX 10 [0, 3] [0, 1, 2, 3, 4, 5, 6, 7] [] ?_ | refine gX 16 [0, 3] [0, 1, 2, 3, 4, 5, 6, 7] [] ?_ | refine gX 21 [4, 2] [0, 1, 3, 4, 2, 5, 6] [] ?_ | refine gX 24 [4, 2] [0, 1, 3, 4, 2, 5, 6] [] ?_ | (apply goD tQ qb 29 [0, 2] [0, 1, 2, 3, 4, 5, 6] [_] (by kernel_rfl)) | refine gX 34 [0, 4] [0, 1, 2, 3, 4, 5, 7, 8, 6, 9, 10] [] ?_ | refine gX 46 [0, 3] [0, 1, 2, 3, 4, 5, 6, 7] [] ?_) | (show (_ → _) ∧ (¬ _ → _); first | refine T.y ?_ | refine qn (fun h => ?_) (fun h => ?_)) | exact T.z | fail) <;> try (show (_ : Prop); conv => whnf))
   all_goals (try dsimp only)
   all_goals first
     | (exfalso; omega)
     | (refine RL.dre .n .n rfl ?_; (repeat first | refine goH ?_ | apply LH.here | apply LH.next); rfl)
     | trace_state
theorem rdc_B (h : d.ok = true) (hl : d.cx.length = 16) (i : Nat) (f : Int) (hp : ql b = ((i : Int), f, 0)) (hi : i < d.cx.length) (h6 : f ≠ 6) (hr : (d.cx.getD i Rc.z).ok = true) (hs : ¬ (d.cx.getD i Rc.z).st < zw f) (s : Sm) (hD : qY b hb (d.cx.getD i Rc.z).la.k (decide ((d.cx.getD i Rc.z).la.ck ≠ 0)) = .inl s) (hf : 1 ≤ s.f ∧ s.f ≤ 5) (he : s.f = f) (hn : 0 ≤ s.n ∧ s.n < 65536) (hpl : s.pl.length ≤ 1500) (hA : ¬ zK f (qS (d.cx.getD i Rc.z) s (qN (d.cx.getD i Rc.z) s + 0)) = s.ck) (h1 : f = 1) (hm : d.m ≠ 3) (hB : zK f (qS (d.cx.getD i Rc.z) s (qN (d.cx.getD i Rc.z) s + 16)) = s.ck) : LP Tryz.prog G 23 [d.av, bv b] [] (fun _ => (dre (qk d b hb), [])) := by
 rw [dcp_g (r := d.cx.getD i Rc.z) h hp h6 rfl hs hD]
 have hv := zI (G := G) d
 rw [h] at hv
 have hq := ji (G := G) b
 rw [hp] at hq
 dsimp only [pe] at hq
 have hst := (xN hr).2.1
 have hs' : ¬ (f ≠ 5 ∧ ((d.cx.getD i Rc.z).st = 0 ∨ (d.cx.getD i Rc.z).st = 1 ∧ f ≠ 4)) := by
   unfold zw at hs
   (repeat' split at hs) <;> omega
 have hd : LP Tryz.prog G 28 [bv b, iAV (d.cx.getD i Rc.z).la.k, .bool (qu .neq (d.cx.getD i Rc.z).la.ck 0)] [] (fun _ => (.tup [s.av, iAV 0], [])) := by
   have := jQ (G := G) b hb (d.cx.getD i Rc.z).la.k (qu .neq (d.cx.getD i Rc.z).la.ck 0)
   rw [xp, hD, jJ] at this
   rw [xp]
   exact this
 have hk : (d.cx.getD i Rc.z).la.k = 1 ∨ (d.cx.getD i Rc.z).la.k = 2 ∨ 4 ≤ s.f := by
   by_cases h4 : 4 ≤ s.f
   · exact .inr (.inr h4)
   · have h1 : 1 ≤ (d.cx.getD i Rc.z).st := by
       unfold zw at hs
       (repeat' split at hs) <;> omega
     rcases ok_k ((xN hr).2.2.2 h1).1 with hk | hk
     · exact .inl hk
     · exact .inr (.inl hk)
 have hH0 := kH (G := G) (d.cx.getD i Rc.z) s 0 (by decide) hf hk hn
 have hH1 := kH (G := G) (d.cx.getD i Rc.z) s 16 (by decide) hf hk hn
 have hx := reb_B (m := d.m) he hA h1 hm hB
 clear hD hp hk hr
 have hV0 := zy (G := G) (qS (d.cx.getD i Rc.z) s (qN (d.cx.getD i Rc.z) s + 0)) f
 have hV1 := zy (G := G) (qS (d.cx.getD i Rc.z) s (qN (d.cx.getD i Rc.z) s + 16)) f
 generalize qS (d.cx.getD i Rc.z) s (qN (d.cx.getD i Rc.z) s + 0) = x0 at hH0 hV0 hA hx
 generalize qS (d.cx.getD i Rc.z) s (qN (d.cx.getD i Rc.z) s + 16) = x1 at hH1 hV1 hB hx
 generalize zK f x0 = v0 at hA hV0
 generalize zK f x1 = v1 at hB hV1
 have hBl := kE (G := G) x1 s.pl (by omega)
 have k1 := fun hz => decP_g (d := d) (c := (i : Int)) hx hz
 have k2 := fun hz => decP_b (d := d) (c := (i : Int)) hx hz
 generalize (zm x1 s.pl).2 = E at hBl k1 k2
 generalize (zm x1 s.pl).1 = B at hBl k1 k2
 clear hx
 by_cases hE : E = 0
 · subst hE
   rw [k1 rfl]
   clear k1 k2
   refine goW [] Tryz.func23 rfl ?_
   conv => whnf
   repeat' ((first | exact Nm.b 0 | (refine And.intro ?_ ?_; (focus (first | (show KeepX _ _ _; exact KeepX.refl) | (show _ ≤ (List.flatMap Rc.cs _).length; rw [qy Rc.cs_len]; (try dsimp only); omega) | exact T.kx | exact T.side))) | (show LC _ _ _ _ _ _; first | refine LC.pure (hv) ?_ | refine LC.own (xc d (by omega)) ?_ | refine LC.pure (hq) ?_ | refine LC.pure (hd) ?_ | refine LC.pure (hH0) ?_ | refine LC.pure (hV0) ?_ | refine LC.pure (hBl) ?_ | refine LC.pure (qI _) ?_ | refine LC.pure (hH1) ?_ | refine LC.pure (hV1) ?_ | refine goE ?_) | (show AC _ _ _; first | (refine AC.recd Rc.cs_len i Rc.z ?_ rfl hi ?_; (focus ((try dsimp only); omega)))) | (show AQ _ _; first | (refine AQ.rsetW Rc.cs_len Rc.z (⟨2, x1, s.d, 0⟩) hi ?_ ?_ ?_; (focus ((try dsimp only); omega)); (focus rfl)) | (refine AQ.rsetW Rc.cs_len Rc.z (⟨2, x1, (d.cx.getD i Rc.z).dy, 0⟩) hi ?_ ?_ ?_; (focus ((try dsimp only); omega)); (focus rfl))) | refine T.s ?_ | ((first | apply goB | apply AB.dec | apply AB.gen) <;> intro h <;> try (exfalso; omega)) | refine LQ.mk fun r => ?_ | (show SQ _ _ _ _ _ _ _; first | refine gX 10 [0, 3] [0, 1, 2, 3, 4, 5, 6, 7] [] ?_ | refine gX 16 [0, 3] [0, 1, 2, 3, 4, 5, 6, 7] [] ?_ | refine gX 21 [4, 2] [0, 1, 3, 4, 2, 5, 6] [] ?_ | refine gX 24 [4, 2] [0, 1, 3, 4, 2, 5, 6] [] ?_ | (apply goD tQ qb 29 [0, 2] [0, 1, 2, 3, 4, 5, 6] [_] (by kernel_rfl)) | refine gX 34 [0, 4] [0, 1, 2, 3, 4, 5, 7, 8, 6, 9, 10] [] ?_ | refine gX 46 [0, 3] [0, 1, 2, 3, 4, 5, 6, 7] [] ?_) | (show (_ → _) ∧ (¬ _ → _); first | refine T.y ?_ | refine qn (fun h => ?_) (fun h => ?_)) | exact T.z | fail) <;> try (show (_ : Prop); conv => whnf))
   all_goals (try dsimp only)
   all_goals first
     | (exfalso; omega)
     | (rw [acc_y (by omega), ack_n (by omega)]; refine RL.dre (.b _) .n (by simp) ?_; (repeat first | refine goH ?_ | apply LH.here | apply LH.next); rfl)
     | (rw [acc_n (by omega), ack_n (by omega)]; refine RL.dre (.b _) .n (by simp) ?_; (repeat first | refine goH ?_ | apply LH.here | apply LH.next); rfl)
     | (rw [acc_y (by omega), ack_y (by omega)]; refine RL.dreG [_, _] (LF.rcv InL.here (by simp) ?_) (LF.eq rfl) (LF.row (InL.next InL.here) ?_) ?_; (focus ((repeat first | refine goH ?_ | apply LH.here | apply LH.next); rfl)); (focus ((repeat first | refine goH ?_ | apply LH.here | apply LH.next); exact ⟨by decide, rfl, rfl, rfl⟩)); (repeat first | refine goH ?_ | apply LH.here | apply LH.next); exact LB.nil)
     | (rw [acc_n (by omega), ack_y (by omega)]; refine RL.dreG [_, _] (LF.rcv InL.here (by simp) ?_) (LF.eq rfl) (LF.row (InL.next InL.here) ?_) ?_; (focus ((repeat first | refine goH ?_ | apply LH.here | apply LH.next); rfl)); (focus ((repeat first | refine goH ?_ | apply LH.here | apply LH.next); exact ⟨by decide, rfl, rfl, rfl⟩)); (repeat first | refine goH ?_ | apply LH.here | apply LH.next); exact LB.nil)
     | trace_state
 · rw [k2 hE]
   clear k1 k2
   refine goW [] Tryz.func23 rfl ?_
   conv => whnf
   repeat' ((first | exact Nm.b 0 | (refine And.intro ?_ ?_; (focus (first | (show KeepX _ _ _; exact KeepX.refl) | (show _ ≤ (List.flatMap Rc.cs _).length; rw [qy Rc.cs_len]; (try dsimp only); omega) | exact T.kx | exact T.side))) | (show LC _ _ _ _ _ _; first | refine LC.pure (hv) ?_ | refine LC.own (xc d (by omega)) ?_ | refine LC.pure (hq) ?_ | refine LC.pure (hd) ?_ | refine LC.pure (hH0) ?_ | refine LC.pure (hV0) ?_ | refine LC.pure (hBl) ?_ | refine LC.pure (qI _) ?_ | refine LC.pure (hH1) ?_ | refine LC.pure (hV1) ?_ | refine goE ?_) | (show AC _ _ _; first | (refine AC.recd Rc.cs_len i Rc.z ?_ rfl hi ?_; (focus ((try dsimp only); omega)))) | refine T.s ?_ | ((first | apply goB | apply AB.dec | apply AB.gen) <;> intro h <;> try (exfalso; omega)) | refine LQ.mk fun r => ?_ | (show SQ _ _ _ _ _ _ _; first | refine gX 10 [0, 3] [0, 1, 2, 3, 4, 5, 6, 7] [] ?_ | refine gX 16 [0, 3] [0, 1, 2, 3, 4, 5, 6, 7] [] ?_ | refine gX 21 [4, 2] [0, 1, 3, 4, 2, 5, 6] [] ?_ | refine gX 24 [4, 2] [0, 1, 3, 4, 2, 5, 6] [] ?_ | (apply goD tQ qb 29 [0, 2] [0, 1, 2, 3, 4, 5, 6] [_] (by kernel_rfl)) | refine gX 34 [0, 4] [0, 1, 2, 3, 4, 5, 7, 8, 6, 9, 10] [] ?_ | refine gX 46 [0, 3] [0, 1, 2, 3, 4, 5, 6, 7] [] ?_) | (show (_ → _) ∧ (¬ _ → _); first | refine T.y ?_ | refine qn (fun h => ?_) (fun h => ?_)) | exact T.z | fail) <;> try (show (_ : Prop); conv => whnf))
   all_goals (try dsimp only)
   all_goals first
     | (exfalso; omega)
     | (refine RL.dre .n .n rfl ?_; (repeat first | refine goH ?_ | apply LH.here | apply LH.next); rfl)
     | trace_state
theorem rdc_C (h : d.ok = true) (hl : d.cx.length = 16) (i : Nat) (f : Int) (hp : ql b = ((i : Int), f, 0)) (hi : i < d.cx.length) (h6 : f ≠ 6) (hr : (d.cx.getD i Rc.z).ok = true) (hs : ¬ (d.cx.getD i Rc.z).st < zw f) (s : Sm) (hD : qY b hb (d.cx.getD i Rc.z).la.k (decide ((d.cx.getD i Rc.z).la.ck ≠ 0)) = .inl s) (hf : 1 ≤ s.f ∧ s.f ≤ 5) (he : s.f = f) (hn : 0 ≤ s.n ∧ s.n < 65536) (hpl : s.pl.length ≤ 1500) (hA : ¬ zK f (qS (d.cx.getD i Rc.z) s (qN (d.cx.getD i Rc.z) s + 0)) = s.ck) (hB : ¬ (f = 1 ∧ d.m ≠ 3 ∧ zK f (qS (d.cx.getD i Rc.z) s (qN (d.cx.getD i Rc.z) s + 16)) = s.ck)) : LP Tryz.prog G 23 [d.av, bv b] [] (fun _ => (dre (qk d b hb), [])) := by
 rw [dcp_g (r := d.cx.getD i Rc.z) h hp h6 rfl hs hD]
 have hv := zI (G := G) d
 rw [h] at hv
 have hq := ji (G := G) b
 rw [hp] at hq
 dsimp only [pe] at hq
 have hst := (xN hr).2.1
 have hs' : ¬ (f ≠ 5 ∧ ((d.cx.getD i Rc.z).st = 0 ∨ (d.cx.getD i Rc.z).st = 1 ∧ f ≠ 4)) := by
   unfold zw at hs
   (repeat' split at hs) <;> omega
 have hd : LP Tryz.prog G 28 [bv b, iAV (d.cx.getD i Rc.z).la.k, .bool (qu .neq (d.cx.getD i Rc.z).la.ck 0)] [] (fun _ => (.tup [s.av, iAV 0], [])) := by
   have := jQ (G := G) b hb (d.cx.getD i Rc.z).la.k (qu .neq (d.cx.getD i Rc.z).la.ck 0)
   rw [xp, hD, jJ] at this
   rw [xp]
   exact this
 have hk : (d.cx.getD i Rc.z).la.k = 1 ∨ (d.cx.getD i Rc.z).la.k = 2 ∨ 4 ≤ s.f := by
   by_cases h4 : 4 ≤ s.f
   · exact .inr (.inr h4)
   · have h1 : 1 ≤ (d.cx.getD i Rc.z).st := by
       unfold zw at hs
       (repeat' split at hs) <;> omega
     rcases ok_k ((xN hr).2.2.2 h1).1 with hk | hk
     · exact .inl hk
     · exact .inr (.inl hk)
 have hH0 := kH (G := G) (d.cx.getD i Rc.z) s 0 (by decide) hf hk hn
 have hH1 := kH (G := G) (d.cx.getD i Rc.z) s 16 (by decide) hf hk hn
 obtain ⟨x, hx⟩ := reb_C (m := d.m) he hA hB
 rw [decP_f hx]
 have hnum := st0_num hr
 have p1 := rq1 hr
 have p2 := rq2 hr
 have p3 := rq3 hr
 have hE1 : ¬ (d.cx.getD i Rc.z).st = 0 → xJ d.m (i : Int) { d.cx.getD i Rc.z with er := q7 .add .i64 (d.cx.getD i Rc.z).er 1 } = kv d.m ⟨(i : Int), 1, (d.cx.getD i Rc.z).la.num⟩ := fun h => cmp_t1 h
 have hE0 : (d.cx.getD i Rc.z).st = 0 → xJ d.m (i : Int) { d.cx.getD i Rc.z with er := q7 .add .i64 (d.cx.getD i Rc.z).er 1 } = kv d.m ⟨(i : Int), 2, 0⟩ := fun h => cmp_t0 h (hnum h)
 have hE2 : xJ d.m (i : Int) { d.cx.getD i Rc.z with er := 0, st := 1 } = kv d.m ⟨(i : Int), 1, (d.cx.getD i Rc.z).la.num⟩ := cmp_t1 (by show (1 : Int) ≠ 0; decide)
 have hE3 : xJ d.m (i : Int) Rc.z = kv d.m ⟨(i : Int), 2, 0⟩ := cmp_t0 rfl zz_num
 clear hD hp hk hr hx hnum
 have hV0 := zy (G := G) (qS (d.cx.getD i Rc.z) s (qN (d.cx.getD i Rc.z) s + 0)) f
 have hV1 := zy (G := G) (qS (d.cx.getD i Rc.z) s (qN (d.cx.getD i Rc.z) s + 16)) f
 generalize qS (d.cx.getD i Rc.z) s (qN (d.cx.getD i Rc.z) s + 0) = x0 at hH0 hV0 hA
 generalize qS (d.cx.getD i Rc.z) s (qN (d.cx.getD i Rc.z) s + 16) = x1 at hH1 hV1 hB
 generalize zK f x0 = v0 at hA hV0
 generalize zK f x1 = v1 at hB hV1
 refine goW [] Tryz.func23 rfl ?_
 conv => whnf
 repeat' ((first | exact Nm.b 0 | (refine And.intro ?_ ?_; (focus (first | (show KeepX _ _ _; exact KeepX.refl) | (show _ ≤ (List.flatMap Rc.cs _).length; rw [qy Rc.cs_len]; (try dsimp only); omega) | exact T.kx | exact T.side))) | (show LC _ _ _ _ _ _; first | refine LC.pure (hv) ?_ | refine LC.own (xc d (by omega)) ?_ | refine LC.pure (hq) ?_ | refine LC.pure (hd) ?_ | refine LC.pure (hH0) ?_ | refine LC.pure (hV0) ?_ | refine LC.pure (qI _) ?_ | refine LC.pure (qI Hd.z) ?_ | refine LC.pure (r10told_c d ⟨_, _, _⟩) ?_ | refine LC.pure (hH1) ?_ | refine LC.pure (hV1) ?_ | refine goE ?_) | (show AC _ _ _; first | (refine AC.recd Rc.cs_len i Rc.z ?_ rfl hi ?_; (focus ((try dsimp only); omega)))) | (show AQ _ _; first | (refine AQ.rsetW Rc.cs_len Rc.z ({ d.cx.getD i Rc.z with er := q7 .add .i64 (d.cx.getD i Rc.z).er 1 }) hi ?_ ?_ ?_; (focus ((try dsimp only); omega)); (focus rfl)) | (refine AQ.rsetW Rc.cs_len Rc.z ({ d.cx.getD i Rc.z with er := 0, st := 1 }) hi ?_ ?_ ?_; (focus ((try dsimp only); omega)); (focus rfl)) | (refine AQ.rsetW Rc.cs_len Rc.z (Rc.z) hi ?_ ?_ ?_; (focus ((try dsimp only); omega)); (focus rfl))) | refine T.s ?_ | ((first | apply goB | apply AB.dec | apply AB.gen) <;> intro h <;> try (exfalso; omega)) | refine LQ.mk fun r => ?_ | (show SQ _ _ _ _ _ _ _; first | refine gX 10 [0, 3] [0, 1, 2, 3, 4, 5, 6, 7] [] ?_ | refine gX 16 [0, 3] [0, 1, 2, 3, 4, 5, 6, 7] [] ?_ | refine gX 21 [4, 2] [0, 1, 3, 4, 2, 5, 6] [] ?_ | refine gX 24 [4, 2] [0, 1, 3, 4, 2, 5, 6] [] ?_ | (apply goD tQ qb 29 [0, 2] [0, 1, 2, 3, 4, 5, 6] [_] (by kernel_rfl)) | refine gX 34 [0, 4] [0, 1, 2, 3, 4, 5, 7, 8, 6, 9, 10] [] ?_ | refine gX 46 [0, 3] [0, 1, 2, 3, 4, 5, 6, 7] [] ?_) | (show (_ → _) ∧ (¬ _ → _); first | refine T.y ?_ | refine qn (fun h => ?_) (fun h => ?_)) | exact T.z | fail) <;> try (show (_ : Prop); conv => whnf))
 all_goals (try dsimp only)
 all_goals first
   | (exfalso; omega)
   | (rw [p1 (by assumption), hE0 (by assumption)]; refine RL.dre .n (.b _) (by simp) ?_; (repeat first | refine goH ?_ | apply LH.here | apply LH.next); rfl)
   | (rw [p1 (by assumption), hE1 (by assumption)]; refine RL.dre .n (.b _) (by simp) ?_; (repeat first | refine goH ?_ | apply LH.here | apply LH.next); rfl)
   | (rw [p2 (by assumption) (by assumption), hE2]; refine RL.dre .n (.b _) (by simp) ?_; (repeat first | refine goH ?_ | apply LH.here | apply LH.next); rfl)
   | (rw [p3 (by assumption) (by assumption), hE3]; refine RL.dre .n (.b _) (by simp) ?_; (repeat first | refine goH ?_ | apply LH.here | apply LH.next); rfl)
   | trace_state
theorem rdc_c_ : LP Tryz.prog G 23 [d.av, bv b] [] (fun _ => (dre (qk d b hb), [])) := by
 cases h : d.ok with
 | false => exact rdc_n d b hb h
 | true =>
   obtain ⟨⟨c, f, e⟩, hp⟩ : ∃ y, ql b = y := ⟨_, rfl⟩
   have hl : d.cx.length = 16 := (wL (c := 0) h (by decide) (by decide)).2.1
   by_cases he : e = 0
   · subst he
     obtain ⟨hc, hf⟩ := kM hp
     by_cases h6 : f = 6
     · subst h6
       obtain ⟨r, rfl, rfl⟩ := peek6 hp
       exact rdc_6 d r hb h hl
     · obtain ⟨i, rfl⟩ := Int.eq_ofNat_of_zero_le hc.1
       have hi : i < d.cx.length := by omega
       have hr := (wL h hc.1 hc.2).2.2
       by_cases hs : (d.cx.getD i Rc.z).st < zw f
       · exact rdc_c d b hb h hl i f hp hi h6 hr hs
       · by_cases hE : dse (qY b hb (d.cx.getD i Rc.z).la.k (decide ((d.cx.getD i Rc.z).la.ck ≠ 0))) = 0
         · obtain ⟨s, h1, h2, h3, h4⟩ := yB hE
           have e6 : s.f = f := by
             rw [hp] at h4
             have : f = s.f := congrArg (fun y => y.2.1) h4
             exact this.symm
           obtain ⟨k1, k2⟩ := sm_n h2 (by omega)
           have hpl := (s.of h2).1.2.2
           by_cases hA : zK f (qS (d.cx.getD i Rc.z) s (qN (d.cx.getD i Rc.z) s + 0)) = s.ck
           · exact rdc_A d b hb h hl i f hp hi h6 hr hs s h1 k1 e6 k2 hpl hA
           · by_cases hB : f = 1 ∧ d.m ≠ 3 ∧ zK f (qS (d.cx.getD i Rc.z) s (qN (d.cx.getD i Rc.z) s + 16)) = s.ck
             · exact rdc_B d b hb h hl i f hp hi h6 hr hs s h1 k1 e6 k2 hpl hA hB.1 hB.2.1 hB.2.2
             · exact rdc_C d b hb h hl i f hp hi h6 hr hs s h1 k1 e6 k2 hpl hA hB
         · exact rdc_d d b hb h hl i f hp hi h6 hr hs hE
   · exact rdc_e d b hb h hl c f e hp he
end
open Go.RowKit
theorem crc_fit (f : Int) (l : List UInt8) : qW (cbR f) (vk (cbR f) l) = true := by
 have key : ∀ (n : Nat) (p : Nat), p < 2 ^ n → (xO (n : Int)).toNat = p → qW (n : Int) (vk (n : Int) l) = true := fun n p hp he => by
   have h1 : jy n p (2 ^ n - 1) l < 2 ^ n := wt hp l (by have := Nat.pow_pos (n := n) (show 0 < 2 by decide); omega)
   rw [← crcS_eq, he, xC]
   have h2 : ((jy n p (2 ^ n - 1) l : Nat) : Int) < (2 : Int) ^ n := by
     have := Int.ofNat_lt.2 h1
     rw [Int.natCast_pow] at this
     exact this
   exact ⟨Int.natCast_nonneg _, by show _ ≤ (2 : Int) ^ n - 1; simp only [Int.toNat_natCast]; omega⟩
 unfold cbR
 split
 · exact key 3 3 (by decide) rfl
 · split
   · exact key 7 9 (by decide) rfl
   · exact key 8 7 (by decide) rfl
theorem kR {n : Nat} {v : Int} (h : 0 ≤ v ∧ v ≤ 2 ^ n - 1) : qW (n : Int) v = true := (xC n v).2 h
theorem num_rng {h : Hd} (_ : h.ok = true) : 0 ≤ h.num ∧ h.num ≤ 65535 := by
 unfold Hd.num
 split
 · have := wF 16 h.sq; have e : (2 : Int) ^ (16 : Int).toNat = 65536 := rfl; omega
 · have := wF 16 h.id; have e : (2 : Int) ^ (16 : Int).toNat = 65536 := rfl; omega
theorem lw_r {k : Nat} (x : Int) : 0 ≤ lw k x ∧ lw k x ≤ 2 ^ k - 1 := by
 have := wF (k : Int) x
 simp only [Int.toNat_natCast] at this
 omega
theorem hz_k (k : Int) : hzR { Hd.z with k := k } k = true := by unfold hzR; exact decide_eq_true ⟨rfl, rfl, rfl, rfl, rfl, rfl, rfl, rfl, rfl, rfl, rfl, rfl, rfl, rfl, rfl⟩
theorem dzz : dzR Dy.z = true := by decide
theorem low_ok (s : Sm) (hf : s.f = 1 ∨ s.f = 2 ∨ s.f = 3) (h1 : 0 ≤ s.cx ∧ s.cx < 16 ∧ s.pl.length ≤ 1500) (h2 : qW (cbR s.f) s.ck = true) (hk : s.h.k = 1 ∨ s.h.k = 2) (hz : hzR s.h s.h.k = true) (hd : dzR s.d = true)
   (a : qW (wid s.f s.h.k 0) s.n = true) (b : qW (wid s.f s.h.k 1) s.tm = true) (c : qW (wid s.f s.h.k 2) s.mr = true) (d : qW (wid s.f s.h.k 3) s.id = true) (e : qW 16 s.ud = true) : s.ok = true :=
 ok_low s hf h1 h2 (by unfold zH; rw [a, b, c, d, e]; rfl) hk hz hd
theorem fit0 : qW 0 0 = true := (xC 0 0).2 (by decide)
theorem parts_ok {dy : Dy} {c f : Int} {h : Hd} {pl : List UInt8} (ho : h.ok = true) (hd : dy.ok = true) (hz : h.k = 2 ∨ dy = Dy.z) (hc : 0 ≤ c ∧ c < 16) (hf : 1 ≤ f ∧ f ≤ 5) (hp : pl.length ≤ 1500) : (xo dy c f h pl).ok = true := by
 have hk := ok_k ho
 have a := h.of ho
 have hn := num_rng ho
 have e16 : qW 16 h.ck = true := kR (n := 16) (by omega)
 have hcrc : ∀ f, qW (cbR f) (zK f h) = true := fun f => crc_fit f _
 have hdd : (decide (h.k = 1) && !(dzR dy)) = false := by
   rcases hz with h2 | h2
   · rw [decide_eq_false (by omega)]; rfl
   · rw [h2, dzz]; simp
 unfold xo
 split
 · exact ok_big _ (.inr rfl) ⟨hc.1, hc.2, hp⟩ (hcrc 5) rfl (by unfold xP; dsimp only; rw [ho, hd, hdd]; rfl)
 · split
   · refine ok_big _ (.inl rfl) ⟨hc.1, hc.2, hp⟩ (hcrc 4) rfl ?_
     have ho4 : ({ h with fr := 0, to := 0, fp := 0, tp := 0, sr := 0 } : Hd).ok = true := by
       have i0 : ∀ n : Int, 0 ≤ n → inR 0 n = true := fun n hn => inR_t ⟨by decide, hn⟩
       unfold Hd.ok comR udpR rtpR at ho ⊢
       dsimp only
       split at ho
       · rename_i k1
         rw [if_pos k1]
         simp only [Bool.and_eq_true, decide_eq_true_eq, i0 65535 (by decide), i0 4294967295 (by decide)] at ho ⊢
         simp only [ho, and_self, true_and]
       · rename_i k1
         split at ho
         · rename_i k2
           rw [if_neg k1, if_pos k2]
           simp only [Bool.and_eq_true, i0 65535 (by decide), i0 4294967295 (by decide)] at ho ⊢
           simp only [ho, and_self, true_and]
         · cases ho
     unfold xP; dsimp only; rw [ho4, hd, hdd]; rfl
   · split
     · refine low_ok _ (.inl rfl) ⟨hc.1, hc.2, hp⟩ (hcrc 1) hk (hz_k _) dzz (kR (n := 4) (lw_r (k := 4) _)) fit0 fit0 fit0 e16
     · split
       · split
         · rename_i k2
           have e0 : ∀ i, wid 2 h.k i = ([5, 16, 1, 0] : List Int).getD i 0 := fun i => by unfold wid; rw [if_neg (by decide), if_pos ⟨rfl, k2⟩]
           refine low_ok _ (.inr (.inl rfl)) ⟨hc.1, hc.2, hp⟩ (hcrc 2) hk (hz_k _) dzz ?_ ?_ ?_ ?_ e16
           · show qW (wid 2 h.k 0) _ = true; rw [e0]; exact kR (n := 5) (lw_r (k := 5) _)
           · show qW (wid 2 h.k 1) _ = true; rw [e0]; exact kR (n := 16) (lw_r (k := 16) _)
           · show qW (wid 2 h.k 2) _ = true; rw [e0]; exact kR (n := 1) (by dsimp only; omega)
           · show qW (wid 2 h.k 3) _ = true; rw [e0]; exact fit0
         · rename_i k2
           have e0 : ∀ i, wid 2 h.k i = ([5, 0, 0, 0] : List Int).getD i 0 := fun i => by unfold wid; rw [if_neg (by decide), if_neg (fun k => k2 k.2), if_pos rfl]
           refine low_ok _ (.inr (.inl rfl)) ⟨hc.1, hc.2, hp⟩ (hcrc 2) hk (hz_k _) dzz ?_ ?_ ?_ ?_ e16
           · show qW (wid 2 h.k 0) _ = true; rw [e0]; exact kR (n := 5) (lw_r (k := 5) _)
           · show qW (wid 2 h.k 1) _ = true; rw [e0]; exact fit0
           · show qW (wid 2 h.k 2) _ = true; rw [e0]; exact fit0
           · show qW (wid 2 h.k 3) _ = true; rw [e0]; exact fit0
       · split
         · rename_i k2
           have e0 : ∀ i, wid 3 h.k i = ([8, 32, 1, 16] : List Int).getD i 0 := fun i => by unfold wid; rw [if_neg (by decide), if_neg (by omega), if_neg (by decide), if_pos k2]
           refine low_ok _ (.inr (.inr rfl)) ⟨hc.1, hc.2, hp⟩ (hcrc 3) hk (hz_k _) dzz ?_ ?_ ?_ ?_ e16
           · show qW (wid 3 h.k 0) _ = true; rw [e0]; exact kR (n := 8) (lw_r (k := 8) _)
           · show qW (wid 3 h.k 1) _ = true; rw [e0]; exact kR (n := 32) (by dsimp only; omega)
           · show qW (wid 3 h.k 2) _ = true; rw [e0]; exact kR (n := 1) (by dsimp only; omega)
           · show qW (wid 3 h.k 3) _ = true; rw [e0]; exact kR (n := 16) (by dsimp only; omega)
         · rename_i k2
           have e0 : ∀ i, wid 3 h.k i = ([16, 0, 0, 0] : List Int).getD i 0 := fun i => by unfold wid; rw [if_neg (by decide), if_neg (by omega), if_neg (by decide), if_neg k2]
           refine low_ok _ (.inr (.inr rfl)) ⟨hc.1, hc.2, hp⟩ (hcrc 3) hk (hz_k _) dzz ?_ ?_ ?_ ?_ e16
           · show qW (wid 3 h.k 0) _ = true; rw [e0]; exact kR (n := 16) (by dsimp only; omega)
           · show qW (wid 3 h.k 1) _ = true; rw [e0]; exact fit0
           · show qW (wid 3 h.k 2) _ = true; rw [e0]; exact fit0
           · show qW (wid 3 h.k 3) _ = true; rw [e0]; exact fit0
end Go.Proofs.YtkfpgdckdmlhkaaGreatDoor
