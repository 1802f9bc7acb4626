/-
  Contracts of the functions that the laws reach.
-/
import Derived.Test.YtkfpgdckdmlhkaaGreatDoorDq01
import Derived.Test.YtkfpgdckdmlhkaaGreatDoorDq02
import Derived.Test.YtkfpgdckdmlhkaaGreatDoorDq03
import Derived.Test.YtkfpgdckdmlhkaaGreatDoorDq04
import Derived.Test.YtkfpgdckdmlhkaaGreatDoorDq05
import Derived.Test.YtkfpgdckdmlhkaaGreatDoorDq06
import Derived.Test.YtkfpgdckdmlhkaaGreatDoorDq07
import Derived.Test.YtkfpgdckdmlhkaaGreatDoorDq08
import Derived.Test.YtkfpgdckdmlhkaaGreatDoorDq10
import Derived.Test.YtkfpgdckdmlhkaaGreatDoorDq11
import Derived.Test.YtkfpgdckdmlhkaaGreatDoorDq14
import Derived.Test.YtkfpgdckdmlhkaaGreatDoorDq15
import Derived.Test.YtkfpgdckdmlhkaaGreatDoorDq23
import Derived.Test.YtkfpgdckdmlhkaaGreatDoorDq24
import Derived.Test.YtkfpgdckdmlhkaaGreatDoorDq25
set_option maxHeartbeats 4000000
set_option linter.all false
namespace Go.Proofs.YtkfpgdckdmlhkaaGreatDoor
open Go.RowKit
variable {G : Nat → AV}
theorem dse_0 {D : Sm ⊕ Int} (hD : ∀ e, D = .inr e → e ≠ 0) (h : dse D = 0) : ∃ s, D = .inl s := by
 cases D with
 | inl s => exact ⟨s, rfl⟩
 | inr e => exact absurd h (hD e rfl)
theorem fin_err {X : Rdr} {s : Sm} {b : List UInt8} : (∀ e, xW X s b = .inr e → e ≠ 0) ∧ ∀ s', xW X s b = .inl s' → zu s' = (b, 0) := by
 unfold xW
 constructor
 · intro e h
   split at h
   · cases h; decide
   · split at h
     · cases h
     · cases h; decide
 · intro s' h
   split at h
   · cases h
   · split at h
     · rename_i h2; cases h; exact h2
     · cases h
def okD (b : List UInt8) (D : Sm ⊕ Int) : Prop := (∀ e, D = .inr e → e ≠ 0) ∧ ∀ s, D = .inl s → zu s = (b, 0)
theorem yi {b : List UInt8} {e : Int} (h : e ≠ 0) : okD b (.inr e) := ⟨fun e' h' => by cases h'; exact h, fun s h' => by cases h'⟩
theorem okD_small {ck : Bool} {X : Rdr} {s : Sm} {b : List UInt8} : okD b (zi ck X s b) := by
 unfold zi
 split
 · split
   · exact yi (by decide)
   · split
     · exact yi (by decide)
     · exact fin_err
 · exact fin_err
theorem okD_big {X : Rdr} {s : Sm} {fl : Int} {b : List UInt8} : okD b (ka X s fl b) := by
 unfold ka
 split <;> exact fin_err
theorem okD_dec (b : List UInt8) (hb : b.length ≤ 140737488355328) (k : Int) (ck : Bool) : okD b (qY b hb k ck) := by
 unfold qY
 split
 · rename_i h; exact yi h
 · split
   · exact yi (by decide)
   · unfold decB kP
     (repeat' split) <;> first | exact okD_small | exact okD_big | exact fin_err | exact yi (by decide)
open Go.RowKit
theorem jJ (s : Sm) : dsm (.inl s) = s := by unfold dsm; rfl
theorem yB {b : List UInt8} {hb : b.length ≤ 140737488355328} {k : Int} {ck : Bool} (h : dse (qY b hb k ck) = 0) : ∃ s, qY b hb k ck = .inl s ∧ s.ok = true ∧ b = hdL s ++ s.pl ∧ ql b = (s.cx, s.f, 0) := by
 have h1 := okD_dec b hb k ck
 obtain ⟨s, hs⟩ := dse_0 h1.1 h
 have h2 := h1.2 s hs
 have h3 : s.ok = true := by
   unfold zu at h2
   split at h2
   · assumption
   · cases h2
 rw [enc_ok h3] at h2
 have h4 : hdL s ++ s.pl = b := congrArg Prod.fst h2
 exact ⟨s, hs, h3, h4.symm, h4 ▸ ret_peek s h3 s.pl⟩
theorem sm_n {s : Sm} (h : s.ok = true) (h6 : s.f ≠ 6) : (1 ≤ s.f ∧ s.f ≤ 5) ∧ 0 ≤ s.n ∧ s.n < 65536 := by
 obtain ⟨-, hc, h3⟩ := s.of h
 rcases h3 with ⟨hf, hl, hk, -, -⟩ | ⟨hf, -⟩ | ⟨hf, -⟩
 · rcases hf with hf | hf | hf
   · have := (low1 s hf hl hc).1; omega
   · rcases hk with hk | hk
     · have := (low2U s hf hk hl hc).1; omega
     · have := (low2T s hf hk hl hc).1; omega
   · rcases hk with hk | hk
     · have := (low3U s hf hk hl hc).1; omega
     · have := (low3T s hf hk hl hc).1; omega
 · have := (s.big h hf).1.1; omega
 · exact absurd hf h6
theorem fmr6 {c : UInt8} (h : fmR c = 6) : c = 210 := by
 have : c.toNat = 210 := by
   unfold fmR at h
   (repeat' split at h) <;> omega
 exact UInt8.toNat_inj.1 this
theorem peek6 {b : List UInt8} {c : Int} (h : ql b = (c, 6, 0)) : ∃ r, b = 210 :: r ∧ c = 0 := by
 match b with
 | [] => cases h
 | a :: r =>
   simp only [ql] at h
   split at h
   · match r with
     | [] => cases h
     | d :: r =>
       simp only at h
       split at h
       · cases h
       · rename_i h2
         have h3 : fmR d = 6 := congrArg (fun x => x.2.1) h
         exact absurd (fmr6 h3) (fun e => h2 (.inr (.inr (by rw [e]; rfl))))
   · split at h
     · cases h
     · have h3 : fmR a = 6 := congrArg (fun x => x.2.1) h
       have h4 : (0 : Int) = c := congrArg (fun x => x.1) h
       exact ⟨r, by rw [fmr6 h3], h4.symm⟩
def wX (r : List UInt8) : Sm := ⟨0, 6, 0, 0, 0, 0, 0, Hd.z, Dy.z, 0, r⟩
theorem rawD_ok (r : List UInt8) : (wX r).ok = decide (r.length ≤ 1500) := by
 have : (wX r).ok = (ww (wX r) && true) := rfl
 rw [this, Bool.and_true]
 unfold ww
 have h8 : qW (cbR (wX r).f) (wX r).ck = true := (xC 8 0).2 (by decide)
 rw [h8, Bool.and_true]
 simp [wX]
theorem rawD_hd (r : List UInt8) : hdL (wX r) = [210] := by
 have h1 : ¬ 0 < (wX r).cx := by show ¬ (0 : Int) < 0; decide
 have h2 : sumL (wX r) = [] := by
   unfold sumL kc
   rfl
 rw [hdL_s, pre_neg h1, bL6 _ rfl, h2]
 rfl
theorem dec6 (r : List UInt8) (hb : (210 :: r).length ≤ 140737488355328) : qY (210 :: r) hb 0 false = if r.length ≤ 1500 then .inl (wX r) else .inr 4 := by
 have hp : ql (210 :: r) = (0, 6, 0) := rfl
 rw [decR_b hp (by omega), if_neg (by decide)]
 show xW (rtk 1 (rdr (210 :: r) hb)) (s0 0 6) (210 :: r) = _
 rw [rdr1]
 unfold xW
 rw [rE_rdr, if_neg (by decide)]
 have e : wpl (s0 0 6) (rdr r (by simp at hb; omega)) = wX r := by
   show ({ s0 0 6 with pl := rL (rdr r _) } : Sm) = _
   rw [rL_rdr]; rfl
 rw [e]
 unfold zu
 rw [rawD_ok, rawD_hd]
 by_cases h : r.length ≤ 1500
 · rw [decide_eq_true h, if_pos h, if_pos (show (true : Bool) = true from rfl)]
   exact if_pos rfl
 · rw [decide_eq_false h, if_neg h, if_neg (by decide : ¬ (false : Bool) = true)]
   exact if_neg (fun e => by cases e)
theorem dec6_e (r : List UInt8) (hb : (210 :: r).length ≤ 140737488355328) : (dse (qY (210 :: r) hb 0 false) = 0 ∧ (dsm (qY (210 :: r) hb 0 false)).pl ≠ []) ↔ 1 ≤ r.length ∧ r.length ≤ 1500 := by
 rw [dec6]
 by_cases h : r.length ≤ 1500
 · rw [if_pos h, jJ]
   unfold dse
   simp only [wX, true_and, ne_eq, h, and_true]
   rw [← List.length_eq_zero_iff]
   omega
 · rw [if_neg h]
   unfold dse
   simp only [h, and_false, iff_false]
   intro h; exact absurd h.1 (by decide)
theorem dec6_p (r : List UInt8) (hb : (210 :: r).length ≤ 140737488355328) (h : r.length ≤ 1500) : dsm (qY (210 :: r) hb 0 false) = wX r := by rw [dec6, if_pos h, jJ]
section
variable {d : De} {b : List UInt8} {hb : b.length ≤ 140737488355328} {c f e : Int} {r : Rc}
theorem dcp_n (h : d.ok = false) : qk d b hb = ⟨De.z, [], [], 1⟩ := by unfold qk; rw [if_neg (by rw [h]; decide)]
theorem dcp_e (h : d.ok = true) (hp : ql b = (c, f, e)) (he : e ≠ 0) : qk d b hb = ⟨d, [], [], e⟩ := by unfold qk; rw [if_pos h, hp, if_neg he]
theorem dcp_6y (h : d.ok = true) (hp : ql b = (c, 6, 0)) (h6 : dse (qY b hb 0 false) = 0 ∧ (dsm (qY b hb 0 false)).pl ≠ []) : qk d b hb = ⟨d, (dsm (qY b hb 0 false)).pl, [], 0⟩ := by
 unfold qk; rw [if_pos h, hp, if_pos rfl, if_pos rfl, if_pos h6]
theorem dcp_6n (h : d.ok = true) (hp : ql b = (c, 6, 0)) (h6 : ¬ (dse (qY b hb 0 false) = 0 ∧ (dsm (qY b hb 0 false)).pl ≠ [])) : qk d b hb = ⟨d, [], [], 4⟩ := by
 unfold qk; rw [if_pos h, hp, if_pos rfl, if_pos rfl, if_neg h6]
theorem dcp_c (h : d.ok = true) (hp : ql b = (c, f, 0)) (h6 : f ≠ 6) (hr : d.cx.getD c.toNat Rc.z = r) (hs : r.st < zw f) : qk d b hb = ⟨d, [], xJ d.m c r, 8⟩ := by
 subst hr; unfold qk; rw [if_pos h, hp, if_pos rfl, if_neg h6, if_pos hs]
theorem dcp_d (h : d.ok = true) (hp : ql b = (c, f, 0)) (h6 : f ≠ 6) (hr : d.cx.getD c.toNat Rc.z = r) (hs : ¬ r.st < zw f) (hd : dse (qY b hb r.la.k (decide (r.la.ck ≠ 0))) ≠ 0) : qk d b hb = ⟨d, [], [], dse (qY b hb r.la.k (decide (r.la.ck ≠ 0)))⟩ := by
 subst hr; unfold qk; rw [if_pos h, hp, if_pos rfl, if_neg h6, if_neg hs, if_neg hd]
theorem dcp_g (h : d.ok = true) (hp : ql b = (c, f, 0)) (h6 : f ≠ 6) (hr : d.cx.getD c.toNat Rc.z = r) (hs : ¬ r.st < zw f) {s : Sm} (hd : qY b hb r.la.k (decide (r.la.ck ≠ 0)) = .inl s) : qk d b hb = decP d c r s := by
 subst hr; unfold qk; rw [if_pos h, hp, if_pos rfl, if_neg h6, if_neg hs]
 simp only [hd, jJ, dse, if_true]
theorem decP_f {s : Sm} {x : Hd} (h : js d.m r s = (x, false)) : decP d c r s = ⟨d.set c (ku r), [], xJ d.m c (ku r), 6⟩ := by unfold decP; rw [h]
theorem decP_b {s : Sm} {x : Hd} (h : js d.m r s = (x, true)) (hb : (zm x s.pl).2 ≠ 0) : decP d c r s = ⟨d, [], [], (zm x s.pl).2⟩ := by unfold decP; rw [h]; simp only; rw [if_neg hb]
theorem decP_g {s : Sm} {x : Hd} (h : js d.m r s = (x, true)) (hb : (zm x s.pl).2 = 0) : decP d c r s = ⟨d.set c (yL r s x), (zm x s.pl).1, ackR d.m c s x, 0⟩ := by unfold decP; rw [h]; simp only; rw [if_pos hb]
theorem wL (h : d.ok = true) (h0 : 0 ≤ c) (h1 : c < 16) : (1 ≤ d.m ∧ d.m ≤ 3) ∧ d.cx.length = 16 ∧ (d.cx.getD c.toNat Rc.z).ok = true := by
 unfold De.ok jE at h
 simp only [Bool.and_eq_true, decide_eq_true_eq] at h
 refine ⟨h.1, h.2.1, ?_⟩
 have hl := h.2.1
 have hi : c.toNat < d.cx.length := by omega
 have : d.cx.getD c.toNat Rc.z = d.cx[c.toNat] := by simp [List.getD_eq_getElem?_getD, hi]
 rw [this]
 exact List.all_eq_true.1 h.2.2 _ (List.getElem_mem hi)
theorem xN (h : r.ok = true) : (0 ≤ r.er ∧ r.er < 3) ∧ (0 ≤ r.st ∧ r.st ≤ 2) ∧ (r.st = 0 → r.la = Hd.z ∧ r.dy = Dy.z) ∧ (1 ≤ r.st → r.la.ok = true ∧ r.dy.ok = true ∧ (r.la.k = 2 ∨ r.dy = Dy.z)) := by
 unfold Rc.ok at h
 rw [Bool.and_eq_true, decide_eq_true_eq] at h
 obtain ⟨h1, h2⟩ := h
 split at h2
 · rename_i h3
   have h4 := of_decide_eq_true h2
   exact ⟨h1, by omega, fun _ => h4, fun _ => by omega⟩
 · split at h2
   · rename_i h3 h4
     simp only [Bool.and_eq_true, decide_eq_true_eq] at h2
     exact ⟨h1, by omega, fun _ => by omega, fun _ => h2⟩
   · cases h2
end
open Go.RowKit
inductive NB : AV → List UInt8 → Prop where
 | b (p : List UInt8) : NB (bv p) p
 | n : NB .nils []
inductive NF : AV → List Fb → Prop where
 | b (p : List Fb) : NF (fbv p) p
 | n : NF .nils []
theorem NB.lf {v : AV} {p : List UInt8} {l : LS} {F : List Nm} (h : NB v p) : LF l F v (bv p) := by
 cases h
 · exact LF.eq rfl
 · exact LF.nils rfl rfl
theorem NF.lf {v : AV} {p : List Fb} {l : LS} {F : List Nm} (h : NF v p) : LF l F v (fbv p) := by
 cases h
 · exact LF.eq rfl
 · exact LF.nils rfl rfl
theorem RL.dre {m : Int} {cx : List Rc} {n : Nat} {p : List UInt8} {fb : List Fb} {e : Int} {v1 v2 : AV} {q : Nm} {l : LS} (h1 : NB v1 p) (h2 : NF v2 fb) (hn : n = cx.length) (hq : LH l q fun c _ _ => c.cs = cx.flatMap Rc.cs) :
   RL (fun _ => (Go.Proofs.YtkfpgdckdmlhkaaGreatDoor.dre ⟨⟨m, cx⟩, p, fb, e⟩, [])) (.tup [.agg [.int .i64 m, .vw q 0 n 19], v1, v2, .int .i64 e]) l := by
 subst hn
 obtain ⟨l1, c, l2, rfl, h3⟩ := hq.ex
 exact RL.frz [q] (LF.tup (xs := [.agg [.int .i64 m, .vw q 0 cx.length 19], v1, v2, .int .i64 e]) (ys := [De.av ⟨m, cx⟩, bv p, fbv fb, iAV e])
   ⟨LF.agg (xs := [.int .i64 m, .vw q 0 cx.length 19]) (ys := [iAV m, rcv cx]) ⟨LF.eq rfl, LF.row InL.here ⟨l1, c, l2, rfl, by decide, by rw [h3, qy Rc.cs_len], rfl, h3.symm⟩, trivial⟩, h1.lf, h2.lf, LF.eq rfl, trivial⟩) ⟨l1, c, l2, rfl, LB.nil⟩
theorem RL.dre0 {e : Int} {l : LS} : RL (fun _ => (Go.Proofs.YtkfpgdckdmlhkaaGreatDoor.dre ⟨De.z, [], [], e⟩, [])) (.tup [.agg [.int .i64 0, .nils], .nils, .nils, .int .i64 e]) l :=
 RL.frz [] (LF.tup (xs := [.agg [.int .i64 0, .nils], .nils, .nils, .int .i64 e]) (ys := [De.z.av, bv [], fbv [], iAV e]) ⟨LF.agg (xs := [.int .i64 0, .nils]) (ys := [iAV 0, rcv []]) ⟨LF.eq rfl, LF.nils rfl rfl, trivial⟩, LF.nils rfl rfl, LF.nils rfl rfl, LF.eq rfl, trivial⟩) LB.nil
theorem xR {G : Nat → AV} (l : List Rc) (h0 : 0 < l.length) (hl : l.length ≤ 1000) : LP Tryz.prog G 60 [rcv l] [] (fun q => (.vw q 0 l.length 19, [(q, ⟨71, l.flatMap Rc.cs⟩)])) := by
 refine goW [] Tryz.func60 rfl ?_
 conv => whnf
 repeat' ((first | (refine And.intro ?_ ?_; (focus (first | exact qy Rc.cs_len _ | exact rcs_one _ | exact Nat.le_trans (Nat.mul_le_mul_right _ hl) (by decide) | exact Nat.le_trans hl (by decide) | exact T.kx | exact T.side))) | refine T.s ?_ | ((first | apply goB | apply AB.dec | apply AB.gen) <;> intro h <;> try (exfalso; omega)) | refine LQ.mk fun r => ?_ | exact T.z | fail) <;> conv => whnf)
 all_goals (try dsimp only)
 all_goals first
   | (refine RL.own r (by simp) ?_ ?_; (focus ((repeat first | refine goH ?_ | apply LH.here | apply LH.next); trivial)); exact LB.cons (.here ⟨by simp, LB.nil⟩))
   | trace_state
theorem xp (x : Int) : qu .neq x 0 = decide (x ≠ 0) := by
 by_cases h : x = 0 <;> simp [qu, h]
theorem ix19 (i : Nat) : 0 + (i : Int).toNat * 19 = i * 19 := by omega
@[reducible] def wz : Sm := ⟨0, 0, 0, 0, 0, 0, 0, ⟨0, 0, 0, 0, 0, 0, 0, 0, 0, 0, 0, 0, 0, 0, 0⟩, ⟨0, 0⟩, 0, []⟩
section
variable (d : De) (b : List UInt8) (hb : b.length ≤ 140737488355328)
theorem dcmp_n (h : d.ok = false) : LP Tryz.prog gm 25 [d.av, bv b] [] (fun _ => (dre (qk d b hb), [])) := by
 rw [dcp_n h]
 have hv := xI (G := gm) d
 rw [h] at hv
 refine goW [] Tryz.func25 rfl ?_
 conv => whnf
 repeat' ((first | exact Nm.b 0 | (show LC _ _ _ _ _ _; first | refine LC.pure (hv) ?_ | refine goE ?_) | refine T.s ?_ | ((first | apply goB | apply AB.dec | apply AB.gen) <;> intro h <;> try (exfalso; omega)) | refine LQ.mk fun r => ?_ | (show SQ _ _ _ _ _ _ _; first | refine gX 12 [2, 3] [0, 1, 2, 3, 4, 5, 6] [] ?_ | refine gX 13 [] [0, 1, 2, 3, 4, 5, 6, 7, 8, 9] [] ?_ | refine gX 14 [3, 6, 8] [0, 1, 2, 3, 4, 5, 6, 7, 8, 9] [] ?_ | refine gX 15 [0, 2] [0, 1, 2, 3, 4, 5, 6] [] ?_ | refine gX 16 [] [0, 1, 2, 3, 4, 5, 6, 7, 8, 9, 10, 11, 12, 13, 14, 15, 16, 17, 18, 19, 20, 21, 22, 23, 24, 25, 26] [] ?_ | refine gX 22 [0, 2] [0, 1, 2, 3, 4, 5, 6] [] ?_ | refine gX 23 [] [0, 1, 2, 3, 4, 5, 6, 7, 8, 9, 10, 11] [] ?_ | refine gX 26 [0, 4] [0, 1, 2, 3, 4, 5, 6, 7, 8] [] ?_) | exact T.z | fail) <;> conv => whnf)
 all_goals (try dsimp only)
 all_goals exact RL.dre0
theorem dcmp_e (h : d.ok = true) (hl : d.cx.length = 16) (c f e : Int) (hp : ql b = (c, f, e)) (he : e ≠ 0) : LP Tryz.prog gm 25 [d.av, bv b] [] (fun _ => (dre (qk d b hb), [])) := by
 rw [dcp_e h hp he]
 have hv := xI (G := gm) d
 rw [h] at hv
 have hq := wm (G := gm) b
 rw [hp] at hq
 dsimp only [pe] at hq
 refine goW [] Tryz.func25 rfl ?_
 conv => whnf
 repeat' ((first | exact Nm.b 0 | (show LC _ _ _ _ _ _; first | refine LC.pure (hv) ?_ | refine LC.own (xR d.cx (by omega) (by omega)) ?_ | refine LC.pure (hq) ?_ | refine goE ?_) | refine T.s ?_ | ((first | apply goB | apply AB.dec | apply AB.gen) <;> intro h <;> try (exfalso; omega)) | refine LQ.mk fun r => ?_ | (show SQ _ _ _ _ _ _ _; first | refine gX 12 [2, 3] [0, 1, 2, 3, 4, 5, 6] [] ?_ | refine gX 13 [] [0, 1, 2, 3, 4, 5, 6, 7, 8, 9] [] ?_ | refine gX 14 [3, 6, 8] [0, 1, 2, 3, 4, 5, 6, 7, 8, 9] [] ?_ | refine gX 15 [0, 2] [0, 1, 2, 3, 4, 5, 6] [] ?_ | refine gX 16 [] [0, 1, 2, 3, 4, 5, 6, 7, 8, 9, 10, 11, 12, 13, 14, 15, 16, 17, 18, 19, 20, 21, 22, 23, 24, 25, 26] [] ?_ | refine gX 22 [0, 2] [0, 1, 2, 3, 4, 5, 6] [] ?_ | refine gX 23 [] [0, 1, 2, 3, 4, 5, 6, 7, 8, 9, 10, 11] [] ?_ | refine gX 26 [0, 4] [0, 1, 2, 3, 4, 5, 6, 7, 8] [] ?_) | exact T.z | fail) <;> conv => whnf)
 all_goals (try dsimp only)
 all_goals
   refine RL.dre .n .n rfl ?_
   (repeat first | refine goH ?_ | apply LH.here | apply LH.next)
   rfl
theorem dcmp_6 (h : d.ok = true) (hl : d.cx.length = 16) (hp : ql b = (0, 6, 0)) : LP Tryz.prog gm 25 [d.av, bv b] [] (fun _ => (dre (qk d b hb), [])) := by
 have hv := xI (G := gm) d
 rw [h] at hv
 have hq := wm (G := gm) b
 rw [hp] at hq
 dsimp only [pe] at hq
 have hd := vj (G := gm) b hb 0 false
 have k1 := fun h6 => dcp_6y (hb := hb) h hp h6
 have k2 := fun h6 => dcp_6n (hb := hb) h hp h6
 generalize dse (qY b hb 0 false) = E at hd k1 k2
 generalize dsm (qY b hb 0 false) = S at hd k1 k2
 refine goW [] Tryz.func25 rfl ?_
 conv => whnf
 repeat' ((first | exact Nm.b 0 | (show LC _ _ _ _ _ _; first | refine LC.pure (hv) ?_ | refine LC.own (xR d.cx (by omega) (by omega)) ?_ | refine LC.pure (hq) ?_ | refine LC.pure (hd) ?_ | refine goE ?_) | refine T.s ?_ | ((first | apply goB | apply AB.dec | apply AB.gen) <;> intro h <;> try (exfalso; omega)) | refine LQ.mk fun r => ?_ | (show SQ _ _ _ _ _ _ _; first | refine gX 12 [2, 3] [0, 1, 2, 3, 4, 5, 6] [] ?_ | refine gX 13 [] [0, 1, 2, 3, 4, 5, 6, 7, 8, 9] [] ?_ | refine gX 14 [3, 6, 8] [0, 1, 2, 3, 4, 5, 6, 7, 8, 9] [] ?_ | refine gX 15 [0, 2] [0, 1, 2, 3, 4, 5, 6] [] ?_ | refine gX 16 [] [0, 1, 2, 3, 4, 5, 6, 7, 8, 9, 10, 11, 12, 13, 14, 15, 16, 17, 18, 19, 20, 21, 22, 23, 24, 25, 26] [] ?_ | refine gX 22 [0, 2] [0, 1, 2, 3, 4, 5, 6] [] ?_ | refine gX 23 [] [0, 1, 2, 3, 4, 5, 6, 7, 8, 9, 10, 11] [] ?_ | refine gX 26 [0, 4] [0, 1, 2, 3, 4, 5, 6, 7, 8] [] ?_) | exact T.z | fail) <;> conv => whnf)
 all_goals (try dsimp only)
 all_goals first
   | (rw [k1 ⟨by assumption, fun e => h (by rw [e]; rfl)⟩]; refine RL.dre (.b _) .n rfl ?_; (repeat first | refine goH ?_ | apply LH.here | apply LH.next); rfl)
   | (rw [k2 (fun e => absurd e.1 (by assumption))]; refine RL.dre .n .n rfl ?_; (repeat first | refine goH ?_ | apply LH.here | apply LH.next); rfl)
   | (rw [k2 (fun e => e.2 (List.eq_nil_of_length_eq_zero (by omega)))]; refine RL.dre .n .n rfl ?_; (repeat first | refine goH ?_ | apply LH.here | apply LH.next); rfl)
   | trace_state
theorem dcmp_c (h : d.ok = true) (hl : d.cx.length = 16) (i : Nat) (f : Int) (hp : ql b = ((i : Int), f, 0)) (hi : i < d.cx.length) (h6 : f ≠ 6) (hs : (d.cx.getD i Rc.z).st < zw f) : LP Tryz.prog gm 25 [d.av, bv b] [] (fun _ => (dre (qk d b hb), [])) := by
 rw [dcp_c (r := d.cx.getD i Rc.z) h hp h6 rfl hs]
 have hv := xI (G := gm) d
 rw [h] at hv
 have hq := wm (G := gm) b
 rw [hp] at hq
 dsimp only [pe] at hq
 refine goW [] Tryz.func25 rfl ?_
 conv => whnf
 repeat' ((first | (show LQ _; rw [ix19 i]; refine LQ.mk fun r => ?_) | exact Nm.b 0 | (refine And.intro ?_ ?_; (focus (first | (show KeepX _ _ _; exact KeepX.refl) | (show _ ≤ (List.flatMap Rc.cs _).length; rw [qy Rc.cs_len]; (try dsimp only); omega) | exact T.kx | exact T.side))) | (show LC _ _ _ _ _ _; first | refine LC.pure (hv) ?_ | refine LC.own (xR d.cx (by omega) (by omega)) ?_ | refine LC.pure (hq) ?_ | refine LC.pure (kO _) ?_ | (apply LC.twoK (fun hne => wcomp_c _ _ hne d.cx i hi _ _ wz .nils); (repeat first | refine goH ?_ | apply LH.here | apply LH.next); refine ⟨rfl, ?_⟩; (repeat first | refine goH ?_ | apply LH.here | apply LH.next); refine ⟨rfl, ?_⟩; (repeat first | refine goH ?_ | apply LH.here | apply LH.next)) | refine goE ?_) | (show AC _ _ _; first | (refine AC.sub Rc.cs_len i 0 Rc.z _ ?_ (by decide) hi rfl ?_; focus omega)) | refine T.s ?_ | ((first | apply goB | apply AB.dec | apply AB.gen) <;> intro h <;> try (exfalso; omega)) | refine LQ.mk fun r => ?_ | (show SQ _ _ _ _ _ _ _; first | refine gX 12 [2, 3] [0, 1, 2, 3, 4, 5, 6] [] ?_ | refine gX 13 [] [0, 1, 2, 3, 4, 5, 6, 7, 8, 9] [] ?_ | refine gX 14 [3, 6, 8] [0, 1, 2, 3, 4, 5, 6, 7, 8, 9] [] ?_ | refine gX 15 [0, 2] [0, 1, 2, 3, 4, 5, 6] [] ?_ | refine gX 16 [] [0, 1, 2, 3, 4, 5, 6, 7, 8, 9, 10, 11, 12, 13, 14, 15, 16, 17, 18, 19, 20, 21, 22, 23, 24, 25, 26] [] ?_ | refine gX 22 [0, 2] [0, 1, 2, 3, 4, 5, 6] [] ?_ | refine gX 23 [] [0, 1, 2, 3, 4, 5, 6, 7, 8, 9, 10, 11] [] ?_ | refine gX 26 [0, 4] [0, 1, 2, 3, 4, 5, 6, 7, 8] [] ?_) | exact T.z | fail) <;> conv => whnf)
 all_goals (try dsimp only)
 all_goals
   refine RL.dre .n (.b _) rfl ?_
   (repeat first | refine goH ?_ | apply LH.here | apply LH.next)
   rfl
end
open Go.RowKit
variable {G : Nat → AV}
theorem RL.dreG {m : Int} {cx : List Rc} {p : List UInt8} {fb : List Fb} {e : Int} {v0 v1 v2 : AV} {l : LS} (F : List Nm) (h0 : LF l F v0 (rcv cx)) (h1 : LF l F v1 (bv p)) (h2 : LF l F v2 (fbv fb)) (hE : LEra l F (LB [])) :
   RL (fun _ => (Go.Proofs.YtkfpgdckdmlhkaaGreatDoor.dre ⟨⟨m, cx⟩, p, fb, e⟩, [])) (.tup [.agg [.int .i64 m, v0], v1, v2, .int .i64 e]) l :=
 RL.frz F (LF.tup (xs := [.agg [.int .i64 m, v0], v1, v2, .int .i64 e]) (ys := [De.av ⟨m, cx⟩, bv p, fbv fb, iAV e]) ⟨LF.agg (xs := [.int .i64 m, v0]) (ys := [iAV m, rcv cx]) ⟨LF.eq rfl, h0, trivial⟩, h1, h2, LF.eq rfl, trivial⟩) hE
theorem LF.rcv {cx : List Rc} {n : Nat} {q : Nm} {l : LS} {F : List Nm} (hF : InL q F) (hn : n = cx.length) (hq : LH l q fun c _ _ => c.cs = cx.flatMap Rc.cs) : LF l F (.vw q 0 n 19) (Go.Proofs.YtkfpgdckdmlhkaaGreatDoor.rcv cx) := by
 subst hn
 obtain ⟨l1, c, l2, rfl, h3⟩ := hq.ex
 exact LF.row hF ⟨l1, c, l2, rfl, by decide, by rw [h3, qy Rc.cs_len], rfl, h3.symm⟩
theorem AQ.rsetW {α : Type} {f : α → List AV} {n : Nat} (hf : ∀ x, (f x).length = n) {l : List α} {o : Nat} {xs : List AV} {K : List AV → Prop} {i : Nat} (d y : α) (h : i < l.length) (ho : o = i * n) (hy : f y = xs) (k : K ((l.set i y).flatMap f)) : AQ (qo (l.flatMap f) o xs) K := ⟨by
 subst ho hy
 have h1 := yQ hf l i 0 d y (f y) h (by rw [hf]; omega) (by
   unfold qo
   rw [List.take_zero, List.drop_of_length_le (by simp [hf])]
   simp)
 rw [Nat.add_zero] at h1
 rw [h1]
 exact k⟩
theorem cmp_t0 {m c : Int} {r : Rc} (h : r.st = 0) (h0 : r.la.num = 0) : xJ m c r = kv m ⟨c, 2, 0⟩ := by
 unfold xJ kv; rw [if_pos h, h0]
theorem cmp_t1 {m c : Int} {r : Rc} (h : r.st ≠ 0) : xJ m c r = kv m ⟨c, 1, r.la.num⟩ := by
 unfold xJ kv; rw [if_neg h]
theorem st0_num {r : Rc} (hr : r.ok = true) (h : r.st = 0) : r.la.num = 0 := by rw [((xN hr).2.2.1 h).1]; simp [Hd.num, Hd.z]; unfold lw; rfl
section
variable (d : De) (b : List UInt8) (hb : b.length ≤ 140737488355328)
theorem rdc_n (h : d.ok = false) : LP Tryz.prog G 23 [d.av, bv b] [] (fun _ => (dre (qk d b hb), [])) := by
 rw [dcp_n h]
 have hv := zI (G := G) d
 rw [h] at hv
 refine goW [] Tryz.func23 rfl ?_
 conv => whnf
 repeat' ((first | exact Nm.b 0 | (show LC _ _ _ _ _ _; first | refine LC.pure (hv) ?_ | refine goE ?_) | refine T.s ?_ | ((first | apply goB | apply AB.dec | apply AB.gen) <;> intro h <;> try (exfalso; omega)) | refine LQ.mk fun r => ?_ | (show SQ _ _ _ _ _ _ _; first | refine gX 10 [0, 3] [0, 1, 2, 3, 4, 5, 6, 7] [] ?_ | refine gX 16 [0, 3] [0, 1, 2, 3, 4, 5, 6, 7] [] ?_ | refine gX 21 [4, 2] [0, 1, 3, 4, 2, 5, 6] [] ?_ | refine gX 24 [4, 2] [0, 1, 3, 4, 2, 5, 6] [] ?_ | refine gX 29 [0, 2] [0, 1, 2, 3, 4, 5, 6] [] ?_ | refine gX 34 [0, 4] [0, 1, 2, 3, 4, 5, 7, 8, 6, 9, 10] [] ?_ | refine gX 46 [0, 3] [0, 1, 2, 3, 4, 5, 6, 7] [] ?_) | (show (_ → _) ∧ (¬ _ → _); first | refine T.y ?_ | refine qn (fun h => ?_) (fun h => ?_)) | exact T.z | fail) <;> conv => whnf)
 all_goals (try dsimp only)
 all_goals exact RL.dre0
theorem rdc_e (h : d.ok = true) (hl : d.cx.length = 16) (c f e : Int) (hp : ql b = (c, f, e)) (he : e ≠ 0) : LP Tryz.prog G 23 [d.av, bv b] [] (fun _ => (dre (qk d b hb), [])) := by
 rw [dcp_e h hp he]
 have hv := zI (G := G) d
 rw [h] at hv
 have hq := ji (G := G) b
 rw [hp] at hq
 dsimp only [pe] at hq
 refine goW [] Tryz.func23 rfl ?_
 conv => whnf
 repeat' ((first | exact Nm.b 0 | (show LC _ _ _ _ _ _; first | refine LC.pure (hv) ?_ | refine LC.own (xc d (by omega)) ?_ | refine LC.pure (hq) ?_ | refine goE ?_) | refine T.s ?_ | ((first | apply goB | apply AB.dec | apply AB.gen) <;> intro h <;> try (exfalso; omega)) | refine LQ.mk fun r => ?_ | (show SQ _ _ _ _ _ _ _; first | refine gX 10 [0, 3] [0, 1, 2, 3, 4, 5, 6, 7] [] ?_ | refine gX 16 [0, 3] [0, 1, 2, 3, 4, 5, 6, 7] [] ?_ | refine gX 21 [4, 2] [0, 1, 3, 4, 2, 5, 6] [] ?_ | refine gX 24 [4, 2] [0, 1, 3, 4, 2, 5, 6] [] ?_ | refine gX 29 [0, 2] [0, 1, 2, 3, 4, 5, 6] [] ?_ | refine gX 34 [0, 4] [0, 1, 2, 3, 4, 5, 7, 8, 6, 9, 10] [] ?_ | refine gX 46 [0, 3] [0, 1, 2, 3, 4, 5, 6, 7] [] ?_) | (show (_ → _) ∧ (¬ _ → _); first | refine T.y ?_ | refine qn (fun h => ?_) (fun h => ?_)) | exact T.z | fail) <;> conv => whnf)
 all_goals (try dsimp only)
 all_goals
   refine RL.dre .n .n rfl ?_
   (repeat first | refine goH ?_ | apply LH.here | apply LH.next)
   rfl
theorem rdc_6 (r0 : List UInt8) (hb : (210 :: r0).length ≤ 140737488355328) (h : d.ok = true) (hl : d.cx.length = 16) : LP Tryz.prog G 23 [d.av, bv (210 :: r0)] [] (fun _ => (dre (qk d (210 :: r0) hb), [])) := by
 have hp : ql (210 :: r0) = (0, 6, 0) := rfl
 have hv := zI (G := G) d
 rw [h] at hv
 have hq := ji (G := G) (210 :: r0)
 rw [hp] at hq
 dsimp only [pe] at hq
 have k1 : (1 ≤ r0.length ∧ r0.length ≤ 1500) → qk d (210 :: r0) hb = ⟨d, r0, [], 0⟩ := fun h6 => by
   rw [dcp_6y h hp ((dec6_e r0 hb).2 h6), dec6_p r0 hb h6.2]; rfl
 have k2 : ¬ (1 ≤ r0.length ∧ r0.length ≤ 1500) → qk d (210 :: r0) hb = ⟨d, [], [], 4⟩ := fun h6 => dcp_6n h hp (fun e => h6 ((dec6_e r0 hb).1 e))
 have hL : (210 :: r0).length = r0.length + 1 := rfl
 generalize hR : r0.length = R at k1 k2 hL
 refine goW [] Tryz.func23 rfl ?_
 conv => whnf
 repeat' ((first | exact Nm.b 0 | (show LC _ _ _ _ _ _; first | refine LC.pure (hv) ?_ | refine LC.own (xc d (by omega)) ?_ | refine LC.pure (hq) ?_ | refine goE ?_) | (show AQ _ _; first | (refine AQ.tailE 1 rfl ?_ ?_; (focus (simp; omega)))) | refine T.s ?_ | ((first | apply goB | apply AB.dec | apply AB.gen) <;> intro h <;> try (exfalso; omega)) | refine LQ.mk fun r => ?_ | (show SQ _ _ _ _ _ _ _; first | (apply goD tQ qb 10 [0, 3] [0, 1, 2, 3, 4, 5, 6, 7] [_] (by kernel_rfl)) | refine gX 16 [0, 3] [0, 1, 2, 3, 4, 5, 6, 7] [] ?_ | refine gX 21 [4, 2] [0, 1, 3, 4, 2, 5, 6] [] ?_ | refine gX 24 [4, 2] [0, 1, 3, 4, 2, 5, 6] [] ?_ | refine gX 29 [0, 2] [0, 1, 2, 3, 4, 5, 6] [] ?_ | refine gX 34 [0, 4] [0, 1, 2, 3, 4, 5, 7, 8, 6, 9, 10] [] ?_ | refine gX 46 [0, 3] [0, 1, 2, 3, 4, 5, 6, 7] [] ?_) | (show (_ → _) ∧ (¬ _ → _); first | refine T.y ?_ | refine qn (fun h => ?_) (fun h => ?_)) | exact T.z | fail) <;> try (show (_ : Prop); conv => whnf))
 all_goals (try dsimp only)
 all_goals first
   | (exfalso; omega)
   | (rw [k2 (by omega)]; refine RL.dre .n .n rfl ?_; (repeat first | refine goH ?_ | apply LH.here | apply LH.next); rfl)
   | (rw [k1 (by omega)]; refine RL.dreG [_, _] (LF.rcv InL.here rfl ?_) (LF.rowF (b := r0) (InL.next InL.here) ?_) (LF.nils rfl rfl) ?_; (focus ((repeat first | refine goH ?_ | apply LH.here | apply LH.next); rfl)); (focus ((repeat first | refine goH ?_ | apply LH.here | apply LH.next); exact ⟨rfl, by simp⟩)); (repeat first | refine goH ?_ | apply LH.here | apply LH.next); exact LB.nil)
   | trace_state
theorem rdc_c (h : d.ok = true) (hl : d.cx.length = 16) (i : Nat) (f : Int) (hp : ql b = ((i : Int), f, 0)) (hi : i < d.cx.length) (h6 : f ≠ 6) (hr : (d.cx.getD i Rc.z).ok = true) (hs : (d.cx.getD i Rc.z).st < zw f) : LP Tryz.prog G 23 [d.av, bv b] [] (fun _ => (dre (qk d b hb), [])) := by
 rw [dcp_c (r := d.cx.getD i Rc.z) h hp h6 rfl hs]
 have hv := zI (G := G) d
 rw [h] at hv
 have hq := ji (G := G) b
 rw [hp] at hq
 dsimp only [pe] at hq
 have hst := (xN hr).2.1
 have hs' : f ≠ 5 ∧ ((d.cx.getD i Rc.z).st = 0 ∨ (d.cx.getD i Rc.z).st = 1 ∧ f ≠ 4) := by
   unfold zw at hs
   (repeat' split at hs) <;> omega
 have hnum := st0_num hr
 refine goW [] Tryz.func23 rfl ?_
 conv => whnf
 repeat' ((first | exact Nm.b 0 | (refine And.intro ?_ ?_; (focus (first | (show KeepX _ _ _; exact KeepX.refl) | (show _ ≤ (List.flatMap Rc.cs _).length; rw [qy Rc.cs_len]; (try dsimp only); omega) | exact T.kx | exact T.side))) | (show LC _ _ _ _ _ _; first | refine LC.pure (hv) ?_ | refine LC.own (xc d (by omega)) ?_ | refine LC.pure (hq) ?_ | refine LC.pure (qI _) ?_ | refine LC.pure (r10told_c d ⟨_, _, _⟩) ?_ | refine goE ?_) | (show AC _ _ _; first | (refine AC.recd Rc.cs_len i Rc.z ?_ rfl hi ?_; (focus ((try dsimp only); omega)))) | refine T.s ?_ | ((first | apply goB | apply AB.dec | apply AB.gen) <;> intro h <;> try (exfalso; omega)) | refine LQ.mk fun r => ?_ | (show SQ _ _ _ _ _ _ _; first | refine gX 10 [0, 3] [0, 1, 2, 3, 4, 5, 6, 7] [] ?_ | refine gX 16 [0, 3] [0, 1, 2, 3, 4, 5, 6, 7] [] ?_ | refine gX 21 [4, 2] [0, 1, 3, 4, 2, 5, 6] [] ?_ | refine gX 24 [4, 2] [0, 1, 3, 4, 2, 5, 6] [] ?_ | refine gX 29 [0, 2] [0, 1, 2, 3, 4, 5, 6] [] ?_ | refine gX 34 [0, 4] [0, 1, 2, 3, 4, 5, 7, 8, 6, 9, 10] [] ?_ | refine gX 46 [0, 3] [0, 1, 2, 3, 4, 5, 6, 7] [] ?_) | (show (_ → _) ∧ (¬ _ → _); first | refine T.y ?_ | refine qn (fun h => ?_) (fun h => ?_)) | exact T.z | fail) <;> conv => whnf)
 all_goals (try dsimp only)
 all_goals first
   | (exfalso; omega)
   | (rw [cmp_t1 (by omega)]; refine RL.dre .n (.b _) rfl ?_; (repeat first | refine goH ?_ | apply LH.here | apply LH.next); rfl)
   | (rw [cmp_t0 (by omega) (hnum (by omega))]; refine RL.dre .n (.b _) rfl ?_; (repeat first | refine goH ?_ | apply LH.here | apply LH.next); rfl)
   | trace_state
theorem rdc_d (h : d.ok = true) (hl : d.cx.length = 16) (i : Nat) (f : Int) (hp : ql b = ((i : Int), f, 0)) (hi : i < d.cx.length) (h6 : f ≠ 6) (hr : (d.cx.getD i Rc.z).ok = true) (hs : ¬ (d.cx.getD i Rc.z).st < zw f) (hD : dse (qY b hb (d.cx.getD i Rc.z).la.k (decide ((d.cx.getD i Rc.z).la.ck ≠ 0))) ≠ 0) : LP Tryz.prog G 23 [d.av, bv b] [] (fun _ => (dre (qk d b hb), [])) := by
 rw [dcp_d (r := d.cx.getD i Rc.z) h hp h6 rfl hs hD]
 have hv := zI (G := G) d
 rw [h] at hv
 have hq := ji (G := G) b
 rw [hp] at hq
 dsimp only [pe] at hq
 have hst := (xN hr).2.1
 have hs' : ¬ (f ≠ 5 ∧ ((d.cx.getD i Rc.z).st = 0 ∨ (d.cx.getD i Rc.z).st = 1 ∧ f ≠ 4)) := by
   unfold zw at hs
   (repeat' split at hs) <;> omega
 have hd := jQ (G := G) b hb (d.cx.getD i Rc.z).la.k (qu .neq (d.cx.getD i Rc.z).la.ck 0)
 rw [xp] at hd
 rw [← xp] at hd
 have e0 := xp (d.cx.getD i Rc.z).la.ck
 rw [← e0] at hD ⊢
 clear e0
 generalize dse (qY b hb (d.cx.getD i Rc.z).la.k (qu .neq (d.cx.getD i Rc.z).la.ck 0)) = E at hd hD ⊢
 generalize dsm (qY b hb (d.cx.getD i Rc.z).la.k (qu .neq (d.cx.getD i Rc.z).la.ck 0)) = S at hd
 refine goW [] Tryz.func23 rfl ?_
 conv => whnf
 repeat' ((first | exact Nm.b 0 | (refine And.intro ?_ ?_; (focus (first | (show KeepX _ _ _; exact KeepX.refl) | (show _ ≤ (List.flatMap Rc.cs _).length; rw [qy Rc.cs_len]; (try dsimp only); omega) | exact T.kx | exact T.side))) | (show LC _ _ _ _ _ _; first | refine LC.pure (hv) ?_ | refine LC.own (xc d (by omega)) ?_ | refine LC.pure (hq) ?_ | refine LC.pure (hd) ?_ | refine goE ?_) | (show AC _ _ _; first | (refine AC.recd Rc.cs_len i Rc.z ?_ rfl hi ?_; (focus ((try dsimp only); omega)))) | refine T.s ?_ | ((first | apply goB | apply AB.dec | apply AB.gen) <;> intro h <;> try (exfalso; omega)) | refine LQ.mk fun r => ?_ | (show SQ _ _ _ _ _ _ _; first | refine gX 10 [0, 3] [0, 1, 2, 3, 4, 5, 6, 7] [] ?_ | refine gX 16 [0, 3] [0, 1, 2, 3, 4, 5, 6, 7] [] ?_ | refine gX 21 [4, 2] [0, 1, 3, 4, 2, 5, 6] [] ?_ | refine gX 24 [4, 2] [0, 1, 3, 4, 2, 5, 6] [] ?_ | refine gX 29 [0, 2] [0, 1, 2, 3, 4, 5, 6] [] ?_ | refine gX 34 [0, 4] [0, 1, 2, 3, 4, 5, 7, 8, 6, 9, 10] [] ?_ | refine gX 46 [0, 3] [0, 1, 2, 3, 4, 5, 6, 7] [] ?_) | (show (_ → _) ∧ (¬ _ → _); first | refine T.y ?_ | refine qn (fun h => ?_) (fun h => ?_)) | exact T.z | fail) <;> conv => whnf)
 all_goals (try dsimp only)
 all_goals first
   | (exfalso; omega)
   | (refine RL.dre .n .n rfl ?_; (repeat first | refine goH ?_ | apply LH.here | apply LH.next); rfl)
   | trace_state
end
open Go.RowKit
variable {G : Nat → AV}
def xy (t : List Int) (a : Nat) : Nat → List Hd × Nat
 | 0 => ([], a)
 | n + 1 => ((xy t a n).1 ++ [hdrR t (xy t a n).2 n], hdrA t (xy t a n).2 n)
theorem za (t : List Int) (a : Nat) : ∀ n, (xy t a n).1.length = n
 | 0 => rfl
 | n + 1 => by simp [xy, za t a n]
def vA (h : Hd) : Prop := h.k = 1 ∨ h.k = 2
theorem hdr_kind (t : List Int) (a : Nat) (fl : Int) : vA (hdrR t a fl) := hkd_12 fl
theorem z4 (t : List Int) (a : Nat) : ∀ n, ∀ h ∈ (xy t a n).1, vA h
 | 0, h, hh => by cases hh
 | n + 1, h, hh => by
   simp only [xy, List.mem_append, List.mem_singleton] at hh
   rcases hh with hh | rfl
   · exact z4 t a n h hh
   · exact hdr_kind _ _ _
theorem fol_k (t : List Int) (a : Nat) (h : Hd) (reg : Bool) : (yw t a h reg).1.k = h.k := by
 have e1 : ∀ s, (foI h s).k = h.k := fun s => rfl
 have e2 : ∀ a x, (foB t a x).1.k = x.k := fun a x => by unfold foB; split <;> rfl
 have e3 : ∀ s x, (foT s x).k = x.k := fun s x => by unfold foT; split <;> rfl
 have e4 : ∀ a x, (foX t a x).1.k = x.k := fun a x => by unfold foX; (repeat' split) <;> rfl
 unfold yw
 split
 · dsimp only; rw [e3, e2, e1]
 · rw [e4, e3, e2, e1]
structure Pq where
 hs : List Hd
 bs : List (List UInt8)
 a : Nat
def pqK (t : List Int) (fl : Int) (x : Pq) : Nat := (qg t x.a fl).toNat
def pqP (t : List Int) (x : Pq) : List UInt8 := xX t (qd t (qd t x.a)) (xE t (qd t x.a) 6)
def pqA (t : List Int) (x : Pq) : Nat := adv t (qd t (qd t x.a)) (xE t (qd t x.a) 6)
def pqH (t : List Int) (fl : Int) (x : Pq) : Hd := x.hs.getD (pqK t fl x) Hd.z
def pqF (t : List Int) (fl : Int) (reg : Bool) (x : Pq) : Hd × Nat := yw t (pqA t x) (pqH t fl x) reg
def pqS (t : List Int) (fl : Int) (reg : Bool) (x : Pq) : Pq :=
 if reg = true then ⟨x.hs.set (pqK t fl x) (pqF t fl reg x).1, x.bs ++ [jc (pqH t fl x) (pqP t x)], (pqF t fl reg x).2⟩
 else if jd t (pqF t fl reg x).2 15 = true then ⟨x.hs.set (pqK t fl x) (pqF t fl reg x).1, x.bs ++ [jc (pqH t fl x) (pqP t x)] ++ [ky t (qd t (pqF t fl reg x).2) 40], someA t (qd t (pqF t fl reg x).2) 40⟩
 else ⟨x.hs.set (pqK t fl x) (pqF t fl reg x).1, x.bs ++ [jc (pqH t fl x) (pqP t x)], qd t (pqF t fl reg x).2⟩
def pqI (t : List Int) (fl : Int) (reg : Bool) : Nat → Pq → Pq
 | 0, x => x
 | n + 1, x => pqI t fl reg n (pqS t fl reg x)
def yc (t : List Int) (a : Nat) (fl : Nat) (cnt : Int) : Nat := (qg t (xy t a fl).2 (q7 .add .i64 cnt 1)).toNat
def kd (t : List Int) (a : Nat) (fl : Nat) (cnt : Int) (reg : Bool) : Pq := pqI t fl reg (yc t a fl cnt) ⟨(xy t a fl).1, [], qd t (xy t a fl).2⟩
def bbv (l : List (List UInt8)) : AV := .sl l.length (l.map bv)
attribute [local irreducible] hdrR hdrA yw jc xX ky someA xE qg qd
theorem qc (t : List Int) (a n : Nat) : (xy t a n).1.flatMap Hd.cs ++ (hdrR t (xy t a n).2 n).cs = (xy t a (n + 1)).1.flatMap Hd.cs := by simp [xy]
theorem pq_f {t : List Int} {fl : Int} {x : Pq} {n : Nat} {R : Pq} (h : pqI t fl false (n + 1) x = R) (k : jd t (pqF t fl false x).2 15 = false) : pqI t fl false n ⟨x.hs.set (pqK t fl x) (pqF t fl false x).1, x.bs ++ [jc (pqH t fl x) (pqP t x)], qd t (pqF t fl false x).2⟩ = R := by
 rw [← h]
 show _ = pqI t fl false n (pqS t fl false x)
 unfold pqS
 rw [if_neg (by decide), if_neg (by rw [k]; decide)]
theorem pq_g {t : List Int} {fl : Int} {x : Pq} {n : Nat} {R : Pq} (h : pqI t fl false (n + 1) x = R) (k : jd t (pqF t fl false x).2 15 = true) : pqI t fl false n ⟨x.hs.set (pqK t fl x) (pqF t fl false x).1, x.bs ++ [jc (pqH t fl x) (pqP t x)] ++ [ky t (qd t (pqF t fl false x).2) 40], someA t (qd t (pqF t fl false x).2) 40⟩ = R := by
 rw [← h]
 show _ = pqI t fl false n (pqS t fl false x)
 unfold pqS
 rw [if_neg (by decide), if_pos k]
theorem zx {t : List Int} {fl : Int} {reg : Bool} {x : Pq} (h : ∀ y ∈ x.hs, vA y) (hk : pqK t fl x < x.hs.length) : ∀ y ∈ x.hs.set (pqK t fl x) (pqF t fl reg x).1, vA y := fun y hy => by
 rcases List.mem_or_eq_of_mem_set hy with hy | rfl
 · exact h y hy
 · unfold vA pqF
   rw [fol_k]
   refine h _ ?_
   unfold pqH
   rw [List.getD_eq_getElem?_getD, List.getElem?_eq_getElem hk]
   exact List.getElem_mem _
theorem RL.rowBB {t : List Int} {a : Nat} {L : List (List UInt8)} {n : Nat} {q p : Nm} {l : LS} (h : LH l q fun c _ r => c.cs = L.map bv ∧ n = L.length ∧ LB [(p, zl t a)] r) : RL (fun _ => (bbv L, [(p, zl t a)])) (.vw q 0 n 1) l := by
 obtain ⟨l1, c, l2, rfl, h1, rfl, h2⟩ := h.ex
 exact RL.frz [q] (LF.row InL.here ⟨l1, c, l2, rfl, by decide, by simp [h1], rfl, h1.symm⟩) ⟨l1, c, l2, rfl, h2⟩
theorem pq_k {t : List Int} {fl : Nat} {x : Pq} (h0 : 1 ≤ fl) (h1 : fl ≤ 10) : 0 ≤ qg t x.a fl ∧ qg t x.a fl < fl ∧ pqK t fl x < fl := by
 have := zA t x.a fl (by omega) (by omega)
 unfold pqK
 omega
theorem pq_next {t : List Int} {fl : Int} {reg : Bool} {x : Pq} {n : Nat} {R : Pq} (h0 : (0 : Int) < (n : Int)) (h : pqI t fl reg n x = R) : pqI t fl reg (n - 1) (pqS t fl reg x) = R := by
 obtain ⟨m, rfl⟩ : ∃ m, n = m + 1 := ⟨n - 1, by omega⟩
 exact h
theorem y8 {t : List Int} {fl : Int} {x : Pq} {n : Nat} {R : Pq} (h0 : (0 : Int) < (n : Int)) (h : pqI t fl false n x = R) (k : jd t (pqF t fl false x).2 15 = false) : pqI t fl false (n - 1) ⟨x.hs.set (pqK t fl x) (pqF t fl false x).1, x.bs ++ [jc (pqH t fl x) (pqP t x)], qd t (pqF t fl false x).2⟩ = R := by
 obtain ⟨m, rfl⟩ : ∃ m, n = m + 1 := ⟨n - 1, by omega⟩
 exact pq_f h k
theorem y7 {t : List Int} {fl : Int} {x : Pq} {n : Nat} {R : Pq} (h0 : (0 : Int) < (n : Int)) (h : pqI t fl false n x = R) (k : jd t (pqF t fl false x).2 15 = true) : pqI t fl false (n - 1) ⟨x.hs.set (pqK t fl x) (pqF t fl false x).1, x.bs ++ [jc (pqH t fl x) (pqP t x)] ++ [ky t (qd t (pqF t fl false x).2) 40], someA t (qd t (pqF t fl false x).2) 40⟩ = R := by
 obtain ⟨m, rfl⟩ : ∃ m, n = m + 1 := ⟨n - 1, by omega⟩
 exact pq_g h k
theorem pq_nt {t : List Int} {fl : Int} {x : Pq} {n : Nat} {R : Pq} (h0 : (0 : Int) < (n : Int)) (h : pqI t fl true n x = R) : pqI t fl true (n - 1) ⟨x.hs.set (pqK t fl x) (pqF t fl true x).1, x.bs ++ [jc (pqH t fl x) (pqP t x)], (pqF t fl true x).2⟩ = R := pq_next h0 h
theorem pq_0 {t : List Int} {fl : Int} {reg : Bool} {x : Pq} {n : Nat} {R : Pq} (h0 : ¬ (0 : Int) < (n : Int)) (h : pqI t fl reg n x = R) : x = R := by
 obtain rfl : n = 0 := by omega
 exact h
theorem pq_hk {fl : Nat} {t : List Int} {x : Pq} (h : ∀ y ∈ x.hs, vA y) (hl : x.hs.length = fl) (h0 : 1 ≤ fl) (h1 : fl ≤ 10) : (pqH t fl x).k = 1 ∨ (pqH t fl x).k = 2 := by
 have := (pq_k (t := t) (x := x) h0 h1).2.2
 refine h _ ?_
 unfold pqH
 rw [List.getD_eq_getElem?_getD, List.getElem?_eq_getElem (by omega)]
 exact List.getElem_mem _
theorem pq_pl (t : List Int) (x : Pq) : (pqP t x).length ≤ 100000 := by
 have := zA t (qd t x.a) (q7 .add .i64 6 1) (by decide) (by decide)
 have e : q7 .add .i64 6 1 = 7 := rfl
 unfold pqP xE
 rw [bytesL_len]
 omega
theorem hds_le (t : List Int) (a i : Nat) : 0 + i * 15 ≤ ((xy t a i).1.flatMap Hd.cs).length := by rw [qy Hd.cs_len, za]; omega
theorem hds_ge (t : List Int) (a i : Nat) : ((xy t a i).1.flatMap Hd.cs).length ≤ i * 15 := by rw [qy Hd.cs_len, za]; exact Nat.le_refl _
theorem qf (l : List (List UInt8)) (b : List UInt8) : l.map bv ++ [bv b] = (l ++ [b]).map bv := by rw [List.map_append]; rfl
theorem qt (l : List (List UInt8)) (b c : List UInt8) : l.map bv ++ [bv b] ++ [bv c] = (l ++ [b] ++ [c]).map bv := by rw [qf, qf]
theorem yf {t : List Int} {a : Nat} (h : qg t a 15 = q7 .sub .i64 15 1) : jd t a 15 = true := (j7 _ _ _).2 h
theorem yg {t : List Int} {a : Nat} (h : ¬ qg t a 15 = q7 .sub .i64 15 1) : jd t a 15 = false := Bool.eq_false_iff.2 fun k => h ((j7 _ _ _).1 k)
theorem pq_ix {t : List Int} {fl : Int} {x : Pq} : 0 + (qg t x.a fl).toNat * 15 = pqK t fl x * 15 := Nat.zero_add _
theorem pq_le {t : List Int} {fl : Nat} {x : Pq} (hl : x.hs.length = fl) (h0 : 1 ≤ fl) (h1 : fl ≤ 10) : 0 + (qg t x.a fl).toNat * 15 + 15 ≤ (x.hs.flatMap Hd.cs).length := by
 rw [pq_ix, qy Hd.cs_len]
 have := (pq_k (t := t) (x := x) h0 h1).2.2
 omega
theorem packets_t (t : List Int) (a : Nat) (fl : Nat) (cnt : Int) (h0 : 1 ≤ fl) (h1 : fl ≤ 10) (h2 : 0 ≤ cnt) (h3 : cnt ≤ 100) (ht : t.length ≤ 400) (p : Nm) : LP Tryz.prog G 19 [.ptr p 0, iAV fl, iAV cnt, .bool true] [(p, zl t a)] (fun _ => (bbv (kd t a fl cnt true).bs, [(p, zl t (kd t a fl cnt true).a)])) := by
 have hm : q7 .add .i64 cnt 1 = cnt + 1 := by (exact T.num)
 have hb := zA t (xy t a fl).2 (q7 .add .i64 cnt 1) (by omega) (by omega)
 have hN : qg t (xy t a fl).2 (q7 .add .i64 cnt 1) = (yc t a fl cnt : Int) := by unfold yc; omega
 have hNb : yc t a fl cnt ≤ 101 := by unfold yc; omega
 have hq := fun x => (pq_k (t := t) (fl := fl) (x := x) h0 h1).1
 have hq2 := fun x => (pq_k (t := t) (fl := fl) (x := x) h0 h1).2.1
 have hq3 := fun x => (pq_k (t := t) (fl := fl) (x := x) h0 h1).2.2
 refine goW [] Tryz.func19 rfl ?_
 conv => whnf
 repeat' ((first | (show SQ _ _ _ (.loop _) _ _ _; have hi : fl = i := (by omega); subst hi) | exact Nm.b 0 | (refine And.intro ?_ ?_; (focus (first | exact hds_le _ _ _ | exact pq_le (by assumption) h0 h1 | exact T.kx | exact T.side))) | (show LC _ _ _ _ _ _; first | (apply LC.upd (dheader_c t _ _ ht _); (repeat first | refine goH ?_ | apply LH.here | apply LH.next); refine ⟨rfl, ?_⟩) | (apply LC.upd (dbytes_c t _ 6 (by decide) (by decide) ht _); (repeat first | refine goH ?_ | apply LH.here | apply LH.next); refine ⟨rfl, ?_⟩) | (apply LC.upd (je t _ _ ht _); (repeat first | refine goH ?_ | apply LH.here | apply LH.next); refine ⟨rfl, ?_⟩) | refine LC.pure (vf (pqH t fl x) (pqP t x) (pq_hk (by assumption) (by assumption) h0 h1) (pq_pl t x)) ?_ | (apply LC.upd (follow_c t (pqA t x) (pqH t fl x) true ht _); (repeat first | refine goH ?_ | apply LH.here | apply LH.next); refine ⟨rfl, ?_⟩) | refine goE ?_) | (show AC _ _ _; first | (refine AC.recd Hd.cs_len (pqK t fl x) Hd.z pq_ix rfl ?_ ?_; (focus (have := hq3 x; omega)))) | (show AQ _ _; first | (refine AQ.full ?_ ?_; (focus exact hds_ge _ _ _)) | (refine AQ.rsetW Hd.cs_len (i := pqK t fl x) Hd.z (pqF t fl true x).1 ?_ ?_ ?_ ?_; (focus (have := hq3 x; omega)); (focus (exact pq_ix)); (focus rfl))) | refine T.s ?_ | ((first | apply goB | apply AB.dec | apply AB.gen) <;> intro h <;> try (exfalso; omega)) | refine LQ.mk fun r => ?_ | (show SQ _ _ _ (.loop _) _ _ _; first | (apply goO tQ [] 3 (S := Nat × Nm) [0, 1, 2, 3] (fun (i, q) => ⟨[(9, .vw q 0 i 15), (10, .int .i64 i)], [(p, zl t (xy t a i).2), (q, ⟨65, (xy t a i).1.flatMap Hd.cs⟩)], i ≤ fl, fl - i⟩) ((0, _)) (by rfl); (focus ((repeat' first | exact trivial | (refine And.intro ?_ ?_) | exact LB.nil | (with_reducible exact LB.refl) | (apply LB.cons; (repeat first | refine goH ?_ | apply LH.here | apply LH.next); refine And.intro ?_ ?_; (focus (try (first | (with_reducible rfl) | (refine congrArg (Pl.mk _) ?_; (first | (with_reducible rfl) | exact qc _ _ _ | exact qf _ _ | rfl)) | rfl | (with_reducible refine congrArg (Pl.mk _) ?_))))) | assumption | (exact pq_nt (by assumption) (by assumption)) | (exact zx (by assumption) (by have := hq3 x; omega)) | (exact z4 _ _ _) | (exact za _ _ _) | (rw [List.length_set]; assumption) | (exact hq _) | (exact hq2 _) | (first | (focus (apply Eq.trans; (conv => lhs; whnf); (conv => rhs; whnf); done)) | rfl | ((conv => lhs; whnf); first | rfl | (refine congrArg (AV.int _) ?_; (exact T.num)) | (refine congrArg AV.bool ?_; (exact T.num)) | (refine vwc ?_; first | (exact T.num) | (first | (with_reducible rfl) | exact qc _ _ _ | exact qf _ _ | rfl)) | (refine qa ?_ ?_ <;> first | (exact T.num) | (first | (with_reducible rfl) | exact qc _ _ _ | exact qf _ _ | rfl)) | (first | (with_reducible rfl) | exact qc _ _ _ | exact qf _ _ | rfl))) | (exact T.num) | (dsimp only; (exact T.num)) | (first | (with_reducible rfl) | exact qc _ _ _ | exact qf _ _ | rfl)); done)); rintro ⟨i, q⟩ hok; (try dsimp only at hok)) | (apply goO tQ [] 8 (S := Nat × Pq × Nm × Nm) [0, 1, 3] (fun (n, x, q, r) => ⟨[(9, .vw q 0 fl 15), (11, .vw r 0 x.bs.length 1), (12, .int .i64 n)], [(p, zl t x.a), (q, ⟨65, x.hs.flatMap Hd.cs⟩), (r, ⟨33, x.bs.map bv⟩)], n ≤ 101 ∧ x.hs.length = fl ∧ (∀ y ∈ x.hs, vA y) ∧ (0 ≤ qg t x.a fl) ∧ qg t x.a fl < fl ∧ x.bs.length ≤ 1000 - n ∧ pqI t fl true n x = kd t a fl cnt true, n⟩) ((yc t a fl cnt, ⟨(xy t a fl).1, [], qd t (xy t a fl).2⟩, _, _)) (by rfl); (focus ((repeat' first | exact trivial | (refine And.intro ?_ ?_) | exact LB.nil | (with_reducible exact LB.refl) | (apply LB.cons; (repeat first | refine goH ?_ | apply LH.here | apply LH.next); refine And.intro ?_ ?_; (focus (try (first | (with_reducible rfl) | (refine congrArg (Pl.mk _) ?_; (first | (with_reducible rfl) | exact qc _ _ _ | exact qf _ _ | rfl)) | rfl | (with_reducible refine congrArg (Pl.mk _) ?_))))) | assumption | (exact pq_nt (by assumption) (by assumption)) | (exact zx (by assumption) (by have := hq3 x; omega)) | (exact z4 _ _ _) | (exact za _ _ _) | (rw [List.length_set]; assumption) | (exact hq _) | (exact hq2 _) | (first | (focus (apply Eq.trans; (conv => lhs; whnf); (conv => rhs; whnf); done)) | rfl | ((conv => lhs; whnf); first | rfl | (refine congrArg (AV.int _) ?_; (exact T.num)) | (refine congrArg AV.bool ?_; (exact T.num)) | (refine vwc ?_; first | (exact T.num) | (first | (with_reducible rfl) | exact qc _ _ _ | exact qf _ _ | rfl)) | (refine qa ?_ ?_ <;> first | (exact T.num) | (first | (with_reducible rfl) | exact qc _ _ _ | exact qf _ _ | rfl)) | (first | (with_reducible rfl) | exact qc _ _ _ | exact qf _ _ | rfl))) | (exact T.num) | (dsimp only; (exact T.num)) | (first | (with_reducible rfl) | exact qc _ _ _ | exact qf _ _ | rfl)); done)); rintro ⟨n, x, q, r⟩ ⟨hk, hk, hk, hk, hk, hk, hok⟩)) | (show SQ _ _ _ _ _ _ _; first | refine SQ.adopt 9 15 65 (by rfl) fun q => ?_ | refine SQ.adopt 11 1 33 (by rfl) fun q => ?_ | refine gX 11 [4, 6] [0, 1, 2, 3, 4, 5, 6, 7, 8, 9, 10] [p] ?_) | (show AtL _ _ _ _ _ _ _ _ _ _; first | (apply AtL.mk' (id := 3) (S := Nat × Nm) ((i + 1, _)); (repeat' first | exact trivial | (refine And.intro ?_ ?_) | exact LB.nil | (with_reducible exact LB.refl) | (apply LB.cons; (repeat first | refine goH ?_ | apply LH.here | apply LH.next); refine And.intro ?_ ?_; (focus (try (first | (with_reducible rfl) | (refine congrArg (Pl.mk _) ?_; (first | (with_reducible rfl) | exact qc _ _ _ | exact qf _ _ | rfl)) | rfl | (with_reducible refine congrArg (Pl.mk _) ?_))))) | assumption | (exact pq_nt (by assumption) (by assumption)) | (exact zx (by assumption) (by have := hq3 x; omega)) | (exact z4 _ _ _) | (exact za _ _ _) | (rw [List.length_set]; assumption) | (exact hq _) | (exact hq2 _) | (first | (focus (apply Eq.trans; (conv => lhs; whnf); (conv => rhs; whnf); done)) | rfl | ((conv => lhs; whnf); first | rfl | (refine congrArg (AV.int _) ?_; (exact T.num)) | (refine congrArg AV.bool ?_; (exact T.num)) | (refine vwc ?_; first | (exact T.num) | (first | (with_reducible rfl) | exact qc _ _ _ | exact qf _ _ | rfl)) | (refine qa ?_ ?_ <;> first | (exact T.num) | (first | (with_reducible rfl) | exact qc _ _ _ | exact qf _ _ | rfl)) | (first | (with_reducible rfl) | exact qc _ _ _ | exact qf _ _ | rfl))) | (exact T.num) | (dsimp only; (exact T.num)) | (first | (with_reducible rfl) | exact qc _ _ _ | exact qf _ _ | rfl)); done) | (apply AtL.mk' (id := 8) (S := Nat × Pq × Nm × Nm) ((n - 1, ⟨x.hs.set (pqK t fl x) (pqF t fl true x).1, x.bs ++ [jc (pqH t fl x) (pqP t x)], (pqF t fl true x).2⟩, _, _)); (repeat' first | exact trivial | (refine And.intro ?_ ?_) | exact LB.nil | (with_reducible exact LB.refl) | (apply LB.cons; (repeat first | refine goH ?_ | apply LH.here | apply LH.next); refine And.intro ?_ ?_; (focus (try (first | (with_reducible rfl) | (refine congrArg (Pl.mk _) ?_; (first | (with_reducible rfl) | exact qc _ _ _ | exact qf _ _ | rfl)) | rfl | (with_reducible refine congrArg (Pl.mk _) ?_))))) | assumption | (exact pq_nt (by assumption) (by assumption)) | (exact zx (by assumption) (by have := hq3 x; omega)) | (exact z4 _ _ _) | (exact za _ _ _) | (rw [List.length_set]; assumption) | (exact hq _) | (exact hq2 _) | (first | (focus (apply Eq.trans; (conv => lhs; whnf); (conv => rhs; whnf); done)) | rfl | ((conv => lhs; whnf); first | rfl | (refine congrArg (AV.int _) ?_; (exact T.num)) | (refine congrArg AV.bool ?_; (exact T.num)) | (refine vwc ?_; first | (exact T.num) | (first | (with_reducible rfl) | exact qc _ _ _ | exact qf _ _ | rfl)) | (refine qa ?_ ?_ <;> first | (exact T.num) | (first | (with_reducible rfl) | exact qc _ _ _ | exact qf _ _ | rfl)) | (first | (with_reducible rfl) | exact qc _ _ _ | exact qf _ _ | rfl))) | (exact T.num) | (dsimp only; (exact T.num)) | (first | (with_reducible rfl) | exact qc _ _ _ | exact qf _ _ | rfl)); done) | (apply AtL.mk' (id := 3) (S := Nat × Nm) ((i + 1, _)); (repeat' first | exact trivial | (refine And.intro ?_ ?_) | exact LB.nil | (with_reducible exact LB.refl) | (apply LB.cons; (repeat first | refine goH ?_ | apply LH.here | apply LH.next); refine And.intro ?_ ?_; (focus (try (first | (with_reducible rfl) | (refine congrArg (Pl.mk _) ?_; (first | (with_reducible rfl) | exact qc _ _ _ | exact qf _ _ | rfl)) | rfl | (with_reducible refine congrArg (Pl.mk _) ?_))))) | assumption | (exact pq_nt (by assumption) (by assumption)) | (exact zx (by assumption) (by have := hq3 x; omega)) | (exact z4 _ _ _) | (exact za _ _ _) | (rw [List.length_set]; assumption) | (exact hq _) | (exact hq2 _) | (first | (focus (apply Eq.trans; (conv => lhs; whnf); (conv => rhs; whnf); done)) | rfl | ((conv => lhs; whnf); first | rfl | (refine congrArg (AV.int _) ?_; (exact T.num)) | (refine congrArg AV.bool ?_; (exact T.num)) | (refine vwc ?_; first | (exact T.num) | (first | (with_reducible rfl) | exact qc _ _ _ | exact qf _ _ | rfl)) | (refine qa ?_ ?_ <;> first | (exact T.num) | (first | (with_reducible rfl) | exact qc _ _ _ | exact qf _ _ | rfl)) | (first | (with_reducible rfl) | exact qc _ _ _ | exact qf _ _ | rfl))) | (exact T.num) | (dsimp only; (exact T.num)) | (first | (with_reducible rfl) | exact qc _ _ _ | exact qf _ _ | rfl))) | (apply AtL.mk' (id := 8) (S := Nat × Pq × Nm × Nm) ((n - 1, ⟨x.hs.set (pqK t fl x) (pqF t fl true x).1, x.bs ++ [jc (pqH t fl x) (pqP t x)], (pqF t fl true x).2⟩, _, _)); (repeat' first | exact trivial | (refine And.intro ?_ ?_) | exact LB.nil | (with_reducible exact LB.refl) | (apply LB.cons; (repeat first | refine goH ?_ | apply LH.here | apply LH.next); refine And.intro ?_ ?_; (focus (try (first | (with_reducible rfl) | (refine congrArg (Pl.mk _) ?_; (first | (with_reducible rfl) | exact qc _ _ _ | exact qf _ _ | rfl)) | rfl | (with_reducible refine congrArg (Pl.mk _) ?_))))) | assumption | (exact pq_nt (by assumption) (by assumption)) | (exact zx (by assumption) (by have := hq3 x; omega)) | (exact z4 _ _ _) | (exact za _ _ _) | (rw [List.length_set]; assumption) | (exact hq _) | (exact hq2 _) | (first | (focus (apply Eq.trans; (conv => lhs; whnf); (conv => rhs; whnf); done)) | rfl | ((conv => lhs; whnf); first | rfl | (refine congrArg (AV.int _) ?_; (exact T.num)) | (refine congrArg AV.bool ?_; (exact T.num)) | (refine vwc ?_; first | (exact T.num) | (first | (with_reducible rfl) | exact qc _ _ _ | exact qf _ _ | rfl)) | (refine qa ?_ ?_ <;> first | (exact T.num) | (first | (with_reducible rfl) | exact qc _ _ _ | exact qf _ _ | rfl)) | (first | (with_reducible rfl) | exact qc _ _ _ | exact qf _ _ | rfl))) | (exact T.num) | (dsimp only; (exact T.num)) | (first | (with_reducible rfl) | exact qc _ _ _ | exact qf _ _ | rfl)))) | exact T.z | fail) <;> conv => whnf)
 all_goals (try dsimp only)
 all_goals
   rw [← pq_0 (x := x) (n := n) (fl := (fl : Int)) (reg := true) (t := t) (R := kd t a fl cnt true) (by assumption) (by assumption)]
   refine RL.rowBB ?_
   (repeat first | refine goH ?_ | apply LH.here | apply LH.next)
   refine ⟨rfl, rfl, ?_⟩
   (repeat' first | exact LB.nil | (with_reducible exact LB.refl) | (apply LB.cons; (repeat first | refine goH ?_ | apply LH.here | apply LH.next); refine And.intro ?_ ?_; (focus (try (first | (with_reducible rfl) | (refine congrArg (Pl.mk _) ?_; (first | rfl | (simp; done))) | rfl | (with_reducible refine congrArg (Pl.mk _) ?_))))))
theorem packets_f (t : List Int) (a : Nat) (fl : Nat) (cnt : Int) (h0 : 1 ≤ fl) (h1 : fl ≤ 10) (h2 : 0 ≤ cnt) (h3 : cnt ≤ 100) (ht : t.length ≤ 400) (p : Nm) : LP Tryz.prog G 19 [.ptr p 0, iAV fl, iAV cnt, .bool false] [(p, zl t a)] (fun _ => (bbv (kd t a fl cnt false).bs, [(p, zl t (kd t a fl cnt false).a)])) := by
 have hm : q7 .add .i64 cnt 1 = cnt + 1 := by (exact T.num)
 have hb := zA t (xy t a fl).2 (q7 .add .i64 cnt 1) (by omega) (by omega)
 have hN : qg t (xy t a fl).2 (q7 .add .i64 cnt 1) = (yc t a fl cnt : Int) := by unfold yc; omega
 have hNb : yc t a fl cnt ≤ 101 := by unfold yc; omega
 have hq := fun x => (pq_k (t := t) (fl := fl) (x := x) h0 h1).1
 have hq2 := fun x => (pq_k (t := t) (fl := fl) (x := x) h0 h1).2.1
 have hq3 := fun x => (pq_k (t := t) (fl := fl) (x := x) h0 h1).2.2
 refine goW [] Tryz.func19 rfl ?_
 conv => whnf
 repeat' ((first | (show SQ _ _ _ (.loop _) _ _ _; have hi : fl = i := (by omega); subst hi) | exact Nm.b 0 | (refine And.intro ?_ ?_; (focus (first | exact hds_le _ _ _ | exact pq_le (by assumption) h0 h1 | exact T.kx | exact T.side))) | (show LC _ _ _ _ _ _; first | (apply LC.upd (dheader_c t _ _ ht _); (repeat first | refine goH ?_ | apply LH.here | apply LH.next); refine ⟨rfl, ?_⟩) | (apply LC.upd (dbytes_c t _ 6 (by decide) (by decide) ht _); (repeat first | refine goH ?_ | apply LH.here | apply LH.next); refine ⟨rfl, ?_⟩) | (apply LC.upd (dsome_c t _ 40 (by decide) (by decide) ht _); (repeat first | refine goH ?_ | apply LH.here | apply LH.next); refine ⟨rfl, ?_⟩) | (apply LC.upd (je t _ _ ht _); (repeat first | refine goH ?_ | apply LH.here | apply LH.next); refine ⟨rfl, ?_⟩) | (apply LC.upd (one_c t _ _ ht _); (repeat first | refine goH ?_ | apply LH.here | apply LH.next); refine ⟨rfl, ?_⟩) | refine LC.pure (vf (pqH t fl x) (pqP t x) (pq_hk (by assumption) (by assumption) h0 h1) (pq_pl t x)) ?_ | (apply LC.upd (follow_c t (pqA t x) (pqH t fl x) false ht _); (repeat first | refine goH ?_ | apply LH.here | apply LH.next); refine ⟨rfl, ?_⟩) | refine goE ?_) | (show AC _ _ _; first | (refine AC.recd Hd.cs_len (pqK t fl x) Hd.z pq_ix rfl ?_ ?_; (focus (have := hq3 x; omega)))) | (show AQ _ _; first | (refine AQ.full ?_ ?_; (focus exact hds_ge _ _ _)) | (refine AQ.rsetW Hd.cs_len (i := pqK t fl x) Hd.z (pqF t fl false x).1 ?_ ?_ ?_ ?_; (focus (have := hq3 x; omega)); (focus (exact pq_ix)); (focus rfl))) | refine T.s ?_ | ((first | apply goB | apply AB.dec | apply AB.gen) <;> intro h <;> try (exfalso; omega)) | refine LQ.mk fun r => ?_ | (show SQ _ _ _ (.loop _) _ _ _; first | (apply goO tQ [] 3 (S := Nat × Nm) [0, 1, 2, 3] (fun (i, q) => ⟨[(9, .vw q 0 i 15), (10, .int .i64 i)], [(p, zl t (xy t a i).2), (q, ⟨65, (xy t a i).1.flatMap Hd.cs⟩)], i ≤ fl, fl - i⟩) ((0, _)) (by rfl); (focus ((repeat' first | exact trivial | (refine And.intro ?_ ?_) | exact LB.nil | (with_reducible exact LB.refl) | (apply LB.cons; (repeat first | refine goH ?_ | apply LH.here | apply LH.next); refine And.intro ?_ ?_; (focus (try (first | (with_reducible rfl) | (refine congrArg (Pl.mk _) ?_; (first | (with_reducible rfl) | exact qc _ _ _ | exact qt _ _ _ | exact qf _ _ | rfl)) | rfl | (with_reducible refine congrArg (Pl.mk _) ?_))))) | assumption | (exact y8 (by assumption) (by assumption) (yg (by assumption))) | (exact y7 (by assumption) (by assumption) (yf (by assumption))) | (exact zx (by assumption) (by have := hq3 x; omega)) | (exact z4 _ _ _) | (exact za _ _ _) | (rw [List.length_set]; assumption) | (exact hq _) | (exact hq2 _) | (first | (focus (apply Eq.trans; (conv => lhs; whnf); (conv => rhs; whnf); done)) | rfl | ((conv => lhs; whnf); first | rfl | (refine congrArg (AV.int _) ?_; (exact T.num)) | (refine congrArg AV.bool ?_; (exact T.num)) | (refine vwc ?_; first | (exact T.num) | (first | (with_reducible rfl) | exact qc _ _ _ | exact qt _ _ _ | exact qf _ _ | rfl)) | (refine qa ?_ ?_ <;> first | (exact T.num) | (first | (with_reducible rfl) | exact qc _ _ _ | exact qt _ _ _ | exact qf _ _ | rfl)) | (first | (with_reducible rfl) | exact qc _ _ _ | exact qt _ _ _ | exact qf _ _ | rfl))) | (exact T.num) | (dsimp only; (exact T.num)) | (first | (with_reducible rfl) | exact qc _ _ _ | exact qt _ _ _ | exact qf _ _ | rfl)); done)); rintro ⟨i, q⟩ hok; (try dsimp only at hok)) | (apply goO tQ [] 8 (S := Nat × Pq × Nm × Nm) [0, 1, 3] (fun (n, x, q, r) => ⟨[(9, .vw q 0 fl 15), (11, .vw r 0 x.bs.length 1), (12, .int .i64 n)], [(p, zl t x.a), (q, ⟨65, x.hs.flatMap Hd.cs⟩), (r, ⟨33, x.bs.map bv⟩)], n ≤ 101 ∧ x.hs.length = fl ∧ (∀ y ∈ x.hs, vA y) ∧ (0 ≤ qg t x.a fl) ∧ qg t x.a fl < fl ∧ x.bs.length ≤ 1000 - 2 * n ∧ pqI t fl false n x = kd t a fl cnt false, n⟩) ((yc t a fl cnt, ⟨(xy t a fl).1, [], qd t (xy t a fl).2⟩, _, _)) (by rfl); (focus ((repeat' first | exact trivial | (refine And.intro ?_ ?_) | exact LB.nil | (with_reducible exact LB.refl) | (apply LB.cons; (repeat first | refine goH ?_ | apply LH.here | apply LH.next); refine And.intro ?_ ?_; (focus (try (first | (with_reducible rfl) | (refine congrArg (Pl.mk _) ?_; (first | (with_reducible rfl) | exact qc _ _ _ | exact qt _ _ _ | exact qf _ _ | rfl)) | rfl | (with_reducible refine congrArg (Pl.mk _) ?_))))) | assumption | (exact y8 (by assumption) (by assumption) (yg (by assumption))) | (exact y7 (by assumption) (by assumption) (yf (by assumption))) | (exact zx (by assumption) (by have := hq3 x; omega)) | (exact z4 _ _ _) | (exact za _ _ _) | (rw [List.length_set]; assumption) | (exact hq _) | (exact hq2 _) | (first | (focus (apply Eq.trans; (conv => lhs; whnf); (conv => rhs; whnf); done)) | rfl | ((conv => lhs; whnf); first | rfl | (refine congrArg (AV.int _) ?_; (exact T.num)) | (refine congrArg AV.bool ?_; (exact T.num)) | (refine vwc ?_; first | (exact T.num) | (first | (with_reducible rfl) | exact qc _ _ _ | exact qt _ _ _ | exact qf _ _ | rfl)) | (refine qa ?_ ?_ <;> first | (exact T.num) | (first | (with_reducible rfl) | exact qc _ _ _ | exact qt _ _ _ | exact qf _ _ | rfl)) | (first | (with_reducible rfl) | exact qc _ _ _ | exact qt _ _ _ | exact qf _ _ | rfl))) | (exact T.num) | (dsimp only; (exact T.num)) | (first | (with_reducible rfl) | exact qc _ _ _ | exact qt _ _ _ | exact qf _ _ | rfl)); done)); rintro ⟨n, x, q, r⟩ ⟨hk, hk, hk, hk, hk, hk, hok⟩)) | (show SQ _ _ _ _ _ _ _; first | refine SQ.adopt 9 15 65 (by rfl) fun q => ?_ | refine SQ.adopt 11 1 33 (by rfl) fun q => ?_ | refine gX 11 [4, 6] [0, 1, 2, 3, 4, 5, 6, 7, 8, 9, 10] [p] ?_) | (show AtL _ _ _ _ _ _ _ _ _ _; first | (apply AtL.mk' (id := 3) (S := Nat × Nm) ((i + 1, _)); (repeat' first | exact trivial | (refine And.intro ?_ ?_) | exact LB.nil | (with_reducible exact LB.refl) | (apply LB.cons; (repeat first | refine goH ?_ | apply LH.here | apply LH.next); refine And.intro ?_ ?_; (focus (try (first | (with_reducible rfl) | (refine congrArg (Pl.mk _) ?_; (first | (with_reducible rfl) | exact qc _ _ _ | exact qt _ _ _ | exact qf _ _ | rfl)) | rfl | (with_reducible refine congrArg (Pl.mk _) ?_))))) | assumption | (exact y8 (by assumption) (by assumption) (yg (by assumption))) | (exact y7 (by assumption) (by assumption) (yf (by assumption))) | (exact zx (by assumption) (by have := hq3 x; omega)) | (exact z4 _ _ _) | (exact za _ _ _) | (rw [List.length_set]; assumption) | (exact hq _) | (exact hq2 _) | (first | (focus (apply Eq.trans; (conv => lhs; whnf); (conv => rhs; whnf); done)) | rfl | ((conv => lhs; whnf); first | rfl | (refine congrArg (AV.int _) ?_; (exact T.num)) | (refine congrArg AV.bool ?_; (exact T.num)) | (refine vwc ?_; first | (exact T.num) | (first | (with_reducible rfl) | exact qc _ _ _ | exact qt _ _ _ | exact qf _ _ | rfl)) | (refine qa ?_ ?_ <;> first | (exact T.num) | (first | (with_reducible rfl) | exact qc _ _ _ | exact qt _ _ _ | exact qf _ _ | rfl)) | (first | (with_reducible rfl) | exact qc _ _ _ | exact qt _ _ _ | exact qf _ _ | rfl))) | (exact T.num) | (dsimp only; (exact T.num)) | (first | (with_reducible rfl) | exact qc _ _ _ | exact qt _ _ _ | exact qf _ _ | rfl)); done) | (apply AtL.mk' (id := 8) (S := Nat × Pq × Nm × Nm) ((n - 1, ⟨x.hs.set (pqK t fl x) (pqF t fl false x).1, x.bs ++ [jc (pqH t fl x) (pqP t x)] ++ [ky t (qd t (pqF t fl false x).2) 40], someA t (qd t (pqF t fl false x).2) 40⟩, _, _)); (repeat' first | exact trivial | (refine And.intro ?_ ?_) | exact LB.nil | (with_reducible exact LB.refl) | (apply LB.cons; (repeat first | refine goH ?_ | apply LH.here | apply LH.next); refine And.intro ?_ ?_; (focus (try (first | (with_reducible rfl) | (refine congrArg (Pl.mk _) ?_; (first | (with_reducible rfl) | exact qc _ _ _ | exact qt _ _ _ | exact qf _ _ | rfl)) | rfl | (with_reducible refine congrArg (Pl.mk _) ?_))))) | assumption | (exact y8 (by assumption) (by assumption) (yg (by assumption))) | (exact y7 (by assumption) (by assumption) (yf (by assumption))) | (exact zx (by assumption) (by have := hq3 x; omega)) | (exact z4 _ _ _) | (exact za _ _ _) | (rw [List.length_set]; assumption) | (exact hq _) | (exact hq2 _) | (first | (focus (apply Eq.trans; (conv => lhs; whnf); (conv => rhs; whnf); done)) | rfl | ((conv => lhs; whnf); first | rfl | (refine congrArg (AV.int _) ?_; (exact T.num)) | (refine congrArg AV.bool ?_; (exact T.num)) | (refine vwc ?_; first | (exact T.num) | (first | (with_reducible rfl) | exact qc _ _ _ | exact qt _ _ _ | exact qf _ _ | rfl)) | (refine qa ?_ ?_ <;> first | (exact T.num) | (first | (with_reducible rfl) | exact qc _ _ _ | exact qt _ _ _ | exact qf _ _ | rfl)) | (first | (with_reducible rfl) | exact qc _ _ _ | exact qt _ _ _ | exact qf _ _ | rfl))) | (exact T.num) | (dsimp only; (exact T.num)) | (first | (with_reducible rfl) | exact qc _ _ _ | exact qt _ _ _ | exact qf _ _ | rfl)); done) | (apply AtL.mk' (id := 8) (S := Nat × Pq × Nm × Nm) ((n - 1, ⟨x.hs.set (pqK t fl x) (pqF t fl false x).1, x.bs ++ [jc (pqH t fl x) (pqP t x)], qd t (pqF t fl false x).2⟩, _, _)); (repeat' first | exact trivial | (refine And.intro ?_ ?_) | exact LB.nil | (with_reducible exact LB.refl) | (apply LB.cons; (repeat first | refine goH ?_ | apply LH.here | apply LH.next); refine And.intro ?_ ?_; (focus (try (first | (with_reducible rfl) | (refine congrArg (Pl.mk _) ?_; (first | (with_reducible rfl) | exact qc _ _ _ | exact qt _ _ _ | exact qf _ _ | rfl)) | rfl | (with_reducible refine congrArg (Pl.mk _) ?_))))) | assumption | (exact y8 (by assumption) (by assumption) (yg (by assumption))) | (exact y7 (by assumption) (by assumption) (yf (by assumption))) | (exact zx (by assumption) (by have := hq3 x; omega)) | (exact z4 _ _ _) | (exact za _ _ _) | (rw [List.length_set]; assumption) | (exact hq _) | (exact hq2 _) | (first | (focus (apply Eq.trans; (conv => lhs; whnf); (conv => rhs; whnf); done)) | rfl | ((conv => lhs; whnf); first | rfl | (refine congrArg (AV.int _) ?_; (exact T.num)) | (refine congrArg AV.bool ?_; (exact T.num)) | (refine vwc ?_; first | (exact T.num) | (first | (with_reducible rfl) | exact qc _ _ _ | exact qt _ _ _ | exact qf _ _ | rfl)) | (refine qa ?_ ?_ <;> first | (exact T.num) | (first | (with_reducible rfl) | exact qc _ _ _ | exact qt _ _ _ | exact qf _ _ | rfl)) | (first | (with_reducible rfl) | exact qc _ _ _ | exact qt _ _ _ | exact qf _ _ | rfl))) | (exact T.num) | (dsimp only; (exact T.num)) | (first | (with_reducible rfl) | exact qc _ _ _ | exact qt _ _ _ | exact qf _ _ | rfl)); done) | (apply AtL.mk' (id := 3) (S := Nat × Nm) ((i + 1, _)); (repeat' first | exact trivial | (refine And.intro ?_ ?_) | exact LB.nil | (with_reducible exact LB.refl) | (apply LB.cons; (repeat first | refine goH ?_ | apply LH.here | apply LH.next); refine And.intro ?_ ?_; (focus (try (first | (with_reducible rfl) | (refine congrArg (Pl.mk _) ?_; (first | (with_reducible rfl) | exact qc _ _ _ | exact qt _ _ _ | exact qf _ _ | rfl)) | rfl | (with_reducible refine congrArg (Pl.mk _) ?_))))) | assumption | (exact y8 (by assumption) (by assumption) (yg (by assumption))) | (exact y7 (by assumption) (by assumption) (yf (by assumption))) | (exact zx (by assumption) (by have := hq3 x; omega)) | (exact z4 _ _ _) | (exact za _ _ _) | (rw [List.length_set]; assumption) | (exact hq _) | (exact hq2 _) | (first | (focus (apply Eq.trans; (conv => lhs; whnf); (conv => rhs; whnf); done)) | rfl | ((conv => lhs; whnf); first | rfl | (refine congrArg (AV.int _) ?_; (exact T.num)) | (refine congrArg AV.bool ?_; (exact T.num)) | (refine vwc ?_; first | (exact T.num) | (first | (with_reducible rfl) | exact qc _ _ _ | exact qt _ _ _ | exact qf _ _ | rfl)) | (refine qa ?_ ?_ <;> first | (exact T.num) | (first | (with_reducible rfl) | exact qc _ _ _ | exact qt _ _ _ | exact qf _ _ | rfl)) | (first | (with_reducible rfl) | exact qc _ _ _ | exact qt _ _ _ | exact qf _ _ | rfl))) | (exact T.num) | (dsimp only; (exact T.num)) | (first | (with_reducible rfl) | exact qc _ _ _ | exact qt _ _ _ | exact qf _ _ | rfl))) | (apply AtL.mk' (id := 8) (S := Nat × Pq × Nm × Nm) ((n - 1, ⟨x.hs.set (pqK t fl x) (pqF t fl false x).1, x.bs ++ [jc (pqH t fl x) (pqP t x)] ++ [ky t (qd t (pqF t fl false x).2) 40], someA t (qd t (pqF t fl false x).2) 40⟩, _, _)); (repeat' first | exact trivial | (refine And.intro ?_ ?_) | exact LB.nil | (with_reducible exact LB.refl) | (apply LB.cons; (repeat first | refine goH ?_ | apply LH.here | apply LH.next); refine And.intro ?_ ?_; (focus (try (first | (with_reducible rfl) | (refine congrArg (Pl.mk _) ?_; (first | (with_reducible rfl) | exact qc _ _ _ | exact qt _ _ _ | exact qf _ _ | rfl)) | rfl | (with_reducible refine congrArg (Pl.mk _) ?_))))) | assumption | (exact y8 (by assumption) (by assumption) (yg (by assumption))) | (exact y7 (by assumption) (by assumption) (yf (by assumption))) | (exact zx (by assumption) (by have := hq3 x; omega)) | (exact z4 _ _ _) | (exact za _ _ _) | (rw [List.length_set]; assumption) | (exact hq _) | (exact hq2 _) | (first | (focus (apply Eq.trans; (conv => lhs; whnf); (conv => rhs; whnf); done)) | rfl | ((conv => lhs; whnf); first | rfl | (refine congrArg (AV.int _) ?_; (exact T.num)) | (refine congrArg AV.bool ?_; (exact T.num)) | (refine vwc ?_; first | (exact T.num) | (first | (with_reducible rfl) | exact qc _ _ _ | exact qt _ _ _ | exact qf _ _ | rfl)) | (refine qa ?_ ?_ <;> first | (exact T.num) | (first | (with_reducible rfl) | exact qc _ _ _ | exact qt _ _ _ | exact qf _ _ | rfl)) | (first | (with_reducible rfl) | exact qc _ _ _ | exact qt _ _ _ | exact qf _ _ | rfl))) | (exact T.num) | (dsimp only; (exact T.num)) | (first | (with_reducible rfl) | exact qc _ _ _ | exact qt _ _ _ | exact qf _ _ | rfl))) | (apply AtL.mk' (id := 8) (S := Nat × Pq × Nm × Nm) ((n - 1, ⟨x.hs.set (pqK t fl x) (pqF t fl false x).1, x.bs ++ [jc (pqH t fl x) (pqP t x)], qd t (pqF t fl false x).2⟩, _, _)); (repeat' first | exact trivial | (refine And.intro ?_ ?_) | exact LB.nil | (with_reducible exact LB.refl) | (apply LB.cons; (repeat first | refine goH ?_ | apply LH.here | apply LH.next); refine And.intro ?_ ?_; (focus (try (first | (with_reducible rfl) | (refine congrArg (Pl.mk _) ?_; (first | (with_reducible rfl) | exact qc _ _ _ | exact qt _ _ _ | exact qf _ _ | rfl)) | rfl | (with_reducible refine congrArg (Pl.mk _) ?_))))) | assumption | (exact y8 (by assumption) (by assumption) (yg (by assumption))) | (exact y7 (by assumption) (by assumption) (yf (by assumption))) | (exact zx (by assumption) (by have := hq3 x; omega)) | (exact z4 _ _ _) | (exact za _ _ _) | (rw [List.length_set]; assumption) | (exact hq _) | (exact hq2 _) | (first | (focus (apply Eq.trans; (conv => lhs; whnf); (conv => rhs; whnf); done)) | rfl | ((conv => lhs; whnf); first | rfl | (refine congrArg (AV.int _) ?_; (exact T.num)) | (refine congrArg AV.bool ?_; (exact T.num)) | (refine vwc ?_; first | (exact T.num) | (first | (with_reducible rfl) | exact qc _ _ _ | exact qt _ _ _ | exact qf _ _ | rfl)) | (refine qa ?_ ?_ <;> first | (exact T.num) | (first | (with_reducible rfl) | exact qc _ _ _ | exact qt _ _ _ | exact qf _ _ | rfl)) | (first | (with_reducible rfl) | exact qc _ _ _ | exact qt _ _ _ | exact qf _ _ | rfl))) | (exact T.num) | (dsimp only; (exact T.num)) | (first | (with_reducible rfl) | exact qc _ _ _ | exact qt _ _ _ | exact qf _ _ | rfl)))) | exact T.z | fail) <;> conv => whnf)
 all_goals (try dsimp only)
 all_goals first
   | (rw [← pq_0 (x := x) (n := n) (fl := (fl : Int)) (reg := false) (t := t) (R := kd t a fl cnt false) (by assumption) (by assumption)]; refine RL.rowBB ?_; (repeat first | refine goH ?_ | apply LH.here | apply LH.next); refine ⟨rfl, rfl, ?_⟩; (repeat' first | exact LB.nil | (with_reducible exact LB.refl) | (apply LB.cons; (repeat first | refine goH ?_ | apply LH.here | apply LH.next); refine And.intro ?_ ?_; (focus (try (first | (with_reducible rfl) | (refine congrArg (Pl.mk _) ?_; (first | rfl | (simp; done))) | rfl | (with_reducible refine congrArg (Pl.mk _) ?_)))))))
   | trace_state
theorem packets_c (t : List Int) (a : Nat) (fl : Nat) (cnt : Int) (reg : Bool) (h0 : 1 ≤ fl) (h1 : fl ≤ 10) (h2 : 0 ≤ cnt) (h3 : cnt ≤ 100) (ht : t.length ≤ 400) (p : Nm) : LP Tryz.prog G 19 [.ptr p 0, iAV fl, iAV cnt, .bool reg] [(p, zl t a)] (fun _ => (bbv (kd t a fl cnt reg).bs, [(p, zl t (kd t a fl cnt reg).a)])) := by
 cases reg
 · exact packets_f t a fl cnt h0 h1 h2 h3 ht p
 · exact packets_t t a fl cnt h0 h1 h2 h3 ht p
theorem pkt_len (h : Hd) (p : List UInt8) : 28 ≤ (jc h p).length ∧ (jc h p).length ≤ 40 + p.length := by
 have h1 : (pkT h).length = 0 ∨ (pkT h).length = 12 := by unfold pkT; split <;> simp
 unfold jc
 simp only [List.length_append, st2_len, pk20_len, putBlen]
 omega
def ja (b : List UInt8) : Prop := b ≠ [] ∧ b.length ≤ 1500
theorem pqS_sized (t : List Int) (fl : Int) (reg : Bool) (x : Pq) (h : ∀ b ∈ x.bs, ja b) : ∀ b ∈ (pqS t fl reg x).bs, ja b := by
 have h1 : ja (jc (pqH t fl x) (pqP t x)) := by
   have := pkt_len (pqH t fl x) (pqP t x)
   have h2 := zA t (qd t x.a) (q7 .add .i64 6 1) (by decide) (by decide)
   have e : q7 .add .i64 6 1 = 7 := rfl
   have h3 : (pqP t x).length ≤ 6 := by unfold pqP xE; rw [bytesL_len]; omega
   exact ⟨fun e => by rw [e] at this; simp at this, by omega⟩
 have h2 : ∀ a, ja (ky t a 40) := fun a => by
   have h2 := zA t (adv t a 1) (q7 .add .i64 (q7 .sub .i64 40 1) 1) (by decide) (by decide)
   have e : q7 .add .i64 (q7 .sub .i64 40 1) 1 = 40 := rfl
   unfold ky
   refine ⟨fun e => (by cases e), ?_⟩
   rw [List.length_cons, bytesL_len]
   unfold xE
   omega
 unfold pqS
 (repeat' split) <;> intro b hb <;> simp only [List.mem_append, List.mem_singleton] at hb
 · rcases hb with hb | rfl
   · exact h b hb
   · exact h1
 · rcases hb with (hb | rfl) | rfl
   · exact h b hb
   · exact h1
   · exact h2 _
 · rcases hb with hb | rfl
   · exact h b hb
   · exact h1
theorem pqI_sized (t : List Int) (fl : Int) (reg : Bool) : ∀ (n : Nat) (x : Pq), (∀ b ∈ x.bs, ja b) → ∀ b ∈ (pqI t fl reg n x).bs, ja b
 | 0, _, h => h
 | n + 1, x, h => pqI_sized t fl reg n _ (pqS_sized t fl reg x h)
theorem yY (t : List Int) (a fl : Nat) (cnt : Int) (reg : Bool) : ∀ b ∈ (kd t a fl cnt reg).bs, ja b := pqI_sized t fl reg _ _ fun b hb => by cases hb
theorem pqI_len (t : List Int) (fl : Int) (reg : Bool) : ∀ (n : Nat) (x : Pq), (pqI t fl reg n x).bs.length ≤ x.bs.length + 2 * n
 | 0, _ => by simp [pqI]
 | n + 1, x => by
   have h1 := pqI_len t fl reg n (pqS t fl reg x)
   have h2 : (pqS t fl reg x).bs.length ≤ x.bs.length + 2 := by unfold pqS; (repeat' split) <;> simp
   show (pqI t fl reg n (pqS t fl reg x)).bs.length ≤ _
   omega
theorem pks_len (t : List Int) (a fl : Nat) (cnt : Int) (reg : Bool) (h2 : 0 ≤ cnt) (h3 : cnt ≤ 100) : (kd t a fl cnt reg).bs.length ≤ 202 := by
 have h1 := pqI_len t fl reg (yc t a fl cnt) ⟨(xy t a fl).1, [], qd t (xy t a fl).2⟩
 have hm : q7 .add .i64 cnt 1 = cnt + 1 := by (exact T.num)
 have hb := zA t (xy t a fl).2 (q7 .add .i64 cnt 1) (by omega) (by omega)
 have hN : yc t a fl cnt ≤ 101 := by unfold yc; omega
 unfold kd
 simp only [List.length_nil] at h1
 omega
attribute [irreducible] kd
end Go.Proofs.YtkfpgdckdmlhkaaGreatDoor
