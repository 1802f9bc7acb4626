/-
  Contracts of the functions that the laws reach.
-/
import Derived.Test.YtkfpgdckdmlhkaaGreatDoorDq01
import Derived.Test.YtkfpgdckdmlhkaaGreatDoorDq02
import Derived.Test.YtkfpgdckdmlhkaaGreatDoorDq03
import Derived.Test.YtkfpgdckdmlhkaaGreatDoorDq04
import Derived.Test.YtkfpgdckdmlhkaaGreatDoorDq05
import Derived.Test.YtkfpgdckdmlhkaaGreatDoorDq06
import Derived.Test.YtkfpgdckdmlhkaaGreatDoorDq07
import Derived.Test.YtkfpgdckdmlhkaaGreatDoorDq08
import Derived.Test.YtkfpgdckdmlhkaaGreatDoorDq10
import Derived.Test.YtkfpgdckdmlhkaaGreatDoorDq11
import Derived.Test.YtkfpgdckdmlhkaaGreatDoorDq14
import Derived.Test.YtkfpgdckdmlhkaaGreatDoorDq15
import Derived.Test.YtkfpgdckdmlhkaaGreatDoorDq16
import Derived.Test.YtkfpgdckdmlhkaaGreatDoorDq17
import Derived.Test.YtkfpgdckdmlhkaaGreatDoorDq18
import Derived.Test.YtkfpgdckdmlhkaaGreatDoorDq22
import Derived.Test.YtkfpgdckdmlhkaaGreatDoorDq24
import Derived.Test.YtkfpgdckdmlhkaaGreatDoorDq25
import Derived.Test.YtkfpgdckdmlhkaaGreatDoorDq26
import Derived.Test.YtkfpgdckdmlhkaaGreatDoorDq28
set_option maxHeartbeats 8000000
set_option linter.all false
namespace Go.Proofs.YtkfpgdckdmlhkaaGreatDoor
open Go.RowKit
theorem reb_of {m : Int} {r : Rc} {s : Sm} {h : Hd} (hr : js m r s = (h, true)) : ∃ n, h = qS r s n ∧ wy s h = true := by
 unfold js at hr
 split at hr
 · injection hr with h1 h2; exact ⟨0, h1.symm, h1 ▸ h2⟩
 · split at hr
   · rename_i hf; injection hr with h1; exact ⟨qN r s, h1.symm, h1 ▸ hf⟩
   · split at hr
     · injection hr with h1 h2; cases h2
     · injection hr with h1 h2; exact ⟨_, h1.symm, h1 ▸ h2⟩
theorem hdr_same {r : Rc} {s : Sm} {n : Int} (hl : r.la.ok = true) (hd : r.dy.ok = true) (h5 : s.f ≠ 5) (h4 : s.f = 4 → s.h.k = r.la.k) : qA (qS r s n) r.la = true := by
 have hp : qA (xg r.dy r.la n) r.la = true := by
   unfold xg
   rw [if_pos ⟨hl, hd⟩]
   split <;> exact xa.2 ⟨rfl, rfl, rfl, rfl, rfl, rfl⟩
 rw [xa] at hp ⊢
 unfold qS
 rw [if_neg h5]
 split
 · rename_i hf; exact ⟨h4 hf, rfl, rfl, rfl, rfl, rfl⟩
 · (repeat' split) <;> exact hp
theorem fin_inl {X : Rdr} {s0 s : Sm} {b : List UInt8} (h : xW X s0 b = .inl s) : s = wpl s0 X := by
 unfold xW at h
 (repeat' split at h) <;> first | (injection h with h; exact h.symm) | cases h
theorem dec_k4 {b : List UInt8} {hb : b.length ≤ 140737488355328} {k : Int} {ck : Bool} {s : Sm} (h : qY b hb k ck = .inl s) (hf : s.f = 4) : s.h.k = k := by
 have h0 : dse (qY b hb k ck) = 0 := by rw [h]; rfl
 obtain ⟨s', h1, -, -, hp⟩ := yB h0
 rw [h] at h1
 injection h1 with h1
 subst h1
 rw [hf] at hp
 by_cases hk : k ≠ 1 ∧ k ≠ 2
 · unfold qY at h
   rw [hp, if_neg (fun h => h rfl), if_pos ⟨(show (4 : Int) ≤ 4 by decide), hk⟩] at h
   cases h
 · rw [decR_b hp (fun q => hk q.2)] at h
   generalize (if 0 < s.cx then rtk 1 (rdr b hb) else rdr b hb) = X at h
   unfold decB at h
   rw [if_neg (by decide), if_neg (by decide), if_neg (by decide), if_pos rfl] at h
   split at h
   · unfold ka at h
     split at h <;> (have e := congrArg (fun x : Sm => x.h.k) (fin_inl h); exact e)
   · unfold ka at h
     split at h <;> (have e := congrArg (fun x : Sm => x.h.k) (fin_inl h); exact e)
theorem rc_mk' {r : Rc} (h0 : 0 ≤ r.er ∧ r.er < 3) (hst : r.st = 1 ∨ r.st = 2) (h1 : r.la.ok = true) (h2 : r.dy.ok = true) (h3 : r.la.k = 2 ∨ r.dy = Dy.z) : r.ok = true := by
 unfold Rc.ok
 rw [decide_eq_true h0, if_neg (by omega), if_pos hst, h1, h2, decide_eq_true h3]
 rfl
theorem refR_ok {r : Rc} (h : r.ok = true) : (ku r).ok = true := by
 obtain ⟨h1, h2, h3, h4⟩ := xN h
 unfold ku
 split
 · by_cases h0 : r.st = 0
   · obtain ⟨h5, h6⟩ := h3 h0
     show Rc.ok ⟨r.st, r.la, r.dy, r.er + 1⟩ = true
     rw [h0, h5, h6]
     unfold Rc.ok
     rw [decide_eq_true (by dsimp only; omega)]
     rfl
   · obtain ⟨h5, h6, h7⟩ := h4 (by omega)
     exact rc_mk' (by dsimp only; omega) (by dsimp only; omega) h5 h6 h7
 · split
   · rfl
   · obtain ⟨h5, h6, h7⟩ := h4 (by omega)
     exact rc_mk' (by dsimp only; omega) (by dsimp only; omega) h5 h6 h7
theorem bld_ok {h : Hd} {p : List UInt8} (hb : (zm h p).2 = 0) : h.ok = true := by
 unfold zm at hb
 split at hb
 · assumption
 · cases hb
theorem whole_d {s : Sm} (hs : s.ok = true) (hf : s.f = 4 ∨ s.f = 5) : s.d.ok = true ∧ (s.h.k = 2 ∨ s.d = Dy.z) := by
 obtain ⟨-, h1, h2, h3, -⟩ := s.big hs hf
 refine ⟨h2, ?_⟩
 rcases ok_k h1 with hk | hk
 · obtain ⟨e1, e2⟩ := h3 hk
   refine .inr ?_
   generalize s.d = d at e1 e2
   obtain ⟨a, c⟩ := d
   obtain rfl : a = 0 := e1
   obtain rfl : c = 0 := e2
   rfl
 · exact .inl hk
section
variable {d : De} {b : List UInt8} {hb : b.length ≤ 140737488355328}
theorem decomp_of (hd : d.ok = true) : ((qk d b hb).d = d ∧ ((qk d b hb).e ≠ 0 ∨ (ql b).2.1 = 6)) ∨
   (∃ (c f : Int) (r : Rc), 0 ≤ c ∧ c < 16 ∧ d.cx.getD c.toNat Rc.z = r ∧ r.ok = true ∧ (qk d b hb).d = d.set c (ku r) ∧ (qk d b hb).e ≠ 0) ∨
   (∃ (c f : Int) (r : Rc) (s : Sm) (h : Hd) (p : List UInt8) (fb : List Fb), ql b = (c, f, 0) ∧ f ≠ 6 ∧ 0 ≤ c ∧ c < 16 ∧ d.cx.getD c.toNat Rc.z = r ∧ r.ok = true ∧ ¬ r.st < zw f ∧ qY b hb r.la.k (decide (r.la.ck ≠ 0)) = .inl s ∧ s.f = f ∧ s.ok = true ∧ js d.m r s = (h, true) ∧ zm h s.pl = (p, 0) ∧ qk d b hb = ⟨d.set c (yL r s h), p, fb, 0⟩) := by
 obtain ⟨⟨c, f, e⟩, hp⟩ : ∃ y, ql b = y := ⟨_, rfl⟩
 by_cases he : e = 0
 · subst he
   obtain ⟨hc, hf⟩ := kM hp
   by_cases h6 : f = 6
   · subst h6
     refine .inl ⟨?_, .inr (by rw [hp])⟩
     by_cases h7 : dse (qY b hb 0 false) = 0 ∧ (dsm (qY b hb 0 false)).pl ≠ []
     · rw [dcp_6y hd hp h7]
     · rw [dcp_6n hd hp h7]
   · obtain ⟨-, hl, hr⟩ := wL hd hc.1 hc.2
     obtain ⟨r, hr0⟩ : ∃ r, d.cx.getD c.toNat Rc.z = r := ⟨_, rfl⟩
     rw [hr0] at hr
     by_cases hs : r.st < zw f
     · refine .inl ⟨?_, .inl ?_⟩ <;> rw [dcp_c hd hp h6 hr0 hs]
       show (8 : Int) ≠ 0
       decide
     · by_cases hE : dse (qY b hb r.la.k (decide (r.la.ck ≠ 0))) = 0
       · obtain ⟨s, h1, h2, h3, h4⟩ := yB hE
         have hg := dcp_g hd hp h6 hr0 hs h1
         have hsf : s.f = f := by rw [hp] at h4; exact (congrArg (fun y => y.2.1) h4).symm
         obtain ⟨⟨h, ok⟩, hx⟩ : ∃ y, js d.m r s = y := ⟨_, rfl⟩
         cases ok with
         | false =>
           refine .inr (.inl ⟨c, f, r, hc.1, hc.2, hr0, hr, ?_, ?_⟩) <;> rw [hg, decP_f hx]
           show (6 : Int) ≠ 0
           decide
         | true =>
           by_cases hB : (zm h s.pl).2 = 0
           · refine .inr (.inr ⟨c, f, r, s, h, _, _, hp, h6, hc.1, hc.2, hr0, hr, hs, h1, hsf, h2, hx, ?_, hg.trans (decP_g hx hB)⟩)
             rw [← hB]
           · refine .inl ⟨?_, .inl ?_⟩ <;> rw [hg, decP_b hx hB]
             exact hB
       · refine .inl ⟨?_, .inl ?_⟩ <;> rw [dcp_d hd hp h6 hr0 hs hE]
         exact hE
 · refine .inl ⟨?_, .inl ?_⟩ <;> rw [dcp_e hd hp he]
   exact he
theorem de_seti {c : Int} {r : Rc} (h0 : 0 ≤ c) (hd : d.ok = true) (hr : r.ok = true) : (d.set c r).ok = true := by
 obtain ⟨i, rfl⟩ := Int.eq_ofNat_of_zero_le h0
 exact de_set hd hr
theorem acc_ok {c f : Int} {r : Rc} {s : Sm} {h : Hd} {p : List UInt8} (hr : r.ok = true) (h6 : f ≠ 6) (hs : ¬ r.st < zw f) (hD : qY b hb r.la.k (decide (r.la.ck ≠ 0)) = .inl s) (hf : s.f = f) (ho : s.ok = true) (hx : js d.m r s = (h, true)) (hB : zm h s.pl = (p, 0)) : (yL r s h).ok = true ∧ (r.st ≠ 0 → f ≠ 5 → qA h r.la = true) ∧ zK f h = s.ck := by
 obtain ⟨n, hn, hfit⟩ := reb_of hx
 obtain ⟨h1, h2, h3, h4⟩ := xN hr
 have hsm : r.st ≠ 0 → f ≠ 5 → qA h r.la = true := fun h0 h5 => by
   obtain ⟨k1, k2, k3⟩ := h4 (by omega)
   rw [hn]
   exact hdr_same k1 k2 (by omega) (fun e => dec_k4 hD e)
 refine ⟨?_, hsm, ?_⟩
 · have hk := bld_ok (h := h) (p := s.pl) (by rw [hB])
   obtain ⟨hf15, -⟩ := sm_n ho (by omega)
   by_cases hw : s.f = 4 ∨ s.f = 5
   · obtain ⟨w1, w2⟩ := whole_d ho hw
     have e : (yL r s h).dy = s.d := by unfold yL; dsimp only; rw [if_pos hw]
     refine rc_mk rfl rfl hk (by rw [e]; exact w1) ?_
     rw [e]
     show h.k = 2 ∨ s.d = Dy.z
     have hkk : h.k = s.h.k := by
       rw [hn]
       unfold qS
       split
       · rfl
       · rw [if_pos (by omega)]
     rw [hkk]
     exact w2
   · have h22 : r.st = 2 := by
       unfold zw at hs
       rw [if_neg (by omega), if_neg (by omega)] at hs
       omega
     obtain ⟨k1, k2, k3⟩ := h4 (by omega)
     have e : (yL r s h).dy = r.dy := by unfold yL; dsimp only; rw [if_neg hw]
     refine rc_mk rfl rfl hk (by rw [e]; exact k2) ?_
     rw [e]
     show h.k = 2 ∨ r.dy = Dy.z
     rw [(xa.1 (hsm (by omega) (by omega))).1]
     exact k3
 · unfold wy at hfit
   rw [← hf]
   exact of_decide_eq_true hfit
theorem decomp_ok (hd : d.ok = true) : (qk d b hb).d.ok = true := by
 rcases decomp_of (b := b) (hb := hb) hd with ⟨h, -⟩ | ⟨c, f, r, h0, -, -, hr, h, -⟩ | ⟨c, f, r, s, h, p, fb, hp, h6, h0, -, -, hr, hs, hD, hf, ho, hx, hB, h⟩
 · rw [h]; exact hd
 · rw [h]; exact de_seti h0 hd (refR_ok hr)
 · rw [h]; exact de_seti h0 hd (acc_ok (c := c) hr h6 hs hD hf ho hx hB).1
theorem decomp_acc (hd : d.ok = true) : (qk d b hb).d.ok = true ∧ ((qk d b hb).e ≠ 0 ∨ (ql b).2.1 = 6 ∨
   ∃ (j : Nat) (f : Int) (s : Sm) (p : List UInt8), j < d.cx.length ∧ j < (qk d b hb).d.cx.length ∧ ql b = ((j : Int), f, 0) ∧ f ≠ 6 ∧ (qk d b hb).p = p ∧ (qk d b hb).e = 0 ∧ qY b hb (d.cx.getD j Rc.z).la.k (decide ((d.cx.getD j Rc.z).la.ck ≠ 0)) = .inl s ∧
     zm ((qk d b hb).d.cx.getD j Rc.z).la s.pl = (p, 0) ∧ s.pl.length ≤ 100000 ∧ zK f ((qk d b hb).d.cx.getD j Rc.z).la = s.ck ∧ ((qk d b hb).d.cx.getD j Rc.z).st = 2 ∧ ((d.cx.getD j Rc.z).st = 0 ∨ f = 5 ∨ qA ((qk d b hb).d.cx.getD j Rc.z).la (d.cx.getD j Rc.z).la = true)) := by
 refine ⟨decomp_ok hd, ?_⟩
 rcases decomp_of (b := b) (hb := hb) hd with ⟨-, h | h⟩ | ⟨c, f, r, h0, -, -, hr, -, h⟩ | ⟨c, f, r, s, h, p, fb, hp, h6, h0, h16, hr0, hr, hs, hD, hf, ho, hx, hB, hE⟩
 · exact .inl h
 · exact .inr (.inl h)
 · exact .inl h
 · obtain ⟨-, a2, a3⟩ := acc_ok (c := c) hr h6 hs hD hf ho hx hB
   obtain ⟨j, rfl⟩ := Int.eq_ofNat_of_zero_le h0
   have hl := (wL hd (c := (j : Int)) h0 h16).2.1
   rw [Int.toNat_natCast] at hr0
   refine .inr (.inr ⟨j, f, s, p, by omega, ?_, hp, h6, ?_, ?_, ?_, ?_, ?_, ?_, ?_, ?_⟩)
   · rw [hE]; show j < (d.cx.set _ _).length; rw [List.length_set]; omega
   · rw [hE]
   · rw [hE]
   · rw [hr0]; exact hD
   · rw [hE, wR hl (by omega), if_pos rfl]; exact hB
   · have := (s.of ho).1; omega
   · rw [hE, wR hl (by omega), if_pos rfl]; exact a3
   · rw [hE, wR hl (by omega), if_pos rfl]; rfl
   · rw [hE, wR hl (by omega), if_pos rfl, hr0]
     by_cases k0 : r.st = 0
     · exact .inl k0
     · by_cases k5 : f = 5
       · exact .inr (.inl k5)
       · exact .inr (.inr (a2 k0 k5))
end
open Go.RowKit
theorem AC.dd {agg : Bool} {A : List AV} {a b m : Nat} {K : AV → Prop} (k : AC agg ((A.drop (a + b)).take m) K) : AC agg (((A.drop a).drop b).take m) K := by rw [List.drop_drop]; exact k
theorem de_new {m : Int} (hm : 1 ≤ m ∧ m ≤ 3) : De.ok ⟨m, List.replicate 16 Rc.z⟩ = true := (inv_new hm (w := 1) (by decide)).2.1
theorem ddR_acc {d : De} {b : List UInt8} (hb : b.length ≤ 140737488355328) (hd : d.ok = true) : (ddR d b).d.ok = true ∧ ((ddR d b).e ≠ 0 ∨ (ql b).2.1 = 6 ∨
   ∃ (j : Nat) (f : Int) (s : Sm) (p : List UInt8), j < d.cx.length ∧ j < (ddR d b).d.cx.length ∧ ql b = ((j : Int), f, 0) ∧ f ≠ 6 ∧ (ddR d b).p = p ∧ (ddR d b).e = 0 ∧ qY b hb (d.cx.getD j Rc.z).la.k (decide ((d.cx.getD j Rc.z).la.ck ≠ 0)) = .inl s ∧
     zm ((ddR d b).d.cx.getD j Rc.z).la s.pl = (p, 0) ∧ s.pl.length ≤ 100000 ∧ zK f ((ddR d b).d.cx.getD j Rc.z).la = s.ck ∧ ((ddR d b).d.cx.getD j Rc.z).st = 2 ∧ ((d.cx.getD j Rc.z).st = 0 ∨ f = 5 ∨ qA ((ddR d b).d.cx.getD j Rc.z).la (d.cx.getD j Rc.z).la = true)) := by
 rw [ddR_e d b hb]
 exact decomp_acc hd
attribute [local irreducible] qe ddR zh
theorem EDac2_1 {p : Prop} (h : p := by (repeat' first | exact trivial | (refine And.intro ?_ ?_) | exact LB.nil | (with_reducible exact LB.refl) | (apply LB.cons; (repeat first | refine goH ?_ | apply LH.here | apply LH.next); refine And.intro ?_ ?_; (focus (try (first | (with_reducible rfl) | (refine congrArg (Pl.mk _) ?_; (first | rfl | (simp; done))) | rfl | (with_reducible refine congrArg (Pl.mk _) ?_))))) | (with_reducible assumption) | (exact zo (by assumption) (qF hZ (by assumption))) | (have := zg (b := L.getD i []) (by assumption) (qF hZ (by assumption)); have := xQ t (qd t a) (qe c (L.getD i [])).1.2; omega) | (show (_ : AV) = _; (first | (focus (apply Eq.trans; (conv => lhs; whnf); (conv => rhs; whnf); done)) | rfl | ((conv => lhs; whnf); first | rfl | (refine congrArg (AV.int _) ?_; (exact T.num)) | (refine congrArg AV.bool ?_; (exact T.num)) | (refine vwc ?_; first | (exact T.num) | (first | rfl | (simp; done))) | (refine qa ?_ ?_ <;> first | (exact T.num) | (first | rfl | (simp; done))) | (first | rfl | (simp; done))))) | ((with_reducible first | (show (_ : Int) ≤ _) | (show (_ : Int) < _) | (show (_ : Nat) ≤ _) | (show (_ : Nat) < _) | (show (_ : Int) = _) | (show (_ : Nat) = _)); (exact T.num)) | (first | rfl | (simp; done))); first | done | fail) : p := h
theorem accepts10_t (t : List Int) (mode : Int) (ht : t.length ≤ 400) : LP Tryz.prog gm 7 [iv t, iAV mode] [] (fun _ => (.bool true, [])) := by
 have hl := wi (G := gm) t
 rw [decide_eq_true ht] at hl
 have m1 := yj mode 3 (by decide) (by decide)
 obtain ⟨m, hm⟩ : ∃ m, q7 .add .i64 1 (xB mode 3) = m := ⟨_, rfl⟩
 have hm2 : 1 ≤ m ∧ m ≤ 3 := by rw [← hm]; (exact T.num)
 have hN := dnew_c (G := gm) m
 rw [newR_t hm2] at hN
 have hM := r9new_c (G := gm) m 2
 rw [vL ⟨hm2.1, hm2.2, by decide, by decide⟩] at hM
 have hP := fun p => yZ (G := gm) t 0 2 40 false (by decide) (by decide) (by decide) (by decide) ht p
 have hZ := yY t 0 (2 : Int).toNat 40 false
 have hY := pks_len t 0 (2 : Int).toNat 40 false (by decide) (by decide)
 generalize (kd t 0 (2 : Int).toNat 40 false) = K at hP hZ hY
 obtain ⟨Kh, L, Ka⟩ := K
 dsimp only at hP hZ hY
 have hI := co_new hm2 (w := 2) (by decide)
 have hD := de_new hm2
 refine goW [15] Tryz.func7 rfl ?_
 conv => whnf
 repeat' ((first | (show LC _ _ 18 _ _ _; (try rw [hm]); refine LC.pure hM ?_) | (show LC _ _ 9 _ _ _; (try rw [hm]); refine LC.pure hN ?_) | ((with_reducible show AB (qu .neq _ _) _ _); first | refine AB.neqT (by assumption) ?_ | refine AB.neqF (by assumption) ?_) | exact Nm.b 0 | (refine And.intro ?_ ?_; (focus (first | exact xn Rc.cs_len (by assumption) | ((try dsimp only); simp only [List.length_drop, qy Rc.cs_len]; omega) | exact T.kx | exact T.side))) | (show LC _ _ _ _ _ _; first | refine LC.pure (hl) ?_ | refine LC.pure (xY) ?_ | refine LC.own (roll_c t) ?_ | refine LC.pure (mod_c _ _) ?_ | (apply LC.upd (one_c t _ _ ht _); (repeat first | refine goH ?_ | apply LH.here | apply LH.next); refine ⟨rfl, ?_⟩) | (apply LC.upd (hP _); (repeat first | refine goH ?_ | apply LH.here | apply LH.next); refine ⟨rfl, ?_⟩) | refine LC.pure (compt_c c (L.getD i [])) ?_ | (apply LC.upd (dspoil_c t _ (qe c (L.getD i [])).1.2 (by have := zg (b := L.getD i []) (by assumption) (qF hZ (by assumption)); omega) ht _); (repeat first | refine goH ?_ | apply LH.here | apply LH.next); refine ⟨rfl, ?_⟩) | refine LC.pure (hdd) ?_ | refine LC.pure (hpk) ?_ | refine LC.pure (hdc) ?_ | refine LC.pure (hbl) ?_ | refine LC.pure (sameT_c p') ?_ | refine LC.pure (zy (d'.cx.getD j Rc.z).la f) ?_ | refine LC.pure (hsa) ?_ | refine goE ?_) | (show AC _ _ _; first | (refine AC.idx (f := bv) (l := L) i [] (by (try dsimp only); omega) ?_ ?_; (focus (have : (i : Int) < (L.length : Int) := (by assumption); omega))) | (refine AC.dd ?_; refine AC.dd ?_; refine AC.sub Rc.cs_len j 1 Rc.z _ ?_ (by decide) hj rfl ?_; (focus ((try dsimp only); omega))) | (refine AC.dd ?_; refine AC.dd ?_; refine AC.sub Rc.cs_len j 10 Rc.z _ ?_ (by decide) hj rfl ?_; (focus ((try dsimp only); omega))) | (refine AC.dd ?_; refine AC.sub Rc.cs_len j 0 Rc.z _ ?_ (by decide) hj rfl ?_; (focus ((try dsimp only); omega))) | (refine AC.dd ?_; refine AC.sub Rc.cs_len j 0 Rc.z _ ?_ (by decide) hj' rfl ?_; (focus ((try dsimp only); omega))) | (refine AC.dd ?_; refine AC.sub (agg := true) Rc.cs_len j 1 Rc.z _ ?_ (by decide) hj rfl ?_; (focus ((try dsimp only); omega))) | (refine AC.dd ?_; refine AC.sub (agg := true) Rc.cs_len j 1 Rc.z _ ?_ (by decide) hj' rfl ?_; (focus ((try dsimp only); omega)))) | refine T.s ?_ | ((first | apply goB | apply AB.dec | apply AB.gen) <;> intro h) | refine LQ.mk fun r => ?_ | (show SQ _ _ _ (.loop _) _ _ _; first | (apply goO tQ [15] 11 (S := Nat × Co × De × Nat × Nm × Nm × Nm) [11] (fun (i, c, x, a, p, pc, px) => ⟨[(12, .int .i64 i), (5, .ptr p 0), (7, .ptr pc 0), (9, .ptr px 0)], [(p, zl t a), (pc, ⟨41, [iAV c.m, iAV c.w, snv c.cx]⟩), (px, ⟨24, [iAV x.m, rcv x.cx]⟩)], i ≤ L.length ∧ L.length ≤ 202 ∧ c.ok = true ∧ x.ok = true, L.length - i⟩) ((0, ⟨m, 2, List.replicate 16 Sn.z⟩, ⟨m, List.replicate 16 Rc.z⟩, Ka, _, _, _)) (by rfl); (focus (all_goals (try exact K2BD); done)); rintro ⟨i, c, x, a, p, pc, px⟩ ⟨hk, hk, hk, hok⟩)) | (show SQ _ _ _ _ _ _ _; first | refine gX 14 [] [0, 1, 2, 3, 4, 5, 6, 7, 8, 9, 10, 11] [pc] ?_ | (apply goD tQ qb 22 [] [0, 1, 2, 3, 4, 5, 6, 7, 8, 9, 10, 11, 12, 13, 14, 15, 16, 17, 18, 19, 20, 21, 22] [_] (by kernel_rfl)) | refine gX 25 [17, 15] [0, 1, 2, 3, 4, 5, 6, 7, 8, 9, 10, 11, 12, 13, 14, 16, 17, 15, 18, 19, 20, 21, 22, 23, 24, 25, 26, 27, 28, 29, 30, 31, 32, 33, 34, 35, 36, 37, 38, 39, 40, 41, 42, 43, 44, 45, 46, 47, 48, 49, 50, 51, 52] [pc] ?_) | (show AtL 11 _ _ _ _ _ _ _ _ _; first | (apply AtL.mk' (id := 11) (S := Nat × Co × De × Nat × Nm × Nm × Nm) ((i + 1, c, d', a, _, _, _)); focus (refine T.a5 ?_ ?_ ?_ ?_ <;> exact EDac2_1))) | (show CutL _ _ _ _ _ _ _ _; first | (refine goK tQ [15] 15 (S := Co × De × (List UInt8) × Nat × Nm × Nm × Nm) [11] (fun (c, x, Y, a, p, pc, px) => ⟨[(13, bv Y), (12, .int .i64 i), (5, .ptr p 0), (7, .ptr pc 0), (9, .ptr px 0)], [(p, zl t a), (pc, ⟨41, [iAV c.m, iAV c.w, snv c.cx]⟩), (px, ⟨24, [iAV x.m, rcv x.cx]⟩)], c.ok = true ∧ x.ok = true ∧ Y.length ≤ 3000, 0⟩) ?_ ?_; (rintro ⟨c, x, Y, a, p, pc, px⟩ ⟨hk, hk, hok⟩; (have hY3 : Y.length ≤ 140737488355328 := (by omega); have hdd := ddd_c x Y hY3; have hpk := ji (G := gm) Y; obtain ⟨hok', hacc⟩ := ddR_acc (d := x) hY3 (by assumption); generalize ddR x Y = X at hdd hok' hacc; obtain ⟨d', p', fb, e⟩ := X; dsimp only at hdd hok' hacc; (rcases hacc with h | h | ⟨j, f, s, q, hj, hj', hpe, h6, hpq, he, hdc0, hb0, hpl, hcr, hst, hsm⟩); rotate_left; rotate_left; (subst hpq; rw [hpe] at hpk; dsimp only [pe] at hpk; have hdc := jQ (G := gm) Y hY3 (x.cx.getD j Rc.z).la.k (qu .neq (x.cx.getD j Rc.z).la.ck 0); rw [xp, hdc0, jJ, ← xp, show dse (Sum.inl s) = 0 from rfl] at hdc; have hbl := kE (G := gm) (d'.cx.getD j Rc.z).la s.pl hpl; rw [hb0] at hbl; dsimp only at hbl; have hsa := kG (G := gm) (d'.cx.getD j Rc.z).la (x.cx.getD j Rc.z).la; clear hb0 hdc0; (rcases hsm with hsm | hsm | hsm); rotate_left; rotate_left; rw [hsm] at hsa; rotate_left); rotate_left; rotate_left)); rotate_left) | refine CutL.go tQ [15] ?_) | (show AtC 15 _ _ _ _ _ _ _; first | (apply AtC.mk' (id := 15) (S := Co × De × (List UInt8) × Nat × Nm × Nm × Nm) (((qe c (L.getD i [])).1.1, x, (qe c (L.getD i [])).1.2, qd t a, _, _, _)); focus (refine T.a4 ?_ ?_ ?_ <;> exact EDac2_1)) | (apply AtC.mk' (id := 15) (S := Co × De × (List UInt8) × Nat × Nm × Nm × Nm) (((qe c (L.getD i [])).1.1, x, zh t (qd t a) (qe c (L.getD i [])).1.2, j9 t (qd t a) (qe c (L.getD i [])).1.2, _, _, _)); focus (refine T.a4 ?_ ?_ ?_ <;> exact EDac2_1))) | exact T.z | fail) <;> try (show (_ : Prop); conv => whnf))
 all_goals (try dsimp only)
 all_goals first
   | ((show RL _ _ _; refine goR ?_); rfl)
   | trace_state
theorem accepts10_c (t : List Int) (mode : Int) : LP Tryz.prog gm 7 [iv t, iAV mode] [] (fun _ => (.bool true, [])) := by
 by_cases ht : t.length ≤ 400
 · exact accepts10_t t mode ht
 · have hl := wi (G := gm) t
   rw [decide_eq_false ht] at hl
   refine goW [] Tryz.func7 rfl ?_
   conv => whnf
   repeat' ((first | exact Nm.b 0 | (show LC _ _ _ _ _ _; first | refine LC.pure (hl) ?_ | refine LC.pure (xY) ?_ | refine goE ?_) | refine T.s ?_ | ((first | apply goB | apply AB.dec | apply AB.gen) <;> intro h <;> try (exfalso; omega)) | refine LQ.mk fun r => ?_ | (show SQ _ _ _ (.loop _) _ _ _; first | (refine goL tQ [] 11 (S := Nat) [5, 7, 9, 11] (fun i => ⟨[(12, .int .i64 i)], [], False, 4 - i⟩) (0) ?_; rintro i hok; (try dsimp only at hok))) | (show SQ _ _ _ _ _ _ _; first | (refine goD tQ qb 14 [] [0, 1, 2, 3, 4, 5, 6, 7, 8, 9, 10, 11] [] (by kernel_rfl) ?_) | (refine goD tQ qb 22 [] [0, 1, 2, 3, 4, 5, 6, 7, 8, 9, 10, 11, 12, 13, 14, 15, 16, 17, 18, 19, 20, 21, 22] [] (by kernel_rfl) ?_) | (refine goD tQ qb 25 [17, 15] [0, 1, 2, 3, 4, 5, 6, 7, 8, 9, 10, 11, 12, 13, 14, 16, 17, 15, 18, 19, 20, 21, 22, 23, 24, 25, 26, 27, 28, 29, 30, 31, 32, 33, 34, 35, 36, 37, 38, 39, 40, 41, 42, 43, 44, 45, 46, 47, 48, 49, 50, 51, 52] [] (by kernel_rfl) ?_)) | (show AtL _ _ _ _ _ _ _ _ _ _; first | (show AtL 11 _ _ _ _ _ _ _ _ _; exact goN 11 (S := Nat) (i + 1)) | (apply AtL.mk' (id := 11) (S := Nat) (i + 1); all_goals (try exact KC12))) | exact T.z | fail) <;> conv => whnf)
   all_goals (try dsimp only)
   all_goals first | ((show RL _ _ _; refine goR ?_); rfl) | ((show RL _ _ _; refine goR ?_); simp; done) | (exfalso; simp_all; done) | trace_state
end Go.Proofs.YtkfpgdckdmlhkaaGreatDoor
namespace Go.Proofs.YtkfpgdckdmlhkaaGreatDoor
open Go.RowKit
theorem AQ.fset {α : Type} {f : α → List AV} {n : Nat} (hf : ∀ x, (f x).length = n) {l : List α} {o : Nat} {xs : List AV} {K : List AV → Prop} (i j : Nat) (d y : α) (h : i < l.length) (ho : o = i * n + j) (hj : j + xs.length ≤ n) (hy : f y = qo (f (l.getD i d)) j xs) (k : K ((l.set i y).flatMap f)) : AQ (qo (l.flatMap f) o xs) K := ⟨by
 subst ho
 rw [yQ hf l i j d y xs h hj hy]
 exact k⟩
def Co.rest (c : Co) : Co := c.set 0 { c.at 0 with full := 0, refr := 0 }
theorem rest_ok {c : Co} (hc : c.ok = true) : c.rest.ok = true := by
 obtain ⟨h1, h2, h3, h4⟩ := vn.1 hc
 have hat : ∀ k, (c.rest).at k = if k = 0 then { c.at 0 with full := 0, refr := 0 } else c.at k := fun k => co_at h2 (by decide)
 have hal : ∀ i k, zF (c.rest.at i) (c.rest.at k) = zF (c.at i) (c.at k) := fun i k => by
   rw [hat, hat]
   split <;> split <;> (try subst_vars) <;> rfl
 refine vn.2 ⟨h1, by show (c.cx.set _ _).length = 16; rw [List.length_set]; exact h2, fun i hi => ?_, fun i k hk hi => by rw [hal]; exact h4 i k hk hi⟩
 rw [hat]
 show Sn.ok c.m c.w _ = true
 split
 · have h0 := h3 0 (by decide)
   generalize c.at 0 = s at h0
   obtain ⟨act, full, refr, ser, sin, lng, dy, rf⟩ := s
   unfold Sn.ok at h0 ⊢
   dsimp only at h0 ⊢
   cases act with
   | true =>
     simp only [if_true, Bool.and_eq_true] at h0 ⊢
     obtain ⟨k1, k2, k3, k4, k5, k6⟩ := h0
     have hz : inR 0 c.w = true := by unfold inR; exact decide_eq_true (by omega)
     exact ⟨k1, k2, hz, hz, rfl, k6⟩
   | false =>
     simp only [Bool.false_eq_true, if_false] at h0 ⊢
     unfold wJ at h0 ⊢
     dsimp only at h0 ⊢
     have h0 := of_decide_eq_true h0
     exact decide_eq_true ⟨rfl, rfl, h0.2.2⟩
 · exact h3 i hi
theorem compo_c (c : Co) (b : List UInt8) (hc : c.ok = true) (hb : ja b) : LP Tryz.prog gm 21 [c.av, bv b] [] (fun q => (.tup [.agg [iAV (qe c b).1.1.m, iAV (qe c b).1.1.w, .vw q 0 (qe c b).1.1.cx.length 9], bv (qe c b).1.2, iAV 0], [(q, ⟨59, (qe c b).1.1.cx.flatMap Sn.cs⟩)])) := comp_own c b hc (by rintro (k | k); exact hb.1 k; have := hb.2; omega)
theorem LTo.co {c : Co} {pc q : Nm} {n : Nat} {m l : LS} (hn : n = c.cx.length) (hq : LH l q fun cc _ _ => cc.cs = c.cx.flatMap Sn.cs) (h : LH l pc fun cc s _ => cc.cs = [iAV c.m, iAV c.w, .vw q 0 n 9] ∧ LEra (s ⟨cc.ty, [iAV c.m, iAV c.w, snv c.cx]⟩) [q] (LB m)) : LTo m l := by
 subst hn
 refine LTo.frz pc [q] [iAV c.m, iAV c.w, snv c.cx] (LH.mono h fun cc s _ hh => ⟨?_, hh.2⟩)
 rw [hh.1]
 exact ⟨.eq rfl, .eq rfl, LF.row InL.here (LH.mono hq fun cc _ _ h1 => ⟨by decide, by rw [h1, qy Sn.cs_len], rfl, h1.symm⟩), trivial⟩
def LvP (n : Nat) (v : AV) : Prop := v = .nils ∨ ∃ l : List UInt8, v = bv l ∧ l.length ≤ n
theorem LvP.b {n : Nat} {l : List UInt8} (h : l.length ≤ n) : LvP n (bv l) := .inr ⟨l, rfl, h⟩
theorem LvP.up {n m : Nat} {v : AV} (h : LvP n v) (k : n ≤ m) : LvP m v := by
 rcases h with h | ⟨l, h, h2⟩
 · exact .inl h
 · exact .inr ⟨l, h, Nat.le_trans h2 k⟩
theorem LvP_nil {n : Nat} : LvP n .nils := .inl rfl
attribute [local irreducible] qe ddR zh LvP
theorem zt {p : Prop} (h : p := by (repeat' first | exact trivial | (refine And.intro ?_ ?_) | exact LB.nil | (with_reducible exact LB.refl) | (apply LB.cons; (repeat first | refine goH ?_ | apply LH.here | apply LH.next); refine And.intro ?_ ?_; (focus (try (first | (with_reducible rfl) | (refine congrArg (Pl.mk _) ?_; (first | rfl | (simp; done))) | rfl | (with_reducible refine congrArg (Pl.mk _) ?_))))) | (with_reducible assumption) | (exact LvP.b (Nat.le_trans hll (by decide))) | (exact LvP.b (Nat.le_trans (zg (c := c) (b := L.getD i []) (by assumption) (qF hZ (by assumption))) (by decide))) | (exact LvP.b (Nat.le_trans (xQ _ _ _) (Nat.le_trans (Nat.succ_le_succ (zg (c := c) (b := L.getD i []) (by assumption) (qF hZ (by assumption)))) (by decide)))) | (exact LvP.up (by assumption) (by decide)) | (exact LvP_nil) | (exact zo (by assumption) (qF hZ (by assumption))) | (exact rest_ok (zo (by assumption) (qF hZ (by assumption)))) | (have := zg (c := c) (b := L.getD i []) (by assumption) (qF hZ (by assumption)); have := xQ t (qd t a) (qe c (L.getD i [])).1.2; omega) | (show (_ : AV) = _; (first | (focus (apply Eq.trans; (conv => lhs; whnf); (conv => rhs; whnf); done)) | rfl | ((conv => lhs; whnf); first | rfl | (refine congrArg (AV.int _) ?_; (exact T.num)) | (refine congrArg AV.bool ?_; (exact T.num)) | (refine vwc ?_; first | (exact T.num) | (first | rfl | (simp; done))) | (refine qa ?_ ?_ <;> first | (exact T.num) | (first | rfl | (simp; done))) | (first | rfl | (simp; done))))) | ((with_reducible first | (show (_ : Int) ≤ _) | (show (_ : Int) < _) | (show (_ : Nat) ≤ _) | (show (_ : Nat) < _) | (show (_ : Int) = _) | (show (_ : Nat) = _)); (exact T.num)) | (first | rfl | (simp; done))); first | done | fail) : p := h
theorem runs10_t (t : List Int) (mode width : Int) (ht : t.length ≤ 400) : LP Tryz.prog gm 5 [iv t, iAV mode, iAV width] [] (fun _ => (.bool true, [])) := by
 have hl := wi (G := gm) t
 rw [decide_eq_true ht] at hl
 have m1 := yj mode 3 (by decide) (by decide)
 have m2 := yj width 8 (by decide) (by decide)
 obtain ⟨m, hm⟩ : ∃ m, q7 .add .i64 1 (xB mode 3) = m := ⟨_, rfl⟩
 obtain ⟨w, hw⟩ : ∃ w, q7 .add .i64 1 (xB width 8) = w := ⟨_, rfl⟩
 have hm2 : 1 ≤ m ∧ m ≤ 3 := by rw [← hm]; (exact T.num)
 have hw2 : 1 ≤ w ∧ w ≤ 8 := by rw [← hw]; (exact T.num)
 have n1 := zA t 0 3 (by decide) (by decide)
 have hf : 1 ≤ q7 .add .i64 1 (qg t 0 3) ∧ q7 .add .i64 1 (qg t 0 3) ≤ 10 := by (exact T.num)
 have hN := dnew_c (G := gm) m
 rw [newR_t hm2] at hN
 have hM := r9new_c (G := gm) m w
 rw [vL ⟨hm2.1, hm2.2, hw2.1, hw2.2⟩] at hM
 have hP := fun p => yZ (G := gm) t (qd t (qd t 0)) _ 50 (jd t (qd t 0) 2) hf.1 hf.2 (by decide) (by decide) ht p
 have hZ := yY t (qd t (qd t 0)) (q7 .add .i64 1 (qg t 0 3)).toNat 50 (jd t (qd t 0) 2)
 have hY := pks_len t (qd t (qd t 0)) (q7 .add .i64 1 (qg t 0 3)).toNat 50 (jd t (qd t 0) 2) (by decide) (by decide)
 generalize (kd t (qd t (qd t 0)) (q7 .add .i64 1 (qg t 0 3)).toNat 50 (jd t (qd t 0) 2)) = K at hP hZ hY
 obtain ⟨Kh, L, Ka⟩ := K
 dsimp only at hP hZ hY
 have hI := co_new hm2 hw2
 have hD := de_new hm2
 refine goW [16, 18] Tryz.func5 rfl ?_
 conv => whnf
 repeat' ((first | (show LC _ _ 18 _ _ _; (try rw [hm]); rw [hw]; refine LC.pure hM ?_) | (show LC _ _ 9 _ _ _; (try rw [hm]); refine LC.pure hN ?_) | ((with_reducible show AB (qu .neq _ _) _ _); first | refine AB.neqT (by assumption) ?_ | refine AB.neqF (by assumption) ?_) | (show AtC 16 _ _ _ _ _ _ _; first | (refine AtC.mkF (id := 16) (S := Co × Nat × Nm × Nm × Nm) ((qe c (L.getD i [])).1.1, a, p, pc, px) (And.intro ?_ (And.intro ?_ (And.intro ?_ ?_))); (focus exact zt); (focus (exact T.sm)); (focus (dsimp only; refine LTo.co (c := (qe c (L.getD i [])).1.1) (n := (qe c (L.getD i [])).1.1.cx.length) (q := r) (pc := pc) rfl ?_ ?_; (focus ((repeat first | refine goH ?_ | apply LH.here | apply LH.next); rfl)); (repeat first | refine goH ?_ | apply LH.here | apply LH.next); refine And.intro rfl ?_; (repeat first | refine goH ?_ | apply LH.here | apply LH.next); (repeat' first | exact LB.nil | (with_reducible exact LB.refl) | (apply LB.cons; (repeat first | refine goH ?_ | apply LH.here | apply LH.next); refine And.intro ?_ ?_; (focus (try (first | (with_reducible rfl) | (refine congrArg (Pl.mk _) ?_; (first | rfl | (simp; done))) | rfl | (with_reducible refine congrArg (Pl.mk _) ?_)))))))); (focus exact zt)) | (refine AtC.mkF (id := 16) (S := Co × Nat × Nm × Nm × Nm) ((qe c (L.getD i [])).1.1, qd t a, p, pc, px) (And.intro ?_ (And.intro ?_ (And.intro ?_ ?_))); (focus exact zt); (focus (exact T.sm)); (focus (dsimp only; refine LTo.co (c := (qe c (L.getD i [])).1.1) (n := (qe c (L.getD i [])).1.1.cx.length) (q := r) (pc := pc) rfl ?_ ?_; (focus ((repeat first | refine goH ?_ | apply LH.here | apply LH.next); rfl)); (repeat first | refine goH ?_ | apply LH.here | apply LH.next); refine And.intro rfl ?_; (repeat first | refine goH ?_ | apply LH.here | apply LH.next); (repeat' first | exact LB.nil | (with_reducible exact LB.refl) | (apply LB.cons; (repeat first | refine goH ?_ | apply LH.here | apply LH.next); refine And.intro ?_ ?_; (focus (try (first | (with_reducible rfl) | (refine congrArg (Pl.mk _) ?_; (first | rfl | (simp; done))) | rfl | (with_reducible refine congrArg (Pl.mk _) ?_)))))))); (focus exact zt)) | (refine AtC.mkF (id := 16) (S := Co × Nat × Nm × Nm × Nm) ((qe c (L.getD i [])).1.1.rest, qd t a, p, pc, px) (And.intro ?_ (And.intro ?_ (And.intro ?_ ?_))); (focus exact zt); (focus (exact T.sm)); (focus (dsimp only; refine LTo.co (c := (qe c (L.getD i [])).1.1.rest) (n := (qe c (L.getD i [])).1.1.cx.length) (q := r) (pc := pc) (List.length_set ..).symm ?_ ?_; (focus ((repeat first | refine goH ?_ | apply LH.here | apply LH.next); rfl)); (repeat first | refine goH ?_ | apply LH.here | apply LH.next); refine And.intro rfl ?_; (repeat first | refine goH ?_ | apply LH.here | apply LH.next); (repeat' first | exact LB.nil | (with_reducible exact LB.refl) | (apply LB.cons; (repeat first | refine goH ?_ | apply LH.here | apply LH.next); refine And.intro ?_ ?_; (focus (try (first | (with_reducible rfl) | (refine congrArg (Pl.mk _) ?_; (first | rfl | (simp; done))) | rfl | (with_reducible refine congrArg (Pl.mk _) ?_)))))))); (focus exact zt)) | trace_state) | exact Nm.b 0 | (refine And.intro ?_ ?_; (focus (first | (have := zS (zo (c := c) (b := L.getD i []) (by assumption) (qF hZ (by assumption))); show _ ≤ (List.flatMap Sn.cs _).length; rw [qy Sn.cs_len]; (try rw [List.length_set]); (try dsimp only); omega) | (have := zS (zo (c := c) (b := L.getD i []) (by assumption) (qF hZ (by assumption))); (try dsimp only); omega) | exact T.kx | exact T.side))) | (show LC _ _ _ _ _ _; first | refine LC.pure (hl) ?_ | refine LC.pure (xY) ?_ | refine LC.own (roll_c t) ?_ | refine LC.pure (mod_c _ _) ?_ | (apply LC.upd (je t _ _ ht _); (repeat first | refine goH ?_ | apply LH.here | apply LH.next); refine ⟨rfl, ?_⟩) | (apply LC.upd (one_c t _ _ ht _); (repeat first | refine goH ?_ | apply LH.here | apply LH.next); refine ⟨rfl, ?_⟩) | (apply LC.upd (hP _); (repeat first | refine goH ?_ | apply LH.here | apply LH.next); refine ⟨rfl, ?_⟩) | refine LC.own (compo_c c (L.getD i []) (by assumption) (qF hZ (by assumption))) ?_ | (apply LC.upd (dspoil_c t _ (qe c (L.getD i [])).1.2 (by have := zg (c := c) (b := L.getD i []) (by assumption) (qF hZ (by assumption)); omega) ht _); (repeat first | refine goH ?_ | apply LH.here | apply LH.next); refine ⟨rfl, ?_⟩) | refine LC.pure (hag) ?_ | refine LC.pure (hdd) ?_ | refine LC.pure (hva) ?_ | refine goE ?_) | (show AC _ _ _; first | (refine AC.idx (f := bv) (l := L) i [] (by (try dsimp only); omega) ?_ ?_; (focus (have : (i : Int) < (L.length : Int) := (by assumption); omega)))) | (show AQ _ _; first | (refine AQ.fset Sn.cs_len 0 1 Sn.z ({ (qe c (L.getD i [])).1.1.at 0 with full := 0 }) ?_ rfl (by decide) rfl ?_; (focus (have := zS (zo (c := c) (b := L.getD i []) (by assumption) (qF hZ (by assumption))); omega))) | (refine AQ.rset Sn.cs_len 2 ({ (qe c (L.getD i [])).1.1.at 0 with full := 0, refr := 0 }) ?_ rfl (by decide) rfl ?_; (focus (have := zS (zo (c := c) (b := L.getD i []) (by assumption) (qF hZ (by assumption))); omega)))) | refine T.s ?_ | ((first | apply goB | apply AB.dec | apply AB.gen) <;> intro h) | refine LQ.mk fun r => ?_ | (show SQ _ _ _ (.loop _) _ _ _; first | (apply goO tQ [16, 18] 12 (S := Nat × Co × De × AV × Nat × Nm × Nm × Nm) [8, 14] (fun (i, c, x, late, a, p, pc, px) => ⟨[(13, late), (15, .int .i64 i), (7, .ptr p 0), (9, .ptr pc 0), (11, .ptr px 0)], [(p, zl t a), (pc, ⟨41, [iAV c.m, iAV c.w, snv c.cx]⟩), (px, ⟨24, [iAV x.m, rcv x.cx]⟩)], i ≤ L.length ∧ L.length ≤ 202 ∧ c.ok = true ∧ x.ok = true ∧ LvP 2700 late, L.length - i⟩) ((0, ⟨m, w, List.replicate 16 Sn.z⟩, ⟨m, List.replicate 16 Rc.z⟩, .nils, Ka, _, _, _)) (by rfl); (focus (all_goals (try exact KC90); done)); rintro ⟨i, c, x, late, a, p, pc, px⟩ ⟨hk, hk, hk, hk, hok⟩; (have hlv : LvP 2700 late := (by assumption); unfold LvP at hlv; (rcases hlv with rfl | ⟨ll, rfl, hll⟩)))) | (show SQ _ _ _ _ _ _ _; first | refine gX 15 [] [0, 1, 2, 3, 4, 5, 6, 7, 8, 9, 10, 11] [pc] ?_ | (skip; refine gX 17 [3, 6] [0, 1, 2, 3, 4, 5, 6, 7, 8, 9] [r] ?_)) | (show AtL 12 _ _ _ _ _ _ _ _ _; first | (apply AtL.mk' (id := 12) (S := Nat × Co × De × AV × Nat × Nm × Nm × Nm) ((i + 1, c2, x, .nils, qd t a2, _, _, _)); focus (refine T.a5 ?_ ?_ ?_ ?_ <;> exact zt)) | (apply AtL.mk' (id := 12) (S := Nat × Co × De × AV × Nat × Nm × Nm × Nm) ((i + 1, c2, x, bv ll, qd t a2, _, _, _)); focus (refine T.a5 ?_ ?_ ?_ ?_ <;> exact zt)) | (apply AtL.mk' (id := 12) (S := Nat × Co × De × AV × Nat × Nm × Nm × Nm) ((i + 1, c2, x, late2, a3, _, _, _)); focus (refine T.a5 ?_ ?_ ?_ ?_ <;> exact zt)) | (apply AtL.mk' (id := 12) (S := Nat × Co × De × AV × Nat × Nm × Nm × Nm) ((i + 1, c2, d', late2, a3, _, _, _)); focus (refine T.a5 ?_ ?_ ?_ ?_ <;> exact zt))) | (show CutL _ _ _ _ _ _ _ _; first | (refine goK tQ [16, 18] 16 (S := Co × Nat × Nm × Nm × Nm) [8, 13, 14] (fun (c2, a2, p, pc, px) => ⟨[(16, bv (qe c (L.getD i [])).1.2), (15, .int .i64 i), (7, .ptr p 0), (9, .ptr pc 0), (11, .ptr px 0)], [(p, zl t a2), (pc, ⟨41, [iAV c2.m, iAV c2.w, snv c2.cx]⟩), (px, ⟨24, [iAV x.m, rcv x.cx]⟩)], c2.ok = true, 0⟩) ?_ ?_; (rintro ⟨c2, a2, p, pc, px⟩ hok; (try dsimp only at hok)); rotate_left) | (refine goK tQ [16, 18] 18 (S := AV × AV × Nat × Nm × Nm × Nm) [8, 14] (fun (Yv, late2, a3, p, pc, px) => ⟨[(16, Yv), (13, late2), (15, .int .i64 i), (7, .ptr p 0), (9, .ptr pc 0), (11, .ptr px 0)], [(p, zl t a3), (pc, ⟨41, [iAV c2.m, iAV c2.w, snv c2.cx]⟩), (px, ⟨24, [iAV x.m, rcv x.cx]⟩)], LvP 3000 Yv ∧ LvP 2700 late2, 0⟩) ?_ ?_; (rintro ⟨Yv, late2, a3, p, pc, px⟩ ⟨hk, hok⟩; (have hYv : LvP 3000 Yv := (by assumption); unfold LvP at hYv; (rcases hYv with rfl | ⟨Y, rfl, hY3⟩); rotate_left; have hY3 : Y.length ≤ 140737488355328 := (by omega); have hxl := (wL (c := 0) (d := x) (by assumption) (by decide) (by decide)).2.1; have hdd := ddd_c x Y hY3; have hag := vr x Y hY3 (by omega); have hok' := (ddR_acc (d := x) hY3 (by assumption)).1; generalize ddR x Y = X at hdd hok'; obtain ⟨d', p', fb, e⟩ := X; dsimp only at hdd hok'; have hva := xI (G := gm) d'; rw [hok'] at hva)); rotate_left) | refine CutL.go tQ [16, 18] ?_) | (show AtC 16 _ _ _ _ _ _ _; first | (apply AtC.mk' (id := 16) (S := Co × Nat × Nm × Nm × Nm) (()); focus (refine T.a4 ?_ ?_ ?_ <;> exact zt))) | (show AtC 18 _ _ _ _ _ _ _; first | (apply AtC.mk' (id := 18) (S := AV × AV × Nat × Nm × Nm × Nm) ((bv (zh t (qd t a2) (qe c (L.getD i [])).1.2), .nils, j9 t (qd t a2) (qe c (L.getD i [])).1.2, _, _, _)); focus (refine T.a4 ?_ ?_ ?_ <;> exact zt)) | (apply AtC.mk' (id := 18) (S := AV × AV × Nat × Nm × Nm × Nm) ((.nils, bv (qe c (L.getD i [])).1.2, qd t a2, _, _, _)); focus (refine T.a4 ?_ ?_ ?_ <;> exact zt)) | (apply AtC.mk' (id := 18) (S := AV × AV × Nat × Nm × Nm × Nm) ((bv (qe c (L.getD i [])).1.2, .nils, qd t a2, _, _, _)); focus (refine T.a4 ?_ ?_ ?_ <;> exact zt)) | (apply AtC.mk' (id := 18) (S := AV × AV × Nat × Nm × Nm × Nm) ((bv (zh t (qd t a2) (qe c (L.getD i [])).1.2), bv ll, j9 t (qd t a2) (qe c (L.getD i [])).1.2, _, _, _)); focus (refine T.a4 ?_ ?_ ?_ <;> exact zt)) | (apply AtC.mk' (id := 18) (S := AV × AV × Nat × Nm × Nm × Nm) ((bv ll, bv (qe c (L.getD i [])).1.2, qd t a2, _, _, _)); focus (refine T.a4 ?_ ?_ ?_ <;> exact zt)) | (apply AtC.mk' (id := 18) (S := AV × AV × Nat × Nm × Nm × Nm) ((bv (qe c (L.getD i [])).1.2, bv ll, qd t a2, _, _, _)); focus (refine T.a4 ?_ ?_ ?_ <;> exact zt))) | exact T.z | fail) <;> conv => whnf)
 all_goals (try dsimp only)
 all_goals first
   | ((show RL _ _ _; refine goR ?_); rfl)
   | trace_state
theorem runs10_c (t : List Int) (mode width : Int) : LP Tryz.prog gm 5 [iv t, iAV mode, iAV width] [] (fun _ => (.bool true, [])) := by
 by_cases ht : t.length ≤ 400
 · exact runs10_t t mode width ht
 · have hl := wi (G := gm) t
   rw [decide_eq_false ht] at hl
   refine goW [] Tryz.func5 rfl ?_
   conv => whnf
   repeat' ((first | exact Nm.b 0 | (show LC _ _ _ _ _ _; first | refine LC.pure (hl) ?_ | refine LC.pure (xY) ?_ | refine goE ?_) | refine T.s ?_ | ((first | apply goB | apply AB.dec | apply AB.gen) <;> intro h <;> try (exfalso; omega)) | refine LQ.mk fun r => ?_ | (show SQ _ _ _ (.loop _) _ _ _; first | (refine goL tQ [] 12 (S := Nat) [7, 8, 9, 11, 14] (fun i => ⟨[(15, .int .i64 i)], [], False, 4 - i⟩) (0) ?_; rintro i hok; (try dsimp only at hok))) | (show SQ _ _ _ _ _ _ _; first | (refine goD tQ qb 15 [] [0, 1, 2, 3, 4, 5, 6, 7, 8, 9, 10, 11] [] (by kernel_rfl) ?_) | (refine goD tQ qb 17 [3, 6] [0, 1, 2, 3, 4, 5, 6, 7, 8, 9] [] (by kernel_rfl) ?_)) | (show AtL _ _ _ _ _ _ _ _ _ _; first | (show AtL 12 _ _ _ _ _ _ _ _ _; exact goN 12 (S := Nat) (i + 1)) | (apply AtL.mk' (id := 12) (S := Nat) (i + 1); all_goals (try exact KC12))) | exact T.z | fail) <;> conv => whnf)
   all_goals (try dsimp only)
   all_goals first | ((show RL _ _ _; refine goR ?_); rfl) | ((show RL _ _ _; refine goR ?_); simp; done) | (exfalso; simp_all; done) | trace_state
end Go.Proofs.YtkfpgdckdmlhkaaGreatDoor
