/-
  Contracts of the functions that the laws reach.
-/
import Derived.ProofKit
import Derived.OpenShut
import Derived.LaidMore
import Derived.Stop.Joined
import Derived.Test.YtkfpgdckdmlhkaaGreatDoorRows
import Derived.WideKeyElems2
import Derived.Test.YtkfpgdckdmlhkaaGreatDoorDq01
import Derived.Test.YtkfpgdckdmlhkaaGreatDoorDq02
import Derived.Test.YtkfpgdckdmlhkaaGreatDoorDq03
import Derived.Test.YtkfpgdckdmlhkaaGreatDoorDq04
import Derived.Test.YtkfpgdckdmlhkaaGreatDoorDq05
import Derived.Test.YtkfpgdckdmlhkaaGreatDoorDq06
import Derived.Test.YtkfpgdckdmlhkaaGreatDoorDq07
import Derived.Test.YtkfpgdckdmlhkaaGreatDoorDq08
import Derived.Test.YtkfpgdckdmlhkaaGreatDoorDq10
import Derived.Test.YtkfpgdckdmlhkaaGreatDoorDq14
import Derived.Test.YtkfpgdckdmlhkaaGreatDoorDq15
import Derived.Test.YtkfpgdckdmlhkaaGreatDoorDq17
import Derived.Test.YtkfpgdckdmlhkaaGreatDoorDq18
import Derived.Test.YtkfpgdckdmlhkaaGreatDoorDq22
import Derived.Test.YtkfpgdckdmlhkaaGreatDoorDq23
import Derived.Test.YtkfpgdckdmlhkaaGreatDoorDq24
import Derived.Test.YtkfpgdckdmlhkaaGreatDoorDq25
import Derived.Test.YtkfpgdckdmlhkaaGreatDoorDq26
import Derived.Test.YtkfpgdckdmlhkaaGreatDoorDq27
set_option maxHeartbeats 8000000
set_option linter.all false
namespace Go.Proofs.YtkfpgdckdmlhkaaGreatDoor
open Go.RowKit
def Inv (c : Co) (d : De) : Prop := c.ok = true ∧ d.ok = true ∧ ∀ i, i < 16 → (c.at i).act = true → (d.cx.getD i Rc.z).st = 2 ∧ (d.cx.getD i Rc.z).la = (c.at i).lst ∧ (d.cx.getD i Rc.z).dy = (c.at i).dy
theorem raw_enc {b : List UInt8} (h : b.length ≤ 1500) : (zu (yU b)).1 = 210 :: b := by
 have e : yU b = wX b := rfl
 rw [e, enc_ok (by rw [rawD_ok]; exact decide_eq_true h), rawD_hd]
 rfl
theorem de_set {d : De} {i : Nat} {r : Rc} (hd : d.ok = true) (hr : r.ok = true) : (d.set i r).ok = true := by
 unfold De.ok at hd ⊢
 simp only [Bool.and_eq_true, decide_eq_true_eq, List.all_eq_true] at hd ⊢
 refine ⟨hd.1, ?_, fun x hx => ?_⟩
 · show (d.cx.set _ r).length = 16; rw [List.length_set]; exact hd.2.1
 · rcases List.mem_or_eq_of_mem_set hx with hx | rfl
   · exact hd.2.2 x hx
   · exact hr
theorem rc_mk {r : Rc} (he : r.er = 0) (hst : r.st = 2) (h1 : r.la.ok = true) (h2 : r.dy.ok = true) (h3 : r.la.k = 2 ∨ r.dy = Dy.z) : r.ok = true := by
 unfold Rc.ok
 rw [he, hst, if_neg (by decide), if_pos (.inr rfl), h1, h2, decide_eq_true h3]
 rfl
theorem wR {d : De} {i k : Nat} {r : Rc} (hl : d.cx.length = 16) (hi : i < 16) : (d.set i r).cx.getD k Rc.z = if k = i then r else d.cx.getD k Rc.z := by
 show (d.cx.set ((i : Int).toNat) r).getD k Rc.z = _
 rw [Int.toNat_natCast, List.getD_eq_getElem?_getD, List.getElem?_set]
 split
 · rename_i e; subst e; rw [if_pos (by omega), if_pos rfl]; rfl
 · rename_i e; rw [if_neg (fun k => e k.symm), List.getD_eq_getElem?_getD]
theorem co_at {c : Co} {i k : Nat} {s : Sn} (hl : c.cx.length = 16) (hi : i < 16) : (c.set i s).at k = if k = i then s else c.at k := by
 unfold Co.set Co.at
 rw [List.getD_eq_getElem?_getD, List.getElem?_set]
 split
 · rename_i e; subst e; rw [if_pos (by omega), if_pos rfl]; rfl
 · rename_i e; rw [if_neg (fun k => e k.symm), List.getD_eq_getElem?_getD]
open Go.RowKit
theorem wref_l (w q : Nm) (hne : w ≠ q) (l : List Rc) (i : Nat) (hi : i < l.length) (m c : Int) (s : Sm) (a : AV) (hr : (l.getD i Rc.z).ok = true) : LP Tryz.prog gm 66 [.ptr w 0] [(w, ⟨112, wkC m c s a q (i * 19)⟩), (q, ⟨71, l.flatMap Rc.cs⟩)] (fun _ => (.tup [], [(w, ⟨112, wkC m c s a q (i * 19)⟩), (q, ⟨71, (l.set i (ku (l.getD i Rc.z))).flatMap Rc.cs⟩)])) := by
 have h := wref_c (G := gm) w q hne l i hi m c s a (l.getD i Rc.z) (xN hr).1 (xN hr).2.1
 rwa [set_at hi] at h
theorem wacc_l (w q : Nm) (hne : w ≠ q) (l : List Rc) (i : Nat) (hi : i < l.length) (m c : Int) (s : Sm) (a : AV) (hd : Hd) : LP Tryz.prog gm 68 [.ptr w 0, hd.av] [(w, ⟨112, wkC m c s a q (i * 19)⟩), (q, ⟨71, l.flatMap Rc.cs⟩)] (fun _ => (fbv (ackR m c s hd), [(w, ⟨112, wkC m c s a q (i * 19)⟩), (q, ⟨71, (l.set i (yL (l.getD i Rc.z) s hd)).flatMap Rc.cs⟩)])) := by
 have h := wacc_c (G := gm) w q hne l i hi m c s a (l.getD i Rc.z) hd
 rwa [set_at hi] at h
section
variable (d : De) (b : List UInt8) (hb : b.length ≤ 140737488355328)
theorem dcmp_d (h : d.ok = true) (hl : d.cx.length = 16) (i : Nat) (f : Int) (hp : ql b = ((i : Int), f, 0)) (hi : i < d.cx.length) (h6 : f ≠ 6) (hs : ¬ (d.cx.getD i Rc.z).st < zw f) (hD : dse (qY b hb (d.cx.getD i Rc.z).la.k (decide ((d.cx.getD i Rc.z).la.ck ≠ 0))) ≠ 0) : LP Tryz.prog gm 25 [d.av, bv b] [] (fun _ => (dre (qk d b hb), [])) := by
 rw [dcp_d (r := d.cx.getD i Rc.z) h hp h6 rfl hs hD]
 have hv := xI (G := gm) d
 rw [h] at hv
 have hq := wm (G := gm) b
 rw [hp] at hq
 dsimp only [pe] at hq
 have hd := vj (G := gm) b hb (d.cx.getD i Rc.z).la.k (qu .neq (d.cx.getD i Rc.z).la.ck 0)
 rw [xp] at hd
 rw [← xp] at hd
 have e0 := xp (d.cx.getD i Rc.z).la.ck
 rw [← e0] at hD ⊢
 clear e0
 generalize dse (qY b hb (d.cx.getD i Rc.z).la.k (qu .neq (d.cx.getD i Rc.z).la.ck 0)) = E at hd hD ⊢
 generalize dsm (qY b hb (d.cx.getD i Rc.z).la.k (qu .neq (d.cx.getD i Rc.z).la.ck 0)) = S at hd
 refine goW [] Tryz.func25 rfl ?_
 conv => whnf
 repeat' ((first | (show LQ _; rw [ix19 i]; refine LQ.mk fun r => ?_) | exact Nm.b 0 | (refine And.intro ?_ ?_; (focus (first | (show KeepX _ _ _; exact KeepX.refl) | (show _ ≤ (List.flatMap Rc.cs _).length; rw [qy Rc.cs_len]; (try dsimp only); omega) | exact T.kx | exact T.side))) | (show LC _ _ _ _ _ _; first | refine LC.pure (hv) ?_ | refine LC.own (xR d.cx (by omega) (by omega)) ?_ | refine LC.pure (hq) ?_ | refine LC.pure (kO _) ?_ | refine LC.pure (hd) ?_ | refine goE ?_) | (show AC _ _ _; first | (refine AC.sub Rc.cs_len i 0 Rc.z _ ?_ (by decide) hi rfl ?_; focus omega) | (refine AC.sub Rc.cs_len i 1 Rc.z _ ?_ (by decide) hi rfl ?_; focus omega) | (refine AC.sub Rc.cs_len i 10 Rc.z _ ?_ (by decide) hi rfl ?_; focus omega)) | refine T.s ?_ | ((first | apply goB | apply AB.dec | apply AB.gen) <;> intro h <;> try (exfalso; omega)) | refine LQ.mk fun r => ?_ | (show SQ _ _ _ _ _ _ _; first | refine gX 12 [2, 3] [0, 1, 2, 3, 4, 5, 6] [] ?_ | refine gX 13 [] [0, 1, 2, 3, 4, 5, 6, 7, 8, 9] [] ?_ | refine gX 14 [3, 6, 8] [0, 1, 2, 3, 4, 5, 6, 7, 8, 9] [] ?_ | refine gX 15 [0, 2] [0, 1, 2, 3, 4, 5, 6] [] ?_ | refine gX 16 [] [0, 1, 2, 3, 4, 5, 6, 7, 8, 9, 10, 11, 12, 13, 14, 15, 16, 17, 18, 19, 20, 21, 22, 23, 24, 25, 26] [] ?_ | refine gX 22 [0, 2] [0, 1, 2, 3, 4, 5, 6] [] ?_ | refine gX 23 [] [0, 1, 2, 3, 4, 5, 6, 7, 8, 9, 10, 11] [] ?_ | refine gX 26 [0, 4] [0, 1, 2, 3, 4, 5, 6, 7, 8] [] ?_) | exact T.z | fail) <;> conv => whnf)
 all_goals (try dsimp only)
 all_goals
   refine RL.dre .n .n rfl ?_
   (repeat first | refine goH ?_ | apply LH.here | apply LH.next)
   rfl
theorem dcmp_g (h : d.ok = true) (hl : d.cx.length = 16) (i : Nat) (f : Int) (hp : ql b = ((i : Int), f, 0)) (hi : i < d.cx.length) (h6 : f ≠ 6) (hs : ¬ (d.cx.getD i Rc.z).st < zw f) (s : Sm) (hD : qY b hb (d.cx.getD i Rc.z).la.k (decide ((d.cx.getD i Rc.z).la.ck ≠ 0)) = .inl s) (hf : 1 ≤ s.f ∧ s.f ≤ 5) (hn : 0 ≤ s.n ∧ s.n < 65536) (hpl : s.pl.length ≤ 1500) (hr : (d.cx.getD i Rc.z).ok = true) : LP Tryz.prog gm 25 [d.av, bv b] [] (fun _ => (dre (qk d b hb), [])) := by
 rw [dcp_g (r := d.cx.getD i Rc.z) h hp h6 rfl hs hD]
 have hv := xI (G := gm) d
 rw [h] at hv
 have hq := wm (G := gm) b
 rw [hp] at hq
 dsimp only [pe] at hq
 have hd : LP Tryz.prog gm 62 [bv b, iAV (d.cx.getD i Rc.z).la.k, .bool (qu .neq (d.cx.getD i Rc.z).la.ck 0)] [] (fun _ => (.tup [s.av, iAV 0], [])) := by
   have := vj (G := gm) b hb (d.cx.getD i Rc.z).la.k (qu .neq (d.cx.getD i Rc.z).la.ck 0)
   rw [xp, hD, jJ] at this
   rw [xp]
   exact this
 obtain ⟨⟨x, ok⟩, hx⟩ : ∃ y, js d.m (d.cx.getD i Rc.z) s = y := ⟨_, rfl⟩
 have hreb : ∀ w q : Nm, w ≠ q → _ := fun w q hne => wreb_c w q hne d.cx i hi d.m i s (bv s.pl) hf hn
 simp only [hx] at hreb
 clear hD hp
 cases ok with
 | false =>
   rw [decP_f hx]
   clear hx
   refine goW [] Tryz.func25 rfl ?_
   conv => whnf
   repeat' ((first | (show LQ _; rw [ix19 i]; refine LQ.mk fun r => ?_) | exact Nm.b 0 | (refine And.intro ?_ ?_; (focus (first | (show KeepX _ _ _; exact KeepX.refl) | (show _ ≤ (List.flatMap Rc.cs _).length; rw [qy Rc.cs_len]; (try dsimp only); omega) | exact T.kx | exact T.side))) | (show LC _ _ _ _ _ _; first | refine LC.pure (hv) ?_ | refine LC.own (xR d.cx (by omega) (by omega)) ?_ | refine LC.pure (hq) ?_ | refine LC.pure (kO _) ?_ | refine LC.pure (hd) ?_ | (apply LC.twoK (fun hne => hreb _ _ hne); (repeat first | refine goH ?_ | apply LH.here | apply LH.next); refine ⟨rfl, ?_⟩; (repeat first | refine goH ?_ | apply LH.here | apply LH.next); refine ⟨rfl, ?_⟩; (repeat first | refine goH ?_ | apply LH.here | apply LH.next)) | (apply LC.twoK (fun hne => wref_l _ _ hne d.cx i hi _ _ s (bv s.pl) hr); (repeat first | refine goH ?_ | apply LH.here | apply LH.next); refine ⟨rfl, ?_⟩; (repeat first | refine goH ?_ | apply LH.here | apply LH.next); refine ⟨rfl, ?_⟩; (repeat first | refine goH ?_ | apply LH.here | apply LH.next)) | (apply LC.twoK (fun hne => wcomp_s _ _ hne d.cx i hi _ _ s (bv s.pl) _); (repeat first | refine goH ?_ | apply LH.here | apply LH.next); refine ⟨rfl, ?_⟩; (repeat first | refine goH ?_ | apply LH.here | apply LH.next); refine ⟨rfl, ?_⟩; (repeat first | refine goH ?_ | apply LH.here | apply LH.next)) | refine goE ?_) | (show AC _ _ _; first | (refine AC.sub Rc.cs_len i 0 Rc.z _ ?_ (by decide) hi rfl ?_; focus omega) | (refine AC.sub Rc.cs_len i 1 Rc.z _ ?_ (by decide) hi rfl ?_; focus omega) | (refine AC.sub Rc.cs_len i 10 Rc.z _ ?_ (by decide) hi rfl ?_; focus omega)) | refine T.s ?_ | ((first | apply goB | apply AB.dec | apply AB.gen) <;> intro h <;> try (exfalso; omega)) | refine LQ.mk fun r => ?_ | (show SQ _ _ _ _ _ _ _; first | refine gX 12 [2, 3] [0, 1, 2, 3, 4, 5, 6] [] ?_ | refine gX 13 [] [0, 1, 2, 3, 4, 5, 6, 7, 8, 9] [] ?_ | refine gX 14 [3, 6, 8] [0, 1, 2, 3, 4, 5, 6, 7, 8, 9] [] ?_ | refine gX 15 [0, 2] [0, 1, 2, 3, 4, 5, 6] [] ?_ | refine gX 16 [] [0, 1, 2, 3, 4, 5, 6, 7, 8, 9, 10, 11, 12, 13, 14, 15, 16, 17, 18, 19, 20, 21, 22, 23, 24, 25, 26] [] ?_ | refine gX 22 [0, 2] [0, 1, 2, 3, 4, 5, 6] [] ?_ | refine gX 23 [] [0, 1, 2, 3, 4, 5, 6, 7, 8, 9, 10, 11] [] ?_ | refine gX 26 [0, 4] [0, 1, 2, 3, 4, 5, 6, 7, 8] [] ?_) | exact T.z | fail) <;> conv => whnf)
   all_goals (try dsimp only)
   all_goals
     refine RL.dre .n (.b _) (by simp) ?_
     (repeat first | refine goH ?_ | apply LH.here | apply LH.next)
     rfl
 | true =>
   have hB := pbuild_c (G := gm) x s.pl (by omega)
   have k1 := fun hz => decP_g (c := (i : Int)) hx hz
   have k2 := fun hz => decP_b (c := (i : Int)) hx hz
   generalize (zm x s.pl).2 = E at hB k1 k2
   generalize (zm x s.pl).1 = B at hB k1 k2
   clear hx
   by_cases hE : E = 0
   · subst hE
     rw [k1 rfl]
     clear k1 k2
     refine goW [23] Tryz.func25 rfl ?_
     conv => whnf
     repeat' ((first | (show LQ _; rw [ix19 i]; refine LQ.mk fun r => ?_) | exact Nm.b 0 | (refine And.intro ?_ ?_; (focus (first | (show KeepX _ _ _; exact KeepX.refl) | (show _ ≤ (List.flatMap Rc.cs _).length; rw [qy Rc.cs_len]; (try dsimp only); omega) | exact T.kx | exact T.side))) | (show LC _ _ _ _ _ _; first | refine LC.pure (hv) ?_ | refine LC.own (xR d.cx (by omega) (by omega)) ?_ | refine LC.pure (hq) ?_ | refine LC.pure (kO _) ?_ | refine LC.pure (hd) ?_ | refine LC.pure (hB) ?_ | (apply LC.twoK (fun hne => hreb _ _ hne); (repeat first | refine goH ?_ | apply LH.here | apply LH.next); refine ⟨rfl, ?_⟩; (repeat first | refine goH ?_ | apply LH.here | apply LH.next); refine ⟨rfl, ?_⟩; (repeat first | refine goH ?_ | apply LH.here | apply LH.next)) | (apply LC.twoK (fun hne => wacc_l _ _ hne d.cx i hi _ _ s (bv s.pl) x); (repeat first | refine goH ?_ | apply LH.here | apply LH.next); refine ⟨rfl, ?_⟩; (repeat first | refine goH ?_ | apply LH.here | apply LH.next); refine ⟨rfl, ?_⟩; (repeat first | refine goH ?_ | apply LH.here | apply LH.next)) | refine goE ?_) | (show AC _ _ _; first | (refine AC.sub Rc.cs_len i 0 Rc.z _ ?_ (by decide) hi rfl ?_; focus omega) | (refine AC.sub Rc.cs_len i 1 Rc.z _ ?_ (by decide) hi rfl ?_; focus omega) | (refine AC.sub Rc.cs_len i 10 Rc.z _ ?_ (by decide) hi rfl ?_; focus omega)) | refine T.s ?_ | ((first | apply goB | apply AB.dec | apply AB.gen) <;> intro h <;> try (exfalso; omega)) | refine LQ.mk fun r => ?_ | (show SQ _ _ _ _ _ _ _; first | refine gX 12 [2, 3] [0, 1, 2, 3, 4, 5, 6] [] ?_ | refine gX 13 [] [0, 1, 2, 3, 4, 5, 6, 7, 8, 9] [] ?_ | refine gX 14 [3, 6, 8] [0, 1, 2, 3, 4, 5, 6, 7, 8, 9] [] ?_ | refine gX 15 [0, 2] [0, 1, 2, 3, 4, 5, 6] [] ?_ | refine gX 16 [] [0, 1, 2, 3, 4, 5, 6, 7, 8, 9, 10, 11, 12, 13, 14, 15, 16, 17, 18, 19, 20, 21, 22, 23, 24, 25, 26] [] ?_ | refine gX 22 [0, 2] [0, 1, 2, 3, 4, 5, 6] [] ?_ | refine gX 23 [] [0, 1, 2, 3, 4, 5, 6, 7, 8, 9, 10, 11] [] ?_ | (refine goD tQ qb 26 [0, 4] [0, 1, 2, 3, 4, 5, 6, 7, 8] [o, g] (by kernel_rfl) ?_)) | (show CutL _ _ _ _ _ _ _ _; first | (refine goK tQ [23] 23 (S := Nm × Nm × Nm × Nm × Nm) [] (fun (a, o, w, g, q) => ⟨[(5, bv B), (7, iAV 0), (2, .ptr a 0), (4, .ptr o 0), (12, .ptr w 0), (13, .ptr g 0)], [(a, ⟨24, [iAV d.m, rcv d.cx]⟩), (o, ⟨24, [iAV d.m, .vw q 0 d.cx.length 19]⟩), (w, ⟨112, wkC d.m i s (bv s.pl) q (i * 19)⟩), (g, ⟨65, x.cs⟩), (q, ⟨71, d.cx.flatMap Rc.cs⟩)], True, 0⟩) ?_ ?_; (rintro ⟨a, o, w, g, q⟩ -); rotate_left) | refine CutL.go tQ [23] ?_) | (show AtC _ _ _ _ _ _ _ _; first | (show AtC 23 _ _ _ _ _ _ _; exact goM 23 (S := Nm × Nm × Nm × Nm × Nm) ((_, _, _, _, _))) | (apply AtC.mk' (id := 23) (S := Nm × Nm × Nm × Nm × Nm) ((_, _, _, _, _)); all_goals (try exact KC12))) | exact T.z | fail) <;> conv => whnf)
     all_goals (try dsimp only)
     all_goals
       refine RL.dre (.b _) (.b _) (by simp) ?_
       (repeat first | refine goH ?_ | apply LH.here | apply LH.next)
       rfl
   · rw [k2 hE]
     clear k1 k2
     refine goW [] Tryz.func25 rfl ?_
     conv => whnf
     repeat' ((first | (show LQ _; rw [ix19 i]; refine LQ.mk fun r => ?_) | exact Nm.b 0 | (refine And.intro ?_ ?_; (focus (first | (show KeepX _ _ _; exact KeepX.refl) | (show _ ≤ (List.flatMap Rc.cs _).length; rw [qy Rc.cs_len]; (try dsimp only); omega) | exact T.kx | exact T.side))) | (show LC _ _ _ _ _ _; first | refine LC.pure (hv) ?_ | refine LC.own (xR d.cx (by omega) (by omega)) ?_ | refine LC.pure (hq) ?_ | refine LC.pure (kO _) ?_ | refine LC.pure (hd) ?_ | refine LC.pure (hB) ?_ | (apply LC.twoK (fun hne => hreb _ _ hne); (repeat first | refine goH ?_ | apply LH.here | apply LH.next); refine ⟨rfl, ?_⟩; (repeat first | refine goH ?_ | apply LH.here | apply LH.next); refine ⟨rfl, ?_⟩; (repeat first | refine goH ?_ | apply LH.here | apply LH.next)) | refine goE ?_) | (show AC _ _ _; first | (refine AC.sub Rc.cs_len i 0 Rc.z _ ?_ (by decide) hi rfl ?_; focus omega) | (refine AC.sub Rc.cs_len i 1 Rc.z _ ?_ (by decide) hi rfl ?_; focus omega) | (refine AC.sub Rc.cs_len i 10 Rc.z _ ?_ (by decide) hi rfl ?_; focus omega)) | refine T.s ?_ | ((first | apply goB | apply AB.dec | apply AB.gen) <;> intro h <;> try (exfalso; omega)) | refine LQ.mk fun r => ?_ | (show SQ _ _ _ _ _ _ _; first | refine gX 12 [2, 3] [0, 1, 2, 3, 4, 5, 6] [] ?_ | refine gX 13 [] [0, 1, 2, 3, 4, 5, 6, 7, 8, 9] [] ?_ | refine gX 14 [3, 6, 8] [0, 1, 2, 3, 4, 5, 6, 7, 8, 9] [] ?_ | refine gX 15 [0, 2] [0, 1, 2, 3, 4, 5, 6] [] ?_ | refine gX 16 [] [0, 1, 2, 3, 4, 5, 6, 7, 8, 9, 10, 11, 12, 13, 14, 15, 16, 17, 18, 19, 20, 21, 22, 23, 24, 25, 26] [] ?_ | refine gX 22 [0, 2] [0, 1, 2, 3, 4, 5, 6] [] ?_ | refine gX 23 [] [0, 1, 2, 3, 4, 5, 6, 7, 8, 9, 10, 11] [] ?_ | refine gX 26 [0, 4] [0, 1, 2, 3, 4, 5, 6, 7, 8] [] ?_) | exact T.z | fail) <;> conv => whnf)
     all_goals (try dsimp only)
     all_goals
       refine RL.dre .n .n rfl ?_
       (repeat first | refine goH ?_ | apply LH.here | apply LH.next)
       rfl
theorem dcmp_c_ : LP Tryz.prog gm 25 [d.av, bv b] [] (fun _ => (dre (qk d b hb), [])) := by
 cases h : d.ok with
 | false => exact dcmp_n d b hb h
 | true =>
   obtain ⟨⟨c, f, e⟩, hp⟩ : ∃ y, ql b = y := ⟨_, rfl⟩
   have hl : d.cx.length = 16 := (wL (c := 0) h (by decide) (by decide)).2.1
   by_cases he : e = 0
   · subst he
     obtain ⟨hc, hf⟩ := kM hp
     by_cases h6 : f = 6
     · subst h6
       obtain ⟨r, rfl, rfl⟩ := peek6 hp
       exact dcmp_6 d _ hb h hl hp
     · obtain ⟨i, rfl⟩ := Int.eq_ofNat_of_zero_le hc.1
       have hi : i < d.cx.length := by omega
       by_cases hs : (d.cx.getD i Rc.z).st < zw f
       · exact dcmp_c d b hb h hl i f hp hi h6 hs
       · by_cases hE : dse (qY b hb (d.cx.getD i Rc.z).la.k (decide ((d.cx.getD i Rc.z).la.ck ≠ 0))) = 0
         · obtain ⟨s, h1, h2, h3, h4⟩ := yB hE
           have e6 : s.f ≠ 6 := by
             rw [hp] at h4
             have : f = s.f := congrArg (fun y => y.2.1) h4
             omega
           obtain ⟨k1, k2⟩ := sm_n h2 e6
           exact dcmp_g d b hb h hl i f hp hi h6 hs s h1 k1 k2 (s.of h2).1.2.2 (wL h hc.1 hc.2).2.2
         · exact dcmp_d d b hb h hl i f hp hi h6 hs hE
   · exact dcmp_e d b hb h hl c f e hp he
end
open Go.RowKit
def awH : Hd := ⟨1, 0, 5, 0, 64, 0, 0, 0, 0, 0, 0, 0, 0, 0, 0⟩
def awC : Co := ⟨3, 1, List.replicate 16 Sn.z⟩
def awD : De := ⟨3, List.replicate 16 Rc.z⟩
def awP : List UInt8 := jc awH [9]
def awY : List UInt8 := (qe awC awP).1.2
theorem awY_e : qe awC awP = (((qe awC awP).1.1, awY), 0) := by
 have h : (qe awC awP).2 = 0 := by kernel_rfl
 unfold awY
 rw [← h]
theorem wv : awY.length ≤ 140737488355328 := by
 have h : Nat.ble awY.length 100 = true := by kernel_rfl
 have := Nat.le_of_ble_eq_true h
 omega
theorem aw_1 : qk awD [83, 1] (by decide) = ⟨awD, [], [⟨0, 2, 0⟩], 8⟩ := by kernel_rfl
theorem aw_2 : ∃ d, qk awD awY wv = ⟨d, awP, [⟨0, 0, 5⟩], 0⟩ ∧ d.ok = true := by
 refine ⟨(qk awD awY wv).d, ?_, by kernel_rfl⟩
 have h1 : (qk awD awY wv).p = awP := by kernel_rfl
 have h2 : (qk awD awY wv).b = [⟨0, 0, 5⟩] := by kernel_rfl
 have h3 : (qk awD awY wv).e = 0 := by kernel_rfl
 rw [← h1, ← h2, ← h3]
theorem xY : LP Tryz.prog gm 8 [] [] (fun _ => (.bool true, [])) := by
 have hn : LP Tryz.prog gm 9 [iAV 3] [] (fun _ => (.tup [awD.av, iAV 0], [])) := by
   have := dnew_c (G := gm) 3
   rwa [show ve 3 = (awD, 0) by kernel_rfl] at this
 have hc : LP Tryz.prog gm 18 [iAV 3, iAV 1] [] (fun _ => (.tup [awC.av, iAV 0], [])) := by
   have := r9new_c (G := gm) 3 1
   rwa [show cnewR 3 1 = (awC, 0) by kernel_rfl] at this
 have hp : LP Tryz.prog gm 32 [awH.av, bv [9]] [] (fun _ => (bv awP, [])) := vf awH [9] (.inl rfl) (by decide)
 have hz := comp_dat (G := gm) awC awP
 rw [awY_e] at hz
 have h1 := dcmp_c_ awD [83, 1] (by decide)
 rw [aw_1] at h1
 obtain ⟨d, hd, ho⟩ := aw_2
 have h2 := dcmp_c_ awD awY wv
 rw [hd] at h2
 have hv := xI (G := gm) d
 rw [ho] at hv
 have hs := sameT_c (G := gm) awP
 clear hd ho
 generalize (qe awC awP).1.1 = C1 at hz
 generalize awY = Y at hz h2
 generalize awP = P at hz h2 hp hs
 obtain ⟨dm, dcx⟩ := d
 refine goW [] Tryz.func8 rfl ?_
 conv => whnf
 repeat' ((first | (show LC _ _ _ _ _ _; first | refine LC.mk' (h1) [_] ⟨LF.eq rfl, LF.rowF InL.here ?_, trivial⟩ ?_ | refine LC.mk' (hp) [_] ⟨LF.eq rfl, LF.rowF InL.here ?_, trivial⟩ ?_ | refine LC.pure (hn) ?_ | refine LC.pure (hc) ?_ | refine LC.pure (hz) ?_ | refine LC.pure (h2) ?_ | refine LC.pure (hv) ?_ | refine LC.pure (hs) ?_ | refine goE ?_) | refine T.s ?_ | ((first | apply goB | apply AB.dec | apply AB.gen) <;> intro h) | refine LQ.mk fun r => ?_ | exact T.z | fail) <;> conv => whnf)
 all_goals (try dsimp only)
 all_goals first
   | rfl
   | ((show RL _ _ _; refine goR ?_); rfl)
   | trace_state
open Go.RowKit
theorem yZ {G : Nat → AV} (t : List Int) (a : Nat) (fl : Int) (cnt : Int) (reg : Bool) (h0 : 1 ≤ fl) (h1 : fl ≤ 10) (h2 : 0 ≤ cnt) (h3 : cnt ≤ 100) (ht : t.length ≤ 400) (p : Nm) : LP Tryz.prog G 19 [.ptr p 0, iAV fl, iAV cnt, .bool reg] [(p, zl t a)] (fun _ => (bbv (kd t a fl.toNat cnt reg).bs, [(p, zl t (kd t a fl.toNat cnt reg).a)])) := by
 have h := packets_c (G := G) t a fl.toNat cnt reg (by omega) (by omega) h2 h3 ht p
 rwa [show ((fl.toNat : Nat) : Int) = fl by omega] at h
theorem z_at {m w : Int} (i : Nat) : (⟨m, w, List.replicate 16 Sn.z⟩ : Co).at i = Sn.z := by
 unfold Co.at
 rw [List.getD_eq_getElem?_getD, List.getElem?_replicate]
 split <;> rfl
theorem inv_new {m w : Int} (hm : 1 ≤ m ∧ m ≤ 3) (hw : 1 ≤ w ∧ w ≤ 8) : Inv ⟨m, w, List.replicate 16 Sn.z⟩ ⟨m, List.replicate 16 Rc.z⟩ := by
 refine ⟨?_, ?_, fun i hi ha => ?_⟩
 · refine vn.2 ⟨⟨hm.1, hm.2, hw.1, hw.2⟩, by simp, fun i hi => ?_, fun i k hk hi => ?_⟩
   · rw [z_at]; rfl
   · rw [z_at]; rfl
 · unfold De.ok jE
   simp only [Bool.and_eq_true, decide_eq_true_eq, List.all_eq_true]
   refine ⟨hm, by simp, fun x hx => ?_⟩
   obtain rfl := List.eq_of_mem_replicate hx
   rfl
 · rw [z_at] at ha
   cases ha
theorem qF {L : List (List UInt8)} (h : ∀ b ∈ L, ja b) {i : Nat} (hi : (i : Int) < (L.length : Int)) : ja (L.getD i []) := by
 refine h _ ?_
 rw [List.getD_eq_getElem?_getD, List.getElem?_eq_getElem (by omega)]
 exact List.getElem_mem _
attribute [local irreducible] qe Inv
end Go.Proofs.YtkfpgdckdmlhkaaGreatDoor
namespace Go.Proofs.YtkfpgdckdmlhkaaGreatDoor
open Go.RowKit
theorem newR_len (m : Int) : (ve m).1.cx.length ≤ 1000 := by unfold ve; split <;> simp [De.z]
theorem compR_len (m c : Int) (r : Rc) : (xJ m c r).length ≤ 1000 := by unfold xJ; (repeat' split) <;> simp
theorem ackR_len (m c : Int) (s : Sm) (h : Hd) : (ackR m c s h).length ≤ 1000 := by unfold ackR; split <;> simp
theorem decP_len (d : De) (c : Int) (r : Rc) (s : Sm) : (decP d c r s).b.length ≤ 1000 ∧ (decP d c r s).d.cx.length = d.cx.length := by
 unfold decP
 split
 · split
   · exact ⟨ackR_len _ _ _ _, by simp [De.set]⟩
   · exact ⟨by simp, rfl⟩
 · exact ⟨compR_len _ _ _, by simp [De.set]⟩
theorem decomp_len (d : De) (b : List UInt8) (hb : b.length ≤ 140737488355328) (hl : d.cx.length ≤ 1000) : (qk d b hb).b.length ≤ 1000 ∧ (qk d b hb).d.cx.length ≤ 1000 := by
 unfold qk
 (repeat' split) <;> first | exact ⟨compR_len _ _ _, hl⟩ | exact ⟨(decP_len _ _ _ _).1, Nat.le_trans (Nat.le_of_eq (decP_len _ _ _ _).2) hl⟩ | exact ⟨Nat.zero_le _, hl⟩ | exact ⟨Nat.zero_le _, Nat.zero_le _⟩
def ddR (d : De) (b : List UInt8) : Dr := if h : b.length ≤ 140737488355328 then qk d b h else ⟨d, [], [], 0⟩
theorem ddR_e (d : De) (b : List UInt8) (h : b.length ≤ 140737488355328) : ddR d b = qk d b h := by unfold ddR; rw [dif_pos h]
theorem ddR_len (d : De) (b : List UInt8) (hl : d.cx.length ≤ 1000) : (ddR d b).b.length ≤ 1000 ∧ (ddR d b).d.cx.length ≤ 1000 := by
 unfold ddR
 split
 · exact decomp_len d b _ hl
 · exact ⟨by simp, hl⟩
theorem ddr_c (d : De) (b : List UInt8) (h : b.length ≤ 140737488355328) : LP Tryz.prog gm 23 [d.av, bv b] [] (fun _ => (.tup [(ddR d b).d.av, bv (ddR d b).p, fbv (ddR d b).b, iAV (ddR d b).e], [])) := by rw [ddR_e d b h]; exact rdc_c_ d b h
theorem ddd_c (d : De) (b : List UInt8) (h : b.length ≤ 140737488355328) : LP Tryz.prog gm 25 [d.av, bv b] [] (fun _ => (.tup [(ddR d b).d.av, bv (ddR d b).p, fbv (ddR d b).b, iAV (ddR d b).e], [])) := by rw [ddR_e d b h]; exact dcmp_c_ d b h
theorem vr (d : De) (b : List UInt8) (hb : b.length ≤ 140737488355328) (hl : d.cx.length ≤ 1000) : LP Tryz.prog gm 24 [d.av, bv b] [] (fun _ => (.bool true, [])) := by
 have h1 := ddd_c d b hb
 have h2 := ddr_c d b hb
 have h3 := ddR_len d b hl
 generalize ddR d b = X at h1 h2 h3
 obtain ⟨⟨m, cx⟩, p, f, e⟩ := X
 refine goW [] Tryz.func24 rfl ?_
 conv => whnf
 repeat' ((first | (show LC _ _ _ _ _ _; first | refine LC.pure (h1) ?_ | refine LC.pure (h2) ?_ | refine LC.pure (sameT_c p) ?_ | refine LC.pure (r10samef_c f h3.1) ?_ | refine LC.pure (yW ⟨m, cx⟩ h3.2) ?_ | refine goE ?_) | refine T.s ?_ | ((first | apply goB | apply AB.dec | apply AB.gen) <;> intro h <;> try (exfalso; omega)) | refine LQ.mk fun r => ?_ | exact T.z | fail) <;> conv => whnf)
 all_goals (try dsimp only)
 all_goals first | ((show RL _ _ _; refine goR ?_); rfl) | trace_state
theorem news10_c (m : Int) (d : De) : LP Tryz.prog gm 3 [iAV m, d.av] [] (fun _ => (.bool true, [])) := by
 have h1 := newR_len m
 have h2 := newR_len (xB m 5)
 have n1 := dnew_c (G := gm) m
 have n2 := r10new_c (G := gm) m
 have n3 := dnew_c (G := gm) (xB m 5)
 have n4 := r10new_c (G := gm) (xB m 5)
 generalize ve m = X at h1 n1 n2
 generalize ve (xB m 5) = Y at h2 n3 n4
 obtain ⟨⟨a, l⟩, e⟩ := X
 obtain ⟨⟨a', l'⟩, e'⟩ := Y
 refine goW [] Tryz.func3 rfl ?_
 conv => whnf
 repeat' ((first | exact Nm.b 0 | (show LC _ _ _ _ _ _; first | refine LC.pure (xY) ?_ | refine LC.pure (n1) ?_ | refine LC.pure (n2) ?_ | refine LC.pure (mod_c _ _) ?_ | refine LC.pure (n3) ?_ | refine LC.pure (n4) ?_ | refine LC.pure (yW ⟨a, l⟩ h1) ?_ | refine LC.pure (yW ⟨a', l'⟩ h2) ?_ | refine LC.pure (xI d) ?_ | refine LC.pure (zI d) ?_ | refine goE ?_) | refine T.s ?_ | ((first | apply goB | apply AB.dec | apply AB.gen) <;> intro h <;> try (exfalso; omega)) | refine LQ.mk fun r => ?_ | (show SQ _ _ _ _ _ _ _; first | refine gX 7 [24, 23] [0, 1, 2, 3, 4, 5, 6, 7, 8, 9, 10, 11, 12, 13, 14, 15, 16, 17, 18, 19, 20, 21, 22, 24, 23, 25, 26, 27, 28] [] ?_) | exact T.z | fail) <;> conv => whnf)
 all_goals (try dsimp only)
 all_goals first | ((show RL _ _ _; refine goR ?_); rfl) | ((show RL _ _ _; refine goR ?_); simp; done) | trace_state
theorem zg {c : Co} {b : List UInt8} (hc : c.ok = true) (hb : ja b) : (qe c b).1.2.length ≤ 2600 := by
 have h1 := hb.2
 have raw : (zu (yU b)).1.length ≤ 2600 := by rw [raw_enc h1, List.length_cons]; omega
 unfold qe
 rw [if_pos hc, if_neg (by rintro (k | k); exact hb.1 k; omega)]
 split
 · rename_i hp
   have hp2 : qv b = (((qv b).1.1, (qv b).1.2), 0) := by rw [← hp]
   split
   · rename_i i hf
     split
     · exact raw
     · obtain ⟨ho, -, -, -, hpl⟩ := pars_ok hp2
       obtain ⟨hi, hs, hh, -⟩ := jj hc hf
       have hm := ctx_mid (co_w hc).2.2.1 hs hh
       have hPok := parts_ok (c := (i : Int)) (pl := (qv b).1.2) ho hm.1.dok hm.1.dz ⟨by omega, by omega⟩ hm.2.1 hpl
       have h9 := hd_len _ hPok
       have h8 := (Sm.of _ hPok).1
       show (zu _).1.length ≤ _
       rw [enc_ok hPok]
       dsimp only
       rw [List.length_append]
       omega
   · exact raw
 · exact raw
theorem zo {c : Co} {b : List UInt8} (hc : c.ok = true) (hb : ja b) : (qe c b).1.1.ok = true := (compr_ok hc (by rintro (k | k); exact hb.1 k; have := hb.2; omega)).1
theorem compt_c (c : Co) (b : List UInt8) : LP Tryz.prog gm 21 [c.av, bv b] [] (fun _ => (.tup [(qe c b).1.1.av, bv (qe c b).1.2, iAV (qe c b).2], [])) := comp_dat c b
theorem co_new {m w : Int} (hm : 1 ≤ m ∧ m ≤ 3) (hw : 1 ≤ w ∧ w ≤ 8) : Co.ok ⟨m, w, List.replicate 16 Sn.z⟩ = true := (inv_new hm hw).1
attribute [local irreducible] qe ddR zh
theorem EDlw2_1 {p : Prop} (h : p := by (repeat' first | exact trivial | (refine And.intro ?_ ?_) | exact LB.nil | (with_reducible exact LB.refl) | (apply LB.cons; (repeat first | refine goH ?_ | apply LH.here | apply LH.next); refine And.intro ?_ ?_; (focus (try (first | (with_reducible rfl) | (refine congrArg (Pl.mk _) ?_; (first | rfl | (simp; done))) | rfl | (with_reducible refine congrArg (Pl.mk _) ?_))))) | (with_reducible assumption) | (exact zo (by assumption) (qF hZ (by assumption))) | (exact (ddR_len _ _ (by assumption)).2) | (show (_ : AV) = _; (first | (focus (apply Eq.trans; (conv => lhs; whnf); (conv => rhs; whnf); done)) | rfl | ((conv => lhs; whnf); first | rfl | (refine congrArg (AV.int _) ?_; (exact T.num)) | (refine congrArg AV.bool ?_; (exact T.num)) | (refine vwc ?_; first | (exact T.num) | (first | rfl | (simp; done))) | (refine qa ?_ ?_ <;> first | (exact T.num) | (first | rfl | (simp; done))) | (first | rfl | (simp; done))))) | ((with_reducible first | (show (_ : Int) ≤ _) | (show (_ : Int) < _) | (show (_ : Nat) ≤ _) | (show (_ : Nat) < _) | (show (_ : Int) = _) | (show (_ : Nat) = _)); (exact T.num)) | (first | rfl | (simp; done))); first | done | fail) : p := h
theorem exact10_t (d : De) (b : List UInt8) (t : List Int) (ht : t.length ≤ 400) : LP Tryz.prog gm 4 [d.av, bv b, iv t] [] (fun _ => (.bool true, [])) := by
 have hl := wi (G := gm) t
 rw [decide_eq_true ht] at hl
 have m1 := zA t 0 3 (by decide) (by decide)
 have m2 := zA t (qd t 0) 4 (by decide) (by decide)
 obtain ⟨m, hm⟩ : ∃ m, q7 .add .i64 1 (qg t 0 3) = m := ⟨_, rfl⟩
 obtain ⟨w, hw⟩ : ∃ w, q7 .add .i64 1 (qg t (qd t 0) 4) = w := ⟨_, rfl⟩
 have hm2 : 1 ≤ m ∧ m ≤ 3 := by rw [← hm]; (exact T.num)
 have hw2 : 1 ≤ w ∧ w ≤ 8 := by rw [← hw]; (exact T.num)
 have hN := r10new_c (G := gm) m
 rw [newR_t hm2] at hN
 have hM := r9new_c (G := gm) m w
 rw [vL ⟨hm2.1, hm2.2, hw2.1, hw2.2⟩] at hM
 have hP := fun p => yZ (G := gm) t (qd t (qd t (qd t 0))) 3 20 (jd t (qd t (qd t 0)) 2) (by decide) (by decide) (by decide) (by decide) ht p
 have hZ := yY t (qd t (qd t (qd t 0))) (3 : Int).toNat 20 (jd t (qd t (qd t 0)) 2)
 have hY := pks_len t (qd t (qd t (qd t 0))) (3 : Int).toNat 20 (jd t (qd t (qd t 0)) 2) (by decide) (by decide)
 generalize (kd t (qd t (qd t (qd t 0))) (3 : Int).toNat 20 (jd t (qd t (qd t 0)) 2)) = K at hP hZ hY
 obtain ⟨Kh, L, Ka⟩ := K
 dsimp only at hP hZ hY
 have hI := co_new hm2 hw2
 refine goW [] Tryz.func4 rfl ?_
 conv => whnf
 repeat' ((first | (show LC _ _ 18 _ _ _; (try rw [hm]); rw [hw]; refine LC.pure hM ?_) | (show LC _ _ 10 _ _ _; (try rw [hm]); refine LC.pure hN ?_) | exact Nm.b 0 | (show LC _ _ _ _ _ _; first | refine LC.pure (hl) ?_ | refine LC.pure (xY) ?_ | refine LC.own (roll_c t) ?_ | (apply LC.upd (je t _ _ ht _); (repeat first | refine goH ?_ | apply LH.here | apply LH.next); refine ⟨rfl, ?_⟩) | (apply LC.upd (one_c t _ _ ht _); (repeat first | refine goH ?_ | apply LH.here | apply LH.next); refine ⟨rfl, ?_⟩) | (apply LC.upd (hP _); (repeat first | refine goH ?_ | apply LH.here | apply LH.next); refine ⟨rfl, ?_⟩) | refine LC.pure (compt_c c (L.getD i [])) ?_ | (apply LC.upd (dspoil_c t _ (qe c (L.getD i [])).1.2 (by have := zg (b := L.getD i []) (by assumption) (qF hZ (by assumption)); omega) ht _); (repeat first | refine goH ?_ | apply LH.here | apply LH.next); refine ⟨rfl, ?_⟩) | refine LC.pure (ddr_c x (qe c (L.getD i [])).1.2 (by have := zg (b := L.getD i []) (by assumption) (qF hZ (by assumption)); omega)) ?_ | refine LC.pure (ddr_c x (zh t _ (qe c (L.getD i [])).1.2) (by have := zg (b := L.getD i []) (by assumption) (qF hZ (by assumption)); exact Nat.le_trans (xQ _ _ _) (by omega))) ?_ | refine LC.pure (vr d b (by omega) (by omega)) ?_ | refine LC.pure (vr x b (by omega) (by assumption)) ?_ | refine goE ?_) | (show AC _ _ _; first | (refine AC.idx (f := bv) (l := L) i [] (by (try dsimp only); omega) ?_ ?_; (focus (have : (i : Int) < (L.length : Int) := (by assumption); omega)))) | refine T.s ?_ | ((first | apply goB | apply AB.dec | apply AB.gen) <;> intro h) | refine LQ.mk fun r => ?_ | (show SQ _ _ _ (.loop _) _ _ _; first | (apply goO tQ [] 9 (S := Nat × Co × De × Nat × Nm × Nm × Nm × Nm) [1, 13] (fun (i, c, x, a, pb, p, pc, px) => ⟨[(14, .int .i64 i), (3, .ptr pb 0), (7, .ptr p 0), (9, .ptr pc 0), (11, .ptr px 0)], [(pb, ⟨24, [iAV d.m, rcv d.cx]⟩), (p, zl t a), (pc, ⟨41, [iAV c.m, iAV c.w, snv c.cx]⟩), (px, ⟨24, [iAV x.m, rcv x.cx]⟩)], i ≤ L.length ∧ L.length ≤ 202 ∧ c.ok = true ∧ x.cx.length ≤ 1000, L.length - i⟩) ((0, ⟨m, w, List.replicate 16 Sn.z⟩, ⟨m, List.replicate 16 Rc.z⟩, Ka, _, _, _, _)) (by rfl); (focus (all_goals (try exact KEB1); done)); rintro ⟨i, c, x, a, pb, p, pc, px⟩ ⟨hk, hk, hk, hok⟩)) | (show SQ _ _ _ _ _ _ _; first | refine gX 12 [] [0, 1, 2, 3, 4, 5, 6, 7, 8, 9, 10, 11] [pc] ?_) | (show AtL 9 _ _ _ _ _ _ _ _ _; first | (apply AtL.mk' (id := 9) (S := Nat × Co × De × Nat × Nm × Nm × Nm × Nm) ((i + 1, (qe c (L.getD i [])).1.1, x, qd t (qd t a), _, _, _, _)); focus (refine T.a5 ?_ ?_ ?_ ?_ <;> exact EDlw2_1)) | (apply AtL.mk' (id := 9) (S := Nat × Co × De × Nat × Nm × Nm × Nm × Nm) ((i + 1, (qe c (L.getD i [])).1.1, x, qd t (j9 t (qd t a) (qe c (L.getD i [])).1.2), _, _, _, _)); focus (refine T.a5 ?_ ?_ ?_ ?_ <;> exact EDlw2_1)) | (apply AtL.mk' (id := 9) (S := Nat × Co × De × Nat × Nm × Nm × Nm × Nm) ((i + 1, (qe c (L.getD i [])).1.1, (ddR x (qe c (L.getD i [])).1.2).d, qd t (qd t a), _, _, _, _)); focus (refine T.a5 ?_ ?_ ?_ ?_ <;> exact EDlw2_1)) | (apply AtL.mk' (id := 9) (S := Nat × Co × De × Nat × Nm × Nm × Nm × Nm) ((i + 1, (qe c (L.getD i [])).1.1, (ddR x (zh t (qd t a) (qe c (L.getD i [])).1.2)).d, qd t (j9 t (qd t a) (qe c (L.getD i [])).1.2), _, _, _, _)); focus (refine T.a5 ?_ ?_ ?_ ?_ <;> exact EDlw2_1))) | exact T.z | fail) <;> conv => whnf)
 all_goals (try dsimp only)
 all_goals first
   | ((show RL _ _ _; refine goR ?_); rfl)
   | trace_state
theorem exact10_c (d : De) (b : List UInt8) (t : List Int) : LP Tryz.prog gm 4 [d.av, bv b, iv t] [] (fun _ => (.bool true, [])) := by
 by_cases ht : t.length ≤ 400
 · exact exact10_t d b t ht
 · have hl := wi (G := gm) t
   rw [decide_eq_false ht] at hl
   refine goW [] Tryz.func4 rfl ?_
   conv => whnf
   repeat' ((first | exact Nm.b 0 | (show LC _ _ _ _ _ _; first | refine LC.pure (hl) ?_ | refine LC.pure (xY) ?_ | refine goE ?_) | refine T.s ?_ | ((first | apply goB | apply AB.dec | apply AB.gen) <;> intro h <;> try (exfalso; omega)) | refine LQ.mk fun r => ?_ | (show SQ _ _ _ (.loop _) _ _ _; first | (refine goL tQ [] 9 (S := Nat) [1, 3, 7, 9, 11, 13] (fun i => ⟨[(14, .int .i64 i)], [], False, 4 - i⟩) (0) ?_; rintro i hok; (try dsimp only at hok))) | (show SQ _ _ _ _ _ _ _; first | (refine goD tQ qb 12 [] [0, 1, 2, 3, 4, 5, 6, 7, 8, 9, 10, 11] [] (by kernel_rfl) ?_)) | (show AtL _ _ _ _ _ _ _ _ _ _; first | (show AtL 9 _ _ _ _ _ _ _ _ _; exact goN 9 (S := Nat) (i + 1)) | (apply AtL.mk' (id := 9) (S := Nat) (i + 1); all_goals (try exact KC12))) | exact T.z | fail) <;> conv => whnf)
   all_goals (try dsimp only)
   all_goals first | ((show RL _ _ _; refine goR ?_); rfl) | ((show RL _ _ _; refine goR ?_); simp; done) | (exfalso; simp_all; done) | trace_state
end Go.Proofs.YtkfpgdckdmlhkaaGreatDoor
namespace Go.Proofs.YtkfpgdckdmlhkaaGreatDoor
open Go.ChangeShapes Go.WideShapes Go.ChangeAt Go.RowKit
theorem LP.stmt {P : Program} {G : Nat → AV} {f : FuncId} {args : List AV} (h : LP P G f args [] (fun _ => (.bool true, []))) {W : World} {vs : Array Value} (hg : Glob G (fun _ => none) W) (hr : RdL (fun _ => none) W args vs) :
   Calls P f vs W fun e W' => e = .returned (.bool true) ∧ Below W.heap.size W W' := by
 unfold LP at h
 refine (h.2.2 (fun _ => none) W vs ⟨nofun, nofun, 0, fun _ _ => rfl⟩ hg (by simp) (by simp) hr).mono ?_
 rintro e W' ⟨v, q, rfl, -, -, hv, -, hs⟩
 have hv : Rd _ W' (.bool true) v := hv
 cases hv
 exact ⟨rfl, hs.os, hs.tape, hs.output, hs.size, fun k hk => (hs.old k hk rfl).2⟩
theorem RdL.nil0 {σ : q9} {W : World} : RdL σ W [] #[] := ⟨rfl, fun i hi => by simp at hi⟩
theorem RdL.cons0 {σ : q9} {W : World} {a : AV} {v : Value} {al : List AV} {vs : List Value} (h : Rd σ W a v) (hs : RdL σ W al vs.toArray) : RdL σ W (a :: al) (v :: vs).toArray :=
 ⟨by have := hs.1; simp at this ⊢; omega, fun i hi => by
   cases i with
   | zero => simpa using h
   | succ i =>
     have h2 := hs.2 i (by simp at hi; omega)
     simpa using h2⟩
theorem RdL.agg0 {σ : q9} {W : World} {al : List AV} {vs : List Value} (h : RdL σ W al vs.toArray) : Rd σ W (.agg al) (.agg vs.toArray) := .agg _ _ h.1 h.2
theorem kS {α : Type} (p : Nat → α → Prop) : ∀ (n : Nat), (∀ i, i < n → ∃ x, p i x) → ∃ l : List α, l.length = n ∧ ∀ i x, l[i]? = some x → p i x
 | 0, _ => ⟨[], rfl, by simp⟩
 | n + 1, h => by
   obtain ⟨l, h1, h2⟩ := kS p n fun i hi => h i (by omega)
   obtain ⟨x, hx⟩ := h n (by omega)
   refine ⟨l ++ [x], by simp [h1], fun i y hy => ?_⟩
   by_cases hi : i < l.length
   · rw [List.getElem?_append_left hi] at hy
     exact h2 i y hy
   · rw [List.getElem?_append_right (by omega)] at hy
     by_cases h0 : i - l.length = 0
     · rw [h0] at hy
       simp at hy
       subst hy
       have : i = n := by omega
       subst this
       exact hx
     · obtain ⟨k, hk⟩ := Nat.exists_eq_succ_of_ne_zero h0
       rw [hk] at hy
       simp at hy
section
variable {H : Type} {enc : TypeId × Value → H} {P : Program} {W : World} {base : Nat} {sp : Nat → Bool} {held : Bool} {b0 : Nat} {r : Reach}
theorem cell_row {α : Type} {A : α → AV} {u e : TypeId} (hu : P.underlying u = some (.slice e)) (hc : P.cellsOf e = 1) (he : ∀ (fuel : Nat) (c : Value) (y : DataW H × List MemPlace), DataW.trod enc P W base sp held fuel e [c] = some y → ∃ x, Rd (fun _ => none) W (A x) c)
   {c : Value} (hv : Cell.okWide P W r b0 u c) {fuel : Nat} {y : DataW H × List MemPlace} (h : DataW.trod enc P W base sp held fuel u [c] = some y) : ∃ l : List α, Rd (fun _ => none) W (.sl l.length (l.map A)) c := by
 rcases DataW.trod_slice hu h with ⟨h0, -⟩ | ⟨a, len, cap, elems, rest, n, -, h0, -, -, hl, hm, hlen, hel, -⟩
 · obtain rfl := (List.cons.inj h0).1
   exact ⟨[], .slnil⟩
 · obtain rfl := (List.cons.inj h0).1
   have hspot : a.spot = none := by
     simp only [Cell.okWide, hu, Cell.ok] at hv
     exact hv.2.2.2.1
   obtain ⟨b, off, spot⟩ := a
   simp only at hspot
   subst hspot
   have hadd : ∀ i, (⟨b, off, none⟩ : Addr).add i = ⟨b, off + i, none⟩ := fun i => by unfold Addr.add; split <;> simp_all
   obtain ⟨l, h1, h2⟩ := kS (fun i x => ∃ v, W.cell? ⟨b, off + i, none⟩ = some v ∧ Rd (fun _ => none) W (A x) v) len (fun i hi => by
     have hE := hel i hi
     rw [List.getElem?_eq_getElem (by omega)] at hE
     obtain ⟨c1, hc1, hy1⟩ := Option.bind_eq_some_iff.1 hE
     obtain ⟨-, h4, h5⟩ := World.cells?_some hc1
     rw [hc] at h4 h5
     match c1, h4 with
     | [v], _ =>
       have h6 := h5 0 (by omega)
       rw [Nat.mul_one, hadd] at h6
       have e0 : (⟨b, off + i, none⟩ : Addr).add 0 = ⟨b, off + i, none⟩ := by simp [Addr.add]
       rw [e0] at h6
       obtain ⟨x, hx⟩ := he n v _ hy1
       exact ⟨x, v, by simpa using h6, hx⟩)
   refine ⟨l, ?_⟩
   rw [h1]
   have h3 : ∀ i (hi : i < l.length), ∃ v, W.cell? ⟨b, off + i, none⟩ = some v ∧ Rd (fun _ => none) W (A l[i]) v := fun i hi => h2 i l[i] (List.getElem?_eq_getElem hi)
   refine .sl len _ b off cap (fun i => (W.cell? ⟨b, off + i, none⟩).getD undef) (fun _ => rfl) hl hm (fun i hi => ?_) (fun i hi => ?_)
   · obtain ⟨v, k1, -⟩ := h3 i (by simpa using hi)
     rw [k1]; rfl
   · have hi' : i < l.length := by simpa using hi
     obtain ⟨v, k1, k2⟩ := h3 i hi'
     rw [k1]
     simpa [List.getD_eq_getElem?_getD, hi'] using k2
theorem cell_bytes {u e : TypeId} (hu : P.underlying u = some (.slice e)) (he : P.underlying e = some (.int .u8)) (hc : P.cellsOf e = 1) {c : Value} (hv : Cell.okWide P W r b0 u c) {fuel : Nat} {y : DataW H × List MemPlace} (h : DataW.trod enc P W base sp held fuel u [c] = some y) : ∃ l : List UInt8, Rd (fun _ => none) W (bv l) c :=
 cell_row (A := bAV) hu hc (fun fuel c y h => by
   obtain ⟨n, h1, -, h2⟩ := DataW.trod_int he h
   obtain rfl := (List.cons.inj h1).1
   have h3 : 0 ≤ n ∧ n ≤ 255 := by simpa [Lit.wf, IntKind.min, IntKind.max, IntKind.signed, IntKind.bits] using h2
   refine ⟨b8 n, ?_⟩
   rw [qT, IntKind.wrap_u8, Int.emod_eq_of_lt (by omega) (by omega)]
   exact .int _ _) hv h
theorem cell_ints {u e : TypeId} (hu : P.underlying u = some (.slice e)) (he : P.underlying e = some (.int .i64)) (hc : P.cellsOf e = 1) {c : Value} (hv : Cell.okWide P W r b0 u c) {fuel : Nat} {y : DataW H × List MemPlace} (h : DataW.trod enc P W base sp held fuel u [c] = some y) : ∃ l : List Int, Rd (fun _ => none) W (iv l) c :=
 cell_row (A := iAV) hu hc (fun fuel c y h => by
   obtain ⟨n, h1, -, -⟩ := DataW.trod_int he h
   obtain rfl := (List.cons.inj h1).1
   exact ⟨n, .int _ _⟩) hv h
theorem cell_int {u : TypeId} (hu : P.underlying u = some (.int .i64)) {c : Value} {fuel : Nat} {y : DataW H × List MemPlace} (h : DataW.trod enc P W base sp held fuel u [c] = some y) : ∃ n : Int, Rd (fun _ => none) W (iAV n) c := by
 obtain ⟨n, h1, -, -⟩ := DataW.trod_int hu h
 obtain rfl := (List.cons.inj h1).1
 exact ⟨n, .int _ _⟩
theorem agg_cells {t : TypeId} {fs : Array Field} {ts : List TypeId} (ht : P.underlying t = some (.struct fs)) (hts : P.cellTypes P.depth t = some ts) (hn : P.cellsOf t = ts.length) {v : Value} (hv : Value.okWide P W r b0 t v) :
   ∃ cs : List Value, v = .agg cs.toArray ∧ cs.length = ts.length ∧ ∀ (i : Nat) (u : TypeId) (c : Value), ts[i]? = some u → cs[i]? = some c → Cell.okWide P W r b0 u c := by
 unfold Value.okWide at hv
 rw [ht] at hv
 obtain ⟨⟨cs⟩, rfl, h1, ts', h2, h3, h4⟩ := hv
 obtain rfl := Option.some.inj (hts.symm.trans h2)
 have h1 : cs.length = ts.length := by rw [← hn]; simpa using h1
 refine ⟨cs, rfl, h1, fun i u c hu hc => ?_⟩
 obtain ⟨u', k1, k2⟩ := h4 i c (by simpa using hc)
 have hi : i < ts.length := by rw [← h1]; exact (List.getElem?_eq_some_iff.1 hc).1
 rw [Nat.mod_eq_of_lt hi, hu] at k1
 obtain rfl := Option.some.inj k1
 exact k2
theorem vu {t : TypeId} {fs : Array Field} (ht : P.underlying t = some (.struct fs)) {fuel : Nat} {cs : List Value} {y : DataW H × List MemPlace} (h : DataW.trod enc P W base sp held fuel t cs = some y) :
   ∀ (i : Nat) (f : Field), fs[i]? = some f → ∃ n y', DataW.trod enc P W base sp held n f.type ((cs.drop f.offset).take (P.cellsOf f.type)) = some y' := by
 obtain ⟨xs, n, -, -, hl, hxl, hf⟩ := DataW.trod_struct ht h
 intro i f hfi
 have h1 := hf i f hfi
 have hi : i < xs.length := by rw [hxl]; exact (Array.getElem?_eq_some_iff.1 hfi).1
 rw [List.getElem?_eq_getElem hi] at h1
 exact ⟨n, _, h1⟩
theorem trod_field {t : TypeId} {fs : Array Field} (ht : P.underlying t = some (.struct fs)) {fuel : Nat} {cs : List Value} {y : DataW H × List MemPlace} (h : DataW.trod enc P W base sp held fuel t cs = some y) (i k : Nat) (f : Field) (hf : fs[i]? = some f) (hk : P.cellsOf f.type = k) (cs' : List Value) (hc : (cs.drop f.offset).take k = cs') :
   ∃ n y', DataW.trod enc P W base sp held n f.type cs' = some y' := by
 subst hk hc
 exact vu ht h i f hf
end
section
variable {H : Type} {enc : TypeId × Value → H} {P : Program} {W : World} {base : Nat} {sp : Nat → Bool} {held : Bool} {b0 : Nat} {r : Reach} {v : Value} {d : DataW H} {p : List MemPlace}
theorem arg_bytes {u e : TypeId} (hu : P.underlying u = some (.slice e)) (he : P.underlying e = some (.int .u8)) (hc : P.cellsOf e = 1) (hv : Value.okWide P W r b0 u v) (h : DataW.Trod enc P W base sp held u v d p) : ∃ l : List UInt8, Rd (fun _ => none) W (bv l) v := by
 obtain ⟨a, len, cap, rfl⟩ := okWide_slice hu hv
 obtain ⟨fuel, hf⟩ := h
 have hv : Cell.okWide P W r b0 u (.slice a len cap) := by simpa only [Value.okWide, hu] using hv
 exact cell_bytes hu he hc hv hf
theorem arg_ints {u e : TypeId} (hu : P.underlying u = some (.slice e)) (he : P.underlying e = some (.int .i64)) (hc : P.cellsOf e = 1) (hv : Value.okWide P W r b0 u v) (h : DataW.Trod enc P W base sp held u v d p) : ∃ l : List Int, Rd (fun _ => none) W (iv l) v := by
 obtain ⟨a, len, cap, rfl⟩ := okWide_slice hu hv
 obtain ⟨fuel, hf⟩ := h
 have hv : Cell.okWide P W r b0 u (.slice a len cap) := by simpa only [Value.okWide, hu] using hv
 exact cell_ints hu he hc hv hf
theorem arg_int {u : TypeId} (hu : P.underlying u = some (.int .i64)) (hv : Value.okWide P W r b0 u v) (h : DataW.Trod enc P W base sp held u v d p) : ∃ n : Int, Rd (fun _ => none) W (iAV n) v := by
 obtain ⟨n, rfl, -⟩ := open_int hu hv h
 exact ⟨n, .int _ _⟩
end
open Go.ChangeShapes Go.WideShapes Go.ChangeAt Go.RowKit Go.MapKept
theorem gPoly : Tryz.prog.globalNamed "radiolink/check.polynomials" = some 0 := by kernel_rfl
theorem tPoly : (Tryz.prog.globals[0]?).map (·.type) = some 165 := by kernel_rfl
set_option maxRecDepth 100000 in
theorem key_int {v : Value} {y : Go.Lit} (h : keyOf Tryz.prog 3 v = some y) : ∃ m : Int, v = .int .i64 m ∧ y = .int .i64 m := by
 unfold keyOf mapKey at h
 rw [Tryz.underlying3] at h
 cases v with
 | int q m =>
   simp only at h
   split at h
   · rename_i hq
     obtain ⟨rfl, -⟩ := hq
     exact ⟨m, rfl, (Option.some.inj h).symm⟩
   · cases h
 | _ => cases h
set_option maxRecDepth 100000 in
theorem val_int {H : Type} {enc : TypeId × Value → H} {W : World} {n : Nat} {v : Value} {z : DataW H × List MemPlace} (h : WideElems.elemAt enc Tryz.prog W 0 (fun _ => true) false n 3 v = some z) : ∃ m : Int, v = .int .i64 m ∧ z.1 = .lit (.int .i64 m) := by
 unfold WideElems.elemAt at h
 split at h
 · rename_i hf
   obtain ⟨d, p⟩ := z
   obtain ⟨i, h2, h3, -⟩ := DataW.trod_int Tryz.underlying3 h
   refine ⟨i, ?_, congrArg Prod.fst h3⟩
   cases v with
   | agg cs =>
     unfold Value.formed at hf
     rw [Tryz.underlying3] at hf
     cases hf
   | int q m =>
     have h4 : [Value.int q m] = [.int .i64 i] := h2
     injection h4
   | _ => cases h2
 · cases h
theorem poly_in {n v : Int} : kL n = some v ↔ (n, v) ∈ [((3 : Int), (3 : Int)), (7, 9), (8, 7), (16, 4129), (24, 8801531)] := by
 unfold kL
 simp only [List.mem_cons, Prod.mk.injEq, List.not_mem_nil, or_false]
 constructor
 · intro h
   (repeat' split at h) <;> first | (cases h; omega) | cases h
 · intro h
   rcases h with ⟨rfl, rfl⟩ | ⟨rfl, rfl⟩ | ⟨rfl, rfl⟩ | ⟨rfl, rfl⟩ | ⟨rfl, rfl⟩ <;> rfl
set_option maxRecDepth 100000 in
theorem yb {W : World} (h : laidMetH Tryz.prog [("radiolink/check.polynomials", Rows.laid_radiolink_check_polynomials)] W) : Glob gm (fun _ => none) W := by
 rw [MakeChecks.laidMetH_plain _ _ _ (by kernel_rfl)] at h
 obtain ⟨ps, ⟨g0, t0, cs0, f0, p0, q0, hg0, ht0, hv0, hd0, -, -⟩, -, -⟩ := h
 obtain rfl := Option.some.inj (gPoly.symm.trans hg0)
 obtain rfl := Option.some.inj (tPoly.symm.trans ht0)
 rcases WideElems.open_map Tryz.underlying165 hd0 with ⟨h1, h2⟩ | ⟨b, es, clock, n, rfl, hcs, hb, -, hF, hx⟩
 · cases h2
 · have hx1 := (congrArg Prod.fst hx)
   have hx2 : ([(.int .i64 3, .lit (.int .i64 3)), (.int .i64 7, .lit (.int .i64 9)), (.int .i64 8, .lit (.int .i64 7)), (.int .i64 16, .lit (.int .i64 4129)), (.int .i64 24, .lit (.int .i64 8801531))] : List (Go.Lit × DataW Unit)) = _ := DataW.map.inj hx1
   have hperm := sorted_perm (es.toList.map (WideElems.rg Tryz.prog 3 (WideElems.elemAt (fun _ => ()) Tryz.prog W 0 (fun _ => true) false n 3)))
   rw [← hx2] at hperm
   have key : ∀ x ∈ es.toList, ∃ m z, x.key = .int .i64 m ∧ x.val = .int .i64 z ∧ WideElems.rg Tryz.prog 3 (WideElems.elemAt (fun _ => ()) Tryz.prog W 0 (fun _ => true) false n 3) x = (.int .i64 m, .lit (.int .i64 z)) := fun x hxm => by
     obtain ⟨y, hy⟩ := hF.reads x hxm
     obtain ⟨m, k1, k2⟩ := key_int (WideElems.rd_key hy)
     obtain ⟨u, k3, k4⟩ := WideElems.rd_val hy
     obtain ⟨z, k5, k6⟩ := val_int k3
     refine ⟨m, z, k1, k5, ?_⟩
     rw [WideElems.rg_of hy]
     exact Prod.ext k2 (k4.trans k6)
   have in1 : ∀ x ∈ es.toList, ∀ m z, x.key = .int .i64 m → x.val = .int .i64 z → kL m = some z := fun x hxm m z e1 e2 => by
     obtain ⟨m', z', k1, k2, k3⟩ := key x hxm
     rw [k1] at e1; rw [k2] at e2
     cases e1; cases e2
     have : ((Go.Lit.int .i64 m, DataW.lit (Go.Lit.int .i64 z)) : Go.Lit × DataW Unit) ∈ es.toList.map (WideElems.rg Tryz.prog 3 (WideElems.elemAt (fun _ => ()) Tryz.prog W 0 (fun _ => true) false n 3)) := List.mem_map.2 ⟨x, hxm, k3⟩
     have := hperm.mem_iff.2 this
     rw [poly_in]
     simp only [List.mem_cons, Prod.mk.injEq, Go.Lit.int.injEq, DataW.lit.injEq, List.not_mem_nil, or_false, true_and] at this ⊢
     exact this
   have in2 : ∀ m z, kL m = some z → ∃ x ∈ es.toList, x.key = .int .i64 m := fun m z e => by
     have h3 : ((Go.Lit.int .i64 m, DataW.lit (Go.Lit.int .i64 z)) : Go.Lit × DataW Unit) ∈ ([(.int .i64 3, .lit (.int .i64 3)), (.int .i64 7, .lit (.int .i64 9)), (.int .i64 8, .lit (.int .i64 7)), (.int .i64 16, .lit (.int .i64 4129)), (.int .i64 24, .lit (.int .i64 8801531))] : List (Go.Lit × DataW Unit)) := by
       rw [poly_in] at e
       simp only [List.mem_cons, Prod.mk.injEq, Go.Lit.int.injEq, DataW.lit.injEq, List.not_mem_nil, or_false, true_and] at e ⊢
       exact e
     obtain ⟨x, hxm, k⟩ := List.mem_map.1 (hperm.mem_iff.1 h3)
     obtain ⟨m', z', k1, k2, k3⟩ := key x hxm
     rw [k3] at k
     refine ⟨x, hxm, ?_⟩
     rw [k1]
     have := congrArg Prod.fst k
     cases this
     rfl
   intro g
   by_cases hg : g = 0
   · subst hg
     show Rd _ W (.ip [.mp kL]) _
     refine .ip _ _ 0 (fun _ => .map (some b)) (fun _ => rfl) (fun i hi => ?_) (fun i hi => ?_)
     · obtain rfl : i = 0 := by have : i < 1 := hi; omega
       have h2 := World.var?_cell hg0 hv0 0
       rw [Nat.zero_add]
       rw [h2]
       have h5 := congrArg (·[0]?) hcs
       simpa using h5
     · obtain rfl : i = 0 := by have : i < 1 := hi; omega
       refine .mp kL b es clock rfl hb fun m => ?_
       rcases findNow_spec (d := .int .i64) (k := .int .i64 m) rfl es.toList 0 (fun x hxm => by obtain ⟨m', z', k1, -, -⟩ := key x hxm; rw [k1]; rfl) with ⟨h1, h2⟩ | ⟨j, e, h1, h2, h3⟩
       · refine .inr ⟨?_, h1⟩
         cases hp : kL m with
         | none => rfl
         | some z =>
           obtain ⟨x, hxm, k⟩ := in2 m z hp
           exact absurd k (h2 x hxm)
       · have hem : e ∈ es.toList := List.mem_of_getElem? h2
         obtain ⟨m', z', k1, k2, -⟩ := key e hem
         refine .inl ⟨0 + j, z', in1 e hem m z' h3 k2, ?_⟩
         rw [h1, k2]
   · have : gm g = .any := by
       unfold gm
       split
       · rename_i hb
         exact absurd (Nat.eq_of_beq_eq_true hb) hg
       · rfl
     rw [this]
     exact .any _
theorem yA (os : Os) (args : Array Value) : laidMetH Tryz.prog [("radiolink/check.polynomials", Rows.laid_radiolink_check_polynomials)] ((World.doorLaid Tryz.prog 400 os).forCall (fun _ _ => 0) ⟨#[], args, []⟩).memory :=
 laidMetH_of_parts3 (fuel := 8) (laidMet_of_run' 8 (by kernel_rfl) (by kernel_rfl)) (by kernel_rfl) (by kernel_rfl)
open Go.ChangeShapes Go.WideShapes Go.ChangeAt Go.RowKit
def sum2 : List (TypeId × Nat) → Nat
 | [] => 0
 | x :: l => x.2 + sum2 l
def offs : List (TypeId × Nat) → Nat → List (TypeId × Nat)
 | [], _ => []
 | x :: l, o => (x.1, o) :: offs l (o + x.2)
section
variable {H : Type} {enc : TypeId × Value → H} {P : Program} {W : World} {base : Nat} {sp : Nat → Bool} {held : Bool} {b0 : Nat} {r : Reach}
def IntT (enc : TypeId × Value → H) (P : Program) (W : World) (base : Nat) (sp : Nat → Bool) (held : Bool) (x : TypeId × Nat) : Prop :=
 P.cellsOf x.1 = x.2 ∧ ∀ (fuel : Nat) (cs : List Value) (y : DataW H × List MemPlace), DataW.trod enc P W base sp held fuel x.1 cs = some y → ∃ ns : List Int, ns.length = x.2 ∧ cs = ns.map fun z => Value.int .i64 z
theorem IntT.int {t : TypeId} (hu : P.underlying t = some (.int .i64)) (hc : P.cellsOf t = 1) : IntT enc P W base sp held (t, 1) := by
 refine ⟨hc, fun fuel cs y h => ?_⟩
 obtain ⟨n, h1, -, -⟩ := DataW.trod_int hu h
 exact ⟨[n], rfl, h1⟩
theorem IntT.fields {t : TypeId} {fs : Array Field} (ht : P.underlying t = some (.struct fs)) {fuel : Nat} {cs : List Value} {y : DataW H × List MemPlace} (h : DataW.trod enc P W base sp held fuel t cs = some y) : ∀ (L : List (TypeId × Nat)) (i o : Nat),
   (∀ x ∈ L, IntT enc P W base sp held x) → (fs.toList.drop i).map (fun f => (f.type, f.offset)) = offs L o → o + sum2 L = cs.length → ∃ ns : List Int, ns.length = sum2 L ∧ cs.drop o = ns.map fun z => Value.int .i64 z
 | [], i, o, _, _, hs => ⟨[], rfl, by rw [List.drop_eq_nil_of_le (by simp [sum2] at hs; omega)]; rfl⟩
 | x :: L, i, o, hx, hf, hs => by
   have h0 : fs[i]? = (fs.toList.drop i)[0]? := by simp
   cases hd : fs.toList.drop i with
   | nil => rw [hd] at hf; cases hf
   | cons f l =>
     rw [hd] at hf h0
     simp only [offs, List.map_cons, List.cons.injEq, Prod.mk.injEq] at hf
     obtain ⟨⟨h1, h2⟩, h3⟩ := hf
     obtain ⟨n, y', h4⟩ := vu ht h i f (by rw [h0]; rfl)
     obtain ⟨k2, k1⟩ := hx x (List.mem_cons_self ..)
     rw [h1, h2, k2] at h4
     obtain ⟨ns, h5, h6⟩ := k1 n _ _ h4
     obtain ⟨ms, h7, h8⟩ := IntT.fields ht h L (i + 1) (o + x.2) (fun z hz => hx z (List.mem_cons_of_mem _ hz)) (by
       have e : fs.toList.drop (i + 1) = l := by rw [← List.drop_drop, hd]; rfl
       rw [e, h3]) (by rw [← hs]; show _ = o + (x.2 + sum2 L); omega)
     refine ⟨ns ++ ms, by rw [List.length_append, h5, h7]; rfl, ?_⟩
     rw [List.map_append, ← h6, ← h8, ← List.drop_drop, List.take_append_drop]
theorem IntT.struct {t : TypeId} {n : Nat} {fs : Array Field} (ht : P.underlying t = some (.struct fs)) (hc : P.cellsOf t = n) (L : List (TypeId × Nat)) (hx : ∀ x ∈ L, IntT enc P W base sp held x) (hf : fs.toList.map (fun f => (f.type, f.offset)) = offs L 0) (hn : sum2 L = n) : IntT enc P W base sp held (t, n) := by
 refine ⟨hc, fun fuel cs y h => ?_⟩
 obtain ⟨xs, m, -, -, hl, -, -⟩ := DataW.trod_struct ht h
 obtain ⟨ns, h1, h2⟩ := IntT.fields ht h L 0 0 hx hf (by rw [hl, hc, hn, Nat.zero_add])
 exact ⟨ns, by rw [h1]; exact hn, h2⟩
theorem RdL.ints {ns : List Int} : RdL (fun _ => none) W (ns.map iAV) (ns.map fun z => Value.int .i64 z).toArray := by
 refine ⟨by simp, fun i hi => ?_⟩
 have hi' : i < ns.length := by simpa using hi
 have e1 : (ns.map iAV).getD i .any = iAV ns[i] := by rw [List.getD_eq_getElem?_getD, List.getElem?_map, List.getElem?_eq_getElem hi']; rfl
 have e2 : ((ns.map fun z => Value.int .i64 z).toArray).getD i undef = .int .i64 ns[i] := by simp [Array.getD, hi']
 rw [e1, e2]
 exact .int _ _
theorem fm_get {α : Type} {A : α → List AV} {n : Nat} (hA : ∀ x, (A x).length = n) : ∀ (l : List α) (i j : Nat) (x : α), l[i]? = some x → j < n → (l.flatMap A)[i * n + j]? = (A x)[j]?
 | [], i, j, x, h, _ => by simp at h
 | y :: l, i, j, x, h, hj => by
   rw [List.flatMap_cons]
   cases i with
   | zero =>
     obtain rfl : y = x := by simpa using h
     rw [Nat.zero_mul, Nat.zero_add, List.getElem?_append_left (by rw [hA]; exact hj)]
   | succ i =>
     rw [List.getElem?_append_right (by rw [hA, Nat.add_mul]; omega), hA, show (i + 1) * n + j - n = i * n + j by rw [Nat.add_mul]; omega]
     exact fm_get hA l i j x (by simpa using h) hj
theorem rec_row {α : Type} {A : α → List AV} {n : Nat} (hn : 0 < n) (hA : ∀ x, (A x).length = n) {u e : TypeId} (hu : P.underlying u = some (.slice e)) (hc : P.cellsOf e = n) (he : ∀ (fuel : Nat) (cs : List Value) (y : DataW H × List MemPlace), DataW.trod enc P W base sp held fuel e cs = some y → ∃ x, RdL (fun _ => none) W (A x) cs.toArray)
   {c : Value} (hv : Cell.okWide P W r b0 u c) {fuel : Nat} {y : DataW H × List MemPlace} (h : DataW.trod enc P W base sp held fuel u [c] = some y) : ∃ l : List α, Rd (fun _ => none) W (.sl l.length (l.flatMap A)) c := by
 rcases DataW.trod_slice hu h with ⟨h0, -⟩ | ⟨a, len, cap, elems, rest, m, -, h0, -, -, hl, hm, hlen, hel, -⟩
 · obtain rfl := (List.cons.inj h0).1
   exact ⟨[], .slnil⟩
 · obtain rfl := (List.cons.inj h0).1
   have hspot : a.spot = none := by
     simp only [Cell.okWide, hu, Cell.ok] at hv
     exact hv.2.2.2.1
   obtain ⟨b, off, spot⟩ := a
   simp only at hspot
   subst hspot
   have hadd : ∀ o i, (⟨b, o, none⟩ : Addr).add i = ⟨b, o + i, none⟩ := fun o i => by unfold Addr.add; split <;> simp_all
   obtain ⟨l, h1, h2⟩ := kS (fun i x => ∀ j, j < n → ∃ v, W.cell? ⟨b, off + (i * n + j), none⟩ = some v ∧ Rd (fun _ => none) W ((A x).getD j .any) v) len (fun i hi => by
     have hE := hel i hi
     rw [List.getElem?_eq_getElem (by omega)] at hE
     obtain ⟨c1, hc1, hy1⟩ := Option.bind_eq_some_iff.1 hE
     obtain ⟨-, h4, h5⟩ := World.cells?_some hc1
     rw [hc] at h4 h5
     obtain ⟨x, hx⟩ := he m c1 _ hy1
     refine ⟨x, fun j hj => ⟨c1.toArray.getD j undef, ?_, hx.2 j (by rw [hA]; exact hj)⟩⟩
     have h6 := h5 j hj
     rw [hadd, hadd, Nat.add_assoc] at h6
     rw [h6, List.getElem?_eq_getElem (by omega)]
     simp [Array.getD, h4, hj])
   refine ⟨l, ?_⟩
   have key : ∀ k, k < (l.flatMap A).length → ∃ v, W.cell? ⟨b, off + k, none⟩ = some v ∧ Rd (fun _ => none) W ((l.flatMap A).getD k .any) v := fun k hk => by
     rw [qy hA] at hk
     have hi : k / n < l.length := Nat.div_lt_of_lt_mul (by rw [Nat.mul_comm]; exact hk)
     obtain ⟨v, k1, k2⟩ := h2 (k / n) _ (List.getElem?_eq_getElem hi) (k % n) (Nat.mod_lt _ hn)
     have e : k / n * n + k % n = k := by rw [Nat.mul_comm]; exact Nat.div_add_mod k n
     have h7 := fm_get hA l (k / n) (k % n) _ (List.getElem?_eq_getElem hi) (Nat.mod_lt _ hn)
     rw [e] at k1 h7
     refine ⟨v, k1, ?_⟩
     rw [List.getD_eq_getElem?_getD, h7, ← List.getD_eq_getElem?_getD]
     exact k2
   rw [h1]
   refine .sl len _ b off cap (fun k => (W.cell? ⟨b, off + k, none⟩).getD undef) (fun _ => rfl) hl hm (fun k hk => ?_) (fun k hk => ?_)
   · obtain ⟨v, k1, -⟩ := key k hk
     rw [k1]; rfl
   · obtain ⟨v, k1, k2⟩ := key k hk
     rw [k1]
     exact k2
theorem IntT.rdl {t : TypeId} {n : Nat} (h : IntT enc P W base sp held (t, n)) {α : Type} {A : α → List AV} (hA : ∀ ns : List Int, ns.length = n → ∃ x, A x = ns.map iAV) {fuel : Nat} {cs : List Value} {y : DataW H × List MemPlace} (hc : DataW.trod enc P W base sp held fuel t cs = some y) : ∃ x, RdL (fun _ => none) W (A x) cs.toArray := by
 obtain ⟨ns, h1, rfl⟩ := h.2 fuel cs y hc
 obtain ⟨x, hx⟩ := hA ns h1
 exact ⟨x, by rw [hx]; exact RdL.ints⟩
end
section
variable {H : Type} {enc : TypeId × Value → H} {W : World} {base : Nat} {sp : Nat → Bool} {held : Bool}
theorem yp : IntT enc Tryz.prog W base sp held (3, 1) := .int Tryz.underlying3 (by kernel_rfl)
theorem intT_hdr : IntT enc Tryz.prog W base sp held (65, 15) := .struct Tryz.underlying65 (by kernel_rfl) (List.replicate 15 (3, 1)) (fun x hx => by obtain rfl := List.eq_of_mem_replicate hx; exact yp) rfl rfl
theorem intT_dyn : IntT enc Tryz.prog W base sp held (56, 2) := .struct Tryz.underlying56 (by kernel_rfl) (List.replicate 2 (3, 1)) (fun x hx => by obtain rfl := List.eq_of_mem_replicate hx; exact yp) rfl rfl
end
end Go.Proofs.YtkfpgdckdmlhkaaGreatDoor
