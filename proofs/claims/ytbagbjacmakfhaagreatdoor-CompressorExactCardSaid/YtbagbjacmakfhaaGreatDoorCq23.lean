/-
  Contracts of the functions that the laws reach.
-/
import Derived.Test.YtbagbjacmakfhaaGreatDoorCq01
import Derived.Test.YtbagbjacmakfhaaGreatDoorCq02
import Derived.Test.YtbagbjacmakfhaaGreatDoorCq03
import Derived.Test.YtbagbjacmakfhaaGreatDoorCq04
import Derived.Test.YtbagbjacmakfhaaGreatDoorCq05
import Derived.Test.YtbagbjacmakfhaaGreatDoorCq06
import Derived.Test.YtbagbjacmakfhaaGreatDoorCq08
import Derived.Test.YtbagbjacmakfhaaGreatDoorCq09
import Derived.Test.YtbagbjacmakfhaaGreatDoorCq10
import Derived.Test.YtbagbjacmakfhaaGreatDoorCq12
import Derived.Test.YtbagbjacmakfhaaGreatDoorCq13
import Derived.Test.YtbagbjacmakfhaaGreatDoorCq14
import Derived.Test.YtbagbjacmakfhaaGreatDoorCq15
import Derived.Test.YtbagbjacmakfhaaGreatDoorCq16
import Derived.Test.YtbagbjacmakfhaaGreatDoorCq17
import Derived.Test.YtbagbjacmakfhaaGreatDoorCq18
import Derived.Test.YtbagbjacmakfhaaGreatDoorCq22
set_option maxHeartbeats 8000000
set_option linter.all false
namespace Go.Proofs.YtbagbjacmakfhaaGreatDoor
open Go.RowKit
variable {G : Nat → AV}
theorem vf (a b : Hd) : LP Tryz.prog G 40 [a.av, b.av] [] (fun _ => (.bool (qt a b), [])) := by
 refine goW [] Tryz.func40 rfl ?_
 conv => whnf
 repeat' ((first | exact Nm.b 0 | (show LC _ _ _ _ _ _; first | refine LC.pure (fstatic_c _) ?_ | refine goE ?_) | refine T.s ?_ | ((first | apply goB | apply AB.dec | apply AB.gen) <;> intro h <;> try (exfalso; omega)) | refine LQ.mk fun r => ?_ | (show SQ _ _ _ _ _ _ _; first | refine gX 1 [2, 1] [0, 2, 1, 3, 4, 5] [] ?_) | exact T.z | fail) <;> conv => whnf)
 all_goals (try dsimp only)
 all_goals
   (show RL _ _ _; refine goR ?_)
   refine congrArg AV.bool ?_
   rw [Bool.eq_iff_iff]
   simp [qt, qJ, Hd.static]
theorem fchg_c (a b : Hd) : LP Tryz.prog G 99 [a.av, b.av] [] (fun _ => (iAV (xN a b), [])) := by
 refine goW [] Tryz.func99 rfl ?_
 conv => whnf
 repeat' ((first | refine T.s ?_ | ((first | apply goB | apply AB.dec | apply AB.gen) <;> intro h <;> try (exfalso; omega)) | refine LQ.mk fun r => ?_ | (show SQ _ _ _ _ _ _ _; first | refine SQ.times 3 6 (by rfl) ?_ | refine AtL.step tQ [] ?_) | exact T.z | fail) <;> conv => whnf)
 all_goals (try dsimp only)
 all_goals
   (show RL _ _ _; refine goR ?_)
   unfold xN
   (repeat first | rw [if_pos (by first | assumption | omega)] | rw [if_neg (by first | assumption | omega)])
   rfl
open Go.RowKit
variable {G : Nat → AV}
theorem any_idx {α : Type} (l : List α) (P : α → Bool) : decide (0 ≤ wF (l.findIdx? P)) = l.any P := by
 cases h : l.findIdx? P with
 | none =>
   have : l.any P = false := by
     rw [List.findIdx?_eq_none_iff] at h
     rw [Bool.eq_false_iff]
     intro hh
     obtain ⟨x, hx, hb⟩ := List.any_eq_true.1 hh
     rw [h x hx] at hb
     cases hb
   rw [this]; rfl
 | some j =>
   have : l.any P = true := by
     rw [List.findIdx?_eq_some_iff_getElem] at h
     obtain ⟨h1, h2, -⟩ := h
     exact List.any_eq_true.2 ⟨_, List.getElem_mem h1, h2⟩
   rw [this]
   simp [wF]
theorem cbnd_c (x m : Int) : LP Tryz.prog G 73 [iAV x, iAV m] [] (fun _ => (.bool (inR x m), [])) := by
 refine goW [] Tryz.func73 rfl ?_
 conv => whnf
 repeat' ((first | refine T.s ?_ | ((first | apply goB | apply AB.dec | apply AB.gen) <;> intro h <;> try (exfalso; omega)) | refine LQ.mk fun r => ?_ | exact T.z | fail) <;> conv => whnf)
 all_goals (try dsimp only)
 all_goals
   (show RL _ _ _; refine goR ?_)
   simp [inR, qo, *]
theorem cshap_c (m w : Int) : LP Tryz.prog G 37 [iAV m, iAV w] [] (fun _ => (.bool (zJ m w), [])) := by
 refine goW [] Tryz.func37 rfl ?_
 conv => whnf
 repeat' ((first | refine T.s ?_ | ((first | apply goB | apply AB.dec | apply AB.gen) <;> intro h <;> try (exfalso; omega)) | refine LQ.mk fun r => ?_ | exact T.z | fail) <;> conv => whnf)
 all_goals (try dsimp only)
 all_goals
   (show RL _ _ _; refine goR ?_)
   unfold zJ
   simp [qo, *]
theorem cnewc_c (m w : Int) : LP Tryz.prog G 23 [iAV m, iAV w] [] (fun _ => (.tup [(wX m w).1.av, iAV (wX m w).2], [])) := by
 have hs := cshap_c (G := G) m w
 by_cases h : 1 ≤ m ∧ m ≤ 3 ∧ 1 ≤ w ∧ w ≤ 8
 · rw [wi h]
   rw [show zJ m w = true from decide_eq_true h] at hs
   refine goW [] Tryz.func23 rfl ?_
   conv => whnf
   repeat' ((first | (show LC _ _ _ _ _ _; first | refine LC.pure (hs) ?_ | refine goE ?_) | (show AQ _ _; first | (refine AQ.eq (cs' := (List.replicate 16 ()).flatMap fun _ => zsn) rfl ?_)) | refine T.s ?_ | ((first | apply goB | apply AB.dec | apply AB.gen) <;> intro h <;> try (exfalso; omega)) | refine LQ.mk fun r => ?_ | exact T.z | fail) <;> conv => whnf)
   all_goals (try dsimp only)
   all_goals
     refine RL.frz [r] (LF.tup (xs := [.agg [.int .i64 m, .int .i64 w, .vw r 0 16 9], .int .i64 0]) (ys := [Co.av ⟨m, w, List.replicate 16 Sn.z⟩, iAV 0]) ⟨LF.agg (xs := [.int .i64 m, .int .i64 w, .vw r 0 16 9]) (ys := [iAV m, iAV w, snv (List.replicate 16 Sn.z)]) ⟨LF.eq rfl, LF.eq rfl, LF.rowN InL.here ?_, trivial⟩, LF.eq rfl, trivial⟩) ?_
     · (repeat first | refine goH ?_ | apply LH.here | apply LH.next)
       exact ⟨by decide, by kernel_rfl, by simp, by
         rw [show (List.replicate 16 Sn.z).flatMap Sn.cs = (List.replicate 16 ()).flatMap fun _ => Sn.z.cs by kernel_rfl]
         exact LFs.fm (fun _ => zsn_f) _⟩
     · (repeat first | refine goH ?_ | apply LH.here | apply LH.next)
       exact LB.nil
 · rw [shapR_f h]
   rw [show zJ m w = false from decide_eq_false h] at hs
   refine goW [] Tryz.func23 rfl ?_
   conv => whnf
   repeat' ((first | (show LC _ _ _ _ _ _; first | refine LC.pure (hs) ?_ | refine goE ?_) | refine T.s ?_ | ((first | apply goB | apply AB.dec | apply AB.gen) <;> intro h <;> try (exfalso; omega)) | refine LQ.mk fun r => ?_ | exact T.z | fail) <;> conv => whnf)
   all_goals (try dsimp only)
   all_goals exact RL.coz
theorem hidx_c {P : Hd → Bool} (F : Nat) (p : Nm) (pl : Pl) (hp : ∀ h : Hd, LP Tryz.prog G F [h.av, .ptr p 0] [(p, pl)] (fun _ => (.bool (P h), [(p, pl)]))) (l : List Hd) (hl : l.length ≤ 100000) : LP Tryz.prog G 123 [hdv l, .clo (.func F) [] [.ptr p 0]] [(p, pl)] (fun _ => (iAV (wF (l.findIdx? P)), [(p, pl)])) := by
 refine goW [] Tryz.func123 rfl ?_
 conv => whnf
 repeat' ((first | (refine And.intro ?_ ?_; (focus (first | exact zx Hd.cs_len (by assumption) | exact T.kx | exact T.side))) | (show LC _ _ _ _ _ _; first | (apply LC.upd (hp (l.getD i Hd.z)); (repeat first | refine goH ?_ | apply LH.here | apply LH.next); refine ⟨rfl, ?_⟩) | refine goE ?_) | (show AC _ _ _; first | (refine AC.recd Hd.cs_len i Hd.z rfl rfl ?_ ?_; (focus omega))) | refine T.s ?_ | ((first | apply goB | apply AB.dec | apply AB.gen) <;> intro h <;> try (exfalso; omega)) | refine LQ.mk fun r => ?_ | (show SQ _ _ _ (.loop _) _ _ _; first | (apply goO tQ [] 2 (S := Nat) [0, 1, 7] (fun i => ⟨[(8, .int .i64 i)], [(p, pl)], i ≤ l.length ∧ (l.take i).findIdx? P = none, l.length - i⟩) (0) (by rfl); (focus (all_goals (try exact K7E1); done)); rintro i ⟨hk, hok⟩)) | (show AtL _ _ _ _ _ _ _ _ _ _; first | (apply AtL.mk' (id := 2) (S := Nat) (i + 1); all_goals (try exact K7E1); done) | (apply AtL.mk' (id := 2) (S := Nat) (i + 1); all_goals (try exact K7E1))) | exact T.z | fail) <;> conv => whnf)
 all_goals (try dsimp only)
 all_goals first
   | ((show RL _ _ _; refine goR ?_); rw [vO l i Hd.z (by omega) hok (by assumption)]; rfl)
   | ((show RL _ _ _; refine goR ?_); rw [gidx_e (by omega) hok]; rfl)
   | trace_state
theorem hcont_c {P : Hd → Bool} (F : Nat) (p : Nm) (pl : Pl) (hp : ∀ h : Hd, LP Tryz.prog G F [h.av, .ptr p 0] [(p, pl)] (fun _ => (.bool (P h), [(p, pl)]))) (l : List Hd) (hl : l.length ≤ 100000) : LP Tryz.prog G 76 [hdv l, .clo (.func F) [] [.ptr p 0]] [(p, pl)] (fun _ => (.bool (l.any P), [(p, pl)])) := by
 have e := any_idx l P
 refine goW [] Tryz.func76 rfl ?_
 conv => whnf
 repeat' ((first | (show LC _ _ _ _ _ _; first | (apply LC.upd (hidx_c F p pl hp l hl); (repeat first | refine goH ?_ | apply LH.here | apply LH.next); refine ⟨rfl, ?_⟩) | refine goE ?_) | refine T.s ?_ | ((first | apply goB | apply AB.dec | apply AB.gen) <;> intro h <;> try (exfalso; omega)) | refine LQ.mk fun r => ?_ | exact T.z | fail) <;> conv => whnf)
 all_goals (try dsimp only)
 all_goals
   (show RL _ _ _; refine goR ?_)
   rw [← e]
   rfl
theorem sidx_c {P : Sn → Bool} (F : Nat) (p : Nm) (pl : Pl) (l : List Sn) (n : Nat) (hn : n = l.length) (hp : ∀ i : Nat, i < l.length → LP Tryz.prog G F [(l.getD i Sn.z).av, .ptr p 0] [(p, pl)] (fun _ => (.bool (P (l.getD i Sn.z)), [(p, pl)]))) (hl : l.length ≤ 100000) : LP Tryz.prog G 78 [.sl n (l.flatMap Sn.cs), .clo (.func F) [] [.ptr p 0]] [(p, pl)] (fun _ => (iAV (wF (l.findIdx? P)), [(p, pl)])) := by
 subst hn
 refine goW [] Tryz.func78 rfl ?_
 conv => whnf
 repeat' ((first | (refine And.intro ?_ ?_; (focus (first | exact zx Sn.cs_len (by assumption) | exact T.kx | exact T.side))) | (show LC _ _ _ _ _ _; first | (apply LC.upd (hp i (by omega)); (repeat first | refine goH ?_ | apply LH.here | apply LH.next); refine ⟨rfl, ?_⟩) | refine goE ?_) | (show AC _ _ _; first | (refine AC.recd Sn.cs_len i Sn.z rfl rfl ?_ ?_; (focus omega))) | refine T.s ?_ | ((first | apply goB | apply AB.dec | apply AB.gen) <;> intro h <;> try (exfalso; omega)) | refine LQ.mk fun r => ?_ | (show SQ _ _ _ (.loop _) _ _ _; first | (apply goO tQ [] 2 (S := Nat) [0, 1, 7] (fun i => ⟨[(8, .int .i64 i)], [(p, pl)], i ≤ l.length ∧ (l.take i).findIdx? P = none, l.length - i⟩) (0) (by rfl); (focus (all_goals (try exact KEA7); done)); rintro i ⟨hk, hok⟩)) | (show AtL _ _ _ _ _ _ _ _ _ _; first | (apply AtL.mk' (id := 2) (S := Nat) (i + 1); all_goals (try exact KEA7); done) | (apply AtL.mk' (id := 2) (S := Nat) (i + 1); all_goals (try exact KEA7))) | exact T.z | fail) <;> conv => whnf)
 all_goals (try dsimp only)
 all_goals first
   | ((show RL _ _ _; refine goR ?_); rw [vO l i Sn.z (by omega) hok (by assumption)]; rfl)
   | ((show RL _ _ _; refine goR ?_); rw [gidx_e (by omega) hok]; rfl)
   | trace_state
theorem sidx0_c {P : Sn → Bool} (F : Nat) (hp : ∀ s : Sn, LP Tryz.prog G F [s.av] [] (fun _ => (.bool (P s), []))) (l : List Sn) (n : Nat) (hn : n = l.length) (hl : l.length ≤ 100000) : LP Tryz.prog G 78 [.sl n (l.flatMap Sn.cs), .clo (.func F) [] []] [] (fun _ => (iAV (wF (l.findIdx? P)), [])) := by
 subst hn
 refine goW [] Tryz.func78 rfl ?_
 conv => whnf
 repeat' ((first | (refine And.intro ?_ ?_; (focus (first | exact zx Sn.cs_len (by assumption) | exact T.kx | exact T.side))) | (show LC _ _ _ _ _ _; first | refine LC.pure (hp (l.getD i Sn.z)) ?_ | refine goE ?_) | (show AC _ _ _; first | (refine AC.recd Sn.cs_len i Sn.z rfl rfl ?_ ?_; (focus omega))) | refine T.s ?_ | ((first | apply goB | apply AB.dec | apply AB.gen) <;> intro h <;> try (exfalso; omega)) | refine LQ.mk fun r => ?_ | (show SQ _ _ _ (.loop _) _ _ _; first | (apply goO tQ [] 2 (S := Nat) [0, 1, 7] (fun i => ⟨[(8, .int .i64 i)], [], i ≤ l.length ∧ (l.take i).findIdx? P = none, l.length - i⟩) (0) (by rfl); (focus (all_goals (try exact KEA7); done)); rintro i ⟨hk, hok⟩)) | (show AtL _ _ _ _ _ _ _ _ _ _; first | (apply AtL.mk' (id := 2) (S := Nat) (i + 1); all_goals (try exact KEA7); done) | (apply AtL.mk' (id := 2) (S := Nat) (i + 1); all_goals (try exact KEA7))) | exact T.z | fail) <;> conv => whnf)
 all_goals (try dsimp only)
 all_goals first
   | ((show RL _ _ _; refine goR ?_); rw [vO l i Sn.z (by omega) hok (by assumption)]; rfl)
   | ((show RL _ _ _; refine goR ?_); rw [gidx_e (by omega) hok]; rfl)
   | trace_state
theorem scont_c {P : Sn → Bool} (F : Nat) (p : Nm) (pl : Pl) (l : List Sn) (n : Nat) (hn : n = l.length) (hp : ∀ i : Nat, i < l.length → LP Tryz.prog G F [(l.getD i Sn.z).av, .ptr p 0] [(p, pl)] (fun _ => (.bool (P (l.getD i Sn.z)), [(p, pl)]))) (hl : l.length ≤ 100000) : LP Tryz.prog G 41 [.sl n (l.flatMap Sn.cs), .clo (.func F) [] [.ptr p 0]] [(p, pl)] (fun _ => (.bool (l.any P), [(p, pl)])) := by
 have e := any_idx l P
 refine goW [] Tryz.func41 rfl ?_
 conv => whnf
 repeat' ((first | (show LC _ _ _ _ _ _; first | (apply LC.upd (sidx_c F p pl l n hn hp hl); (repeat first | refine goH ?_ | apply LH.here | apply LH.next); refine ⟨rfl, ?_⟩) | refine goE ?_) | refine T.s ?_ | ((first | apply goB | apply AB.dec | apply AB.gen) <;> intro h <;> try (exfalso; omega)) | refine LQ.mk fun r => ?_ | exact T.z | fail) <;> conv => whnf)
 all_goals (try dsimp only)
 all_goals
   (show RL _ _ _; refine goR ?_)
   rw [← e]
   rfl
open Go.RowKit
variable {G : Nat → AV}
theorem hclone_c (l : List Hd) (hl : l.length ≤ 100000) : LP Tryz.prog G 82 [hdv l] [] (fun _ => (hdv l, [])) := by
 by_cases h : 0 < l.length
 · refine goW [] Tryz.func82 rfl ?_
   conv => whnf
   repeat' ((first | (refine And.intro ?_ ?_; (focus (first | exact qr Hd.cs_len _ | exact hds_one _ | (rw [qr Hd.cs_len]; omega) | omega | exact T.kx | exact T.side))) | refine T.s ?_ | ((first | apply goB | apply AB.dec | apply AB.gen) <;> intro h <;> try (exfalso; omega)) | refine LQ.mk fun r => ?_ | exact T.z | fail) <;> conv => whnf)
   all_goals (try dsimp only)
   all_goals
     refine RL.frz [r] (LF.row InL.here ?_) ?_
     · (repeat first | refine goH ?_ | apply LH.here | apply LH.next)
       exact ⟨by decide, by simp [qr Hd.cs_len], by simp, by simp⟩
     · (repeat first | refine goH ?_ | apply LH.here | apply LH.next)
       exact LB.nil
 · obtain rfl : l = [] := List.eq_nil_of_length_eq_zero (by omega)
   refine LP.empty ?_ fun a0 cap hc => ?_
   · refine goW [] Tryz.func82 rfl ?_
     conv => whnf
     repeat' ((first | refine T.s ?_ | ((first | apply goB | apply AB.dec | apply AB.gen) <;> intro h <;> try (exfalso; omega)) | refine LQ.mk fun r => ?_ | exact T.z | fail) <;> conv => whnf)
     all_goals (try dsimp only)
     exact RL.frz [] (LF.nils rfl rfl) LB.nil
   · refine goW [] Tryz.func82 rfl ?_
     conv => whnf
     repeat' ((first | refine T.s ?_ | ((first | apply goB | apply AB.dec | apply AB.gen) <;> intro h <;> try (exfalso; omega)) | refine LQ.mk fun r => ?_ | exact T.z | fail) <;> conv => whnf)
     all_goals (try dsimp only)
     refine RL.frz [r] (LF.row InL.here ?_) ?_
     · (repeat first | refine goH ?_ | apply LH.here | apply LH.next)
       exact ⟨by decide, rfl, rfl, rfl⟩
     · (repeat first | refine goH ?_ | apply LH.here | apply LH.next)
       exact LB.nil
section
variable {P : Program}
theorem LP.adopt {f : FuncId} {args : List AV} (t : TypeId) (sz : Nat) (h : LP P G f args [] (fun _ => (.nils, []))) : LP P G f args [] (fun q => (.vw q 0 0 sz, [(q, ⟨t, []⟩)])) := by
 unfold LP at h ⊢
 refine ⟨h.1, fun q => ⟨by simp, by simp⟩, fun τ w vs h1 h2 h3 h4 h5 => (h.2.2 τ w vs h1 h2 h3 h4 h5).mono ?_⟩
 rintro e w' ⟨v, q, k1, -, -, k4, k5, k6⟩
 have k4 : Rd τ w' .nils v := k4
 have k5 : Mem τ w' := k5
 have k6 : Stp τ w τ w' := k6
 obtain ⟨B, hB⟩ := k5.fin
 have hk := hB B (Nat.le_refl _)
 have hst : Stp τ w' (Go.Proofs.YtbagbjacmakfhaaGreatDoor.upd τ (.v B) ⟨t, []⟩) w' := Stp.forget _ _ w' fun b hb => by rw [qk _ _ (by simp)]; exact hb
 refine ⟨v, .v B, k1, hk, by simp, ?_, ?_, k6.trans hst⟩
 · cases k4
   exact .vwnil _ _
 · show Mem (Go.Proofs.YtbagbjacmakfhaaGreatDoor.upd τ (.v B) ⟨t, []⟩) w'
   refine ⟨fun q c hq => ?_, fun m c hm => ?_, xL k5.fin _ _⟩
   · rw [qk _ _ (by simp)] at hq
     obtain ⟨cur, k1, k2, k3⟩ := k5.pl q c hq
     exact ⟨cur, k1, k2, fun i hi => (k3 i hi).mono hst⟩
   · by_cases hmk : m = B
     · subst hmk; rw [qw] at hm; cases hm; rfl
     · rw [qk _ _ (by simp; exact hmk)] at hm
       exact k5.vl m c hm
end
theorem hclone_o (l : List Hd) (hl : l.length ≤ 100000) : LP Tryz.prog G 82 [hdv l] [] (fun q => (.vw q 0 l.length 15, [(q, ⟨50, l.flatMap Hd.cs⟩)])) := by
 by_cases h : 0 < l.length
 · refine goW [] Tryz.func82 rfl ?_
   conv => whnf
   repeat' ((first | (refine And.intro ?_ ?_; (focus (first | exact qr Hd.cs_len _ | exact hds_one _ | (rw [qr Hd.cs_len]; omega) | omega | exact T.kx | exact T.side))) | refine T.s ?_ | ((first | apply goB | apply AB.dec | apply AB.gen) <;> intro h <;> try (exfalso; omega)) | refine LQ.mk fun r => ?_ | exact T.z | fail) <;> conv => whnf)
   all_goals (try dsimp only)
   all_goals
     refine RL.own r ?_ ?_ ?_
     · rw [Nat.zero_add]
     · (repeat first | refine goH ?_ | apply LH.here | apply LH.next); trivial
     · (repeat' first | exact LB.nil | (with_reducible exact LB.refl) | (apply LB.cons; (repeat first | refine goH ?_ | apply LH.here | apply LH.next); refine And.intro ?_ ?_; (focus (try (first | (with_reducible rfl) | (refine congrArg (Pl.mk _) ?_; (first | rfl | (simp; done))) | rfl | (with_reducible refine congrArg (Pl.mk _) ?_))))))
 · obtain rfl : l = [] := List.eq_nil_of_length_eq_zero (by omega)
   refine LP.empty ?_ fun a0 cap hc => ?_
   · refine LP.adopt 50 15 ?_
     refine goW [] Tryz.func82 rfl ?_
     conv => whnf
     repeat' ((first | refine T.s ?_ | ((first | apply goB | apply AB.dec | apply AB.gen) <;> intro h <;> try (exfalso; omega)) | refine LQ.mk fun r => ?_ | exact T.z | fail) <;> conv => whnf)
     all_goals (try dsimp only)
     exact RL.val rfl LB.nil
   · refine goW [] Tryz.func82 rfl ?_
     conv => whnf
     repeat' ((first | refine T.s ?_ | ((first | apply goB | apply AB.dec | apply AB.gen) <;> intro h <;> try (exfalso; omega)) | refine LQ.mk fun r => ?_ | exact T.z | fail) <;> conv => whnf)
     all_goals (try dsimp only)
     refine RL.own r ?_ ?_ ?_
     · rfl
     · (repeat first | refine goH ?_ | apply LH.here | apply LH.next); trivial
     · (repeat' first | exact LB.nil | (with_reducible exact LB.refl) | (apply LB.cons; (repeat first | refine goH ?_ | apply LH.here | apply LH.next); refine And.intro ?_ ?_; (focus (try (first | (with_reducible rfl) | (refine congrArg (Pl.mk _) ?_; (first | rfl | (simp; done))) | rfl | (with_reducible refine congrArg (Pl.mk _) ?_))))))
theorem sns_one (l : List Sn) : ((l.flatMap Sn.cs).all AV.one) = true := by
 induction l with
 | nil => rfl
 | cons x l ih => rw [List.flatMap_cons, List.all_append, ih]; rfl
theorem sclone_c (l : List Sn) (h : 0 < l.length) (hl : l.length ≤ 100000) : LP Tryz.prog G 81 [snv l] [] (fun q => (.vw q 0 l.length 9, [(q, ⟨61, l.flatMap Sn.cs⟩)])) := by
 refine goW [] Tryz.func81 rfl ?_
 conv => whnf
 repeat' ((first | (refine And.intro ?_ ?_; (focus (first | exact qr Sn.cs_len _ | exact sns_one _ | (rw [qr Sn.cs_len]; omega) | omega | exact T.kx | exact T.side))) | refine T.s ?_ | ((first | apply goB | apply AB.dec | apply AB.gen) <;> intro h <;> try (exfalso; omega)) | refine LQ.mk fun r => ?_ | exact T.z | fail) <;> conv => whnf)
 all_goals (try dsimp only)
 all_goals
   refine RL.own r ?_ ?_ ?_
   · rw [Nat.zero_add]
   · (repeat first | refine goH ?_ | apply LH.here | apply LH.next); trivial
   · (repeat' first | exact LB.nil | (with_reducible exact LB.refl) | (apply LB.cons; (repeat first | refine goH ?_ | apply LH.here | apply LH.next); refine And.intro ?_ ?_; (focus (try (first | (with_reducible rfl) | (refine congrArg (Pl.mk _) ?_; (first | rfl | (simp; done))) | rfl | (with_reducible refine congrArg (Pl.mk _) ?_))))))
def wrgB (a : Hd) (h : Hd) : Bool := !(h.ok && qt h a)
theorem cwrg_c (p : Nm) (a h : Hd) : LP Tryz.prog G 74 [h.av, .ptr p 0] [(p, ⟨50, a.cs⟩)] (fun _ => (.bool (wrgB a h), [(p, ⟨50, a.cs⟩)])) := by
 refine goW [] Tryz.func74 rfl ?_
 conv => whnf
 repeat' ((first | (show LC _ _ _ _ _ _; first | refine LC.pure (zR h) ?_ | refine LC.pure (vf _ _) ?_ | refine goE ?_) | refine T.s ?_ | ((first | apply goB | apply AB.dec | apply AB.gen) <;> intro h <;> try (exfalso; omega)) | refine LQ.mk fun r => ?_ | exact T.z | fail) <;> conv => whnf)
 all_goals (try dsimp only)
 all_goals
   (show RL _ _ _; refine goR ?_)
   simp [wrgB, *]
theorem cempty_c (s : Sn) : LP Tryz.prog G 72 [s.av] [] (fun _ => (.bool (jQ s), [])) := by
 rw [emptyR_e, Dy.eqz]
 refine goW [] Tryz.func72 rfl ?_
 conv => whnf
 repeat' ((first | refine T.s ?_ | ((first | apply goB | apply AB.dec | apply AB.gen) <;> intro h <;> try (exfalso; omega)) | refine LQ.mk fun r => ?_ | exact T.z | fail) <;> conv => whnf)
 all_goals (try dsimp only)
 all_goals
   (show RL _ _ _; refine goR ?_)
   refine congrArg AV.bool ?_
   simp_all [qo]
   try (rw [Bool.eq_iff_iff]; simp)
theorem rfs_all (s : Sn) : (s.rf.all fun r => r.ok && qt r s.fst) = !(s.rf.any (wrgB (s.rf.getD 0 Hd.z))) := by
 rw [List.any_eq_not_all_not]
 simp [wrgB, Sn.fst]
theorem ok_prog {m w : Int} {s : Sn} (h : s.act = true) : s.ok m w = (!decide ((s.rf.length : Int) < 1) && (!decide (jg m w < (s.rf.length : Int)) && (inR s.ser s.rf.length && (inR s.full w && (inR s.refr w && (!(decide (0 < s.full) && decide (0 < s.refr)) &&
     (inR s.sin 32 && (inR s.lng 3 && (s.dy.ok && ((decide ((s.rf.getD 0 Hd.z).k = 2) || qJ [(s.dy.st, 0), (s.dy.fo, 0)]) && !(s.rf.any (wrgB (s.rf.getD 0 Hd.z))))))))))))) := by
 unfold Sn.ok
 rw [if_pos h, rfs_all, ← Dy.eqz]
 have e1 : decide (1 ≤ s.rf.length ∧ (s.rf.length : Int) ≤ jg m w) = (!decide ((s.rf.length : Int) < 1) && !decide (jg m w < (s.rf.length : Int))) := by
   rw [Bool.eq_iff_iff]; simp; omega
 have e2 : decide (¬ (0 < s.full ∧ 0 < s.refr)) = !(decide (0 < s.full) && decide (0 < s.refr)) := by
   rw [Bool.eq_iff_iff]; simp
 rw [e1, e2, Bool.decide_or, Bool.and_assoc]
 rfl
theorem cctx_c (s : Sn) (m w : Int) (hw : w ≤ 8) : LP Tryz.prog G 38 [s.av, iAV m, iAV w] [] (fun _ => (.bool (s.ok m w), [])) := by
 cases h0 : s.act with
 | false =>
   rw [show s.ok m w = jQ s by unfold Sn.ok; rw [if_neg (by rw [h0]; decide)]]
   refine goW [] Tryz.func38 rfl ?_
   conv => whnf
   repeat' ((first | (show LC _ _ _ _ _ _; first | refine LC.pure (cempty_c s) ?_ | refine goE ?_) | refine T.s ?_ | ((first | apply goB | apply AB.dec | apply AB.gen) <;> intro h <;> try (exfalso; omega)) | refine LQ.mk fun r => ?_ | exact T.z | fail) <;> conv => whnf)
   all_goals (try dsimp only)
   all_goals
     (show RL _ _ _; refine goR ?_)
     rfl
 | true =>
   have hM : (m = 3 → jg m w = 32) ∧ (¬ m = 3 → jg m w = w) := ⟨fun e => if_pos e, fun e => if_neg e⟩
   rw [ok_prog h0]
   generalize jg m w = M at hM ⊢
   refine goW [] Tryz.func38 rfl ?_
   conv => whnf
   repeat' ((first | (refine And.intro ?_ ?_; (focus (first | exact jc (by omega) | exact T.kx | exact T.side))) | (show LC _ _ _ _ _ _; first | refine LC.pure (cbnd_c _ _) ?_ | refine LC.pure (jA s.dy) ?_ | (apply LC.upd (hcont_c 74 _ ⟨50, (s.rf.getD 0 Hd.z).cs⟩ (fun h => cwrg_c _ _ h) s.rf (by omega)); (repeat first | refine goH ?_ | apply LH.here | apply LH.next); refine ⟨rfl, ?_⟩) | refine goE ?_) | (show AC _ _ _; first | (refine AC.recd Hd.cs_len 0 Hd.z rfl rfl ?_ ?_; (focus omega))) | refine T.s ?_ | ((first | apply goB | apply AB.dec | apply AB.gen) <;> intro h) | refine LQ.mk fun r => ?_ | exact T.z | fail) <;> conv => whnf)
   all_goals (try dsimp only)
   all_goals
     (show RL _ _ _; refine goR ?_)
     refine congrArg AV.bool ?_
     generalize s.rf.getD 0 Hd.z = X at *
     generalize s.rf.any (wrgB X) = Z at *
     first
       | (have e3 : m = 3 := (by assumption); rw [hM.1 e3]; simp [*]; done)
       | (have e3 : ¬ m = 3 := (by assumption); rw [hM.2 e3]; simp [*]; done)
       | trace_state
open Go.RowKit
variable {G : Nat → AV}
attribute [local irreducible] qt
theorem cali_c (p : Nm) (s t : Sn) (hs : s.act = true → 0 < s.rf.length) (ht : t.act = true → 0 < t.rf.length) : LP Tryz.prog G 39 [t.av, .ptr p 0] [(p, ⟨61, s.cs⟩)] (fun _ => (.bool (qW s t), [(p, ⟨61, s.cs⟩)])) := by
 have hsm : LP Tryz.prog G 40 [(s.rf.getD 0 Hd.z).av, (t.rf.getD 0 Hd.z).av] [] (fun _ => (.bool (qt s.fst t.fst), [])) := vf _ _
 refine goW [] Tryz.func39 rfl ?_
 conv => whnf
 repeat' ((first | exact Nm.b 0 | (refine And.intro ?_ ?_; (focus (first | exact jc (hs (by assumption)) | exact jc (ht (by assumption)) | exact Int.ofNat_lt.2 (hs (by assumption)) | exact Int.ofNat_lt.2 (ht (by assumption)) | exact T.kx | exact T.side))) | (show LC _ _ _ _ _ _; first | refine LC.pure (hsm) ?_ | refine goE ?_) | (show AC _ _ _; first | (refine AC.recd Hd.cs_len 0 Hd.z rfl rfl (hs (by assumption)) ?_) | (refine AC.recd Hd.cs_len 0 Hd.z rfl rfl (ht (by assumption)) ?_)) | refine T.s ?_ | ((first | apply goB | apply AB.dec | apply AB.gen) <;> intro h <;> try (exfalso; omega)) | refine LQ.mk fun r => ?_ | (show SQ _ _ _ _ _ _ _; first | refine gX 1 [] [0, 1, 2, 3, 4, 5, 6, 7, 8, 9, 10, 11, 12, 13, 14, 15, 16, 17] [] ?_) | exact T.z | fail) <;> conv => whnf)
 all_goals (try dsimp only)
 all_goals
   (show RL _ _ _; refine goR ?_)
   simp [qW, *]
theorem ali_all (c : Co) (i : Nat) (hi : i ≤ c.cx.length) : ((List.range i).all fun k => !qW (c.at i) (c.at k)) = !((c.cx.take i).any (qW (c.at i))) := by
 rw [List.any_eq_not_all_not, Bool.not_not]
 have e : c.cx.take i = (List.range i).map fun k => c.at k := by
   apply List.ext_getElem
   · simp; omega
   · intro n h1 h2
     simp at h1 h2
     simp [Co.at, List.getD_eq_getElem?_getD, show n < c.cx.length by omega]
 rw [e, List.all_map]
 rfl
theorem oks_nxt {c : Co} {i : Nat} (h1 : c.oks i = true) (h2 : (c.at i).ok c.m c.w = true) (hi : i ≤ c.cx.length) (h3 : (c.cx.take i).any (qW (c.at i)) = false) : c.oks (i + 1) = true := by
 rw [oks_e, kb, ← oks_e, h1]
 unfold oksG
 rw [h2, ali_all c i hi, h3]
 rfl
theorem oksG_3 {c : Co} {i : Nat} (hi : i ≤ c.cx.length) (h3 : (c.cx.take i).any (qW (c.at i)) = true) : oksG c i = false := by
 unfold oksG
 rw [ali_all c i hi, h3]
 simp
theorem take_at {c : Co} {i k : Nat} (hk : k < (c.cx.take i).length) : (c.cx.take i).getD k Sn.z = c.at k := by
 have : k < i := by simp at hk; omega
 simp [Co.at, List.getD_eq_getElem?_getD, List.getElem?_take, this]
theorem cali_i (c : Co) (i : Nat) (p : Nm) (h1 : c.oks i = true) (h2 : (c.at i).ok c.m c.w = true) (k : Nat) (hk : k < (c.cx.take i).length) : LP Tryz.prog G 39 [((c.cx.take i).getD k Sn.z).av, .ptr p 0] [(p, ⟨61, (c.at i).cs⟩)] (fun _ => (.bool (qW (c.at i) ((c.cx.take i).getD k Sn.z)), [(p, ⟨61, (c.at i).cs⟩)])) := by
 rw [take_at hk]
 have hk2 : k < i := by simp at hk; omega
 exact cali_c p _ _ (fun ha => jf h2 ha) (fun ha => oks_rf h1 k hk2 ha)
theorem pre_e {c : Co} {i n : Nat} (hn : n = i) (hi : i ≤ c.cx.length) : ((c.cx.flatMap Sn.cs).drop 0).take (n * 9) = (c.cx.take i).flatMap Sn.cs := by
 subst hn
 rw [List.drop_zero, wS Sn.cs_len]
theorem cpvalid_t (c : Co) (hs : zJ c.m c.w = true) (h16 : c.cx.length = 16) : LP Tryz.prog G 16 [c.av] [] (fun _ => (.bool c.ok, [])) := by
 have hsh := cshap_c (G := G) c.m c.w
 rw [hs] at hsh
 have hs2 := hs
 simp only [zJ, decide_eq_true_eq] at hs2
 have hctx : ∀ i : Nat, (i : Int) < (c.cx.length : Int) → LP Tryz.prog G 38 [(c.cx.getD i Sn.z).av, iAV c.m, iAV c.w] [] (fun _ => (.bool ((c.at i).ok c.m c.w), [])) := fun i hi => cctx_c _ _ _ hs2.2.2.2
 refine goW [] Tryz.func16 rfl ?_
 conv => whnf
 repeat' ((first | (refine And.intro ?_ ?_; (focus (first | exact zx Sn.cs_len (by assumption) | exact Nat.le_of_eq (qr Sn.cs_len _).symm | exact T.kx | exact T.side))) | (show LC _ _ _ _ _ _; first | refine LC.pure (hsh) ?_ | refine LC.pure (hctx i (by assumption)) ?_ | (apply LC.upd (scont_c 39 _ ⟨61, (c.at i).cs⟩ (c.cx.take i) _ (by simp; omega) (cali_i c i _ (by assumption) (by assumption)) (by simp; omega)); (repeat first | refine goH ?_ | apply LH.here | apply LH.next); refine ⟨rfl, ?_⟩) | refine goE ?_) | (show AC _ _ _; first | (refine AC.recd Sn.cs_len i Sn.z rfl rfl ?_ ?_; (focus omega))) | (show AQ _ _; first | (refine AQ.eq (pre_e (c := c) (i := i) (by simp) (by omega)) ?_)) | refine T.s ?_ | ((first | apply goB | apply AB.dec | apply AB.gen) <;> intro h <;> try (exfalso; omega)) | refine LQ.mk fun r => ?_ | (show SQ _ _ _ (.loop _) _ _ _; first | (apply goO tQ [] 4 (S := Nat × Nm) [19, 20] (fun (i, a) => ⟨[(21, .int .i64 i), (1, .ptr a 0)], [(a, ⟨34, [iAV c.m, iAV c.w, snv c.cx]⟩)], i ≤ 16 ∧ c.oks i = true, 16 - i⟩) ((0, _)) (by rfl); (focus (all_goals (try exact K42B); done)); rintro ⟨i, a⟩ ⟨hk, hok⟩)) | (show AtL _ _ _ _ _ _ _ _ _ _; first | (apply AtL.mk' (id := 4) (S := Nat × Nm) ((i + 1, _)); all_goals (try exact K42B); done) | (apply AtL.mk' (id := 4) (S := Nat × Nm) ((i + 1, _)); all_goals (try exact K42B))) | (show (_ → _) ∧ (¬ _ → _); first | refine T.y ?_ | refine qm (fun h => ?_) (fun h => ?_)) | exact T.z | fail) <;> conv => whnf)
 all_goals (try dsimp only)
 all_goals first
   | ((show RL _ _ _; refine goR ?_); rw [okc_n (wo i (by omega) (oksG_1 (by assumption)))])
   | ((show RL _ _ _; refine goR ?_); rw [okc_n (wo i (by omega) (oksG_3 (by omega) (by assumption)))])
   | ((show RL _ _ _; refine goR ?_); obtain rfl : i = 16 := (by omega); rw [okc hs h16 (by assumption)])
   | trace_state
theorem zl (c : Co) : LP Tryz.prog G 16 [c.av] [] (fun _ => (.bool c.ok, [])) := by
 by_cases hs : zJ c.m c.w = true ∧ c.cx.length = 16
 · exact cpvalid_t c hs.1 hs.2
 · have hsh := cshap_c (G := G) c.m c.w
   have hf : c.ok = false := by
     unfold Co.ok
     cases h : zJ c.m c.w with
     | false => rfl
     | true => rw [decide_eq_false (fun e => hs ⟨h, e⟩)]; rfl
   rw [hf]
   cases hsp : zJ c.m c.w with
   | false =>
     rw [hsp] at hsh
     refine goW [] Tryz.func16 rfl ?_
     conv => whnf
     repeat' ((first | (show LC _ _ _ _ _ _; first | refine LC.pure (hsh) ?_ | refine goE ?_) | refine T.s ?_ | ((first | apply goB | apply AB.dec | apply AB.gen) <;> intro h <;> try (exfalso; omega)) | refine LQ.mk fun r => ?_ | (show (_ → _) ∧ (¬ _ → _); first | refine T.y ?_ | refine qm (fun h => ?_) (fun h => ?_)) | exact T.z | fail) <;> conv => whnf)
     all_goals (try dsimp only)
     all_goals ((show RL _ _ _; refine goR ?_); rfl)
   | true =>
     rw [hsp] at hsh
     have hne : ¬ (c.cx.length : Int) = 16 := fun e => hs ⟨hsp, by omega⟩
     refine goW [] Tryz.func16 rfl ?_
     conv => whnf
     repeat' ((first | ((with_reducible show AB (qo .neq _ 16) _ _); refine AB.neqT hne ?_) | (show LC _ _ _ _ _ _; first | refine LC.pure (hsh) ?_ | refine goE ?_) | refine T.s ?_ | ((first | apply goB | apply AB.dec | apply AB.gen) <;> intro h <;> try (exfalso; omega)) | refine LQ.mk fun r => ?_ | (show (_ → _) ∧ (¬ _ → _); first | refine T.y ?_ | refine qm (fun h => ?_) (fun h => ?_)) | exact T.z | fail) <;> conv => whnf)
     all_goals (try dsimp only)
     all_goals ((show RL _ _ _; refine goR ?_); rfl)
def cpH (c : Co) (i0 : Nat) (p : Nm) (j k : Nat) : List AV := if k = i0 ∧ i0 < j then (c.at k).cv (.vw p 0 (c.at k).rf.length 15) else (c.at k).cs
theorem vk (c : Co) (i0 : Nat) (p : Nm) (j k : Nat) : (cpH c i0 p j k).length = 9 := by unfold cpH; split <;> rfl
def cpX (c : Co) (i0 : Nat) (p : Nm) (j : Nat) : List AV := (List.range c.cx.length).flatMap (cpH c i0 p j)
theorem cpX_0 (c : Co) (i0 : Nat) (p : Nm) : c.cx.flatMap Sn.cs = cpX c i0 p 0 := by
 unfold cpX
 rw [← xc]
 exact j4 _ fun k _ => by unfold cpH; rw [if_neg (by omega)]
theorem cpX_e (c : Co) (i0 : Nat) (p : Nm) (h : i0 < c.cx.length) : cpX c i0 p c.cx.length = cpR c i0 p c.cx.length := by
 unfold cpX cpR
 refine j4 _ fun k _ => ?_
 unfold cpH cpG
 by_cases hk : k = i0
 · rw [if_pos ⟨hk, h⟩, if_pos hk]
 · rw [if_neg (fun q => hk q.1), if_neg hk]
theorem rg_at (n i : Nat) (h : i < n) : (List.range n).getD i 0 = i := by simp [List.getD_eq_getElem?_getD, h]
theorem splice_rg {g g' : Nat → List AV} {n sz i k : Nat} {xs : List AV} (hg : ∀ x, (g x).length = sz) (h : i < n) (hk : k + xs.length ≤ sz) (he : ∀ x, x ≠ i → g' x = g x) (hy : g' i = ql (g i) k xs) : ql ((List.range n).flatMap g) (i * sz + k) xs = (List.range n).flatMap g' := by
 have hl : i < (List.range n).length := by simpa using h
 have h1 : ((List.range n).flatMap g).take (i * sz + k) = ((List.range n).take i).flatMap g ++ (g i).take k := by
   rw [List.take_add, wS hg, yK hg (List.range n) i 0 hl, rg_at n i h, List.take_append_of_le_length (by rw [hg]; omega)]
 have h2 : ((List.range n).flatMap g).drop (i * sz + k + xs.length) = (g i).drop (k + xs.length) ++ ((List.range n).drop (i + 1)).flatMap g := by
   rw [Nat.add_assoc, ← List.drop_drop, yK hg (List.range n) i 0 hl, rg_at n i h, List.drop_append_of_le_length (by rw [hg]; omega)]
 have h3 : (List.range n).flatMap g' = ((List.range n).take i).flatMap g' ++ (g' i ++ ((List.range n).drop (i + 1)).flatMap g') := by
   conv => lhs; rw [← List.take_append_drop i (List.range n), drop_getD _ i 0 hl, rg_at n i h, List.flatMap_append, List.flatMap_cons]
 have h4 : ((List.range n).take i).flatMap g' = ((List.range n).take i).flatMap g := j4 _ fun x hx => he x (by
   rw [List.take_range] at hx
   have := List.mem_range.1 hx
   omega)
 have h5 : ((List.range n).drop (i + 1)).flatMap g' = ((List.range n).drop (i + 1)).flatMap g := j4 _ fun x hx => he x (by
   obtain ⟨y, hy, rfl⟩ := List.getElem_of_mem hx
   simp
   omega)
 unfold ql at hy ⊢
 rw [h1, h2, h3, h4, h5, hy]
 simp [List.append_assoc]
theorem cpX_own {c : Co} {i0 j : Nat} (h : j = i0) (p q : Nm) (hj : (j : Int) < (c.cx.length : Int)) {o n : Nat} (ho : o = j * 9 + 8) (hn : n = (c.at j).rf.length) : ql (cpX c i0 p j) o [.vw q 0 n 15] = cpX c i0 q (j + 1) := by
 subst ho hn
 unfold cpX
 refine splice_rg (vk c i0 p j) (by omega) (by simp) (fun x hx => ?_) ?_
 · unfold cpH; rw [if_neg (by omega), if_neg (by omega)]
 · unfold cpH; rw [if_pos (by omega), if_neg (by omega)]; rfl
theorem cpX_oth {c : Co} {i0 j : Nat} (h : ¬ j = i0) (p : Nm) (hj : (j : Int) < (c.cx.length : Int)) {o : Nat} (ho : o = j * 9 + 8) : ql (cpX c i0 p j) o [hdv (c.cx.getD j Sn.z).rf] = cpX c i0 p (j + 1) := by
 subst ho
 unfold cpX
 refine splice_rg (vk c i0 p j) (by omega) (by simp) (fun x hx => ?_) ?_
 · unfold cpH
   by_cases hx2 : x = i0 ∧ i0 < j
   · rw [if_pos ⟨hx2.1, by omega⟩, if_pos hx2]
   · rw [if_neg (by omega), if_neg hx2]
 · unfold cpH; rw [if_neg (by omega), if_neg (by omega)]; rfl
theorem cpX_cell {c : Co} {i0 j : Nat} {p : Nm} {o : Nat} {K : AV → Prop} (hj : (j : Int) < (c.cx.length : Int)) (ho : o = j * 9 + 8) (k : K (hdv (c.cx.getD j Sn.z).rf)) : AC false (((cpX c i0 p j).drop o).take 1) K := by
 unfold cpX
 refine AC.fld (vk c i0 p j) j 8 0 _ ho (by decide) (by simp; omega) ?_ k
 rw [rg_at _ _ (by omega)]
 unfold cpH
 rw [if_neg (by omega)]
 rfl
theorem cpX_len (c : Co) (i0 : Nat) (p : Nm) (j : Nat) : (cpX c i0 p j).length = c.cx.length * 9 := by
 unfold cpX
 rw [qr (vk c i0 p j)]
 simp
theorem cclone_c (c : Co) (i0 : Nat) (hi : i0 < c.cx.length) (hl : c.cx.length ≤ 100) (hr : ∀ i, i < c.cx.length → (c.at i).rf.length ≤ 1000) : LSpecN Tryz.prog G 44 [c.av] [] 2 (fun q => (.agg [iAV c.m, iAV c.w, .vw (n0 q) 0 c.cx.length 9], [(n0 q, ⟨61, cpR c i0 (n1 q) c.cx.length⟩), (n1 q, ⟨50, (c.at i0).rf.flatMap Hd.cs⟩)])) := by
 have hc : ∀ i : Nat, (i : Int) < (c.cx.length : Int) → LP Tryz.prog G 82 [hdv (c.cx.getD i Sn.z).rf] [] (fun _ => (hdv (c.cx.getD i Sn.z).rf, [])) := fun i hi => hclone_c _ (Nat.le_trans (hr i (by omega)) (by decide))
 have ho : ∀ i : Nat, (i : Int) < (c.cx.length : Int) → LP Tryz.prog G 82 [hdv (c.cx.getD i Sn.z).rf] [] (fun q => (.vw q 0 (c.cx.getD i Sn.z).rf.length 15, [(q, ⟨50, (c.cx.getD i Sn.z).rf.flatMap Hd.cs⟩)])) := fun i hi => hclone_o _ (Nat.le_trans (hr i (by omega)) (by decide))
 refine LSpecN.introL tQ Tryz.func44 rfl (by kernel_rfl) (by simp) (fun qs hq => by obtain ⟨x, y, rfl⟩ : ∃ x y, qs = [x, y] := (match qs, hq with | [x, y], _ => ⟨x, y, rfl⟩); exact ⟨by simp, by intro h1 h2; simp at h1 h2 ⊢; simp_all [eq_comm]⟩) ?_
 refine AWpL.sound tQ [] _ _ _ _ ?_
 conv => whnf
 repeat' ((first | (show LC _ _ 82 _ _ _; refine (Decidable.em (j = i0)).elim (fun hji => LC.own (ho j (by assumption)) ?_) (fun hji => LC.pure (hc j (by assumption)) ?_)) | exact Nm.b 0 | (refine And.intro ?_ ?_; (focus (first | (show (_ : Nat) ≤ _; dsimp only; rw [cpX_len]; omega) | exact T.kx | exact T.side))) | (show LC _ _ _ _ _ _; first | refine LC.own (sclone_c c.cx (by omega) (by omega)) ?_ | refine goE ?_) | (show AC _ _ _; first | (refine cpX_cell (by assumption) (by rw [Nat.zero_add]; rfl) ?_)) | (show AQ _ _; first | (refine AQ.eq (cpX_own hji _ _ (by assumption) (by rw [Nat.zero_add]; rfl) rfl) ?_) | (refine AQ.eq (cpX_oth hji _ (by assumption) (by rw [Nat.zero_add]; rfl)) ?_)) | refine T.s ?_ | ((first | apply goB | apply AB.dec | apply AB.gen) <;> intro h <;> try (exfalso; omega)) | refine LQ.mk fun r => ?_ | (show SQ _ _ _ (.loop _) _ _ _; first | (apply goO tQ [] 3 (S := Nat × Nm × Nm × Nm × Nm) [10] (fun (j, a, z, q, p) => ⟨[(11, .int .i64 j), (1, .ptr a 0), (2, .ptr z 0)], [(a, ⟨34, [iAV c.m, iAV c.w, .vw q 0 c.cx.length 9]⟩), (z, ⟨34, [iAV 0, iAV 0, .nils]⟩), (q, ⟨61, cpX c i0 p j⟩), (p, ⟨50, cpP c i0 j⟩)], j ≤ c.cx.length, c.cx.length - j⟩) ((0, _, _, _, p)) (by rfl); (focus ((repeat' first | exact trivial | (refine And.intro ?_ ?_) | exact LB.nil | (with_reducible exact LB.refl) | (apply LB.cons; (repeat first | refine goH ?_ | apply LH.here | apply LH.next); refine And.intro ?_ ?_; (focus (try (first | (with_reducible rfl) | (refine congrArg (Pl.mk _) ?_; (first | (with_reducible rfl) | exact xq hji | exact xr hji | exact cpX_0 c i0 _ | rfl)) | rfl | (with_reducible refine congrArg (Pl.mk _) ?_))))) | assumption | (first | (focus (apply Eq.trans; (conv => lhs; whnf); (conv => rhs; whnf); done)) | rfl | ((conv => lhs; whnf); first | rfl | (refine congrArg (AV.int _) ?_; (exact T.num)) | (refine congrArg AV.bool ?_; (exact T.num)) | (refine vwc ?_; first | (exact T.num) | (first | (with_reducible rfl) | exact xq hji | exact xr hji | exact cpX_0 c i0 _ | rfl)) | (refine qc ?_ ?_ <;> first | (exact T.num) | (first | (with_reducible rfl) | exact xq hji | exact xr hji | exact cpX_0 c i0 _ | rfl)) | (first | (with_reducible rfl) | exact xq hji | exact xr hji | exact cpX_0 c i0 _ | rfl))) | (exact T.num) | (dsimp only; (exact T.num)) | (first | (with_reducible rfl) | exact xq hji | exact xr hji | exact cpX_0 c i0 _ | rfl)); done)); rintro ⟨j, a, z, q, p⟩ hok; (try dsimp only at hok))) | (show SQ _ _ _ _ _ _ _; first | (show SQ _ _ _ (.loop _) _ _ _; refine SQ.dummy 50 fun p => ?_) | (refine goD tQ qd 5 [1, 9] [0, 1, 2, 3, 4, 5, 6, 7, 8, 9, 10, 11, 12] [a] (by kernel_rfl) ?_)) | (show AtL _ _ _ _ _ _ _ _ _ _; first | (by_cases hji : j = i0; (focus (rename_i pa pb pc; refine AtL.mk' (id := 3) (j + 1, a, z, q, pa) ?_; (repeat' first | exact trivial | (refine And.intro ?_ ?_) | exact LB.nil | (with_reducible exact LB.refl) | (apply LB.cons; (repeat first | refine goH ?_ | apply LH.here | apply LH.next); refine And.intro ?_ ?_; (focus (try (first | (with_reducible rfl) | (refine congrArg (Pl.mk _) ?_; (first | (with_reducible rfl) | exact xq hji | exact xr hji | exact cpX_0 c i0 _ | rfl)) | rfl | (with_reducible refine congrArg (Pl.mk _) ?_))))) | assumption | (first | (focus (apply Eq.trans; (conv => lhs; whnf); (conv => rhs; whnf); done)) | rfl | ((conv => lhs; whnf); first | rfl | (refine congrArg (AV.int _) ?_; (exact T.num)) | (refine congrArg AV.bool ?_; (exact T.num)) | (refine vwc ?_; first | (exact T.num) | (first | (with_reducible rfl) | exact xq hji | exact xr hji | exact cpX_0 c i0 _ | rfl)) | (refine qc ?_ ?_ <;> first | (exact T.num) | (first | (with_reducible rfl) | exact xq hji | exact xr hji | exact cpX_0 c i0 _ | rfl)) | (first | (with_reducible rfl) | exact xq hji | exact xr hji | exact cpX_0 c i0 _ | rfl))) | (exact T.num) | (dsimp only; (exact T.num)) | (first | (with_reducible rfl) | exact xq hji | exact xr hji | exact cpX_0 c i0 _ | rfl)))); (focus (refine AtL.mk' (id := 3) (j + 1, a, z, q, p) ?_; (repeat' first | exact trivial | (refine And.intro ?_ ?_) | exact LB.nil | (with_reducible exact LB.refl) | (apply LB.cons; (repeat first | refine goH ?_ | apply LH.here | apply LH.next); refine And.intro ?_ ?_; (focus (try (first | (with_reducible rfl) | (refine congrArg (Pl.mk _) ?_; (first | (with_reducible rfl) | exact xq hji | exact xr hji | exact cpX_0 c i0 _ | rfl)) | rfl | (with_reducible refine congrArg (Pl.mk _) ?_))))) | assumption | (first | (focus (apply Eq.trans; (conv => lhs; whnf); (conv => rhs; whnf); done)) | rfl | ((conv => lhs; whnf); first | rfl | (refine congrArg (AV.int _) ?_; (exact T.num)) | (refine congrArg AV.bool ?_; (exact T.num)) | (refine vwc ?_; first | (exact T.num) | (first | (with_reducible rfl) | exact xq hji | exact xr hji | exact cpX_0 c i0 _ | rfl)) | (refine qc ?_ ?_ <;> first | (exact T.num) | (first | (with_reducible rfl) | exact xq hji | exact xr hji | exact cpX_0 c i0 _ | rfl)) | (first | (with_reducible rfl) | exact xq hji | exact xr hji | exact cpX_0 c i0 _ | rfl))) | (exact T.num) | (dsimp only; (exact T.num)) | (first | (with_reducible rfl) | exact xq hji | exact xr hji | exact cpX_0 c i0 _ | rfl))))) | (apply AtL.mk' (id := 3) (S := Nat × Nm × Nm × Nm × Nm) ((j + 1, _, _, _, _)); (repeat' first | exact trivial | (refine And.intro ?_ ?_) | exact LB.nil | (with_reducible exact LB.refl) | (apply LB.cons; (repeat first | refine goH ?_ | apply LH.here | apply LH.next); refine And.intro ?_ ?_; (focus (try (first | (with_reducible rfl) | (refine congrArg (Pl.mk _) ?_; (first | (with_reducible rfl) | exact xq hji | exact xr hji | exact cpX_0 c i0 _ | rfl)) | rfl | (with_reducible refine congrArg (Pl.mk _) ?_))))) | assumption | (first | (focus (apply Eq.trans; (conv => lhs; whnf); (conv => rhs; whnf); done)) | rfl | ((conv => lhs; whnf); first | rfl | (refine congrArg (AV.int _) ?_; (exact T.num)) | (refine congrArg AV.bool ?_; (exact T.num)) | (refine vwc ?_; first | (exact T.num) | (first | (with_reducible rfl) | exact xq hji | exact xr hji | exact cpX_0 c i0 _ | rfl)) | (refine qc ?_ ?_ <;> first | (exact T.num) | (first | (with_reducible rfl) | exact xq hji | exact xr hji | exact cpX_0 c i0 _ | rfl)) | (first | (with_reducible rfl) | exact xq hji | exact xr hji | exact cpX_0 c i0 _ | rfl))) | (exact T.num) | (dsimp only; (exact T.num)) | (first | (with_reducible rfl) | exact xq hji | exact xr hji | exact cpX_0 c i0 _ | rfl)); done) | (apply AtL.mk' (id := 3) (S := Nat × Nm × Nm × Nm × Nm) ((j + 1, _, _, _, _)); (repeat' first | exact trivial | (refine And.intro ?_ ?_) | exact LB.nil | (with_reducible exact LB.refl) | (apply LB.cons; (repeat first | refine goH ?_ | apply LH.here | apply LH.next); refine And.intro ?_ ?_; (focus (try (first | (with_reducible rfl) | (refine congrArg (Pl.mk _) ?_; (first | (with_reducible rfl) | exact xq hji | exact xr hji | exact cpX_0 c i0 _ | rfl)) | rfl | (with_reducible refine congrArg (Pl.mk _) ?_))))) | assumption | (first | (focus (apply Eq.trans; (conv => lhs; whnf); (conv => rhs; whnf); done)) | rfl | ((conv => lhs; whnf); first | rfl | (refine congrArg (AV.int _) ?_; (exact T.num)) | (refine congrArg AV.bool ?_; (exact T.num)) | (refine vwc ?_; first | (exact T.num) | (first | (with_reducible rfl) | exact xq hji | exact xr hji | exact cpX_0 c i0 _ | rfl)) | (refine qc ?_ ?_ <;> first | (exact T.num) | (first | (with_reducible rfl) | exact xq hji | exact xr hji | exact cpX_0 c i0 _ | rfl)) | (first | (with_reducible rfl) | exact xq hji | exact xr hji | exact cpX_0 c i0 _ | rfl))) | (exact T.num) | (dsimp only; (exact T.num)) | (first | (with_reducible rfl) | exact xq hji | exact xr hji | exact cpX_0 c i0 _ | rfl)))) | exact T.z | fail) <;> conv => whnf)
 all_goals (try dsimp only)
 obtain rfl : j = c.cx.length := by omega
 rw [cpX_e c i0 p hi, show cpP c i0 c.cx.length = (c.at i0).rf.flatMap Hd.cs from if_pos hi]
 apply RetLN.val [q, p] rfl
 · show LH _ _ _
   exact .next (.next (.here (.next (.next (.here trivial)))))
 · rfl
 · exact LB.cons (.next (.next (.here ⟨rfl, LB.cons (.next (.next (.here ⟨rfl, LB.nil⟩)))⟩)))
theorem cfnd1_c (p : Nm) (s : Sn) (h : Hd) (hs : s.act = true → 0 < s.rf.length) : LP Tryz.prog G 93 [s.av, .ptr p 0] [(p, ⟨50, h.cs⟩)] (fun _ => (.bool (jl h s), [(p, ⟨50, h.cs⟩)])) := by
 have hsm : LP Tryz.prog G 40 [(s.rf.getD 0 Hd.z).av, h.av] [] (fun _ => (.bool (qt s.fst h), [])) := vf _ _
 refine goW [] Tryz.func93 rfl ?_
 conv => whnf
 repeat' ((first | exact Nm.b 0 | (refine And.intro ?_ ?_; (focus (first | exact jc (hs (by assumption)) | exact Int.ofNat_lt.2 (hs (by assumption)) | exact T.kx | exact T.side))) | (show LC _ _ _ _ _ _; first | refine LC.pure (hsm) ?_ | refine goE ?_) | (show AC _ _ _; first | (refine AC.recd Hd.cs_len 0 Hd.z rfl rfl (hs (by assumption)) ?_)) | refine T.s ?_ | ((first | apply goB | apply AB.dec | apply AB.gen) <;> intro h <;> try (exfalso; omega)) | refine LQ.mk fun r => ?_ | (show SQ _ _ _ _ _ _ _; first | refine gX 1 [] [0, 1, 2, 3, 4, 5, 6, 7, 8, 9, 10] [] ?_) | exact T.z | fail) <;> conv => whnf)
 all_goals (try dsimp only)
 all_goals
   (show RL _ _ _; refine goR ?_)
   simp [jl, *]
theorem cfnd2_c (s : Sn) : LP Tryz.prog G 94 [s.av] [] (fun _ => (.bool (!s.act), [])) := by
 refine goW [] Tryz.func94 rfl ?_
 conv => whnf
 repeat' ((first | refine T.s ?_ | ((first | apply goB | apply AB.dec | apply AB.gen) <;> intro h <;> try (exfalso; omega)) | refine LQ.mk fun r => ?_ | exact T.z | fail) <;> conv => whnf)
 all_goals (try dsimp only)
 all_goals
   (show RL _ _ _; refine goR ?_)
   rfl
theorem fndR_e (l : List Sn) (h : Hd) : qP l h = (if wF (l.findIdx? (jl h)) < 0 then wO l else l.findIdx? (jl h)) := by
 unfold qP ownI
 show (match l.findIdx? (jl h) with | some i => some i | none => wO l) = _
 cases l.findIdx? (jl h) with
 | none => rfl
 | some i => rw [if_neg (by simp [wF])]
theorem sidx0_l {P : Sn → Bool} (F : Nat) (hp : ∀ s : Sn, LP Tryz.prog G F [s.av] [] (fun _ => (.bool (P s), []))) (l : List Sn) (n : Nat) (hn : n = l.length) (hl : l.length ≤ 100000) : LP Tryz.prog G 78 [.sl n (l.flatMap Sn.cs), .lit (.func (.func F) #[] #[])] [] (fun _ => (iAV (wF (l.findIdx? P)), [])) :=
 (sidx0_c (G := G) F hp l n hn hl).warg fun σ w vs h => ⟨h.1, fun i hi => match i, hi with
   | 0, hi => h.2 0 hi
   | 1, hi => by
     have h1 : Rd σ w (.lit (.func (.func F) #[] #[])) (vs.getD 1 undef) := h.2 1 hi
     show Rd σ w (.clo (.func F) [] []) (vs.getD 1 undef)
     generalize vs.getD 1 undef = v at h1
     cases h1
     exact .clo _ _ _ _ _ rfl rfl (fun i hi => absurd hi (Nat.not_lt_zero _)) (fun i hi => absurd hi (Nat.not_lt_zero _))⟩
theorem cfind_c (c : Co) (h : Hd) (hl : c.cx.length ≤ 100000) (ha : ∀ i, i < c.cx.length → (c.at i).act = true → 0 < (c.at i).rf.length) : LP Tryz.prog G 47 [c.av, h.av] [] (fun _ => (j3 (qP c.cx h), [])) := by
 rw [fndR_e]
 refine goW [] Tryz.func47 rfl ?_
 conv => whnf
 repeat' ((first | (show LC _ _ _ _ _ _; first | (apply LC.upd (sidx_c 93 _ ⟨50, h.cs⟩ c.cx _ rfl (fun i hi => cfnd1_c _ _ h (ha i hi)) hl); (repeat first | refine goH ?_ | apply LH.here | apply LH.next); refine ⟨rfl, ?_⟩) | refine LC.pure (sidx0_l 94 cfnd2_c c.cx _ rfl hl) ?_ | refine goE ?_) | refine T.s ?_ | ((first | apply goB | apply AB.dec | apply AB.gen) <;> intro h <;> try (exfalso; omega)) | refine LQ.mk fun r => ?_ | exact T.z | fail) <;> conv => whnf)
 all_goals (try dsimp only)
 all_goals first
   | ((show RL _ _ _; refine goR ?_); rw [if_pos (by assumption)]; exact fndV_e _)
   | ((show RL _ _ _; refine goR ?_); rw [if_neg (by assumption)]; exact fndV_e _)
   | trace_state
end Go.Proofs.YtbagbjacmakfhaaGreatDoor
namespace Go.Proofs.YtbagbjacmakfhaaGreatDoor
open Go.RowKit
variable {G : Nat → AV}
theorem ku (a b : Hd) : LP Tryz.prog G 100 [a.av, b.av] [] (fun _ => ((qN a b).av, [])) := by
 have va := zR (G := G) a
 have vb := zR (G := G) b
 have hsm := vf (G := G) a b
 by_cases hg : a.ok = true ∧ b.ok = true ∧ a.k = 2 ∧ qt a b = true
 · obtain ⟨h1, h2, h3, h4⟩ := hg
   have hid := ok_id h1
   rw [h1] at va; rw [h2] at vb; rw [h4] at hsm
   rw [show qN a b = _ from if_pos ⟨h1, h2, h3, h4⟩]
   have hS := sg_rng 16 a.num b.num (by decide) (by decide)
   have hT := sg_rng 32 a.tm b.tm (by decide) (by decide)
   have e1 : q7 .add .i64 a.id (sg 16 a.num b.num) = a.id + sg 16 a.num b.num := by (exact T.num)
   have hD := tdiv_rng (s := sg 16 a.num b.num) hT
   have e2 : IntKind.i64.wrap ((sg 32 a.tm b.tm).tdiv (sg 16 a.num b.num)) = (sg 32 a.tm b.tm).tdiv (sg 16 a.num b.num) := by rw [IntKind.wrap_i64]; omega
   have hv := jA (G := G) ⟨IntKind.i64.wrap ((sg 32 a.tm b.tm).tdiv (sg 16 a.num b.num)), 0⟩
   have hv0 := jA (G := G) ⟨0, 0⟩
   obtain ⟨B, hB⟩ : ∃ B, Dy.ok ⟨IntKind.i64.wrap ((sg 32 a.tm b.tm).tdiv (sg 16 a.num b.num)), 0⟩ = B := ⟨_, rfl⟩
   rw [hB] at hv
   rw [show Dy.ok ⟨0, 0⟩ = true by simp [Dy.ok, inR]] at hv0
   refine goW [] Tryz.func100 rfl ?_
   conv => whnf
   repeat' ((first | exact Nm.b 0 | (show LC _ _ _ _ _ _; first | refine LC.pure (va) ?_ | refine LC.pure (vb) ?_ | refine LC.pure (hsm) ?_ | refine LC.pure (hv) ?_ | refine LC.pure (hv0) ?_ | refine LC.pure (kt _) ?_ | refine LC.pure (xl 16 _ _ (by decide) (by decide)) ?_ | refine LC.pure (xl 32 _ _ (by decide) (by decide)) ?_ | refine LC.pure (xU 16 _ (by decide) (by decide)) ?_ | refine goE ?_) | refine T.s ?_ | ((first | apply goB | apply AB.dec | apply AB.gen) <;> intro h <;> try (exfalso; omega)) | refine LQ.mk fun r => ?_ | (show SQ _ _ _ _ _ _ _; first | refine gX 4 [2, 1] [0, 2, 1, 3, 4, 5] [] ?_ | refine gX 10 [1, 6] [0, 1, 2, 3, 4, 5, 6, 7] [] ?_) | exact T.z | fail) <;> conv => whnf)
   all_goals (try dsimp only)
   all_goals
     (show RL _ _ _; refine goR ?_)
     clear va vb hsm hv hv0
     try rw [e1] at *
     try rw [e2] at *
     simp only [Dy.ok, inR, Bool.and_eq_true, decide_eq_true_eq, decide_eq_false_iff_not] at *
     generalize (sg 32 a.tm b.tm).tdiv (sg 16 a.num b.num) = V at *
     generalize (sg 32 a.tm b.tm).tmod (sg 16 a.num b.num) = W at *
     first | ((repeat first | rw [if_pos (by first | assumption | omega)] | rw [if_neg (by first | assumption | omega)]); rfl) | (have hT : (0 ≤ V ∧ V ≤ 65535) = (B = true) := (propext (by rw [← hB]; simp)); simp only [hT]; clear hB hT; (repeat' split) <;> first | rfl | (exfalso; simp_all; done))
 · rw [learnR_n hg]
   refine goW [] Tryz.func100 rfl ?_
   conv => whnf
   repeat' ((first | exact Nm.b 0 | (show LC _ _ _ _ _ _; first | refine LC.pure (va) ?_ | refine LC.pure (vb) ?_ | refine LC.pure (hsm) ?_ | refine goE ?_) | refine T.s ?_ | ((first | apply goB | apply AB.dec | apply AB.gen) <;> intro h <;> try (exfalso; omega)) | refine LQ.mk fun r => ?_ | (show SQ _ _ _ _ _ _ _; first | refine gX 4 [2, 1] [0, 2, 1, 3, 4, 5] [] ?_ | refine gX 10 [1, 6] [0, 1, 2, 3, 4, 5, 6, 7] [] ?_) | exact T.z | fail) <;> conv => whnf)
   all_goals (try dsimp only)
   all_goals first
     | ((show RL _ _ _; refine goR ?_); rfl)
     | (exfalso; simp_all [qt]; done)
def fitH (width k v r : Int) : Bool := zO width r && decide (lsbV width r k (lw k v) = v)
attribute [irreducible] fitH
theorem lfits_c (width : Int) (l : List Int) (k v : Int) (hl : l.length ≤ 100000) : LP Tryz.prog G 121 [iAV width, iv l, iAV k, iAV v] [] (fun _ => (.bool (xD width l k v), [])) := by
 have hw := lknown_c (G := G) width
 have e : xD width l k v = (jP width k v && l.all (fitH width k v)) := by unfold xD jP fitH; cases xt width <;> simp [Bool.and_assoc]
 rw [e]
 cases h1 : xt width with
 | false =>
   rw [h1] at hw
   have e0 : jP width k v = false := by unfold jP; rw [h1]; rfl
   rw [e0, Bool.false_and]
   refine goW [] Tryz.func121 rfl ?_
   conv => whnf
   repeat' ((first | (show LC _ _ _ _ _ _; first | refine LC.pure (hw) ?_ | refine goE ?_) | refine T.s ?_ | ((first | apply goB | apply AB.dec | apply AB.gen) <;> intro h <;> try (exfalso; omega)) | refine LQ.mk fun r => ?_ | exact T.z | fail) <;> conv => whnf)
   all_goals (try dsimp only)
   all_goals first | ((show RL _ _ _; refine goR ?_); rfl)
 | true =>
   have hn := yY h1
   rw [h1] at hw
   have hv := wK (G := G) width
   by_cases h2 : 3 ≤ k ∧ k ≤ width
   · cases h3 : zO width v with
     | false =>
       have e0 : jP width k v = false := by unfold jP; rw [h1, h3]; simp
       rw [e0, Bool.false_and]
       have hvv := wK (G := G) width v (by omega) (by omega)
       rw [h3] at hvv
       refine goW [] Tryz.func121 rfl ?_
       conv => whnf
       repeat' ((first | (show LC _ _ _ _ _ _; first | refine LC.pure (hw) ?_ | refine LC.pure (hvv) ?_ | refine goE ?_) | refine T.s ?_ | ((first | apply goB | apply AB.dec | apply AB.gen) <;> intro h <;> try (exfalso; omega)) | refine LQ.mk fun r => ?_ | exact T.z | fail) <;> conv => whnf)
       all_goals (try dsimp only)
       all_goals first | ((show RL _ _ _; refine goR ?_); rfl)
     | true =>
       have e0 : jP width k v = true := by unfold jP; rw [h1, h3]; simp [h2]
       rw [e0, Bool.true_and]
       have hvv := wK (G := G) width v (by omega) (by omega)
       rw [h3] at hvv
       have hf : ∀ r, ¬ (0 ≤ r ∧ r < 2 ^ width.toNat) → fitH width k v r = false := fun r h => by unfold fitH; rw [show zO width r = false from decide_eq_false h]; rfl
       have hvt : ∀ r, 0 ≤ r ∧ r < 2 ^ width.toNat → zO width r = true := fun r h => decide_eq_true h
       have hf2 : ∀ r, ¬ lsbV width r k (lw k v) = v → fitH width k v r = false := fun r h => by unfold fitH; simp [h]
       have hf3 : ∀ r, 0 ≤ r ∧ r < 2 ^ width.toNat → lsbV width r k (lw k v) = v → fitH width k v r = true := fun r h h' => by unfold fitH; rw [hvt r h, decide_eq_true h']; rfl
       refine goW [] Tryz.func121 rfl ?_
       conv => whnf
       repeat' ((first | (show LC _ _ _ _ _ _; first | refine LC.pure (hw) ?_ | refine LC.pure (hvv) ?_ | refine LC.pure (wK width _ (by omega) (by omega)) ?_ | refine LC.pure (xU k v (by omega) (by omega)) ?_ | refine LC.pure (ldec_c width _ k _ (by omega) (by omega) (by omega) (hvt _ (by assumption))) ?_ | refine goE ?_) | (show AC _ _ _; first | (refine AC.idx (i) (0) ?_ ?_ ?_; (focus (first | exact rfl | (simp; done) | (simp; omega))); (focus (first | omega | exact T.side)))) | refine T.s ?_ | ((first | apply goB | apply AB.dec | apply AB.gen) <;> intro h <;> try (exfalso; omega)) | refine LQ.mk fun r => ?_ | (show SQ _ _ _ (.loop _) _ _ _; first | (apply goO tQ [] 4 (S := Nat) [0, 2, 3, 29, 30] (fun i => ⟨[(31, .int .i64 i)], [], i ≤ l.length ∧ (l.take i).all (fitH width k v) = true, l.length - i⟩) (0) (by rfl); (focus (all_goals (try exact KCA0); done)); rintro i ⟨hk, hok⟩)) | (show AtL _ _ _ _ _ _ _ _ _ _; first | (apply AtL.mk' (id := 4) (S := Nat) (i + 1); all_goals (try exact KCA0); done) | (apply AtL.mk' (id := 4) (S := Nat) (i + 1); all_goals (try exact KCA0))) | exact T.z | fail) <;> conv => whnf)
       all_goals (try dsimp only)
       all_goals first
         | ((show RL _ _ _; refine goR ?_); rw [jJ l i 0 (by omega) (hf _ (by assumption))])
         | ((show RL _ _ _; refine goR ?_); rw [jJ l i 0 (by omega) (hf2 _ (by assumption))])
         | ((show RL _ _ _; refine goR ?_); rw [zm (by omega) hok])
         | trace_state
   · have e0 : jP width k v = false := by unfold jP; rw [decide_eq_false h2]; simp
     rw [e0, Bool.false_and]
     refine goW [] Tryz.func121 rfl ?_
     conv => whnf
     repeat' ((first | (show LC _ _ _ _ _ _; first | refine LC.pure (hw) ?_ | refine goE ?_) | refine T.s ?_ | ((first | apply goB | apply AB.dec | apply AB.gen) <;> intro h <;> try (exfalso; omega)) | refine LQ.mk fun r => ?_ | (show SQ _ _ _ (.loop _) _ _ _; first | (refine goL tQ [] 4 (S := Nat) [0, 2, 3, 29, 30] (fun i => ⟨[(31, .int .i64 i)], [], False, l.length - i⟩) (0) ?_; rintro i hok; (try dsimp only at hok))) | (show AtL _ _ _ _ _ _ _ _ _ _; first | (show AtL 4 _ _ _ _ _ _ _ _ _; exact goN 4 (S := Nat) (i + 1)) | (apply AtL.mk' (id := 4) (S := Nat) (i + 1); all_goals (try exact KC12))) | exact T.z | fail) <;> conv => whnf)
     all_goals (try dsimp only)
     all_goals first | ((show RL _ _ _; refine goR ?_); rfl)
end Go.Proofs.YtbagbjacmakfhaaGreatDoor
