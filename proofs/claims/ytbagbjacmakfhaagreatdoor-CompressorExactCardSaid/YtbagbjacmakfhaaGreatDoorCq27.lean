/-
  Contracts of the functions that the laws reach.
-/
import Derived.Test.YtbagbjacmakfhaaGreatDoorCq01
import Derived.Test.YtbagbjacmakfhaaGreatDoorCq02
import Derived.Test.YtbagbjacmakfhaaGreatDoorCq03
import Derived.Test.YtbagbjacmakfhaaGreatDoorCq04
import Derived.Test.YtbagbjacmakfhaaGreatDoorCq05
import Derived.Test.YtbagbjacmakfhaaGreatDoorCq06
import Derived.Test.YtbagbjacmakfhaaGreatDoorCq09
import Derived.Test.YtbagbjacmakfhaaGreatDoorCq10
import Derived.Test.YtbagbjacmakfhaaGreatDoorCq13
import Derived.Test.YtbagbjacmakfhaaGreatDoorCq14
import Derived.Test.YtbagbjacmakfhaaGreatDoorCq15
import Derived.Test.YtbagbjacmakfhaaGreatDoorCq16
import Derived.Test.YtbagbjacmakfhaaGreatDoorCq18
import Derived.Test.YtbagbjacmakfhaaGreatDoorCq22
import Derived.Test.YtbagbjacmakfhaaGreatDoorCq23
import Derived.Test.YtbagbjacmakfhaaGreatDoorCq26
set_option maxHeartbeats 1000000
set_option linter.all false
namespace Go.Proofs.YtbagbjacmakfhaaGreatDoor
open Go.RowKit
theorem LC.cofL {P : Program} {G : Nat → AV} {F : FuncId} {c : Co} {hd : Hd} {o : Option Nat} (i0 : Nat) {R : Nm} {l : LS} {K : AV → LS → Prop} (hs : LP P G F [c.av, hd.av] [] (fun _ => (j3 o, []))) (h : LH l R fun cc _ r => ∃ p, cc.cs = cpR c i0 p c.cx.length ∧ LH r p fun cc' _ _ => cc'.cs = (c.at i0).rf.flatMap Hd.cs) (k : K (j3 o) l) :
   LC P G F [.agg [.int .i64 c.m, .int .i64 c.w, .vw R 0 c.cx.length 9], hd.av] l K := by
 obtain ⟨p, h1, -⟩ := cop_row h
 exact LC.lend hs [R, p] ⟨LF.agg (xs := [.int .i64 c.m, .int .i64 c.w, .vw R 0 c.cx.length 9]) (ys := [iAV c.m, iAV c.w, snv c.cx]) ⟨.eq rfl, .eq rfl, h1, trivial⟩, .eq rfl, trivial⟩ (Flat.tup (Flat.cons (Flat.int _ _) (Flat.cons (Flat.bool _) Flat.nil))) k
theorem jH {G : Nat → AV} (c : Co) (hc : c.ok = true) (i0 : Nat) (hi : i0 < 16) : LSpecN Tryz.prog G 44 [c.av] [] 2 (fun q => (.agg [iAV c.m, iAV c.w, .vw (n0 q) 0 c.cx.length 9], [(n0 q, ⟨61, cpR c i0 (n1 q) c.cx.length⟩), (n1 q, ⟨50, (c.at i0).rf.flatMap Hd.cs⟩)])) :=
 cclone_c c i0 (by rw [qY hc]; exact hi) (by rw [qY hc]; decide) (co_rf hc)
theorem kU {G : Nat → AV} (c : Co) (hc : c.ok = true) (hd : Hd) : LP Tryz.prog G 47 [c.av, hd.av] [] (fun _ => (j3 (qP c.cx hd), [])) :=
 cfind_c c hd (by rw [qY hc]; decide) fun i hi ha => jf (co_sn hc i hi) ha
theorem ccomp_inv (c : Co) (b : List UInt8) (hc : c.ok = false) : LP Tryz.prog gm 18 [c.av, bv b] [] (fun _ => (cpr (qf c b), [])) := by
 have hv := zl (G := gm) c
 rw [hc] at hv
 rw [show qf c b = ((Co.z, []), 1) by unfold qf; rw [if_neg (by rw [hc]; decide)]]
 refine goW [] Tryz.func18 rfl ?_
 conv => whnf
 repeat' ((first | exact Nm.b 0 | (show LC _ _ _ _ _ _; first | refine LC.pure (hv) ?_ | refine goE ?_) | refine T.s ?_ | ((first | apply goB | apply AB.dec | apply AB.gen) <;> intro h <;> try (exfalso; omega)) | refine LQ.mk fun r => ?_ | (show SQ _ _ _ _ _ _ _; first | (refine goD tQ qd 11 [] [0, 1, 2, 3, 4, 5, 6, 7, 8, 9, 10, 11, 12] [] (by kernel_rfl) ?_) | (refine goD tQ qd 14 [2, 1] [0, 2, 1, 3, 4, 5] [] (by kernel_rfl) ?_) | (refine goD tQ qd 18 [3, 7] [0, 1, 2, 3, 4, 5, 6, 7, 8, 9, 10, 11] [] (by kernel_rfl) ?_) | (refine goD tQ qd 22 [] [0, 1, 2, 3, 4, 5, 6, 7, 8] [] (by kernel_rfl) ?_)) | exact T.z | fail) <;> conv => whnf)
 all_goals (try dsimp only)
 all_goals exact RL.co3
theorem ccomp_size (c : Co) (b : List UInt8) (hc : c.ok = true) (hb : b = [] ∨ 1500 < b.length) : LP Tryz.prog gm 18 [c.av, bv b] [] (fun _ => (cpr (qf c b), [])) := by
 have hv := zl (G := gm) c
 rw [hc] at hv
 rw [show qf c b = ((Co.z, []), 2) by unfold qf; rw [if_pos hc, if_pos hb]]
 have hb2 : b.length = 0 ∨ 1500 < b.length := by
   rcases hb with rfl | hb
   · exact .inl rfl
   · exact .inr hb
 clear hb
 refine goW [] Tryz.func18 rfl ?_
 conv => whnf
 repeat' ((first | exact Nm.b 0 | (show LC _ _ _ _ _ _; first | refine LC.pure (hv) ?_ | refine goE ?_) | refine T.s ?_ | ((first | apply goB | apply AB.dec | apply AB.gen) <;> intro h <;> try (exfalso; omega)) | refine LQ.mk fun r => ?_ | (show SQ _ _ _ _ _ _ _; first | (refine goD tQ qd 11 [] [0, 1, 2, 3, 4, 5, 6, 7, 8, 9, 10, 11, 12] [] (by kernel_rfl) ?_) | (refine goD tQ qd 14 [2, 1] [0, 2, 1, 3, 4, 5] [] (by kernel_rfl) ?_) | (refine goD tQ qd 18 [3, 7] [0, 1, 2, 3, 4, 5, 6, 7, 8, 9, 10, 11] [] (by kernel_rfl) ?_) | (refine goD tQ qd 22 [] [0, 1, 2, 3, 4, 5, 6, 7, 8] [] (by kernel_rfl) ?_)) | exact T.z | fail) <;> conv => whnf)
 all_goals (try dsimp only)
 all_goals first
   | exact RL.co3
   | trace_state
theorem ccomp_perr (c : Co) (b : List UInt8) (hc : c.ok = true) (hb : ¬ (b = [] ∨ 1500 < b.length)) (hp : ¬ (qg b).2 = 0) : LP Tryz.prog gm 18 [c.av, bv b] [] (fun _ => (cpr (qf c b), [])) := by
 have hv := zl (G := gm) c
 rw [hc] at hv
 rw [show qf c b = ((c, (zd (xy b)).1), 0) by unfold qf; rw [if_pos hc, if_neg hb, if_neg hp]]
 have hb2 : ¬ b.length = 0 ∧ b.length ≤ 1500 := ⟨fun h => hb (.inl (List.eq_nil_of_length_eq_zero h)), by have := fun h => hb (.inr h); omega⟩
 have hcp := jH (G := gm) c hc 0 (by decide)
 have hpr := jv (G := gm) b (by omega)
 have hfd := kU (G := gm) c hc (qg b).1.1
 generalize qP c.cx (qg b).1.1 = o at hfd
 refine goW [] Tryz.func18 rfl ?_
 conv => whnf
 repeat' ((first | ((with_reducible show AB (qo .neq (qg b).2 0) _ _); refine AB.neqT hp ?_) | ((with_reducible show AB (qo .eql _ 0) _ _); refine goF ?_ (by omega)) | ((with_reducible show AB (qo .gtr _ 1500) _ _); refine goF ?_ (by omega)) | (show LC _ _ 47 _ _ _; refine LC.cofL (c := c) (hd := (qg b).1.1) 0 hfd ?_ ?_; (focus ((repeat first | refine goH ?_ | apply LH.here | apply LH.next); refine ⟨_, rfl, ?_⟩; (repeat first | refine goH ?_ | apply LH.here | apply LH.next); rfl)); conv => whnf) | exact Nm.b 0 | (show LC _ _ _ _ _ _; first | refine LC.pure (hv) ?_ | refine LC.mkN (hcp) [] (LFs.refl _) ?_ | refine LC.pure (zH (xy b)) ?_ | refine LC.pure (hpr) ?_ | refine goE ?_) | refine T.s ?_ | ((first | apply goB | apply AB.dec | apply AB.gen) <;> intro h) | refine LQ.mk fun r => ?_ | refine LFreshN.two fun r r2 => ?_ | refine LFreshN.three fun r r2 r3 => ?_ | (show SQ _ _ _ _ _ _ _; first | (refine goD tQ qd 11 [] [0, 1, 2, 3, 4, 5, 6, 7, 8, 9, 10, 11, 12] [] (by kernel_rfl) ?_) | (refine goD tQ qd 14 [2, 1] [0, 2, 1, 3, 4, 5] [] (by kernel_rfl) ?_) | (refine goD tQ qd 18 [3, 7] [0, 1, 2, 3, 4, 5, 6, 7, 8, 9, 10, 11] [] (by kernel_rfl) ?_) | (refine goD tQ qd 22 [] [0, 1, 2, 3, 4, 5, 6, 7, 8] [] (by kernel_rfl) ?_)) | exact T.z | fail) <;> conv => whnf)
 all_goals (try dsimp only)
 all_goals first
   | (refine RL.cop (c := c) 0 (x := (zd (xy b)).1) (e := 0) ?_; (repeat first | refine goH ?_ | apply LH.here | apply LH.next); refine ⟨_, rfl, ?_⟩; (repeat first | refine goH ?_ | apply LH.here | apply LH.next); rfl)
   | trace_state
theorem ccomp_none (c : Co) (b : List UInt8) (hc : c.ok = true) (hb : ¬ (b = [] ∨ 1500 < b.length)) (hp : (qg b).2 = 0) (hf : qP c.cx (qg b).1.1 = none) : LP Tryz.prog gm 18 [c.av, bv b] [] (fun _ => (cpr (qf c b), [])) := by
 have hv := zl (G := gm) c
 rw [hc] at hv
 rw [show qf c b = ((c, (zd (xy b)).1), 0) by unfold qf; rw [if_pos hc, if_neg hb, if_pos hp, hf]]
 have hb2 : ¬ b.length = 0 ∧ b.length ≤ 1500 := ⟨fun h => hb (.inl (List.eq_nil_of_length_eq_zero h)), by have := fun h => hb (.inr h); omega⟩
 have hcp := jH (G := gm) c hc 0 (by decide)
 have hpr := jv (G := gm) b (by omega)
 rw [hp] at hpr
 have hfd := kU (G := gm) c hc (qg b).1.1
 rw [hf] at hfd
 refine goW [] Tryz.func18 rfl ?_
 conv => whnf
 repeat' ((first | ((with_reducible show AB (qo .eql _ 0) _ _); refine goF ?_ (by omega)) | ((with_reducible show AB (qo .gtr _ 1500) _ _); refine goF ?_ (by omega)) | (show LC _ _ 47 _ _ _; refine LC.cofL (c := c) (hd := (qg b).1.1) 0 hfd ?_ ?_; (focus ((repeat first | refine goH ?_ | apply LH.here | apply LH.next); refine ⟨_, rfl, ?_⟩; (repeat first | refine goH ?_ | apply LH.here | apply LH.next); rfl)); rw [show j3 none = AV.tup [.int .i64 (-1), .bool false] from rfl]; conv => whnf) | exact Nm.b 0 | (show LC _ _ _ _ _ _; first | refine LC.pure (hv) ?_ | refine LC.mkN (hcp) [] (LFs.refl _) ?_ | refine LC.pure (zH (xy b)) ?_ | refine LC.pure (hpr) ?_ | refine goE ?_) | refine T.s ?_ | ((first | apply goB | apply AB.dec | apply AB.gen) <;> intro h) | refine LQ.mk fun r => ?_ | refine LFreshN.two fun r r2 => ?_ | refine LFreshN.three fun r r2 r3 => ?_ | (show SQ _ _ _ _ _ _ _; first | (refine goD tQ qd 11 [] [0, 1, 2, 3, 4, 5, 6, 7, 8, 9, 10, 11, 12] [] (by kernel_rfl) ?_) | (refine goD tQ qd 14 [2, 1] [0, 2, 1, 3, 4, 5] [] (by kernel_rfl) ?_) | (refine goD tQ qd 18 [3, 7] [0, 1, 2, 3, 4, 5, 6, 7, 8, 9, 10, 11] [] (by kernel_rfl) ?_) | (refine goD tQ qd 22 [] [0, 1, 2, 3, 4, 5, 6, 7, 8] [] (by kernel_rfl) ?_)) | exact T.z | fail) <;> conv => whnf)
 all_goals (try dsimp only)
 all_goals first
   | (refine RL.cop (c := c) 0 (x := (zd (xy b)).1) (e := 0) ?_; (repeat first | refine goH ?_ | apply LH.here | apply LH.next); refine ⟨_, rfl, ?_⟩; (repeat first | refine goH ?_ | apply LH.here | apply LH.next); rfl)
   | trace_state
end Go.Proofs.YtbagbjacmakfhaaGreatDoor
