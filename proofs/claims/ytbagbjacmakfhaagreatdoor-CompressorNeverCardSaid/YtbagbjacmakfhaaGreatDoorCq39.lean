/-
  Contracts of the functions that the laws reach.
-/
import Derived.Test.YtbagbjacmakfhaaGreatDoorCq01
import Derived.Test.YtbagbjacmakfhaaGreatDoorCq02
import Derived.Test.YtbagbjacmakfhaaGreatDoorCq03
import Derived.Test.YtbagbjacmakfhaaGreatDoorCq04
import Derived.Test.YtbagbjacmakfhaaGreatDoorCq05
import Derived.Test.YtbagbjacmakfhaaGreatDoorCq06
import Derived.Test.YtbagbjacmakfhaaGreatDoorCq08
import Derived.Test.YtbagbjacmakfhaaGreatDoorCq09
import Derived.Test.YtbagbjacmakfhaaGreatDoorCq10
import Derived.Test.YtbagbjacmakfhaaGreatDoorCq11
import Derived.Test.YtbagbjacmakfhaaGreatDoorCq12
import Derived.Test.YtbagbjacmakfhaaGreatDoorCq13
import Derived.Test.YtbagbjacmakfhaaGreatDoorCq14
import Derived.Test.YtbagbjacmakfhaaGreatDoorCq15
import Derived.Test.YtbagbjacmakfhaaGreatDoorCq18
import Derived.Test.YtbagbjacmakfhaaGreatDoorCq22
import Derived.Test.YtbagbjacmakfhaaGreatDoorCq23
import Derived.Test.YtbagbjacmakfhaaGreatDoorCq34
import Derived.Test.YtbagbjacmakfhaaGreatDoorCq35
import Derived.Test.YtbagbjacmakfhaaGreatDoorCq36
set_option maxHeartbeats 4000000
set_option linter.all false
namespace Go.Proofs.YtbagbjacmakfhaaGreatDoor
open Go.RowKit
attribute [local irreducible] qf Co.ok
theorem nev_cut {y pl : List UInt8} (h : ∃ x, y = x ++ pl) : pl.length ≤ y.length ∧ y.drop (y.length - pl.length) = pl := by
 obtain ⟨x, rfl⟩ := h
 simp
theorem nev_c {c : Co} {b : List UInt8} (hc : c.ok = true) (hb : zt b) : ∃ kx kf : Int, LP Tryz.prog gm 26 [bv (qf c b).1.2] [] (fun _ => (.tup [iAV kx, iAV kf, iAV 0], [])) ∧ (¬ q7 .add .i64 (b.length : Int) 1 < ((qf c b).1.2.length : Int)) ∧
   ((kf = 6 ∧ ∃ e : Int, (¬ e = 0) ∧ (e == 0) = false ∧ LP Tryz.prog gm 25 [bv b] [] (fun _ => (.tup [(qg b).1.1.av, bv (qg b).1.2, iAV e], []))) ∨
    (kf = 6 ∧ LP Tryz.prog gm 25 [bv b] [] (fun _ => (.tup [(qg b).1.1.av, bv (qg b).1.2, iAV 0], [])) ∧ ¬ (qg b).1.1.num < 0) ∨
    ((¬ kf = 6) ∧ (kf == 6) = false ∧ LP Tryz.prog gm 25 [bv b] [] (fun _ => (.tup [(qg b).1.1.av, bv (qg b).1.2, iAV 0], [])) ∧ (¬ (qg b).1.1.num < 0) ∧ q7 .sub .i64 ((qf c b).1.2.length : Int) ((qg b).1.2.length : Int) = (((qf c b).1.2.length - (qg b).1.2.length : Nat) : Int) ∧
      LP Tryz.prog gm 20 [bv ((qf c b).1.2.drop ((qf c b).1.2.length - (qg b).1.2.length)), bv (qg b).1.2] [] (fun _ => (.bool true, [])))) := by
 obtain ⟨hl1, ⟨kx, kf, hpk, h6, hx⟩, hnum⟩ := never_step hc hb
 have h15 := hb.2
 have hpr := zX (G := gm) b (by omega)
 refine ⟨kx, kf, rpk hpk, by (exact T.num), ?_⟩
 by_cases e : (qg b).2 = 0
 · rw [e] at hpr
   by_cases k : kf = 6
   · exact .inr (.inl ⟨k, hpr, hnum e⟩)
   · have hq := nev_cut ((hx e).resolve_left k)
     refine .inr (.inr ⟨k, by simpa using k, hpr, hnum e, ?_, ?_⟩)
     · have := hq.1; (exact T.num)
     · rw [hq.2]; exact sameT_c _
 · exact .inl ⟨h6 e, _, e, by simpa using e, hpr⟩
theorem EClw3_1 {p : Prop} (h : p := by (repeat' first | exact trivial | (refine And.intro ?_ ?_) | exact LB.nil | (with_reducible exact LB.refl) | (apply LB.cons; (repeat first | refine goH ?_ | apply LH.here | apply LH.next); refine And.intro ?_ ?_; (focus (try (first | (with_reducible rfl) | (refine congrArg (Pl.mk _) ?_; (first | rfl | (simp; done))) | rfl | (with_reducible refine congrArg (Pl.mk _) ?_))))) | (with_reducible assumption) | (exact yz (by assumption) (xw hZ (by assumption))) | (show (_ : AV) = _; (first | (focus (apply Eq.trans; (conv => lhs; whnf); (conv => rhs; whnf); done)) | rfl | ((conv => lhs; whnf); first | rfl | (refine congrArg (AV.int _) ?_; (exact T.num)) | (refine congrArg AV.bool ?_; (exact T.num)) | (refine vwc ?_; first | (exact T.num) | (first | rfl | (simp; done))) | (refine qc ?_ ?_ <;> first | (exact T.num) | (first | rfl | (simp; done))) | (first | rfl | (simp; done))))) | ((with_reducible first | (show (_ : Int) ≤ _) | (show (_ : Int) < _) | (show (_ : Nat) ≤ _) | (show (_ : Nat) < _) | (show (_ : Int) = _) | (show (_ : Nat) = _)); (exact T.num)) | (first | rfl | (simp; done))); first | done | fail) : p := h
theorem never9_t (t : List Int) (mode : Int) (ht : t.length ≤ 400) : LP Tryz.prog gm 5 [iv t, iAV mode] [] (fun _ => (.bool true, [])) := by
 have hl := kN (G := gm) t
 rw [decide_eq_true ht] at hl
 have m1 := wJ mode 3 (by decide) (by decide)
 obtain ⟨m, hm⟩ : ∃ m, q7 .add .i64 1 (xC mode 3) = m := ⟨_, rfl⟩
 have hm2 : 1 ≤ m ∧ m ≤ 3 := by rw [← hm]; (exact T.num)
 have hN := cnewc_c (G := gm) m 2
 rw [wi ⟨hm2.1, hm2.2, by decide, by decide⟩] at hN
 have hP := fun p => kK (G := gm) t 0 3 40 false (by decide) (by decide) (by decide) (by decide) ht p
 have hZ := ym t 0 (3 : Int).toNat 40 false
 have hY := v9 t 0 (3 : Int).toNat 40 false (by decide) (by decide)
 generalize (jw t 0 (3 : Int).toNat 40 false) = K at hP hZ hY
 obtain ⟨Kh, L, Ka⟩ := K
 dsimp only at hP hZ hY
 have hI := vn (w := 2) hm2 (by decide)
 refine goW [] Tryz.func5 rfl ?_
 conv => whnf
 repeat' ((first | ((with_reducible show AB (qo .lss (Hd.num _) 0) _ _); refine goF ?_ hnum) | (show LC _ _ 23 _ _ _; (try rw [hm]); refine LC.pure hN ?_) | (show LC _ _ 18 _ _ _; have hs := xw hZ (by assumption); have hSz : (L.getD i []).length ≤ 1500 := hs.2; have hcp := cst_c c (L.getD i []) (by assumption) hs; obtain ⟨kx, kf, hpk, hT, hk⟩ := nev_c (c := c) (by assumption) hs; rcases hk with ⟨rfl, e, he, hee, hpr⟩ | ⟨rfl, hpr, hnum⟩ | ⟨hk6, hkb, hpr, hnum, hsub, hsm⟩ <;> refine LC.pure hcp ?_) | (show LC _ _ 20 _ _ _; rw [hsub, Int.toNat_natCast, Int.toNat_natCast, Nat.mul_one, Nat.mul_one, List.take_of_length_le (by simp)]; refine LC.pure hsm ?_) | exact Nm.b 0 | (refine And.intro ?_ ?_; (focus (first | (rw [hsub]; omega) | exact T.kx | exact T.side))) | (show LC _ _ _ _ _ _; first | refine LC.pure (hl) ?_ | refine LC.own (roll_c t) ?_ | refine LC.pure (mod_c _ _) ?_ | (apply LC.upd (hP _); (repeat first | refine goH ?_ | apply LH.here | apply LH.next); refine ⟨rfl, ?_⟩) | refine LC.pure (jI) ?_ | refine LC.pure (hpr) ?_ | refine LC.pure (hpk) ?_ | refine LC.pure (hsm) ?_ | refine LC.pure (za _) ?_ | refine goE ?_) | (show AC _ _ _; first | (refine AC.idx (f := bv) (l := L) i [] (by (try dsimp only); omega) ?_ ?_; (focus (have : (i : Int) < (L.length : Int) := (by assumption); omega)))) | refine T.s ?_ | ((first | apply goB | apply AB.dec | apply AB.gen) <;> intro h) | refine LQ.mk fun r => ?_ | (show SQ _ _ _ (.loop _) _ _ _; first | (apply goO tQ [] 7 (S := Nat × Co × Nm) [8] (fun (i, c, a) => ⟨[(9, .int .i64 i), (7, .int .i64 0), (6, .ptr a 0)], [(a, ⟨34, [iAV c.m, iAV c.w, snv c.cx]⟩)], i ≤ L.length ∧ L.length ≤ 202 ∧ c.ok = true, L.length - i⟩) ((0, ⟨m, 2, List.replicate 16 Sn.z⟩, _)) (by rfl); (focus (all_goals (try exact KD66); done)); rintro ⟨i, c, a⟩ ⟨hk, hk, hok⟩)) | (show SQ _ _ _ _ _ _ _; first | refine gX 10 [] [0, 1, 2, 3, 4, 5, 6, 7, 8, 9, 10, 11, 12] [a] ?_) | (show AtL 7 _ _ _ _ _ _ _ _ _; first | (apply AtL.mk' (id := 7) (S := Nat × Co × Nm) ((i + 1, (qf c (L.getD i [])).1.1, _)); focus (refine T.a5 ?_ ?_ ?_ ?_ <;> exact EClw3_1))) | (show (_ → _) ∧ (¬ _ → _); first | refine T.y ?_ | refine qm (fun h => ?_) (fun h => ?_)) | exact T.z | fail) <;> conv => whnf)
 all_goals (try dsimp only)
 all_goals first
   | ((show RL _ _ _; refine goR ?_); rfl)
   | trace_state
theorem never9_c (t : List Int) (mode : Int) : LP Tryz.prog gm 5 [iv t, iAV mode] [] (fun _ => (.bool true, [])) := by
 by_cases ht : t.length ≤ 400
 · exact never9_t t mode ht
 · have hl := kN (G := gm) t
   rw [decide_eq_false ht] at hl
   refine goW [] Tryz.func5 rfl ?_
   conv => whnf
   repeat' ((first | exact Nm.b 0 | (show LC _ _ _ _ _ _; first | refine LC.pure (hl) ?_ | refine LC.pure (jI) ?_ | refine goE ?_) | refine T.s ?_ | ((first | apply goB | apply AB.dec | apply AB.gen) <;> intro h <;> try (exfalso; omega)) | refine LQ.mk fun r => ?_ | (show SQ _ _ _ _ _ _ _; first | (refine goD tQ qd 10 [] [0, 1, 2, 3, 4, 5, 6, 7, 8, 9, 10, 11, 12] [] (by kernel_rfl) ?_)) | (show (_ → _) ∧ (¬ _ → _); first | refine T.y ?_ | refine qm (fun h => ?_) (fun h => ?_)) | exact T.z | fail) <;> conv => whnf)
   all_goals (try dsimp only)
   all_goals first | ((show RL _ _ _; refine goR ?_); rfl) | ((show RL _ _ _; refine goR ?_); simp; done) | (exfalso; simp_all; done) | trace_state
end Go.Proofs.YtbagbjacmakfhaaGreatDoor
