/-
  Contracts of the functions that the laws reach.
-/
import Derived.Test.YtbagbjacmakfhaaGreatDoorCq01
import Derived.Test.YtbagbjacmakfhaaGreatDoorCq02
import Derived.Test.YtbagbjacmakfhaaGreatDoorCq03
import Derived.Test.YtbagbjacmakfhaaGreatDoorCq04
import Derived.Test.YtbagbjacmakfhaaGreatDoorCq05
import Derived.Test.YtbagbjacmakfhaaGreatDoorCq06
import Derived.Test.YtbagbjacmakfhaaGreatDoorCq08
import Derived.Test.YtbagbjacmakfhaaGreatDoorCq09
import Derived.Test.YtbagbjacmakfhaaGreatDoorCq10
set_option maxHeartbeats 4000000
set_option linter.all false
namespace Go.Proofs.YtbagbjacmakfhaaGreatDoor
open Go.RowKit
variable {G : Nat → AV}
theorem LP.weak {P : Program} {f : FuncId} {args : List AV} {x y : AV} (h : LP P G f args [] (fun _ => (x, []))) (hw : ∀ σ w v, Rd σ w x v → Rd σ w y v) : LP P G f args [] (fun _ => (y, [])) := by
 unfold LP at h ⊢
 exact ⟨h.1, fun q => ⟨by simp, by simp⟩, fun τ w vs h1 h2 h3 h4 h5 => (h.2.2 τ w vs h1 h2 h3 h4 h5).mono fun e w' ⟨v, q, k1, k2, k3, k4, k5, k6⟩ => ⟨v, q, k1, k2, k3, hw _ _ _ k4, k5, k6⟩⟩
theorem LP.warg {P : Program} {f : FuncId} {args args' : List AV} {x : AV} (h : LP P G f args [] (fun _ => (x, []))) (hw : ∀ σ w vs, RdL σ w args' vs → RdL σ w args vs) : LP P G f args' [] (fun _ => (x, [])) := by
 unfold LP at h ⊢
 exact ⟨h.1, fun q => ⟨by simp, by simp⟩, fun τ w vs h1 h2 h3 h4 h5 => h.2.2 τ w vs h1 h2 h3 h4 (hw _ _ _ h5)⟩
theorem sameT_c (a : List UInt8) : LP Tryz.prog G 20 [bv a, bv a] [] (fun _ => (.bool true, [])) := by
 have h := same_c (G := G) a a
 rwa [decide_eq_true (rfl : a = a)] at h
open Go.RowKit
variable {G : Nat → AV}
def st2 (l : List UInt8) (a : Nat) (x : Int) : List UInt8 := (l.set (a + 1) (b8 x)).set a (b8 (x.fdiv 256))
def st4 (l : List UInt8) (a : Nat) (x : Int) : List UInt8 := (((l.set (a + 3) (b8 x)).set (a + 2) (b8 (x.fdiv 256))).set (a + 1) (b8 ((x.fdiv 256).fdiv 256))).set a (b8 (((x.fdiv 256).fdiv 256).fdiv 256))
@[simp] theorem st2_len (l : List UInt8) (a : Nat) (x : Int) : (st2 l a x).length = l.length := by simp [st2]
@[simp] theorem st4_len (l : List UInt8) (a : Nat) (x : Int) : (st4 l a x).length = l.length := by simp [st4]
theorem ix {a n : Nat} {k : Int} (ha : a ≤ 100000) (hk : k = (n : Int)) (hn : n ≤ 10) : 0 + (q7 .add .i64 (a : Int) k).toNat * 1 = a + n := by
 have : q7 .add .i64 (a : Int) k = ((a + n : Nat) : Int) := by (exact T.num)
 rw [this]; omega
theorem pput2_c (l : List UInt8) (a n : Nat) (x : Int) (h : a + 2 ≤ n) (hn : n ≤ l.length) (ha : a ≤ 100000) (p : Nm) : LP Tryz.prog G 130 [.vw p 0 n 1, iAV a, iAV 2, iAV x] [(p, ⟨5, l.map bAV⟩)] (fun _ => (.tup [], [(p, ⟨5, (st2 l a x).map bAV⟩)])) := by
 refine goW [] Tryz.func130 rfl ?_
 conv => whnf
 repeat' ((first | refine T.s ?_ | ((first | apply goB | apply AB.dec | apply AB.gen) <;> intro h <;> try (exfalso; omega)) | refine LQ.mk fun r => ?_ | (show SQ _ _ _ _ _ _ _; first | refine SQ.times 1 3 (by rfl) ?_ | refine AtL.step tQ [] ?_) | exact T.z | refine ⟨_, rfl, rfl, ?_⟩ | fail) <;> conv => whnf)
 all_goals (try dsimp only)
 all_goals
   refine RL.val rfl (LB.cons ?_)
   (repeat first | refine goH ?_ | apply LH.here | apply LH.next)
   refine And.intro (congrArg (Pl.mk _) ?_) LB.nil
   rw [ix ha (show q7 .sub .i64 (q7 .sub .i64 2 1) 1 = ((0 : Nat) : Int) from rfl) (by decide), ix ha (show q7 .sub .i64 2 1 = ((1 : Nat) : Int) from rfl) (by decide)]
   rfl
theorem pput4_c (l : List UInt8) (a n : Nat) (x : Int) (h : a + 4 ≤ n) (hn : n ≤ l.length) (ha : a ≤ 100000) (p : Nm) : LP Tryz.prog G 130 [.vw p 0 n 1, iAV a, iAV 4, iAV x] [(p, ⟨5, l.map bAV⟩)] (fun _ => (.tup [], [(p, ⟨5, (st4 l a x).map bAV⟩)])) := by
 refine goW [] Tryz.func130 rfl ?_
 conv => whnf
 repeat' ((first | refine T.s ?_ | ((first | apply goB | apply AB.dec | apply AB.gen) <;> intro h <;> try (exfalso; omega)) | refine LQ.mk fun r => ?_ | (show SQ _ _ _ _ _ _ _; first | refine SQ.times 1 5 (by rfl) ?_ | refine AtL.step tQ [] ?_) | exact T.z | refine ⟨_, rfl, rfl, ?_⟩ | fail) <;> conv => whnf)
 all_goals (try dsimp only)
 all_goals
   refine RL.val rfl (LB.cons ?_)
   (repeat first | refine goH ?_ | apply LH.here | apply LH.next)
   refine And.intro (congrArg (Pl.mk _) ?_) LB.nil
   rw [ix ha (show q7 .sub .i64 (q7 .sub .i64 (q7 .sub .i64 (q7 .sub .i64 4 1) 1) 1) 1 = ((0 : Nat) : Int) from rfl) (by decide), ix ha (show q7 .sub .i64 (q7 .sub .i64 (q7 .sub .i64 4 1) 1) 1 = ((1 : Nat) : Int) from rfl) (by decide), ix ha (show q7 .sub .i64 (q7 .sub .i64 4 1) 1 = ((2 : Nat) : Int) from rfl) (by decide), ix ha (show q7 .sub .i64 4 1 = ((3 : Nat) : Int) from rfl) (by decide)]
   rfl
theorem pput2v_c (l : List UInt8) (a n m : Nat) (x : Int) (h : a + 2 ≤ n) (hn : n ≤ l.length) (ha : a ≤ 100000) (p : Nm) : LP Tryz.prog G 130 [.vc p 0 n m 1, iAV a, iAV 2, iAV x] [(p, ⟨5, l.map bAV⟩)] (fun _ => (.tup [], [(p, ⟨5, (st2 l a x).map bAV⟩)])) := by
 refine goW [] Tryz.func130 rfl ?_
 conv => whnf
 repeat' ((first | refine T.s ?_ | ((first | apply goB | apply AB.dec | apply AB.gen) <;> intro h <;> try (exfalso; omega)) | refine LQ.mk fun r => ?_ | (show SQ _ _ _ _ _ _ _; first | refine SQ.times 1 3 (by rfl) ?_ | refine AtL.step tQ [] ?_) | exact T.z | refine ⟨_, rfl, rfl, ?_⟩ | fail) <;> conv => whnf)
 all_goals (try dsimp only)
 all_goals
   refine RL.val rfl (LB.cons ?_)
   (repeat first | refine goH ?_ | apply LH.here | apply LH.next)
   refine And.intro (congrArg (Pl.mk _) ?_) LB.nil
   rw [ix ha (show q7 .sub .i64 (q7 .sub .i64 2 1) 1 = ((0 : Nat) : Int) from rfl) (by decide), ix ha (show q7 .sub .i64 2 1 = ((1 : Nat) : Int) from rfl) (by decide)]
   rfl
theorem pput4v_c (l : List UInt8) (a n m : Nat) (x : Int) (h : a + 4 ≤ n) (hn : n ≤ l.length) (ha : a ≤ 100000) (p : Nm) : LP Tryz.prog G 130 [.vc p 0 n m 1, iAV a, iAV 4, iAV x] [(p, ⟨5, l.map bAV⟩)] (fun _ => (.tup [], [(p, ⟨5, (st4 l a x).map bAV⟩)])) := by
 refine goW [] Tryz.func130 rfl ?_
 conv => whnf
 repeat' ((first | refine T.s ?_ | ((first | apply goB | apply AB.dec | apply AB.gen) <;> intro h <;> try (exfalso; omega)) | refine LQ.mk fun r => ?_ | (show SQ _ _ _ _ _ _ _; first | refine SQ.times 1 5 (by rfl) ?_ | refine AtL.step tQ [] ?_) | exact T.z | refine ⟨_, rfl, rfl, ?_⟩ | fail) <;> conv => whnf)
 all_goals (try dsimp only)
 all_goals
   refine RL.val rfl (LB.cons ?_)
   (repeat first | refine goH ?_ | apply LH.here | apply LH.next)
   refine And.intro (congrArg (Pl.mk _) ?_) LB.nil
   rw [ix ha (show q7 .sub .i64 (q7 .sub .i64 (q7 .sub .i64 (q7 .sub .i64 4 1) 1) 1) 1 = ((0 : Nat) : Int) from rfl) (by decide), ix ha (show q7 .sub .i64 (q7 .sub .i64 (q7 .sub .i64 4 1) 1) 1 = ((1 : Nat) : Int) from rfl) (by decide), ix ha (show q7 .sub .i64 (q7 .sub .i64 4 1) 1 = ((2 : Nat) : Int) from rfl) (by decide), ix ha (show q7 .sub .i64 4 1 = ((3 : Nat) : Int) from rfl) (by decide)]
   rfl
attribute [irreducible] st2 st4
open Go.RowKit
variable {G : Nat → AV}
theorem fdiv2 (x : Int) : (x.fdiv 256).fdiv 256 = x.fdiv 65536 := by
 rw [Int.fdiv_eq_ediv_of_nonneg _ (by decide), Int.fdiv_eq_ediv_of_nonneg _ (by decide), Int.fdiv_eq_ediv_of_nonneg _ (by decide)]
 omega
theorem fdiv3 (x : Int) : ((x.fdiv 256).fdiv 256).fdiv 256 = x.fdiv 16777216 := by
 rw [fdiv2, Int.fdiv_eq_ediv_of_nonneg _ (by decide), Int.fdiv_eq_ediv_of_nonneg _ (by decide), Int.fdiv_eq_ediv_of_nonneg _ (by decide)]
 omega
theorem putB2 (x : Int) : qx x 2 = [b8 (x.fdiv 256), b8 x] := by
 show [b8 (x.fdiv 256), b8 (x.fdiv 1)] = _
 rw [Int.fdiv_one]
theorem putB4 (x : Int) : qx x 4 = [b8 (((x.fdiv 256).fdiv 256).fdiv 256), b8 ((x.fdiv 256).fdiv 256), b8 (x.fdiv 256), b8 x] := by
 rw [fdiv3, fdiv2]
 show [b8 (x.fdiv 16777216), b8 (x.fdiv 65536), b8 (x.fdiv 256), b8 (x.fdiv 1)] = _
 rw [Int.fdiv_one]
theorem headL_1 {h : Hd} (k : h.k = 1) : qy h = [69, b8 h.tos, 0, 0, b8 (h.id.fdiv 256), b8 h.id, b8 (64 * h.fx), 0, b8 h.ttl, 17, 0, 0, b8 (((h.fr.fdiv 256).fdiv 256).fdiv 256), b8 ((h.fr.fdiv 256).fdiv 256), b8 (h.fr.fdiv 256), b8 h.fr,
   b8 (((h.to.fdiv 256).fdiv 256).fdiv 256), b8 ((h.to.fdiv 256).fdiv 256), b8 (h.to.fdiv 256), b8 h.to, b8 (h.fp.fdiv 256), b8 h.fp, b8 (h.tp.fdiv 256), b8 h.tp, 0, 0, b8 (h.ck.fdiv 256), b8 h.ck] := by
 unfold qy
 rw [if_neg (by omega)]
 simp only [putB2, putB4]
 rfl
theorem headL_2 {h : Hd} (k : h.k = 2) : qy h = [69, b8 h.tos, 0, 0, b8 (h.id.fdiv 256), b8 h.id, b8 (64 * h.fx), 0, b8 h.ttl, 17, 0, 0, b8 (((h.fr.fdiv 256).fdiv 256).fdiv 256), b8 ((h.fr.fdiv 256).fdiv 256), b8 (h.fr.fdiv 256), b8 h.fr,
   b8 (((h.to.fdiv 256).fdiv 256).fdiv 256), b8 ((h.to.fdiv 256).fdiv 256), b8 (h.to.fdiv 256), b8 h.to, b8 (h.fp.fdiv 256), b8 h.fp, b8 (h.tp.fdiv 256), b8 h.tp, 0, 0, b8 (h.ck.fdiv 256), b8 h.ck,
   128, b8 (128 * h.mr + h.ty), b8 (h.sq.fdiv 256), b8 h.sq, b8 (((h.tm.fdiv 256).fdiv 256).fdiv 256), b8 ((h.tm.fdiv 256).fdiv 256), b8 (h.tm.fdiv 256), b8 h.tm, b8 (((h.sr.fdiv 256).fdiv 256).fdiv 256), b8 ((h.sr.fdiv 256).fdiv 256), b8 (h.sr.fdiv 256), b8 h.sr] := by
 unfold qy
 rw [if_pos k]
 simp only [putB2, putB4]
 rfl
theorem updW {P : Program} {f : FuncId} {args : List AV} {p : Nm} {n t : Nat} {R : List UInt8 → List UInt8} {K : AV → LS → Prop} {l : LS} (hs : ∀ L : List UInt8, n ≤ L.length → LP P G f args [(p, ⟨t, L.map bAV⟩)] fun _ => (.tup [], [(p, ⟨t, (R L).map bAV⟩)]))
   (hk : LH l p fun c s _ => ∃ L : List UInt8, c = ⟨t, L.map bAV⟩ ∧ n ≤ L.length ∧ K (.tup []) (s ⟨t, (R L).map bAV⟩)) : LC P G f args l K := by
 obtain ⟨l1, c, l2, rfl, L, rfl, h2, h3⟩ := hk.ex
 exact LC.upd (hs L h2) ⟨l1, _, l2, rfl, rfl, h3⟩
theorem phead_n (h : Hd) (k : h.ok = false) : LP Tryz.prog G 105 [h.av] [] (fun _ => (.nils, [])) := by
 have hv := zR (G := G) h
 rw [k] at hv
 refine goW [] Tryz.func105 rfl ?_
 conv => whnf
 repeat' ((first | exact Nm.b 0 | (show LC _ _ _ _ _ _; first | refine LC.pure (hv) ?_ | refine goE ?_) | refine T.s ?_ | ((first | apply goB | apply AB.dec | apply AB.gen) <;> intro h <;> try (exfalso; omega)) | refine LQ.mk fun r => ?_ | (show SQ _ _ _ _ _ _ _; first | (refine goD tQ qd 4 [3, 6] [0, 1, 2, 3, 4, 5, 6, 7, 8] [] (by kernel_rfl) ?_) | (refine goD tQ qd 15 [3, 6, 10] [0, 1, 2, 3, 4, 5, 6, 7, 8, 9, 10, 11, 12] [] (by kernel_rfl) ?_)) | (show (_ → _) ∧ (¬ _ → _); first | refine T.y ?_ | refine qm (fun h => ?_) (fun h => ?_)) | exact T.z | refine ⟨_, rfl, rfl, ?_⟩ | fail) <;> conv => whnf)
 all_goals (try dsimp only)
 all_goals
   (show RL _ _ _; refine goR ?_)
   rfl
theorem bAV69 : AV.int .u8 69 = bAV (69 : UInt8) := rfl
theorem bAV17 : AV.int .u8 17 = bAV (17 : UInt8) := rfl
theorem bAV128 : AV.int .u8 128 = bAV (128 : UInt8) := rfl
theorem fx64 {x : Int} (h : 0 ≤ x ∧ x ≤ 1) : q7 .mul .i64 64 x = 64 * x := by (exact T.num)
theorem mt128 {x y : Int} (h : 0 ≤ x ∧ x ≤ 1) (h2 : 0 ≤ y ∧ y ≤ 127) : q7 .add .i64 (q7 .mul .i64 128 x) y = 128 * x + y := by (exact T.num)
theorem phead_1 (h : Hd) (ko : h.ok = true) (k : h.k = 1) : LP Tryz.prog G 105 [h.av] [] (fun q => (.vc q 0 28 40 1, [(q, ⟨5, (qy h ++ List.replicate 12 0).map bAV⟩)])) := by
 have hv := zR (G := G) h
 rw [ko] at hv
 have hfx := fx64 (h.of ko).2.2.2.2.2.2.2.1
 refine goW [] Tryz.func105 rfl ?_
 conv => whnf
 repeat' ((first | (show LC _ _ _ _ _ _; refine updW (fun l h1 => pput2v_c l _ _ _ _ (by decide) h1 (by decide) _) ?_; (repeat first | refine goH ?_ | apply LH.here | apply LH.next); refine ⟨_, rfl, (by simp), ?_⟩; conv => whnf) | (show LC _ _ _ _ _ _; refine updW (fun l h1 => pput4v_c l _ _ _ _ (by decide) h1 (by decide) _) ?_; (repeat first | refine goH ?_ | apply LH.here | apply LH.next); refine ⟨_, rfl, (by simp), ?_⟩; conv => whnf) | exact Nm.b 0 | (show LC _ _ _ _ _ _; first | refine LC.pure (hv) ?_ | refine goE ?_) | (show AQ _ _; first | (refine AQ.eq (cs' := (List.replicate 40 (0 : UInt8)).map bAV) rfl ?_) | (with_reducible refine AQ.set (x := b8 _) (qR _).symm ?_ ?_; (focus (simp; done))) | (with_reducible refine AQ.set (f := bAV) (x := (69 : UInt8)) bAV69 ?_ ?_; (focus (simp; done))) | (with_reducible refine AQ.set (f := bAV) (x := (17 : UInt8)) bAV17 ?_ ?_; (focus (simp; done)))) | refine T.s ?_ | ((first | apply goB | apply AB.dec | apply AB.gen) <;> intro h <;> try (exfalso; omega)) | refine LQ.mk fun r => ?_ | (show SQ _ _ _ _ _ _ _; first | refine gX 4 [3, 6] [0, 1, 2, 3, 4, 5, 6, 7, 8] [r] ?_ | refine gX 15 [3, 6, 10] [0, 1, 2, 3, 4, 5, 6, 7, 8, 9, 10, 11, 12] [r] ?_) | (show (_ → _) ∧ (¬ _ → _); first | refine T.y ?_ | refine qm (fun h => ?_) (fun h => ?_)) | exact T.z | refine ⟨_, rfl, rfl, ?_⟩ | fail) <;> conv => whnf)
 all_goals (try dsimp only)
 all_goals
   refine RL.own r rfl ?_ ?_
   · (repeat first | refine goH ?_ | apply LH.here | apply LH.next); trivial
   · refine LB.cons ?_
     (repeat first | refine goH ?_ | apply LH.here | apply LH.next)
     refine And.intro (congrArg (Pl.mk _) (congrArg (List.map bAV) ?_)) LB.nil
     rw [hfx, headL_1 k]
     kernel_rfl
theorem phead_2 (h : Hd) (ko : h.ok = true) (k : h.k = 2) : LP Tryz.prog G 105 [h.av] [] (fun q => (.vw q 0 40 1, [(q, ⟨5, (qy h).map bAV⟩)])) := by
 have hv := zR (G := G) h
 rw [ko] at hv
 have hfx := fx64 (h.of ko).2.2.2.2.2.2.2.1
 have hmt := mt128 (h.of ko).2.2.2.2.2.2.2.2.2.2.1 (h.of ko).2.2.2.2.2.2.2.2.2.2.2.1
 refine goW [] Tryz.func105 rfl ?_
 conv => whnf
 repeat' ((first | (show LC _ _ _ _ _ _; refine updW (fun l h1 => pput2v_c l _ _ _ _ (by decide) h1 (by decide) _) ?_; (repeat first | refine goH ?_ | apply LH.here | apply LH.next); refine ⟨_, rfl, (by simp), ?_⟩; conv => whnf) | (show LC _ _ _ _ _ _; refine updW (fun l h1 => pput2_c l _ _ _ (by decide) h1 (by decide) _) ?_; (repeat first | refine goH ?_ | apply LH.here | apply LH.next); refine ⟨_, rfl, (by simp), ?_⟩; conv => whnf) | (show LC _ _ _ _ _ _; refine updW (fun l h1 => pput4_c l _ _ _ (by decide) h1 (by decide) _) ?_; (repeat first | refine goH ?_ | apply LH.here | apply LH.next); refine ⟨_, rfl, (by simp), ?_⟩; conv => whnf) | (show LC _ _ _ _ _ _; refine updW (fun l h1 => pput4v_c l _ _ _ _ (by decide) h1 (by decide) _) ?_; (repeat first | refine goH ?_ | apply LH.here | apply LH.next); refine ⟨_, rfl, (by simp), ?_⟩; conv => whnf) | exact Nm.b 0 | (show LC _ _ _ _ _ _; first | refine LC.pure (hv) ?_ | refine goE ?_) | (show AQ _ _; first | (refine AQ.eq (cs' := (List.replicate 40 (0 : UInt8)).map bAV) rfl ?_) | (with_reducible refine AQ.set (x := b8 _) (qR _).symm ?_ ?_; (focus (simp; done))) | (with_reducible refine AQ.set (f := bAV) (x := (69 : UInt8)) bAV69 ?_ ?_; (focus (simp; done))) | (with_reducible refine AQ.set (f := bAV) (x := (17 : UInt8)) bAV17 ?_ ?_; (focus (simp; done))) | (with_reducible refine AQ.set (f := bAV) (x := (128 : UInt8)) bAV128 ?_ ?_; (focus (simp; done)))) | refine T.s ?_ | ((first | apply goB | apply AB.dec | apply AB.gen) <;> intro h <;> try (exfalso; omega)) | refine LQ.mk fun r => ?_ | (show SQ _ _ _ _ _ _ _; first | refine gX 4 [3, 6] [0, 1, 2, 3, 4, 5, 6, 7, 8] [r] ?_ | refine gX 15 [3, 6, 10] [0, 1, 2, 3, 4, 5, 6, 7, 8, 9, 10, 11, 12] [r] ?_) | (show (_ → _) ∧ (¬ _ → _); first | refine T.y ?_ | refine qm (fun h => ?_) (fun h => ?_)) | exact T.z | refine ⟨_, rfl, rfl, ?_⟩ | fail) <;> conv => whnf)
 all_goals (try dsimp only)
 all_goals
   refine RL.own r rfl ?_ ?_
   · (repeat first | refine goH ?_ | apply LH.here | apply LH.next); trivial
   · refine LB.cons ?_
     (repeat first | refine goH ?_ | apply LH.here | apply LH.next)
     refine And.intro (congrArg (Pl.mk _) (congrArg (List.map bAV) ?_)) LB.nil
     rw [hfx, hmt, headL_2 k]
     kernel_rfl
open Go.RowKit
variable {G : Nat → AV}
def fnx (y : Int) : Int := y % 65536 + y / 65536
theorem fold_e {y : Int} (h0 : 0 ≤ y) (h : y ≤ 1000000000000000) : q7 .add .i64 (y.tmod 65536) (IntKind.i64.wrap (y.tdiv 65536)) = fnx y := by
 unfold fnx
 rw [Int.tmod_eq_emod_of_nonneg h0, Int.tdiv_eq_ediv_of_nonneg h0]
 (exact T.num)
theorem fold_e2 {y x : Int} (h : 65535 < y) (h2 : qD y = qD x) : qD (fnx y) = qD x := (foldR_step h).trans h2
theorem fold_e3 {y : Int} (h : 65535 < y) : 0 ≤ fnx y ∧ fnx y < y := by unfold fnx; omega
theorem cfold_c (x : Int) (h0 : 0 ≤ x) (h : x ≤ 1000000000000000) : LP Tryz.prog G 150 [iAV x] [] (fun _ => (iAV (qD x), [])) := by
 refine goW [] Tryz.func150 rfl ?_
 conv => whnf
 repeat' ((first | refine T.s ?_ | ((first | apply goB | apply AB.dec | apply AB.gen) <;> intro h <;> try (exfalso; omega)) | refine LQ.mk fun r => ?_ | (show SQ _ _ _ (.loop _) _ _ _; first | (apply goO tQ [] 3 (S := Int) [] (fun y => ⟨[(0, .int .i64 y)], [], 0 ≤ y ∧ y ≤ x ∧ qD y = qD x, y.toNat⟩) (x) (by rfl); (focus (all_goals (try exact K6CC); done)); rintro y ⟨hk, hk, hok⟩)) | (show AtL _ _ _ _ _ _ _ _ _ _; first | (apply AtL.mk' (id := 3) (S := Int) (fnx y); all_goals (try exact K6CC); done) | (apply AtL.mk' (id := 3) (S := Int) (fnx y); all_goals (try exact K6CC))) | exact T.z | fail) <;> conv => whnf)
 all_goals (try dsimp only)
 all_goals
   (show RL _ _ _; refine goR ?_)
   rw [← hok, foldR_id (by assumption) (by assumption)]
   rfl
theorem vA (x : Int) (h0 : 0 ≤ x) (h : x ≤ 1000000000000000) : LP Tryz.prog G 148 [iAV x] [] (fun _ => (iAV (qD x), [])) := by
 refine goW [] Tryz.func148 rfl ?_
 conv => whnf
 repeat' ((first | refine T.s ?_ | ((first | apply goB | apply AB.dec | apply AB.gen) <;> intro h <;> try (exfalso; omega)) | refine LQ.mk fun r => ?_ | (show SQ _ _ _ (.loop _) _ _ _; first | (apply goO tQ [] 3 (S := Int) [] (fun y => ⟨[(0, .int .i64 y)], [], 0 ≤ y ∧ y ≤ x ∧ qD y = qD x, y.toNat⟩) (x) (by rfl); (focus (all_goals (try exact K6CC); done)); rintro y ⟨hk, hk, hok⟩)) | (show AtL _ _ _ _ _ _ _ _ _ _; first | (apply AtL.mk' (id := 3) (S := Int) (fnx y); all_goals (try exact K6CC); done) | (apply AtL.mk' (id := 3) (S := Int) (fnx y); all_goals (try exact K6CC))) | exact T.z | fail) <;> conv => whnf)
 all_goals (try dsimp only)
 all_goals
   (show RL _ _ _; refine goR ?_)
   rw [← hok, foldR_id (by assumption) (by assumption)]
   rfl
theorem shl8 {c : Nat} (h : c < 256) : IntKind.i64.wrap (IntKind.i64.wrap (c : Int) * 2 ^ min (8 : Int).toNat IntKind.i64.bits) = 256 * (c : Int) := by
 rw [show (2 : Int) ^ min (8 : Int).toNat IntKind.i64.bits = 256 by decide, IntKind.wrap_i64, IntKind.wrap_i64]
 omega
theorem cadd_e {s w c d : Int} {k : Nat} (h0 : 0 ≤ s ∧ s ≤ 65535) (hk : k ≤ 1000000) (hw : 0 ≤ w ∧ w ≤ 65535 * (k : Int)) (hc : 0 ≤ c ∧ c < 256) (hd : 0 ≤ d ∧ d < 256) : q7 .add .i64 (q7 .add .i64 (s + w) (256 * c)) (IntKind.i64.wrap d) = s + (w + (256 * c + d)) := by
 (exact T.num)
theorem cadd_e1 {s w c : Int} {k : Nat} (h0 : 0 ≤ s ∧ s ≤ 65535) (hk : k ≤ 1000000) (hw : 0 ≤ w ∧ w ≤ 65535 * (k : Int)) (hc : 0 ≤ c ∧ c < 256) : q7 .add .i64 (s + w) (256 * c) = s + (w + (256 * c + 0)) := by
 (exact T.num)
theorem cstart (F : Int) (l : List UInt8) : F = F + z5 (l.take (2 * 0)) := by
 rw [Nat.mul_zero, List.take_zero, wsum_nil, Int.add_zero]
theorem cstep {F : Int} {l : List UInt8} {j : Nat} (hF : 0 ≤ F ∧ F ≤ 65535) (hl : l.length ≤ 1000000) (h : ((2 * j : Nat) : Int) < (l.length : Int)) : q7 .add .i64 (q7 .add .i64 (F + z5 (l.take (2 * j))) (IntKind.i64.wrap (IntKind.i64.wrap ((l.getD (2 * j) 0).toNat : Int) * 2 ^ min (8 : Int).toNat IntKind.i64.bits))) (IntKind.i64.wrap ((l.getD (2 * j + 1) 0).toNat : Int)) = F + z5 (l.take (2 * (j + 1))) := by
 have h1 := (l.getD (2 * j) 0).toNat_lt
 have h2 := (l.getD (2 * j + 1) 0).toNat_lt
 rw [kE l j (by omega), shl8 h1]
 exact cadd_e hF (k := 1000000) (by omega) (xS _ 1000000 (by simp; omega)) (by omega) (by omega)
theorem cstep1 {F : Int} {l : List UInt8} {j : Nat} (hF : 0 ≤ F ∧ F ≤ 65535) (hl : l.length ≤ 1000000) (h : ((2 * j : Nat) : Int) < (l.length : Int)) (h3 : ¬ q7 .add .i64 ((2 * j : Nat) : Int) 1 < (l.length : Int)) : q7 .add .i64 (F + z5 (l.take (2 * j))) (IntKind.i64.wrap (IntKind.i64.wrap ((l.getD (2 * j) 0).toNat : Int) * 2 ^ min (8 : Int).toNat IntKind.i64.bits)) = F + z5 (l.take (2 * (j + 1))) := by
 have h1 := (l.getD (2 * j) 0).toNat_lt
 have e : q7 .add .i64 ((2 * j : Nat) : Int) 1 = ((2 * j : Nat) : Int) + 1 := by (exact T.num)
 rw [e] at h3
 rw [kE l j (by omega), shl8 h1, show l.getD (2 * j + 1) 0 = 0 by rw [List.getD_eq_getElem?_getD, List.getElem?_eq_none (by omega)]; rfl]
 exact cadd_e1 hF (k := 1000000) (by omega) (xS _ 1000000 (by simp; omega)) (by omega)
theorem cnext6 {j : Nat} (h : j ≤ 1000000) : q7 .add .i64 ((2 * j : Nat) : Int) 2 = ((2 * (j + 1) : Nat) : Int) := by (exact T.num)
theorem ix1 {j : Nat} (h : j ≤ 1000000) : (q7 .add .i64 ((2 * j : Nat) : Int) 1).toNat * 1 = 2 * j + 1 := by
 have e : q7 .add .i64 ((2 * j : Nat) : Int) 1 = ((2 * j + 1 : Nat) : Int) := by (exact T.num)
 rw [e]; omega
theorem ix2 {j n : Nat} (h : j ≤ 1000000) (h2 : q7 .add .i64 ((2 * j : Nat) : Int) 1 < (n : Int)) : 2 * j + 1 < n := by
 have e : q7 .add .i64 ((2 * j : Nat) : Int) 1 = ((2 * j + 1 : Nat) : Int) := by (exact T.num)
 rw [e] at h2; omega
theorem cadd_c (s : Int) (l : List UInt8) (h0 : 0 ≤ s) (h : s ≤ 1000000000) (hl : l.length ≤ 1000000) : LP Tryz.prog G 144 [iAV s, bv l] [] (fun _ => (iAV (qD (s + z5 l)), [])) := by
 have hf := xo s
 have hw := xS l 1000000 (by omega)
 have hz : ∀ j : Nat, 2 * j ≤ l.length + 1 → ¬ ((2 * j : Nat) : Int) < (l.length : Int) → qD s + z5 (l.take (2 * j)) = qD s + z5 l := fun j _ h => by rw [List.take_of_length_le (by omega)]
 refine goW [] Tryz.func144 rfl ?_
 conv => whnf
 repeat' ((first | (show LC _ _ _ _ _ _; refine LC.eq (congrArg (fun z => [AV.int .i64 z]) (hz j hok (by assumption))) ?_; refine LC.pure (cfold_c _ (by omega) (by omega)) ?_; conv => whnf) | (show LC _ _ _ _ _ _; refine LC.pure (cfold_c s h0 (by omega)) ?_; conv => whnf) | (show AC _ _ _; first | (refine AC.idx (2 * j + 1) 0 (ix1 (by omega)) ?_ ?_; (focus (exact ix2 (by omega) (by assumption)))) | (refine AC.idx (2 * j) 0 (Nat.mul_one _) ?_ ?_; (focus omega))) | refine T.s ?_ | ((first | apply goB | apply AB.dec | apply AB.gen) <;> intro h <;> try (exfalso; omega)) | refine LQ.mk fun r => ?_ | (show SQ _ _ _ (.loop _) _ _ _; first | (apply goO tQ [] 3 (S := Nat) [1] (fun j => ⟨[(6, .int .i64 ((2 * j : Nat) : Int)), (5, .int .i64 (qD s + z5 (l.take (2 * j))))], [], 2 * j ≤ l.length + 1, l.length + 1 - j⟩) (0) (by rfl); (focus (all_goals (try exact KB44); done)); rintro j hok; (try dsimp only at hok))) | (show AtL _ _ _ _ _ _ _ _ _ _; first | (apply AtL.mk' (id := 3) (S := Nat) (j + 1); all_goals (try exact KB44); done) | (apply AtL.mk' (id := 3) (S := Nat) (j + 1); all_goals (try exact KB44))) | exact T.z | refine ⟨_, rfl, rfl, ?_⟩ | fail) <;> conv => whnf)
 all_goals (try dsimp only)
 all_goals
   (show RL _ _ _; refine goR ?_)
   rw [foldR_add h0 hw.1]
   rfl
theorem csum4_c (l : List UInt8) (hl : l.length ≤ 1000000) : LP Tryz.prog G 131 [bv l] [] (fun _ => (iAV (csR l), [])) := by
 have hf := xo (z5 l)
 refine goW [] Tryz.func131 rfl ?_
 conv => whnf
 repeat' ((first | (show LC _ _ _ _ _ _; first | refine LC.pure (cadd_c 0 l (by decide) (by decide) hl) ?_ | refine goE ?_) | refine T.s ?_ | ((first | apply goB | apply AB.dec | apply AB.gen) <;> intro h <;> try (exfalso; omega)) | refine LQ.mk fun r => ?_ | exact T.z | fail) <;> conv => whnf)
 all_goals (try dsimp only)
 (show RL _ _ _; refine goR ?_)
 unfold csR
 rw [Int.zero_add]
 (first | (focus (apply Eq.trans; (conv => lhs; whnf); (conv => rhs; whnf); done)) | rfl | ((conv => lhs; whnf); first | rfl | (refine congrArg (AV.int _) ?_; (exact T.num)) | (refine congrArg AV.bool ?_; (exact T.num)) | (refine vwc ?_; first | (exact T.num) | (first | rfl | (simp; done))) | (refine qc ?_ ?_ <;> first | (exact T.num) | (first | rfl | (simp; done))) | (first | rfl | (simp; done))))
theorem r4step {F : Int} {l : List UInt8} {j : Nat} (hF : 0 ≤ F) (h : ((2 * j : Nat) : Int) < (l.length : Int)) (hl : l.length ≤ 1000000) (hj : j ≤ 1000000) : qD (qD (F + z5 (l.take (2 * j))) + (256 * ((l.getD (2 * j) 0).toNat : Int) + ((l.getD (2 * j + 1) 0).toNat : Int))) = qD (F + z5 (l.take (2 * (j + 1)))) := by
 have h1 := (l.getD (2 * j) 0).toNat_lt
 have hw := xS (l.take (2 * j)) 1000000 (by simp; omega)
 rw [foldR_add (by omega) (by omega), kE l j (by omega)]
 congr 1
 omega
theorem r4a {c d : Nat} {X : Int} (hX : 0 ≤ X ∧ X ≤ 65535) (h : c < 256) (h2 : d < 256) : q7 .add .i64 X (q7 .add .i64 (q7 .mul .i64 256 (IntKind.i64.wrap (c : Int))) (IntKind.i64.wrap (d : Int))) = X + (256 * (c : Int) + (d : Int)) := by
 rw [show IntKind.i64.wrap (c : Int) = c by rw [IntKind.wrap_i64]; omega, show IntKind.i64.wrap (d : Int) = d by rw [IntKind.wrap_i64]; omega]
 have e : q7 .mul .i64 256 (c : Int) = 256 * (c : Int) := by show IntKind.i64.wrap _ = _; rw [IntKind.wrap_i64]; omega
 rw [e]
 (exact T.num)
theorem r4b {c : Nat} {X : Int} (hX : 0 ≤ X ∧ X ≤ 65535) (h : c < 256) : q7 .add .i64 X (q7 .mul .i64 256 (IntKind.i64.wrap (c : Int))) = X + (256 * (c : Int) + ((0 : Nat) : Int)) := by
 rw [show IntKind.i64.wrap (c : Int) = c by rw [IntKind.wrap_i64]; omega]
 have e : q7 .mul .i64 256 (c : Int) = 256 * (c : Int) := by show IntKind.i64.wrap _ = _; rw [IntKind.wrap_i64]; omega
 rw [e]
 (exact T.num)
theorem r4add_c (s : Int) (l : List UInt8) (h0 : 0 ≤ s) (h : s ≤ 1000000000) (hl : l.length ≤ 1000000) : LP Tryz.prog G 140 [iAV s, bv l] [] (fun _ => (iAV (qD (s + z5 l)), [])) := by
 have hf := xo s
 have hb : ∀ i, (l.getD i 0).toNat < 256 := fun i => (l.getD i 0).toNat_lt
 have hA : ∀ j : Nat, 2 * j ≤ l.length + 1 → ((2 * j : Nat) : Int) < (l.length : Int) → LP Tryz.prog G 148 [iAV (q7 .add .i64 (qD (s + z5 (l.take (2 * j)))) (q7 .add .i64 (q7 .mul .i64 256 (IntKind.i64.wrap ((l.getD (2 * j) 0).toNat : Int))) (IntKind.i64.wrap ((l.getD (2 * j + 1) 0).toNat : Int))))] [] (fun _ => (iAV (qD (s + z5 (l.take (2 * (j + 1))))), [])) := fun j hj h1 => by
   have h2 := xo (s + z5 (l.take (2 * j)))
   have h3 := hb (2 * j)
   have h4 := hb (2 * j + 1)
   rw [r4a h2 h3 h4, ← r4step h0 h1 hl (by omega)]
   exact vA _ (by omega) (by omega)
 have hB : ∀ j : Nat, 2 * j ≤ l.length + 1 → ((2 * j : Nat) : Int) < (l.length : Int) → ¬ q7 .add .i64 ((2 * j : Nat) : Int) 1 < (l.length : Int) → LP Tryz.prog G 148 [iAV (q7 .add .i64 (qD (s + z5 (l.take (2 * j)))) (q7 .mul .i64 256 (IntKind.i64.wrap ((l.getD (2 * j) 0).toNat : Int))))] [] (fun _ => (iAV (qD (s + z5 (l.take (2 * (j + 1))))), [])) := fun j hj h1 h5 => by
   have h2 := xo (s + z5 (l.take (2 * j)))
   have h3 := hb (2 * j)
   have e : q7 .add .i64 ((2 * j : Nat) : Int) 1 = ((2 * j : Nat) : Int) + 1 := by (exact T.num)
   rw [e] at h5
   have h6 := r4step h0 h1 hl (by omega)
   rw [show l.getD (2 * j + 1) 0 = 0 by rw [List.getD_eq_getElem?_getD, List.getElem?_eq_none (by omega)]; rfl] at h6
   rw [r4b h2 h3, ← h6]
   exact vA _ (by omega) (by show _ + (_ + (0 : Int)) ≤ _; omega)
 refine goW [] Tryz.func140 rfl ?_
 conv => whnf
 repeat' ((first | (show LC _ _ _ _ _ _; first | refine LC.pure (vA _ h0 (by omega)) ?_ | refine LC.pure (hA j hok (by assumption)) ?_ | refine LC.pure (hB j hok (by assumption) (by assumption)) ?_ | refine goE ?_) | (show AC _ _ _; first | (refine AC.idx (2 * j + 1) 0 (ix1 (by omega)) ?_ ?_; (focus (exact ix2 (by omega) (by assumption)))) | (refine AC.idx (2 * j) 0 (Nat.mul_one _) ?_ ?_; (focus omega))) | refine T.s ?_ | ((first | apply goB | apply AB.dec | apply AB.gen) <;> intro h <;> try (exfalso; omega)) | refine LQ.mk fun r => ?_ | (show SQ _ _ _ (.loop _) _ _ _; first | (apply goO tQ [] 3 (S := Nat) [1] (fun j => ⟨[(6, .int .i64 ((2 * j : Nat) : Int)), (5, .int .i64 (qD (s + z5 (l.take (2 * j)))))], [], 2 * j ≤ l.length + 1, l.length + 1 - j⟩) (0) (by rfl); (focus (all_goals (try exact K315); done)); rintro j hok; (try dsimp only at hok))) | (show AtL _ _ _ _ _ _ _ _ _ _; first | (apply AtL.mk' (id := 3) (S := Nat) (j + 1); all_goals (try exact K315); done) | (apply AtL.mk' (id := 3) (S := Nat) (j + 1); all_goals (try exact K315))) | exact T.z | refine ⟨_, rfl, rfl, ?_⟩ | fail) <;> conv => whnf)
 all_goals (try dsimp only)
 all_goals
   (show RL _ _ _; refine goR ?_)
   rw [List.take_of_length_le (by omega)]
   rfl
theorem r4sum_c (l : List UInt8) (hl : l.length ≤ 1000000) : LP Tryz.prog G 118 [bv l] [] (fun _ => (iAV (csR l), [])) := by
 have hf := xo (z5 l)
 refine goW [] Tryz.func118 rfl ?_
 conv => whnf
 repeat' ((first | (show LC _ _ _ _ _ _; first | refine LC.pure (r4add_c 0 l (by decide) (by decide) hl) ?_ | refine goE ?_) | refine T.s ?_ | ((first | apply goB | apply AB.dec | apply AB.gen) <;> intro h <;> try (exfalso; omega)) | refine LQ.mk fun r => ?_ | exact T.z | fail) <;> conv => whnf)
 all_goals (try dsimp only)
 (show RL _ _ _; refine goR ?_)
 unfold csR
 rw [Int.zero_add]
 (first | (focus (apply Eq.trans; (conv => lhs; whnf); (conv => rhs; whnf); done)) | rfl | ((conv => lhs; whnf); first | rfl | (refine congrArg (AV.int _) ?_; (exact T.num)) | (refine congrArg AV.bool ?_; (exact T.num)) | (refine vwc ?_; first | (exact T.num) | (first | rfl | (simp; done))) | (refine qc ?_ ?_ <;> first | (exact T.num) | (first | rfl | (simp; done))) | (first | rfl | (simp; done))))
open Go.RowKit
variable {G : Nat → AV}
theorem setW_2 (x : Int) : ∀ (a : Nat) (l : List UInt8), a + 2 ≤ l.length → setW l a (qx x 2) = st2 l a x := by
 have key : ∀ (u v : UInt8) (a : Nat) (l : List UInt8), a + 2 ≤ l.length → l.take a ++ [u, v] ++ l.drop (a + 2) = (l.set (a + 1) v).set a u := by
   intro u v a
   induction a with
   | zero =>
     intro l h
     match l, h with
     | c :: d :: t, _ => rfl
   | succ a ih =>
     intro l h
     match l, h with
     | c :: t, h =>
       have := ih t (by simp at h; omega)
       show c :: (t.take a ++ [u, v] ++ t.drop (a + 2)) = c :: ((t.set (a + 1) v).set a u)
       rw [this]
 intro a l h
 unfold setW
 rw [putB2]
 refine (key _ _ a l h).trans ?_
 unfold st2
 rfl
theorem bldR_g {h : Hd} {p : List UInt8} (ko : h.ok = true) (hp : (qy h).length + p.length ≤ 1500) : zp h p = (bldL h p, 0) := by unfold zp; rw [if_pos ko, if_pos hp]
theorem bldR_s {h : Hd} {p : List UInt8} (ko : h.ok = true) (hp : ¬ (qy h).length + p.length ≤ 1500) : zp h p = ([], 2) := by unfold zp; rw [if_pos ko, if_neg hp]
theorem bldR_n {h : Hd} {p : List UInt8} (ko : h.ok = false) : zp h p = ([], 1) := by unfold zp; rw [if_neg (by rw [ko]; decide)]
theorem LF.headB {L : List UInt8} {F : List Nm} {p : Nm} {n : Nat} {l : LS} (hF : InL p F) (h : LH l p fun c _ _ => c.cs = L.map bAV ∧ n ≤ L.length) : LF l F (.vw p 0 n 1) (bv (L.take n)) := by
 obtain ⟨l1, c, l2, rfl, h1, h2⟩ := h.ex
 refine LF.part hF ⟨l1, c, l2, rfl, by decide, by rw [h1]; simp; omega, by simp; omega, by rw [h1]; simp [List.map_take]⟩
theorem csumT (L : List UInt8) : LP Tryz.prog G 131 [bv (L.take 20)] [] (fun _ => (iAV (csR (L.take 20)), [])) := csum4_c _ (by simp; omega)
theorem bldL_e (h : Hd) (p : List UInt8) : bldL h p = st2 (st2 (st2 (qy h ++ p) 2 (((qy h).length + p.length : Nat) : Int)) 24 (((qy h).length + p.length : Nat) - 20)) 10 (csR ((st2 (st2 (qy h ++ p) 2 (((qy h).length + p.length : Nat) : Int)) 24 (((qy h).length + p.length : Nat) - 20)).take 20)) := by
 have h1 := z8 h
 have h2 : 28 ≤ (qy h).length := by rw [h1]; split <;> omega
 have e : bld1 h p = st2 (st2 (qy h ++ p) 2 (((qy h).length + p.length : Nat) : Int)) 24 (((qy h).length + p.length : Nat) - 20) := by
   unfold bld1
   rw [setW_2 _ 2 _ (by simp; omega), setW_2 _ 24 _ (by simp; omega)]
 unfold bldL
 rw [e, setW_2 _ 10 _ (by simp; omega)]
theorem app_hd {L R p : List UInt8} {n : Nat} (h : L.length = n) : List.take n (List.drop 0 ((L ++ R).map bAV)) ++ p.map bAV = (L ++ p).map bAV := by subst h; simp
theorem app_hd0 {L p : List UInt8} {n : Nat} (h : L.length = n) : List.take n (List.drop 0 (L.map bAV)) ++ p.map bAV = (L ++ p).map bAV := by subst h; rw [List.drop_zero, List.take_of_length_le (by simp), List.map_append]
theorem LC.headB {P : Program} {f : FuncId} {R : List UInt8 → Int} {n : Nat} {r : Nm} {l : LS} {K : AV → LS → Prop} (hs : ∀ L : List UInt8, LP P G f [bv (L.take n)] [] fun _ => (iAV (R (L.take n)), []))
   (h : LH l r fun c _ _ => ∃ L : List UInt8, c.cs = L.map bAV ∧ n ≤ L.length ∧ K (iAV (R (L.take n))) l) : LC P G f [.vw r 0 n 1] l K := by
 obtain ⟨l1, c, l2, rfl, L, h1, h2, h3⟩ := h.ex
 exact LC.lend (hs L) [r] ⟨LF.headB InL.here ⟨l1, c, l2, rfl, h1, h2⟩, trivial⟩ (Flat.int _ _) h3
theorem RL.bytes2 {b : List UInt8} {q : Nm} {n : Nat} {e : Int} {l : LS} (h : LH l q fun c _ _ => c.cs = b.map bAV ∧ n = b.length) : RL (fun _ => (.tup [bv b, iAV e], [])) (.tup [.vw q 0 n 1, .int .i64 e]) l := by
 obtain ⟨l1, c, l2, rfl, h1, rfl⟩ := h.ex
 exact RL.frz [q] (LF.tup (xs := [.vw q 0 b.length 1, .int .i64 e]) (ys := [bv b, iAV e]) ⟨LF.rowF InL.here ⟨l1, c, l2, rfl, h1, rfl⟩, LF.eq rfl, trivial⟩) ⟨l1, c, l2, rfl, LB.nil⟩
theorem RL.nil2 {e : Int} {l : LS} : RL (fun _ => (.tup [bv [], iAV e], [])) (.tup [.nils, .int .i64 e]) l :=
 RL.frz [] (LF.tup (xs := [.nils, .int .i64 e]) (ys := [bv [], iAV e]) ⟨LF.nils rfl rfl, LF.eq rfl, trivial⟩) LB.nil
theorem pbuild_n (h : Hd) (p : List UInt8) (ko : h.ok = false) : LP Tryz.prog G 90 [h.av, bv p] [] (fun _ => (.tup [bv (zp h p).1, iAV (zp h p).2], [])) := by
 rw [bldR_n ko]
 refine goW [] Tryz.func90 rfl ?_
 conv => whnf
 repeat' ((first | (show LC _ _ _ _ _ _; first | refine LC.pure (phead_n h ko) ?_ | refine goE ?_) | refine T.s ?_ | ((first | apply goB | apply AB.dec | apply AB.gen) <;> intro h <;> try (exfalso; omega)) | refine LQ.mk fun r => ?_ | (show (_ → _) ∧ (¬ _ → _); first | refine T.y ?_ | refine qm (fun h => ?_) (fun h => ?_)) | exact T.z | fail) <;> conv => whnf)
 all_goals (try dsimp only)
 all_goals
   exact RL.nil2
theorem pbuild_1 (hd : Hd) (p : List UInt8) (ko : hd.ok = true) (k : hd.k = 1) (hp : p.length ≤ 100000) : LP Tryz.prog G 90 [hd.av, bv p] [] (fun _ => (.tup [bv (zp hd p).1, iAV (zp hd p).2], [])) := by
 have hn : (qy hd).length = 28 := by rw [z8]; rw [if_neg (by omega)]
 have e15 : q7 .sub .i64 1500 ((28 : Nat) : Int) = 1472 := rfl
 by_cases hs : p.length ≤ 1500 - 28
 · rw [bldR_g ko (by omega)]
   refine goW [] Tryz.func90 rfl ?_
   conv => whnf
   repeat' ((first | (show LC _ _ _ _ _ _; refine updW (fun l h1 => pput2_c l _ _ _ (Nat.le_trans (m := 28) (by decide) (Nat.le_add_right _ _)) h1 (by decide) _) ?_; (repeat first | refine goH ?_ | apply LH.here | apply LH.next); refine ⟨_, rfl, (by simp [hn]; try omega), ?_⟩; conv => whnf) | (show LC _ _ _ _ _ _; refine LC.eq (args' := [AV.vw r 0 20 1]) (by rfl) ?_; refine LC.headB csumT ?_; (repeat first | refine goH ?_ | apply LH.here | apply LH.next); refine ⟨_, rfl, (by simp [hn]; try omega), ?_⟩; conv => whnf) | (refine And.intro ?_ ?_; (focus (first | (simp [hn]; done) | (simp [hn]; omega) | exact T.kx | exact T.side))) | (show LC _ _ _ _ _ _; first | refine LC.own (phead_1 hd ko k) ?_ | refine goE ?_) | (show AQ _ _; first | (refine AQ.eq (cs' := (qy hd ++ p).map bAV) (app_hd (hn.trans rfl)) ?_)) | refine T.s ?_ | ((first | apply goB | apply AB.dec | apply AB.gen) <;> intro h <;> try (exfalso; omega)) | refine LQ.mk fun r => ?_ | (show (_ → _) ∧ (¬ _ → _); first | refine T.y ?_ | refine qm (fun h => ?_) (fun h => ?_)) | exact T.z | fail) <;> conv => whnf)
   all_goals (try dsimp only)
   have e20 : q7 .sub .i64 ((28 + p.length : Nat) : Int) 20 = ((28 + p.length : Nat) : Int) - 20 := by (exact T.num)
   rw [bldL_e, hn, ← e20]
   refine RL.bytes2 ?_
   (repeat first | refine goH ?_ | apply LH.here | apply LH.next)
   exact ⟨rfl, by simp [hn]⟩
 · rw [bldR_s ko (by omega)]
   refine goW [] Tryz.func90 rfl ?_
   conv => whnf
   repeat' ((first | (refine And.intro ?_ ?_; (focus (first | (simp [hn]; done) | (simp [hn]; omega) | exact T.kx | exact T.side))) | (show LC _ _ _ _ _ _; first | refine LC.own (phead_1 hd ko k) ?_ | refine goE ?_) | refine T.s ?_ | ((first | apply goB | apply AB.dec | apply AB.gen) <;> intro h <;> try (exfalso; omega)) | refine LQ.mk fun r => ?_ | (show (_ → _) ∧ (¬ _ → _); first | refine T.y ?_ | refine qm (fun h => ?_) (fun h => ?_)) | exact T.z | fail) <;> conv => whnf)
   all_goals (try dsimp only)
   exact RL.nil2
theorem pbuild_2 (hd : Hd) (p : List UInt8) (ko : hd.ok = true) (k : hd.k = 2) (hp : p.length ≤ 100000) : LP Tryz.prog G 90 [hd.av, bv p] [] (fun _ => (.tup [bv (zp hd p).1, iAV (zp hd p).2], [])) := by
 have hn : (qy hd).length = 40 := by rw [z8]; rw [if_pos k]
 have e15 : q7 .sub .i64 1500 ((40 : Nat) : Int) = 1460 := rfl
 by_cases hs : p.length ≤ 1500 - 40
 · rw [bldR_g ko (by omega)]
   refine goW [] Tryz.func90 rfl ?_
   conv => whnf
   repeat' ((first | (show LC _ _ _ _ _ _; refine updW (fun l h1 => pput2_c l _ _ _ (Nat.le_trans (m := 40) (by decide) (Nat.le_add_right _ _)) h1 (by decide) _) ?_; (repeat first | refine goH ?_ | apply LH.here | apply LH.next); refine ⟨_, rfl, (by simp [hn]; try omega), ?_⟩; conv => whnf) | (show LC _ _ _ _ _ _; refine LC.eq (args' := [AV.vw r 0 20 1]) (by rfl) ?_; refine LC.headB csumT ?_; (repeat first | refine goH ?_ | apply LH.here | apply LH.next); refine ⟨_, rfl, (by simp [hn]; try omega), ?_⟩; conv => whnf) | (refine And.intro ?_ ?_; (focus (first | (simp [hn]; done) | (simp [hn]; omega) | exact T.kx | exact T.side))) | (show LC _ _ _ _ _ _; first | refine LC.own (phead_2 hd ko k) ?_ | refine goE ?_) | (show AQ _ _; first | (refine AQ.eq (cs' := (qy hd ++ p).map bAV) (app_hd0 (hn.trans rfl)) ?_)) | refine T.s ?_ | ((first | apply goB | apply AB.dec | apply AB.gen) <;> intro h <;> try (exfalso; omega)) | refine LQ.mk fun r => ?_ | (show (_ → _) ∧ (¬ _ → _); first | refine T.y ?_ | refine qm (fun h => ?_) (fun h => ?_)) | exact T.z | fail) <;> conv => whnf)
   all_goals (try dsimp only)
   have e20 : q7 .sub .i64 ((40 + p.length : Nat) : Int) 20 = ((40 + p.length : Nat) : Int) - 20 := by (exact T.num)
   rw [bldL_e, hn, ← e20]
   refine RL.bytes2 ?_
   (repeat first | refine goH ?_ | apply LH.here | apply LH.next)
   exact ⟨rfl, by simp [hn]⟩
 · rw [bldR_s ko (by omega)]
   refine goW [] Tryz.func90 rfl ?_
   conv => whnf
   repeat' ((first | (refine And.intro ?_ ?_; (focus (first | (simp [hn]; done) | (simp [hn]; omega) | exact T.kx | exact T.side))) | (show LC _ _ _ _ _ _; first | refine LC.own (phead_2 hd ko k) ?_ | refine goE ?_) | refine T.s ?_ | ((first | apply goB | apply AB.dec | apply AB.gen) <;> intro h <;> try (exfalso; omega)) | refine LQ.mk fun r => ?_ | (show (_ → _) ∧ (¬ _ → _); first | refine T.y ?_ | refine qm (fun h => ?_) (fun h => ?_)) | exact T.z | fail) <;> conv => whnf)
   all_goals (try dsimp only)
   exact RL.nil2
theorem pbuild_c (h : Hd) (p : List UInt8) (hp : p.length ≤ 100000) : LP Tryz.prog G 90 [h.av, bv p] [] (fun _ => (.tup [bv (zp h p).1, iAV (zp h p).2], [])) := by
 cases ko : h.ok with
 | true =>
   rcases (h.of ko).1 with k | k
   · exact pbuild_1 h p ko k hp
   · exact pbuild_2 h p ko k hp
 | false => exact pbuild_n h p ko
end Go.Proofs.YtbagbjacmakfhaaGreatDoor
