/-
  Contracts of the functions that the laws reach.
-/
import Derived.ProofKit
import Derived.OpenShut
import Derived.LaidMore
import Derived.Stop.Joined
import Derived.Test.YtnmifddidgofaaaDoorRows
import Derived.Test.YtnmifddidgofaaaDoorDu01
import Derived.Test.YtnmifddidgofaaaDoorDu02
import Derived.Test.YtnmifddidgofaaaDoorDu03
import Derived.Test.YtnmifddidgofaaaDoorDu04
import Derived.Test.YtnmifddidgofaaaDoorDu05
import Derived.Test.YtnmifddidgofaaaDoorDu06
import Derived.Test.YtnmifddidgofaaaDoorDu07
import Derived.Test.YtnmifddidgofaaaDoorDu08
import Derived.Test.YtnmifddidgofaaaDoorDu09
import Derived.Test.YtnmifddidgofaaaDoorDu10
import Derived.Test.YtnmifddidgofaaaDoorDu11
set_option maxHeartbeats 16000000
set_option linter.all false
namespace Go.Proofs.YtnmifddidgofaaaDoor
open Go.RowKit
theorem ord_len {i : In} {last b0 t0 r : Int} (s : OrdS i last b0 t0 r) (hr : r ≤ 400) : i.h.length ≤ 400 := by
 have key : ∀ j, j < i.h.length → (j : Int) ≤ (i.h.getD j Hl.z).c := by
   intro j
   induction j with
   | zero => intro hj; have := (s.v.lo 0 hj); have := s.v.f; omega
   | succ j ih =>
     intro hj
     have h1 := ih (by omega)
     have h2 := s.v.asc j (j + 1) (by omega) hj
     omega
 have hn := s.n
 rcases Nat.eq_zero_or_pos i.h.length with h | h
 · omega
 · have h1 := key (i.h.length - 1) (by omega)
   have h2 := (s.v.h (i.h.length - 1) (by omega)).2.1
   omega
theorem tick_cases {i : In} {last b0 t0 r : Int} (s : OrdS i last b0 t0 r) (hr : r ≤ 400) : ∃ i2 xs, LSpec Tryd.prog gl 17 [i.av] [] (fun _ => (.tup [i2.av, bsv (psB xs), iAV 0], [])) ∧ StpS i2 xs last b0 t0 (r + 6) := by
 obtain ⟨i2, xs, h1, h2⟩ := ord_tick s
 have h3 := dtick_c gl_yl i (by have := ord_len s hr; omega)
 rw [h1] at h3
 exact ⟨i2, xs, h3, h2⟩
theorem mod_sent {n : Int} (h : -4 ≤ n ∧ n < 1000) : (0 ≤ n ∧ modR n 1000 = n) ∨ (n < 0 ∧ modR n 1000 = 1000 + n) := by
 by_cases h0 : 0 ≤ n
 · left
   refine ⟨h0, ?_⟩
   unfold modR
   rw [if_neg (by decide), Int.tmod_eq_emod_of_nonneg h0, Int.emod_eq_of_lt h0 h.2, if_neg (by omega)]
 · right
   refine ⟨by omega, ?_⟩
   have : n = -4 ∨ n = -3 ∨ n = -2 ∨ n = -1 := by omega
   rcases this with rfl | rfl | rfl | rfl <;> decide +kernel
theorem rcv_cases {i : In} {last b0 t0 r : Int} (s : OrdS i last b0 t0 r) (hr : r ≤ 400) {d : Int} (hd : 0 ≤ d ∧ d < 10) :
   ∃ i2 xs e, LSpec Tryd.prog gl 12 [i.av, bv (sealB b0 (modR (iarith .sub .i64 (iarith .add .i64 last d) 3) 1000))] [] (fun _ => (.tup [i2.av, bsv (psB xs), iAV e], [])) ∧ StpS i2 xs last b0 t0 (r + 6) ∧ (¬ e = 0 → xs.length = 0) := by
 have hf := s.v.f
 have hn := s.v.n
 have hsn := s.n
 have hsf := s.f
 have h0 : iarith .sub .i64 (iarith .add .i64 last d) 3 = last + d - 3 := by (exact T.num)
 rw [h0]
 have hl := ord_len s hr
 rcases mod_sent (n := last + d - 3) (by omega) with ⟨h1, h2⟩ | ⟨h1, h2⟩
 · rw [h2]
   have h3 := dreceive_c i (sealB b0 (last + d - 3)) (by omega)
   obtain ⟨i2, xs, e, h4, h5, h6⟩ := ord_rcv s hr (c := last + d - 3) h1 (by omega) (by omega)
   rw [h4] at h3
   exact ⟨i2, xs, e, h3, h5, h6⟩
 · rw [h2]
   have h3 := dreceive_c i (sealB b0 (1000 + (last + d - 3))) (by omega)
   obtain ⟨e, h4, h5⟩ := ord_bad s (c := 1000 + (last + d - 3)) (by omega) (by omega)
   rw [h4] at h3
   exact ⟨i, [], e, h3, stp_none s _ (by omega), fun _ => rfl⟩
theorem ord_valid {i2 : In} {xs : List Int} {last b0 t0 r : Int} (s : StpS i2 xs last b0 t0 r) (hr : r ≤ 400) : LSpec Tryd.prog gl 18 [i2.av] [] (fun _ => (.bool true, [])) := by
 have h := dvalid_c (G := gl) i2 (by have := ord_len s.s hr; omega)
 rwa [s.s.v.to] at h
theorem ps_len (xs : List Int) : (psB xs).length = xs.length := List.length_map ..
theorem ps_get {last : Int} {xs : List Int} {k : Nat} (h : k < xs.length) : (psB xs).getD k [] = putB (lkN last xs (k + 1)) 3 := by
 unfold psB
 rw [lk_suc, List.getD_eq_getElem?_getD, List.getElem?_map, List.getD_eq_getElem?_getD, List.getElem?_eq_getElem h]
 rfl
theorem ord_fin {i2 : In} {xs : List Int} {last b0 t0 : Int} {k k2 : Nat} (s : StpS i2 xs last b0 t0 (6 * (k : Int) + 6)) (h1 : k2 ≤ xs.length) (h2 : ¬ (k2 : Int) < ((psB xs).length : Int)) : OrdS i2 (lkN last xs k2) b0 t0 (6 * ((k + 1 : Nat) : Int)) := by
 rw [ps_len] at h2
 obtain rfl : k2 = xs.length := by omega
 have h := s.s
 exact ⟨h.v, h.b, h.k, h.t, h.f, h.h, by have := h.n; omega, h.m⟩
theorem ord_new {b0 t0 : Int} (hb : bitsOk b0 = true) (ht : 0 ≤ t0 ∧ t0 ≤ 1000) : OrdS ⟨b0, awK, 0, 0, 0, 0, t0, []⟩ (-1) b0 t0 (6 * ((0 : Nat) : Int)) :=
 ⟨new_vf hb ht (by decide), rfl, rfl, rfl, rfl, fun x hx => (by cases hx), (by show (0 : Int) ≤ 6 * ((0 : Nat) : Int); decide), fun h => absurd h (show ¬ (0 : Int) < 0 by decide)⟩
theorem ord_q {i : In} {last b0 t0 r : Int} (s : OrdS i last b0 t0 r) : iarith .add .i64 last 1 = i.f := by
 have h1 := s.f
 have h2 := s.v.f
 rw [iadd_in _ _ (by omega) (by omega)]
 omega
theorem stp_nx {i2 : In} {xs : List Int} {last b0 t0 r : Int} (s : StpS i2 xs last b0 t0 r) (h : t0 = 0) {k : Nat} (hk : k < xs.length) : iarith .add .i64 (lkN last xs k) 1 = lkN last xs (k + 1) := by
 have h1 := s.z h k hk
 have h2 := s.a k hk
 rw [iadd_in _ _ (by omega) (by omega)]
 omega
theorem stp_len {i2 : In} {xs : List Int} {last b0 t0 r : Int} (s : StpS i2 xs last b0 t0 r) : xs.length ≤ 16777217 := by
 have key : ∀ k, k < xs.length → (k : Int) ≤ lkN last xs (k + 1) := by
   intro k
   induction k with
   | zero => intro hk; exact (s.a 0 hk).2.1
   | succ k ih =>
     intro hk
     have h1 := ih (by omega)
     have h2 := (s.a (k + 1) hk).1
     omega
 rcases Nat.eq_zero_or_pos xs.length with h | h
 · omega
 · have h1 := key (xs.length - 1) (by omega)
   have h2 := (s.a (xs.length - 1) (by omega)).2.2
   omega
theorem lk_0 (last : Int) (xs : List Int) : lkN last xs 0 = last := rfl
theorem order17_c (t : List Int) (c : Int) : LSpec Tryd.prog gl 4 [iv t, iAV c] [] (fun _ => (.bool true, [])) := by
 by_cases ht : t.length ≤ 400
 · have hl := light_c (G := gl) t
   rw [decide_eq_true ht] at hl
   have hm := mod_c (G := gl) c 4
   have hmr := modR_lt c 4 (by decide) (by decide)
   generalize modR c 4 = TQ at *
   have hb := bitsR_ok t 0
   have hbits := fun p => dbits_c (G := gl) t 0 ht p
   have hnew := dnew_c (G := gl) (bitsR t 0) TQ awK
   rw [show newI (bitsR t 0) TQ awK = (⟨bitsR t 0, awK, 0, 0, 0, 0, TQ, []⟩, 0) by unfold newI; rw [if_pos ⟨hb, by omega, by omega⟩, if_pos awK_ok]] at hnew
   have h0 := ord_new (b0 := bitsR t 0) (t0 := TQ) hb (by omega)
   generalize bitsR t 0 = B at *
   have hRR := nextR_lt t (nextA t 0) 60 (by decide) (by decide)
   obtain ⟨R, hR⟩ : ∃ R : Nat, nextR t (nextA t 0) 60 = (R : Int) := ⟨(nextR t (nextA t 0) 60).toNat, by omega⟩
   rw [hR] at hRR
   have hrounds := fun p => next_c (G := gl) t (nextA t 0) 60 ht p
   rw [hR] at hrounds
   have hD : ∀ a, 0 ≤ nextR t a 10 ∧ nextR t a 10 < 10 := fun a => nextR_lt t a 10 (by decide) (by decide)
   refine goW [14] Tryd.func4 rfl ?_
   conv => whnf
   repeat' ((first | (show LCall _ _ 17 _ _ _; obtain ⟨i2, xs, hr, hst⟩ := tick_cases hS (by omega); refine LCall.pure hr ?_) | (show LCall _ _ 12 _ _ _; obtain ⟨i2, xs, e, hr, hst, he⟩ := rcv_cases hS (by omega) (hD (nextA t a)); have hpl := ps_len xs; refine LCall.pure hr ?_) | exact Nm.b 0 | (show LCall _ _ _ _ _ _; first | refine LCall.pure (awake17_c) ?_ | refine LCall.pure (hl) ?_ | refine LCall.own (roll_c t) ?_ | (apply LCall.upd (hbits _); (repeat first | refine goH ?_ | apply LHas.here | apply LHas.next); refine ⟨rfl, ?_⟩) | refine LCall.pure (hm) ?_ | refine LCall.pure (key17_c) ?_ | refine LCall.pure (hnew) ?_ | (apply LCall.upd (hrounds _); (repeat first | refine goH ?_ | apply LHas.here | apply LHas.next); refine ⟨rfl, ?_⟩) | (apply LCall.upd (one_c t _ _ ht _); (repeat first | refine goH ?_ | apply LHas.here | apply LHas.next); refine ⟨rfl, ?_⟩) | (apply LCall.upd (next_c t _ 10 ht _); (repeat first | refine goH ?_ | apply LHas.here | apply LHas.next); refine ⟨rfl, ?_⟩) | refine LCall.pure (mod_c _ 1000) ?_ | refine LCall.pure (seal17_c B _) ?_ | refine LCall.pure (hV) ?_ | refine LCall.pure (getp_c _ (by omega)) ?_ | refine goE ?_) | (show ACell _ _ _; first | ((with_reducible show ACell _ (List.take _ (List.drop _ (List.map bv _))) _); refine ACell.idx k2 ([] : List UInt8) ?_ ?_ ?_; (focus (first | exact rfl | (simp; done) | (simp; omega))); (focus omega); rw [ps_get (last := last) (by omega)])) | refine T.s ?_ | ((first | apply goB | apply ABr.dec | apply ABr.gen) <;> intro h <;> try (exfalso; omega)) | refine LFresh.mk fun r => ?_ | (show SWpL _ _ _ (.loop _) _ _ _; first | (apply goO tyOk [14] 23 (S := Nat) [5, 6, 7, 8, 9, 11, 12] (fun k2 => ⟨[(10, .int .i64 (lkN last xs k2)), (14, .int .i64 k2)], [(b8, ⟨32, i2.cs⟩), (b5, dice t a2)], k2 ≤ xs.length, xs.length - k2⟩) (0) (by rfl); (focus ((repeat' first | exact trivial | (refine And.intro ?_ ?_) | exact LSub.nil | (with_reducible exact LSub.refl) | (apply LSub.cons; (repeat first | refine goH ?_ | apply LHas.here | apply LHas.next); refine And.intro ?_ ?_; (focus (try (first | (with_reducible rfl) | (refine congrArg (Pl.mk _) ?_; (first | rfl | (simp; done))) | rfl | (with_reducible refine congrArg (Pl.mk _) ?_))))) | assumption | (exact h0) | (exact hst) | (refine ord_fin hst ?_ ?_ <;> assumption) | (exact (lk_0 last xs).symm) | (exact congrArg (AV.int .i64) (lk_0 last xs).symm) | (first | (focus (apply Eq.trans; (conv => lhs; whnf); (conv => rhs; whnf); done)) | rfl | ((conv => lhs; whnf); first | rfl | (refine congrArg (AV.int _) ?_; (exact T.num)) | (refine congrArg AV.bool ?_; (exact T.num)) | (refine vw_congr ?_; first | (exact T.num) | (first | rfl | (simp; done))) | (refine sl_congr ?_ ?_ <;> first | (exact T.num) | (first | rfl | (simp; done))) | (first | rfl | (simp; done)))) | (exact T.num) | (dsimp only; (exact T.num)) | (first | rfl | (simp; done))); done)); rintro k2 hok; (try dsimp only at hok); (have hA2 := hst.a k2; have hZ2 : TQ = 0 → k2 < xs.length → lkN last xs (k2 + 1) = lkN last xs k2 + 1 := fun h => hst.z h k2; have hI2 : TQ = 0 → k2 < xs.length → iarith .add .i64 (lkN last xs k2) 1 = lkN last xs (k2 + 1) := fun h hk => stp_nx hst h hk)) | (apply goO tyOk [14] 11 (S := In × Int × Nat × Nat × Nm × Nm) [6, 7] (fun (i, last, k, a, b5, b8) => ⟨[(5, .ptr b5 0), (8, .ptr b8 0), (9, iAV 0), (10, .int .i64 last), (11, .int .i64 ((R : Int) - (k : Int)))], [(b8, ⟨32, i.cs⟩), (b5, dice t a)], OrdS i last B TQ (6 * (k : Int)) ∧ k ≤ R, R - k⟩) ((⟨B, awK, 0, 0, 0, 0, TQ, []⟩, -1, 0, _, _, _)) (by rfl); (focus ((repeat' first | exact trivial | (refine And.intro ?_ ?_) | exact LSub.nil | (with_reducible exact LSub.refl) | (apply LSub.cons; (repeat first | refine goH ?_ | apply LHas.here | apply LHas.next); refine And.intro ?_ ?_; (focus (try (first | (with_reducible rfl) | (refine congrArg (Pl.mk _) ?_; (first | rfl | (simp; done))) | rfl | (with_reducible refine congrArg (Pl.mk _) ?_))))) | assumption | (exact h0) | (exact hst) | (refine ord_fin hst ?_ ?_ <;> assumption) | (exact (lk_0 last xs).symm) | (exact congrArg (AV.int .i64) (lk_0 last xs).symm) | (first | (focus (apply Eq.trans; (conv => lhs; whnf); (conv => rhs; whnf); done)) | rfl | ((conv => lhs; whnf); first | rfl | (refine congrArg (AV.int _) ?_; (exact T.num)) | (refine congrArg AV.bool ?_; (exact T.num)) | (refine vw_congr ?_; first | (exact T.num) | (first | rfl | (simp; done))) | (refine sl_congr ?_ ?_ <;> first | (exact T.num) | (first | rfl | (simp; done))) | (first | rfl | (simp; done)))) | (exact T.num) | (dsimp only; (exact T.num)) | (first | rfl | (simp; done))); done)); rintro ⟨i, last, k, a, b5, b8⟩ ⟨hk, hok⟩; (have hS := hk; have hkR := hok; have hq := ord_q hS; have hsf := hS.f))) | (show SWpL _ _ _ _ _ _ _; first | refine gX 17 [0, 4, 7, 8] [0, 1, 2, 3, 4, 5, 6, 7, 8, 9, 10, 11, 12, 13, 14, 15, 16] [b5] ?_) | (show AtL _ _ _ _ _ _ _ _ _ _; first | (apply AtL.mk' (id := 23) (S := Nat) (k2 + 1); (repeat' first | exact trivial | (refine And.intro ?_ ?_) | exact LSub.nil | (with_reducible exact LSub.refl) | (apply LSub.cons; (repeat first | refine goH ?_ | apply LHas.here | apply LHas.next); refine And.intro ?_ ?_; (focus (try (first | (with_reducible rfl) | (refine congrArg (Pl.mk _) ?_; (first | rfl | (simp; done))) | rfl | (with_reducible refine congrArg (Pl.mk _) ?_))))) | assumption | (exact h0) | (exact hst) | (refine ord_fin hst ?_ ?_ <;> assumption) | (exact (lk_0 last xs).symm) | (exact congrArg (AV.int .i64) (lk_0 last xs).symm) | (first | (focus (apply Eq.trans; (conv => lhs; whnf); (conv => rhs; whnf); done)) | rfl | ((conv => lhs; whnf); first | rfl | (refine congrArg (AV.int _) ?_; (exact T.num)) | (refine congrArg AV.bool ?_; (exact T.num)) | (refine vw_congr ?_; first | (exact T.num) | (first | rfl | (simp; done))) | (refine sl_congr ?_ ?_ <;> first | (exact T.num) | (first | rfl | (simp; done))) | (first | rfl | (simp; done)))) | (exact T.num) | (dsimp only; (exact T.num)) | (first | rfl | (simp; done))); done) | (apply AtL.mk' (id := 11) (S := In × Int × Nat × Nat × Nm × Nm) ((i2, lkN last xs k2, k + 1, a2, b5, b8)); (repeat' first | exact trivial | (refine And.intro ?_ ?_) | exact LSub.nil | (with_reducible exact LSub.refl) | (apply LSub.cons; (repeat first | refine goH ?_ | apply LHas.here | apply LHas.next); refine And.intro ?_ ?_; (focus (try (first | (with_reducible rfl) | (refine congrArg (Pl.mk _) ?_; (first | rfl | (simp; done))) | rfl | (with_reducible refine congrArg (Pl.mk _) ?_))))) | assumption | (exact h0) | (exact hst) | (refine ord_fin hst ?_ ?_ <;> assumption) | (exact (lk_0 last xs).symm) | (exact congrArg (AV.int .i64) (lk_0 last xs).symm) | (first | (focus (apply Eq.trans; (conv => lhs; whnf); (conv => rhs; whnf); done)) | rfl | ((conv => lhs; whnf); first | rfl | (refine congrArg (AV.int _) ?_; (exact T.num)) | (refine congrArg AV.bool ?_; (exact T.num)) | (refine vw_congr ?_; first | (exact T.num) | (first | rfl | (simp; done))) | (refine sl_congr ?_ ?_ <;> first | (exact T.num) | (first | rfl | (simp; done))) | (first | rfl | (simp; done)))) | (exact T.num) | (dsimp only; (exact T.num)) | (first | rfl | (simp; done))); done) | (apply AtL.mk' (id := 23) (S := Nat) (k2 + 1); (repeat' first | exact trivial | (refine And.intro ?_ ?_) | exact LSub.nil | (with_reducible exact LSub.refl) | (apply LSub.cons; (repeat first | refine goH ?_ | apply LHas.here | apply LHas.next); refine And.intro ?_ ?_; (focus (try (first | (with_reducible rfl) | (refine congrArg (Pl.mk _) ?_; (first | rfl | (simp; done))) | rfl | (with_reducible refine congrArg (Pl.mk _) ?_))))) | assumption | (exact h0) | (exact hst) | (refine ord_fin hst ?_ ?_ <;> assumption) | (exact (lk_0 last xs).symm) | (exact congrArg (AV.int .i64) (lk_0 last xs).symm) | (first | (focus (apply Eq.trans; (conv => lhs; whnf); (conv => rhs; whnf); done)) | rfl | ((conv => lhs; whnf); first | rfl | (refine congrArg (AV.int _) ?_; (exact T.num)) | (refine congrArg AV.bool ?_; (exact T.num)) | (refine vw_congr ?_; first | (exact T.num) | (first | rfl | (simp; done))) | (refine sl_congr ?_ ?_ <;> first | (exact T.num) | (first | rfl | (simp; done))) | (first | rfl | (simp; done)))) | (exact T.num) | (dsimp only; (exact T.num)) | (first | rfl | (simp; done)))) | (apply AtL.mk' (id := 11) (S := In × Int × Nat × Nat × Nm × Nm) ((i2, lkN last xs k2, k + 1, a2, b5, b8)); (repeat' first | exact trivial | (refine And.intro ?_ ?_) | exact LSub.nil | (with_reducible exact LSub.refl) | (apply LSub.cons; (repeat first | refine goH ?_ | apply LHas.here | apply LHas.next); refine And.intro ?_ ?_; (focus (try (first | (with_reducible rfl) | (refine congrArg (Pl.mk _) ?_; (first | rfl | (simp; done))) | rfl | (with_reducible refine congrArg (Pl.mk _) ?_))))) | assumption | (exact h0) | (exact hst) | (refine ord_fin hst ?_ ?_ <;> assumption) | (exact (lk_0 last xs).symm) | (exact congrArg (AV.int .i64) (lk_0 last xs).symm) | (first | (focus (apply Eq.trans; (conv => lhs; whnf); (conv => rhs; whnf); done)) | rfl | ((conv => lhs; whnf); first | rfl | (refine congrArg (AV.int _) ?_; (exact T.num)) | (refine congrArg AV.bool ?_; (exact T.num)) | (refine vw_congr ?_; first | (exact T.num) | (first | rfl | (simp; done))) | (refine sl_congr ?_ ?_ <;> first | (exact T.num) | (first | rfl | (simp; done))) | (first | rfl | (simp; done)))) | (exact T.num) | (dsimp only; (exact T.num)) | (first | rfl | (simp; done))))) | (show CutL _ _ _ _ _ _ _ _; first | (refine goK tyOk [14] 14 (S := In × (List Int) × Nat) [5, 6, 7, 8, 10, 11] (fun (i2, xs, a2) => ⟨[(9, iAV 0), (12, bsv (psB xs))], [(b8, ⟨32, i2.cs⟩), (b5, dice t a2)], StpS i2 xs last B TQ (6 * (k : Int) + 6), 0⟩) ?_ ?_; (rintro ⟨i2, xs, a2⟩ hok; (try dsimp only at hok); (have hst := hok; have hpl := ps_len xs; have hV := ord_valid hst (by omega); have hxl := stp_len hst)); rotate_left) | refine CutL.go tyOk [14] ?_) | (show AtC _ _ _ _ _ _ _ _; first | (apply AtC.mk' (id := 14) (S := In × (List Int) × Nat) ((i2, xs, nextA t a)); (repeat' first | exact trivial | (refine And.intro ?_ ?_) | exact LSub.nil | (with_reducible exact LSub.refl) | (apply LSub.cons; (repeat first | refine goH ?_ | apply LHas.here | apply LHas.next); refine And.intro ?_ ?_; (focus (try (first | (with_reducible rfl) | (refine congrArg (Pl.mk _) ?_; (first | rfl | (simp; done))) | rfl | (with_reducible refine congrArg (Pl.mk _) ?_))))) | assumption | (exact h0) | (exact hst) | (refine ord_fin hst ?_ ?_ <;> assumption) | (exact (lk_0 last xs).symm) | (exact congrArg (AV.int .i64) (lk_0 last xs).symm) | (first | (focus (apply Eq.trans; (conv => lhs; whnf); (conv => rhs; whnf); done)) | rfl | ((conv => lhs; whnf); first | rfl | (refine congrArg (AV.int _) ?_; (exact T.num)) | (refine congrArg AV.bool ?_; (exact T.num)) | (refine vw_congr ?_; first | (exact T.num) | (first | rfl | (simp; done))) | (refine sl_congr ?_ ?_ <;> first | (exact T.num) | (first | rfl | (simp; done))) | (first | rfl | (simp; done)))) | (exact T.num) | (dsimp only; (exact T.num)) | (first | rfl | (simp; done))); done) | (apply AtC.mk' (id := 14) (S := In × (List Int) × Nat) ((i2, xs, nextA t (nextA t a))); (repeat' first | exact trivial | (refine And.intro ?_ ?_) | exact LSub.nil | (with_reducible exact LSub.refl) | (apply LSub.cons; (repeat first | refine goH ?_ | apply LHas.here | apply LHas.next); refine And.intro ?_ ?_; (focus (try (first | (with_reducible rfl) | (refine congrArg (Pl.mk _) ?_; (first | rfl | (simp; done))) | rfl | (with_reducible refine congrArg (Pl.mk _) ?_))))) | assumption | (exact h0) | (exact hst) | (refine ord_fin hst ?_ ?_ <;> assumption) | (exact (lk_0 last xs).symm) | (exact congrArg (AV.int .i64) (lk_0 last xs).symm) | (first | (focus (apply Eq.trans; (conv => lhs; whnf); (conv => rhs; whnf); done)) | rfl | ((conv => lhs; whnf); first | rfl | (refine congrArg (AV.int _) ?_; (exact T.num)) | (refine congrArg AV.bool ?_; (exact T.num)) | (refine vw_congr ?_; first | (exact T.num) | (first | rfl | (simp; done))) | (refine sl_congr ?_ ?_ <;> first | (exact T.num) | (first | rfl | (simp; done))) | (first | rfl | (simp; done)))) | (exact T.num) | (dsimp only; (exact T.num)) | (first | rfl | (simp; done))); done) | (apply AtC.mk' (id := 14) (S := In × (List Int) × Nat) ((i2, xs, nextA t a)); (repeat' first | exact trivial | (refine And.intro ?_ ?_) | exact LSub.nil | (with_reducible exact LSub.refl) | (apply LSub.cons; (repeat first | refine goH ?_ | apply LHas.here | apply LHas.next); refine And.intro ?_ ?_; (focus (try (first | (with_reducible rfl) | (refine congrArg (Pl.mk _) ?_; (first | rfl | (simp; done))) | rfl | (with_reducible refine congrArg (Pl.mk _) ?_))))) | assumption | (exact h0) | (exact hst) | (refine ord_fin hst ?_ ?_ <;> assumption) | (exact (lk_0 last xs).symm) | (exact congrArg (AV.int .i64) (lk_0 last xs).symm) | (first | (focus (apply Eq.trans; (conv => lhs; whnf); (conv => rhs; whnf); done)) | rfl | ((conv => lhs; whnf); first | rfl | (refine congrArg (AV.int _) ?_; (exact T.num)) | (refine congrArg AV.bool ?_; (exact T.num)) | (refine vw_congr ?_; first | (exact T.num) | (first | rfl | (simp; done))) | (refine sl_congr ?_ ?_ <;> first | (exact T.num) | (first | rfl | (simp; done))) | (first | rfl | (simp; done)))) | (exact T.num) | (dsimp only; (exact T.num)) | (first | rfl | (simp; done)))) | (apply AtC.mk' (id := 14) (S := In × (List Int) × Nat) ((i2, xs, nextA t (nextA t a))); (repeat' first | exact trivial | (refine And.intro ?_ ?_) | exact LSub.nil | (with_reducible exact LSub.refl) | (apply LSub.cons; (repeat first | refine goH ?_ | apply LHas.here | apply LHas.next); refine And.intro ?_ ?_; (focus (try (first | (with_reducible rfl) | (refine congrArg (Pl.mk _) ?_; (first | rfl | (simp; done))) | rfl | (with_reducible refine congrArg (Pl.mk _) ?_))))) | assumption | (exact h0) | (exact hst) | (refine ord_fin hst ?_ ?_ <;> assumption) | (exact (lk_0 last xs).symm) | (exact congrArg (AV.int .i64) (lk_0 last xs).symm) | (first | (focus (apply Eq.trans; (conv => lhs; whnf); (conv => rhs; whnf); done)) | rfl | ((conv => lhs; whnf); first | rfl | (refine congrArg (AV.int _) ?_; (exact T.num)) | (refine congrArg AV.bool ?_; (exact T.num)) | (refine vw_congr ?_; first | (exact T.num) | (first | rfl | (simp; done))) | (refine sl_congr ?_ ?_ <;> first | (exact T.num) | (first | rfl | (simp; done))) | (first | rfl | (simp; done)))) | (exact T.num) | (dsimp only; (exact T.num)) | (first | rfl | (simp; done))))) | exact T.z | fail) <;> conv => whnf)
   all_goals (try dsimp only)
   all_goals try first | contradiction | (exfalso; omega) | (exact (h rfl).elim)
   all_goals first | ((show RetL _ _ _; refine goR ?_); rfl) | (rw [hq]; (show RetL _ _ _; refine goR ?_); simp [icmp]; done) | trace_state
 · have hl := light_c (G := gl) t
   rw [decide_eq_false ht] at hl
   refine goW [] Tryd.func4 rfl ?_
   conv => whnf
   repeat' ((first | exact Nm.b 0 | (show LCall _ _ _ _ _ _; first | refine LCall.pure (awake17_c) ?_ | refine LCall.pure (hl) ?_ | refine goE ?_) | refine T.s ?_ | ((first | apply goB | apply ABr.dec | apply ABr.gen) <;> intro h <;> try (exfalso; omega)) | refine LFresh.mk fun r => ?_ | (show SWpL _ _ _ _ _ _ _; first | (refine goD tyOk mixed 17 [0, 4, 7, 8] [0, 1, 2, 3, 4, 5, 6, 7, 8, 9, 10, 11, 12, 13, 14, 15, 16] [] (by kernel_rfl) ?_)) | exact T.z | fail) <;> conv => whnf)
   all_goals (try dsimp only)
   all_goals first | contradiction | ((show RetL _ _ _; refine goR ?_); rfl) | trace_state
open Go.ChangeShapes Go.WideShapes Go.ChangeAt Go.RowKit
theorem LSpec.stmt {P : Program} {G : Nat → AV} {f : FuncId} {args : List AV} (h : LSpec P G f args [] (fun _ => (.bool true, []))) {W : World} {vs : Array Value} (hg : Glob G (fun _ => none) W) (hr : RdL (fun _ => none) W args vs) :
   Calls P f vs W fun e W' => e = .returned (.bool true) ∧ Below W.heap.size W W' := by
 unfold LSpec at h
 refine (h.2.2 (fun _ => none) W vs ⟨nofun, nofun, 0, fun _ _ => rfl⟩ hg (by simp) (by simp) hr).mono ?_
 rintro e W' ⟨v, q, rfl, -, -, hv, -, hs⟩
 have hv : Rd _ W' (.bool true) v := hv
 cases hv
 exact ⟨rfl, hs.os, hs.tape, hs.output, hs.size, fun k hk => (hs.old k hk rfl).2⟩
theorem RdL.nil0 {σ : Store} {W : World} : RdL σ W [] #[] := ⟨rfl, fun i hi => by simp at hi⟩
theorem RdL.cons0 {σ : Store} {W : World} {a : AV} {v : Value} {al : List AV} {vs : List Value} (h : Rd σ W a v) (hs : RdL σ W al vs.toArray) : RdL σ W (a :: al) (v :: vs).toArray :=
 ⟨by have := hs.1; simp at this ⊢; omega, fun i hi => by
   cases i with
   | zero => simpa using h
   | succ i =>
     have h2 := hs.2 i (by simp at hi; omega)
     simpa using h2⟩
theorem exists_list {α : Type} (p : Nat → α → Prop) : ∀ (n : Nat), (∀ i, i < n → ∃ x, p i x) → ∃ l : List α, l.length = n ∧ ∀ i x, l[i]? = some x → p i x
 | 0, _ => ⟨[], rfl, by simp⟩
 | n + 1, h => by
   obtain ⟨l, h1, h2⟩ := exists_list p n fun i hi => h i (by omega)
   obtain ⟨x, hx⟩ := h n (by omega)
   refine ⟨l ++ [x], by simp [h1], fun i y hy => ?_⟩
   by_cases hi : i < l.length
   · rw [List.getElem?_append_left hi] at hy
     exact h2 i y hy
   · rw [List.getElem?_append_right (by omega)] at hy
     by_cases h0 : i - l.length = 0
     · rw [h0] at hy
       simp at hy
       subst hy
       have : i = n := by omega
       subst this
       exact hx
     · obtain ⟨k, hk⟩ := Nat.exists_eq_succ_of_ne_zero h0
       rw [hk] at hy
       simp at hy
section
variable {H : Type} {enc : TypeId × Value → H} {P : Program} {W : World} {base : Nat} {sp : Nat → Bool} {held : Bool} {b0 : Nat} {r : Reach}
theorem cell_row {α : Type} {A : α → AV} {u e : TypeId} (hu : P.underlying u = some (.slice e)) (hc : P.cellsOf e = 1) (he : ∀ (fuel : Nat) (c : Value) (y : DataW H × List MemPlace), DataW.trod enc P W base sp held fuel e [c] = some y → ∃ x, Rd (fun _ => none) W (A x) c)
   {c : Value} (hv : Cell.okWide P W r b0 u c) {fuel : Nat} {y : DataW H × List MemPlace} (h : DataW.trod enc P W base sp held fuel u [c] = some y) : ∃ l : List α, Rd (fun _ => none) W (.sl l.length (l.map A)) c := by
 rcases DataW.trod_slice hu h with ⟨h0, -⟩ | ⟨a, len, cap, elems, rest, n, -, h0, -, -, hl, hm, hlen, hel, -⟩
 · obtain rfl := (List.cons.inj h0).1
   exact ⟨[], .slnil⟩
 · obtain rfl := (List.cons.inj h0).1
   have hspot : a.spot = none := by
     simp only [Cell.okWide, hu, Cell.ok] at hv
     exact hv.2.2.2.1
   obtain ⟨b, off, spot⟩ := a
   simp only at hspot
   subst hspot
   have hadd : ∀ i, (⟨b, off, none⟩ : Addr).add i = ⟨b, off + i, none⟩ := fun i => by unfold Addr.add; split <;> simp_all
   obtain ⟨l, h1, h2⟩ := exists_list (fun i x => ∃ v, W.cell? ⟨b, off + i, none⟩ = some v ∧ Rd (fun _ => none) W (A x) v) len (fun i hi => by
     have hE := hel i hi
     rw [List.getElem?_eq_getElem (by omega)] at hE
     obtain ⟨c1, hc1, hy1⟩ := Option.bind_eq_some_iff.1 hE
     obtain ⟨-, h4, h5⟩ := World.cells?_some hc1
     rw [hc] at h4 h5
     match c1, h4 with
     | [v], _ =>
       have h6 := h5 0 (by omega)
       rw [Nat.mul_one, hadd] at h6
       have e0 : (⟨b, off + i, none⟩ : Addr).add 0 = ⟨b, off + i, none⟩ := by simp [Addr.add]
       rw [e0] at h6
       obtain ⟨x, hx⟩ := he n v _ hy1
       exact ⟨x, v, by simpa using h6, hx⟩)
   refine ⟨l, ?_⟩
   rw [h1]
   have h3 : ∀ i (hi : i < l.length), ∃ v, W.cell? ⟨b, off + i, none⟩ = some v ∧ Rd (fun _ => none) W (A l[i]) v := fun i hi => h2 i l[i] (List.getElem?_eq_getElem hi)
   refine .sl len _ b off cap (fun i => (W.cell? ⟨b, off + i, none⟩).getD undef) (fun _ => rfl) hl hm (fun i hi => ?_) (fun i hi => ?_)
   · obtain ⟨v, k1, -⟩ := h3 i (by simpa using hi)
     rw [k1]; rfl
   · have hi' : i < l.length := by simpa using hi
     obtain ⟨v, k1, k2⟩ := h3 i hi'
     rw [k1]
     simpa [List.getD_eq_getElem?_getD, hi'] using k2
theorem cell_ints {u e : TypeId} (hu : P.underlying u = some (.slice e)) (he : P.underlying e = some (.int .i64)) (hc : P.cellsOf e = 1) {c : Value} (hv : Cell.okWide P W r b0 u c) {fuel : Nat} {y : DataW H × List MemPlace} (h : DataW.trod enc P W base sp held fuel u [c] = some y) : ∃ l : List Int, Rd (fun _ => none) W (iv l) c :=
 cell_row (A := iAV) hu hc (fun fuel c y h => by
   obtain ⟨n, h1, -, -⟩ := DataW.trod_int he h
   obtain rfl := (List.cons.inj h1).1
   exact ⟨n, .int _ _⟩) hv h
theorem trod_fields {t : TypeId} {fs : Array Field} (ht : P.underlying t = some (.struct fs)) {fuel : Nat} {cs : List Value} {y : DataW H × List MemPlace} (h : DataW.trod enc P W base sp held fuel t cs = some y) :
   ∀ (i : Nat) (f : Field), fs[i]? = some f → ∃ n y', DataW.trod enc P W base sp held n f.type ((cs.drop f.offset).take (P.cellsOf f.type)) = some y' := by
 obtain ⟨xs, n, -, -, hl, hxl, hf⟩ := DataW.trod_struct ht h
 intro i f hfi
 have h1 := hf i f hfi
 have hi : i < xs.length := by rw [hxl]; exact (Array.getElem?_eq_some_iff.1 hfi).1
 rw [List.getElem?_eq_getElem hi] at h1
 exact ⟨n, _, h1⟩
end
section
variable {H : Type} {enc : TypeId × Value → H} {P : Program} {W : World} {base : Nat} {sp : Nat → Bool} {held : Bool} {b0 : Nat} {r : Reach} {v : Value} {d : DataW H} {p : List MemPlace}
theorem arg_ints {u e : TypeId} (hu : P.underlying u = some (.slice e)) (he : P.underlying e = some (.int .i64)) (hc : P.cellsOf e = 1) (hv : Value.okWide P W r b0 u v) (h : DataW.Trod enc P W base sp held u v d p) : ∃ l : List Int, Rd (fun _ => none) W (iv l) v := by
 obtain ⟨a, len, cap, rfl⟩ := okWide_slice hu hv
 obtain ⟨fuel, hf⟩ := h
 have hv : Cell.okWide P W r b0 u (.slice a len cap) := by simpa only [Value.okWide, hu] using hv
 exact cell_ints hu he hc hv hf
theorem arg_int {u : TypeId} (hu : P.underlying u = some (.int .i64)) (hv : Value.okWide P W r b0 u v) (h : DataW.Trod enc P W base sp held u v d p) : ∃ n : Int, Rd (fun _ => none) W (iAV n) v := by
 obtain ⟨n, rfl, -⟩ := open_int hu hv h
 exact ⟨n, .int _ _⟩
end
open Go.ChangeShapes Go.WideShapes Go.ChangeAt Go.RowKit
def sum2 : List (TypeId × Nat) → Nat
 | [] => 0
 | x :: l => x.2 + sum2 l
def offs : List (TypeId × Nat) → Nat → List (TypeId × Nat)
 | [], _ => []
 | x :: l, o => (x.1, o) :: offs l (o + x.2)
section
variable {H : Type} {enc : TypeId × Value → H} {P : Program} {W : World} {base : Nat} {sp : Nat → Bool} {held : Bool} {b0 : Nat} {r : Reach}
def IntT (enc : TypeId × Value → H) (P : Program) (W : World) (base : Nat) (sp : Nat → Bool) (held : Bool) (x : TypeId × Nat) : Prop :=
 P.cellsOf x.1 = x.2 ∧ ∀ (fuel : Nat) (cs : List Value) (y : DataW H × List MemPlace), DataW.trod enc P W base sp held fuel x.1 cs = some y → ∃ ns : List Int, ns.length = x.2 ∧ cs = ns.map fun z => Value.int .i64 z
theorem IntT.int {t : TypeId} (hu : P.underlying t = some (.int .i64)) (hc : P.cellsOf t = 1) : IntT enc P W base sp held (t, 1) := by
 refine ⟨hc, fun fuel cs y h => ?_⟩
 obtain ⟨n, h1, -, -⟩ := DataW.trod_int hu h
 exact ⟨[n], rfl, h1⟩
theorem IntT.fields {t : TypeId} {fs : Array Field} (ht : P.underlying t = some (.struct fs)) {fuel : Nat} {cs : List Value} {y : DataW H × List MemPlace} (h : DataW.trod enc P W base sp held fuel t cs = some y) : ∀ (L : List (TypeId × Nat)) (i o : Nat),
   (∀ x ∈ L, IntT enc P W base sp held x) → (fs.toList.drop i).map (fun f => (f.type, f.offset)) = offs L o → o + sum2 L = cs.length → ∃ ns : List Int, ns.length = sum2 L ∧ cs.drop o = ns.map fun z => Value.int .i64 z
 | [], i, o, _, _, hs => ⟨[], rfl, by rw [List.drop_eq_nil_of_le (by simp [sum2] at hs; omega)]; rfl⟩
 | x :: L, i, o, hx, hf, hs => by
   have h0 : fs[i]? = (fs.toList.drop i)[0]? := by simp
   cases hd : fs.toList.drop i with
   | nil => rw [hd] at hf; cases hf
   | cons f l =>
     rw [hd] at hf h0
     simp only [offs, List.map_cons, List.cons.injEq, Prod.mk.injEq] at hf
     obtain ⟨⟨h1, h2⟩, h3⟩ := hf
     obtain ⟨n, y', h4⟩ := trod_fields ht h i f (by rw [h0]; rfl)
     obtain ⟨k2, k1⟩ := hx x (List.mem_cons_self ..)
     rw [h1, h2, k2] at h4
     obtain ⟨ns, h5, h6⟩ := k1 n _ _ h4
     obtain ⟨ms, h7, h8⟩ := IntT.fields ht h L (i + 1) (o + x.2) (fun z hz => hx z (List.mem_cons_of_mem _ hz)) (by
       have e : fs.toList.drop (i + 1) = l := by rw [← List.drop_drop, hd]; rfl
       rw [e, h3]) (by rw [← hs]; show _ = o + (x.2 + sum2 L); omega)
     refine ⟨ns ++ ms, by rw [List.length_append, h5, h7]; rfl, ?_⟩
     rw [List.map_append, ← h6, ← h8, ← List.drop_drop, List.take_append_drop]
theorem IntT.struct {t : TypeId} {n : Nat} {fs : Array Field} (ht : P.underlying t = some (.struct fs)) (hc : P.cellsOf t = n) (L : List (TypeId × Nat)) (hx : ∀ x ∈ L, IntT enc P W base sp held x) (hf : fs.toList.map (fun f => (f.type, f.offset)) = offs L 0) (hn : sum2 L = n) : IntT enc P W base sp held (t, n) := by
 refine ⟨hc, fun fuel cs y h => ?_⟩
 obtain ⟨xs, m, -, -, hl, -, -⟩ := DataW.trod_struct ht h
 obtain ⟨ns, h1, h2⟩ := IntT.fields ht h L 0 0 hx hf (by rw [hl, hc, hn, Nat.zero_add])
 exact ⟨ns, by rw [h1]; exact hn, h2⟩
end
open Go.ChangeShapes Go.WideShapes Go.ChangeAt Go.RowKit
theorem array_ints {H : Type} {enc : TypeId × Value → H} {P : Program} {w : World} {base : Nat} {sp : Nat → Bool} {held : Bool} {t e n : Nat} (ht : P.underlying t = some (.array n e)) (he : P.underlying e = some (.int .i64)) (hc : P.cellsOf e = 1) {fuel : Nat} {cs : List Value} {zs : List Int} {p : List MemPlace}
   (h : DataW.trod enc P w base sp held fuel t cs = some (.agg (zs.map fun z => DataW.lit (Lit.int .i64 z)), p)) : ∀ (k : Nat) (z : Int), zs[k]? = some z → cs[k]? = some (.int .i64 z) := by
 obtain ⟨xs, m, -, hx, hl, hn, hel⟩ := DataW.trod_array ht h
 injection hx with hx1 hx2
 injection hx1 with hx1
 intro k z hz
 have hk : k < zs.length := (List.getElem?_eq_some_iff.1 hz).1
 have hlen : xs.length = zs.length := by simpa using (congrArg List.length hx1).symm
 have h1 := hel k (by omega)
 rw [hc, Nat.mul_one, List.getElem?_eq_getElem (by omega)] at h1
 obtain ⟨i, h2, h3, -⟩ := DataW.trod_int he h1
 have h4 : (xs.map (·.1))[k]? = some (.lit (.int .i64 i)) := by
   rw [List.getElem?_map, List.getElem?_eq_getElem (by omega)]
   simp [h3]
 rw [← hx1, List.getElem?_map, hz] at h4
 simp at h4
 subst h4
 have h5 := congrArg (·[0]?) h2
 simpa [List.getElem?_take, List.getElem?_drop] using h5
theorem gLanes : Tryd.prog.globalNamed "radiolink/stream.lanes" = some 0 := by kernel_rfl
theorem tLanes : (Tryd.prog.globals[0]?).map (·.type) = some 104 := by kernel_rfl
theorem lanes_of {W : World} (h : laidMetH Tryd.prog [("radiolink/stream.lanes", Rows.laid_radiolink_stream_lanes)] W) : Glob gl (fun _ => none) W := by
 rw [MakeChecks.laidMetH_plain _ _ _ (by kernel_rfl)] at h
 obtain ⟨ps, ⟨g0, t0, cs0, f0, p0, q0, hg0, ht0, hv0, hd0, -, -⟩, -, -⟩ := h
 obtain rfl := Option.some.inj (gLanes.symm.trans hg0)
 obtain rfl := Option.some.inj (tLanes.symm.trans ht0)
 obtain ⟨xs, m, -, hx, hl, hn, hel⟩ := DataW.trod_array Tryd.underlying104 hd0
 injection hx with hx1 hx2
 have hall : ∀ i : Nat, i < 8 → ∀ k z, ([[0, 4, 8, 12], [1, 5, 9, 13], [2, 6, 10, 14], [3, 7, 11, 15], [0, 5, 10, 15], [1, 6, 11, 12], [2, 7, 8, 13], [3, 4, 9, 14]] : List (List Int))[i]?.bind (·[k]?) = some z → cs0.toList[i * 4 + k]? = some (.int .i64 z) := by
   intro i hi k z hz
   obtain ⟨zs, hzs, hk⟩ := Option.bind_eq_some_iff.1 hz
   have h1 := hel i hi
   rw [show Tryd.prog.cellsOf 103 = 4 by kernel_rfl, List.getElem?_eq_getElem (by omega)] at h1
   have hmap : xs.map (·.1) = ([[0, 4, 8, 12], [1, 5, 9, 13], [2, 6, 10, 14], [3, 7, 11, 15], [0, 5, 10, 15], [1, 6, 11, 12], [2, 7, 8, 13], [3, 4, 9, 14]] : List (List Int)).map fun zs => DataW.agg (zs.map fun z => DataW.lit (Lit.int .i64 z)) := by
     injection hx1 with hx1
     exact hx1.symm
   have h2 : (xs.map (·.1))[i]? = some (.agg (zs.map fun z => DataW.lit (Lit.int .i64 z))) := by
     rw [hmap, List.getElem?_map, hzs]; rfl
   rw [List.getElem?_map, List.getElem?_eq_getElem (by omega)] at h2
   have h3 : (xs[i]'(by omega)).1 = .agg (zs.map fun z => DataW.lit (Lit.int .i64 z)) := Option.some.inj h2
   have h4 : DataW.trod (fun _ => ()) Tryd.prog W 0 (fun _ => true) false m 103 ((cs0.toList.drop (i * 4)).take 4) = some (.agg (zs.map fun z => DataW.lit (Lit.int .i64 z)), (xs[i]'(by omega)).2) := by
     rw [h1, ← h3]
   have h5 := array_ints Tryd.underlying103 Tryd.underlying3 (by kernel_rfl) h4 k z hk
   have hk4 : k < 4 := by
     have := (List.getElem?_eq_some_iff.1 h5).1
     simp at this
     omega
   simpa [List.getElem?_take, hk4, List.getElem?_drop] using h5
 have hcell : ∀ o z, tblN[o]? = some z → W.cell? ⟨0, 0 + o, none⟩ = some (.int .i64 z) := by
   intro o z hz
   have ho : o < 32 := (List.getElem?_eq_some_iff.1 hz).1
   have h1 := hall (o / 4) (by omega) (o % 4) z (by
     rw [← hz]
     have : ∀ o, o < 32 → (([[0, 4, 8, 12], [1, 5, 9, 13], [2, 6, 10, 14], [3, 7, 11, 15], [0, 5, 10, 15], [1, 6, 11, 12], [2, 7, 8, 13], [3, 4, 9, 14]] : List (List Int))[o / 4]?.bind (·[o % 4]?)) = tblN[o]? := by decide
     exact this o ho)
   have h2 := World.var?_cell hg0 hv0 o
   rw [show o / 4 * 4 + o % 4 = o by omega] at h1
   rw [Nat.zero_add, h2]
   simpa using h1
 refine Glob.of (fun g => by unfold gl; split <;> rfl) ?_
 intro g
 by_cases hg : g = 0
 · subst hg
   show Rd _ W (.ip (tblN.map iAV)) _
   refine .ip _ _ 0 (fun i => .int .i64 (tblN.getD i 0)) (fun _ => rfl) (fun i hi => ?_) (fun i hi => ?_)
   · have hi : i < tblN.length := by simpa using hi
     exact hcell i _ (by rw [List.getD_eq_getElem?_getD, List.getElem?_eq_getElem hi]; rfl)
   · have hi : i < tblN.length := by simpa using hi
     rw [List.getD_eq_getElem?_getD, List.getElem?_map, List.getD_eq_getElem?_getD, List.getElem?_eq_getElem hi]
     exact .int _ _
 · have : gl g = .any := by
     unfold gl
     split
     · rename_i hb
       exact absurd (Nat.eq_of_beq_eq_true hb) hg
     · rfl
   rw [this]
   exact .any _
theorem door_met (os : Os) (args : Array Value) : laidMetH Tryd.prog [("radiolink/stream.lanes", Rows.laid_radiolink_stream_lanes)] ((World.doorLaid Tryd.prog 400 os).forCall (fun _ _ => 0) ⟨#[], args, []⟩).memory :=
 laidMetH_of_parts3 (fuel := 8) (laidMet_of_run' 8 (by kernel_rfl) (by kernel_rfl)) (by kernel_rfl) (by kernel_rfl)
end Go.Proofs.YtnmifddidgofaaaDoor
