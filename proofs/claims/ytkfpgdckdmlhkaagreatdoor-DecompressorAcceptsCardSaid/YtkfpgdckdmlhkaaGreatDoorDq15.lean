/-
  Contracts of the functions that the laws reach.
-/
import Derived.Test.YtkfpgdckdmlhkaaGreatDoorDq01
import Derived.Test.YtkfpgdckdmlhkaaGreatDoorDq02
import Derived.Test.YtkfpgdckdmlhkaaGreatDoorDq03
import Derived.Test.YtkfpgdckdmlhkaaGreatDoorDq04
import Derived.Test.YtkfpgdckdmlhkaaGreatDoorDq05
import Derived.Test.YtkfpgdckdmlhkaaGreatDoorDq06
import Derived.Test.YtkfpgdckdmlhkaaGreatDoorDq07
import Derived.Test.YtkfpgdckdmlhkaaGreatDoorDq08
import Derived.Test.YtkfpgdckdmlhkaaGreatDoorDq10
import Derived.Test.YtkfpgdckdmlhkaaGreatDoorDq14
set_option maxHeartbeats 4000000
set_option linter.all false
namespace Go.Proofs.YtkfpgdckdmlhkaaGreatDoor
open Go.RowKit
variable {G : Nat → AV}
def gB (b : List UInt8) (a n : Nat) : Int := beN ((b.drop a).take n)
def isRtp (b : List UInt8) : Bool := decide (40 ≤ b.length) && decide (b.getD 28 0 = 128)
def wC (b : List UInt8) : Hd :=
 if isRtp b = true then ⟨2, ((b.getD 1 0).toNat : Nat), gB b 4 2, ((b.getD 6 0).toNat / 64 % 2 : Nat), ((b.getD 8 0).toNat : Nat), gB b 12 4, gB b 16 4, gB b 20 2, gB b 22 2, gB b 26 2, ((b.getD 29 0).toNat / 128 : Nat), ((b.getD 29 0).toNat % 128 : Nat), gB b 30 2, gB b 32 4, gB b 36 4⟩
 else ⟨1, ((b.getD 1 0).toNat : Nat), gB b 4 2, ((b.getD 6 0).toNat / 64 % 2 : Nat), ((b.getD 8 0).toNat : Nat), gB b 12 4, gB b 16 4, gB b 20 2, gB b 22 2, gB b 26 2, 0, 0, 0, 0, 0⟩
def prsN (b : List UInt8) : Nat := if isRtp b = true then 40 else 28
def qv (b : List UInt8) : (Hd × List UInt8) × Int :=
 if b.length < 28 ∨ 1500 < b.length then ((Hd.z, []), 2)
 else if zm (wC b) (b.drop (prsN b)) = (b, 0) then ((wC b, b.drop (prsN b)), 0) else ((Hd.z, []), 4)
theorem qJ (b : List UInt8) (a n : Nat) (h4 : n ≤ 4) (ha : a + n ≤ b.length) (hl : b.length ≤ 100000) : LP Tryz.prog G 84 [bv b, iAV a, iAV n] [] (fun _ => (iAV (gB b a n), [])) := by
 have hr : ∀ i, i < n → 0 ≤ gB b a i ∧ gB b a i < 16777216 := fun i hi => by
   have h := beN_rng ((b.drop a).take i)
   have hk : ((b.drop a).take i).length = i := by simp; omega
   rw [hk] at h
   unfold gB
   have : i = 0 ∨ i = 1 ∨ i = 2 ∨ i = 3 := by omega
   rcases this with rfl | rfl | rfl | rfl <;> omega
 have hz : gB b a 0 = 0 := by unfold gB; simp [beN]
 have hor : ∀ i, i < n → q7 .add .i64 (q7 .mul .i64 256 (gB b a i)) (IntKind.i64.wrap ((b.getD ((q7 .add .i64 (a : Int) (i : Int)).toNat * 1) 0).toNat : Int)) = gB b a (i + 1) := fun i hi => by
   have e0 : (q7 .add .i64 (a : Int) (i : Int)).toNat * 1 = a + i := by simp only [q7, IntKind.wrap_i64]; omega
   rw [e0]
   have := (b.getD (a + i) 0).toNat_lt
   have h3 := hr i hi
   have e1 : gB b a (i + 1) = 256 * gB b a i + ((b.getD (a + i) 0).toNat : Int) := by
     unfold gB
     rw [List.take_succ_eq_append_getElem (by simp; omega), beN_app]
     simp [List.getD_eq_getElem?_getD, show a + i < b.length by omega]
   rw [e1]
   simp only [q7, IntKind.wrap_i64]
   omega
 have hix : ∀ i : Nat, i < n → (q7 .add .i64 (a : Int) (i : Int)).toNat * 1 < b.length := fun i hi => by simp only [q7, IntKind.wrap_i64]; omega
 refine goW [] Tryz.func84 rfl ?_
 conv => whnf
 repeat' ((first | refine T.s ?_ | ((first | apply goB | apply AB.dec | apply AB.gen) <;> intro h <;> try (exfalso; omega)) | refine LQ.mk fun r => ?_ | (show SQ _ _ _ (.loop _) _ _ _; first | (apply goO tQ [] 3 (S := Nat) [0, 1, 2] (fun i => ⟨[(8, .int .i64 i), (7, .int .i64 (gB b a i))], [], i ≤ n, n - i⟩) (0) (by rfl); (focus (all_goals (try exact K6E1); done)); rintro i hok; (try dsimp only at hok))) | (show AtL _ _ _ _ _ _ _ _ _ _; first | (apply AtL.mk' (id := 3) (S := Nat) (i + 1); all_goals (try exact K6E1); done) | (apply AtL.mk' (id := 3) (S := Nat) (i + 1); all_goals (try exact K6E1))) | exact T.z | refine ⟨_, rfl, rfl, ?_⟩ | fail) <;> conv => whnf)
 all_goals (try dsimp only)
 all_goals (obtain rfl : i = n := (by omega))
 all_goals (show RL _ _ _; refine goR ?_)
 all_goals rfl
theorem sh6 : ∀ x : Nat, x < 256 → IntKind.i64.wrap (qB .and .u8 ((x : Int).fdiv (2 ^ min (6 : Int).toNat IntKind.u8.bits)) 1) = ((x / 64 % 2 : Nat) : Int) := by decide +kernel
theorem sh7 : ∀ x : Nat, x < 256 → IntKind.i64.wrap ((x : Int).fdiv (2 ^ min (7 : Int).toNat IntKind.u8.bits)) = ((x / 128 : Nat) : Int) := by decide +kernel
theorem an7q : ∀ x : Nat, x < 256 → IntKind.i64.wrap (qB .and .u8 (x : Int) 127) = ((x % 128 : Nat) : Int) := by decide +kernel
theorem wr8 : ∀ x : Nat, x < 256 → IntKind.i64.wrap (x : Int) = (x : Int) := by decide +kernel
theorem parsR_u (b : List UInt8) (h1 : 28 ≤ b.length) (h2 : b.length ≤ 1500) : qv b = if zm (wC b) (b.drop (prsN b)) = (b, 0) then ((wC b, b.drop (prsN b)), 0) else ((Hd.z, []), 4) := by unfold qv; rw [if_neg (by omega)]
theorem RL.hdb {v : AV} {p : List UInt8} {q : Nm} {n : Nat} {e : Int} {l : LS} (h : LH l q fun c _ _ => c.cs = p.map bAV ∧ n = p.length) : RL (fun _ => (.tup [v, bv p, iAV e], [])) (.tup [v, .vw q 0 n 1, .int .i64 e]) l := by
 obtain ⟨l1, c, l2, rfl, h1, rfl⟩ := h.ex
 exact RL.frz [q] (LF.tup (xs := [v, .vw q 0 p.length 1, .int .i64 e]) (ys := [v, bv p, iAV e]) ⟨LF.eq rfl, LF.rowF InL.here ⟨l1, c, l2, rfl, h1, rfl⟩, LF.eq rfl, trivial⟩) ⟨l1, c, l2, rfl, LB.nil⟩
theorem RL.hdn {v : AV} {e : Int} {l : LS} : RL (fun _ => (.tup [v, bv [], iAV e], [])) (.tup [v, .nils, .int .i64 e]) l :=
 RL.frz [] (LF.tup (xs := [v, .nils, .int .i64 e]) (ys := [v, bv [], iAV e]) ⟨LF.eq rfl, LF.nils rfl rfl, LF.eq rfl, trivial⟩) LB.nil
theorem n128 (x : UInt8) : (x = 128) = (x.toNat = 128) := propext ⟨fun h => by rw [h]; rfl, fun h => UInt8.toNat_inj.1 h⟩
theorem rparse_u (b : List UInt8) (h28 : 28 ≤ b.length) (hl : b.length ≤ 1500) (hr : isRtp b = false) : LP Tryz.prog G 45 [bv b] [] (fun _ => (.tup [(qv b).1.1.av, bv (qv b).1.2, iAV (qv b).2], [])) := by
 have hX : (⟨1, IntKind.i64.wrap ((b.getD 1 0).toNat : Int), gB b 4 2, IntKind.i64.wrap (qB .and .u8 (((b.getD 6 0).toNat : Int).fdiv (2 ^ min (6 : Int).toNat IntKind.u8.bits)) 1), IntKind.i64.wrap ((b.getD 8 0).toNat : Int), gB b 12 4, gB b 16 4, gB b 20 2, gB b 22 2, gB b 26 2, 0, 0, 0, 0, 0⟩ : Hd) = wC b := by
   unfold wC
   rw [hr, sh6 _ (b.getD 6 0).toNat_lt, wr8 _ (b.getD 1 0).toNat_lt, wr8 _ (b.getD 8 0).toNat_lt]
   rfl
 have hN : prsN b = 28 := by unfold prsN; rw [hr]; rfl
 have hl : b.length ≤ 100000 := by omega
 have hB := kE (G := G) (wC b) (b.drop 28) (by simp; omega)
 have hS := xw (G := G) b (zm (wC b) (b.drop 28)).1
 rw [parsR_u b (by omega) (by omega), hN]
 simp only [isRtp, Bool.and_eq_true, Bool.and_eq_false_iff, decide_eq_true_eq, decide_eq_false_iff_not, n128] at hr
 by_cases hc : zm (wC b) (b.drop 28) = (b, 0)
 · rw [if_pos hc]
   rw [hc] at hB hS
   rw [decide_eq_true rfl] at hS
   rw [← hX] at hB ⊢
   refine goW [] Tryz.func45 rfl ?_
   conv => whnf
   repeat' ((first | exact Nm.b 0 | (show LC _ _ _ _ _ _; first | refine LC.pure (qJ b 4 2 (by decide) (by omega) hl) ?_ | refine LC.pure (qJ b 12 4 (by decide) (by omega) hl) ?_ | refine LC.pure (qJ b 16 4 (by decide) (by omega) hl) ?_ | refine LC.pure (qJ b 20 2 (by decide) (by omega) hl) ?_ | refine LC.pure (qJ b 22 2 (by decide) (by omega) hl) ?_ | refine LC.pure (qJ b 26 2 (by decide) (by omega) hl) ?_ | refine LC.pure (qJ b 30 2 (by decide) (by omega) hl) ?_ | refine LC.pure (qJ b 32 4 (by decide) (by omega) hl) ?_ | refine LC.pure (qJ b 36 4 (by decide) (by omega) hl) ?_ | refine LC.pure (hB) ?_ | refine LC.pure (hS) ?_ | refine goE ?_) | (show AC _ _ _; first | (refine AC.idx 1 0 rfl ?_ ?_; (focus omega)) | (refine AC.idx 6 0 rfl ?_ ?_; (focus omega)) | (refine AC.idx 8 0 rfl ?_ ?_; (focus omega)) | (refine AC.idx 28 0 rfl ?_ ?_; (focus omega)) | (refine AC.idx 29 0 rfl ?_ ?_; (focus omega))) | (show AQ _ _; first | (refine AQ.tailE 28 rfl ?_ ?_; (focus (simp; omega)))) | refine T.s ?_ | ((first | apply goB | apply AB.dec | apply AB.gen) <;> intro h <;> try (exfalso; omega)) | refine LQ.mk fun r => ?_ | (show SQ _ _ _ _ _ _ _; first | (refine goD tQ qb 3 [2, 8, 14, 5, 17, 19, 21, 23, 25] [0, 1, 2, 3, 4, 6, 7, 8, 9, 10, 11, 12, 13, 14, 15, 16, 18, 20, 22, 24, 5, 17, 19, 21, 23, 25, 26, 27, 28] [r] (by kernel_rfl) ?_) | (refine goD tQ qb 3 [2, 8, 14, 5, 17, 19, 21, 23, 25] [0, 1, 2, 3, 4, 6, 7, 8, 9, 10, 11, 12, 13, 14, 15, 16, 18, 20, 22, 24, 5, 17, 19, 21, 23, 25, 26, 27, 28] [] (by kernel_rfl) ?_) | (refine goD tQ qb 7 [7, 11] [0, 1, 2, 3, 4, 5, 6, 7, 8, 9, 10, 11, 12, 13] [] (by kernel_rfl) ?_) | (refine goD tQ qb 9 [] [0, 1, 2, 3, 4, 5, 6, 7, 8, 9] [r] (by kernel_rfl) ?_) | (refine goD tQ qb 9 [] [0, 1, 2, 3, 4, 5, 6, 7, 8, 9] [] (by kernel_rfl) ?_) | (refine goD tQ qb 12 [0, 4] [0, 1, 2, 3, 4, 5, 6, 7] [r] (by kernel_rfl) ?_) | (refine goD tQ qb 12 [0, 4] [0, 1, 2, 3, 4, 5, 6, 7] [] (by kernel_rfl) ?_)) | (show (_ → _) ∧ (¬ _ → _); first | refine T.y ?_ | refine qn (fun h => ?_) (fun h => ?_)) | exact T.z | refine ⟨_, rfl, rfl, ?_⟩ | fail) <;> conv => whnf)
   all_goals (try dsimp only)
   all_goals
     refine RL.hdb ?_
     (repeat first | refine goH ?_ | apply LH.here | apply LH.next)
     exact ⟨rfl, by simp⟩
 · rw [if_neg hc]
   rw [← hX] at hB hS hc
   refine goW [] Tryz.func45 rfl ?_
   conv => whnf
   repeat' ((first | exact Nm.b 0 | (show LC _ _ _ _ _ _; first | refine LC.pure (qJ b 4 2 (by decide) (by omega) hl) ?_ | refine LC.pure (qJ b 12 4 (by decide) (by omega) hl) ?_ | refine LC.pure (qJ b 16 4 (by decide) (by omega) hl) ?_ | refine LC.pure (qJ b 20 2 (by decide) (by omega) hl) ?_ | refine LC.pure (qJ b 22 2 (by decide) (by omega) hl) ?_ | refine LC.pure (qJ b 26 2 (by decide) (by omega) hl) ?_ | refine LC.pure (qJ b 30 2 (by decide) (by omega) hl) ?_ | refine LC.pure (qJ b 32 4 (by decide) (by omega) hl) ?_ | refine LC.pure (qJ b 36 4 (by decide) (by omega) hl) ?_ | refine LC.pure (hB) ?_ | refine LC.pure (hS) ?_ | refine goE ?_) | (show AC _ _ _; first | (refine AC.idx 1 0 rfl ?_ ?_; (focus omega)) | (refine AC.idx 6 0 rfl ?_ ?_; (focus omega)) | (refine AC.idx 8 0 rfl ?_ ?_; (focus omega)) | (refine AC.idx 28 0 rfl ?_ ?_; (focus omega)) | (refine AC.idx 29 0 rfl ?_ ?_; (focus omega))) | (show AQ _ _; first | (refine AQ.tailE 28 rfl ?_ ?_; (focus (simp; omega)))) | refine T.s ?_ | ((first | apply goB | apply AB.dec | apply AB.gen) <;> intro h <;> try (exfalso; omega)) | refine LQ.mk fun r => ?_ | (show SQ _ _ _ _ _ _ _; first | (refine goD tQ qb 3 [2, 8, 14, 5, 17, 19, 21, 23, 25] [0, 1, 2, 3, 4, 6, 7, 8, 9, 10, 11, 12, 13, 14, 15, 16, 18, 20, 22, 24, 5, 17, 19, 21, 23, 25, 26, 27, 28] [r] (by kernel_rfl) ?_) | (refine goD tQ qb 3 [2, 8, 14, 5, 17, 19, 21, 23, 25] [0, 1, 2, 3, 4, 6, 7, 8, 9, 10, 11, 12, 13, 14, 15, 16, 18, 20, 22, 24, 5, 17, 19, 21, 23, 25, 26, 27, 28] [] (by kernel_rfl) ?_) | (refine goD tQ qb 7 [7, 11] [0, 1, 2, 3, 4, 5, 6, 7, 8, 9, 10, 11, 12, 13] [] (by kernel_rfl) ?_) | (refine goD tQ qb 9 [] [0, 1, 2, 3, 4, 5, 6, 7, 8, 9] [r] (by kernel_rfl) ?_) | (refine goD tQ qb 9 [] [0, 1, 2, 3, 4, 5, 6, 7, 8, 9] [] (by kernel_rfl) ?_) | (refine goD tQ qb 12 [0, 4] [0, 1, 2, 3, 4, 5, 6, 7] [r] (by kernel_rfl) ?_) | (refine goD tQ qb 12 [0, 4] [0, 1, 2, 3, 4, 5, 6, 7] [] (by kernel_rfl) ?_)) | (show (_ → _) ∧ (¬ _ → _); first | refine T.y ?_ | refine qn (fun h => ?_) (fun h => ?_)) | exact T.z | refine ⟨_, rfl, rfl, ?_⟩ | fail) <;> conv => whnf)
   all_goals (try dsimp only)
   all_goals first
     | exact RL.hdn
     | (exfalso; clear hB hS hX; generalize zm _ _ = B at *; obtain ⟨B1, B2⟩ := B; refine hc ?_; simp only [Prod.mk.injEq]; (try simp only [Bool.not_eq_true', decide_eq_true_eq, decide_eq_false_iff_not, Bool.not_eq_false', ne_eq, Decidable.not_not] at *); simp_all)
     | trace_state
theorem rparse_t (b : List UInt8) (h28 : 28 ≤ b.length) (hl : b.length ≤ 1500) (hr : isRtp b = true) : LP Tryz.prog G 45 [bv b] [] (fun _ => (.tup [(qv b).1.1.av, bv (qv b).1.2, iAV (qv b).2], [])) := by
 have hX : (⟨2, IntKind.i64.wrap ((b.getD 1 0).toNat : Int), gB b 4 2, IntKind.i64.wrap (qB .and .u8 (((b.getD 6 0).toNat : Int).fdiv (2 ^ min (6 : Int).toNat IntKind.u8.bits)) 1), IntKind.i64.wrap ((b.getD 8 0).toNat : Int), gB b 12 4, gB b 16 4, gB b 20 2, gB b 22 2, gB b 26 2, IntKind.i64.wrap (((b.getD 29 0).toNat : Int).fdiv (2 ^ min (7 : Int).toNat IntKind.u8.bits)), IntKind.i64.wrap (qB .and .u8 ((b.getD 29 0).toNat : Int) 127), gB b 30 2, gB b 32 4, gB b 36 4⟩ : Hd) = wC b := by
   unfold wC
   rw [hr, sh6 _ (b.getD 6 0).toNat_lt, wr8 _ (b.getD 1 0).toNat_lt, wr8 _ (b.getD 8 0).toNat_lt, sh7 _ (b.getD 29 0).toNat_lt, an7q _ (b.getD 29 0).toNat_lt]
   rfl
 have hN : prsN b = 40 := by unfold prsN; rw [hr]; rfl
 have hl : b.length ≤ 100000 := by omega
 have hB := kE (G := G) (wC b) (b.drop 40) (by simp; omega)
 have hS := xw (G := G) b (zm (wC b) (b.drop 40)).1
 rw [parsR_u b (by omega) (by omega), hN]
 simp only [isRtp, Bool.and_eq_true, Bool.and_eq_false_iff, decide_eq_true_eq, decide_eq_false_iff_not, n128] at hr
 by_cases hc : zm (wC b) (b.drop 40) = (b, 0)
 · rw [if_pos hc]
   rw [hc] at hB hS
   rw [decide_eq_true rfl] at hS
   rw [← hX] at hB ⊢
   refine goW [] Tryz.func45 rfl ?_
   conv => whnf
   repeat' ((first | exact Nm.b 0 | (show LC _ _ _ _ _ _; first | refine LC.pure (qJ b 4 2 (by decide) (by omega) hl) ?_ | refine LC.pure (qJ b 12 4 (by decide) (by omega) hl) ?_ | refine LC.pure (qJ b 16 4 (by decide) (by omega) hl) ?_ | refine LC.pure (qJ b 20 2 (by decide) (by omega) hl) ?_ | refine LC.pure (qJ b 22 2 (by decide) (by omega) hl) ?_ | refine LC.pure (qJ b 26 2 (by decide) (by omega) hl) ?_ | refine LC.pure (qJ b 30 2 (by decide) (by omega) hl) ?_ | refine LC.pure (qJ b 32 4 (by decide) (by omega) hl) ?_ | refine LC.pure (qJ b 36 4 (by decide) (by omega) hl) ?_ | refine LC.pure (hB) ?_ | refine LC.pure (hS) ?_ | refine goE ?_) | (show AC _ _ _; first | (refine AC.idx 1 0 rfl ?_ ?_; (focus omega)) | (refine AC.idx 6 0 rfl ?_ ?_; (focus omega)) | (refine AC.idx 8 0 rfl ?_ ?_; (focus omega)) | (refine AC.idx 28 0 rfl ?_ ?_; (focus omega)) | (refine AC.idx 29 0 rfl ?_ ?_; (focus omega))) | (show AQ _ _; first | (refine AQ.tailE 40 rfl ?_ ?_; (focus (simp; omega)))) | refine T.s ?_ | ((first | apply goB | apply AB.dec | apply AB.gen) <;> intro h <;> try (exfalso; omega)) | refine LQ.mk fun r => ?_ | (show SQ _ _ _ _ _ _ _; first | (refine goD tQ qb 3 [2, 8, 14, 5, 17, 19, 21, 23, 25] [0, 1, 2, 3, 4, 6, 7, 8, 9, 10, 11, 12, 13, 14, 15, 16, 18, 20, 22, 24, 5, 17, 19, 21, 23, 25, 26, 27, 28] [r] (by kernel_rfl) ?_) | (refine goD tQ qb 3 [2, 8, 14, 5, 17, 19, 21, 23, 25] [0, 1, 2, 3, 4, 6, 7, 8, 9, 10, 11, 12, 13, 14, 15, 16, 18, 20, 22, 24, 5, 17, 19, 21, 23, 25, 26, 27, 28] [] (by kernel_rfl) ?_) | (refine goD tQ qb 7 [7, 11] [0, 1, 2, 3, 4, 5, 6, 7, 8, 9, 10, 11, 12, 13] [] (by kernel_rfl) ?_) | (refine goD tQ qb 9 [] [0, 1, 2, 3, 4, 5, 6, 7, 8, 9] [r] (by kernel_rfl) ?_) | (refine goD tQ qb 9 [] [0, 1, 2, 3, 4, 5, 6, 7, 8, 9] [] (by kernel_rfl) ?_) | (refine goD tQ qb 12 [0, 4] [0, 1, 2, 3, 4, 5, 6, 7] [r] (by kernel_rfl) ?_) | (refine goD tQ qb 12 [0, 4] [0, 1, 2, 3, 4, 5, 6, 7] [] (by kernel_rfl) ?_)) | (show (_ → _) ∧ (¬ _ → _); first | refine T.y ?_ | refine qn (fun h => ?_) (fun h => ?_)) | exact T.z | refine ⟨_, rfl, rfl, ?_⟩ | fail) <;> conv => whnf)
   all_goals (try dsimp only)
   all_goals
     refine RL.hdb ?_
     (repeat first | refine goH ?_ | apply LH.here | apply LH.next)
     exact ⟨rfl, by simp⟩
 · rw [if_neg hc]
   rw [← hX] at hB hS hc
   refine goW [] Tryz.func45 rfl ?_
   conv => whnf
   repeat' ((first | exact Nm.b 0 | (show LC _ _ _ _ _ _; first | refine LC.pure (qJ b 4 2 (by decide) (by omega) hl) ?_ | refine LC.pure (qJ b 12 4 (by decide) (by omega) hl) ?_ | refine LC.pure (qJ b 16 4 (by decide) (by omega) hl) ?_ | refine LC.pure (qJ b 20 2 (by decide) (by omega) hl) ?_ | refine LC.pure (qJ b 22 2 (by decide) (by omega) hl) ?_ | refine LC.pure (qJ b 26 2 (by decide) (by omega) hl) ?_ | refine LC.pure (qJ b 30 2 (by decide) (by omega) hl) ?_ | refine LC.pure (qJ b 32 4 (by decide) (by omega) hl) ?_ | refine LC.pure (qJ b 36 4 (by decide) (by omega) hl) ?_ | refine LC.pure (hB) ?_ | refine LC.pure (hS) ?_ | refine goE ?_) | (show AC _ _ _; first | (refine AC.idx 1 0 rfl ?_ ?_; (focus omega)) | (refine AC.idx 6 0 rfl ?_ ?_; (focus omega)) | (refine AC.idx 8 0 rfl ?_ ?_; (focus omega)) | (refine AC.idx 28 0 rfl ?_ ?_; (focus omega)) | (refine AC.idx 29 0 rfl ?_ ?_; (focus omega))) | (show AQ _ _; first | (refine AQ.tailE 40 rfl ?_ ?_; (focus (simp; omega)))) | refine T.s ?_ | ((first | apply goB | apply AB.dec | apply AB.gen) <;> intro h <;> try (exfalso; omega)) | refine LQ.mk fun r => ?_ | (show SQ _ _ _ _ _ _ _; first | (refine goD tQ qb 3 [2, 8, 14, 5, 17, 19, 21, 23, 25] [0, 1, 2, 3, 4, 6, 7, 8, 9, 10, 11, 12, 13, 14, 15, 16, 18, 20, 22, 24, 5, 17, 19, 21, 23, 25, 26, 27, 28] [r] (by kernel_rfl) ?_) | (refine goD tQ qb 3 [2, 8, 14, 5, 17, 19, 21, 23, 25] [0, 1, 2, 3, 4, 6, 7, 8, 9, 10, 11, 12, 13, 14, 15, 16, 18, 20, 22, 24, 5, 17, 19, 21, 23, 25, 26, 27, 28] [] (by kernel_rfl) ?_) | (refine goD tQ qb 7 [7, 11] [0, 1, 2, 3, 4, 5, 6, 7, 8, 9, 10, 11, 12, 13] [] (by kernel_rfl) ?_) | (refine goD tQ qb 9 [] [0, 1, 2, 3, 4, 5, 6, 7, 8, 9] [r] (by kernel_rfl) ?_) | (refine goD tQ qb 9 [] [0, 1, 2, 3, 4, 5, 6, 7, 8, 9] [] (by kernel_rfl) ?_) | (refine goD tQ qb 12 [0, 4] [0, 1, 2, 3, 4, 5, 6, 7] [r] (by kernel_rfl) ?_) | (refine goD tQ qb 12 [0, 4] [0, 1, 2, 3, 4, 5, 6, 7] [] (by kernel_rfl) ?_)) | (show (_ → _) ∧ (¬ _ → _); first | refine T.y ?_ | refine qn (fun h => ?_) (fun h => ?_)) | exact T.z | refine ⟨_, rfl, rfl, ?_⟩ | fail) <;> conv => whnf)
   all_goals (try dsimp only)
   all_goals first
     | exact RL.hdn
     | (exfalso; clear hB hS hX; generalize zm _ _ = B at *; obtain ⟨B1, B2⟩ := B; refine hc ?_; simp only [Prod.mk.injEq]; (try simp only [Bool.not_eq_true', decide_eq_true_eq, decide_eq_false_iff_not, Bool.not_eq_false', ne_eq, Decidable.not_not] at *); simp_all)
     | trace_state
theorem j2 (b : List UInt8) (hl : b.length ≤ 100000) : LP Tryz.prog G 45 [bv b] [] (fun _ => (.tup [(qv b).1.1.av, bv (qv b).1.2, iAV (qv b).2], [])) := by
 by_cases h : b.length < 28 ∨ 1500 < b.length
 · rw [show qv b = ((Hd.z, []), 2) from if_pos h]
   refine goW [] Tryz.func45 rfl ?_
   conv => whnf
   repeat' ((first | exact Nm.b 0 | refine T.s ?_ | ((first | apply goB | apply AB.dec | apply AB.gen) <;> intro h <;> try (exfalso; omega)) | refine LQ.mk fun r => ?_ | (show SQ _ _ _ _ _ _ _; first | (refine goD tQ qb 3 [2, 8, 14, 5, 17, 19, 21, 23, 25] [0, 1, 2, 3, 4, 6, 7, 8, 9, 10, 11, 12, 13, 14, 15, 16, 18, 20, 22, 24, 5, 17, 19, 21, 23, 25, 26, 27, 28] [] (by kernel_rfl) ?_) | (refine goD tQ qb 7 [7, 11] [0, 1, 2, 3, 4, 5, 6, 7, 8, 9, 10, 11, 12, 13] [] (by kernel_rfl) ?_) | (refine goD tQ qb 9 [] [0, 1, 2, 3, 4, 5, 6, 7, 8, 9] [] (by kernel_rfl) ?_) | (refine goD tQ qb 12 [0, 4] [0, 1, 2, 3, 4, 5, 6, 7] [] (by kernel_rfl) ?_)) | (show (_ → _) ∧ (¬ _ → _); first | refine T.y ?_ | refine qn (fun h => ?_) (fun h => ?_)) | exact T.z | refine ⟨_, rfl, rfl, ?_⟩ | fail) <;> conv => whnf)
   all_goals (try dsimp only)
   all_goals exact RL.hdn
 · cases hr : isRtp b with
   | true => exact rparse_t b (by omega) (by omega) hr
   | false => exact rparse_u b (by omega) (by omega) hr
open Go.RowKit
structure Sn where
 act : Bool
 full : Int
 refr : Int
 ser : Int
 sin : Int
 lng : Int
 dy : Dy
 rf : List Hd
def hdv (l : List Hd) : AV := .sl l.length (l.flatMap Hd.cs)
@[reducible] def Sn.cs (s : Sn) : List AV := [.bool s.act, iAV s.full, iAV s.refr, iAV s.ser, iAV s.sin, iAV s.lng, iAV s.dy.st, iAV s.dy.fo, hdv s.rf]
@[reducible] def Sn.av (s : Sn) : AV := .agg s.cs
theorem Sn.cs_len (s : Sn) : s.cs.length = 9 := rfl
theorem Hd.cs_len (h : Hd) : h.cs.length = 15 := rfl
def snv (l : List Sn) : AV := .sl l.length (l.flatMap Sn.cs)
def Sn.z : Sn := ⟨false, 0, 0, 0, 0, 0, Dy.z, []⟩
structure Co where
 m : Int
 w : Int
 cx : List Sn
@[reducible] def Co.av (c : Co) : AV := .agg [iAV c.m, iAV c.w, snv c.cx]
def Co.z : Co := ⟨0, 0, []⟩
def Sn.fst (s : Sn) : Hd := s.rf.getD 0 Hd.z
def Sn.lst (s : Sn) : Hd := s.rf.getD (s.rf.length - 1) Hd.z
def wJ (s : Sn) : Bool := decide (s.full = 0 ∧ s.refr = 0 ∧ s.ser = 0 ∧ s.sin = 0 ∧ s.lng = 0 ∧ s.dy = Dy.z ∧ s.rf = [])
def vz (m w : Int) : Int := if m = 3 then 32 else w
def Sn.ok (m w : Int) (s : Sn) : Bool :=
 if s.act = true then
   decide (1 ≤ s.rf.length ∧ (s.rf.length : Int) ≤ vz m w) && (inR s.ser s.rf.length && (inR s.full w && (inR s.refr w && (decide (¬ (0 < s.full ∧ 0 < s.refr)) &&
     (inR s.sin 32 && (inR s.lng 3 && (s.dy.ok && (decide (s.fst.k = 2 ∨ s.dy = Dy.z) && s.rf.all fun r => r.ok && qA r s.fst))))))))
 else wJ s
def zF (s t : Sn) : Bool := s.act && (t.act && qA s.fst t.fst)
def jP (m w : Int) : Bool := decide (1 ≤ m ∧ m ≤ 3 ∧ 1 ≤ w ∧ w ≤ 8)
def Co.at (c : Co) (i : Nat) : Sn := c.cx.getD i Sn.z
def Co.oks (c : Co) (n : Nat) : Bool := (List.range n).all fun i => (c.at i).ok c.m c.w && (List.range i).all fun k => !zF (c.at i) (c.at k)
def Co.ok (c : Co) : Bool := jP c.m c.w && (decide (c.cx.length = 16) && c.oks 16)
def cnewR (m w : Int) : Co × Int := if jP m w = true then (⟨m, w, List.replicate 16 Sn.z⟩, 0) else (Co.z, 3)
def vo (a b : Hd) : Int := (if a.tos = b.tos then 0 else 1) + (if a.ttl = b.ttl then 0 else 2) + (if a.fx = b.fx then 0 else 4) + (if a.ty = b.ty then 0 else 8) + (if decide (a.ck = 0) = decide (b.ck = 0) then 0 else 16)
def zR (a b : Hd) : Dy :=
 if a.ok = true ∧ b.ok = true ∧ a.k = 2 ∧ qA a b = true then
   ⟨if sg 16 a.num b.num ≠ 0 ∧ (sg 32 a.tm b.tm).tmod (sg 16 a.num b.num) = 0 ∧ 0 ≤ (sg 32 a.tm b.tm).tdiv (sg 16 a.num b.num) ∧ (sg 32 a.tm b.tm).tdiv (sg 16 a.num b.num) ≤ 65535 then (sg 32 a.tm b.tm).tdiv (sg 16 a.num b.num) else 0,
     if b.id = lw 16 (a.id + sg 16 a.num b.num) then 1 else 0⟩
 else Dy.z
def kQ (width : Int) (l : List Int) (k v : Int) : Bool := xZ width && (decide (3 ≤ k ∧ k ≤ width) && (zQ width v && l.all fun r => zQ width r && decide (lsbV width r k (lw k v) = v)))
def pckR (s : Sn) (h r : Hd) : Hd := { xg s.dy r h.num with ck := h.ck }
def kC (s : Sn) (h : Hd) (f : Int) (r : Hd) : Bool := decide (vo r h = 0) && (decide (f = 1 → pckR s h r = h) && decide (f = 2 ∧ h.k = 2 → (pckR s h r).id = h.id))
def zT (s : Sn) (h : Hd) (f : Int) : Bool :=
 s.rf.all (kC s h f) && (decide (f = 3 ∧ h.k ≠ 2) || (kQ 16 (s.rf.map Hd.num) (wid f h.k 0) h.num && (decide (¬ (f = 2 ∧ h.k = 2)) || kQ 32 (s.rf.map (·.tm)) 16 h.tm)))
def begR (s : Sn) (last : Hd) (had : Bool) (h : Hd) : Sn := { s with ser := s.rf.length, dy := if had = true then zR last h else Dy.z }
def csA (w : Int) (s : Sn) (h : Hd) : Sn × Bool :=
 if s.act = false then ({ s with act := true, full := w }, true)
 else if vo s.lst h ≠ 0 ∨ s.lng = 3 ∧ zR s.lst h ≠ s.dy then (if 0 < s.full then { s with lng := 0, full := w } else { s with lng := 0, refr := w }, true)
 else (s, false)
def csB (m w : Int) (x : Sn × Bool) : Sn × Bool := if m = 1 ∧ x.1.sin = 32 ∧ x.1.full = 0 then ({ x.1 with full := w, refr := 0 }, true) else x
def csC (m w : Int) (n : Nat) (x : Sn × Bool) : Sn × Bool := if m = 3 ∧ n = 32 then ({ x.1 with full := w, refr := 0, rf := [] }, true) else x
def csD (last : Hd) (had : Bool) (h : Hd) (x : Sn × Bool) : Sn := if x.2 = true ∨ x.1.ser = (x.1.rf.length : Int) ∧ (0 < x.1.full ∨ 0 < x.1.refr) then begR x.1 last had h else x.1
def csE (w : Int) (last : Hd) (had : Bool) (h : Hd) (s : Sn) : Sn × Int :=
 if 0 < s.full then (s, 5) else if 0 < s.refr then (s, 4) else if zT s h 1 = true then (s, 1) else if zT s h 2 = true then (s, 2) else if zT s h 3 = true then (s, 3)
 else (begR { s with refr := w, lng := 0 } last had h, 4)
def csF (m w : Int) (h : Hd) (s : Sn) (f : Int) : Sn :=
 { act := s.act
   full := if m ≠ 3 ∧ f = 5 then s.full - 1 else s.full
   refr := if m ≠ 3 ∧ f = 4 then s.refr - 1 else s.refr
   ser := if m ≠ 3 ∧ w < (s.rf.length : Int) + 1 then max 0 (s.ser - ((s.rf.length : Int) + 1 - w)) else s.ser
   sin := if f = 5 then 0 else min (s.sin + 1) 32
   lng := if (f = 2 ∨ f = 3) ∧ h.k = 2 then min (s.lng + 1) 3 else 0
   dy := s.dy
   rf := if m ≠ 3 ∧ w < (s.rf.length : Int) + 1 then (s.rf ++ [h]).drop ((s.rf.length : Int) + 1 - w).toNat else s.rf ++ [h] }
def k8 (m w : Int) (s : Sn) (h : Hd) : Sn × Int := csE w s.lst s.act h (csD s.lst s.act h (csC m w s.rf.length (csB m w (csA w s h))))
def xo (dy : Dy) (c f : Int) (h : Hd) (pl : List UInt8) : Sm :=
 if f = 5 then ⟨c, 5, 0, 0, 0, 0, 0, h, dy, zK 5 h, pl⟩
 else if f = 4 then ⟨c, 4, 0, 0, 0, 0, 0, { h with fr := 0, to := 0, fp := 0, tp := 0, sr := 0 }, dy, zK 4 h, pl⟩
 else if f = 1 then ⟨c, 1, lw 4 h.num, 0, 0, 0, h.ck, { Hd.z with k := h.k }, Dy.z, zK 1 h, pl⟩
 else if f = 2 then (if h.k = 2 then ⟨c, 2, lw 5 h.num, lw 16 h.tm, h.mr, 0, h.ck, { Hd.z with k := h.k }, Dy.z, zK 2 h, pl⟩ else ⟨c, 2, lw 5 h.num, 0, 0, 0, h.ck, { Hd.z with k := h.k }, Dy.z, zK 2 h, pl⟩)
 else (if h.k = 2 then ⟨c, 3, lw 8 h.num, h.tm, h.mr, h.id, h.ck, { Hd.z with k := h.k }, Dy.z, zK 3 h, pl⟩ else ⟨c, 3, h.num, 0, 0, 0, h.ck, { Hd.z with k := h.k }, Dy.z, zK 3 h, pl⟩)
def ownI (l : List Sn) (h : Hd) : Option Nat := l.findIdx? fun s => s.act && qA s.fst h
def freeI (l : List Sn) : Option Nat := l.findIdx? fun s => !s.act
def zD (l : List Sn) (h : Hd) : Option Nat := match ownI l h with | some i => some i | none => freeI l
def yU (b : List UInt8) : Sm := ⟨0, 6, 0, 0, 0, 0, 0, Hd.z, Dy.z, 0, b⟩
def Co.set (c : Co) (i : Nat) (s : Sn) : Co := ⟨c.m, c.w, c.cx.set i s⟩
def z8 (c : Co) (i : Nat) (h : Hd) (pl : List UInt8) : Co × List UInt8 :=
 (c.set i (csF c.m c.w h (k8 c.m c.w (c.at i) h).1 (k8 c.m c.w (c.at i) h).2), (zu (xo (k8 c.m c.w (c.at i) h).1.dy i (k8 c.m c.w (c.at i) h).2 h pl)).1)
def qe (c : Co) (b : List UInt8) : (Co × List UInt8) × Int :=
 if c.ok = true then
   (if b = [] ∨ 1500 < b.length then ((Co.z, []), 2)
    else if (qv b).2 = 0 then
     (match zD c.cx (qv b).1.1 with
      | some i => if (c.at i).act = true ∧ c.m = 3 ∧ (sg 16 (c.at i).lst.num (qv b).1.1.num < 1 ∨ 255 < sg 16 (c.at i).lst.num (qv b).1.1.num) then ((c, (zu (yU b)).1), 0) else (z8 c i (qv b).1.1 (qv b).1.2, 0)
      | none => ((c, (zu (yU b)).1), 0))
    else ((c, (zu (yU b)).1), 0))
 else ((Co.z, []), 1)
open Go.RowKit
variable {G : Nat → AV}
theorem kG (a b : Hd) : LP Tryz.prog G 31 [a.av, b.av] [] (fun _ => (.bool (qA a b), [])) := by
 refine goW [] Tryz.func31 rfl ?_
 conv => whnf
 repeat' ((first | exact Nm.b 0 | (show LC _ _ _ _ _ _; first | refine LC.pure (r6static_c _) ?_ | refine goE ?_) | refine T.s ?_ | ((first | apply goB | apply AB.dec | apply AB.gen) <;> intro h <;> try (exfalso; omega)) | refine LQ.mk fun r => ?_ | (show SQ _ _ _ _ _ _ _; first | refine gX 1 [2, 1] [0, 2, 1, 3, 4, 5] [] ?_) | exact T.z | fail) <;> conv => whnf)
 all_goals (try dsimp only)
 all_goals
   (show RL _ _ _; refine goR ?_)
   refine congrArg AV.bool ?_
   rw [Bool.eq_iff_iff]
   simp [qA, qU, Hd.static]
theorem jC (a b : Hd) : LP Tryz.prog G 50 [a.av, b.av] [] (fun _ => (iAV (vo a b), [])) := by
 refine goW [] Tryz.func50 rfl ?_
 conv => whnf
 repeat' ((first | refine T.s ?_ | ((first | apply goB | apply AB.dec | apply AB.gen) <;> intro h <;> try (exfalso; omega)) | refine LQ.mk fun r => ?_ | exact T.z | fail) <;> conv => whnf)
 all_goals (try dsimp only)
 all_goals
   (show RL _ _ _; refine goR ?_)
   unfold vo
   (repeat first | rw [if_pos (by first | assumption | omega)] | rw [if_neg (by first | assumption | omega)])
   rfl
theorem sg_rng (n a b : Int) (h1 : 1 ≤ n) (h2 : n ≤ 32) : -2147483648 ≤ sg n a b ∧ sg n a b < 2147483648 := by
 have h3 := wF n (b - a)
 have h4 := pw_le (n := n - 1) (m := 31) (by omega)
 have h5 : (2 : Int) ^ n.toNat = 2 * 2 ^ (n - 1).toNat := by
   rw [show n.toNat = (n - 1).toNat + 1 by omega, Int.pow_succ]; omega
 unfold sg
 split <;> omega
theorem learnR_n {a b : Hd} (h : ¬ (a.ok = true ∧ b.ok = true ∧ a.k = 2 ∧ qA a b = true)) : zR a b = Dy.z := if_neg h
theorem tdiv_rng {t s : Int} (h : -2147483648 ≤ t ∧ t < 2147483648) : -2147483648 ≤ t.tdiv s ∧ t.tdiv s ≤ 2147483648 := by
 have h1 : (t.tdiv s).natAbs ≤ t.natAbs := by rw [Int.natAbs_tdiv]; exact Nat.div_le_self ..
 omega
theorem jS (a b : Hd) : LP Tryz.prog G 51 [a.av, b.av] [] (fun _ => ((zR a b).av, [])) := by
 have va := zn (G := G) a
 have vb := zn (G := G) b
 have hsm := kG (G := G) a b
 by_cases hg : a.ok = true ∧ b.ok = true ∧ a.k = 2 ∧ qA a b = true
 · obtain ⟨h1, h2, h3, h4⟩ := hg
   have hid := ok_id h1
   rw [h1] at va; rw [h2] at vb; rw [h4] at hsm
   rw [show zR a b = _ from if_pos ⟨h1, h2, h3, h4⟩]
   have hS := sg_rng 16 a.num b.num (by decide) (by decide)
   have hT := sg_rng 32 a.tm b.tm (by decide) (by decide)
   have e1 : q7 .add .i64 a.id (sg 16 a.num b.num) = a.id + sg 16 a.num b.num := by (exact T.num)
   have hD := tdiv_rng (s := sg 16 a.num b.num) hT
   have e2 : IntKind.i64.wrap ((sg 32 a.tm b.tm).tdiv (sg 16 a.num b.num)) = (sg 32 a.tm b.tm).tdiv (sg 16 a.num b.num) := by rw [IntKind.wrap_i64]; omega
   refine goW [] Tryz.func51 rfl ?_
   conv => whnf
   repeat' ((first | exact Nm.b 0 | (show LC _ _ _ _ _ _; first | refine LC.pure (va) ?_ | refine LC.pure (vb) ?_ | refine LC.pure (hsm) ?_ | refine LC.pure (qI _) ?_ | refine LC.pure (zX 16 _ _ (by decide) (by decide)) ?_ | refine LC.pure (zX 32 _ _ (by decide) (by decide)) ?_ | refine LC.pure (xb 16 _ (by decide) (by decide)) ?_ | refine goE ?_) | refine T.s ?_ | ((first | apply goB | apply AB.dec | apply AB.gen) <;> intro h <;> try (exfalso; omega)) | refine LQ.mk fun r => ?_ | (show SQ _ _ _ _ _ _ _; first | refine gX 3 [2, 1] [0, 2, 1, 3, 4, 5] [] ?_ | refine gX 8 [1, 6] [0, 1, 2, 3, 4, 5, 6, 7] [] ?_) | exact T.z | fail) <;> conv => whnf)
   all_goals (try dsimp only)
   all_goals
     (show RL _ _ _; refine goR ?_)
     clear va vb hsm
     try rw [e1] at *
     try rw [e2] at *
     generalize (sg 32 a.tm b.tm).tdiv (sg 16 a.num b.num) = V at *
     generalize (sg 32 a.tm b.tm).tmod (sg 16 a.num b.num) = W at *
     (repeat first | rw [if_pos (by first | assumption | omega)] | rw [if_neg (by first | assumption | omega)])
     rfl
 · rw [learnR_n hg]
   refine goW [] Tryz.func51 rfl ?_
   conv => whnf
   repeat' ((first | exact Nm.b 0 | (show LC _ _ _ _ _ _; first | refine LC.pure (va) ?_ | refine LC.pure (vb) ?_ | refine LC.pure (hsm) ?_ | refine goE ?_) | refine T.s ?_ | ((first | apply goB | apply AB.dec | apply AB.gen) <;> intro h <;> try (exfalso; omega)) | refine LQ.mk fun r => ?_ | (show SQ _ _ _ _ _ _ _; first | refine gX 3 [2, 1] [0, 2, 1, 3, 4, 5] [] ?_ | refine gX 8 [1, 6] [0, 1, 2, 3, 4, 5, 6, 7] [] ?_) | exact T.z | fail) <;> conv => whnf)
   all_goals (try dsimp only)
   all_goals first
     | ((show RL _ _ _; refine goR ?_); rfl)
     | (exfalso; simp_all [qA]; done)
open Go.RowKit
variable {G : Nat → AV}
def kL (n : Int) : Option Int := if n = 3 then some 3 else if n = 7 then some 9 else if n = 8 then some 7 else if n = 16 then some 4129 else if n = 24 then some 8801531 else none
def gm : Nat → AV := fun g => match Nat.beq g 0 with | true => .ip [.mp kL] | false => .any
def zU (n : Int) : Bool := decide (n = 3 ∨ n = 7 ∨ n = 8 ∨ n = 16 ∨ n = 24)
theorem r3poly_c (n : Int) : LP Tryz.prog G 113 [iAV n] [] (fun _ => (iAV (xO n), [])) := by
 refine goW [] Tryz.func113 rfl ?_
 conv => whnf
 repeat' ((first | refine T.s ?_ | ((first | apply goB | apply AB.dec | apply AB.gen) <;> intro h <;> try (exfalso; omega)) | refine LQ.mk fun r => ?_ | exact T.z | fail) <;> conv => whnf)
 all_goals (try dsimp only)
 all_goals
   (show RL _ _ _; refine goR ?_)
   simp [xO, iAV, *]
theorem cpoly_y (n : Int) (h : zU n = true) : LP Tryz.prog gm 144 [iAV n] [] (fun _ => (.tup [iAV (xO n), .bool true], [])) := by
 have e : kL n = some (xO n) := by
   simp only [zU, decide_eq_true_eq] at h
   rcases h with rfl | rfl | rfl | rfl | rfl <;> rfl
 refine goW [] Tryz.func144 rfl ?_
 conv => whnf
 repeat' ((first | (show AFind _ _; refine AFind.is _ (e) ?_) | refine T.s ?_ | ((first | apply goB | apply AB.dec | apply AB.gen) <;> intro h <;> try (exfalso; omega)) | refine LQ.mk fun r => ?_ | exact T.z | fail) <;> conv => whnf)
 all_goals (try dsimp only)
 all_goals
   (show RL _ _ _; refine goR ?_)
   rfl
theorem cpoly_y' (n : Int) (h : zU n = true) (p : Nat) (hp : xO n = p) : LP Tryz.prog gm 144 [iAV n] [] (fun _ => (.tup [iAV p, .bool true], [])) := hp ▸ cpoly_y n h
theorem cpoly_n (n : Int) (h : zU n = false) : LP Tryz.prog gm 144 [iAV n] [] (fun _ => (.tup [iAV 0, .bool false], [])) := by
 have e : kL n = none := by
   simp only [zU, decide_eq_false_iff_not] at h
   unfold kL
   repeat rw [if_neg (by omega)]
 refine goW [] Tryz.func144 rfl ?_
 conv => whnf
 repeat' ((first | (show AFind _ _; refine AFind.is _ (e) ?_) | refine T.s ?_ | ((first | apply goB | apply AB.dec | apply AB.gen) <;> intro h <;> try (exfalso; omega)) | refine LQ.mk fun r => ?_ | exact T.z | fail) <;> conv => whnf)
 all_goals (try dsimp only)
 all_goals
   (show RL _ _ _; refine goR ?_)
   rfl
theorem poly_lt {n : Int} (h : zU n = true) : (xO n).toNat < 2 ^ n.toNat ∧ (((xO n).toNat : Nat) : Int) = xO n := by
 simp only [zU, decide_eq_true_eq] at h
 rcases h with rfl | rfl | rfl | rfl | rfl
 · exact ⟨by show 3 < 8; omega, rfl⟩
 · exact ⟨by show 9 < 128; omega, rfl⟩
 · exact ⟨by show 7 < 256; omega, rfl⟩
 · exact ⟨by show 4129 < 65536; omega, rfl⟩
 · exact ⟨by show 8801531 < 16777216; omega, rfl⟩
theorem dec7 {j : Nat} (h : j ≤ 8) : q7 .sub .i64 (7 - (j : Int)) 1 = 7 - ((j + 1 : Nat) : Int) := by (exact T.num)
theorem inc1 {i : Nat} (h : i < 1000000) : q7 .add .i64 (i : Int) 1 = ((i + 1 : Nat) : Int) := by (exact T.num)
theorem crc8 {k p r i j : Nat} {l : List UInt8} (h1 : (i : Int) < (l.length : Int)) (h2 : ¬ (0 : Int) ≤ 7 - (j : Int)) (h3 : j ≤ 8) : ((jh k p (jy k p r (l.take i)) (l.getD i 0).toNat j : Nat) : Int) = ((jy k p r (l.take (i + 1)) : Nat) : Int) := by
 rw [crcL_take _ _ _ _ _ (by omega), show j = 8 by omega]
theorem cnext_c (n : Int) (h : zU n = true) (r0 : Nat) (hr : r0 < 2 ^ n.toNat) (l : List UInt8) (hl : l.length ≤ 1000000) : LP Tryz.prog gm 145 [iAV n, iAV r0, bv l] [] (fun _ => (.tup [iAV (jy n.toNat (xO n).toNat r0 l : Nat), iAV 0], [])) := by
 have hn : 3 ≤ n ∧ n ≤ 24 := by simp only [zU, decide_eq_true_eq] at h; omega
 have hs := vF (n := n) (by omega)
 have hr1 : (r0 : Int) < 2 ^ n.toNat := by exact_mod_cast hr
 have hs' : IntKind.i64.wrap (1 * 2 ^ min n.toNat IntKind.i64.bits) = 2 ^ n.toNat := hs
 have hp := poly_lt h
 have hn : 1 ≤ n ∧ n ≤ 24 := by omega
 have hb : ∀ i, (l.getD i 0).toNat < 256 := fun i => (l.getD i 0).toNat_lt
 obtain ⟨p, hpe⟩ : ∃ p : Nat, (xO n).toNat = p := ⟨_, rfl⟩
 rw [hpe] at hp ⊢
 refine goW [] Tryz.func145 rfl ?_
 conv => whnf
 repeat' ((first | exact Nm.b 0 | (show LC _ _ _ _ _ _; first | refine LC.pure (cpoly_y' _ h p hp.2.symm) ?_ | refine goE ?_) | (show AC _ _ _; first | (refine AC.idx (i) (0) ?_ ?_ ?_; (focus (first | exact rfl | (simp; done) | (simp; omega))); (focus (first | omega | exact T.side)))) | refine T.s ?_ | ((first | apply goB | apply AB.dec | apply AB.gen) <;> intro h <;> try (exfalso; omega)) | refine LQ.mk fun r => ?_ | (show SQ _ _ _ (.loop _) _ _ _; first | (apply goO tQ [] 7 (S := Nat) [0, 8, 31, 32] (fun i => ⟨[(33, .int .i64 i), (1, .int .i64 (jy n.toNat p r0 (l.take i) : Nat))], [], i ≤ l.length, l.length - i⟩) (0) (by rfl); (focus (all_goals (try exact KE71); done)); rintro i hok; (try dsimp only at hok)) | (apply goO tQ [] 10 (S := Nat) [0, 8, 11, 31, 32, 33] (fun j => ⟨[(12, .int .i64 (7 - (j : Int))), (1, .int .i64 (jh n.toNat p (jy n.toNat p r0 (l.take i)) (l.getD i 0).toNat j : Nat))], [], j ≤ 8, 8 - j⟩) (0) (by rfl); (focus (all_goals (try exact KE71); done)); rintro j hok; (try dsimp only at hok))) | (show SQ _ _ _ _ _ _ _; first | (refine goD tQ qb 12 [] [0, 1, 2, 3, 4, 5, 6, 7, 8, 9, 10] [] (by kernel_rfl) ?_)) | (show AtL _ _ _ _ _ _ _ _ _ _; first | (apply AtL.mk' (id := 7) (S := Nat) (i + 1); all_goals (try exact KE71); done) | (apply AtL.mk' (id := 10) (S := Nat) (j + 1); all_goals (try exact KE71); done) | (apply AtL.mk' (id := 7) (S := Nat) (i + 1); all_goals (try exact KE71)) | (apply AtL.mk' (id := 10) (S := Nat) (j + 1); all_goals (try exact KE71))) | exact T.z | refine ⟨_, rfl, rfl, ?_⟩ | fail) <;> conv => whnf)
 all_goals (try dsimp only)
 all_goals
   (show RL _ _ _; refine goR ?_)
   rw [List.take_of_length_le (by omega)]
   rfl
def crcO (n : Int) (l : List UInt8) : Int × Int := if zU n = true then (vk n l, 0) else (0, 7)
theorem crcO_y {n : Int} (h : zU n = true) (l : List UInt8) : crcO n l = (vk n l, 0) := if_pos h
theorem crcO_n {n : Int} (h : zU n = false) (l : List UInt8) : crcO n l = (0, 7) := if_neg (by rw [h]; decide)
attribute [irreducible] crcO
theorem mask_n {n : Int} (h1 : n ≤ 24) : q7 .sub .i64 (IntKind.i64.wrap (1 * 2 ^ min n.toNat IntKind.i64.bits)) 1 = ((2 ^ n.toNat - 1 : Nat) : Int) := by
 refine (mask_e (by omega)).trans ?_
 have : 0 < 2 ^ n.toNat := Nat.pow_pos (by decide)
 rw [Int.ofNat_sub this]
 simp
theorem csum_c (n : Int) (l : List UInt8) (hl : l.length ≤ 1000000) : LP Tryz.prog gm 129 [iAV n, bv l] [] (fun _ => (.tup [iAV (crcO n l).1, iAV (crcO n l).2], [])) := by
 cases h : zU n with
 | true =>
   have hn0 : 0 ≤ n ∧ n ≤ 24 := by simp only [zU, decide_eq_true_eq] at h; omega
   have e := mask_n hn0.2
   rw [crcO_y h, ← crcS_eq]
   refine goW [] Tryz.func129 rfl ?_
   conv => whnf
   repeat' ((first | (show LC _ _ _ _ _ _; (refine LC.eq (args' := [iAV n, iAV ((2 ^ n.toNat - 1 : Nat) : Int), bv l]) (congrArg (fun z => [iAV n, AV.int .i64 z, bv l]) e) ?_); refine LC.pure (cnext_c n h _ (Nat.sub_lt (Nat.pow_pos (by decide)) (by decide)) l hl) ?_; conv => whnf) | (show LC _ _ _ _ _ _; first | refine LC.pure (cpoly_y _ h) ?_ | refine goE ?_) | refine T.s ?_ | ((first | apply goB | apply AB.dec | apply AB.gen) <;> intro h <;> try (exfalso; omega)) | refine LQ.mk fun r => ?_ | exact T.z | fail) <;> conv => whnf)
   all_goals (try dsimp only)
   (show RL _ _ _; refine goR ?_)
   rfl
 | false =>
   rw [crcO_n h]
   refine goW [] Tryz.func129 rfl ?_
   conv => whnf
   repeat' ((first | (show LC _ _ _ _ _ _; first | refine LC.pure (cpoly_n _ h) ?_ | refine goE ?_) | refine T.s ?_ | ((first | apply goB | apply AB.dec | apply AB.gen) <;> intro h <;> try (exfalso; omega)) | refine LQ.mk fun r => ?_ | exact T.z | fail) <;> conv => whnf)
   all_goals (try dsimp only)
   (show RL _ _ _; refine goR ?_)
   rfl
end Go.Proofs.YtkfpgdckdmlhkaaGreatDoor
