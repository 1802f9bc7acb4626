import Derived.Test.YtkfpgdckdmlhkaaGreatDoorDp18
import Derived.Test.YtkfpgdckdmlhkaaGreatDoorDp06
import Derived.Test.YtkfpgdckdmlhkaaGreatDoorDp17
set_option maxHeartbeats 4000000
namespace Go.Proofs.YtkfpgdckdmlhkaaGreatDoor
open Go.RowKit
set_option linter.all false
variable {G : Nat → AV}
def gB (b : List UInt8) (a n : Nat) : Int := beN ((b.drop a).take n)
def isRtp (b : List UInt8) : Bool := decide (40 ≤ b.length) && decide (b.getD 28 0 = 128)
def prsH (b : List UInt8) : Hd :=
 if isRtp b = true then ⟨2, ((b.getD 1 0).toNat : Nat), gB b 4 2, ((b.getD 6 0).toNat / 64 % 2 : Nat), ((b.getD 8 0).toNat : Nat), gB b 12 4, gB b 16 4, gB b 20 2, gB b 22 2, gB b 26 2, ((b.getD 29 0).toNat / 128 : Nat), ((b.getD 29 0).toNat % 128 : Nat), gB b 30 2, gB b 32 4, gB b 36 4⟩
 else ⟨1, ((b.getD 1 0).toNat : Nat), gB b 4 2, ((b.getD 6 0).toNat / 64 % 2 : Nat), ((b.getD 8 0).toNat : Nat), gB b 12 4, gB b 16 4, gB b 20 2, gB b 22 2, gB b 26 2, 0, 0, 0, 0, 0⟩
def prsN (b : List UInt8) : Nat := if isRtp b = true then 40 else 28
def parsR (b : List UInt8) : (Hd × List UInt8) × Int :=
 if b.length < 28 ∨ 1500 < b.length then ((Hd.z, []), 2)
 else if bldR (prsH b) (b.drop (prsN b)) = (b, 0) then ((prsH b, b.drop (prsN b)), 0) else ((Hd.z, []), 4)
theorem rget_c (b : List UInt8) (a n : Nat) (h4 : n ≤ 4) (ha : a + n ≤ b.length) (hl : b.length ≤ 100000) : LP Tryz.prog G 84 [bv b, iAV a, iAV n] [] (fun _ => (iAV (gB b a n), [])) := by
 have hr : ∀ i, i < n → 0 ≤ gB b a i ∧ gB b a i < 16777216 := fun i hi => by
   have h := beN_rng ((b.drop a).take i)
   have hk : ((b.drop a).take i).length = i := by simp; omega
   rw [hk] at h
   unfold gB
   have : i = 0 ∨ i = 1 ∨ i = 2 ∨ i = 3 := by omega
   rcases this with rfl | rfl | rfl | rfl <;> omega
 have hz : gB b a 0 = 0 := by unfold gB; simp [beN]
 have hor : ∀ i, i < n → iarith .add .i64 (iarith .mul .i64 256 (gB b a i)) (IntKind.i64.wrap ((b.getD ((iarith .add .i64 (a : Int) (i : Int)).toNat * 1) 0).toNat : Int)) = gB b a (i + 1) := fun i hi => by
   have e0 : (iarith .add .i64 (a : Int) (i : Int)).toNat * 1 = a + i := by simp only [iarith, IntKind.wrap_i64]; omega
   rw [e0]
   have := (b.getD (a + i) 0).toNat_lt
   have h3 := hr i hi
   have e1 : gB b a (i + 1) = 256 * gB b a i + ((b.getD (a + i) 0).toNat : Int) := by
     unfold gB
     rw [List.take_succ_eq_append_getElem (by simp; omega), beN_app]
     simp [List.getD_eq_getElem?_getD, show a + i < b.length by omega]
   rw [e1]
   simp only [iarith, IntKind.wrap_i64]
   omega
 have hix : ∀ i : Nat, i < n → (iarith .add .i64 (a : Int) (i : Int)).toNat * 1 < b.length := fun i hi => by simp only [iarith, IntKind.wrap_i64]; omega
 refine goW [] Tryz.func84 rfl ?_
 conv => whnf
 repeat' ((first
   | refine T.s ?_
   | ((first | refine goB (fun h => ?_) (fun h => ?_) | refine AB.dec (fun h => ?_) (fun h => ?_) | refine AB.gen (fun h => ?_) (fun h => ?_)) <;> try (exfalso; omega))
   | refine LFresh.mk fun r => ?_
   | (show SQ _ _ _ (.loop _) _ _ _; first | (apply goO tQ [] 3 (S := Nat) [0, 1, 2] (fun i => ⟨[(8, .int .i64 i), (7, .int .i64 (gB b a i))], [], i ≤ n, n - i⟩) (0) (by rfl); (focus (all_goals (try exact K6E1); done)); rintro i hok; (try dsimp only at hok); (repeat (have hk := And.left hok; replace hok := And.right hok))))
   | (show AtL _ _ _ _ _ _ _ _ _ _; first | (apply AtL.mk' (id := 3) (S := Nat) (i + 1); all_goals (try exact K6E1); done) | (apply AtL.mk' (id := 3) (S := Nat) (i + 1); all_goals (try exact K6E1)))
   | exact T.z
   | refine ⟨_, rfl, rfl, ?_⟩
   | fail) <;> conv => whnf)
 all_goals (try dsimp only)
 all_goals (obtain rfl : i = n := (by omega))
 all_goals (show RL _ _ _; refine goR ?_)
 all_goals rfl
theorem sh6 : ∀ x : Nat, x < 256 → IntKind.i64.wrap (ibits .and .u8 ((x : Int).fdiv (2 ^ min (6 : Int).toNat IntKind.u8.bits)) 1) = ((x / 64 % 2 : Nat) : Int) := by decide +kernel
theorem sh7 : ∀ x : Nat, x < 256 → IntKind.i64.wrap ((x : Int).fdiv (2 ^ min (7 : Int).toNat IntKind.u8.bits)) = ((x / 128 : Nat) : Int) := by decide +kernel
theorem an7q : ∀ x : Nat, x < 256 → IntKind.i64.wrap (ibits .and .u8 (x : Int) 127) = ((x % 128 : Nat) : Int) := by decide +kernel
theorem wr8 : ∀ x : Nat, x < 256 → IntKind.i64.wrap (x : Int) = (x : Int) := by decide +kernel
theorem parsR_u (b : List UInt8) (h1 : 28 ≤ b.length) (h2 : b.length ≤ 1500) : parsR b = if bldR (prsH b) (b.drop (prsN b)) = (b, 0) then ((prsH b, b.drop (prsN b)), 0) else ((Hd.z, []), 4) := by unfold parsR; rw [if_neg (by omega)]
theorem RL.hdb {v : AV} {p : List UInt8} {q : Nm} {n : Nat} {e : Int} {l : LS} (h : LH l q fun c _ _ => c.cs = p.map bAV ∧ n = p.length) : RL (fun _ => (.tup [v, bv p, iAV e], [])) (.tup [v, .vw q 0 n 1, .int .i64 e]) l := by
 obtain ⟨l1, c, l2, rfl, h1, rfl⟩ := h.ex
 exact RL.frz [q] (LF.tup (xs := [v, .vw q 0 p.length 1, .int .i64 e]) (ys := [v, bv p, iAV e]) ⟨LF.eq rfl, LF.rowF InL.here ⟨l1, c, l2, rfl, h1, rfl⟩, LF.eq rfl, trivial⟩) ⟨l1, c, l2, rfl, LB.nil⟩
theorem RL.hdn {v : AV} {e : Int} {l : LS} : RL (fun _ => (.tup [v, bv [], iAV e], [])) (.tup [v, .nils, .int .i64 e]) l :=
 RL.frz [] (LF.tup (xs := [v, .nils, .int .i64 e]) (ys := [v, bv [], iAV e]) ⟨LF.eq rfl, LF.nils rfl rfl, LF.eq rfl, trivial⟩) LB.nil
theorem n128 (x : UInt8) : (x = 128) = (x.toNat = 128) := propext ⟨fun h => by rw [h]; rfl, fun h => UInt8.toNat_inj.1 h⟩
theorem rparse_u (b : List UInt8) (h28 : 28 ≤ b.length) (hl : b.length ≤ 1500) (hr : isRtp b = false) : LP Tryz.prog G 45 [bv b] [] (fun _ => (.tup [(parsR b).1.1.av, bv (parsR b).1.2, iAV (parsR b).2], [])) := by
 have hX : (⟨1, IntKind.i64.wrap ((b.getD 1 0).toNat : Int), gB b 4 2, IntKind.i64.wrap (ibits .and .u8 (((b.getD 6 0).toNat : Int).fdiv (2 ^ min (6 : Int).toNat IntKind.u8.bits)) 1), IntKind.i64.wrap ((b.getD 8 0).toNat : Int), gB b 12 4, gB b 16 4, gB b 20 2, gB b 22 2, gB b 26 2, 0, 0, 0, 0, 0⟩ : Hd) = prsH b := by
   unfold prsH
   rw [hr, sh6 _ (b.getD 6 0).toNat_lt, wr8 _ (b.getD 1 0).toNat_lt, wr8 _ (b.getD 8 0).toNat_lt]
   rfl
 have hN : prsN b = 28 := by unfold prsN; rw [hr]; rfl
 have hl : b.length ≤ 100000 := by omega
 have hB := rbuild_c (G := G) (prsH b) (b.drop 28) (by simp; omega)
 have hS := same_c (G := G) b (bldR (prsH b) (b.drop 28)).1
 rw [parsR_u b (by omega) (by omega), hN]
 simp only [isRtp, Bool.and_eq_true, Bool.and_eq_false_iff, decide_eq_true_eq, decide_eq_false_iff_not, n128] at hr
 by_cases hc : bldR (prsH b) (b.drop 28) = (b, 0)
 · rw [if_pos hc]
   rw [hc] at hB hS
   rw [decide_eq_true rfl] at hS
   rw [← hX] at hB ⊢
   refine goW [] Tryz.func45 rfl ?_
   conv => whnf
   repeat' ((first
     | exact Nm.b 0
     | (show LC _ _ _ _ _ _; first | refine LC.pure (rget_c b 4 2 (by decide) (by omega) hl) ?_ | refine LC.pure (rget_c b 12 4 (by decide) (by omega) hl) ?_ | refine LC.pure (rget_c b 16 4 (by decide) (by omega) hl) ?_ | refine LC.pure (rget_c b 20 2 (by decide) (by omega) hl) ?_ | refine LC.pure (rget_c b 22 2 (by decide) (by omega) hl) ?_ | refine LC.pure (rget_c b 26 2 (by decide) (by omega) hl) ?_ | refine LC.pure (rget_c b 30 2 (by decide) (by omega) hl) ?_ | refine LC.pure (rget_c b 32 4 (by decide) (by omega) hl) ?_ | refine LC.pure (rget_c b 36 4 (by decide) (by omega) hl) ?_ | refine LC.pure (hB) ?_ | refine LC.pure (hS) ?_ | refine goE ?_)
     | (show AC _ _ _; first | (refine AC.idx 1 0 rfl ?_ ?_; (focus omega)) | (refine AC.idx 6 0 rfl ?_ ?_; (focus omega)) | (refine AC.idx 8 0 rfl ?_ ?_; (focus omega)) | (refine AC.idx 28 0 rfl ?_ ?_; (focus omega)) | (refine AC.idx 29 0 rfl ?_ ?_; (focus omega)))
     | (show AQ _ _; first | (refine AQ.tailE 28 rfl ?_ ?_; (focus (simp; omega))))
     | refine T.s ?_
     | ((first | refine goB (fun h => ?_) (fun h => ?_) | refine AB.dec (fun h => ?_) (fun h => ?_) | refine AB.gen (fun h => ?_) (fun h => ?_)) <;> try (exfalso; omega))
     | refine LFresh.mk fun r => ?_
     | (show SQ _ _ _ _ _ _ _; first | (refine goD tQ mixed 3 [2, 8, 14, 5, 17, 19, 21, 23, 25] [0, 1, 2, 3, 4, 6, 7, 8, 9, 10, 11, 12, 13, 14, 15, 16, 18, 20, 22, 24, 5, 17, 19, 21, 23, 25, 26, 27, 28] [r] (by kernel_rfl) ?_) | (refine goD tQ mixed 3 [2, 8, 14, 5, 17, 19, 21, 23, 25] [0, 1, 2, 3, 4, 6, 7, 8, 9, 10, 11, 12, 13, 14, 15, 16, 18, 20, 22, 24, 5, 17, 19, 21, 23, 25, 26, 27, 28] [] (by kernel_rfl) ?_) | (refine goD tQ mixed 7 [7, 11] [0, 1, 2, 3, 4, 5, 6, 7, 8, 9, 10, 11, 12, 13] [] (by kernel_rfl) ?_) | (refine goD tQ mixed 9 [] [0, 1, 2, 3, 4, 5, 6, 7, 8, 9] [r] (by kernel_rfl) ?_) | (refine goD tQ mixed 9 [] [0, 1, 2, 3, 4, 5, 6, 7, 8, 9] [] (by kernel_rfl) ?_) | (refine goD tQ mixed 12 [0, 4] [0, 1, 2, 3, 4, 5, 6, 7] [r] (by kernel_rfl) ?_) | (refine goD tQ mixed 12 [0, 4] [0, 1, 2, 3, 4, 5, 6, 7] [] (by kernel_rfl) ?_))
     | (refine dec_yes ?_ ?_; (focus (first | exact .inl rfl | (exact T.num))))
     | (refine dec_no ?_ ?_; (focus (exact T.num)))
     | refine dec_both (fun h => ?_) (fun h => ?_)
     | exact T.z
     | refine ⟨_, rfl, rfl, ?_⟩
     | fail) <;> conv => whnf)
   all_goals (try dsimp only)
   all_goals
     refine RL.hdb ?_
     (repeat first | refine goH ?_ | apply LH.here | apply LH.next)
     exact ⟨rfl, by simp⟩
 · rw [if_neg hc]
   rw [← hX] at hB hS hc
   refine goW [] Tryz.func45 rfl ?_
   conv => whnf
   repeat' ((first
     | exact Nm.b 0
     | (show LC _ _ _ _ _ _; first | refine LC.pure (rget_c b 4 2 (by decide) (by omega) hl) ?_ | refine LC.pure (rget_c b 12 4 (by decide) (by omega) hl) ?_ | refine LC.pure (rget_c b 16 4 (by decide) (by omega) hl) ?_ | refine LC.pure (rget_c b 20 2 (by decide) (by omega) hl) ?_ | refine LC.pure (rget_c b 22 2 (by decide) (by omega) hl) ?_ | refine LC.pure (rget_c b 26 2 (by decide) (by omega) hl) ?_ | refine LC.pure (rget_c b 30 2 (by decide) (by omega) hl) ?_ | refine LC.pure (rget_c b 32 4 (by decide) (by omega) hl) ?_ | refine LC.pure (rget_c b 36 4 (by decide) (by omega) hl) ?_ | refine LC.pure (hB) ?_ | refine LC.pure (hS) ?_ | refine goE ?_)
     | (show AC _ _ _; first | (refine AC.idx 1 0 rfl ?_ ?_; (focus omega)) | (refine AC.idx 6 0 rfl ?_ ?_; (focus omega)) | (refine AC.idx 8 0 rfl ?_ ?_; (focus omega)) | (refine AC.idx 28 0 rfl ?_ ?_; (focus omega)) | (refine AC.idx 29 0 rfl ?_ ?_; (focus omega)))
     | (show AQ _ _; first | (refine AQ.tailE 28 rfl ?_ ?_; (focus (simp; omega))))
     | refine T.s ?_
     | ((first | refine goB (fun h => ?_) (fun h => ?_) | refine AB.dec (fun h => ?_) (fun h => ?_) | refine AB.gen (fun h => ?_) (fun h => ?_)) <;> try (exfalso; omega))
     | refine LFresh.mk fun r => ?_
     | (show SQ _ _ _ _ _ _ _; first | (refine goD tQ mixed 3 [2, 8, 14, 5, 17, 19, 21, 23, 25] [0, 1, 2, 3, 4, 6, 7, 8, 9, 10, 11, 12, 13, 14, 15, 16, 18, 20, 22, 24, 5, 17, 19, 21, 23, 25, 26, 27, 28] [r] (by kernel_rfl) ?_) | (refine goD tQ mixed 3 [2, 8, 14, 5, 17, 19, 21, 23, 25] [0, 1, 2, 3, 4, 6, 7, 8, 9, 10, 11, 12, 13, 14, 15, 16, 18, 20, 22, 24, 5, 17, 19, 21, 23, 25, 26, 27, 28] [] (by kernel_rfl) ?_) | (refine goD tQ mixed 7 [7, 11] [0, 1, 2, 3, 4, 5, 6, 7, 8, 9, 10, 11, 12, 13] [] (by kernel_rfl) ?_) | (refine goD tQ mixed 9 [] [0, 1, 2, 3, 4, 5, 6, 7, 8, 9] [r] (by kernel_rfl) ?_) | (refine goD tQ mixed 9 [] [0, 1, 2, 3, 4, 5, 6, 7, 8, 9] [] (by kernel_rfl) ?_) | (refine goD tQ mixed 12 [0, 4] [0, 1, 2, 3, 4, 5, 6, 7] [r] (by kernel_rfl) ?_) | (refine goD tQ mixed 12 [0, 4] [0, 1, 2, 3, 4, 5, 6, 7] [] (by kernel_rfl) ?_))
     | (refine dec_yes ?_ ?_; (focus (first | exact .inl rfl | (exact T.num))))
     | (refine dec_no ?_ ?_; (focus (exact T.num)))
     | refine dec_both (fun h => ?_) (fun h => ?_)
     | exact T.z
     | refine ⟨_, rfl, rfl, ?_⟩
     | fail) <;> conv => whnf)
   all_goals (try dsimp only)
   all_goals first
     | exact RL.hdn
     | (exfalso; clear hB hS hX; generalize bldR _ _ = B at *; obtain ⟨B1, B2⟩ := B; refine hc ?_; simp only [Prod.mk.injEq]; (try simp only [Bool.not_eq_true', decide_eq_true_eq, decide_eq_false_iff_not, Bool.not_eq_false', ne_eq, Decidable.not_not] at *); simp_all)
     | trace_state
theorem rparse_t (b : List UInt8) (h28 : 28 ≤ b.length) (hl : b.length ≤ 1500) (hr : isRtp b = true) : LP Tryz.prog G 45 [bv b] [] (fun _ => (.tup [(parsR b).1.1.av, bv (parsR b).1.2, iAV (parsR b).2], [])) := by
 have hX : (⟨2, IntKind.i64.wrap ((b.getD 1 0).toNat : Int), gB b 4 2, IntKind.i64.wrap (ibits .and .u8 (((b.getD 6 0).toNat : Int).fdiv (2 ^ min (6 : Int).toNat IntKind.u8.bits)) 1), IntKind.i64.wrap ((b.getD 8 0).toNat : Int), gB b 12 4, gB b 16 4, gB b 20 2, gB b 22 2, gB b 26 2, IntKind.i64.wrap (((b.getD 29 0).toNat : Int).fdiv (2 ^ min (7 : Int).toNat IntKind.u8.bits)), IntKind.i64.wrap (ibits .and .u8 ((b.getD 29 0).toNat : Int) 127), gB b 30 2, gB b 32 4, gB b 36 4⟩ : Hd) = prsH b := by
   unfold prsH
   rw [hr, sh6 _ (b.getD 6 0).toNat_lt, wr8 _ (b.getD 1 0).toNat_lt, wr8 _ (b.getD 8 0).toNat_lt, sh7 _ (b.getD 29 0).toNat_lt, an7q _ (b.getD 29 0).toNat_lt]
   rfl
 have hN : prsN b = 40 := by unfold prsN; rw [hr]; rfl
 have hl : b.length ≤ 100000 := by omega
 have hB := rbuild_c (G := G) (prsH b) (b.drop 40) (by simp; omega)
 have hS := same_c (G := G) b (bldR (prsH b) (b.drop 40)).1
 rw [parsR_u b (by omega) (by omega), hN]
 simp only [isRtp, Bool.and_eq_true, Bool.and_eq_false_iff, decide_eq_true_eq, decide_eq_false_iff_not, n128] at hr
 by_cases hc : bldR (prsH b) (b.drop 40) = (b, 0)
 · rw [if_pos hc]
   rw [hc] at hB hS
   rw [decide_eq_true rfl] at hS
   rw [← hX] at hB ⊢
   refine goW [] Tryz.func45 rfl ?_
   conv => whnf
   repeat' ((first
     | exact Nm.b 0
     | (show LC _ _ _ _ _ _; first | refine LC.pure (rget_c b 4 2 (by decide) (by omega) hl) ?_ | refine LC.pure (rget_c b 12 4 (by decide) (by omega) hl) ?_ | refine LC.pure (rget_c b 16 4 (by decide) (by omega) hl) ?_ | refine LC.pure (rget_c b 20 2 (by decide) (by omega) hl) ?_ | refine LC.pure (rget_c b 22 2 (by decide) (by omega) hl) ?_ | refine LC.pure (rget_c b 26 2 (by decide) (by omega) hl) ?_ | refine LC.pure (rget_c b 30 2 (by decide) (by omega) hl) ?_ | refine LC.pure (rget_c b 32 4 (by decide) (by omega) hl) ?_ | refine LC.pure (rget_c b 36 4 (by decide) (by omega) hl) ?_ | refine LC.pure (hB) ?_ | refine LC.pure (hS) ?_ | refine goE ?_)
     | (show AC _ _ _; first | (refine AC.idx 1 0 rfl ?_ ?_; (focus omega)) | (refine AC.idx 6 0 rfl ?_ ?_; (focus omega)) | (refine AC.idx 8 0 rfl ?_ ?_; (focus omega)) | (refine AC.idx 28 0 rfl ?_ ?_; (focus omega)) | (refine AC.idx 29 0 rfl ?_ ?_; (focus omega)))
     | (show AQ _ _; first | (refine AQ.tailE 40 rfl ?_ ?_; (focus (simp; omega))))
     | refine T.s ?_
     | ((first | refine goB (fun h => ?_) (fun h => ?_) | refine AB.dec (fun h => ?_) (fun h => ?_) | refine AB.gen (fun h => ?_) (fun h => ?_)) <;> try (exfalso; omega))
     | refine LFresh.mk fun r => ?_
     | (show SQ _ _ _ _ _ _ _; first | (refine goD tQ mixed 3 [2, 8, 14, 5, 17, 19, 21, 23, 25] [0, 1, 2, 3, 4, 6, 7, 8, 9, 10, 11, 12, 13, 14, 15, 16, 18, 20, 22, 24, 5, 17, 19, 21, 23, 25, 26, 27, 28] [r] (by kernel_rfl) ?_) | (refine goD tQ mixed 3 [2, 8, 14, 5, 17, 19, 21, 23, 25] [0, 1, 2, 3, 4, 6, 7, 8, 9, 10, 11, 12, 13, 14, 15, 16, 18, 20, 22, 24, 5, 17, 19, 21, 23, 25, 26, 27, 28] [] (by kernel_rfl) ?_) | (refine goD tQ mixed 7 [7, 11] [0, 1, 2, 3, 4, 5, 6, 7, 8, 9, 10, 11, 12, 13] [] (by kernel_rfl) ?_) | (refine goD tQ mixed 9 [] [0, 1, 2, 3, 4, 5, 6, 7, 8, 9] [r] (by kernel_rfl) ?_) | (refine goD tQ mixed 9 [] [0, 1, 2, 3, 4, 5, 6, 7, 8, 9] [] (by kernel_rfl) ?_) | (refine goD tQ mixed 12 [0, 4] [0, 1, 2, 3, 4, 5, 6, 7] [r] (by kernel_rfl) ?_) | (refine goD tQ mixed 12 [0, 4] [0, 1, 2, 3, 4, 5, 6, 7] [] (by kernel_rfl) ?_))
     | (refine dec_yes ?_ ?_; (focus (first | exact .inl rfl | (exact T.num))))
     | (refine dec_no ?_ ?_; (focus (exact T.num)))
     | refine dec_both (fun h => ?_) (fun h => ?_)
     | exact T.z
     | refine ⟨_, rfl, rfl, ?_⟩
     | fail) <;> conv => whnf)
   all_goals (try dsimp only)
   all_goals
     refine RL.hdb ?_
     (repeat first | refine goH ?_ | apply LH.here | apply LH.next)
     exact ⟨rfl, by simp⟩
 · rw [if_neg hc]
   rw [← hX] at hB hS hc
   refine goW [] Tryz.func45 rfl ?_
   conv => whnf
   repeat' ((first
     | exact Nm.b 0
     | (show LC _ _ _ _ _ _; first | refine LC.pure (rget_c b 4 2 (by decide) (by omega) hl) ?_ | refine LC.pure (rget_c b 12 4 (by decide) (by omega) hl) ?_ | refine LC.pure (rget_c b 16 4 (by decide) (by omega) hl) ?_ | refine LC.pure (rget_c b 20 2 (by decide) (by omega) hl) ?_ | refine LC.pure (rget_c b 22 2 (by decide) (by omega) hl) ?_ | refine LC.pure (rget_c b 26 2 (by decide) (by omega) hl) ?_ | refine LC.pure (rget_c b 30 2 (by decide) (by omega) hl) ?_ | refine LC.pure (rget_c b 32 4 (by decide) (by omega) hl) ?_ | refine LC.pure (rget_c b 36 4 (by decide) (by omega) hl) ?_ | refine LC.pure (hB) ?_ | refine LC.pure (hS) ?_ | refine goE ?_)
     | (show AC _ _ _; first | (refine AC.idx 1 0 rfl ?_ ?_; (focus omega)) | (refine AC.idx 6 0 rfl ?_ ?_; (focus omega)) | (refine AC.idx 8 0 rfl ?_ ?_; (focus omega)) | (refine AC.idx 28 0 rfl ?_ ?_; (focus omega)) | (refine AC.idx 29 0 rfl ?_ ?_; (focus omega)))
     | (show AQ _ _; first | (refine AQ.tailE 40 rfl ?_ ?_; (focus (simp; omega))))
     | refine T.s ?_
     | ((first | refine goB (fun h => ?_) (fun h => ?_) | refine AB.dec (fun h => ?_) (fun h => ?_) | refine AB.gen (fun h => ?_) (fun h => ?_)) <;> try (exfalso; omega))
     | refine LFresh.mk fun r => ?_
     | (show SQ _ _ _ _ _ _ _; first | (refine goD tQ mixed 3 [2, 8, 14, 5, 17, 19, 21, 23, 25] [0, 1, 2, 3, 4, 6, 7, 8, 9, 10, 11, 12, 13, 14, 15, 16, 18, 20, 22, 24, 5, 17, 19, 21, 23, 25, 26, 27, 28] [r] (by kernel_rfl) ?_) | (refine goD tQ mixed 3 [2, 8, 14, 5, 17, 19, 21, 23, 25] [0, 1, 2, 3, 4, 6, 7, 8, 9, 10, 11, 12, 13, 14, 15, 16, 18, 20, 22, 24, 5, 17, 19, 21, 23, 25, 26, 27, 28] [] (by kernel_rfl) ?_) | (refine goD tQ mixed 7 [7, 11] [0, 1, 2, 3, 4, 5, 6, 7, 8, 9, 10, 11, 12, 13] [] (by kernel_rfl) ?_) | (refine goD tQ mixed 9 [] [0, 1, 2, 3, 4, 5, 6, 7, 8, 9] [r] (by kernel_rfl) ?_) | (refine goD tQ mixed 9 [] [0, 1, 2, 3, 4, 5, 6, 7, 8, 9] [] (by kernel_rfl) ?_) | (refine goD tQ mixed 12 [0, 4] [0, 1, 2, 3, 4, 5, 6, 7] [r] (by kernel_rfl) ?_) | (refine goD tQ mixed 12 [0, 4] [0, 1, 2, 3, 4, 5, 6, 7] [] (by kernel_rfl) ?_))
     | (refine dec_yes ?_ ?_; (focus (first | exact .inl rfl | (exact T.num))))
     | (refine dec_no ?_ ?_; (focus (exact T.num)))
     | refine dec_both (fun h => ?_) (fun h => ?_)
     | exact T.z
     | refine ⟨_, rfl, rfl, ?_⟩
     | fail) <;> conv => whnf)
   all_goals (try dsimp only)
   all_goals first
     | exact RL.hdn
     | (exfalso; clear hB hS hX; generalize bldR _ _ = B at *; obtain ⟨B1, B2⟩ := B; refine hc ?_; simp only [Prod.mk.injEq]; (try simp only [Bool.not_eq_true', decide_eq_true_eq, decide_eq_false_iff_not, Bool.not_eq_false', ne_eq, Decidable.not_not] at *); simp_all)
     | trace_state
theorem rparse_c (b : List UInt8) (hl : b.length ≤ 100000) : LP Tryz.prog G 45 [bv b] [] (fun _ => (.tup [(parsR b).1.1.av, bv (parsR b).1.2, iAV (parsR b).2], [])) := by
 by_cases h : b.length < 28 ∨ 1500 < b.length
 · rw [show parsR b = ((Hd.z, []), 2) from if_pos h]
   refine goW [] Tryz.func45 rfl ?_
   conv => whnf
   repeat' ((first
     | exact Nm.b 0
     | refine T.s ?_
     | ((first | refine goB (fun h => ?_) (fun h => ?_) | refine AB.dec (fun h => ?_) (fun h => ?_) | refine AB.gen (fun h => ?_) (fun h => ?_)) <;> try (exfalso; omega))
     | refine LFresh.mk fun r => ?_
     | (show SQ _ _ _ _ _ _ _; first | (refine goD tQ mixed 3 [2, 8, 14, 5, 17, 19, 21, 23, 25] [0, 1, 2, 3, 4, 6, 7, 8, 9, 10, 11, 12, 13, 14, 15, 16, 18, 20, 22, 24, 5, 17, 19, 21, 23, 25, 26, 27, 28] [] (by kernel_rfl) ?_) | (refine goD tQ mixed 7 [7, 11] [0, 1, 2, 3, 4, 5, 6, 7, 8, 9, 10, 11, 12, 13] [] (by kernel_rfl) ?_) | (refine goD tQ mixed 9 [] [0, 1, 2, 3, 4, 5, 6, 7, 8, 9] [] (by kernel_rfl) ?_) | (refine goD tQ mixed 12 [0, 4] [0, 1, 2, 3, 4, 5, 6, 7] [] (by kernel_rfl) ?_))
     | (refine dec_yes ?_ ?_; (focus (first | exact .inl rfl | (exact T.num))))
     | (refine dec_no ?_ ?_; (focus (exact T.num)))
     | refine dec_both (fun h => ?_) (fun h => ?_)
     | exact T.z
     | refine ⟨_, rfl, rfl, ?_⟩
     | fail) <;> conv => whnf)
   all_goals (try dsimp only)
   all_goals exact RL.hdn
 · cases hr : isRtp b with
   | true => exact rparse_t b (by omega) (by omega) hr
   | false => exact rparse_u b (by omega) (by omega) hr
open Go.RowKit
structure Sn where
 act : Bool
 full : Int
 refr : Int
 ser : Int
 sin : Int
 lng : Int
 dy : Dy
 rf : List Hd
def hdv (l : List Hd) : AV := .sl l.length (l.flatMap Hd.cs)
@[reducible] def Sn.cs (s : Sn) : List AV := [.bool s.act, iAV s.full, iAV s.refr, iAV s.ser, iAV s.sin, iAV s.lng, iAV s.dy.st, iAV s.dy.fo, hdv s.rf]
@[reducible] def Sn.av (s : Sn) : AV := .agg s.cs
theorem Sn.cs_len (s : Sn) : s.cs.length = 9 := rfl
theorem Hd.cs_len (h : Hd) : h.cs.length = 15 := rfl
def snv (l : List Sn) : AV := .sl l.length (l.flatMap Sn.cs)
def Sn.z : Sn := ⟨false, 0, 0, 0, 0, 0, Dy.z, []⟩
structure Co where
 m : Int
 w : Int
 cx : List Sn
@[reducible] def Co.av (c : Co) : AV := .agg [iAV c.m, iAV c.w, snv c.cx]
def Co.z : Co := ⟨0, 0, []⟩
def Sn.fst (s : Sn) : Hd := s.rf.getD 0 Hd.z
def Sn.lst (s : Sn) : Hd := s.rf.getD (s.rf.length - 1) Hd.z
def emptyR (s : Sn) : Bool := decide (s.full = 0 ∧ s.refr = 0 ∧ s.ser = 0 ∧ s.sin = 0 ∧ s.lng = 0 ∧ s.dy = Dy.z ∧ s.rf = [])
def mostR (m w : Int) : Int := if m = 3 then 32 else w
def Sn.ok (m w : Int) (s : Sn) : Bool :=
 if s.act = true then
   decide (1 ≤ s.rf.length ∧ (s.rf.length : Int) ≤ mostR m w) && (inR s.ser s.rf.length && (inR s.full w && (inR s.refr w && (decide (¬ (0 < s.full ∧ 0 < s.refr)) &&
     (inR s.sin 32 && (inR s.lng 3 && (s.dy.ok && (decide (s.fst.k = 2 ∨ s.dy = Dy.z) && s.rf.all fun r => r.ok && sameR r s.fst))))))))
 else emptyR s
def alikeR (s t : Sn) : Bool := s.act && (t.act && sameR s.fst t.fst)
def shapR (m w : Int) : Bool := decide (1 ≤ m ∧ m ≤ 3 ∧ 1 ≤ w ∧ w ≤ 8)
def Co.at (c : Co) (i : Nat) : Sn := c.cx.getD i Sn.z
def Co.oks (c : Co) (n : Nat) : Bool := (List.range n).all fun i => (c.at i).ok c.m c.w && (List.range i).all fun k => !alikeR (c.at i) (c.at k)
def Co.ok (c : Co) : Bool := shapR c.m c.w && (decide (c.cx.length = 16) && c.oks 16)
def cnewR (m w : Int) : Co × Int := if shapR m w = true then (⟨m, w, List.replicate 16 Sn.z⟩, 0) else (Co.z, 3)
def chgR (a b : Hd) : Int := (if a.tos = b.tos then 0 else 1) + (if a.ttl = b.ttl then 0 else 2) + (if a.fx = b.fx then 0 else 4) + (if a.ty = b.ty then 0 else 8) + (if decide (a.ck = 0) = decide (b.ck = 0) then 0 else 16)
def learnR (a b : Hd) : Dy :=
 if a.ok = true ∧ b.ok = true ∧ a.k = 2 ∧ sameR a b = true then
   ⟨if sg 16 a.num b.num ≠ 0 ∧ (sg 32 a.tm b.tm).tmod (sg 16 a.num b.num) = 0 ∧ 0 ≤ (sg 32 a.tm b.tm).tdiv (sg 16 a.num b.num) ∧ (sg 32 a.tm b.tm).tdiv (sg 16 a.num b.num) ≤ 65535 then (sg 32 a.tm b.tm).tdiv (sg 16 a.num b.num) else 0,
     if b.id = lw 16 (a.id + sg 16 a.num b.num) then 1 else 0⟩
 else Dy.z
def fitsR (width : Int) (l : List Int) (k v : Int) : Bool := wideB width && (decide (3 ≤ k ∧ k ≤ width) && (valB width v && l.all fun r => valB width r && decide (lsbV width r k (lw k v) = v)))
def pckR (s : Sn) (h r : Hd) : Hd := { predR s.dy r h.num with ck := h.ck }
def refB (s : Sn) (h : Hd) (f : Int) (r : Hd) : Bool := decide (chgR r h = 0) && (decide (f = 1 → pckR s h r = h) && decide (f = 2 ∧ h.k = 2 → (pckR s h r).id = h.id))
def possR (s : Sn) (h : Hd) (f : Int) : Bool :=
 s.rf.all (refB s h f) && (decide (f = 3 ∧ h.k ≠ 2) || (fitsR 16 (s.rf.map Hd.num) (wid f h.k 0) h.num && (decide (¬ (f = 2 ∧ h.k = 2)) || fitsR 32 (s.rf.map (·.tm)) 16 h.tm)))
def begR (s : Sn) (last : Hd) (had : Bool) (h : Hd) : Sn := { s with ser := s.rf.length, dy := if had = true then learnR last h else Dy.z }
def csA (w : Int) (s : Sn) (h : Hd) : Sn × Bool :=
 if s.act = false then ({ s with act := true, full := w }, true)
 else if chgR s.lst h ≠ 0 ∨ s.lng = 3 ∧ learnR s.lst h ≠ s.dy then (if 0 < s.full then { s with lng := 0, full := w } else { s with lng := 0, refr := w }, true)
 else (s, false)
def csB (m w : Int) (x : Sn × Bool) : Sn × Bool := if m = 1 ∧ x.1.sin = 32 ∧ x.1.full = 0 then ({ x.1 with full := w, refr := 0 }, true) else x
def csC (m w : Int) (n : Nat) (x : Sn × Bool) : Sn × Bool := if m = 3 ∧ n = 32 then ({ x.1 with full := w, refr := 0, rf := [] }, true) else x
def csD (last : Hd) (had : Bool) (h : Hd) (x : Sn × Bool) : Sn := if x.2 = true ∨ x.1.ser = (x.1.rf.length : Int) ∧ (0 < x.1.full ∨ 0 < x.1.refr) then begR x.1 last had h else x.1
def csE (w : Int) (last : Hd) (had : Bool) (h : Hd) (s : Sn) : Sn × Int :=
 if 0 < s.full then (s, 5) else if 0 < s.refr then (s, 4) else if possR s h 1 = true then (s, 1) else if possR s h 2 = true then (s, 2) else if possR s h 3 = true then (s, 3)
 else (begR { s with refr := w, lng := 0 } last had h, 4)
def csF (m w : Int) (h : Hd) (s : Sn) (f : Int) : Sn :=
 { act := s.act
   full := if m ≠ 3 ∧ f = 5 then s.full - 1 else s.full
   refr := if m ≠ 3 ∧ f = 4 then s.refr - 1 else s.refr
   ser := if m ≠ 3 ∧ w < (s.rf.length : Int) + 1 then max 0 (s.ser - ((s.rf.length : Int) + 1 - w)) else s.ser
   sin := if f = 5 then 0 else min (s.sin + 1) 32
   lng := if (f = 2 ∨ f = 3) ∧ h.k = 2 then min (s.lng + 1) 3 else 0
   dy := s.dy
   rf := if m ≠ 3 ∧ w < (s.rf.length : Int) + 1 then (s.rf ++ [h]).drop ((s.rf.length : Int) + 1 - w).toNat else s.rf ++ [h] }
def ctxR (m w : Int) (s : Sn) (h : Hd) : Sn × Int := csE w s.lst s.act h (csD s.lst s.act h (csC m w s.rf.length (csB m w (csA w s h))))
def partsR (dy : Dy) (c f : Int) (h : Hd) (pl : List UInt8) : Sm :=
 if f = 5 then ⟨c, 5, 0, 0, 0, 0, 0, h, dy, crcH 5 h, pl⟩
 else if f = 4 then ⟨c, 4, 0, 0, 0, 0, 0, { h with fr := 0, to := 0, fp := 0, tp := 0, sr := 0 }, dy, crcH 4 h, pl⟩
 else if f = 1 then ⟨c, 1, lw 4 h.num, 0, 0, 0, h.ck, { Hd.z with k := h.k }, Dy.z, crcH 1 h, pl⟩
 else if f = 2 then (if h.k = 2 then ⟨c, 2, lw 5 h.num, lw 16 h.tm, h.mr, 0, h.ck, { Hd.z with k := h.k }, Dy.z, crcH 2 h, pl⟩ else ⟨c, 2, lw 5 h.num, 0, 0, 0, h.ck, { Hd.z with k := h.k }, Dy.z, crcH 2 h, pl⟩)
 else (if h.k = 2 then ⟨c, 3, lw 8 h.num, h.tm, h.mr, h.id, h.ck, { Hd.z with k := h.k }, Dy.z, crcH 3 h, pl⟩ else ⟨c, 3, h.num, 0, 0, 0, h.ck, { Hd.z with k := h.k }, Dy.z, crcH 3 h, pl⟩)
def ownI (l : List Sn) (h : Hd) : Option Nat := l.findIdx? fun s => s.act && sameR s.fst h
def freeI (l : List Sn) : Option Nat := l.findIdx? fun s => !s.act
def findR (l : List Sn) (h : Hd) : Option Nat := match ownI l h with | some i => some i | none => freeI l
def rawS (b : List UInt8) : Sm := ⟨0, 6, 0, 0, 0, 0, 0, Hd.z, Dy.z, 0, b⟩
def Co.set (c : Co) (i : Nat) (s : Sn) : Co := ⟨c.m, c.w, c.cx.set i s⟩
def compC (c : Co) (i : Nat) (h : Hd) (pl : List UInt8) : Co × List UInt8 :=
 (c.set i (csF c.m c.w h (ctxR c.m c.w (c.at i) h).1 (ctxR c.m c.w (c.at i) h).2), (encR (partsR (ctxR c.m c.w (c.at i) h).1.dy i (ctxR c.m c.w (c.at i) h).2 h pl)).1)
def comprR (c : Co) (b : List UInt8) : (Co × List UInt8) × Int :=
 if c.ok = true then
   (if b = [] ∨ 1500 < b.length then ((Co.z, []), 2)
    else if (parsR b).2 = 0 then
     (match findR c.cx (parsR b).1.1 with
      | some i => if (c.at i).act = true ∧ c.m = 3 ∧ (sg 16 (c.at i).lst.num (parsR b).1.1.num < 1 ∨ 255 < sg 16 (c.at i).lst.num (parsR b).1.1.num) then ((c, (encR (rawS b)).1), 0) else (compC c i (parsR b).1.1 (parsR b).1.2, 0)
      | none => ((c, (encR (rawS b)).1), 0))
    else ((c, (encR (rawS b)).1), 0))
 else ((Co.z, []), 1)
open Go.RowKit
variable {G : Nat → AV}
theorem r6same_c (a b : Hd) : LP Tryz.prog G 31 [a.av, b.av] [] (fun _ => (.bool (sameR a b), [])) := by
 refine goW [] Tryz.func31 rfl ?_
 conv => whnf
 repeat' ((first
   | exact Nm.b 0
   | (show LC _ _ _ _ _ _; first | refine LC.pure (r6static_c _) ?_ | refine goE ?_)
   | refine T.s ?_
   | ((first | refine goB (fun h => ?_) (fun h => ?_) | refine AB.dec (fun h => ?_) (fun h => ?_) | refine AB.gen (fun h => ?_) (fun h => ?_)) <;> try (exfalso; omega))
   | refine LFresh.mk fun r => ?_
   | (show SQ _ _ _ _ _ _ _; first | refine gX 1 [2, 1] [0, 2, 1, 3, 4, 5] [] ?_)
   | exact T.z
   | fail) <;> conv => whnf)
 all_goals (try dsimp only)
 all_goals
   (show RL _ _ _; refine goR ?_)
   refine congrArg AV.bool ?_
   rw [Bool.eq_iff_iff]
   simp [sameR, alleq, Hd.static]
theorem r6chg_c (a b : Hd) : LP Tryz.prog G 50 [a.av, b.av] [] (fun _ => (iAV (chgR a b), [])) := by
 refine goW [] Tryz.func50 rfl ?_
 conv => whnf
 repeat' ((first
   | refine T.s ?_
   | ((first | refine goB (fun h => ?_) (fun h => ?_) | refine AB.dec (fun h => ?_) (fun h => ?_) | refine AB.gen (fun h => ?_) (fun h => ?_)) <;> try (exfalso; omega))
   | refine LFresh.mk fun r => ?_
   | exact T.z
   | fail) <;> conv => whnf)
 all_goals (try dsimp only)
 all_goals
   (show RL _ _ _; refine goR ?_)
   unfold chgR
   (repeat first | rw [if_pos (by first | assumption | omega)] | rw [if_neg (by first | assumption | omega)])
   rfl
theorem sg_rng (n a b : Int) (h1 : 1 ≤ n) (h2 : n ≤ 32) : -2147483648 ≤ sg n a b ∧ sg n a b < 2147483648 := by
 have h3 := lw_rng n (b - a)
 have h4 := pw_le (n := n - 1) (m := 31) (by omega)
 have h5 : (2 : Int) ^ n.toNat = 2 * 2 ^ (n - 1).toNat := by
   rw [show n.toNat = (n - 1).toNat + 1 by omega, Int.pow_succ]; omega
 unfold sg
 split <;> omega
theorem learnR_n {a b : Hd} (h : ¬ (a.ok = true ∧ b.ok = true ∧ a.k = 2 ∧ sameR a b = true)) : learnR a b = Dy.z := if_neg h
theorem tdiv_rng {t s : Int} (h : -2147483648 ≤ t ∧ t < 2147483648) : -2147483648 ≤ t.tdiv s ∧ t.tdiv s ≤ 2147483648 := by
 have h1 : (t.tdiv s).natAbs ≤ t.natAbs := by rw [Int.natAbs_tdiv]; exact Nat.div_le_self ..
 omega
theorem r6learn_c (a b : Hd) : LP Tryz.prog G 51 [a.av, b.av] [] (fun _ => ((learnR a b).av, [])) := by
 have va := r5valid_c (G := G) a
 have vb := r5valid_c (G := G) b
 have hsm := r6same_c (G := G) a b
 by_cases hg : a.ok = true ∧ b.ok = true ∧ a.k = 2 ∧ sameR a b = true
 · obtain ⟨h1, h2, h3, h4⟩ := hg
   have hid := ok_id h1
   rw [h1] at va; rw [h2] at vb; rw [h4] at hsm
   rw [show learnR a b = _ from if_pos ⟨h1, h2, h3, h4⟩]
   have hS := sg_rng 16 a.num b.num (by decide) (by decide)
   have hT := sg_rng 32 a.tm b.tm (by decide) (by decide)
   have e1 : iarith .add .i64 a.id (sg 16 a.num b.num) = a.id + sg 16 a.num b.num := by (exact T.num)
   have hD := tdiv_rng (s := sg 16 a.num b.num) hT
   have e2 : IntKind.i64.wrap ((sg 32 a.tm b.tm).tdiv (sg 16 a.num b.num)) = (sg 32 a.tm b.tm).tdiv (sg 16 a.num b.num) := by rw [IntKind.wrap_i64]; omega
   refine goW [] Tryz.func51 rfl ?_
   conv => whnf
   repeat' ((first
     | exact Nm.b 0
     | (show LC _ _ _ _ _ _; first | refine LC.pure (va) ?_ | refine LC.pure (vb) ?_ | refine LC.pure (hsm) ?_ | refine LC.pure (r6num_c _) ?_ | refine LC.pure (r2signed_c 16 _ _ (by decide) (by decide)) ?_ | refine LC.pure (r2signed_c 32 _ _ (by decide) (by decide)) ?_ | refine LC.pure (r2low_c 16 _ (by decide) (by decide)) ?_ | refine goE ?_)
     | refine T.s ?_
     | ((first | refine goB (fun h => ?_) (fun h => ?_) | refine AB.dec (fun h => ?_) (fun h => ?_) | refine AB.gen (fun h => ?_) (fun h => ?_)) <;> try (exfalso; omega))
     | refine LFresh.mk fun r => ?_
     | (show SQ _ _ _ _ _ _ _; first | refine gX 3 [2, 1] [0, 2, 1, 3, 4, 5] [] ?_ | refine gX 8 [1, 6] [0, 1, 2, 3, 4, 5, 6, 7] [] ?_)
     | exact T.z
     | fail) <;> conv => whnf)
   all_goals (try dsimp only)
   all_goals
     (show RL _ _ _; refine goR ?_)
     clear va vb hsm
     try rw [e1] at *
     try rw [e2] at *
     generalize (sg 32 a.tm b.tm).tdiv (sg 16 a.num b.num) = V at *
     generalize (sg 32 a.tm b.tm).tmod (sg 16 a.num b.num) = W at *
     (repeat first | rw [if_pos (by first | assumption | omega)] | rw [if_neg (by first | assumption | omega)])
     rfl
 · rw [learnR_n hg]
   refine goW [] Tryz.func51 rfl ?_
   conv => whnf
   repeat' ((first
     | exact Nm.b 0
     | (show LC _ _ _ _ _ _; first | refine LC.pure (va) ?_ | refine LC.pure (vb) ?_ | refine LC.pure (hsm) ?_ | refine goE ?_)
     | refine T.s ?_
     | ((first | refine goB (fun h => ?_) (fun h => ?_) | refine AB.dec (fun h => ?_) (fun h => ?_) | refine AB.gen (fun h => ?_) (fun h => ?_)) <;> try (exfalso; omega))
     | refine LFresh.mk fun r => ?_
     | (show SQ _ _ _ _ _ _ _; first | refine gX 3 [2, 1] [0, 2, 1, 3, 4, 5] [] ?_ | refine gX 8 [1, 6] [0, 1, 2, 3, 4, 5, 6, 7] [] ?_)
     | exact T.z
     | fail) <;> conv => whnf)
   all_goals (try dsimp only)
   all_goals first
     | ((show RL _ _ _; refine goR ?_); rfl)
     | (exfalso; simp_all [sameR]; done)
end Go.Proofs.YtkfpgdckdmlhkaaGreatDoor
