import Derived.Test.YtkfpgdckdmlhkaaGreatDoorDp07
import Derived.Test.YtkfpgdckdmlhkaaGreatDoorDp04
import Derived.Test.YtkfpgdckdmlhkaaGreatDoorDp19
set_option maxHeartbeats 2000000
namespace Go.Proofs.YtkfpgdckdmlhkaaGreatDoor
open Go.RowKit
set_option linter.all false
variable {G : Nat → AV}
def polyF (n : Int) : Option Int := if n = 3 then some 3 else if n = 7 then some 9 else if n = 8 then some 7 else if n = 16 then some 4129 else if n = 24 then some 8801531 else none
def gm : Nat → AV := fun g => match Nat.beq g 0 with | true => .ip [.mp polyF] | false => .any
def polyB (n : Int) : Bool := decide (n = 3 ∨ n = 7 ∨ n = 8 ∨ n = 16 ∨ n = 24)
theorem r3poly_c (n : Int) : LP Tryz.prog G 113 [iAV n] [] (fun _ => (iAV (polyV n), [])) := by
 refine goW [] Tryz.func113 rfl ?_
 conv => whnf
 repeat' ((first
   | refine T.s ?_
   | ((first | refine goB (fun h => ?_) (fun h => ?_) | refine AB.dec (fun h => ?_) (fun h => ?_) | refine AB.gen (fun h => ?_) (fun h => ?_)) <;> try (exfalso; omega))
   | refine LFresh.mk fun r => ?_
   | exact T.z
   | fail) <;> conv => whnf)
 all_goals (try dsimp only)
 all_goals
   (show RL _ _ _; refine goR ?_)
   simp [polyV, iAV, *]
theorem cpoly_y (n : Int) (h : polyB n = true) : LP Tryz.prog gm 144 [iAV n] [] (fun _ => (.tup [iAV (polyV n), .bool true], [])) := by
 have e : polyF n = some (polyV n) := by
   simp only [polyB, decide_eq_true_eq] at h
   rcases h with rfl | rfl | rfl | rfl | rfl <;> rfl
 refine goW [] Tryz.func144 rfl ?_
 conv => whnf
 repeat' ((first
   | (show AFind _ _; refine AFind.is _ (e) ?_)
   | refine T.s ?_
   | ((first | refine goB (fun h => ?_) (fun h => ?_) | refine AB.dec (fun h => ?_) (fun h => ?_) | refine AB.gen (fun h => ?_) (fun h => ?_)) <;> try (exfalso; omega))
   | refine LFresh.mk fun r => ?_
   | exact T.z
   | fail) <;> conv => whnf)
 all_goals (try dsimp only)
 all_goals
   (show RL _ _ _; refine goR ?_)
   rfl
theorem cpoly_y' (n : Int) (h : polyB n = true) (p : Nat) (hp : polyV n = p) : LP Tryz.prog gm 144 [iAV n] [] (fun _ => (.tup [iAV p, .bool true], [])) := hp ▸ cpoly_y n h
theorem cpoly_n (n : Int) (h : polyB n = false) : LP Tryz.prog gm 144 [iAV n] [] (fun _ => (.tup [iAV 0, .bool false], [])) := by
 have e : polyF n = none := by
   simp only [polyB, decide_eq_false_iff_not] at h
   unfold polyF
   repeat rw [if_neg (by omega)]
 refine goW [] Tryz.func144 rfl ?_
 conv => whnf
 repeat' ((first
   | (show AFind _ _; refine AFind.is _ (e) ?_)
   | refine T.s ?_
   | ((first | refine goB (fun h => ?_) (fun h => ?_) | refine AB.dec (fun h => ?_) (fun h => ?_) | refine AB.gen (fun h => ?_) (fun h => ?_)) <;> try (exfalso; omega))
   | refine LFresh.mk fun r => ?_
   | exact T.z
   | fail) <;> conv => whnf)
 all_goals (try dsimp only)
 all_goals
   (show RL _ _ _; refine goR ?_)
   rfl
theorem poly_lt {n : Int} (h : polyB n = true) : (polyV n).toNat < 2 ^ n.toNat ∧ (((polyV n).toNat : Nat) : Int) = polyV n := by
 simp only [polyB, decide_eq_true_eq] at h
 rcases h with rfl | rfl | rfl | rfl | rfl
 · exact ⟨by show 3 < 8; omega, rfl⟩
 · exact ⟨by show 9 < 128; omega, rfl⟩
 · exact ⟨by show 7 < 256; omega, rfl⟩
 · exact ⟨by show 4129 < 65536; omega, rfl⟩
 · exact ⟨by show 8801531 < 16777216; omega, rfl⟩
theorem dec7 {j : Nat} (h : j ≤ 8) : iarith .sub .i64 (7 - (j : Int)) 1 = 7 - ((j + 1 : Nat) : Int) := by (exact T.num)
theorem inc1 {i : Nat} (h : i < 1000000) : iarith .add .i64 (i : Int) 1 = ((i + 1 : Nat) : Int) := by (exact T.num)
theorem crc8 {k p r i j : Nat} {l : List UInt8} (h1 : (i : Int) < (l.length : Int)) (h2 : ¬ (0 : Int) ≤ 7 - (j : Int)) (h3 : j ≤ 8) : ((crcN k p (crcL k p r (l.take i)) (l.getD i 0).toNat j : Nat) : Int) = ((crcL k p r (l.take (i + 1)) : Nat) : Int) := by
 rw [crcL_take _ _ _ _ _ (by omega), show j = 8 by omega]
theorem cnext_c (n : Int) (h : polyB n = true) (r0 : Nat) (hr : r0 < 2 ^ n.toNat) (l : List UInt8) (hl : l.length ≤ 1000000) : LP Tryz.prog gm 145 [iAV n, iAV r0, bv l] [] (fun _ => (.tup [iAV (crcL n.toNat (polyV n).toNat r0 l : Nat), iAV 0], [])) := by
 have hn : 3 ≤ n ∧ n ≤ 24 := by simp only [polyB, decide_eq_true_eq] at h; omega
 have hs := shl1 (n := n) (by omega)
 have hr1 : (r0 : Int) < 2 ^ n.toNat := by exact_mod_cast hr
 have hs' : IntKind.i64.wrap (1 * 2 ^ min n.toNat IntKind.i64.bits) = 2 ^ n.toNat := hs
 have hp := poly_lt h
 have hn : 1 ≤ n ∧ n ≤ 24 := by omega
 have hb : ∀ i, (l.getD i 0).toNat < 256 := fun i => (l.getD i 0).toNat_lt
 obtain ⟨p, hpe⟩ : ∃ p : Nat, (polyV n).toNat = p := ⟨_, rfl⟩
 rw [hpe] at hp ⊢
 refine goW [] Tryz.func145 rfl ?_
 conv => whnf
 repeat' ((first
   | exact Nm.b 0
   | (show LC _ _ _ _ _ _; first | refine LC.pure (cpoly_y' _ h p hp.2.symm) ?_ | refine goE ?_)
   | (show AC _ _ _; first | (refine AC.idx (i) (0) ?_ ?_ ?_; (focus (first | exact rfl | (simp; done) | (simp; omega))); (focus (first | omega | exact T.side))))
   | refine T.s ?_
   | ((first | refine goB (fun h => ?_) (fun h => ?_) | refine AB.dec (fun h => ?_) (fun h => ?_) | refine AB.gen (fun h => ?_) (fun h => ?_)) <;> try (exfalso; omega))
   | refine LFresh.mk fun r => ?_
   | (show SQ _ _ _ (.loop _) _ _ _; first | (apply goO tQ [] 7 (S := Nat) [0, 8, 31, 32] (fun i => ⟨[(33, .int .i64 i), (1, .int .i64 (crcL n.toNat p r0 (l.take i) : Nat))], [], i ≤ l.length, l.length - i⟩) (0) (by rfl); (focus (all_goals (try exact KE71); done)); rintro i hok; (try dsimp only at hok); (repeat (have hk := And.left hok; replace hok := And.right hok))) | (apply goO tQ [] 10 (S := Nat) [0, 8, 11, 31, 32, 33] (fun j => ⟨[(12, .int .i64 (7 - (j : Int))), (1, .int .i64 (crcN n.toNat p (crcL n.toNat p r0 (l.take i)) (l.getD i 0).toNat j : Nat))], [], j ≤ 8, 8 - j⟩) (0) (by rfl); (focus (all_goals (try exact KE71); done)); rintro j hok; (try dsimp only at hok); (repeat (have hk := And.left hok; replace hok := And.right hok))))
   | (show SQ _ _ _ _ _ _ _; first | (refine goD tQ mixed 12 [] [0, 1, 2, 3, 4, 5, 6, 7, 8, 9, 10] [] (by kernel_rfl) ?_))
   | (show AtL _ _ _ _ _ _ _ _ _ _; first | (apply AtL.mk' (id := 7) (S := Nat) (i + 1); all_goals (try exact KE71); done) | (apply AtL.mk' (id := 10) (S := Nat) (j + 1); all_goals (try exact KE71); done) | (apply AtL.mk' (id := 7) (S := Nat) (i + 1); all_goals (try exact KE71)) | (apply AtL.mk' (id := 10) (S := Nat) (j + 1); all_goals (try exact KE71)))
   | exact T.z
   | refine ⟨_, rfl, rfl, ?_⟩
   | fail) <;> conv => whnf)
 all_goals (try dsimp only)
 all_goals
   (show RL _ _ _; refine goR ?_)
   rw [List.take_of_length_le (by omega)]
   rfl
def crcO (n : Int) (l : List UInt8) : Int × Int := if polyB n = true then (crcS n l, 0) else (0, 7)
theorem crcO_y {n : Int} (h : polyB n = true) (l : List UInt8) : crcO n l = (crcS n l, 0) := if_pos h
theorem crcO_n {n : Int} (h : polyB n = false) (l : List UInt8) : crcO n l = (0, 7) := if_neg (by rw [h]; decide)
attribute [irreducible] crcO
theorem mask_n {n : Int} (h1 : n ≤ 24) : iarith .sub .i64 (IntKind.i64.wrap (1 * 2 ^ min n.toNat IntKind.i64.bits)) 1 = ((2 ^ n.toNat - 1 : Nat) : Int) := by
 refine (mask_e (by omega)).trans ?_
 have : 0 < 2 ^ n.toNat := Nat.pow_pos (by decide)
 rw [Int.ofNat_sub this]
 simp
theorem csum_c (n : Int) (l : List UInt8) (hl : l.length ≤ 1000000) : LP Tryz.prog gm 129 [iAV n, bv l] [] (fun _ => (.tup [iAV (crcO n l).1, iAV (crcO n l).2], [])) := by
 cases h : polyB n with
 | true =>
   have hn0 : 0 ≤ n ∧ n ≤ 24 := by simp only [polyB, decide_eq_true_eq] at h; omega
   have e := mask_n hn0.2
   rw [crcO_y h, ← crcS_eq]
   refine goW [] Tryz.func129 rfl ?_
   conv => whnf
   repeat' ((first
     | (show LC _ _ _ _ _ _; (refine LC.eq (args' := [iAV n, iAV ((2 ^ n.toNat - 1 : Nat) : Int), bv l]) (congrArg (fun z => [iAV n, AV.int .i64 z, bv l]) e) ?_); refine LC.pure (cnext_c n h _ (Nat.sub_lt (Nat.pow_pos (by decide)) (by decide)) l hl) ?_; conv => whnf)
     | (show LC _ _ _ _ _ _; first | refine LC.pure (cpoly_y _ h) ?_ | refine goE ?_)
     | refine T.s ?_
     | ((first | refine goB (fun h => ?_) (fun h => ?_) | refine AB.dec (fun h => ?_) (fun h => ?_) | refine AB.gen (fun h => ?_) (fun h => ?_)) <;> try (exfalso; omega))
     | refine LFresh.mk fun r => ?_
     | exact T.z
     | fail) <;> conv => whnf)
   all_goals (try dsimp only)
   (show RL _ _ _; refine goR ?_)
   rfl
 | false =>
   rw [crcO_n h]
   refine goW [] Tryz.func129 rfl ?_
   conv => whnf
   repeat' ((first
     | (show LC _ _ _ _ _ _; first | refine LC.pure (cpoly_n _ h) ?_ | refine goE ?_)
     | refine T.s ?_
     | ((first | refine goB (fun h => ?_) (fun h => ?_) | refine AB.dec (fun h => ?_) (fun h => ?_) | refine AB.gen (fun h => ?_) (fun h => ?_)) <;> try (exfalso; omega))
     | refine LFresh.mk fun r => ?_
     | exact T.z
     | fail) <;> conv => whnf)
   all_goals (try dsimp only)
   (show RL _ _ _; refine goR ?_)
   rfl
open Go.RowKit
variable {G : Nat → AV}
theorem poly_0 {n : Int} (h : polyB n = false) : polyV n = 0 := by
 simp only [polyB, decide_eq_false_iff_not] at h
 unfold polyV
 repeat rw [if_neg (by omega)]
theorem poly_pos {n : Int} (h : polyB n = true) : polyV n ≠ 0 := by
 simp only [polyB, decide_eq_true_eq] at h
 rcases h with rfl | rfl | rfl | rfl | rfl <;> decide
theorem u64m {n : Int} (h1 : 0 ≤ n) (h2 : n ≤ 32) : (IntKind.u64.wrap n).toNat = n.toNat := by rw [IntKind.wrap_u64]; omega
theorem and8 : ∀ x : Nat, x < 256 → ibits .and .u8 (x : Int) 1 = ((x % 2 : Nat) : Int) := by decide +kernel
section
variable {n : Int} {R c j p r : Nat}
theorem r3_top (hn : 1 ≤ n ∧ n ≤ 24) (hR : R < 2 ^ n.toNat) : ibits .and .i64 ((R : Int).fdiv (2 ^ min (IntKind.u64.wrap (iarith .sub .i64 n 1)).toNat IntKind.i64.bits)) 1 = ((R / 2 ^ (n.toNat - 1) : Nat) : Int) := by
 have e : iarith .sub .i64 n 1 = n - 1 := by (exact T.num)
 have h1 : R / 2 ^ (n.toNat - 1) < 2 := by
   rw [Nat.div_lt_iff_lt_mul (Nat.pow_pos (by decide)), Nat.mul_comm, ← Nat.pow_succ, show (n.toNat - 1).succ = n.toNat by omega]
   exact hR
 rw [e, u64m (by omega) (by omega), Int.fdiv_eq_ediv_of_nonneg _ (Int.le_of_lt (Int.pow_pos (by decide))), show min (n - 1).toNat IntKind.i64.bits = n.toNat - 1 by show min _ 64 = _; omega]
 refine (and_mask _ 1 (by decide)).trans ?_
 rw [show ((R : Int) / 2 ^ (n.toNat - 1)) = ((R / 2 ^ (n.toNat - 1) : Nat) : Int) by simp]
 generalize R / 2 ^ (n.toNat - 1) = x at h1
 show (x : Int) % 2 = x
 omega
theorem r3_bit (hc : c < 256) (hj : j < 8) : IntKind.i64.wrap (ibits .and .u8 ((c : Int).fdiv (2 ^ min (IntKind.u64.wrap (7 - (j : Int))).toNat IntKind.u8.bits)) 1) = ((c / 2 ^ (7 - j) % 2 : Nat) : Int) := by
 rw [u64m (by omega) (by omega), Int.fdiv_eq_ediv_of_nonneg _ (Int.le_of_lt (Int.pow_pos (by decide))), show min (7 - (j : Int)).toNat IntKind.u8.bits = 7 - j by show min _ 8 = _; omega, show ((c : Int) / 2 ^ (7 - j)) = ((c / 2 ^ (7 - j) : Nat) : Int) by simp, and8 _ (Nat.lt_of_le_of_lt (Nat.div_le_self ..) hc), IntKind.wrap_i64]
 omega
theorem r3_shl (hn : 1 ≤ n ∧ n ≤ 24) (hR : R < 2 ^ n.toNat) : ibits .and .i64 (IntKind.i64.wrap ((R : Int) * 2 ^ min (1 : Int).toNat IntKind.i64.bits)) (iarith .sub .i64 (IntKind.i64.wrap (1 * 2 ^ min (IntKind.u64.wrap n).toNat IntKind.i64.bits)) 1) = ((2 * R % 2 ^ n.toNat : Nat) : Int) := by
 rw [u64m (by omega) (by omega)]
 exact shl_e hn hR
theorem r3_t (hn : 1 ≤ n ∧ n ≤ 24) (hp : p < 2 ^ n.toNat) (hr : r < 2 ^ n.toNat) (hc : c < 256) (hj0 : (0 : Int) ≤ 7 - (j : Int))
   (h : ibits .and .i64 ((crcN n.toNat p r c j : Int).fdiv (2 ^ min (IntKind.u64.wrap (iarith .sub .i64 n 1)).toNat IntKind.i64.bits)) 1 = IntKind.i64.wrap (ibits .and .u8 ((c : Int).fdiv (2 ^ min (IntKind.u64.wrap (7 - (j : Int))).toNat IntKind.u8.bits)) 1)) :
   ibits .and .i64 (IntKind.i64.wrap ((crcN n.toNat p r c j : Int) * 2 ^ min (1 : Int).toNat IntKind.i64.bits)) (iarith .sub .i64 (IntKind.i64.wrap (1 * 2 ^ min (IntKind.u64.wrap n).toNat IntKind.i64.bits)) 1) = ((crcN n.toNat p r c (j + 1) : Nat) : Int) := by
 have hR := crcN_lt (c := c) hp hr j
 rw [r3_top hn hR, r3_bit hc (by omega)] at h
 rw [r3_shl hn hR, crcN_succ]
 unfold crcB
 rw [if_pos (by omega)]
theorem r3_f (hn : 1 ≤ n ∧ n ≤ 24) (hp : p < 2 ^ n.toNat) (hr : r < 2 ^ n.toNat) (hc : c < 256) (hj0 : (0 : Int) ≤ 7 - (j : Int))
   (h : ¬ ibits .and .i64 ((crcN n.toNat p r c j : Int).fdiv (2 ^ min (IntKind.u64.wrap (iarith .sub .i64 n 1)).toNat IntKind.i64.bits)) 1 = IntKind.i64.wrap (ibits .and .u8 ((c : Int).fdiv (2 ^ min (IntKind.u64.wrap (7 - (j : Int))).toNat IntKind.u8.bits)) 1)) :
   ibits .xor .i64 (ibits .and .i64 (IntKind.i64.wrap ((crcN n.toNat p r c j : Int) * 2 ^ min (1 : Int).toNat IntKind.i64.bits)) (iarith .sub .i64 (IntKind.i64.wrap (1 * 2 ^ min (IntKind.u64.wrap n).toNat IntKind.i64.bits)) 1)) (p : Int) = ((crcN n.toNat p r c (j + 1) : Nat) : Int) := by
 have hR := crcN_lt (c := c) hp hr j
 have h24 := Nat.pow_le_pow_right (n := 2) (by decide) (show n.toNat ≤ 24 by omega)
 have h3 : 2 * crcN n.toNat p r c j % 2 ^ n.toNat < 2 ^ n.toNat := Nat.mod_lt _ (Nat.pow_pos (by decide))
 rw [r3_top hn hR, r3_bit hc (by omega)] at h
 rw [r3_shl hn hR, ixor_nat _ _ (by omega) (by omega), crcN_succ]
 unfold crcB
 rw [if_neg (by omega)]
end
theorem r3next_c (n : Int) (h : polyB n = true) (r0 : Nat) (hr : r0 < 2 ^ n.toNat) (l : List UInt8) (hl : l.length ≤ 1000000) : LP Tryz.prog G 114 [iAV n, iAV r0, bv l] [] (fun _ => (.tup [iAV (crcL n.toNat (polyV n).toNat r0 l : Nat), iAV 0], [])) := by
 have hn : 3 ≤ n ∧ n ≤ 24 := by simp only [polyB, decide_eq_true_eq] at h; omega
 have hs := shl1 (n := n) (by omega)
 have hr1 : (r0 : Int) < 2 ^ n.toNat := by exact_mod_cast hr
 have hs' : IntKind.i64.wrap (1 * 2 ^ min n.toNat IntKind.i64.bits) = 2 ^ n.toNat := hs
 have hp := poly_lt h
 have hn : 1 ≤ n ∧ n ≤ 24 := by omega
 have hb : ∀ i, (l.getD i 0).toNat < 256 := fun i => (l.getD i 0).toNat_lt
 have hp0 := poly_pos h
 have hs3 : IntKind.i64.wrap (1 * 2 ^ min (IntKind.u64.wrap n).toNat IntKind.i64.bits) = 2 ^ n.toNat := by rw [u64m (by omega) (by omega)]; exact hs
 obtain ⟨p, hpe⟩ : ∃ p : Nat, (polyV n).toNat = p := ⟨_, rfl⟩
 have hpp := r3poly_c (G := G) n
 rw [← hp.2] at hpp hp0
 rw [hpe] at hp hpp hp0 ⊢
 refine goW [] Tryz.func114 rfl ?_
 conv => whnf
 repeat' ((first
   | (show LC _ _ _ _ _ _; first | refine LC.pure (hpp) ?_ | refine goE ?_)
   | (show AC _ _ _; first | (refine AC.idx (i) (0) ?_ ?_ ?_; (focus (first | exact rfl | (simp; done) | (simp; omega))); (focus (first | omega | exact T.side))))
   | refine T.s ?_
   | ((first | refine goB (fun h => ?_) (fun h => ?_) | refine AB.dec (fun h => ?_) (fun h => ?_) | refine AB.gen (fun h => ?_) (fun h => ?_)) <;> try (exfalso; omega))
   | refine LFresh.mk fun r => ?_
   | (show SQ _ _ _ (.loop _) _ _ _; first | (apply goO tQ [] 7 (S := Nat) [0, 2, 8] (fun i => ⟨[(9, .int .i64 i), (1, .int .i64 (crcL n.toNat p r0 (l.take i) : Nat))], [], i ≤ l.length, l.length - i⟩) (0) (by rfl); (focus (all_goals (try exact KC8C); done)); rintro i hok; (try dsimp only at hok); (repeat (have hk := And.left hok; replace hok := And.right hok))) | (apply goO tQ [] 10 (S := Nat) [0, 2, 8, 9] (fun j => ⟨[(10, .int .i64 (7 - (j : Int))), (1, .int .i64 (crcN n.toNat p (crcL n.toNat p r0 (l.take i)) (l.getD i 0).toNat j : Nat))], [], j ≤ 8, 8 - j⟩) (0) (by rfl); (focus (all_goals (try exact KC8C); done)); rintro j hok; (try dsimp only at hok); (repeat (have hk := And.left hok; replace hok := And.right hok))))
   | (show AtL _ _ _ _ _ _ _ _ _ _; first | (apply AtL.mk' (id := 7) (S := Nat) (i + 1); all_goals (try exact KC8C); done) | (apply AtL.mk' (id := 10) (S := Nat) (j + 1); all_goals (try exact KC8C); done) | (apply AtL.mk' (id := 7) (S := Nat) (i + 1); all_goals (try exact KC8C)) | (apply AtL.mk' (id := 10) (S := Nat) (j + 1); all_goals (try exact KC8C)))
   | exact T.z
   | refine ⟨_, rfl, rfl, ?_⟩
   | fail) <;> conv => whnf)
 all_goals (try dsimp only)
 all_goals
   (show RL _ _ _; refine goR ?_)
   rw [List.take_of_length_le (by omega)]
   rfl
theorem r3sum_c (n : Int) (l : List UInt8) (hl : l.length ≤ 1000000) : LP Tryz.prog G 74 [iAV n, bv l] [] (fun _ => (.tup [iAV (crcO n l).1, iAV (crcO n l).2], [])) := by
 have hpp := r3poly_c (G := G) n
 cases h : polyB n with
 | true =>
   have hn0 : 0 ≤ n ∧ n ≤ 24 := by simp only [polyB, decide_eq_true_eq] at h; omega
   have e : iarith .sub .i64 (IntKind.i64.wrap (1 * 2 ^ min (IntKind.u64.wrap n).toNat IntKind.i64.bits)) 1 = ((2 ^ n.toNat - 1 : Nat) : Int) := by rw [u64m (by omega) (by omega)]; exact mask_n hn0.2
   have hp0 := poly_pos h
   rw [crcO_y h, ← crcS_eq]
   refine goW [] Tryz.func74 rfl ?_
   conv => whnf
   repeat' ((first
     | (show LC _ _ _ _ _ _; (refine LC.eq (args' := [iAV n, iAV ((2 ^ n.toNat - 1 : Nat) : Int), bv l]) (congrArg (fun z => [iAV n, AV.int .i64 z, bv l]) e) ?_); refine LC.pure (r3next_c n h _ (Nat.sub_lt (Nat.pow_pos (by decide)) (by decide)) l hl) ?_; conv => whnf)
     | (show LC _ _ _ _ _ _; first | refine LC.pure (hpp) ?_ | refine goE ?_)
     | refine T.s ?_
     | ((first | refine goB (fun h => ?_) (fun h => ?_) | refine AB.dec (fun h => ?_) (fun h => ?_) | refine AB.gen (fun h => ?_) (fun h => ?_)) <;> try (exfalso; omega))
     | refine LFresh.mk fun r => ?_
     | exact T.z
     | refine ⟨_, rfl, rfl, ?_⟩
     | fail) <;> conv => whnf)
   all_goals (try dsimp only)
   (show RL _ _ _; refine goR ?_)
   rfl
 | false =>
   rw [crcO_n h]
   rw [poly_0 h] at hpp
   refine goW [] Tryz.func74 rfl ?_
   conv => whnf
   repeat' ((first
     | (show LC _ _ _ _ _ _; first | refine LC.pure (hpp) ?_ | refine goE ?_)
     | refine T.s ?_
     | ((first | refine goB (fun h => ?_) (fun h => ?_) | refine AB.dec (fun h => ?_) (fun h => ?_) | refine AB.gen (fun h => ?_) (fun h => ?_)) <;> try (exfalso; omega))
     | refine LFresh.mk fun r => ?_
     | exact T.z
     | refine ⟨_, rfl, rfl, ?_⟩
     | fail) <;> conv => whnf)
   all_goals (try dsimp only)
   (show RL _ _ _; refine goR ?_)
   rfl
open Go.RowKit
section
variable {P : Program} {G : Nat → AV} {N : Nat} {e : Env} {l : LS} {σ σ0 : Store} {w0 w : World} {a : Act}
theorem Rel.adoptP {p : Nm} {j sz : Nat} {t0 : TypeId} {cs : List AV} (t : TypeId) (h : Rel G N e σ σ0 w0 a w) (hp : σ p = some ⟨t0, cs⟩) (hj : j < cs.length) (hn : cs.getD j .any = .nils) {k : Nat} (hk : σ (.v k) = none) :
   Rel G N e (upd (upd σ p ⟨t0, cs.set j (.vw (.v k) 0 0 sz)⟩) (.v k) ⟨t, []⟩) σ0 w0 a w := by
 have hpk : p ≠ .v k := fun e => by subst e; rw [hk] at hp; cases hp
 have hbn : ∀ b, σ (.b b) = none → (upd (upd σ p ⟨t0, cs.set j (.vw (.v k) 0 0 sz)⟩) (.v k) ⟨t, []⟩) (.b b) = none := fun b hb => by
   rw [upd_ne _ _ (by simp), upd_ne _ _ (fun e => by subst e; rw [hb] at hp; cases hp)]
   exact hb
 have hst : Stp σ w (upd (upd σ p ⟨t0, cs.set j (.vw (.v k) 0 0 sz)⟩) (.v k) ⟨t, []⟩) w := Stp.forget _ _ w hbn
 refine ⟨h.n, h.d, fun x => (h.env x).mono hst, ⟨fun q c hq => ?_, fun m c hm => ?_, fin_upd (fin_upd h.mem.fin _ _) _ _⟩, h.st.trans hst, h.glob.mono hst⟩
 · rw [upd_ne _ _ (by simp)] at hq
   by_cases e : Nm.b q = p
   · subst e
     rw [upd_same] at hq; cases hq
     obtain ⟨cur, k1, k2, k3⟩ := h.mem.pl q _ hp
     refine ⟨cur, k1, by simpa using k2, fun i hi => ?_⟩
     have hi2 : i < cs.length := by
       have h5 : i < (cs.set j (AV.vw (.v k) 0 0 sz)).length := hi
       rwa [List.length_set] at h5
     by_cases hij : i = j
     · subst hij
       have k4 := k3 i hi2
       simp only at k4
       rw [hn] at k4
       have e2 : (cs.set i (AV.vw (.v k) 0 0 sz)).getD i .any = .vw (.v k) 0 0 sz := by simp [List.getD_eq_getElem?_getD, hi2]
       show Rd _ w ((cs.set i (AV.vw (.v k) 0 0 sz)).getD i .any) _
       rw [e2]
       generalize cur.getD i undef = u at k4
       cases k4
       exact .vwnil _ _
     · have e2 : (cs.set j (AV.vw (.v k) 0 0 sz)).getD i .any = cs.getD i .any := by
         simp only [List.getD_eq_getElem?_getD]
         rw [List.getElem?_set_ne (by omega)]
       show Rd _ w ((cs.set j (AV.vw (.v k) 0 0 sz)).getD i .any) _
       rw [e2]
       exact (k3 i hi2).mono hst
   · rw [upd_ne _ _ e] at hq
     obtain ⟨cur, k1, k2, k3⟩ := h.mem.pl q c hq
     exact ⟨cur, k1, k2, fun i hi => (k3 i hi).mono hst⟩
 · by_cases hmk : m = k
   · subst hmk; rw [upd_same] at hm; cases hm; rfl
   · rw [upd_ne _ _ (by simp; exact hmk)] at hm
     by_cases e : Nm.v m = p
     · subst e
       have := h.mem.vl m _ hp
       simp only at this
       rw [this] at hj
       simp at hj
     · rw [upd_ne _ _ e] at hm
       exact h.mem.vl m c hm
theorem SQ.adoptP (p : Nm) (j sz : Nat) (t : TypeId) {c : Code} {Q : Exit → Env → LS → Prop} (h : LH l p fun d s _ => j < d.cs.length ∧ d.cs.getD j .any = .nils ∧ ∀ q, SQ P G N c Q e ((q, ⟨t, []⟩) :: s ⟨d.ty, d.cs.set j (.vw q 0 0 sz)⟩)) : SQ P G N c Q e l := by
 obtain ⟨l1, d, l2, rfl, h1, h2, h3⟩ := h.ex
 refine ⟨fun φ hs => ⟨fun σ0 w0 a w hr => ?_⟩⟩
 obtain ⟨B, hB⟩ := hr.mem.fin
 have hk := hB B (Nat.le_refl _)
 have hs2 : Sep φ (l1 ++ (p, ⟨d.ty, d.cs.set j (.vw (.v B) 0 0 sz)⟩) :: l2) := hs.set
 have hr2 := hr.adoptP (sz := sz) t hs.get h1 h2 hk
 rw [hs.set'] at hr2
 have hs3 : Sep φ ((.v B, ⟨t, []⟩) :: (l1 ++ (p, ⟨d.ty, d.cs.set j (.vw (.v B) 0 0 sz)⟩) :: l2)) := hs2.new (by
   rw [← hs.set', upd_ne _ _ (fun e => by rw [e, hs.get] at hk; cases hk)]
   exact hk) _
 exact ((h3 (.v B)).run φ hs3).run σ0 w0 a w hr2
end
open Go.RowKit
variable {G : Nat → AV}
theorem allg_take {α : Type} {g : α → Bool} (l : List α) (i : Nat) (d : α) (h : i < l.length) : (l.take (i + 1)).all g = ((l.take i).all g && g (l.getD i d)) := by
 rw [List.take_succ_eq_append_getElem h, List.all_append]
 simp [List.getD_eq_getElem?_getD, h]
theorem allg_bad {α : Type} {g : α → Bool} (l : List α) (i : Nat) (d : α) (h : i < l.length) (hb : g (l.getD i d) = false) : l.all g = false := by
 cases hc : l.all g with
 | false => rfl
 | true =>
   rw [List.all_eq_true] at hc
   have := hc (l.getD i d) (by simp [List.getD_eq_getElem?_getD, h])
   rw [hb] at this; cases this
theorem allg_end {α : Type} {g : α → Bool} {l : List α} {i : Nat} (h : l.length ≤ i) (hk : (l.take i).all g = true) : l.all g = true := by rwa [List.take_of_length_le h] at hk
def fit1 (width k v r : Int) : Bool := decide ((lsbR width r k (lw k v)).2 = 0 ∧ (lsbR width r k (lw k v)).1 = v)
def fitG (width k v : Int) : Bool := wideB width && (decide (3 ≤ k ∧ k ≤ width) && valB width v)
theorem fit1_e {width k v : Int} (h : fitG width k v = true) (r : Int) : fit1 width k v r = (valB width r && decide (lsbV width r k (lw k v) = v)) := by
 simp only [fitG, Bool.and_eq_true, decide_eq_true_eq] at h
 obtain ⟨h1, ⟨h2, h3⟩, h4⟩ := h
 have h5 : valB k (lw k v) = true := by have := lw_rng k v; simp only [valB, decide_eq_true_eq]; exact this
 unfold fit1
 cases hr : valB width r with
 | true => rw [lsbR_g h1 h2 h3 hr h5]; simp
 | false => rw [lsbR_b h1 (by simp [hr])]; simp
theorem fitsR_e (width : Int) (l : List Int) (k v : Int) : fitsR width l k v = (fitG width k v && l.all (fit1 width k v)) := by
 cases h : fitG width k v with
 | true =>
   have e : fit1 width k v = fun r => (valB width r && decide (lsbV width r k (lw k v) = v)) := funext (fit1_e h)
   rw [e]
   simp only [fitG, Bool.and_eq_true] at h
   unfold fitsR
   rw [h.1, h.2.1, h.2.2]
   rfl
 | false =>
   unfold fitsR
   simp only [fitG, Bool.and_eq_false_iff] at h
   rcases h with h | h | h <;> rw [h] <;> simp
attribute [irreducible] fit1
theorem r7fits_c (width : Int) (l : List Int) (k v : Int) (hl : l.length ≤ 100000) : LP Tryz.prog G 90 [iAV width, iv l, iAV k, iAV v] [] (fun _ => (.bool (fitsR width l k v), [])) := by
 have hw := r7wide_c (G := G) width
 rw [fitsR_e]
 cases hg : fitG width k v with
 | true =>
   have hgg := hg
   simp only [fitG, Bool.and_eq_true, decide_eq_true_eq, valB] at hgg
   obtain ⟨h1, h2, h3⟩ := hgg
   have hn := wide_le h1
   rw [h1] at hw
   have e1 : IntKind.i64.wrap (1 * 2 ^ min (IntKind.u64.wrap width).toNat IntKind.i64.bits) = 2 ^ width.toNat := by rw [u64m (by omega) (by omega)]; exact shl1 (by omega)
   have hf : ∀ r, ¬ (lsbR width r k (lw k v)).2 = 0 → fit1 width k v r = false := fun r h => by unfold fit1; simp [h]
   have hf2 : ∀ r, ¬ (lsbR width r k (lw k v)).1 = v → fit1 width k v r = false := fun r h => by unfold fit1; simp [h]
   have hf3 : ∀ r, (lsbR width r k (lw k v)).2 = 0 → (lsbR width r k (lw k v)).1 = v → fit1 width k v r = true := fun r h h' => by unfold fit1; simp [h, h']
   rw [Bool.true_and]
   refine goW [] Tryz.func90 rfl ?_
   conv => whnf
   repeat' ((first
     | exact Nm.b 0
     | (show LC _ _ _ _ _ _; first | refine LC.pure (hw) ?_ | refine LC.pure (r2low_c k v (by omega) (by omega)) ?_ | refine LC.pure (r7decode_c _ _ _ _) ?_ | refine goE ?_)
     | (show AC _ _ _; first | (refine AC.idx (i) (0) ?_ ?_ ?_; (focus (first | exact rfl | (simp; done) | (simp; omega))); (focus (first | omega | exact T.side))))
     | refine T.s ?_
     | ((first | refine goB (fun h => ?_) (fun h => ?_) | refine AB.dec (fun h => ?_) (fun h => ?_) | refine AB.gen (fun h => ?_) (fun h => ?_)) <;> try (exfalso; omega))
     | refine LFresh.mk fun r => ?_
     | (show SQ _ _ _ (.loop _) _ _ _; first | (apply goO tQ [] 4 (S := Nat) [0, 1, 2, 3] (fun i => ⟨[(9, .int .i64 i)], [], i ≤ l.length ∧ (l.take i).all (fit1 width k v) = true, l.length - i⟩) (0) (by rfl); (focus (all_goals (try exact KCA0); done)); rintro i hok; (try dsimp only at hok); (repeat (have hk := And.left hok; replace hok := And.right hok))))
     | (show SQ _ _ _ _ _ _ _; first | (refine goD tQ mixed 6 [4, 8] [0, 1, 2, 3, 4, 5, 6, 7, 8, 9, 10, 11, 12, 13, 14] [] (by kernel_rfl) ?_))
     | (show AtL _ _ _ _ _ _ _ _ _ _; first | (apply AtL.mk' (id := 4) (S := Nat) (i + 1); all_goals (try exact KCA0); done) | (apply AtL.mk' (id := 4) (S := Nat) (i + 1); all_goals (try exact KCA0)))
     | exact T.z
     | refine ⟨_, rfl, rfl, ?_⟩
     | fail) <;> conv => whnf)
   all_goals (try dsimp only)
   all_goals first
     | ((show RL _ _ _; refine goR ?_); rw [allg_bad l i 0 (by omega) (hf _ (by assumption))])
     | ((show RL _ _ _; refine goR ?_); rw [allg_bad l i 0 (by omega) (hf2 _ (by assumption))])
     | ((show RL _ _ _; refine goR ?_); rw [allg_end (by omega) hok])
     | trace_state
 | false =>
   simp only [fitG, Bool.and_eq_false_iff, decide_eq_false_iff_not, valB] at hg
   rw [Bool.false_and]
   cases h1 : wideB width with
   | false =>
     rw [h1] at hw
     refine goW [] Tryz.func90 rfl ?_
     conv => whnf
     repeat' ((first
       | exact Nm.b 0
       | (show LC _ _ _ _ _ _; first | refine LC.pure (hw) ?_ | refine goE ?_)
       | refine T.s ?_
       | ((first | refine goB (fun h => ?_) (fun h => ?_) | refine AB.dec (fun h => ?_) (fun h => ?_) | refine AB.gen (fun h => ?_) (fun h => ?_)) <;> try (exfalso; omega))
       | refine LFresh.mk fun r => ?_
       | (show SQ _ _ _ _ _ _ _; first | (refine goD tQ mixed 6 [4, 8] [0, 1, 2, 3, 4, 5, 6, 7, 8, 9, 10, 11, 12, 13, 14] [] (by kernel_rfl) ?_))
       | exact T.z
       | refine ⟨_, rfl, rfl, ?_⟩
       | fail) <;> conv => whnf)
     all_goals (try dsimp only)
     all_goals first | ((show RL _ _ _; refine goR ?_); rfl)
   | true =>
     have hn := wide_le h1
     rw [h1] at hw
     have e1 : IntKind.i64.wrap (1 * 2 ^ min (IntKind.u64.wrap width).toNat IntKind.i64.bits) = 2 ^ width.toNat := by rw [u64m (by omega) (by omega)]; exact shl1 (by omega)
     have hg : ¬ (3 ≤ k ∧ k ≤ width) ∨ ¬ (0 ≤ v ∧ v < 2 ^ width.toNat) := by
       rcases hg with hg | hg
       · rw [hg] at h1; cases h1
       · exact hg
     refine goW [] Tryz.func90 rfl ?_
     conv => whnf
     repeat' ((first
       | exact Nm.b 0
       | (show LC _ _ _ _ _ _; first | refine LC.pure (hw) ?_ | refine goE ?_)
       | refine T.s ?_
       | ((first | refine goB (fun h => ?_) (fun h => ?_) | refine AB.dec (fun h => ?_) (fun h => ?_) | refine AB.gen (fun h => ?_) (fun h => ?_)) <;> try (exfalso; omega))
       | refine LFresh.mk fun r => ?_
       | (show SQ _ _ _ (.loop _) _ _ _; first | (refine goL tQ [] 4 (S := Nat) [0, 1, 2, 3] (fun i => ⟨[(9, .int .i64 i)], [], False, l.length - i⟩) (0) ?_; rintro i hok; (try dsimp only at hok); (repeat (have hk := And.left hok; replace hok := And.right hok))))
       | (show SQ _ _ _ _ _ _ _; first | (refine goD tQ mixed 6 [4, 8] [0, 1, 2, 3, 4, 5, 6, 7, 8, 9, 10, 11, 12, 13, 14] [] (by kernel_rfl) ?_))
       | (show AtL _ _ _ _ _ _ _ _ _ _; first | (show AtL 4 _ _ _ _ _ _ _ _ _; exact goN 4 (S := Nat) (i + 1)) | (apply AtL.mk' (id := 4) (S := Nat) (i + 1); all_goals (try exact KC12)))
       | exact T.z
       | refine ⟨_, rfl, rfl, ?_⟩
       | fail) <;> conv => whnf)
     all_goals (try dsimp only)
     all_goals first | ((show RL _ _ _; refine goR ?_); rfl)
theorem r9size_c (f : Int) : LP Tryz.prog G 75 [iAV f] [] (fun _ => (iAV (cbR f), [])) := by
 refine goW [] Tryz.func75 rfl ?_
 conv => whnf
 repeat' ((first
   | refine T.s ?_
   | ((first | refine goB (fun h => ?_) (fun h => ?_) | refine AB.dec (fun h => ?_) (fun h => ?_) | refine AB.gen (fun h => ?_) (fun h => ?_)) <;> try (exfalso; omega))
   | refine LFresh.mk fun r => ?_
   | exact T.z
   | fail) <;> conv => whnf)
 all_goals (try dsimp only)
 all_goals
   (show RL _ _ _; refine goR ?_)
   simp [cbR, iAV, *]
theorem poly_cb (f : Int) : polyB (cbR f) = true := by
 unfold polyB cbR
 (repeat' split) <;> simp
theorem crcO_cb (f : Int) (l : List UInt8) : crcO (cbR f) l = (crcS (cbR f) l, 0) := crcO_y (poly_cb f) l
theorem headL_le (h : Hd) : (headL h).length ≤ 40 := by rw [headL_len]; split <;> omega
theorem r9value_c (hd : Hd) (f : Int) : LP Tryz.prog G 30 [hd.av, iAV f] [] (fun _ => (iAV (crcH f hd), [])) := by
 have h1 := r3sum_c (G := G) (cbR f) (headL hd) (by have := headL_le hd; omega)
 have h0 := r3sum_c (G := G) (cbR f) [] (by decide)
 rw [crcO_cb] at h1 h0
 cases ko : hd.ok with
 | true =>
   rw [show crcH f hd = crcS (cbR f) (headL hd) by unfold crcH headO; rw [if_pos ko]]
   refine goW [] Tryz.func30 rfl ?_
   conv => whnf
   repeat' ((first
     | exact Nm.b 0
     | (show LC _ _ _ _ _ _; first | refine LC.pure (r9size_c _) ?_ | refine LC.own (r5head_c hd ko) ?_ | refine LC.mk' (h1) [_] ⟨LF.eq rfl, LF.rowF InL.here ?_, trivial⟩ ?_ | refine goE ?_)
     | refine T.s ?_
     | ((first | refine goB (fun h => ?_) (fun h => ?_) | refine AB.dec (fun h => ?_) (fun h => ?_) | refine AB.gen (fun h => ?_) (fun h => ?_)) <;> try (exfalso; omega))
     | refine LFresh.mk fun r => ?_
     | (show SQ _ _ _ _ _ _ _; first | refine gX 1 [2, 1] [0, 2, 1, 3, 4, 5, 6, 7, 8, 9] [] ?_)
     | exact T.z
     | fail) <;> conv => whnf)
   all_goals (try dsimp only)
   all_goals first | ((show RL _ _ _; refine goR ?_); rfl) | trace_state
 | false =>
   rw [show crcH f hd = crcS (cbR f) [] by unfold crcH headO; rw [if_neg (by rw [ko]; decide)]]
   refine goW [] Tryz.func30 rfl ?_
   conv => whnf
   repeat' ((first
     | exact Nm.b 0
     | (show LC _ _ _ _ _ _; first | refine LC.pure (r9size_c _) ?_ | refine LC.pure (r5head_n hd ko) ?_ | refine LC.mk' (h0) [] ⟨LF.eq rfl, LF.nils rfl rfl, trivial⟩ ?_ | refine goE ?_)
     | refine T.s ?_
     | ((first | refine goB (fun h => ?_) (fun h => ?_) | refine AB.dec (fun h => ?_) (fun h => ?_) | refine AB.gen (fun h => ?_) (fun h => ?_)) <;> try (exfalso; omega))
     | refine LFresh.mk fun r => ?_
     | (show SQ _ _ _ _ _ _ _; first | refine gX 1 [2, 1] [0, 2, 1, 3, 4, 5, 6, 7, 8, 9] [] ?_)
     | exact T.z
     | fail) <;> conv => whnf)
   all_goals (try dsimp only)
   all_goals first | ((show RL _ _ _; refine goR ?_); rfl) | trace_state
end Go.Proofs.YtkfpgdckdmlhkaaGreatDoor
