/-
  Contracts of the functions that the laws reach.
-/
import Derived.Test.YtkfpgdckdmlhkaaGreatDoorDq01
import Derived.Test.YtkfpgdckdmlhkaaGreatDoorDq02
import Derived.Test.YtkfpgdckdmlhkaaGreatDoorDq03
import Derived.Test.YtkfpgdckdmlhkaaGreatDoorDq04
import Derived.Test.YtkfpgdckdmlhkaaGreatDoorDq05
import Derived.Test.YtkfpgdckdmlhkaaGreatDoorDq06
import Derived.Test.YtkfpgdckdmlhkaaGreatDoorDq07
import Derived.Test.YtkfpgdckdmlhkaaGreatDoorDq08
import Derived.Test.YtkfpgdckdmlhkaaGreatDoorDq10
import Derived.Test.YtkfpgdckdmlhkaaGreatDoorDq14
import Derived.Test.YtkfpgdckdmlhkaaGreatDoorDq15
set_option maxHeartbeats 8000000
set_option linter.all false
namespace Go.Proofs.YtkfpgdckdmlhkaaGreatDoor
open Go.RowKit
variable {G : Nat → AV}
theorem mput2_c (l : List UInt8) (n : Nat) (x : Int) (hl : l.length = n) (hn : n ≤ 100000) (p : Nm) : LP Tryz.prog G 77 [.vw p 0 n 1, iAV 2, iAV x] [(p, ⟨5, l.map bAV⟩)] (fun q => (.vw q 0 (n + 2) 1, [(q, ⟨5, (l ++ qG x 2).map bAV⟩)])) := by
 subst hl
 refine goW [] Tryz.func77 rfl ?_
 conv => whnf
 repeat' ((first | refine T.s ?_ | ((first | apply goB | apply AB.dec | apply AB.gen) <;> intro h <;> try (exfalso; omega)) | refine LQ.mk fun r => ?_ | (show SQ _ _ _ _ _ _ _; first | refine SQ.times 2 3 (by rfl) ?_ | refine AtL.step tQ [] ?_) | exact T.z | refine ⟨_, rfl, rfl, ?_⟩ | fail) <;> conv => whnf)
 all_goals (try dsimp only)
 all_goals
   refine RL.own r rfl ?_ ?_
   · (repeat first | refine goH ?_ | apply LH.here | apply LH.next); trivial
   · apply LB.cons
     (repeat first | refine goH ?_ | apply LH.here | apply LH.next)
     refine And.intro (congrArg (Pl.mk _) ?_) LB.nil
     simp only [qG, List.map_append, List.map_cons, List.map_nil, qT, List.append_assoc, List.cons_append, List.nil_append]
     rfl
theorem mput4_c (l : List UInt8) (n : Nat) (x : Int) (hl : l.length = n) (hn : n ≤ 100000) (p : Nm) : LP Tryz.prog G 77 [.vw p 0 n 1, iAV 4, iAV x] [(p, ⟨5, l.map bAV⟩)] (fun q => (.vw q 0 (n + 4) 1, [(q, ⟨5, (l ++ qG x 4).map bAV⟩)])) := by
 subst hl
 refine goW [] Tryz.func77 rfl ?_
 conv => whnf
 repeat' ((first | refine T.s ?_ | ((first | apply goB | apply AB.dec | apply AB.gen) <;> intro h <;> try (exfalso; omega)) | refine LQ.mk fun r => ?_ | (show SQ _ _ _ _ _ _ _; first | refine SQ.times 2 5 (by rfl) ?_ | refine AtL.step tQ [] ?_) | exact T.z | refine ⟨_, rfl, rfl, ?_⟩ | fail) <;> conv => whnf)
 all_goals (try dsimp only)
 all_goals
   refine RL.own r rfl ?_ ?_
   · (repeat first | refine goH ?_ | apply LH.here | apply LH.next); trivial
   · apply LB.cons
     (repeat first | refine goH ?_ | apply LH.here | apply LH.next)
     refine And.intro (congrArg (Pl.mk _) ?_) LB.nil
     simp only [qG, List.map_append, List.map_cons, List.map_nil, qT, List.append_assoc, List.cons_append, List.nil_append]
     rfl
theorem LC.mput2 {l : LS} {K : AV → LS → Prop} {p : Nm} {n : Nat} {x : Int} (hn : n ≤ 100000) (h : LH l p fun c _ rest => ∃ L : List UInt8, c = ⟨5, L.map bAV⟩ ∧ L.length = n ∧ LQ fun q => K (.vw q 0 (n + 2) 1) ((q, ⟨5, (L ++ qG x 2).map bAV⟩) :: rest)) : LC Tryz.prog G 77 [.vw p 0 n 1, .int .i64 2, .int .i64 x] l K := by
 obtain ⟨l1, c, l2, rfl, L, rfl, h1, h2⟩ := h.ex
 exact LC.take (mput2_c L n x h1 hn p) ⟨l1, _, l2, rfl, rfl, h2⟩
theorem LC.mput4 {l : LS} {K : AV → LS → Prop} {p : Nm} {n : Nat} {x : Int} (hn : n ≤ 100000) (h : LH l p fun c _ rest => ∃ L : List UInt8, c = ⟨5, L.map bAV⟩ ∧ L.length = n ∧ LQ fun q => K (.vw q 0 (n + 4) 1) ((q, ⟨5, (L ++ qG x 4).map bAV⟩) :: rest)) : LC Tryz.prog G 77 [.vw p 0 n 1, .int .i64 4, .int .i64 x] l K := by
 obtain ⟨l1, c, l2, rfl, L, rfl, h1, h2⟩ := h.ex
 exact LC.take (mput4_c L n x h1 hn p) ⟨l1, _, l2, rfl, rfl, h2⟩
def ke (h : Hd) (n : Int) : List UInt8 := [69, b8 h.tos] ++ qG n 2 ++ qG h.id 2 ++ [b8 (q7 .mul .i64 64 h.fx), 0, b8 h.ttl, 17, 0, 0] ++ qG h.fr 4 ++ qG h.to 4
theorem pk20_len (h : Hd) (n : Int) : (ke h n).length = 20 := by simp [ke]
def pkT (h : Hd) : List UInt8 := if h.k = 2 then [128, b8 (q7 .add .i64 (q7 .mul .i64 128 h.mr) h.ty)] ++ qG h.sq 2 ++ qG h.tm 4 ++ qG h.sr 4 else []
def pkN (h : Hd) (pl : List UInt8) : Int := if h.k = 2 then q7 .add .i64 40 pl.length else q7 .add .i64 28 pl.length
def jc (h : Hd) (pl : List UInt8) : List UInt8 :=
 st2 (ke h (pkN h pl)) 10 (csR (ke h (pkN h pl))) ++ qG h.fp 2 ++ qG h.tp 2 ++ qG (q7 .sub .i64 (pkN h pl) 20) 2 ++ qG h.ck 2 ++ pkT h ++ pl
theorem pk_a (t : Int) : [AV.int .u8 69, AV.int .u8 (IntKind.u8.wrap t)] = ([69, b8 t] : List UInt8).map bAV := by
 simp only [List.map_cons, List.map_nil, qT]; rfl
theorem pk_b {L : List UInt8} {n : Nat} (f t : Int) (h : L.length = n) : List.take n (List.drop 0 (L.map bAV)) ++ [AV.int .u8 (IntKind.u8.wrap f), AV.int .u8 0, AV.int .u8 (IntKind.u8.wrap t), AV.int .u8 17, AV.int .u8 0, AV.int .u8 0] = (L ++ [b8 f, 0, b8 t, 17, 0, 0]).map bAV := by
 rw [List.drop_zero, List.take_of_length_le (by simp; omega), List.map_append, ← head_mid]
theorem pk_c {L : List UInt8} {n : Nat} (t : Int) (h : L.length = n) : List.take n (List.drop 0 (L.map bAV)) ++ [AV.int .u8 128, AV.int .u8 (IntKind.u8.wrap t)] = (L ++ [128, b8 t]).map bAV := by
 rw [List.drop_zero, List.take_of_length_le (by simp; omega), List.map_append, ← head_80]
theorem pk_add {c d : Nat} {X : Int} (hX : 0 ≤ X ∧ X ≤ 1000000000) (h : c < 256) (h2 : d < 256) : q7 .add .i64 X (q7 .add .i64 (q7 .mul .i64 256 (IntKind.i64.wrap (c : Int))) (IntKind.i64.wrap (d : Int))) = X + (256 * (c : Int) + (d : Int)) := by
 rw [show IntKind.i64.wrap (c : Int) = c by rw [IntKind.wrap_i64]; omega, show IntKind.i64.wrap (d : Int) = d by rw [IntKind.wrap_i64]; omega]
 have e : q7 .mul .i64 256 (c : Int) = 256 * (c : Int) := by show IntKind.i64.wrap _ = _; rw [IntKind.wrap_i64]; omega
 rw [e]
 (exact T.num)
theorem pk_step {L : List UInt8} (hL : L.length = 20) {j : Nat} (h : 2 * j < 20) : q7 .add .i64 (z9 (L.take (2 * j))) (q7 .add .i64 (q7 .mul .i64 256 (IntKind.i64.wrap ((L.getD (2 * j) 0).toNat : Int))) (IntKind.i64.wrap ((L.getD (2 * j + 1) 0).toNat : Int))) = z9 (L.take (2 * (j + 1))) := by
 have h1 := jp (L.take (2 * j)) 10 (by simp; omega)
 rw [pk_add (by omega) (UInt8.toNat_lt _) (UInt8.toNat_lt _), kY L j (by omega)]
theorem pk_set {L : List UInt8} {F : Int} (hF : 0 ≤ F ∧ F ≤ 65535) : (L.set 10 (b8 (IntKind.i64.wrap ((q7 .sub .i64 65535 F).tdiv 256)))).set 11 (b8 ((q7 .sub .i64 65535 F).tmod 256)) = st2 L 10 (65535 - F) := by
 have e : q7 .sub .i64 65535 F = 65535 - F := by (exact T.num)
 rw [e]
 exact rset_e L 10 (by omega)
theorem RL.bytes {b : List UInt8} {q : Nm} {n : Nat} {l : LS} (h : LH l q fun c _ _ => c.cs = b.map bAV ∧ n = b.length) : RL (fun _ => (bv b, [])) (.vw q 0 n 1) l := by
 obtain ⟨l1, c, l2, rfl, h1, h2⟩ := h.ex
 exact RL.rowF ⟨l1, c, l2, rfl, h1, h2, LB.nil⟩
theorem pk_i1 {j : Nat} (h : j ≤ 10) : 0 + (q7 .add .i64 ((2 * j : Nat) : Int) 1).toNat * 1 = 2 * j + 1 := by
 have e : q7 .add .i64 ((2 * j : Nat) : Int) 1 = ((2 * j + 1 : Nat) : Int) := by (exact T.num)
 rw [e]; omega
theorem pk_i0 (j : Nat) : 0 + ((2 * j : Nat) : Int).toNat * 1 = 2 * j := by omega
theorem pk_all {L : List UInt8} {j : Nat} (hL : L.length = 20) (h : ¬ ((2 * j : Nat) : Int) < 20) : qK (z9 (L.take (2 * j))) = qK (z9 L) := by
 rw [List.take_of_length_le (by omega)]
theorem pk_end {hd : Hd} {pl T : List UInt8} {N y : Int} (hN : pkN hd pl = N) (hT : pkT hd = T) (h1 : ¬ 65535 < y) (h0 : 0 ≤ y) (h : qK y = qK (z9 (ke hd N))) :
   (((ke hd N).set 10 (b8 (IntKind.i64.wrap ((q7 .sub .i64 65535 y).tdiv 256)))).set 11 (b8 ((q7 .sub .i64 65535 y).tmod 256))) ++ qG hd.fp 2 ++ qG hd.tp 2 ++ qG (q7 .sub .i64 N 20) 2 ++ qG hd.ck 2 ++ T ++ pl = jc hd pl := by
 have hy : y = qK (z9 (ke hd N)) := by rw [← h, foldR_id h1 h0]
 rw [pk_set (by omega), hy]
 unfold jc csR
 rw [hN, hT]
theorem pk_0 (L : List UInt8) : (0 : Int) = z9 (L.take (2 * 0)) := wsum_nil.symm
theorem mpacket_1 (hd : Hd) (pl : List UInt8) (hk : hd.k = 1) (hp : pl.length ≤ 100000) : LP Tryz.prog G 32 [hd.av, bv pl] [] (fun _ => (bv (jc hd pl), [])) := by
 have hL := pk20_len hd (q7 .add .i64 28 pl.length)
 have hW := fun j => jp ((ke hd (q7 .add .i64 28 pl.length)).take (2 * j)) 10 (by rw [List.length_take, hL]; omega)
 refine goW [] Tryz.func32 rfl ?_
 conv => whnf
 repeat' ((first | (show LC _ _ _ _ _ _; refine LC.mput2 (by first | omega | (simp; omega)) ?_; (repeat first | refine goH ?_ | apply LH.here | apply LH.next); refine ⟨_, rfl, ?_, ?_⟩; (focus (first | (simp only [List.length_append, List.length_set, hL, putBlen, List.length_nil, List.length_cons]; done) | rfl | (simp; done) | (simp [hL]; done)))) | (show LC _ _ _ _ _ _; refine LC.mput4 (by first | omega | (simp; omega)) ?_; (repeat first | refine goH ?_ | apply LH.here | apply LH.next); refine ⟨_, rfl, ?_, ?_⟩; (focus (first | (simp only [List.length_append, List.length_set, hL, putBlen, List.length_nil, List.length_cons]; done) | rfl | (simp; done) | (simp [hL]; done)))) | exact Nm.b 0 | (show AC _ _ _; first | (refine AC.idx (2 * j + 1) 0 (pk_i1 (by omega)) ?_ ?_; (focus (rw [hL]; omega))) | (refine AC.idx (2 * j) 0 (pk_i0 j) ?_ ?_; (focus (rw [hL]; omega)))) | (show AQ _ _; first | (refine AQ.eq (pk_a _) ?_) | ((with_reducible show AQ (_ ++ [_, _, _, _, _, _]) _); refine AQ.eq (pk_b _ _ ?_) ?_; (focus rfl)) | ((with_reducible show AQ (_ ++ [_, _]) _); refine AQ.eq (pk_c _ ?_) ?_; (focus (first | (simp only [List.length_append, List.length_set, hL, putBlen, List.length_nil, List.length_cons]; done) | rfl)))) | refine T.s ?_ | ((first | apply goB | apply AB.dec | apply AB.gen) <;> intro h <;> try (exfalso; omega)) | refine LQ.mk fun r => ?_ | (show SQ _ _ _ (.loop _) _ _ _; first | (apply goO tQ [] 10 (S := Nat × Nm × Nm) [1, 6] (fun (j, b, q) => ⟨[(8, .int .i64 ((2 * j : Nat) : Int)), (7, .int .i64 (z9 ((ke hd (q7 .add .i64 28 pl.length)).take (2 * j)))), (2, .ptr b 0), (5, .vw q 0 20 1)], [(b, ⟨65, hd.cs⟩), (q, ⟨5, (ke hd (q7 .add .i64 28 pl.length)).map bAV⟩)], j ≤ 10, 10 - j⟩) ((0, _, _)) (by rfl); (focus (all_goals (try exact K205); done)); rintro ⟨j, b, q⟩ hok; (try dsimp only at hok)) | (apply goO tQ [] 13 (S := Int × Nm × Nm) [1, 6] (fun (y, b, q) => ⟨[(7, .int .i64 y), (2, .ptr b 0), (5, .vw q 0 20 1)], [(b, ⟨65, hd.cs⟩), (q, ⟨5, (ke hd (q7 .add .i64 28 pl.length)).map bAV⟩)], 0 ≤ y ∧ y ≤ 1000000000 ∧ qK y = qK (z9 (ke hd (q7 .add .i64 28 pl.length))), y.toNat⟩) ((z9 ((ke hd (q7 .add .i64 28 pl.length)).take (2 * j)), _, _)) (by rfl); (focus (all_goals (try exact K205); done)); rintro ⟨y, b, q⟩ ⟨hk, hk, hok⟩)) | (show SQ _ _ _ _ _ _ _; first | (apply goD tQ qb 5 [4, 2] [0, 1, 3, 4, 2, 5, 6] [_] (by kernel_rfl)) | (refine goD tQ qb 5 [4, 2] [0, 1, 3, 4, 2, 5, 6] [] (by kernel_rfl) ?_) | (apply goD tQ qb 7 [5, 3] [0, 1, 2, 4, 5, 3, 6, 7] [_] (by kernel_rfl)) | (refine goD tQ qb 7 [5, 3] [0, 1, 2, 4, 5, 3, 6, 7] [] (by kernel_rfl) ?_) | (refine goD tQ qb 12 [] [0, 1, 2, 3, 4, 5, 6, 7, 8, 9, 10, 11, 12, 13, 14, 15] [] (by kernel_rfl) ?_) | (apply goD tQ qb 16 [5, 3] [0, 1, 2, 4, 5, 3, 6, 7] [_] (by kernel_rfl)) | (refine goD tQ qb 16 [5, 3] [0, 1, 2, 4, 5, 3, 6, 7] [] (by kernel_rfl) ?_) | (apply goD tQ qb 17 [5, 3] [0, 1, 2, 4, 5, 3, 6, 7] [_] (by kernel_rfl)) | (refine goD tQ qb 17 [5, 3] [0, 1, 2, 4, 5, 3, 6, 7] [] (by kernel_rfl) ?_) | (apply goD tQ qb 20 [5, 8, 3, 6] [0, 1, 2, 4, 5, 7, 8, 3, 6, 9, 10] [_] (by kernel_rfl)) | (refine goD tQ qb 20 [5, 8, 3, 6] [0, 1, 2, 4, 5, 7, 8, 3, 6, 9, 10] [] (by kernel_rfl) ?_)) | (show AtL _ _ _ _ _ _ _ _ _ _; first | (apply AtL.mk' (id := 10) (S := Nat × Nm × Nm) ((j + 1, _, _)); all_goals (try exact K205); done) | (apply AtL.mk' (id := 13) (S := Int × Nm × Nm) ((fnx y, _, _)); all_goals (try exact K205); done) | (apply AtL.mk' (id := 10) (S := Nat × Nm × Nm) ((j + 1, _, _)); all_goals (try exact K205)) | (apply AtL.mk' (id := 13) (S := Int × Nm × Nm) ((fnx y, _, _)); all_goals (try exact K205))) | exact T.z | refine ⟨_, rfl, rfl, ?_⟩ | fail) <;> try (show (_ : Prop); conv => whnf))
 all_goals (try dsimp only)
 all_goals
   have hN : pkN hd pl = q7 .add .i64 28 pl.length := if_neg (by omega)
   have hT : pkT hd = _ := if_neg (by omega)
   rw [← pk_end (hd := hd) (pl := pl) hN hT (by assumption) (by assumption) (by assumption)]
   refine RL.bytes ?_
   (repeat first | refine goH ?_ | apply LH.here | apply LH.next)
   refine ⟨?_, ?_⟩
   · simp only [show 0 + Int.toNat 10 * 1 = 10 from rfl, show 0 + Int.toNat 11 * 1 = 11 from rfl, List.map_append, List.append_nil, List.append_assoc, List.map_cons, List.map_nil, List.cons_append, List.nil_append]
   · simp only [List.length_append, List.length_set, hL, putBlen, List.length_nil, List.length_cons, Nat.add_zero]
theorem mpacket_2 (hd : Hd) (pl : List UInt8) (hK : hd.k = 2) (hp : pl.length ≤ 100000) : LP Tryz.prog G 32 [hd.av, bv pl] [] (fun _ => (bv (jc hd pl), [])) := by
 have hL := pk20_len hd (q7 .add .i64 40 pl.length)
 have hW := fun j => jp ((ke hd (q7 .add .i64 40 pl.length)).take (2 * j)) 10 (by rw [List.length_take, hL]; omega)
 refine goW [] Tryz.func32 rfl ?_
 conv => whnf
 repeat' ((first | (show LC _ _ _ _ _ _; refine LC.mput2 (by first | omega | (simp; omega)) ?_; (repeat first | refine goH ?_ | apply LH.here | apply LH.next); refine ⟨_, rfl, ?_, ?_⟩; (focus (first | (simp only [List.length_append, List.length_set, hL, putBlen, List.length_nil, List.length_cons]; done) | rfl | (simp; done) | (simp [hL]; done)))) | (show LC _ _ _ _ _ _; refine LC.mput4 (by first | omega | (simp; omega)) ?_; (repeat first | refine goH ?_ | apply LH.here | apply LH.next); refine ⟨_, rfl, ?_, ?_⟩; (focus (first | (simp only [List.length_append, List.length_set, hL, putBlen, List.length_nil, List.length_cons]; done) | rfl | (simp; done) | (simp [hL]; done)))) | exact Nm.b 0 | (show AC _ _ _; first | (refine AC.idx (2 * j + 1) 0 (pk_i1 (by omega)) ?_ ?_; (focus (rw [hL]; omega))) | (refine AC.idx (2 * j) 0 (pk_i0 j) ?_ ?_; (focus (rw [hL]; omega)))) | (show AQ _ _; first | (refine AQ.eq (pk_a _) ?_) | ((with_reducible show AQ (_ ++ [_, _, _, _, _, _]) _); refine AQ.eq (pk_b _ _ ?_) ?_; (focus rfl)) | ((with_reducible show AQ (_ ++ [_, _]) _); refine AQ.eq (pk_c _ ?_) ?_; (focus (first | (simp only [List.length_append, List.length_set, hL, putBlen, List.length_nil, List.length_cons]; done) | rfl)))) | refine T.s ?_ | ((first | apply goB | apply AB.dec | apply AB.gen) <;> intro h <;> try (exfalso; omega)) | refine LQ.mk fun r => ?_ | (show SQ _ _ _ (.loop _) _ _ _; first | (apply goO tQ [] 10 (S := Nat × Nm × Nm) [1, 6] (fun (j, b, q) => ⟨[(8, .int .i64 ((2 * j : Nat) : Int)), (7, .int .i64 (z9 ((ke hd (q7 .add .i64 40 pl.length)).take (2 * j)))), (2, .ptr b 0), (5, .vw q 0 20 1)], [(b, ⟨65, hd.cs⟩), (q, ⟨5, (ke hd (q7 .add .i64 40 pl.length)).map bAV⟩)], j ≤ 10, 10 - j⟩) ((0, _, _)) (by rfl); (focus (all_goals (try exact K205); done)); rintro ⟨j, b, q⟩ hok; (try dsimp only at hok)) | (apply goO tQ [] 13 (S := Int × Nm × Nm) [1, 6] (fun (y, b, q) => ⟨[(7, .int .i64 y), (2, .ptr b 0), (5, .vw q 0 20 1)], [(b, ⟨65, hd.cs⟩), (q, ⟨5, (ke hd (q7 .add .i64 40 pl.length)).map bAV⟩)], 0 ≤ y ∧ y ≤ 1000000000 ∧ qK y = qK (z9 (ke hd (q7 .add .i64 40 pl.length))), y.toNat⟩) ((z9 ((ke hd (q7 .add .i64 40 pl.length)).take (2 * j)), _, _)) (by rfl); (focus (all_goals (try exact K205); done)); rintro ⟨y, b, q⟩ ⟨hk, hk, hok⟩)) | (show SQ _ _ _ _ _ _ _; first | (apply goD tQ qb 5 [4, 2] [0, 1, 3, 4, 2, 5, 6] [_] (by kernel_rfl)) | (refine goD tQ qb 5 [4, 2] [0, 1, 3, 4, 2, 5, 6] [] (by kernel_rfl) ?_) | (apply goD tQ qb 7 [5, 3] [0, 1, 2, 4, 5, 3, 6, 7] [_] (by kernel_rfl)) | (refine goD tQ qb 7 [5, 3] [0, 1, 2, 4, 5, 3, 6, 7] [] (by kernel_rfl) ?_) | (refine goD tQ qb 12 [] [0, 1, 2, 3, 4, 5, 6, 7, 8, 9, 10, 11, 12, 13, 14, 15] [] (by kernel_rfl) ?_) | (apply goD tQ qb 16 [5, 3] [0, 1, 2, 4, 5, 3, 6, 7] [_] (by kernel_rfl)) | (refine goD tQ qb 16 [5, 3] [0, 1, 2, 4, 5, 3, 6, 7] [] (by kernel_rfl) ?_) | (apply goD tQ qb 17 [5, 3] [0, 1, 2, 4, 5, 3, 6, 7] [_] (by kernel_rfl)) | (refine goD tQ qb 17 [5, 3] [0, 1, 2, 4, 5, 3, 6, 7] [] (by kernel_rfl) ?_) | (apply goD tQ qb 20 [5, 8, 3, 6] [0, 1, 2, 4, 5, 7, 8, 3, 6, 9, 10] [_] (by kernel_rfl)) | (refine goD tQ qb 20 [5, 8, 3, 6] [0, 1, 2, 4, 5, 7, 8, 3, 6, 9, 10] [] (by kernel_rfl) ?_)) | (show AtL _ _ _ _ _ _ _ _ _ _; first | (apply AtL.mk' (id := 10) (S := Nat × Nm × Nm) ((j + 1, _, _)); all_goals (try exact K205); done) | (apply AtL.mk' (id := 13) (S := Int × Nm × Nm) ((fnx y, _, _)); all_goals (try exact K205); done) | (apply AtL.mk' (id := 10) (S := Nat × Nm × Nm) ((j + 1, _, _)); all_goals (try exact K205)) | (apply AtL.mk' (id := 13) (S := Int × Nm × Nm) ((fnx y, _, _)); all_goals (try exact K205))) | exact T.z | refine ⟨_, rfl, rfl, ?_⟩ | fail) <;> try (show (_ : Prop); conv => whnf))
 all_goals (try dsimp only)
 all_goals
   have hN : pkN hd pl = q7 .add .i64 40 pl.length := if_pos hK
   have hT : pkT hd = _ := if_pos hK
   rw [← pk_end (hd := hd) (pl := pl) hN hT (by assumption) (by assumption) (by assumption)]
   refine RL.bytes ?_
   (repeat first | refine goH ?_ | apply LH.here | apply LH.next)
   refine ⟨?_, ?_⟩
   · simp only [show 0 + Int.toNat 10 * 1 = 10 from rfl, show 0 + Int.toNat 11 * 1 = 11 from rfl, List.map_append, List.append_nil, List.append_assoc, List.map_cons, List.map_nil, List.cons_append, List.nil_append]
   · simp only [List.length_append, List.length_set, hL, putBlen, List.length_nil, List.length_cons, Nat.add_zero]
theorem vf (hd : Hd) (pl : List UInt8) (hk : hd.k = 1 ∨ hd.k = 2) (hp : pl.length ≤ 100000) : LP Tryz.prog G 32 [hd.av, bv pl] [] (fun _ => (bv (jc hd pl), [])) := by
 rcases hk with hk | hk
 · exact mpacket_1 hd pl hk hp
 · exact mpacket_2 hd pl hk hp
end Go.Proofs.YtkfpgdckdmlhkaaGreatDoor
