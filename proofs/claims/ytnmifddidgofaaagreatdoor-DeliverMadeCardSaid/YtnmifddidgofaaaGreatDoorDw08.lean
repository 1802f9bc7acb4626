/-
  Contracts of the functions that the laws reach.
-/
import Derived.Test.YtnmifddidgofaaaGreatDoorDw01
import Derived.Test.YtnmifddidgofaaaGreatDoorDw02
import Derived.Test.YtnmifddidgofaaaGreatDoorDw03
import Derived.Test.YtnmifddidgofaaaGreatDoorDw04
import Derived.Test.YtnmifddidgofaaaGreatDoorDw05
import Derived.Test.YtnmifddidgofaaaGreatDoorDw06
import Derived.Test.YtnmifddidgofaaaGreatDoorDw07
set_option maxHeartbeats 16000000
set_option linter.all false
namespace Go.Proofs.YtnmifddidgofaaaGreatDoor
open Go.RowKit
variable {G : Nat → AV}
structure Hl where
 c : Int
 d : List UInt8
def Hl.z : Hl := ⟨0, []⟩
def Hl.cs (h : Hl) : List AV := [iAV h.c, bv h.d]
theorem Hl.cs_len (h : Hl) : h.cs.length = 2 := rfl
structure In where
 b : Int
 k : Ky
 f : Int
 n : Int
 m : Int
 l : Int
 t : Int
 h : List Hl
def hlv (l : List Hl) : AV := .sl l.length (l.flatMap Hl.cs)
def In.cs (i : In) : List AV := [iAV i.b, bv i.k.s, bv i.k.g, iAV i.k.n, iAV i.k.b, iAV i.k.d, iAV i.f, iAV i.n, iAV i.m, iAV i.l, iAV i.t, hlv i.h]
def In.av (i : In) : AV := .agg i.cs
def lastC (b : Int) (l : List Hl) : Nat → Int
 | 0 => b
 | k + 1 => (l.getD k Hl.z).c
def hlOk (n b : Int) (h : Hl) : Bool := decide (b < h.c ∧ h.c < n ∧ 1 ≤ h.d.length ∧ h.d.length ≤ 2048)
def hldTo (i : In) (k : Nat) : Bool := (List.range k).all fun j => hlOk i.n (lastC i.f i.h j) (i.h.getD j Hl.z)
def heldOk (i : In) : Bool := hldTo i i.h.length && (if i.f < i.n then decide (lastC i.f i.h i.h.length = iarith .sub .i64 i.n 1 ∧ 0 < i.h.length) else decide (i.h.length = 0))
theorem hldTo_succ (i : In) (k : Nat) : hldTo i (k + 1) = (hldTo i k && hlOk i.n (lastC i.f i.h k) (i.h.getD k Hl.z)) := by
 unfold hldTo
 rw [List.range_succ, List.all_append]
 simp
theorem hldTo_no {i : In} {k : Nat} (hk : k < i.h.length) (h : hlOk i.n (lastC i.f i.h k) (i.h.getD k Hl.z) = false) : heldOk i = false := by
 unfold heldOk
 have : hldTo i i.h.length = false := by
   unfold hldTo
   rw [List.all_eq_false]
   exact ⟨k, List.mem_range.2 hk, by rw [h]; simp⟩
 rw [this]; rfl
theorem hldTo_yes {i : In} {k : Nat} (h : hldTo i k = true) (h1 : ¬ (i.h.getD k Hl.z).c ≤ lastC i.f i.h k) (h2 : ¬ i.n ≤ (i.h.getD k Hl.z).c) (h3 : ¬ ((i.h.getD k Hl.z).d.length : Int) < 1) (h4 : ¬ 2048 < ((i.h.getD k Hl.z).d.length : Int)) : hldTo i (k + 1) = true := by
 rw [hldTo_succ, h]
 simp only [hlOk, Bool.true_and, decide_eq_true_eq]
 omega
theorem hldTo_bad {i : In} {k : Nat} (hk : (k : Int) < (i.h.length : Int)) (h : (i.h.getD k Hl.z).c ≤ lastC i.f i.h k ∨ i.n ≤ (i.h.getD k Hl.z).c ∨ ((i.h.getD k Hl.z).d.length : Int) < 1 ∨ 2048 < ((i.h.getD k Hl.z).d.length : Int)) : AV.bool false = AV.bool (heldOk i) := by
 refine congrArg AV.bool (hldTo_no (k := k) (by omega) ?_).symm
 simp only [hlOk, decide_eq_false_iff_not]
 omega
theorem held_end {i : In} {k : Nat} (hk : k ≤ i.h.length) (hn : ¬ (k : Int) < (i.h.length : Int)) (h : hldTo i k = true) : heldOk i = (if i.f < i.n then decide (lastC i.f i.h k = iarith .sub .i64 i.n 1 ∧ 0 < i.h.length) else decide (i.h.length = 0)) := by
 obtain rfl : k = i.h.length := by omega
 unfold heldOk
 rw [h]
 rfl
attribute [local irreducible] hldTo hlOk heldOk
theorem EDel1_1 {p : Prop} (h : p := by (repeat' first | exact trivial | (refine And.intro ?_ ?_) | exact LSub.nil | (with_reducible exact LSub.refl) | (apply LSub.cons; (repeat first | refine goH ?_ | apply LHas.here | apply LHas.next); refine And.intro ?_ ?_; (focus (try (first | (with_reducible rfl) | (refine congrArg (Pl.mk _) ?_; (first | rfl | (simp; done))) | rfl | (with_reducible refine congrArg (Pl.mk _) ?_))))) | (with_reducible assumption) | (exact h0) | (exact hldTo_yes (by assumption) (by assumption) (by assumption) (by assumption) (by assumption)) | (show (_ : AV) = _; (first | (focus (apply Eq.trans; (conv => lhs; whnf); (conv => rhs; whnf); done)) | rfl | ((conv => lhs; whnf); first | rfl | (refine congrArg (AV.int _) ?_; (exact T.num)) | (refine congrArg AV.bool ?_; (exact T.num)) | (refine vw_congr ?_; first | (exact T.num) | (first | rfl | (simp; done))) | (refine sl_congr ?_ ?_ <;> first | (exact T.num) | (first | rfl | (simp; done))) | (first | rfl | (simp; done))))) | ((with_reducible first | (show (_ : Int) ≤ _) | (show (_ : Int) < _) | (show (_ : Nat) ≤ _) | (show (_ : Nat) < _) | (show (_ : Int) = _) | (show (_ : Nat) = _)); (exact T.num)) | (first | rfl | (simp; done))); first | done | fail) : p := h
theorem dheld_c (i : In) (hl : i.h.length ≤ 100000) : LSpec Tryz.prog G 62 [i.av] [] (fun _ => (.bool (heldOk i), [])) := by
 have h0 : hldTo i 0 = true := by with_unfolding_all rfl
 refine goW [] Tryz.func62 rfl ?_
 conv => whnf
 repeat' ((first | (refine And.intro ?_ ?_; (focus (first | (show _ ≤ (List.drop _ (List.flatMap Hl.cs _)).length; rw [List.length_drop, fm_len Hl.cs_len]; (try dsimp only); omega) | exact T.kx | exact T.side))) | (show ACell _ _ _; first | (refine ACell.recd Hl.cs_len k Hl.z rfl rfl ?_ ?_; (focus omega))) | refine T.s ?_ | ((first | apply goB | apply ABr.dec | apply ABr.gen) <;> intro h <;> try (exfalso; omega)) | refine LFresh.mk fun r => ?_ | (show SWpL _ _ _ (.loop _) _ _ _; first | (apply goO tyOk [] 3 (S := Nat × Nm) [] (fun (k, q) => ⟨[(1, .ptr q 0), (9, hlv i.h), (10, .int .i64 i.h.length), (3, .int .i64 (lastC i.f i.h k)), (11, .int .i64 k)], [(q, ⟨32, i.cs⟩)], k ≤ i.h.length ∧ hldTo i k = true, i.h.length - k⟩) ((0, _)) (by rfl); (focus ((repeat' first | exact trivial | (refine And.intro ?_ ?_) | exact LSub.nil | (with_reducible exact LSub.refl) | (apply LSub.cons; (repeat first | refine goH ?_ | apply LHas.here | apply LHas.next); refine And.intro ?_ ?_; (focus (try (first | (with_reducible rfl) | (refine congrArg (Pl.mk _) ?_; (first | rfl | (simp; done))) | rfl | (with_reducible refine congrArg (Pl.mk _) ?_))))) | assumption | (exact h0) | (exact hldTo_yes (by assumption) (by assumption) (by assumption) (by assumption) (by assumption)) | (first | (focus (apply Eq.trans; (conv => lhs; whnf); (conv => rhs; whnf); done)) | rfl | ((conv => lhs; whnf); first | rfl | (refine congrArg (AV.int _) ?_; (exact T.num)) | (refine congrArg AV.bool ?_; (exact T.num)) | (refine vw_congr ?_; first | (exact T.num) | (first | rfl | (simp; done))) | (refine sl_congr ?_ ?_ <;> first | (exact T.num) | (first | rfl | (simp; done))) | (first | rfl | (simp; done)))) | (exact T.num) | (dsimp only; (exact T.num)) | (first | rfl | (simp; done))); done)); rintro ⟨k, q⟩ ⟨hk, hok⟩)) | (show AtL 3 _ _ _ _ _ _ _ _ _; first | (apply AtL.mk' (id := 3) (S := Nat × Nm) ((k + 1, _)); focus (refine T.a5 ?_ ?_ ?_ ?_ <;> exact EDel1_1))) | exact T.z | fail) <;> conv => whnf)
 all_goals (try dsimp only)
 all_goals
   (show RetL _ _ _; refine goR ?_)
   first
     | exact hldTo_bad (by assumption) (.inl (by assumption))
     | exact hldTo_bad (by assumption) (.inr (.inl (by assumption)))
     | exact hldTo_bad (by assumption) (.inr (.inr (.inl (by assumption))))
     | exact hldTo_bad (by assumption) (.inr (.inr (.inr (by assumption))))
     | (rw [held_end (by assumption) (by assumption) (by assumption)]; refine congrArg AV.bool ?_; rw [Bool.eq_iff_iff]; simp [icmp, *]; done)
     | (rw [held_end (by assumption) (by assumption) (by assumption)]; refine congrArg AV.bool ?_; rw [Bool.eq_iff_iff]; simp [icmp, *] <;> omega)
     | trace_state
end Go.Proofs.YtnmifddidgofaaaGreatDoor
namespace Go.Proofs.YtnmifddidgofaaaGreatDoor
open Go.RowKit
variable {G : Nat → AV}
def winR (b : Int) : Int := IntKind.i64.wrap (1 * 2 ^ min (iarith .sub .i64 b 1).toNat IntKind.i64.bits)
def In.ok (i : In) : Bool := bitsOk i.b && (i.k.ok && (decide (0 ≤ i.f ∧ i.f ≤ 1048576 ∧ i.f ≤ i.n ∧ i.n ≤ iarith .add .i64 i.f (winR i.b) ∧ i.n ≤ 1048576 ∧ 0 ≤ i.t ∧ i.t ≤ 1000 ∧ 0 ≤ i.l ∧ i.l ≤ i.t) && (if 0 < i.l then decide (i.f < i.m ∧ i.m ≤ i.n) && heldOk i else decide (i.m = 0) && heldOk i)))
attribute [local irreducible] heldOk
theorem dvalid_c (i : In) (hl : i.h.length ≤ 100000) : LSpec Tryz.prog G 31 [i.av] [] (fun _ => (.bool i.ok, [])) := by
 have hh := dheld_c (G := G) i hl
 have hb := cbits_c (G := G) i.b
 have hv := cvalid_c (G := G) i.k
 obtain ⟨B, hB⟩ : ∃ B, bitsOk i.b = B := ⟨_, rfl⟩
 obtain ⟨K, hK⟩ : ∃ K, i.k.ok = K := ⟨_, rfl⟩
 obtain ⟨H, hH⟩ : ∃ H, heldOk i = H := ⟨_, rfl⟩
 have hok : i.ok = (B && (K && (decide (0 ≤ i.f ∧ i.f ≤ 1048576 ∧ i.f ≤ i.n ∧ i.n ≤ iarith .add .i64 i.f (winR i.b) ∧ i.n ≤ 1048576 ∧ 0 ≤ i.t ∧ i.t ≤ 1000 ∧ 0 ≤ i.l ∧ i.l ≤ i.t) && (if 0 < i.l then decide (i.f < i.m ∧ i.m ≤ i.n) && H else decide (i.m = 0) && H)))) := by
   rw [← hB, ← hK, ← hH]; rfl
 rw [hB] at hb; rw [hK] at hv; rw [hH] at hh; rw [hok]
 have hb2 : B = true → 5 ≤ i.b ∧ i.b ≤ 9 := fun h => by rw [← hB] at h; with_unfolding_all exact of_decide_eq_true h
 clear hok
 cases B with
 | false =>
   refine goW [] Tryz.func31 rfl ?_
   conv => whnf
   repeat' ((first | exact Nm.b 0 | (show LCall _ _ _ _ _ _; first | refine LCall.pure (hh) ?_ | refine LCall.pure (hb) ?_ | refine LCall.pure (hv) ?_ | refine goE ?_) | refine T.s ?_ | ((first | apply goB | apply ABr.dec | apply ABr.gen) <;> intro h) | refine LFresh.mk fun r => ?_ | (show SWpL _ _ _ _ _ _ _; first | refine gX 3 [] [0, 1, 2, 3, 4, 5, 6, 7, 8, 9, 10, 11, 12, 13, 14, 15, 16, 17, 18, 19, 20, 21] [] ?_) | exact T.z | fail) <;> conv => whnf)
   all_goals (try dsimp only)
   all_goals first | ((show RetL _ _ _; refine goR ?_); rfl) | ((show RetL _ _ _; refine goR ?_); simp [icmp, *]; done) | trace_state
 | true =>
   obtain ⟨hb5, hb9⟩ := hb2 rfl
   cases K <;> cases H
   all_goals
     refine goW [] Tryz.func31 rfl ?_
     conv => whnf
     repeat' ((first | exact Nm.b 0 | (show LCall _ _ _ _ _ _; first | refine LCall.pure (hh) ?_ | refine LCall.pure (hb) ?_ | refine LCall.pure (hv) ?_ | refine goE ?_) | refine T.s ?_ | ((first | apply goB | apply ABr.dec | apply ABr.gen) <;> intro h <;> try (exfalso; omega)) | refine LFresh.mk fun r => ?_ | (show SWpL _ _ _ _ _ _ _; first | refine gX 3 [] [0, 1, 2, 3, 4, 5, 6, 7, 8, 9, 10, 11, 12, 13, 14, 15, 16, 17, 18, 19, 20, 21] [] ?_) | exact T.z | fail) <;> conv => whnf)
     all_goals (try dsimp only)
     all_goals
       (show RetL _ _ _; refine goR ?_)
       refine congrArg AV.bool ?_
       unfold winR
       generalize iarith .add .i64 i.f (IntKind.i64.wrap (1 * 2 ^ min (iarith .sub .i64 i.b 1).toNat IntKind.i64.bits)) = W at *
       rw [Bool.eq_iff_iff]
       first
         | (simp [icmp, *]; done)
         | (simp [icmp, *] <;> omega)
         | (by_cases hl0 : 0 < i.l <;> simp [icmp, hl0] <;> omega)
         | trace_state
end Go.Proofs.YtnmifddidgofaaaGreatDoor
namespace Go.Proofs.YtnmifddidgofaaaGreatDoor
open Go.RowKit
variable {G : Nat → AV}
def sdC (i : In) (hd out : AV) : List AV := [iAV i.b, bv i.k.s, bv i.k.g, iAV i.k.n, iAV i.k.b, iAV i.k.d, iAV i.f, iAV i.n, iAV i.m, iAV i.l, iAV i.t, hd, out]
theorem dwant_c (c : Int) (b s : Nm) (i : In) (hd out : AV) (hn : [b, s].Nodup) : LSpec Tryz.prog G 77 [iAV c, .ptr b 0] [(b, ⟨65, [.ptr s 0]⟩), (s, ⟨67, sdC i hd out⟩)] (fun _ => (.bool (decide (c = i.f)), [(b, ⟨65, [.ptr s 0]⟩), (s, ⟨67, sdC i hd out⟩)])) := by
 have hbs : ¬ b = s := by simpa using hn
 refine goW [] Tryz.func77 rfl ?_
 conv => whnf
 repeat' ((first | refine T.s ?_ | ((first | apply goB | apply ABr.dec | apply ABr.gen) <;> intro h <;> try (exfalso; omega)) | refine LFresh.mk fun r => ?_ | exact T.z | fail) <;> conv => whnf)
 all_goals (try dsimp only)
 all_goals first | ((show RetL _ _ _; refine goR ?_); rfl) | ((show RetL _ _ _; refine goR ?_); simp [icmp]; done) | trace_state
theorem dwantT_c (c : Int) (b s : Nm) (i : In) (hd out : AV) (hn : [b, s].Nodup) : LSpec Tryz.prog G 83 [iAV c, .ptr b 0] [(b, ⟨65, [.ptr s 0]⟩), (s, ⟨67, sdC i hd out⟩)] (fun _ => (.bool (decide (c < i.m)), [(b, ⟨65, [.ptr s 0]⟩), (s, ⟨67, sdC i hd out⟩)])) := by
 have hbs : ¬ b = s := by simpa using hn
 refine goW [] Tryz.func83 rfl ?_
 conv => whnf
 repeat' ((first | refine T.s ?_ | ((first | apply goB | apply ABr.dec | apply ABr.gen) <;> intro h <;> try (exfalso; omega)) | refine LFresh.mk fun r => ?_ | exact T.z | fail) <;> conv => whnf)
 all_goals (try dsimp only)
 all_goals first | ((show RetL _ _ _; refine goR ?_); rfl) | ((show RetL _ _ _; refine goR ?_); simp [icmp]; done) | trace_state
theorem dfind1_c (h : Hl) (n : Int) : LSpec Tryz.prog G 73 [.agg h.cs, iAV n] [] (fun _ => (iAV (iarith .sub .i64 h.c n), [])) := by
 refine goW [] Tryz.func73 rfl ?_
 conv => whnf
 repeat' ((first | refine T.s ?_ | ((first | apply goB | apply ABr.dec | apply ABr.gen) <;> intro h <;> try (exfalso; omega)) | refine LFresh.mk fun r => ?_ | exact T.z | fail) <;> conv => whnf)
 all_goals (try dsimp only)
 all_goals first | ((show RetL _ _ _; refine goR ?_); rfl) | ((show RetL _ _ _; refine goR ?_); simp [icmp]; done) | trace_state
open Go.RowKit
variable {G : Nat → AV}
theorem hls_one (l : List Hl) : ((l.flatMap Hl.cs).all AV.one) = true := by
 induction l with
 | nil => rfl
 | cons x l ih => rw [List.flatMap_cons, List.all_append, ih]; rfl
theorem hls_len (l : List Hl) : (l.flatMap Hl.cs).length = l.length * 2 := fm_len Hl.cs_len l
def insL (l : List Hl) (i : Nat) (h : Hl) : List Hl := l.take i ++ h :: l.drop i
theorem ins_shift (l : List Hl) (i : Nat) (hi : i < l.length) (j1 m1 m2 j2 : Nat) (e1 : j1 = i * 2) (e2 : m1 = (l.length + 1 - i) * 2) (e3 : m2 = (l.length - i) * 2) (e4 : j2 = (i + 1) * 2) : splice (l.flatMap Hl.cs ++ [.any, .any]) j2 (List.take m2 (List.take m1 (List.drop j1 (l.flatMap Hl.cs ++ [.any, .any])))) = (l.take (i + 1) ++ l.drop i).flatMap Hl.cs := by
 subst e1 e2 e3 e4
 have hl := hls_len l
 have h1 : List.drop (i * 2) (l.flatMap Hl.cs ++ [.any, .any]) = (l.drop i).flatMap Hl.cs ++ [.any, .any] := by
   rw [List.drop_append_of_le_length (by omega), fm_drop Hl.cs_len]
 have h2 : List.take ((l.length - i) * 2) (List.take ((l.length + 1 - i) * 2) (List.drop (i * 2) (l.flatMap Hl.cs ++ [.any, .any]))) = (l.drop i).flatMap Hl.cs := by
   rw [List.take_take, Nat.min_eq_left (by omega), h1, List.take_append_of_le_length (by rw [hls_len, List.length_drop]; omega), List.take_of_length_le (by rw [hls_len, List.length_drop]; omega)]
 have h3 : List.take ((i + 1) * 2) (l.flatMap Hl.cs ++ [.any, .any]) = (l.take (i + 1)).flatMap Hl.cs := by
   rw [List.take_append_of_le_length (by omega), fm_take Hl.cs_len]
 unfold splice
 rw [h2, h3]
 have h4 : List.drop ((i + 1) * 2 + ((l.drop i).flatMap Hl.cs).length) (l.flatMap Hl.cs ++ [.any, .any]) = [] := List.drop_eq_nil_of_le (by rw [hls_len, List.length_drop, List.length_append, hl]; simp; omega)
 rw [h4, List.append_nil, List.flatMap_append]
theorem ins_src (l : List Hl) (i : Nat) (hi : i < l.length) (j1 m1 m2 : Nat) (e1 : j1 = i * 2) (e2 : m1 = (l.length + 1 - i) * 2) (e3 : m2 = (l.length - i) * 2) : (((List.take m2 (List.take m1 (List.drop j1 (l.flatMap Hl.cs ++ [.any, .any])))).all AV.one)) = true := by
 subst e1 e2 e3
 have hl := hls_len l
 have h1 : List.drop (i * 2) (l.flatMap Hl.cs ++ [.any, .any]) = (l.drop i).flatMap Hl.cs ++ [.any, .any] := by
   rw [List.drop_append_of_le_length (by omega), fm_drop Hl.cs_len]
 rw [List.take_take, Nat.min_eq_left (by omega), h1, List.take_append_of_le_length (by rw [hls_len, List.length_drop]; omega), List.take_of_length_le (by rw [hls_len, List.length_drop]; omega)]
 exact hls_one _
theorem ins_put (l : List Hl) (i : Nat) (hi : i < l.length) (h : Hl) (j : Nat) (xs : List AV) (e : j = i * 2) (hx : xs = h.cs) : splice ((l.take (i + 1) ++ l.drop i).flatMap Hl.cs) j xs = (insL l i h).flatMap Hl.cs := by
 subst e hx
 have hl := hls_len (l.take i)
 rw [List.length_take, Nat.min_eq_left (by omega)] at hl
 have h1 : l.take (i + 1) ++ l.drop i = l.take i ++ l.getD i Hl.z :: l.drop i := by
   rw [List.take_succ, List.getD_eq_getElem?_getD, List.append_assoc]
   simp [List.getElem?_eq_getElem hi]
 rw [h1]
 unfold splice insL
 simp only [List.flatMap_append, List.flatMap_cons]
 rw [List.take_append_of_le_length (by omega), List.take_of_length_le (by omega), List.drop_append, List.drop_eq_nil_of_le (by rw [Hl.cs_len]; omega), Hl.cs_len]
 rw [show i * 2 + 2 - (List.flatMap Hl.cs (List.take i l)).length = 2 by omega]
 simp [Hl.cs]
theorem ins_end (l : List Hl) (h : Hl) (m : Nat) (e : m = l.length * 2) : List.take m (List.drop 0 (l.flatMap Hl.cs)) ++ h.cs = (insL l l.length h).flatMap Hl.cs := by
 subst e
 unfold insL
 rw [List.drop_zero, List.take_of_length_le (by rw [hls_len]; omega), List.take_length, List.drop_length, List.flatMap_append]
 simp [Hl.cs]
theorem nmin (a b : Nat) : Nat.min a b = if a ≤ b then a else b := Nat.min_def
theorem min_one {x : Nat} (h : 1 ≤ x) : Nat.min 1 x = 1 := Nat.min_eq_left h
theorem min_of {a b c : Nat} (h : (a ≤ b ∧ c = a) ∨ (b ≤ a ∧ c = b)) : Nat.min a b = c := by rw [nmin]; split <;> omega
theorem take_min1 (h : Hl) {x : Nat} (hx : 1 ≤ x) : List.take (Nat.min 1 x * 2) h.cs = h.cs := by rw [min_one hx]; rfl
theorem vw_congr2 {p : Nm} {a b c d z : Nat} (h1 : a = b) (h2 : c = d) : AV.vw p a c z = AV.vw p b d z := by subst h1 h2; rfl
theorem zc_len (z : List AV) (n : Nat) : (zcells z n).length = n := by simp [zcells]
theorem ins_g1 (l : List Hl) (i : Nat) (hi : i < l.length) (h : Hl) (z : List AV) (a k j : Nat) (xs : List AV) (ha : a = i * 2) (hk : k = (l.length + 1 - i) * 2) (hj : j = i * 2) (hx : xs = h.cs) : splice (List.take a (List.drop 0 (l.flatMap Hl.cs)) ++ zcells z k) j xs = (l.take i ++ [h]).flatMap Hl.cs ++ (zcells z ((l.length + 1 - i) * 2)).drop 2 := by
 subst ha hk hj hx
 have hl := hls_len l
 have ht : (List.take (i * 2) (l.flatMap Hl.cs)) = (l.take i).flatMap Hl.cs := fm_take Hl.cs_len _ _
 have hl2 : ((l.take i).flatMap Hl.cs).length = i * 2 := by rw [hls_len, List.length_take, Nat.min_eq_left (by omega)]
 unfold splice
 rw [List.drop_zero, ht, List.take_append_of_le_length (by omega), List.take_of_length_le (by omega), Hl.cs_len, List.drop_append, List.drop_eq_nil_of_le (by omega), hl2, List.flatMap_append]
 simp [Hl.cs]
theorem ins_g2 (l : List Hl) (i : Nat) (hi : i < l.length) (h : Hl) (z : List AV) (j m1 m2 o : Nat) (hj : j = (i + 1) * 2) (h1 : m1 = (l.length - i) * 2) (h2 : m2 = (l.length - i) * 2) (ho : o = i * 2) : splice ((l.take i ++ [h]).flatMap Hl.cs ++ (zcells z ((l.length + 1 - i) * 2)).drop 2) j (List.take m2 (List.take m1 (List.drop o (l.flatMap Hl.cs)))) = (insL l i h).flatMap Hl.cs := by
 subst hj h1 h2 ho
 have hl2 : ((l.take i ++ [h]).flatMap Hl.cs).length = (i + 1) * 2 := by rw [hls_len, List.length_append, List.length_take, Nat.min_eq_left (by omega)]; simp
 have hd : List.drop (i * 2) (l.flatMap Hl.cs) = (l.drop i).flatMap Hl.cs := fm_drop Hl.cs_len _ _
 have hl3 : ((l.drop i).flatMap Hl.cs).length = (l.length - i) * 2 := by rw [hls_len, List.length_drop]
 have hz : ((zcells z ((l.length + 1 - i) * 2)).drop 2).length = (l.length - i) * 2 := by rw [List.length_drop, zc_len]; omega
 unfold splice
 rw [List.take_take, Nat.min_self, hd, List.take_of_length_le (l := (l.drop i).flatMap Hl.cs) (by omega), List.take_append_of_le_length (by omega), List.take_of_length_le (by omega), show List.drop ((i + 1) * 2 + ((l.drop i).flatMap Hl.cs).length) ((l.take i ++ [h]).flatMap Hl.cs ++ (zcells z ((l.length + 1 - i) * 2)).drop 2) = [] from List.drop_eq_nil_of_le (by rw [List.length_append]; omega), List.append_nil, ← List.flatMap_append]
 congr 1
 simp [insL]
theorem hins_c (l : List Hl) (i : Nat) (x0 : Hl) (hi : i ≤ l.length) (hl : l.length ≤ 100000) (p r : Nm) (hn : [p, r].Nodup) : LSpec Tryz.prog G 42 [.vw p 0 l.length 2, iAV i, .vw r 0 1 2] [(p, ⟨56, l.flatMap Hl.cs⟩), (r, ⟨56, x0.cs⟩)]
   (fun q => (.vw q 0 (l.length + 1) 2, [(q, ⟨56, (insL l i x0).flatMap Hl.cs⟩)])) := by
 have hpr : ¬ p = r := by simpa using hn
 have hcl := hls_len l
 have hA : iarith .add .i64 (l.length : Int) ((1 : Nat) : Int) = (l.length : Int) + 1 := by (exact T.num)
 have hB : iarith .add .i64 (i : Int) ((1 : Nat) : Int) = (i : Int) + 1 := by (exact T.num)
 by_cases hin : i = l.length
 · subst hin
   refine goW [] Tryz.func42 rfl ?_
   conv => whnf
   repeat' ((first | exact Nm.b 0 | (refine And.intro ?_ ?_; (focus (first | exact hls_one _ | (rw [hls_len]; omega) | exact T.kx | exact T.side))) | (show AList _ _; first | (refine AList.eq (ins_end l x0 _ ?_) ?_; (focus (first | exact rfl | omega)))) | refine T.s ?_ | ((first | apply goB | apply ABr.dec | apply ABr.gen) <;> intro h <;> try (exfalso; omega)) | refine LFresh.mk fun r => ?_ | (show SWpL _ _ _ _ _ _ _; first | (refine goD tyOk mixed 11 [] [0, 1, 2, 3, 4, 5, 6, 7, 8] [] (by kernel_rfl) ?_) | (refine goD tyOk mixed 15 [] [0, 1, 2, 3, 4, 5, 6, 7, 8] [] (by kernel_rfl) ?_)) | (show (_ → _) ∧ (¬ _ → _); first | refine T.y ?_ | refine dec_both (fun h => ?_) (fun h => ?_)) | exact T.z | fail) <;> conv => whnf)
   all_goals (try dsimp only)
   all_goals
     refine RetL.own r ?_ ?_ ?_
     · rfl
     · (repeat first | refine goH ?_ | apply LHas.here | apply LHas.next); trivial
     · (repeat' first | exact LSub.nil | (with_reducible exact LSub.refl) | (apply LSub.cons; (repeat first | refine goH ?_ | apply LHas.here | apply LHas.next); refine And.intro ?_ ?_; (focus (try (first | (with_reducible rfl) | (refine congrArg (Pl.mk _) ?_; (first | rfl | (simp; done))) | rfl | (with_reducible refine congrArg (Pl.mk _) ?_))))))
 · have hi2 : (i : Int) < (l.length : Int) := by omega
   have hi3 : ¬ (i : Int) = (l.length : Int) := by omega
   refine LSpec.room (fun cap => if l.length + 1 ≤ cap then 1 else 0) (fun cap h => by split <;> omega) (by omega) (by omega) (by omega) (by unfold maxLen; omega) fun cap hc hm => ?_
   unfold maxLen at hm
   by_cases hroom : l.length + 1 ≤ cap
   · rw [if_pos hroom]
     show LSpec _ _ _ _ ((p, ⟨_, l.flatMap Hl.cs ++ [.any, .any]⟩) :: _) _
     have hcl2 : (l.flatMap Hl.cs ++ [AV.any, AV.any]).length = l.length * 2 + 2 := by rw [List.length_append, hcl]; rfl
     refine goW [14] Tryz.func42 rfl ?_
     conv => whnf
     repeat' ((first | (show CutL _ _ _ _ _ _ _ _; refine CutL.ovl (t := 30) (t' := 4) (e1 := 56) tyOk [14] 6 rfl rfl rfl Tryz.func74 (by kernel_rfl) (by kernel_rfl) (by kernel_rfl) (by kernel_rfl) rfl rfl rfl ?_) | (show AOvL _ _ _ _ _ _ _; refine AOvL.mk' ?_) | exact Nm.b 0 | (refine And.intro ?_ ?_; (focus (first | exact hls_one _ | ((try dsimp only); rw [hls_len]; omega) | ((try dsimp only); rw [hcl2]; omega) | ((try dsimp only); rw [hls_len, List.length_append, List.length_take, List.length_drop]; omega) | ((try dsimp only); refine ins_src l i (by omega) _ _ _ ?_ ?_ ?_; (focus ((try dsimp only); omega)); (focus ((try dsimp only); omega)); (focus ((try dsimp only); refine congrArg (· * 2) (min_of ?_); omega))) | exact T.kx | exact T.side))) | (show AList _ _; first | (refine AList.eq (ins_shift l i (by omega) _ _ _ _ ?_ ?_ ?_ ?_) ?_; (focus ((try dsimp only); omega)); (focus ((try dsimp only); omega)); (focus ((try dsimp only); refine congrArg (· * 2) (min_of ?_); omega)); (focus ((try dsimp only); omega))) | (refine AList.eq (ins_put l i (by omega) x0 _ _ ?_ ?_) ?_; (focus ((try dsimp only); omega)); (focus ((try dsimp only); exact take_min1 x0 (by omega))))) | refine T.s ?_ | ((first | apply goB | apply ABr.dec | apply ABr.gen) <;> intro h <;> try (exfalso; omega)) | refine LFresh.mk fun r => ?_ | (show SWpL _ _ _ _ _ _ _; first | refine gX 11 [] [0, 1, 2, 3, 4, 5, 6, 7, 8] [p] ?_ | refine gX 15 [] [0, 1, 2, 3, 4, 5, 6, 7, 8] [p] ?_) | (show CutL _ _ _ _ _ _ _ _; first | refine CutL.go tyOk [14] ?_) | (show (_ → _) ∧ (¬ _ → _); first | refine T.y ?_ | refine dec_both (fun h => ?_) (fun h => ?_)) | exact T.z | fail) <;> conv => whnf)
     all_goals (try dsimp only)
     all_goals
       refine RetL.own p ?_ ?_ ?_
       · refine vw_congr2 ?_ ?_ <;> omega
       · (repeat first | refine goH ?_ | apply LHas.here | apply LHas.next); trivial
       · (repeat' first | exact LSub.nil | (with_reducible exact LSub.refl) | (apply LSub.cons; (repeat first | refine goH ?_ | apply LHas.here | apply LHas.next); refine And.intro ?_ ?_; (focus (try (first | (with_reducible rfl) | (refine congrArg (Pl.mk _) ?_; (first | rfl | (simp; done))) | rfl | (with_reducible refine congrArg (Pl.mk _) ?_))))))
   · rw [if_neg hroom]
     have hr2 : (cap : Int) < iarith .add .i64 l.length ((1 : Nat) : Int) := by omega
     have hK : iarith .sub .i64 (iarith .add .i64 (l.length : Int) ((1 : Nat) : Int)) (i : Int) = (l.length : Int) + 1 - i := by rw [hA]; (exact T.num)
     rw [Nat.zero_mul, List.replicate_zero, List.append_nil]
     refine goW [14] Tryz.func42 rfl ?_
     conv => whnf
     repeat' ((first | exact Nm.b 0 | (refine And.intro ?_ ?_; (focus (first | exact all_take _ (all_take _ (all_drop _ (hls_one _))) | exact hls_one _ | (rw [hls_len]; omega) | ((try dsimp only); rw [List.length_append, List.length_take, zc_len, List.length_drop, hcl]; omega) | ((try dsimp only); rw [List.length_append, hls_len, List.length_append, List.length_take, List.length_drop, zc_len]; simp only [List.length_cons, List.length_nil]; omega) | exact T.kx | exact T.side))) | (show AList _ _; first | (refine AList.eq (ins_g1 l i (by omega) x0 _ _ _ _ _ ?_ ?_ ?_ ?_) ?_; (focus ((try dsimp only); omega)); (focus ((try dsimp only); omega)); (focus ((try dsimp only); omega)); (focus ((try dsimp only); exact take_min1 x0 (by omega)))) | (refine AList.eq (ins_g2 l i (by omega) x0 _ _ _ _ _ ?_ ?_ ?_ ?_) ?_; (focus ((try dsimp only); omega)); (focus ((try dsimp only); omega)); (focus ((try dsimp only); refine congrArg (· * 2) (min_of ?_); omega)); (focus ((try dsimp only); omega)))) | refine T.s ?_ | ((first | apply goB | apply ABr.dec | apply ABr.gen) <;> intro h <;> try (exfalso; omega)) | refine LFresh.mk fun r => ?_ | (show SWpL _ _ _ _ _ _ _; first | refine gX 11 [] [0, 1, 2, 3, 4, 5, 6, 7, 8] [r] ?_ | refine gX 15 [] [0, 1, 2, 3, 4, 5, 6, 7, 8] [r] ?_) | (show CutL _ _ _ _ _ _ _ _; first | refine CutL.go tyOk [14] ?_) | (show (_ → _) ∧ (¬ _ → _); first | refine T.y ?_ | refine dec_both (fun h => ?_) (fun h => ?_)) | exact T.z | fail) <;> conv => whnf)
     all_goals (try dsimp only)
     all_goals
       refine RetL.own r ?_ ?_ ?_
       · refine vw_congr ?_; omega
       · (repeat first | refine goH ?_ | apply LHas.here | apply LHas.next); trivial
       · (repeat' first | exact LSub.nil | (with_reducible exact LSub.refl) | (apply LSub.cons; (repeat first | refine goH ?_ | apply LHas.here | apply LHas.next); refine And.intro ?_ ?_; (focus (try (first | (with_reducible rfl) | (refine congrArg (Pl.mk _) ?_; (first | rfl | (simp; done))) | rfl | (with_reducible refine congrArg (Pl.mk _) ?_))))))
open Go.RowKit
variable {G : Nat → AV}
theorem sg_rng {n a b : Int} (h1 : 1 ≤ n) (h2 : n ≤ 32) : -4294967296 ≤ sg n a b ∧ sg n a b < 4294967296 := by
 have h3 := lw_rng n (b - a)
 have h4 := pw_le (m := 32) h2
 have h5 := pw_pos n
 unfold sg
 split <;> omega
theorem snear_c (n c x : Int) (h1 : 1 ≤ n) (h2 : n ≤ 32) (hc : 0 ≤ c) (hc2 : c ≤ 1048576) : LSpec Tryz.prog G 65 [iAV n, iAV c, iAV x] [] (fun _ => (.tup [iAV (c + sg n c x), .bool true], [])) := by
 have h3 := sg_rng (a := c) (b := x) h1 h2
 refine goW [] Tryz.func65 rfl ?_
 conv => whnf
 repeat' ((first | (show LCall _ _ _ _ _ _; first | refine LCall.pure (svalid_c _ h1 h2) ?_ | refine LCall.pure (ssigned_c _ _ _ h1 h2) ?_ | refine goE ?_) | refine T.s ?_ | ((first | apply goB | apply ABr.dec | apply ABr.gen) <;> intro h <;> try (exfalso; omega)) | refine LFresh.mk fun r => ?_ | exact T.z | fail) <;> conv => whnf)
 all_goals (try dsimp only)
 all_goals
   (show RetL _ _ _; refine goR ?_)
   rw [show c + sg n c x = iarith .add .i64 c (sg n c x) by (exact T.num)]
   rfl
theorem r2near_c (n c x : Int) (h1 : 1 ≤ n) (h2 : n ≤ 32) (hc : 0 ≤ c) (hc2 : c ≤ 1048576) : LSpec Tryz.prog G 79 [iAV n, iAV c, iAV x] [] (fun _ => (.tup [iAV (c + sg n c x), .bool true], [])) := by
 have h3 := sg_rng (a := c) (b := x) h1 h2
 refine goW [] Tryz.func79 rfl ?_
 conv => whnf
 repeat' ((first | (show LCall _ _ _ _ _ _; first | refine LCall.pure (r2valid_c _ h1 h2) ?_ | refine LCall.pure (r2signed_c _ _ _ h1 h2) ?_ | refine goE ?_) | refine T.s ?_ | ((first | apply goB | apply ABr.dec | apply ABr.gen) <;> intro h <;> try (exfalso; omega)) | refine LFresh.mk fun r => ?_ | exact T.z | fail) <;> conv => whnf)
 all_goals (try dsimp only)
 all_goals
   (show RetL _ _ _; refine goR ?_)
   rw [show c + sg n c x = iarith .add .i64 c (sg n c x) by (exact T.num)]
   rfl
def infR (b f x : Int) : Int × Int := if bitsOk b = true ∧ 0 ≤ f ∧ f ≤ 1048576 ∧ 0 ≤ x ∧ x < 2 ^ b.toNat then (if f + sg b f x < 0 then (0, 11) else if countOk (f + sg b f x) = true then (f + sg b f x, 0) else (0, 10)) else (0, 3)
theorem infer_c (b f x : Int) : LSpec Tryz.prog G 39 [iAV b, iAV f, iAV x] [] (fun _ => (.tup [iAV (infR b f x).1, iAV (infR b f x).2], [])) := by
 cases hb : bitsOk b with
 | false =>
   rw [show infR b f x = (0, 3) by unfold infR; rw [if_neg (by rw [hb]; simp)]]
   refine goW [] Tryz.func39 rfl ?_
   conv => whnf
   repeat' ((first | (show LCall _ _ _ _ _ _; first | refine LCall.pure (cbits_c _) ?_ | refine goE ?_) | refine T.s ?_ | ((first | apply goB | apply ABr.dec | apply ABr.gen) <;> intro h <;> try (exfalso; omega)) | refine LFresh.mk fun r => ?_ | exact T.z | fail) <;> conv => whnf)
   all_goals (try dsimp only)
   all_goals ((show RetL _ _ _; refine goR ?_); rfl)
 | true =>
   obtain ⟨h5, h9⟩ : 5 ≤ b ∧ b ≤ 9 := by rcases bits_cases hb with h | h | h | h | h <;> omega
   have hs : IntKind.i64.wrap (1 * 2 ^ min b.toNat IntKind.i64.bits) = 2 ^ b.toNat := shl1 (by omega)
   by_cases hin : 0 ≤ f ∧ f ≤ 1048576 ∧ 0 ≤ x ∧ x < 2 ^ b.toNat
   · obtain ⟨f0, f1, x0, x1⟩ := hin
     have e : infR b f x = if f + sg b f x < 0 then (0, 11) else if countOk (f + sg b f x) = true then (f + sg b f x, 0) else (0, 10) := by unfold infR; rw [if_pos ⟨hb, f0, f1, x0, x1⟩]
     rw [e]
     have hn := snear_c (G := G) b f x (by omega) (by omega) f0 f1
     generalize f + sg b f x = N at *
     have hx2 : ¬ IntKind.i64.wrap (1 * 2 ^ min b.toNat IntKind.i64.bits) ≤ x := by rw [hs]; omega
     refine goW [] Tryz.func39 rfl ?_
     conv => whnf
     repeat' ((first | (show LCall _ _ _ _ _ _; first | refine LCall.pure (cbits_c _) ?_ | refine LCall.pure (ccount_c _) ?_ | refine LCall.pure (hn) ?_ | refine goE ?_) | refine T.s ?_ | ((first | apply goB | apply ABr.dec | apply ABr.gen) <;> intro h <;> try (exfalso; omega)) | refine LFresh.mk fun r => ?_ | exact T.z | fail) <;> conv => whnf)
     all_goals (try dsimp only)
     all_goals first
       | (exfalso; omega)
       | (rw [if_pos (by assumption)]; (show RetL _ _ _; refine goR ?_); rfl)
       | (rw [if_neg (by assumption), if_pos (by assumption)]; (show RetL _ _ _; refine goR ?_); rfl)
       | (rw [if_neg (by assumption), if_neg (by simp [*])]; (show RetL _ _ _; refine goR ?_); rfl)
       | trace_state
   · rw [show infR b f x = (0, 3) by unfold infR; rw [if_neg (fun h => hin h.2)]]
     have hx2 : 0 ≤ f → f ≤ 1048576 → 0 ≤ x → IntKind.i64.wrap (1 * 2 ^ min b.toNat IntKind.i64.bits) ≤ x := fun a1 a2 a3 => by rw [hs]; exact Int.not_lt.1 fun h => hin ⟨a1, a2, a3, h⟩
     refine goW [] Tryz.func39 rfl ?_
     conv => whnf
     repeat' ((first | (show LCall _ _ _ _ _ _; first | refine LCall.pure (cbits_c _) ?_ | refine goE ?_) | refine T.s ?_ | ((first | apply goB | apply ABr.dec | apply ABr.gen) <;> intro h <;> try (exfalso; omega)) | refine LFresh.mk fun r => ?_ | exact T.z | fail) <;> conv => whnf)
     all_goals (try dsimp only)
     all_goals first
       | ((show RetL _ _ _; refine goR ?_); rfl)
       | (exfalso; have := hx2 (by omega) (by omega) (by omega); omega)
       | trace_state
theorem rinfer_c (b f x : Int) : LSpec Tryz.prog G 48 [iAV b, iAV f, iAV x] [] (fun _ => (.tup [iAV (infR b f x).1, iAV (infR b f x).2], [])) := by
 cases hb : bitsOk b with
 | false =>
   rw [show infR b f x = (0, 3) by unfold infR; rw [if_neg (by rw [hb]; simp)]]
   refine goW [] Tryz.func48 rfl ?_
   conv => whnf
   repeat' ((first | (show LCall _ _ _ _ _ _; first | refine LCall.pure (rbits_c _) ?_ | refine goE ?_) | refine T.s ?_ | ((first | apply goB | apply ABr.dec | apply ABr.gen) <;> intro h <;> try (exfalso; omega)) | refine LFresh.mk fun r => ?_ | exact T.z | refine ⟨_, rfl, rfl, ?_⟩ | fail) <;> conv => whnf)
   all_goals (try dsimp only)
   all_goals ((show RetL _ _ _; refine goR ?_); rfl)
 | true =>
   obtain ⟨h5, h9⟩ : 5 ≤ b ∧ b ≤ 9 := by rcases bits_cases hb with h | h | h | h | h <;> omega
   have hs : IntKind.i64.wrap (1 * 2 ^ min (IntKind.u64.wrap b).toNat IntKind.i64.bits) = 2 ^ b.toNat := by rw [u64n (by omega) (by omega)]; exact shl1 (by omega)
   by_cases hin : 0 ≤ f ∧ f ≤ 1048576 ∧ 0 ≤ x ∧ x < 2 ^ b.toNat
   · obtain ⟨f0, f1, x0, x1⟩ := hin
     have e : infR b f x = if f + sg b f x < 0 then (0, 11) else if countOk (f + sg b f x) = true then (f + sg b f x, 0) else (0, 10) := by unfold infR; rw [if_pos ⟨hb, f0, f1, x0, x1⟩]
     rw [e]
     have hn := r2near_c (G := G) b f x (by omega) (by omega) f0 f1
     generalize f + sg b f x = N at *
     have hx2 : ¬ IntKind.i64.wrap (1 * 2 ^ min (IntKind.u64.wrap b).toNat IntKind.i64.bits) ≤ x := by rw [hs]; omega
     refine goW [] Tryz.func48 rfl ?_
     conv => whnf
     repeat' ((first | (show LCall _ _ _ _ _ _; first | refine LCall.pure (rbits_c _) ?_ | refine LCall.pure (rcount_c _) ?_ | refine LCall.pure (hn) ?_ | refine goE ?_) | refine T.s ?_ | ((first | apply goB | apply ABr.dec | apply ABr.gen) <;> intro h <;> try (exfalso; omega)) | refine LFresh.mk fun r => ?_ | exact T.z | refine ⟨_, rfl, rfl, ?_⟩ | fail) <;> conv => whnf)
     all_goals (try dsimp only)
     all_goals first
       | (exfalso; omega)
       | (rw [if_pos (by assumption)]; (show RetL _ _ _; refine goR ?_); rfl)
       | (rw [if_neg (by assumption), if_pos (by assumption)]; (show RetL _ _ _; refine goR ?_); rfl)
       | (rw [if_neg (by assumption), if_neg (by simp [*])]; (show RetL _ _ _; refine goR ?_); rfl)
       | trace_state
   · rw [show infR b f x = (0, 3) by unfold infR; rw [if_neg (fun h => hin h.2)]]
     have hx2 : 0 ≤ f → f ≤ 1048576 → 0 ≤ x → IntKind.i64.wrap (1 * 2 ^ min (IntKind.u64.wrap b).toNat IntKind.i64.bits) ≤ x := fun a1 a2 a3 => by rw [hs]; exact Int.not_lt.1 fun h => hin ⟨a1, a2, a3, h⟩
     refine goW [] Tryz.func48 rfl ?_
     conv => whnf
     repeat' ((first | (show LCall _ _ _ _ _ _; first | refine LCall.pure (rbits_c _) ?_ | refine goE ?_) | refine T.s ?_ | ((first | apply goB | apply ABr.dec | apply ABr.gen) <;> intro h <;> try (exfalso; omega)) | refine LFresh.mk fun r => ?_ | exact T.z | refine ⟨_, rfl, rfl, ?_⟩ | fail) <;> conv => whnf)
     all_goals (try dsimp only)
     all_goals first
       | ((show RetL _ _ _; refine goR ?_); rfl)
       | (exfalso; have := hx2 (by omega) (by omega) (by omega); omega)
       | trace_state
open Go.RowKit
variable {G : Nat → AV}
section
variable {P : Program}
theorem LSpec.adoptN {f : FuncId} {args : List AV} (t : TypeId) (sz : Nat) (h : LSpec P G f args [] (fun _ => (.nils, []))) : LSpec P G f args [] (fun q => (.vw q 0 0 sz, [(q, ⟨t, []⟩)])) := by
 unfold LSpec at h ⊢
 refine ⟨h.1, fun q => ⟨by simp, by simp⟩, fun τ w vs h1 h2 h3 h4 h5 => (h.2.2 τ w vs h1 h2 h3 h4 h5).mono ?_⟩
 rintro e w' ⟨v, q, k1, -, -, k4, k5, k6⟩
 have k4 : Rd τ w' .nils v := k4
 have k5 : Mem τ w' := k5
 have k6 : Stp τ w τ w' := k6
 obtain ⟨B, hB⟩ := k5.fin
 have hk := hB B (Nat.le_refl _)
 have hst : Stp τ w' (Go.Proofs.YtnmifddidgofaaaGreatDoor.upd τ (.v B) ⟨t, []⟩) w' := Stp.forget _ _ w' fun b hb => by rw [upd_ne _ _ (by simp)]; exact hb
 refine ⟨v, .v B, k1, hk, by simp, ?_, ?_, k6.trans hst⟩
 · cases k4
   exact .vwnil _ _
 · show Mem (Go.Proofs.YtnmifddidgofaaaGreatDoor.upd τ (.v B) ⟨t, []⟩) w'
   refine ⟨fun q c hq => ?_, fun m c hm => ?_, fin_upd k5.fin _ _⟩
   · rw [upd_ne _ _ (by simp)] at hq
     obtain ⟨cur, k1, k2, k3⟩ := k5.pl q c hq
     exact ⟨cur, k1, k2, fun i hi => (k3 i hi).mono hst⟩
   · by_cases hmk : m = B
     · subst hmk; rw [upd_same] at hm; cases hm; rfl
     · rw [upd_ne _ _ (by simp; exact hmk)] at hm
       exact k5.vl m c hm
end
theorem Rd.cloN {σ : Store} {w : World} {f : FuncId} {v : Value} (h : Rd σ w (.lit (.func (.func f) #[] #[])) v) : Rd σ w (.clo (.func f) [] []) v := by
 cases h
 exact .clo (.func f) [] [] #[] #[] rfl rfl (fun i hi => by simp at hi) (fun i hi => by simp at hi)
theorem LSpec.argN {P : Program} {g : FuncId} {args : List AV} {f : FuncId} {ps : LS} {post : Nm → AV × LS} (h : LSpec P G g (args ++ [.clo (.func f) [] []]) ps post) : LSpec P G g (args ++ [.lit (.func (.func f) #[] #[])]) ps post := by
 unfold LSpec at h ⊢
 refine ⟨h.1, h.2.1, fun τ w vs h1 h2 h3 h4 h5 => h.2.2 τ w vs h1 h2 h3 h4 ⟨by have := h5.1; simp at this ⊢; exact this, fun i hi => ?_⟩⟩
 have hi2 : i < args.length + 1 := by simpa using hi
 have h6 := h5.2 i (by simpa using hi)
 by_cases hlt : i < args.length
 · have e1 : (args ++ [AV.clo (.func f) [] []]).getD i .any = args.getD i .any := by simp only [List.getD_eq_getElem?_getD]; rw [List.getElem?_append_left hlt]
   have e2 : (args ++ [AV.lit (.func (.func f) #[] #[])]).getD i .any = args.getD i .any := by simp only [List.getD_eq_getElem?_getD]; rw [List.getElem?_append_left hlt]
   rw [e1]; rw [e2] at h6; exact h6
 · obtain rfl : i = args.length := by omega
   have e1 : (args ++ [AV.clo (.func f) [] []]).getD args.length .any = .clo (.func f) [] [] := by simp
   have e2 : (args ++ [AV.lit (.func (.func f) #[] #[])]).getD args.length .any = .lit (.func (.func f) #[] #[]) := by simp
   rw [e1]; rw [e2] at h6; exact h6.cloN
theorem hlclone_o (l : List Hl) (hl : l.length ≤ 100000) : LSpec Tryz.prog G 63 [hlv l] [] (fun q => (.vw q 0 l.length 2, [(q, ⟨56, l.flatMap Hl.cs⟩)])) := by
 by_cases h : 0 < l.length
 · refine goW [] Tryz.func63 rfl ?_
   conv => whnf
   repeat' ((first | (refine And.intro ?_ ?_; (focus (first | exact hls_len _ | exact hls_one _ | (rw [hls_len]; omega) | omega | exact T.kx | exact T.side))) | refine T.s ?_ | ((first | apply goB | apply ABr.dec | apply ABr.gen) <;> intro h <;> try (exfalso; omega)) | refine LFresh.mk fun r => ?_ | exact T.z | fail) <;> conv => whnf)
   all_goals (try dsimp only)
   all_goals
     refine RetL.own r ?_ ?_ ?_
     · rw [Nat.zero_add]
     · (repeat first | refine goH ?_ | apply LHas.here | apply LHas.next); trivial
     · (repeat' first | exact LSub.nil | (with_reducible exact LSub.refl) | (apply LSub.cons; (repeat first | refine goH ?_ | apply LHas.here | apply LHas.next); refine And.intro ?_ ?_; (focus (try (first | (with_reducible rfl) | (refine congrArg (Pl.mk _) ?_; (first | rfl | (simp; done))) | rfl | (with_reducible refine congrArg (Pl.mk _) ?_))))))
 · obtain rfl : l = [] := List.eq_nil_of_length_eq_zero (by omega)
   refine LSpec.empty ?_ fun a0 cap hc => ?_
   · refine LSpec.adoptN 56 2 ?_
     refine goW [] Tryz.func63 rfl ?_
     conv => whnf
     repeat' ((first | refine T.s ?_ | ((first | apply goB | apply ABr.dec | apply ABr.gen) <;> intro h <;> try (exfalso; omega)) | refine LFresh.mk fun r => ?_ | exact T.z | fail) <;> conv => whnf)
     all_goals (try dsimp only)
     exact RetL.val rfl LSub.nil
   · refine goW [] Tryz.func63 rfl ?_
     conv => whnf
     repeat' ((first | refine T.s ?_ | ((first | apply goB | apply ABr.dec | apply ABr.gen) <;> intro h <;> try (exfalso; omega)) | refine LFresh.mk fun r => ?_ | exact T.z | fail) <;> conv => whnf)
     all_goals (try dsimp only)
     refine RetL.own r ?_ ?_ ?_
     · rfl
     · (repeat first | refine goH ?_ | apply LHas.here | apply LHas.next); trivial
     · (repeat' first | exact LSub.nil | (with_reducible exact LSub.refl) | (apply LSub.cons; (repeat first | refine goH ?_ | apply LHas.here | apply LHas.next); refine And.intro ?_ ?_; (focus (try (first | (with_reducible rfl) | (refine congrArg (Pl.mk _) ?_; (first | rfl | (simp; done))) | rfl | (with_reducible refine congrArg (Pl.mk _) ?_))))))
theorem bclone_c (l : List UInt8) (hl : l.length ≤ 100000) : LSpec Tryz.prog G 64 [bv l] [] (fun _ => (bv l, [])) := by
 by_cases h : 0 < l.length
 · refine goW [] Tryz.func64 rfl ?_
   conv => whnf
   repeat' ((first | refine T.s ?_ | ((first | apply goB | apply ABr.dec | apply ABr.gen) <;> intro h <;> try (exfalso; omega)) | refine LFresh.mk fun r => ?_ | exact T.z | fail) <;> conv => whnf)
   all_goals (try dsimp only)
   all_goals
     refine RetL.frz [r] (LF.row InL.here ?_) ?_
     · (repeat first | refine goH ?_ | apply LHas.here | apply LHas.next)
       exact ⟨by decide, by simp, by simp, by simp⟩
     · (repeat first | refine goH ?_ | apply LHas.here | apply LHas.next)
       exact LSub.nil
 · obtain rfl : l = [] := List.eq_nil_of_length_eq_zero (by omega)
   refine LSpec.empty ?_ fun a0 cap hc => ?_
   · refine goW [] Tryz.func64 rfl ?_
     conv => whnf
     repeat' ((first | refine T.s ?_ | ((first | apply goB | apply ABr.dec | apply ABr.gen) <;> intro h <;> try (exfalso; omega)) | refine LFresh.mk fun r => ?_ | exact T.z | fail) <;> conv => whnf)
     all_goals (try dsimp only)
     exact RetL.frz [] (LF.nils rfl rfl) LSub.nil
   · refine goW [] Tryz.func64 rfl ?_
     conv => whnf
     repeat' ((first | refine T.s ?_ | ((first | apply goB | apply ABr.dec | apply ABr.gen) <;> intro h <;> try (exfalso; omega)) | refine LFresh.mk fun r => ?_ | exact T.z | fail) <;> conv => whnf)
     all_goals (try dsimp only)
     refine RetL.frz [r] (LF.row InL.here ?_) ?_
     · (repeat first | refine goH ?_ | apply LHas.here | apply LHas.next)
       exact ⟨by decide, rfl, rfl, rfl⟩
     · (repeat first | refine goH ?_ | apply LHas.here | apply LHas.next)
       exact LSub.nil
def inC (i : In) (h : AV) : List AV := [iAV i.b, bv i.k.s, bv i.k.g, iAV i.k.n, iAV i.k.b, iAV i.k.d, iAV i.f, iAV i.n, iAV i.m, iAV i.l, iAV i.t, h]
def zIn : List AV := [iAV 0, .nils, .nils, iAV 0, iAV 0, iAV 0, iAV 0, iAV 0, iAV 0, iAV 0, iAV 0, .nils]
theorem hl_same (l : List Hl) (k j : Nat) (hk : k < l.length) (hj : j = k * 2 + 1) : splice (l.flatMap Hl.cs) j [bv (l.getD k Hl.z).d] = l.flatMap Hl.cs := by
 subst hj
 have h1 : l = l.take k ++ l.getD k Hl.z :: l.drop (k + 1) := by
   rw [List.getD_eq_getElem?_getD, List.getElem?_eq_getElem hk]
   simp
 have hl : ((l.take k).flatMap Hl.cs).length = k * 2 := by rw [hls_len, List.length_take, Nat.min_eq_left (by omega)]
 generalize l.getD k Hl.z = x at *
 generalize l.take k = a at *
 generalize l.drop (k + 1) = b at *
 subst h1
 simp only [List.flatMap_append, List.flatMap_cons, splice]
 have h2 : List.drop (k * 2 + 1 + [bv x.d].length) (a.flatMap Hl.cs ++ (x.cs ++ b.flatMap Hl.cs)) = b.flatMap Hl.cs := by
   rw [List.drop_append, List.drop_eq_nil_of_le (by rw [hl]; simp only [List.length_cons, List.length_nil]; omega), hl]
   simp only [List.length_cons, List.length_nil]
   rw [show k * 2 + 1 + (0 + 1) - k * 2 = 2 by omega]
   rfl
 rw [h2, List.take_append, List.take_of_length_le (by omega), hl, show k * 2 + 1 - k * 2 = 1 by omega]
 simp [Hl.cs]
theorem dclone_o (i : In) (hk : i.k.ok = true) (hl : i.h.length ≤ 100000) (hd : ∀ k, k < i.h.length → (i.h.getD k Hl.z).d.length ≤ 100000) : LSpec Tryz.prog G 36 [i.av] [] (fun q => (.agg (inC i (.vw q 0 i.h.length 2)), [(q, ⟨56, i.h.flatMap Hl.cs⟩)])) := by
 have hh := hlclone_o (G := G) i.h hl
 refine goW [] Tryz.func36 rfl ?_
 conv => whnf
 repeat' ((first | exact Nm.b 0 | (refine And.intro ?_ ?_; (focus (first | ((try dsimp only); rw [hls_len]; omega) | exact T.kx | exact T.side))) | (show LCall _ _ _ _ _ _; first | refine LCall.pure (pclone_c _ hk) ?_ | refine LCall.own (hh) ?_ | refine LCall.pure (bclone_c _ (hd _ (by omega))) ?_ | refine goE ?_) | (show ACell _ _ _; first | (refine ACell.fld Hl.cs_len k 1 Hl.z (bv (i.h.getD k Hl.z).d) ?_ (by decide) ?_ rfl ?_; (focus ((try dsimp only); omega)); (focus omega))) | (show AList _ _; first | (refine AList.eq (hl_same _ _ _ ?_ ?_) ?_; (focus ((try dsimp only); omega)); (focus ((try dsimp only); omega)))) | refine T.s ?_ | ((first | apply goB | apply ABr.dec | apply ABr.gen) <;> intro h <;> try (exfalso; omega)) | refine LFresh.mk fun r => ?_ | (show SWpL _ _ _ (.loop _) _ _ _; first | (apply goO tyOk [] 4 (S := Nat × Nm × Nm × Nm) [14] (fun (k, a, b, q) => ⟨[(15, .int .i64 k), (1, .ptr a 0), (2, .ptr b 0)], [(a, ⟨32, inC i (.vw q 0 i.h.length 2)⟩), (b, ⟨32, zIn⟩), (q, ⟨56, i.h.flatMap Hl.cs⟩)], k ≤ i.h.length, i.h.length - k⟩) ((0, _, _, _)) (by rfl); (focus ((repeat' first | exact trivial | (refine And.intro ?_ ?_) | exact LSub.nil | (with_reducible exact LSub.refl) | (apply LSub.cons; (repeat first | refine goH ?_ | apply LHas.here | apply LHas.next); refine And.intro ?_ ?_; (focus (try (first | (with_reducible rfl) | (refine congrArg (Pl.mk _) ?_; (first | rfl | (simp; done))) | rfl | (with_reducible refine congrArg (Pl.mk _) ?_))))) | assumption | (rfl) | (first | (focus (apply Eq.trans; (conv => lhs; whnf); (conv => rhs; whnf); done)) | rfl | ((conv => lhs; whnf); first | rfl | (refine congrArg (AV.int _) ?_; (exact T.num)) | (refine congrArg AV.bool ?_; (exact T.num)) | (refine vw_congr ?_; first | (exact T.num) | (first | rfl | (simp; done))) | (refine sl_congr ?_ ?_ <;> first | (exact T.num) | (first | rfl | (simp; done))) | (first | rfl | (simp; done)))) | (exact T.num) | (dsimp only; (exact T.num)) | (first | rfl | (simp; done))); done)); rintro ⟨k, a, b, q⟩ hok; (try dsimp only at hok))) | (show SWpL _ _ _ _ _ _ _; first | refine gX 6 [1, 9] [0, 1, 2, 3, 4, 5, 6, 7, 8, 9, 10, 11, 12] [q] ?_) | (show AtL _ _ _ _ _ _ _ _ _ _; first | (apply AtL.mk' (id := 4) (S := Nat × Nm × Nm × Nm) ((k + 1, a, b, q)); (repeat' first | exact trivial | (refine And.intro ?_ ?_) | exact LSub.nil | (with_reducible exact LSub.refl) | (apply LSub.cons; (repeat first | refine goH ?_ | apply LHas.here | apply LHas.next); refine And.intro ?_ ?_; (focus (try (first | (with_reducible rfl) | (refine congrArg (Pl.mk _) ?_; (first | rfl | (simp; done))) | rfl | (with_reducible refine congrArg (Pl.mk _) ?_))))) | assumption | (rfl) | (first | (focus (apply Eq.trans; (conv => lhs; whnf); (conv => rhs; whnf); done)) | rfl | ((conv => lhs; whnf); first | rfl | (refine congrArg (AV.int _) ?_; (exact T.num)) | (refine congrArg AV.bool ?_; (exact T.num)) | (refine vw_congr ?_; first | (exact T.num) | (first | rfl | (simp; done))) | (refine sl_congr ?_ ?_ <;> first | (exact T.num) | (first | rfl | (simp; done))) | (first | rfl | (simp; done)))) | (exact T.num) | (dsimp only; (exact T.num)) | (first | rfl | (simp; done))); done) | (apply AtL.mk' (id := 4) (S := Nat × Nm × Nm × Nm) ((k + 1, a, b, q)); (repeat' first | exact trivial | (refine And.intro ?_ ?_) | exact LSub.nil | (with_reducible exact LSub.refl) | (apply LSub.cons; (repeat first | refine goH ?_ | apply LHas.here | apply LHas.next); refine And.intro ?_ ?_; (focus (try (first | (with_reducible rfl) | (refine congrArg (Pl.mk _) ?_; (first | rfl | (simp; done))) | rfl | (with_reducible refine congrArg (Pl.mk _) ?_))))) | assumption | (rfl) | (first | (focus (apply Eq.trans; (conv => lhs; whnf); (conv => rhs; whnf); done)) | rfl | ((conv => lhs; whnf); first | rfl | (refine congrArg (AV.int _) ?_; (exact T.num)) | (refine congrArg AV.bool ?_; (exact T.num)) | (refine vw_congr ?_; first | (exact T.num) | (first | rfl | (simp; done))) | (refine sl_congr ?_ ?_ <;> first | (exact T.num) | (first | rfl | (simp; done))) | (first | rfl | (simp; done)))) | (exact T.num) | (dsimp only; (exact T.num)) | (first | rfl | (simp; done))))) | exact T.z | fail) <;> conv => whnf)
 all_goals (try dsimp only)
 all_goals
   refine RetL.own q ?_ ?_ ?_
   · rfl
   · (repeat first | refine goH ?_ | apply LHas.here | apply LHas.next); trivial
   · (repeat' first | exact LSub.nil | (with_reducible exact LSub.refl) | (apply LSub.cons; (repeat first | refine goH ?_ | apply LHas.here | apply LHas.next); refine And.intro ?_ ?_; (focus (try (first | (with_reducible rfl) | (refine congrArg (Pl.mk _) ?_; (first | rfl | (simp; done))) | rfl | (with_reducible refine congrArg (Pl.mk _) ?_))))))
def ascH (l : List Hl) : Prop := ∀ i j, i < j → j < l.length → (l.getD i Hl.z).c < (l.getD j Hl.z).c
def rngH (l : List Hl) : Prop := ∀ i, i < l.length → 0 ≤ (l.getD i Hl.z).c ∧ (l.getD i Hl.z).c ≤ 1048576
def posR (l : List Hl) (c : Int) : Nat := (l.takeWhile fun h => decide (h.c < c)).length
def hitR (l : List Hl) (c : Int) : Bool := decide (posR l c < l.length ∧ (l.getD (posR l c) Hl.z).c = c)
theorem tw_le {α : Type} (p : α → Bool) (l : List α) : (l.takeWhile p).length ≤ l.length := by
 induction l with
 | nil => simp
 | cons x l ih => rw [List.takeWhile_cons]; split <;> simp <;> omega
theorem tw_yes {α : Type} (p : α → Bool) (d : α) (l : List α) (i : Nat) (h : i < (l.takeWhile p).length) : p (l.getD i d) = true := by
 induction l generalizing i with
 | nil => simp at h
 | cons x l ih =>
   rw [List.takeWhile_cons] at h
   split at h
   · cases i with
     | zero => simpa
     | succ i => simp at h; simpa using ih i (by omega)
   · simp at h
theorem tw_no {α : Type} (p : α → Bool) (d : α) (l : List α) (h : (l.takeWhile p).length < l.length) : p (l.getD (l.takeWhile p).length d) = false := by
 induction l with
 | nil => simp at h
 | cons x l ih =>
   rw [List.takeWhile_cons] at h ⊢
   split
   · rename_i hx
     rw [if_pos hx] at h
     simp at h
     simpa using ih (by omega)
   · rename_i hx
     simpa using hx
theorem pos_le (l : List Hl) (c : Int) : posR l c ≤ l.length := tw_le _ l
theorem pos_lt (l : List Hl) (c : Int) (i : Nat) (h : i < posR l c) : (l.getD i Hl.z).c < c := by
 have h1 := tw_yes (fun h : Hl => decide (h.c < c)) Hl.z l i h
 exact of_decide_eq_true h1
theorem pos_ge (l : List Hl) (c : Int) (h : posR l c < l.length) : c ≤ (l.getD (posR l c) Hl.z).c := by
 have h1 := tw_no (fun h : Hl => decide (h.c < c)) Hl.z l h
 have h2 : ¬ (l.getD (posR l c) Hl.z).c < c := of_decide_eq_false h1
 omega
theorem pos_eq {l : List Hl} (hs : ascH l) {c : Int} {i : Nat} (hi : i ≤ l.length) (h1 : ∀ k, k < i → (l.getD k Hl.z).c < c) (h2 : ∀ k, i ≤ k → k < l.length → c ≤ (l.getD k Hl.z).c) : i = posR l c := by
 rcases Nat.lt_trichotomy i (posR l c) with h | h | h
 · have := pos_lt l c i h
   have := h2 i (Nat.le_refl _) (Nat.lt_of_lt_of_le h (pos_le l c))
   omega
 · exact h
 · have := h1 _ h
   have := pos_ge l c (by omega)
   omega
attribute [irreducible] posR
def srch (l : List Hl) (c : Int) (i j : Nat) : Prop := i ≤ j ∧ j ≤ l.length ∧ (∀ k, k < i → (l.getD k Hl.z).c < c) ∧ (∀ k, j ≤ k → k < l.length → c ≤ (l.getD k Hl.z).c)
theorem srch_lo {l : List Hl} (hs : ascH l) {c : Int} {i j m : Nat} (h : srch l c i j) (hm : m < j) (hc : (l.getD m Hl.z).c < c) (hi : i ≤ m) : srch l c (m + 1) j := by
 obtain ⟨h1, h2, h3, h4⟩ := h
 refine ⟨by omega, h2, fun k hk => ?_, h4⟩
 by_cases e : k = m
 · subst e; exact hc
 · have := hs k m (by omega) (by omega); omega
theorem srch_hi {l : List Hl} (hs : ascH l) {c : Int} {i j m : Nat} (h : srch l c i j) (hm : m < j) (hc : ¬ (l.getD m Hl.z).c < c) (hi : i ≤ m) : srch l c i m := by
 obtain ⟨h1, h2, h3, h4⟩ := h
 refine ⟨hi, by omega, h3, fun k hk hk2 => ?_⟩
 by_cases e : k = m
 · subst e; omega
 · have := hs m k (by omega) hk2; omega
theorem srch_end {l : List Hl} (hs : ascH l) {c : Int} {i j : Nat} (h : srch l c i j) (he : ¬ i < j) : i = posR l c := by
 obtain ⟨h1, h2, h3, h4⟩ := h
 exact pos_eq hs (by omega) h3 fun k hk => h4 k (by omega)
theorem srch_0 (l : List Hl) (c : Int) : srch l c 0 l.length := ⟨Nat.zero_le _, Nat.le_refl _, fun k hk => by omega, fun k h1 h2 => by omega⟩
theorem srch_b {l : List Hl} {c : Int} {i j : Nat} (h : srch l c i j) : i ≤ j ∧ j ≤ l.length := ⟨h.1, h.2.1⟩
def midV (i j : Nat) : Int := IntKind.i64.wrap ((IntKind.u64.wrap (iarith .add .i64 (i : Int) (j : Int))).fdiv (2 ^ min (Int.toNat 1) IntKind.u64.bits))
theorem mid_e {i j : Nat} (hi : i ≤ 100000) (hj : j ≤ 100000) : midV i j = (((i + j) / 2 : Nat) : Int) := by
 have e1 : IntKind.u64.wrap (iarith .add .i64 (i : Int) (j : Int)) = ((i + j : Nat) : Int) := by (exact T.num)
 unfold midV
 rw [e1, show min (Int.toNat 1) IntKind.u64.bits = 1 from rfl, Int.fdiv_eq_ediv_of_nonneg _ (by decide)]
 rw [IntKind.wrap_i64]
 omega
theorem sub_e {a b : Int} (ha : 0 ≤ a ∧ a ≤ 1048576) (hb : 0 ≤ b ∧ b ≤ 1048576) : iarith .sub .i64 a b = a - b := by (exact T.num)
attribute [local irreducible] srch
theorem bsearch_c (l : List Hl) (c : Int) (hl : l.length ≤ 100000) (hs : ascH l) (hr : rngH l) (hc : 0 ≤ c ∧ c ≤ 1048576) : LSpec Tryz.prog G 72 [hlv l, iAV c, .clo (.func 73) [] []] [] (fun _ => (.tup [iAV (posR l c), .bool (hitR l c)], [])) := by
 have h0 := srch_0 l c
 refine goW [] Tryz.func72 rfl ?_
 conv => whnf
 repeat' ((first | (refine And.intro ?_ ?_; (focus (first | ((try dsimp only); rw [List.length_drop, hls_len]; omega) | exact T.kx | exact T.side))) | (show LCall _ _ _ _ _ _; first | refine LCall.pure (dfind1_c _ _) ?_ | refine goE ?_) | (show ACell _ _ _; first | (refine ACell.recd Hl.cs_len ((i + j) / 2) Hl.z ?_ rfl ?_ ?_; (focus ((try dsimp only); omega)); (focus omega)) | (refine ACell.recd Hl.cs_len i Hl.z ?_ rfl ?_ ?_; (focus ((try dsimp only); omega)); (focus omega))) | refine T.s ?_ | ((first | apply goB | apply ABr.dec | apply ABr.gen) <;> intro h <;> try (exfalso; omega)) | refine LFresh.mk fun r => ?_ | (show SWpL _ _ _ (.loop _) _ _ _; first | (apply goO tyOk [] 3 (S := Nat × Nat) [0, 1, 2, 8] (fun (i, j) => ⟨[(9, .int .i64 i), (10, .int .i64 j)], [], srch l c i j, j - i⟩) ((0, l.length)) (by rfl); (focus ((repeat' first | exact trivial | (refine And.intro ?_ ?_) | exact LSub.nil | (with_reducible exact LSub.refl) | (apply LSub.cons; (repeat first | refine goH ?_ | apply LHas.here | apply LHas.next); refine And.intro ?_ ?_; (focus (try (first | (with_reducible rfl) | (refine congrArg (Pl.mk _) ?_; (first | rfl | (simp; done))) | rfl | (with_reducible refine congrArg (Pl.mk _) ?_))))) | assumption | (exact srch_lo hs (by assumption) (m := (i + j) / 2) (by omega) (by have h9 := sub_e (hr ((i + j) / 2) (by omega)) hc; omega) (by omega)) | (exact srch_hi hs (by assumption) (m := (i + j) / 2) (by omega) (by have h9 := sub_e (hr ((i + j) / 2) (by omega)) hc; omega) (by omega)) | (exact h0) | (first | (focus (apply Eq.trans; (conv => lhs; whnf); (conv => rhs; whnf); done)) | rfl | ((conv => lhs; whnf); first | rfl | (refine congrArg (AV.int _) ?_; (exact T.num)) | (refine congrArg AV.bool ?_; (exact T.num)) | (refine vw_congr ?_; first | (exact T.num) | (first | rfl | (simp; done))) | (refine sl_congr ?_ ?_ <;> first | (exact T.num) | (first | rfl | (simp; done))) | (first | rfl | (simp; done)))) | (exact T.num) | (dsimp only; (exact T.num)) | (first | rfl | (simp; done))); done)); rintro ⟨i, j⟩ hok; (try dsimp only at hok); (obtain ⟨hi1, hj1⟩ := srch_b hok; have hM := mid_e (i := i) (j := j) (by omega) (by omega); have hM2 : iarith .add .i64 (midV i j) 1 = (((i + j) / 2 + 1 : Nat) : Int) := (by rw [hM]; (exact T.num)); unfold midV at hM hM2))) | (show AtL _ _ _ _ _ _ _ _ _ _; first | (apply AtL.mk' (id := 3) (S := Nat × Nat) (((i + j) / 2 + 1, j)); (repeat' first | exact trivial | (refine And.intro ?_ ?_) | exact LSub.nil | (with_reducible exact LSub.refl) | (apply LSub.cons; (repeat first | refine goH ?_ | apply LHas.here | apply LHas.next); refine And.intro ?_ ?_; (focus (try (first | (with_reducible rfl) | (refine congrArg (Pl.mk _) ?_; (first | rfl | (simp; done))) | rfl | (with_reducible refine congrArg (Pl.mk _) ?_))))) | assumption | (exact srch_lo hs (by assumption) (m := (i + j) / 2) (by omega) (by have h9 := sub_e (hr ((i + j) / 2) (by omega)) hc; omega) (by omega)) | (exact srch_hi hs (by assumption) (m := (i + j) / 2) (by omega) (by have h9 := sub_e (hr ((i + j) / 2) (by omega)) hc; omega) (by omega)) | (exact h0) | (first | (focus (apply Eq.trans; (conv => lhs; whnf); (conv => rhs; whnf); done)) | rfl | ((conv => lhs; whnf); first | rfl | (refine congrArg (AV.int _) ?_; (exact T.num)) | (refine congrArg AV.bool ?_; (exact T.num)) | (refine vw_congr ?_; first | (exact T.num) | (first | rfl | (simp; done))) | (refine sl_congr ?_ ?_ <;> first | (exact T.num) | (first | rfl | (simp; done))) | (first | rfl | (simp; done)))) | (exact T.num) | (dsimp only; (exact T.num)) | (first | rfl | (simp; done))); done) | (apply AtL.mk' (id := 3) (S := Nat × Nat) ((i, (i + j) / 2)); (repeat' first | exact trivial | (refine And.intro ?_ ?_) | exact LSub.nil | (with_reducible exact LSub.refl) | (apply LSub.cons; (repeat first | refine goH ?_ | apply LHas.here | apply LHas.next); refine And.intro ?_ ?_; (focus (try (first | (with_reducible rfl) | (refine congrArg (Pl.mk _) ?_; (first | rfl | (simp; done))) | rfl | (with_reducible refine congrArg (Pl.mk _) ?_))))) | assumption | (exact srch_lo hs (by assumption) (m := (i + j) / 2) (by omega) (by have h9 := sub_e (hr ((i + j) / 2) (by omega)) hc; omega) (by omega)) | (exact srch_hi hs (by assumption) (m := (i + j) / 2) (by omega) (by have h9 := sub_e (hr ((i + j) / 2) (by omega)) hc; omega) (by omega)) | (exact h0) | (first | (focus (apply Eq.trans; (conv => lhs; whnf); (conv => rhs; whnf); done)) | rfl | ((conv => lhs; whnf); first | rfl | (refine congrArg (AV.int _) ?_; (exact T.num)) | (refine congrArg AV.bool ?_; (exact T.num)) | (refine vw_congr ?_; first | (exact T.num) | (first | rfl | (simp; done))) | (refine sl_congr ?_ ?_ <;> first | (exact T.num) | (first | rfl | (simp; done))) | (first | rfl | (simp; done)))) | (exact T.num) | (dsimp only; (exact T.num)) | (first | rfl | (simp; done))); done) | (apply AtL.mk' (id := 3) (S := Nat × Nat) (((i + j) / 2 + 1, j)); (repeat' first | exact trivial | (refine And.intro ?_ ?_) | exact LSub.nil | (with_reducible exact LSub.refl) | (apply LSub.cons; (repeat first | refine goH ?_ | apply LHas.here | apply LHas.next); refine And.intro ?_ ?_; (focus (try (first | (with_reducible rfl) | (refine congrArg (Pl.mk _) ?_; (first | rfl | (simp; done))) | rfl | (with_reducible refine congrArg (Pl.mk _) ?_))))) | assumption | (exact srch_lo hs (by assumption) (m := (i + j) / 2) (by omega) (by have h9 := sub_e (hr ((i + j) / 2) (by omega)) hc; omega) (by omega)) | (exact srch_hi hs (by assumption) (m := (i + j) / 2) (by omega) (by have h9 := sub_e (hr ((i + j) / 2) (by omega)) hc; omega) (by omega)) | (exact h0) | (first | (focus (apply Eq.trans; (conv => lhs; whnf); (conv => rhs; whnf); done)) | rfl | ((conv => lhs; whnf); first | rfl | (refine congrArg (AV.int _) ?_; (exact T.num)) | (refine congrArg AV.bool ?_; (exact T.num)) | (refine vw_congr ?_; first | (exact T.num) | (first | rfl | (simp; done))) | (refine sl_congr ?_ ?_ <;> first | (exact T.num) | (first | rfl | (simp; done))) | (first | rfl | (simp; done)))) | (exact T.num) | (dsimp only; (exact T.num)) | (first | rfl | (simp; done)))) | (apply AtL.mk' (id := 3) (S := Nat × Nat) ((i, (i + j) / 2)); (repeat' first | exact trivial | (refine And.intro ?_ ?_) | exact LSub.nil | (with_reducible exact LSub.refl) | (apply LSub.cons; (repeat first | refine goH ?_ | apply LHas.here | apply LHas.next); refine And.intro ?_ ?_; (focus (try (first | (with_reducible rfl) | (refine congrArg (Pl.mk _) ?_; (first | rfl | (simp; done))) | rfl | (with_reducible refine congrArg (Pl.mk _) ?_))))) | assumption | (exact srch_lo hs (by assumption) (m := (i + j) / 2) (by omega) (by have h9 := sub_e (hr ((i + j) / 2) (by omega)) hc; omega) (by omega)) | (exact srch_hi hs (by assumption) (m := (i + j) / 2) (by omega) (by have h9 := sub_e (hr ((i + j) / 2) (by omega)) hc; omega) (by omega)) | (exact h0) | (first | (focus (apply Eq.trans; (conv => lhs; whnf); (conv => rhs; whnf); done)) | rfl | ((conv => lhs; whnf); first | rfl | (refine congrArg (AV.int _) ?_; (exact T.num)) | (refine congrArg AV.bool ?_; (exact T.num)) | (refine vw_congr ?_; first | (exact T.num) | (first | rfl | (simp; done))) | (refine sl_congr ?_ ?_ <;> first | (exact T.num) | (first | rfl | (simp; done))) | (first | rfl | (simp; done)))) | (exact T.num) | (dsimp only; (exact T.num)) | (first | rfl | (simp; done))))) | exact T.z | refine ⟨_, rfl, rfl, ?_⟩ | fail) <;> conv => whnf)
 all_goals (try dsimp only)
 · have he := srch_end hs hok (by omega)
   have h9 := sub_e (hr ((i + j) / 2) (by omega)) hc
   (show RetL _ _ _; refine goR ?_)
   rw [h9]
   have e2 : (i + j) / 2 = posR l c := by omega
   rw [e2, ← he]
   simp only [iAV, hitR, ← he]
   refine congrArg (fun b => AV.tup [_, AV.bool b]) ?_
   rw [Bool.eq_iff_iff]
   simp only [icmp, decide_eq_true_eq, beq_iff_eq]
   omega
 · have he := srch_end hs hok (by omega)
   (show RetL _ _ _; refine goR ?_)
   simp only [iAV, hitR, ← he]
   refine congrArg (fun b => AV.tup [_, AV.bool b]) ?_
   symm
   rw [decide_eq_false_iff_not]
   omega
theorem find_c (l : List Hl) (c : Int) (hl : l.length ≤ 100000) (hs : ascH l) (hr : rngH l) (hc : 0 ≤ c ∧ c ≤ 1048576) : LSpec Tryz.prog G 41 [hlv l, iAV c] [] (fun _ => (.tup [iAV (posR l c), .bool (hitR l c)], [])) := by
 have h := bsearch_c (G := G) l c hl hs hr hc
 refine goW [] Tryz.func41 rfl ?_
 conv => whnf
 repeat' ((first | (show LCall _ _ _ _ _ _; first | refine LCall.pure (LSpec.argN (args := [hlv l, iAV c]) h) ?_ | refine goE ?_) | refine T.s ?_ | ((first | apply goB | apply ABr.dec | apply ABr.gen) <;> intro h <;> try (exfalso; omega)) | refine LFresh.mk fun r => ?_ | exact T.z | fail) <;> conv => whnf)
 all_goals (try dsimp only)
 (show RetL _ _ _; refine goR ?_)
 rfl
end Go.Proofs.YtnmifddidgofaaaGreatDoor
namespace Go.Proofs.YtnmifddidgofaaaGreatDoor
open Go.RowKit
section
variable {P : Program} {G : Nat → AV} {N : Nat} {e : Env} {l : LS} {σ σ0 : Store} {w0 w : World} {a : Act}
theorem Rel.adoptP {p : Nm} {j sz : Nat} {t0 : TypeId} {cs : List AV} (t : TypeId) (h : Rel G N e σ σ0 w0 a w) (hp : σ p = some ⟨t0, cs⟩) (hj : j < cs.length) (hn : cs.getD j .any = .nils) {k : Nat} (hk : σ (.v k) = none) :
   Rel G N e (upd (upd σ p ⟨t0, cs.set j (.vw (.v k) 0 0 sz)⟩) (.v k) ⟨t, []⟩) σ0 w0 a w := by
 have hpk : p ≠ .v k := fun e => by subst e; rw [hk] at hp; cases hp
 have hbn : ∀ b, σ (.b b) = none → (upd (upd σ p ⟨t0, cs.set j (.vw (.v k) 0 0 sz)⟩) (.v k) ⟨t, []⟩) (.b b) = none := fun b hb => by
   rw [upd_ne _ _ (by simp), upd_ne _ _ (fun e => by subst e; rw [hb] at hp; cases hp)]
   exact hb
 have hst : Stp σ w (upd (upd σ p ⟨t0, cs.set j (.vw (.v k) 0 0 sz)⟩) (.v k) ⟨t, []⟩) w := Stp.forget _ _ w hbn
 refine ⟨h.n, h.d.mono hst, fun x => (h.env x).mono hst, ⟨fun q c hq => ?_, fun m c hm => ?_, fin_upd (fin_upd h.mem.fin _ _) _ _⟩, h.st.trans hst, h.glob.mono hst⟩
 · rw [upd_ne _ _ (by simp)] at hq
   by_cases e : Nm.b q = p
   · subst e
     rw [upd_same] at hq; cases hq
     obtain ⟨cur, k1, k2, k3⟩ := h.mem.pl q _ hp
     refine ⟨cur, k1, by simpa using k2, fun i hi => ?_⟩
     have hi2 : i < cs.length := by
       have h5 : i < (cs.set j (AV.vw (.v k) 0 0 sz)).length := hi
       rwa [List.length_set] at h5
     by_cases hij : i = j
     · subst hij
       have k4 := k3 i hi2
       simp only at k4
       rw [hn] at k4
       have e2 : (cs.set i (AV.vw (.v k) 0 0 sz)).getD i .any = .vw (.v k) 0 0 sz := by simp [List.getD_eq_getElem?_getD, hi2]
       show Rd _ w ((cs.set i (AV.vw (.v k) 0 0 sz)).getD i .any) _
       rw [e2]
       generalize cur.getD i undef = u at k4
       cases k4
       exact .vwnil _ _
     · have e2 : (cs.set j (AV.vw (.v k) 0 0 sz)).getD i .any = cs.getD i .any := by
         simp only [List.getD_eq_getElem?_getD]
         rw [List.getElem?_set_ne (by omega)]
       show Rd _ w ((cs.set j (AV.vw (.v k) 0 0 sz)).getD i .any) _
       rw [e2]
       exact (k3 i hi2).mono hst
   · rw [upd_ne _ _ e] at hq
     obtain ⟨cur, k1, k2, k3⟩ := h.mem.pl q c hq
     exact ⟨cur, k1, k2, fun i hi => (k3 i hi).mono hst⟩
 · by_cases hmk : m = k
   · subst hmk; rw [upd_same] at hm; cases hm; rfl
   · rw [upd_ne _ _ (by simp; exact hmk)] at hm
     by_cases e : Nm.v m = p
     · subst e
       have := h.mem.vl m _ hp
       simp only at this
       rw [this] at hj
       simp at hj
     · rw [upd_ne _ _ e] at hm
       exact h.mem.vl m c hm
theorem SWpL.adoptP (p : Nm) (j sz : Nat) (t : TypeId) {c : Code} {Q : Exit → Env → LS → Prop} (h : LHas l p fun d s _ => j < d.cs.length ∧ d.cs.getD j .any = .nils ∧ ∀ q, SWpL P G N c Q e ((q, ⟨t, []⟩) :: s ⟨d.ty, d.cs.set j (.vw q 0 0 sz)⟩)) : SWpL P G N c Q e l := by
 obtain ⟨l1, d, l2, rfl, h1, h2, h3⟩ := h.ex
 refine ⟨fun φ hs => ⟨fun σ0 w0 a w hr hok => ?_⟩⟩
 obtain ⟨B, hB⟩ := hr.mem.fin
 have hk := hB B (Nat.le_refl _)
 have hs2 : Sep φ (l1 ++ (p, ⟨d.ty, d.cs.set j (.vw (.v B) 0 0 sz)⟩) :: l2) := hs.set
 have hr2 := hr.adoptP (sz := sz) t hs.get h1 h2 hk
 rw [hs.set'] at hr2
 have hs3 : Sep φ ((.v B, ⟨t, []⟩) :: (l1 ++ (p, ⟨d.ty, d.cs.set j (.vw (.v B) 0 0 sz)⟩) :: l2)) := hs2.new (by
   rw [← hs.set', upd_ne _ _ (fun e => by rw [e, hs.get] at hk; cases hk)]
   exact hk) _
 exact ((h3 (.v B)).run φ hs3).run σ0 w0 a w hr2 hok
end
open Go.RowKit
section
variable {P : Program} {G : Nat → AV} {N : Nat} {e : Env} {l : LS} {σ σ0 : Store} {w0 w : World} {a : Act}
theorem LFs.same {F : List Nm} : ∀ xs : List AV, LFs l F xs xs
 | [] => trivial
 | _ :: xs => ⟨.eq rfl, LFs.same xs⟩
end
open Go.RowKit
section
variable {P : Program} {G : Nat → AV} {l : LS}
theorem LCall.twoK {f : FuncId} {args : List AV} {x : AV} {r p : Nm} {c d c' d' : Pl} {K : AV → LS → Prop} (hs : r ≠ p → LSpec P G f args [(r, c), (p, d)] fun _ => (x, [(r, c'), (p, d')]))
   (hk : LHas l r fun c1 s rest => c1 = c ∧ LHas rest p fun d1 _ _ => d1 = d ∧ LHas (s c') p fun _ s2 _ => K x (s2 d')) : LCall P G f args l K := ⟨fun φ hsp => by
 obtain ⟨l1, c1, l2, rfl, rfl, ha⟩ := hk.ex
 obtain ⟨l3, d1, l4, e, rfl, hb⟩ := ha.ex
 obtain ⟨m1, e1, m2, e2, h⟩ := hb.ex
 clear hk ha hb
 have hnd := nd_mid hsp.nd
 have hp : p ∈ (l1 ++ l2).map (·.1) := by rw [e]; simp
 have hne : r ≠ p := fun hh => by
   subst hh
   rw [List.map_append, List.mem_append] at hp
   exact hp.elim hnd.1 hnd.2.1
 have hpp : putAll φ (l1 ++ (r, c1) :: l2) p = some d1 := by
   have h1 := hsp.rest
   rw [e] at h1
   have h2 := h1.get
   rw [← e, ← hsp.era', era_ne _ (Ne.symm hne)] at h2
   exact h2
 refine ⟨.inl ⟨[], args, [(r, c1), (p, d1)], _, rfl, fun _ _ => .refl _, hs hne, fun x hx => ?_, by simp [hne], fun q hq hn => ?_⟩⟩
 · simp only [List.mem_cons, List.not_mem_nil, or_false] at hx
   rcases hx with rfl | rfl
   · exact hsp.get
   · exact hpp
 · have h3 : Sep φ (l1 ++ (r, c') :: l2) := hsp.set
   have e3 : l1 ++ (r, c') :: l2 = m1 ++ (p, e1) :: m2 := e2
   have h4 := h3
   rw [e3] at h4
   refine ⟨m1 ++ (p, d') :: m2, ?_, h4.set, h⟩
   rw [← h4.set' d', ← e3, ← hsp.set' c']
   have key : ∀ σ : Store, Go.Proofs.YtnmifddidgofaaaGreatDoor.upd (Go.Proofs.YtnmifddidgofaaaGreatDoor.upd (era (era σ p) r) p d') r c' = Go.Proofs.YtnmifddidgofaaaGreatDoor.upd (Go.Proofs.YtnmifddidgofaaaGreatDoor.upd σ r c') p d' := fun σ => by
    funext y
    by_cases hy : y = r
    · subst hy
      rw [upd_same, upd_ne _ _ hne, upd_same]
    · rw [upd_ne _ _ hy]
      by_cases hz : y = p
      · subst hz; rw [upd_same, upd_same]
      · rw [upd_ne _ _ hz, upd_ne _ _ hz, upd_ne _ _ hy, era_ne _ hy, era_ne _ hz]
   exact key _⟩
end
open Go.RowKit
variable {G : Nat → AV}
def y0 (qs : List Nm) : Nm := qs.getD 0 (.b 0)
def y1 (qs : List Nm) : Nm := qs.getD 1 (.b 0)
@[simp] theorem y0_e (x y : Nm) : y0 [x, y] = x := rfl
@[simp] theorem y1_e (x y : Nm) : y1 [x, y] = y := rfl
theorem dready_c (s bp : Nm) (F : FuncId) : LSpecN Tryz.prog G 76 [.ptr s 0, .clo (.func F) [] [.ptr bp 0]] [] 2 (fun q => (.clo (.func 94) [] [.ptr (y0 q) 0, .ptr (y1 q) 0], [(y0 q, ⟨65, [.ptr s 0]⟩), (y1 q, ⟨53, [.clo (.func F) [] [.ptr bp 0]]⟩)])) := by
 refine LSpecN.introL tyOk Tryz.func76 rfl (by kernel_rfl) (by simp) (fun qs hq => by obtain ⟨x, y, rfl⟩ : ∃ x y, qs = [x, y] := (match qs, hq with | [x, y], _ => ⟨x, y, rfl⟩); exact ⟨by simp, by intro h1 h2; simp at h1 h2 ⊢; simp_all [eq_comm]⟩) ?_
 refine AWpL.sound tyOk [] _ _ _ _ ?_
 conv => whnf
 repeat' ((first | refine T.s ?_ | ((first | apply goB | apply ABr.dec | apply ABr.gen) <;> intro h <;> try (exfalso; omega)) | refine LFresh.mk fun r => ?_ | exact T.z | fail) <;> conv => whnf)
 all_goals (try dsimp only)
 rename_i a1
 refine RetLN.val [a1, r] rfl ?_ rfl ?_
 · exact LHas.next (LHas.here (LHas.here trivial))
 · (repeat' first | exact LSub.nil | (with_reducible exact LSub.refl) | (apply LSub.cons; (repeat first | refine goH ?_ | apply LHas.here | apply LHas.next); refine And.intro ?_ ?_; (focus (try (first | (with_reducible rfl) | (refine congrArg (Pl.mk _) ?_; (first | rfl | (simp; done))) | rfl | (with_reducible refine congrArg (Pl.mk _) ?_))))))
def hvA (q : Nm) (j n : Nat) : AV := .vw q (j * 2) (n - j) 2
theorem hvA_e {q : Nm} {j n : Nat} : hvA q j n = .vw q (j * 2) (n - j) 2 := rfl
theorem hvA_next {q : Nm} {j n a b : Nat} (ha : a = (j + 1) * 2) (hb : b = n - (j + 1)) : AV.vw q a b 2 = hvA q (j + 1) n := by subst ha hb; rfl
theorem hv_cases {q : Nm} {j N : Nat} {l : List Hl} {hv : AV} {W : Nat → Int → Bool} (he : hv = hvA q j l.length) (hj : j ≤ N) (hN : N ≤ l.length) (hT : j < N → W j (l.getD j Hl.z).c = true) (hF : N < l.length → W N (l.getD N Hl.z).c = false) :
   (j < N ∧ j < l.length ∧ hv = .vw q (j * 2) (l.length - j) 2 ∧ W j (l.getD j Hl.z).c = true) ∨ (j = N ∧ j < l.length ∧ hv = .vw q (j * 2) (l.length - j) 2 ∧ W j (l.getD j Hl.z).c = false) ∨ (j = N ∧ j = l.length ∧ hv = .vw q (j * 2) (l.length - j) 2) := by
 subst he
 by_cases h1 : j < N
 · exact .inl ⟨h1, by omega, rfl, hT h1⟩
 · obtain rfl : j = N := by omega
   by_cases h2 : j < l.length
   · exact .inr (.inl ⟨rfl, h2, rfl, hF h2⟩)
   · exact .inr (.inr ⟨rfl, by omega, rfl⟩)
attribute [irreducible] hvA
def outC (l : List (List UInt8)) : List AV := l.map bv
theorem dready1_c (b0 : Nat) (r0 : Loop) (e0 G0 : Nat → AV) (F : FuncId) (W : Nat → Int → Bool) (I : Nat → In) (l : List Hl) (j0 N : Nat) (outs : List (List UInt8)) (a w bp s q o : Nm) (hl : l.length ≤ 100000)
   (hj0 : j0 ≤ N) (hN : N ≤ l.length) (hT : ∀ j, j0 ≤ j → j < N → W j (l.getD j Hl.z).c = true) (hF : N < l.length → W N (l.getD N Hl.z).c = false)
   (hW : ∀ (j : Nat) (c : Int) (hv out : AV), j0 ≤ j → j ≤ N → ¬ bp = s → LSpec Tryz.prog (fun _ => .yl b0 r0 e0 G0) F [iAV c, .ptr bp 0] [(bp, ⟨65, [.ptr s 0]⟩), (s, ⟨67, sdC (I j) hv out⟩)] (fun _ => (.bool (W j c), [(bp, ⟨65, [.ptr s 0]⟩), (s, ⟨67, sdC (I j) hv out⟩)])))
   (hY : ∀ (j : Nat) (hv : AV) (o : Nm), j0 ≤ j → j < N → YSpec Tryz.prog b0 r0 e0 G0 (bv (l.getD j Hl.z).d) [(bp, ⟨65, [.ptr s 0]⟩), (s, ⟨67, sdC (I j) hv (.vw o 0 (outs.length + j) 1)⟩), (o, ⟨27, outC (outs ++ (l.take j).map (·.d))⟩)]
     (fun o' => [(o', ⟨27, outC (outs ++ (l.take (j + 1)).map (·.d))⟩), (bp, ⟨65, [.ptr s 0]⟩), (s, ⟨67, sdC (I (j + 1)) hv (.vw o' 0 (outs.length + (j + 1)) 1)⟩)]))
   (hn : [a, w, bp, s, q, o].Nodup) {hv0 : AV} (hv1 : hv0 = hvA q j0 l.length) :
   LSpec Tryz.prog (fun _ => .yl b0 r0 e0 G0) 94 [.lit (.func (.yield b0) #[] #[]), .ptr a 0, .ptr w 0]
     [(a, ⟨65, [.ptr s 0]⟩), (w, ⟨53, [.clo (.func F) [] [.ptr bp 0]]⟩), (bp, ⟨65, [.ptr s 0]⟩), (s, ⟨67, sdC (I j0) hv0 (.vw o 0 (outs.length + j0) 1)⟩), (q, ⟨56, l.flatMap Hl.cs⟩), (o, ⟨27, outC (outs ++ (l.take j0).map (·.d))⟩)]
     (fun o' => (.tup [], [(o', ⟨27, outC (outs ++ (l.take N).map (·.d))⟩), (a, ⟨65, [.ptr s 0]⟩), (w, ⟨53, [.clo (.func F) [] [.ptr bp 0]]⟩), (bp, ⟨65, [.ptr s 0]⟩), (s, ⟨67, sdC (I N) (hvA q N l.length) (.vw o' 0 (outs.length + N) 1)⟩), (q, ⟨56, l.flatMap Hl.cs⟩)])) := by
 subst hv1
 refine goW [2] Tryz.func94 rfl ?_
 conv => whnf
 repeat' ((first | (show CutL _ _ _ _ (.seq (.region 3 _ _) _) _ _ _; refine CutL.thenY tyOk [2] 2 rfl rfl rfl ?_) | (show AYlL _ _ _ _ _ _ _ _ _; apply AYlL.mk' (hY j _ _ (by omega) (by omega))) | exact Nm.b 0 | (refine And.intro ?_ ?_; (focus (first | ((try dsimp only); rw [hls_len]; omega) | exact T.kx | exact T.side))) | (show LCall _ _ _ _ _ _; first | (apply LCall.twoK (fun hne => hW _ _ _ _ (by omega) (by omega) hne); (repeat first | refine goH ?_ | apply LHas.here | apply LHas.next); refine ⟨rfl, ?_⟩; (repeat first | refine goH ?_ | apply LHas.here | apply LHas.next); refine ⟨rfl, ?_⟩; (repeat first | refine goH ?_ | apply LHas.here | apply LHas.next)) | refine goE ?_) | (show ACell _ _ _; first | (refine ACell.fld Hl.cs_len j 0 Hl.z (iAV (l.getD j Hl.z).c) ?_ (by decide) ?_ rfl ?_; (focus ((try dsimp only); omega)); (focus omega)) | (refine ACell.fld Hl.cs_len j 1 Hl.z (bv (l.getD j Hl.z).d) ?_ (by decide) ?_ rfl ?_; (focus ((try dsimp only); omega)); (focus omega))) | refine T.s ?_ | ((first | apply goB | apply ABr.dec | apply ABr.gen) <;> intro h <;> try (exfalso; omega)) | refine LFresh.mk fun r => ?_ | (show SWpL _ _ _ (.loop _) _ _ _; first | (apply goO tyOk [2] 0 (S := Nat × AV × Nm) [0] (fun (j, hv, o) => ⟨[(1, .ptr a 0), (2, .ptr w 0)], [(a, ⟨65, [.ptr s 0]⟩), (w, ⟨53, [.clo (.func F) [] [.ptr bp 0]]⟩), (bp, ⟨65, [.ptr s 0]⟩), (s, ⟨67, sdC (I j) hv (.vw o 0 (outs.length + j) 1)⟩), (q, ⟨56, l.flatMap Hl.cs⟩), (o, ⟨27, outC (outs ++ (l.take j).map (·.d))⟩)], hv = hvA q j l.length ∧ j0 ≤ j ∧ j ≤ N, N - j⟩) ((j0, hvA q j0 l.length, o)) (by rfl); (focus ((repeat' first | exact trivial | (refine And.intro ?_ ?_) | exact LSub.nil | (with_reducible exact LSub.refl) | (apply LSub.cons; (repeat first | refine goH ?_ | apply LHas.here | apply LHas.next); refine And.intro ?_ ?_; (focus (try (first | (with_reducible rfl) | (refine congrArg (Pl.mk _) ?_; (first | rfl | (simp; done))) | rfl | (with_reducible refine congrArg (Pl.mk _) ?_))))) | assumption | (exact hvA_next (by omega) (by omega)) | (first | (focus (apply Eq.trans; (conv => lhs; whnf); (conv => rhs; whnf); done)) | rfl | ((conv => lhs; whnf); first | rfl | (refine congrArg (AV.int _) ?_; (exact T.num)) | (refine congrArg AV.bool ?_; (exact T.num)) | (refine vw_congr ?_; first | (exact T.num) | (first | rfl | (simp; done))) | (refine sl_congr ?_ ?_ <;> first | (exact T.num) | (first | rfl | (simp; done))) | (first | rfl | (simp; done)))) | (exact T.num) | (dsimp only; (exact T.num)) | (first | rfl | (simp; done))); done)); rintro ⟨j, hv, o⟩ ⟨hk, hk, hok⟩; (have hv1 := hk; rcases hv_cases (by assumption) hok hN (fun h => hT j (by assumption) h) hF with ⟨hj1, hj2, rfl, hw⟩ | ⟨hj1, hj2, rfl, hw⟩ | ⟨hj1, hj2, rfl⟩))) | (show SWpL _ _ _ _ _ _ _; first | refine gX 0 [] [0, 1, 2, 3, 4, 5, 6, 7, 8, 9, 10, 11, 12, 13, 14, 15, 16, 17, 18] [s] ?_ | refine gX 2 [] [0, 1, 2, 3, 4, 5, 6, 7, 8, 9, 10] [s] ?_) | (show AtL _ _ _ _ _ _ _ _ _ _; first | (apply AtL.mk' (id := 0) (S := Nat × AV × Nm) ((j + 1, _, _)); (repeat' first | exact trivial | (refine And.intro ?_ ?_) | exact LSub.nil | (with_reducible exact LSub.refl) | (apply LSub.cons; (repeat first | refine goH ?_ | apply LHas.here | apply LHas.next); refine And.intro ?_ ?_; (focus (try (first | (with_reducible rfl) | (refine congrArg (Pl.mk _) ?_; (first | rfl | (simp; done))) | rfl | (with_reducible refine congrArg (Pl.mk _) ?_))))) | assumption | (exact hvA_next (by omega) (by omega)) | (first | (focus (apply Eq.trans; (conv => lhs; whnf); (conv => rhs; whnf); done)) | rfl | ((conv => lhs; whnf); first | rfl | (refine congrArg (AV.int _) ?_; (exact T.num)) | (refine congrArg AV.bool ?_; (exact T.num)) | (refine vw_congr ?_; first | (exact T.num) | (first | rfl | (simp; done))) | (refine sl_congr ?_ ?_ <;> first | (exact T.num) | (first | rfl | (simp; done))) | (first | rfl | (simp; done)))) | (exact T.num) | (dsimp only; (exact T.num)) | (first | rfl | (simp; done))); done) | (apply AtL.mk' (id := 0) (S := Nat × AV × Nm) ((j + 1, _, _)); (repeat' first | exact trivial | (refine And.intro ?_ ?_) | exact LSub.nil | (with_reducible exact LSub.refl) | (apply LSub.cons; (repeat first | refine goH ?_ | apply LHas.here | apply LHas.next); refine And.intro ?_ ?_; (focus (try (first | (with_reducible rfl) | (refine congrArg (Pl.mk _) ?_; (first | rfl | (simp; done))) | rfl | (with_reducible refine congrArg (Pl.mk _) ?_))))) | assumption | (exact hvA_next (by omega) (by omega)) | (first | (focus (apply Eq.trans; (conv => lhs; whnf); (conv => rhs; whnf); done)) | rfl | ((conv => lhs; whnf); first | rfl | (refine congrArg (AV.int _) ?_; (exact T.num)) | (refine congrArg AV.bool ?_; (exact T.num)) | (refine vw_congr ?_; first | (exact T.num) | (first | rfl | (simp; done))) | (refine sl_congr ?_ ?_ <;> first | (exact T.num) | (first | rfl | (simp; done))) | (first | rfl | (simp; done)))) | (exact T.num) | (dsimp only; (exact T.num)) | (first | rfl | (simp; done))))) | (show CutL _ _ _ _ _ _ _ _; first | refine CutL.go tyOk [2] ?_) | (show (_ → _) ∧ (¬ _ → _); first | refine T.y ?_ | refine dec_both (fun h => ?_) (fun h => ?_)) | exact T.z | fail) <;> conv => whnf)
 all_goals (try dsimp only)
 all_goals
   (try subst hj1)
   refine RetL.own o rfl ?_ ?_
   · (repeat first | refine goH ?_ | apply LHas.here | apply LHas.next); trivial
   · rw [← hk]
     (repeat' first | exact LSub.nil | (with_reducible exact LSub.refl) | (apply LSub.cons; (repeat first | refine goH ?_ | apply LHas.here | apply LHas.next); refine And.intro ?_ ?_; (focus (try (first | (with_reducible rfl) | (refine congrArg (Pl.mk _) ?_; (first | rfl | (simp; done))) | rfl | (with_reducible refine congrArg (Pl.mk _) ?_))))))
theorem hl_drop (l : List Hl) (i j : Nat) : (l.drop i).getD j Hl.z = l.getD (i + j) Hl.z := by simp only [List.getD_eq_getElem?_getD, List.getElem?_drop]
def runN (f : Int) : List Hl → Nat
 | [] => 0
 | x :: r => if x.c = f then runN (f + 1) r + 1 else 0
theorem runN_le : ∀ (l : List Hl) (f : Int), runN f l ≤ l.length
 | [], _ => Nat.le_refl _
 | x :: r, f => by
   unfold runN
   split
   · have := runN_le r (f + 1); simp; omega
   · simp
theorem runN_yes : ∀ (l : List Hl) (f : Int) (j : Nat), j < runN f l → (l.getD j Hl.z).c = f + j
 | [], _, j, h => by simp [runN] at h
 | x :: r, f, j, h => by
   unfold runN at h
   split at h
   · cases j with
     | zero => simpa using ‹x.c = f›
     | succ j =>
       have := runN_yes r (f + 1) j (by omega)
       simp only [List.getD_cons_succ]
       rw [this]; push_cast; omega
   · omega
theorem runN_no : ∀ (l : List Hl) (f : Int), runN f l < l.length → ¬ (l.getD (runN f l) Hl.z).c = f + runN f l
 | [], _, h => by simp at h
 | x :: r, f, h => by
   unfold runN at h ⊢
   split
   · rename_i hx
     rw [if_pos hx] at h
     have := runN_no r (f + 1) (by simpa using h)
     simp only [List.getD_cons_succ]
     push_cast
     rw [show f + ((runN (f + 1) r : Int) + 1) = f + 1 + runN (f + 1) r by omega]
     exact this
   · simpa using ‹¬ x.c = f›
attribute [irreducible] runN
def nxV (i : In) : Int := if i.n < i.f then i.f else i.n
def nxtI (i : In) : In := { i with n := nxV i }
def clrI (i : In) : In := if 0 < i.l ∧ i.m ≤ i.f then { i with l := 0, m := 0 } else i
def armI (i : In) : In := if i.l = 0 ∧ 0 < i.t ∧ i.f < i.n then { i with l := i.t, m := i.n } else i
def onI (i : In) : In := armI (clrI (nxtI i))
theorem onI_a {x : In} (h1 : 0 < x.l) (h2 : x.m ≤ x.f) (h3 : 0 < x.t) (h4 : x.f < nxV x) : onI x = { x with n := nxV x, l := x.t, m := nxV x } := by
 unfold onI
 rw [show clrI (nxtI x) = { x with n := nxV x, l := 0, m := 0 } from if_pos ⟨h1, h2⟩]
 exact if_pos ⟨rfl, h3, h4⟩
theorem onI_b {x : In} (h1 : 0 < x.l) (h2 : x.m ≤ x.f) (h3 : ¬ (0 < x.t ∧ x.f < nxV x)) : onI x = { x with n := nxV x, l := 0, m := 0 } := by
 unfold onI
 rw [show clrI (nxtI x) = { x with n := nxV x, l := 0, m := 0 } from if_pos ⟨h1, h2⟩]
 exact if_neg fun h => h3 h.2
theorem onI_c {x : In} (h1 : ¬ (0 < x.l ∧ x.m ≤ x.f)) (h2 : x.l = 0) (h3 : 0 < x.t) (h4 : x.f < nxV x) : onI x = { x with n := nxV x, l := x.t, m := nxV x } := by
 unfold onI
 rw [show clrI (nxtI x) = { x with n := nxV x } from if_neg h1]
 exact if_pos ⟨h2, h3, h4⟩
theorem onI_d {x : In} (h1 : ¬ (0 < x.l ∧ x.m ≤ x.f)) (h2 : ¬ (x.l = 0 ∧ 0 < x.t ∧ x.f < nxV x)) : onI x = { x with n := nxV x } := by
 unfold onI
 rw [show clrI (nxtI x) = { x with n := nxV x } from if_neg h1]
 exact if_neg h2
def stpI (i : In) (k : Nat) : In := { i with f := i.f + k }
theorem stp_succ (i : In) {j0 j : Nat} (h : j0 ≤ j) (hj : j ≤ 100000) (hf : 0 ≤ i.f ∧ i.f ≤ 4000000) : stpI i (j + 1 - j0) = { stpI i (j - j0) with f := iarith .add .i64 (stpI i (j - j0)).f 1 } := by
 have e : iarith .add .i64 (stpI i (j - j0)).f 1 = i.f + ((j + 1 - j0 : Nat) : Int) := by
   show iarith .add .i64 (i.f + ((j - j0 : Nat) : Int)) 1 = _
   have : ((j + 1 - j0 : Nat) : Int) = ((j - j0 : Nat) : Int) + 1 := by omega
   have h9 : ((j - j0 : Nat) : Int) ≤ 100000 := by omega
   rw [this]
   generalize ((j - j0 : Nat) : Int) = z at *
   (exact T.num)
 rw [e]; rfl
theorem out_succ (outs : List (List UInt8)) (l : List Hl) (j : Nat) (h : j < l.length) : outC (outs ++ (l.take (j + 1)).map (·.d)) = outC (outs ++ (l.take j).map (·.d)) ++ [bv (l.getD j Hl.z).d] := by
 have e : l.take (j + 1) = l.take j ++ [l.getD j Hl.z] := by
   rw [List.take_succ, List.getD_eq_getElem?_getD, List.getElem?_eq_getElem h]; rfl
 rw [e]
 simp [outC]
theorem dproceed_c (hG : ∀ g, (G g).isYl = false) (i : In) (l : List Hl) (j0 N : Nat) (outs : List (List UInt8)) (s q o : Nm) (hl : l.length ≤ 100000) (hf : 0 ≤ i.f ∧ i.f ≤ 4000000) (hN : N = j0 + runN i.f (l.drop j0)) (hj : j0 ≤ l.length) (ho : outs.length ≤ 100000) (hn : [s, q, o].Nodup) {hv0 : AV} (hv1 : hv0 = hvA q j0 l.length) :
   LSpec Tryz.prog G 43 [.ptr s 0] [(s, ⟨67, sdC i hv0 (.vw o 0 (outs.length + j0) 1)⟩), (q, ⟨56, l.flatMap Hl.cs⟩), (o, ⟨27, outC (outs ++ (l.take j0).map (·.d))⟩)]
     (fun o' => (.tup [], [(o', ⟨27, outC (outs ++ (l.take N).map (·.d))⟩), (s, ⟨67, sdC (onI (stpI i (N - j0))) (hvA q N l.length) (.vw o' 0 (outs.length + N) 1)⟩), (q, ⟨56, l.flatMap Hl.cs⟩)])) := by
 subst hv1
 have hr := runN_le (l.drop j0) i.f
 rw [List.length_drop] at hr
 have hT : ∀ j, j0 ≤ j → j < N → decide ((l.getD j Hl.z).c = (stpI i (j - j0)).f) = true := fun j h1 h2 => by
   have := runN_yes (l.drop j0) i.f (j - j0) (by omega)
   rw [hl_drop, show j0 + (j - j0) = j by omega] at this
   rw [this]; simp [stpI]
 have hF : N < l.length → decide ((l.getD N Hl.z).c = (stpI i (N - j0)).f) = false := fun h => by
   have := runN_no (l.drop j0) i.f (by rw [List.length_drop]; omega)
   rw [hl_drop, show j0 + runN i.f (l.drop j0) = N by omega] at this
   rw [decide_eq_false_iff_not]
   intro e
   refine this (e.trans ?_)
   show i.f + ((N - j0 : Nat) : Int) = _
   congr 2; omega
 have h0 : sdC i (hvA q j0 l.length) (.vw o 0 (outs.length + j0) 1) = sdC (stpI i (j0 - j0)) (hvA q j0 l.length) (.vw o 0 (outs.length + j0) 1) := by rw [Nat.sub_self]; simp [sdC, stpI]
 rw [h0]
 refine goW [] Tryz.func43 rfl ?_
 conv => whnf
 repeat' ((first | (show SWpL _ _ _ (.rangeFunc _ _ _ _) _ _ _; rename_i bp; apply SWpL.rangeFunc hG rfl (fun hnd fn us b D hus => dready1_c (hv0 := hvA q j0 l.length) b _ _ _ 77 (fun j c => decide (c = (stpI i (j - j0)).f)) (fun j => stpI i (j - j0)) l j0 N outs _ _ bp s q o hl (by omega) (by omega) hT hF (fun j c hv out _ _ hbs => dwant_c c bp s (stpI i (j - j0)) hv out (by simp [hbs])) (fun j hv o2 h1 h2 => YSpec.introL tyOk [] [] hG rfl rfl rfl hus (Nat.le_of_ble_eq_true rfl) rfl rfl (fun x => ⟨by simp, by intro h; simp at hnd h ⊢; simp_all⟩) (fun hnd2 => ?_)) (by exact hnd) rfl)) | exact Nm.b 0 | (show LCall _ _ _ _ _ _; first | refine LCall.mkN (dready_c _ _ _) [] (LFs.refl _) ?_ | refine goE ?_) | refine T.s ?_ | ((first | apply goB | apply ABr.dec | apply ABr.gen) <;> intro h <;> try (exfalso; omega)) | refine LFresh.mk fun r => ?_ | refine LFreshN.two fun r r2 => ?_ | refine LFreshN.three fun r r2 r3 => ?_ | (show SWpL _ _ _ _ _ _ _; first | (refine goD tyOk mixed 3 [0, 7] [0, 1, 2, 3, 4, 5, 6, 7, 8, 9, 10] [bp] (by kernel_rfl) ?_) | refine gX 5 [] [0, 1, 2, 3, 4, 5, 6, 7, 8, 9, 10, 11, 12, 13, 14, 15] [s] ?_ | refine gX 6 [] [0, 1, 2, 3, 4, 5, 6, 7, 8, 9, 10, 11, 12, 13, 14, 15, 16, 17, 18] [s] ?_ | refine gX 7 [1, 5] [0, 1, 2, 3, 4, 5, 6, 7, 8, 9] [s] ?_ | refine gX 8 [] [0, 1, 2, 3, 4, 5, 6, 7, 8, 9, 10, 11, 12, 13, 14, 15, 16, 17, 18, 19, 20, 21, 22, 23, 24, 25, 26] [s] ?_ | refine gX 9 [1, 15] [0, 1, 2, 3, 4, 5, 6, 7, 8, 9, 10, 11, 12, 13, 14, 15, 16, 17, 18, 19] [s] ?_) | exact T.z | fail) <;> conv => whnf)
 all_goals (try dsimp only)
 all_goals first
   | (show RetL (fun o' => (_, [(o', _), (s, _), (q, _)])) _ _
      refine RetL.own r rfl ?_ ?_
      · (repeat first | refine goH ?_ | apply LHas.here | apply LHas.next); trivial
      · first
          | rw [onI_a (by assumption) (by assumption) (by assumption) (by assumption)]
          | rw [onI_b (by assumption) (by assumption) (fun h => by first | exact absurd h.1 (by assumption) | exact absurd h.2 (by assumption))]
          | rw [onI_c (fun h => by first | exact absurd h.1 (by assumption) | exact absurd h.2 (by assumption)) (by assumption) (by assumption) (by assumption)]
          | rw [onI_d (fun h => by first | exact absurd h.1 (by assumption) | exact absurd h.2 (by assumption)) (fun h => by first | exact absurd h.1 (by assumption) | exact absurd h.2.1 (by assumption) | exact absurd h.2.2 (by assumption))]
        (repeat' first | exact LSub.nil | (with_reducible exact LSub.refl) | (apply LSub.cons; (repeat first | refine goH ?_ | apply LHas.here | apply LHas.next); refine And.intro ?_ ?_; (focus (try (first | (with_reducible rfl) | (refine congrArg (Pl.mk _) ?_; (first | rfl | (simp; done))) | rfl | (with_reducible refine congrArg (Pl.mk _) ?_)))))))
   | (refine RetL.own r rfl ?_ ?_
      · (repeat first | refine goH ?_ | apply LHas.here | apply LHas.next); trivial
      · rw [out_succ outs l j (by omega), stp_succ i (by assumption) (by omega) hf]
        (repeat' first | exact LSub.nil | (with_reducible exact LSub.refl) | (apply LSub.cons; (repeat first | refine goH ?_ | apply LHas.here | apply LHas.next); refine And.intro ?_ ?_; (focus (try (first | (with_reducible rfl) | (refine congrArg (Pl.mk _) ?_; (first | rfl | (simp; done))) | rfl | (with_reducible refine congrArg (Pl.mk _) ?_)))))))
   | trace_state
open Go.RowKit
variable {G : Nat → AV}
section
variable {P : Program} {l : LS}
theorem LCall.manyD {f : FuncId} {args : List AV} {ps : LS} {post : Nm → AV × LS} {K : AV → LS → Prop} (hs : (ps.map (·.1)).Nodup → LSpec P G f args ps post) (h : LTake l ps fun r => LFresh fun q => K (post q).1 ((post q).2 ++ r)) : LCall P G f args l K := ⟨fun φ hsp => by
 obtain ⟨r, -, -, -, h4, -⟩ := LTake.sound h hsp
 exact (LCall.mk' (hs h4) [] (.refl _) h).run φ hsp⟩
end
structure Vf (i : In) : Prop where
 b : bitsOk i.b = true
 k : i.k.ok = true
 f : 0 ≤ i.f ∧ i.f ≤ 1048576
 n : i.f ≤ i.n ∧ i.n ≤ 1048576
 t : 0 ≤ i.t ∧ i.t ≤ 1000
 l : 0 ≤ i.l ∧ i.l ≤ i.t
 m : (i.l = 0 ∧ i.m = 0) ∨ (0 < i.l ∧ i.f < i.m ∧ i.m ≤ i.n)
 w : i.n ≤ iarith .add .i64 i.f (winR i.b)
 h : ∀ j, j < i.h.length → lastC i.f i.h j < (i.h.getD j Hl.z).c ∧ (i.h.getD j Hl.z).c < i.n ∧ 1 ≤ (i.h.getD j Hl.z).d.length ∧ (i.h.getD j Hl.z).d.length ≤ 2048
 e : (i.f < i.n ∧ lastC i.f i.h i.h.length = i.n - 1 ∧ 0 < i.h.length) ∨ (i.f = i.n ∧ i.h = [])
theorem Vf.of {i : In} (h : i.ok = true) : Vf i := by
 unfold In.ok at h
 simp only [Bool.and_eq_true, decide_eq_true_eq] at h
 obtain ⟨h1, h2, ⟨h3, h4, h5, h6, h7, h8, h9, h10, h11⟩, h12⟩ := h
 have hh : heldOk i = true ∧ ((i.l = 0 ∧ i.m = 0) ∨ (0 < i.l ∧ i.f < i.m ∧ i.m ≤ i.n)) := by
   split at h12
   · simp only [Bool.and_eq_true, decide_eq_true_eq] at h12
     exact ⟨h12.2, .inr ⟨by assumption, h12.1⟩⟩
   · simp only [Bool.and_eq_true, decide_eq_true_eq] at h12
     exact ⟨h12.2, .inl ⟨by omega, h12.1⟩⟩
 obtain ⟨hh1, hh2⟩ := hh
 unfold heldOk at hh1
 rw [Bool.and_eq_true] at hh1
 obtain ⟨ha, hb⟩ := hh1
 refine ⟨h1, h2, ⟨h3, h4⟩, ⟨h5, h7⟩, ⟨h8, h9⟩, ⟨h10, h11⟩, hh2, h6, fun j hj => ?_, ?_⟩
 · unfold hldTo at ha
   rw [List.all_eq_true] at ha
   have := ha j (List.mem_range.2 hj)
   simpa [hlOk] using this
 · split at hb
   · rename_i hlt
     simp only [decide_eq_true_eq] at hb
     refine .inl ⟨hlt, ?_, hb.2⟩
     rw [hb.1]
     have : iarith .sub .i64 i.n 1 = i.n - 1 := by (exact T.num)
     exact this
   · simp only [decide_eq_true_eq] at hb
     exact .inr ⟨by omega, List.eq_nil_of_length_eq_zero hb⟩
theorem Vf.lo {i : In} (v : Vf i) : ∀ j, j < i.h.length → i.f < (i.h.getD j Hl.z).c := by
 intro j
 induction j with
 | zero => exact fun hj => (v.h 0 hj).1
 | succ j ih =>
   intro hj
   have h1 := (v.h (j + 1) hj).1
   have h2 := ih (by omega)
   simp only [lastC] at h1
   omega
theorem Vf.asc {i : In} (v : Vf i) : ascH i.h := by
 intro a b hab hb
 induction b with
 | zero => omega
 | succ b ih =>
   have h1 := (v.h (b + 1) hb).1
   simp only [lastC] at h1
   by_cases e : a = b
   · subst e; exact h1
   · have := ih (by omega) (by omega); omega
theorem Vf.rng {i : In} (v : Vf i) : rngH i.h := fun j hj => by
 have h1 := v.lo j hj
 have h2 := v.h j hj
 have h3 := v.f
 have h4 := v.n
 omega
def bsv (l : List (List UInt8)) : AV := .sl l.length (l.map bv)
def rAV (x : In × List (List UInt8) × Int) : AV := .tup [x.1.av, bsv x.2.1, iAV x.2.2]
def inZ : In := ⟨0, ⟨[], [], 0, 0, 0⟩, 0, 0, 0, 0, 0, []⟩
def behI (i : In) (j0 : Nat) : In := { onI (stpI i (runN i.f (i.h.drop j0))) with h := i.h.drop (j0 + runN i.f (i.h.drop j0)) }
def behO (i : In) (j0 : Nat) : List (List UInt8) := (i.h.take (j0 + runN i.f (i.h.drop j0))).map (·.d)
theorem hvA_0 (q : Nm) (n : Nat) : AV.vw q 0 n 2 = hvA q 0 n := (hvA_e (q := q) (j := 0) (n := n)).symm
theorem LF.hv {l : LS} {F : List Nm} {q : Nm} {N : Nat} {l0 : List Hl} (hF : InL q F) (hN : N ≤ l0.length) (h : LHas l q fun c _ _ => c.cs = l0.flatMap Hl.cs) : LF l F (hvA q N l0.length) (hlv (l0.drop N)) := by
 rw [hvA_e]
 refine LF.part hF (LHas.mono h fun c _ _ hcs => ⟨by decide, ?_, by simp, ?_⟩)
 · rw [hcs, hls_len, ← Nat.add_mul]; exact Nat.mul_le_mul_right _ (by omega)
 · rw [hcs, fm_drop Hl.cs_len, List.take_of_length_le (by rw [hls_len, List.length_drop]; omega)]
theorem ret_side {x : In} {l0 : List Hl} {N n : Nat} {q o : Nm} {outs : List (List UInt8)} {e : Int} {l : LS} {hv : AV} (he : hv = hvA q N l0.length) (hx : x.h = l0.drop N) (hN : N ≤ l0.length) (hn : n = outs.length) (h : LHas l q fun c _ r => c.cs = l0.flatMap Hl.cs ∧ LHas l o fun c' _ _ => c'.cs = outC outs ∧ LHas r o fun _ _ _ => True) :
   RetL (fun _ => (rAV (x, outs, e), [])) (.tup [.agg (inC x hv), .vw o 0 n 1, iAV e]) l := by
 subst he
 have h1 : LHas l q fun c _ _ => c.cs = l0.flatMap Hl.cs := LHas.mono h fun _ _ _ h => h.1
 have h2 : LHas l o fun c _ _ => c.cs = outs.map bv ∧ n = outs.length := by
   obtain ⟨l1, c, l2, -, -, h⟩ := h.ex
   exact LHas.mono h fun _ _ _ h => ⟨h.1, hn⟩
 have h3 : LEra l [q, o] (LSub []) := LHas.mono h fun _ _ r h => by
   obtain ⟨l1, c, l2, -, -, h⟩ := h.2.ex
   exact LHas.mono h fun _ _ _ _ => LSub.nil
 refine RetL.frz [q, o] (LF.tup ⟨LF.agg ⟨LF.eq rfl, LF.eq rfl, LF.eq rfl, LF.eq rfl, LF.eq rfl, LF.eq rfl, LF.eq rfl, LF.eq rfl, LF.eq rfl, LF.eq rfl, LF.eq rfl, ?_, trivial⟩, LF.rowF (InL.next InL.here) h2, LF.eq rfl, trivial⟩) h3
 show LF l [q, o] _ (hlv x.h)
 rw [hx]
 exact LF.hv InL.here hN h1
theorem ret_held {x : In} {q : Nm} {e : Int} {l : LS} {n : Nat} (hn : n = x.h.length) (h : LHas l q fun c _ _ => c.cs = x.h.flatMap Hl.cs) :
   RetL (fun _ => (rAV (x, [], e), [])) (.tup [.agg (inC x (.vw q 0 n 2)), .nils, iAV e]) l := by
 subst hn
 have h3 : LEra l [q] (LSub []) := LHas.mono h fun _ _ _ _ => LSub.nil
 exact RetL.frz [q] (LF.tup ⟨LF.agg ⟨LF.eq rfl, LF.eq rfl, LF.eq rfl, LF.eq rfl, LF.eq rfl, LF.eq rfl, LF.eq rfl, LF.eq rfl, LF.eq rfl, LF.eq rfl, LF.eq rfl, LF.row InL.here (LHas.mono h fun c _ _ hc => ⟨by decide, by rw [hc]; exact hls_len _, rfl, hc.symm⟩), trivial⟩, LF.nils rfl rfl, LF.eq rfl, trivial⟩) h3
theorem ret_zero {e : Int} {l : LS} : RetL (fun _ => (rAV (inZ, [], e), [])) (.tup [.agg zIn, .nils, iAV e]) l :=
 RetL.frz [] (LF.tup ⟨LF.agg ⟨LF.eq rfl, LF.nils rfl rfl, LF.nils rfl rfl, LF.eq rfl, LF.eq rfl, LF.eq rfl, LF.eq rfl, LF.eq rfl, LF.eq rfl, LF.eq rfl, LF.eq rfl, LF.nils rfl rfl, trivial⟩, LF.nils rfl rfl, LF.eq rfl, trivial⟩) LSub.nil
theorem dproceed_b (hG : ∀ g, (G g).isYl = false) (i : In) (j0 : Nat) (outs : List (List UInt8)) (s q o : Nm) (hl : i.h.length ≤ 100000) (hf : 0 ≤ i.f ∧ i.f ≤ 4000000) (hj : j0 ≤ i.h.length) (ho : outs.length ≤ 100000) (hn : [s, q, o].Nodup) {hv0 : AV} (hv1 : hv0 = hvA q j0 i.h.length) :
   LSpec Tryz.prog G 43 [.ptr s 0] [(s, ⟨67, sdC i hv0 (.vw o 0 (outs.length + j0) 1)⟩), (q, ⟨56, i.h.flatMap Hl.cs⟩), (o, ⟨27, outC (outs ++ (i.h.take j0).map (·.d))⟩)]
     (fun o' => (.tup [], [(o', ⟨27, outC (outs ++ behO i j0)⟩), (s, ⟨67, sdC (behI i j0) (hvA q (j0 + runN i.f (i.h.drop j0)) i.h.length) (.vw o' 0 (outs.length + (j0 + runN i.f (i.h.drop j0))) 1)⟩), (q, ⟨56, i.h.flatMap Hl.cs⟩)])) := by
 have h := dproceed_c hG i i.h j0 (j0 + runN i.f (i.h.drop j0)) outs s q o hl hf rfl hj ho hn hv1
 rw [Nat.add_sub_cancel_left] at h
 exact h
theorem run_le (i : In) {j0 : Nat} (h : j0 ≤ i.h.length) : j0 + runN i.f (i.h.drop j0) ≤ i.h.length := by
 have := runN_le (i.h.drop j0) i.f
 rw [List.length_drop] at this
 omega
theorem behO_len (i : In) {j0 : Nat} (h : j0 ≤ i.h.length) : (behO i j0).length = j0 + runN i.f (i.h.drop j0) := by
 have := run_le i h
 simp [behO]; omega
def tickR (i : In) : In × List (List UInt8) × Int :=
 if i.ok = true then (if i.l = 0 then (i, [], 0) else if i.l = 1 then (behI { i with l := 0, f := i.m, m := 0 } (posR i.h i.m), behO { i with l := 0, f := i.m, m := 0 } (posR i.h i.m), 0) else ({ i with l := i.l - 1 }, [], 0)) else (inZ, [], 1)
theorem dtick_c (hG : ∀ g, (G g).isYl = false) (i : In) (hl : i.h.length ≤ 100000) : LSpec Tryz.prog G 60 [i.av] [] (fun _ => (rAV (tickR i), [])) := by
 have hv := dvalid_c (G := G) i hl
 cases hok : i.ok with
 | false =>
   rw [show tickR i = (inZ, [], 1) by unfold tickR; rw [if_neg (by rw [hok]; decide)]]
   rw [hok] at hv
   refine goW [] Tryz.func60 rfl ?_
   conv => whnf
   repeat' ((first | exact Nm.b 0 | (show LCall _ _ _ _ _ _; first | refine LCall.pure (hv) ?_ | refine goE ?_) | refine T.s ?_ | ((first | apply goB | apply ABr.dec | apply ABr.gen) <;> intro h <;> try (exfalso; omega)) | refine LFresh.mk fun r => ?_ | (show SWpL _ _ _ _ _ _ _; first | (refine goD tyOk mixed 10 [0, 7] [0, 1, 2, 3, 4, 5, 6, 7, 8, 9, 10] [] (by kernel_rfl) ?_) | (refine goD tyOk mixed 11 [1, 10] [0, 1, 2, 3, 4, 5, 6, 7, 8, 9, 10, 11, 12, 13, 14] [] (by kernel_rfl) ?_) | (refine goD tyOk mixed 13 [4, 7, 8] [0, 1, 2, 3, 4, 5, 6, 7, 8, 9, 10] [] (by kernel_rfl) ?_)) | exact T.z | fail) <;> conv => whnf)
   all_goals (try dsimp only)
   exact ret_zero
 | true =>
   have v := Vf.of hok
   rw [hok] at hv
   have hc := dclone_o (G := G) i v.k hl (fun k hk => by have := (v.h k hk).2.2.2; omega)
   have hN1 := pos_le i.h i.m
   generalize hp : posR i.h i.m = N1 at *
   have hT : ∀ j, 0 ≤ j → j < N1 → decide ((i.h.getD j Hl.z).c < i.m) = true := fun j _ h => decide_eq_true (pos_lt i.h i.m j (by omega))
   have hF : N1 < i.h.length → decide ((i.h.getD N1 Hl.z).c < i.m) = false := fun h => by
     have := pos_ge i.h i.m (by omega)
     rw [hp] at this
     exact decide_eq_false (by omega)
   all_goals
    refine goW [3] Tryz.func60 rfl ?_
    conv => whnf
    repeat' ((first | (rw [hvA_e]) | (show LCall _ _ _ [.ptr _ 0] _ _; apply LCall.manyD (fun hnd => dproceed_b (hv0 := hvA q N1 i.h.length) hG { i with l := iarith .sub .i64 i.l 1, f := i.m, m := 0 } N1 [] s q _ hl (by dsimp only; have h1 := v.n; have h2 := v.m; have h3 := v.f; omega) hN1 (by simp) (by exact hnd) rfl)) | (show SWpL _ _ _ (.rangeFunc _ _ _ _) _ _ _; refine SWpL.adoptP s 12 1 27 ?_; (repeat first | refine goH ?_ | apply LHas.here | apply LHas.next); refine ⟨Nat.le_of_ble_eq_true rfl, rfl, fun o => ?_⟩; (try dsimp only); apply SWpL.rangeFunc hG rfl (fun hnd fn us b D hus => dready1_c (hv0 := .vw q 0 i.h.length 2) b _ _ _ 83 (fun j c => decide (c < i.m)) (fun j => { i with l := iarith .sub .i64 i.l 1 }) i.h 0 N1 [] _ _ t s q o hl (by omega) (by omega) hT hF (fun j c hv out _ _ hbs => dwantT_c c t s { i with l := iarith .sub .i64 i.l 1 } hv out (by simp [hbs])) (fun j hv o2 h1 h2 => YSpec.introL tyOk [] [] hG rfl rfl rfl hus (Nat.le_of_ble_eq_true rfl) rfl rfl (fun x => ⟨by simp, by intro h; simp at hnd h ⊢; simp_all⟩) (fun hnd2 => ?_)) (by exact hnd) (hvA_0 q i.h.length))) | exact Nm.b 0 | (show LCall _ _ _ _ _ _; first | refine LCall.pure (hv) ?_ | refine LCall.own (hc) ?_ | refine LCall.mkN (dready_c _ _ _) [] (LFs.refl _) ?_ | refine goE ?_) | refine T.s ?_ | ((first | apply goB | apply ABr.dec | apply ABr.gen) <;> intro h <;> try (exfalso; omega)) | refine LFresh.mk fun r => ?_ | refine LFreshN.two fun r r2 => ?_ | refine LFreshN.three fun r r2 r3 => ?_ | (show SWpL _ _ _ _ _ _ _; first | (refine goD tyOk mixed 10 [0, 7] [0, 1, 2, 3, 4, 5, 6, 7, 8, 9, 10] [t] (by kernel_rfl) ?_) | ((skip); refine gX 11 [1, 10] [0, 1, 2, 3, 4, 5, 6, 7, 8, 9, 10, 11, 12, 13, 14] [s] ?_) | refine gX 13 [4, 7, 8] [0, 1, 2, 3, 4, 5, 6, 7, 8, 9, 10] [b2] ?_) | (show CutL _ _ _ _ _ _ _ _; first | (refine goK tyOk [3] 3 (S := Nm × Nm × Nm × Nm) [43] (fun (b2, q, s, t) => ⟨[(2, .ptr b2 0), (5, .ptr t 0)], [(t, ⟨65, [.ptr s 0]⟩), (s, ⟨67, sdC i (.vw q 0 i.h.length 2) .nils⟩), (q, ⟨56, i.h.flatMap Hl.cs⟩), (b2, ⟨32, zIn⟩)], True, 0⟩) ?_ ?_; (rintro ⟨b2, q, s, t⟩ -); rotate_left) | refine CutL.go tyOk [3] ?_) | (show AtC _ _ _ _ _ _ _ _; first | (show AtC 3 _ _ _ _ _ _ _; exact goM 3 (S := Nm × Nm × Nm × Nm) ((_, _, _, _))) | (apply AtC.mk' (id := 3) (S := Nm × Nm × Nm × Nm) ((_, _, _, _)); (repeat' first | exact trivial | (refine And.intro ?_ ?_) | exact LSub.nil | (with_reducible exact LSub.refl) | (apply LSub.cons; (repeat first | refine goH ?_ | apply LHas.here | apply LHas.next); refine And.intro ?_ ?_; (focus (try (first | (with_reducible rfl) | (refine congrArg (Pl.mk _) ?_; (first | rfl | (simp; done))) | rfl | (with_reducible refine congrArg (Pl.mk _) ?_))))) | assumption | (first | (focus (apply Eq.trans; (conv => lhs; whnf); (conv => rhs; whnf); done)) | rfl | ((conv => lhs; whnf); first | rfl | (refine congrArg (AV.int _) ?_; (exact T.num)) | (refine congrArg AV.bool ?_; (exact T.num)) | (refine vw_congr ?_; first | (exact T.num) | (first | rfl | (simp; done))) | (refine sl_congr ?_ ?_ <;> first | (exact T.num) | (first | rfl | (simp; done))) | (first | rfl | (simp; done)))) | (exact T.num) | (dsimp only; (exact T.num)) | (first | rfl | (simp; done))))) | exact T.z | fail) <;> conv => whnf)
    all_goals (try dsimp only)
    · rw [show tickR i = (i, [], 0) by unfold tickR; rw [if_pos hok, if_pos (by assumption)]]
      exact ret_held rfl (by (repeat first | refine goH ?_ | apply LHas.here | apply LHas.next); rfl)
    · have e2 : ({ i with l := 0, f := i.m, m := 0 } : In) = { i with l := iarith .sub .i64 i.l 1, f := i.m, m := 0 } := by rw [h]
      have e1 : i.l = 1 := by have h1 := v.l; have h2 := v.t; have h3 := h; have : iarith .sub .i64 i.l 1 = i.l - 1 := (by clear h3; (exact T.num)); omega
      rw [show tickR i = (behI { i with l := 0, f := i.m, m := 0 } N1, behO { i with l := 0, f := i.m, m := 0 } N1, 0) by unfold tickR; rw [if_pos hok, if_neg (by assumption), if_pos e1, hp], e2]
      refine ret_side (q := q) hvA_e.symm (x := behI { i with l := iarith .sub .i64 i.l 1, f := i.m, m := 0 } N1) (l0 := i.h) (N := N1 + runN i.m (i.h.drop N1)) rfl (run_le { i with l := iarith .sub .i64 i.l 1, f := i.m, m := 0 } hN1) ?_ ?_
      · rw [behO_len { i with l := iarith .sub .i64 i.l 1, f := i.m, m := 0 } hN1]
        exact Nat.zero_add _
      · (repeat first | refine goH ?_ | apply LHas.here | apply LHas.next)
        refine ⟨rfl, ?_⟩
        (repeat first | refine goH ?_ | apply LHas.here | apply LHas.next)
        refine ⟨rfl, ?_⟩
        (repeat first | refine goH ?_ | apply LHas.here | apply LHas.next)
        trivial
    · refine RetL.own r rfl ?_ ?_
      · (repeat first | refine goH ?_ | apply LHas.here | apply LHas.next); trivial
      · rw [out_succ [] i.h j (by omega)]
        (repeat' first | exact LSub.nil | (with_reducible exact LSub.refl) | (apply LSub.cons; (repeat first | refine goH ?_ | apply LHas.here | apply LHas.next); refine And.intro ?_ ?_; (focus (try (first | (with_reducible rfl) | (refine congrArg (Pl.mk _) ?_; (first | rfl | (simp; done))) | rfl | (with_reducible refine congrArg (Pl.mk _) ?_))))))
    · have e1 : iarith .sub .i64 i.l 1 = i.l - 1 := by have h1 := v.l; have h2 := v.t; (exact T.num)
      have e2 : ({ i with l := i.l - 1 } : In) = { i with l := iarith .sub .i64 i.l 1 } := by rw [e1]
      rw [show tickR i = ({ i with l := i.l - 1 }, [], 0) by unfold tickR; rw [if_pos hok, if_neg (by assumption), if_neg (by omega)], e2]
      exact ret_held rfl (by (repeat first | refine goH ?_ | apply LHas.here | apply LHas.next); rfl)
open Go.RowKit
section
variable {P : Program} {T : Tys} {G : Nat → AV} {N : Nat} {e : Env} {l : LS}
theorem CutL.adoptP (hT : TOk P T) (C : List Nat) (p : Nm) (j sz : Nat) (t : TypeId) {x y : Code} {Q : Exit → Env → LS → Prop} (h : LHas l p fun d s _ => j < d.cs.length ∧ d.cs.getD j .any = .nils ∧ ∀ q, AWpL P T G N C x (QseqL (AWpL P T G N C y Q) Q) e ((q, ⟨t, []⟩) :: s ⟨d.ty, d.cs.set j (.vw q 0 0 sz)⟩)) : CutL P G N x y Q e l :=
 ⟨SWpL.adoptP p j sz t (LHas.mono h fun _ _ _ h => ⟨h.1, h.2.1, fun q => (CutL.go hT C (h.2.2 q)).run⟩)⟩
end
theorem gl_yl : ∀ g, (gl g).isYl = false := fun g => by unfold gl; split <;> rfl
def putI (i : In) (c : Int) (d : List UInt8) : In := { i with n := if i.n < c + 1 then c + 1 else i.n, h := insL i.h (posR i.h c) ⟨c, d⟩ }
def putJ (i : In) (x c : Int) (d : List UInt8) : In := { i with n := if i.n < x then x else i.n, h := insL i.h (posR i.h c) ⟨c, d⟩ }
def takeR (i : In) (c : Int) (d : List UInt8) : In × List (List UInt8) × Int :=
 if c < i.f then (i, [], 11) else if hitR i.h c = true then (i, [], 12) else if c = i.f then (behI { i with f := i.f + 1 } 0, [d] ++ behO { i with f := i.f + 1 } 0, 0) else (behI (putI i c d) 0, behO (putI i c d) 0, 0)
def rcvR (i : In) (u : List UInt8) : In × List (List UInt8) × Int :=
 if i.ok = true then (if (numR i.b u).2 = 0 then (if (infR i.b i.f (numR i.b u).1).2 = 0 then (if (openR i.k i.b (infR i.b i.f (numR i.b u).1).1 u).2 = 0 then
   takeR i (infR i.b i.f (numR i.b u).1).1 (openR i.k i.b (infR i.b i.f (numR i.b u).1).1 u).1
   else (i, [], (openR i.k i.b (infR i.b i.f (numR i.b u).1).1 u).2)) else (i, [], (infR i.b i.f (numR i.b u).1).2)) else (i, [], (numR i.b u).2)) else (inZ, [], 1)
theorem insL_len (l : List Hl) (i : Nat) (h : Hl) : (insL l i h).length = l.length + 1 := by
 simp only [insL, List.length_append, List.length_take, List.length_cons, List.length_drop]; omega
theorem inf_ok {b f x : Int} (h : (infR b f x).2 = 0) : 0 ≤ (infR b f x).1 ∧ (infR b f x).1 < 1048576 := by
 unfold infR at *
 split at h
 · split at h
   · simp at h
   · split at h
     · rename_i h1 h2 h3
       rw [if_pos h1, if_neg h2, if_pos h3]
       with_unfolding_all exact of_decide_eq_true h3
     · simp at h
 · simp at h
theorem flat_ib (n : Int) (b : Bool) : Flat (.tup [iAV n, .bool b]) := Flat.tup fun x hx => by
 simp only [List.mem_cons, List.not_mem_nil, or_false] at hx
 rcases hx with rfl | rfl
 · exact Flat.int _ _
 · exact Flat.bool _
theorem dreceive_c (i : In) (u : List UInt8) (hl : i.h.length ≤ 99999) : LSpec Tryz.prog gl 12 [i.av, bv u] [] (fun _ => (rAV (rcvR i u), [])) := by
 have hv := dvalid_c (G := gl) i (by omega)
 cases hok : i.ok with
 | false =>
   rw [show rcvR i u = (inZ, [], 1) by unfold rcvR; rw [if_neg (by rw [hok]; decide)]]
   rw [hok] at hv
   refine goW [] Tryz.func12 rfl ?_
   conv => whnf
   repeat' ((first | exact Nm.b 0 | (show LCall _ _ _ _ _ _; first | refine LCall.pure (hv) ?_ | refine goE ?_) | refine T.s ?_ | ((first | apply goB | apply ABr.dec | apply ABr.gen) <;> intro h <;> try (exfalso; omega)) | refine LFresh.mk fun r => ?_ | (show SWpL _ _ _ _ _ _ _; first | (refine goD tyOk mixed 24 [7, 8] [0, 1, 2, 3, 4, 5, 6, 7, 8, 9, 10] [] (by kernel_rfl) ?_)) | exact T.z | fail) <;> conv => whnf)
   all_goals (try dsimp only)
   exact ret_zero
 | true =>
   have v := Vf.of hok
   rw [hok] at hv
   have hc := dclone_o (G := gl) i v.k (by omega) (fun k hk => by have := (v.h k hk).2.2.2; omega)
   have hnum := number_c i.b u
   have hinf := infer_c (G := gl) i.b i.f (numR i.b u).1
   have hopen := open_c i.k i.b (infR i.b i.f (numR i.b u).1).1 u
   have hC := inf_ok (b := i.b) (f := i.f) (x := (numR i.b u).1)
   unfold rcvR
   rw [if_pos hok]
   generalize openR i.k i.b (infR i.b i.f (numR i.b u).1).1 u = D at *
   generalize infR i.b i.f (numR i.b u).1 = C at *
   generalize numR i.b u = S at *
   obtain ⟨C, ce⟩ := C
   obtain ⟨D, de⟩ := D
   obtain ⟨S, se⟩ := S
   dsimp only at *
   have e1 : iarith .add .i64 i.f 1 = i.f + 1 := by have h1 := v.f; (exact T.num)
   refine goW [3, 23] Tryz.func12 rfl ?_
   conv => whnf
   repeat' ((first | (rw [hvA_e]) | (show LCall _ _ _ [.vw _ _ _ _, _] _ _; refine LCall.lend (find_c i.h C (by omega) v.asc v.rng (by have := hC (by assumption); omega)) [q] ⟨LF.row InL.here ?_, LF.eq rfl, trivial⟩ ?_ ?_) | (show LCall _ _ _ [.vw _ _ _ _, _, _] _ _; apply LCall.manyD (fun hnd => hins_c i.h (posR i.h C) ⟨C, D⟩ (pos_le _ _) (by omega) q _ (by exact hnd))) | (show CutL _ _ _ (.region 23 _ _) _ _ _ _; first | (refine CutL.adoptP tyOk [3, 23] s 12 1 27 ?_; (repeat first | refine goH ?_ | apply LHas.here | apply LHas.next); refine ⟨Nat.le_of_ble_eq_true rfl, rfl, fun o => ?_⟩; (try dsimp only)) | refine CutL.go tyOk [3, 23] ?_) | (show LCall _ _ _ [.ptr _ 0] _ _; first | (apply LCall.manyD (fun hnd => dproceed_b (hv0 := .vw q 0 i.h.length 2) gl_yl { i with f := iarith .add .i64 i.f 1 } 0 [D] s q _ (by dsimp only; omega) (by dsimp only; have := v.f; omega) (Nat.zero_le _) (Nat.le_of_ble_eq_true rfl) (by exact hnd) (hvA_0 q i.h.length)); (repeat first | refine goH ?_ | apply LHas.here | apply LHas.next); refine ⟨rfl, ?_⟩) | apply LCall.manyD (fun hnd => dproceed_b (hv0 := .vw r 0 (i.h.length + 1) 2) gl_yl (putJ i (iarith .add .i64 C 1) C D) 0 [] s r _ (by show (insL _ _ _).length ≤ _; rw [insL_len]; omega) (by show 0 ≤ i.f ∧ i.f ≤ _; have := v.f; omega) (Nat.zero_le _) (Nat.le_of_ble_eq_true rfl) (by exact hnd) (by rw [← insL_len i.h (posR i.h C) ⟨C, D⟩]; exact hvA_0 r _))) | (show Flat _; exact flat_ib _ _) | exact Nm.b 0 | (refine And.intro ?_ ?_; (focus (first | exact hls_len _ | exact T.kx | exact T.side))) | (show LCall _ _ _ _ _ _; first | refine LCall.pure (hv) ?_ | refine LCall.own (hc) ?_ | refine LCall.pure (hnum) ?_ | refine LCall.pure (hinf) ?_ | refine LCall.pure (hopen) ?_ | refine goE ?_) | refine T.s ?_ | ((first | apply goB | apply ABr.dec | apply ABr.gen) <;> intro h) | refine LFresh.mk fun r => ?_ | (show SWpL _ _ _ _ _ _ _; first | refine gX 24 [7, 8] [0, 1, 2, 3, 4, 5, 6, 7, 8, 9, 10] [b4] ?_) | (show CutL _ _ _ _ _ _ _ _; first | (refine goK tyOk [3, 23] 3 (S := Nm × Nm × Nm × Nm) [1] (fun (b0, b4, q, s) => ⟨[(2, .ptr b0 0), (4, .ptr b4 0), (7, .ptr s 0)], [(s, ⟨67, sdC i (.vw q 0 i.h.length 2) .nils⟩), (q, ⟨56, i.h.flatMap Hl.cs⟩), (b4, ⟨32, zIn⟩), (b0, ⟨32, i.cs⟩)], True, 0⟩) ?_ ?_; (rintro ⟨b0, b4, q, s⟩ -); rotate_left) | refine CutL.go tyOk [3, 23] ?_) | (show AtC _ _ _ _ _ _ _ _; first | (show AtC 3 _ _ _ _ _ _ _; exact goM 3 (S := Nm × Nm × Nm × Nm) ((_, _, _, _))) | (apply AtC.mk' (id := 3) (S := Nm × Nm × Nm × Nm) ((_, _, _, _)); (repeat' first | exact trivial | (refine And.intro ?_ ?_) | exact LSub.nil | (with_reducible exact LSub.refl) | (apply LSub.cons; (repeat first | refine goH ?_ | apply LHas.here | apply LHas.next); refine And.intro ?_ ?_; (focus (try (first | (with_reducible rfl) | (refine congrArg (Pl.mk _) ?_; (first | rfl | (simp; done))) | rfl | (with_reducible refine congrArg (Pl.mk _) ?_))))) | assumption | (first | (focus (apply Eq.trans; (conv => lhs; whnf); (conv => rhs; whnf); done)) | rfl | ((conv => lhs; whnf); first | rfl | (refine congrArg (AV.int _) ?_; (exact T.num)) | (refine congrArg AV.bool ?_; (exact T.num)) | (refine vw_congr ?_; first | (exact T.num) | (first | rfl | (simp; done))) | (refine sl_congr ?_ ?_ <;> first | (exact T.num) | (first | rfl | (simp; done))) | (first | rfl | (simp; done)))) | (exact T.num) | (dsimp only; (exact T.num)) | (first | rfl | (simp; done))))) | exact T.z | fail) <;> conv => whnf)
   all_goals (try dsimp only)
   all_goals first
     | (rw [if_neg (by assumption)]; exact ret_held rfl (by (repeat first | refine goH ?_ | apply LHas.here | apply LHas.next); rfl))
     | (rw [if_pos (by assumption), if_neg (by assumption)]; exact ret_held rfl (by (repeat first | refine goH ?_ | apply LHas.here | apply LHas.next); rfl))
     | (rw [if_pos (by assumption), if_pos (by assumption), if_neg (by assumption)]; exact ret_held rfl (by (repeat first | refine goH ?_ | apply LHas.here | apply LHas.next); rfl))
     | (rw [if_pos (by assumption), if_pos (by assumption), if_pos (by assumption), show takeR i C D = (i, [], 11) from if_pos (by assumption)]; exact ret_held rfl (by (repeat first | refine goH ?_ | apply LHas.here | apply LHas.next); rfl))
     | (rw [if_pos (by assumption), if_pos (by assumption), if_pos (by assumption), show takeR i C D = (i, [], 12) from (if_neg (by assumption)).trans (if_pos (decide_eq_true (by assumption)))]; exact ret_held rfl (by (repeat first | refine goH ?_ | apply LHas.here | apply LHas.next); rfl))
     | (have e2 : iarith .add .i64 C 1 = C + 1 := (by have h1 := hC (by assumption); (exact T.num))
        rw [if_pos (by assumption), if_pos (by assumption), if_pos (by assumption)]
        first
          | (rw [show takeR i C D = (behI { i with f := i.f + 1 } 0, [D] ++ behO { i with f := i.f + 1 } 0, 0) from (if_neg (by assumption)).trans ((if_neg (by rw [show hitR i.h C = false from decide_eq_false (by assumption)]; decide)).trans (if_pos (by assumption))), ← e1]
             refine ret_side (q := q) hvA_e.symm (x := behI { i with f := iarith .add .i64 i.f 1 } 0) (l0 := i.h) (N := 0 + runN (iarith .add .i64 i.f 1) (i.h.drop 0)) rfl (run_le { i with f := iarith .add .i64 i.f 1 } (Nat.zero_le _)) ?_ ?_
             · rw [List.length_append, behO_len { i with f := iarith .add .i64 i.f 1 } (Nat.zero_le _)]
             · (repeat first | refine goH ?_ | apply LHas.here | apply LHas.next)
               refine ⟨rfl, ?_⟩
               (repeat first | refine goH ?_ | apply LHas.here | apply LHas.next)
               refine ⟨rfl, ?_⟩
               (repeat first | refine goH ?_ | apply LHas.here | apply LHas.next)
               trivial)
          | (rw [show takeR i C D = (behI (putI i C D) 0, behO (putI i C D) 0, 0) from (if_neg (by assumption)).trans ((if_neg (by rw [show hitR i.h C = false from decide_eq_false (by assumption)]; decide)).trans (if_neg (by assumption)))]
             rw [show putI i C D = putJ i (iarith .add .i64 C 1) C D by rw [e2]; rfl]
             first
               | (refine ret_side hvA_e.symm (x := behI (putJ i (iarith .add .i64 C 1) C D) 0) (l0 := (putJ i (iarith .add .i64 C 1) C D).h) (N := 0 + runN (putJ i (iarith .add .i64 C 1) C D).f ((putJ i (iarith .add .i64 C 1) C D).h.drop 0)) rfl (run_le (putJ i (iarith .add .i64 C 1) C D) (Nat.zero_le _)) ?_ ?_
                  · rw [behO_len (putJ i (iarith .add .i64 C 1) C D) (Nat.zero_le _)]; exact Nat.zero_add _
                  · (repeat first | refine goH ?_ | apply LHas.here | apply LHas.next)
                    refine ⟨rfl, ?_⟩
                    (repeat first | refine goH ?_ | apply LHas.here | apply LHas.next)
                    refine ⟨rfl, ?_⟩
                    (repeat first | refine goH ?_ | apply LHas.here | apply LHas.next)
                    trivial)))
     | trace_state
end Go.Proofs.YtnmifddidgofaaaGreatDoor
