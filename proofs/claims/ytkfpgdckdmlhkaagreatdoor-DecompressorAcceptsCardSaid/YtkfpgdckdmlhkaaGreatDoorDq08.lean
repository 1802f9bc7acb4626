/-
  Contracts of the functions that the laws reach.
-/
import Derived.Test.YtkfpgdckdmlhkaaGreatDoorDq01
import Derived.Test.YtkfpgdckdmlhkaaGreatDoorDq02
import Derived.Test.YtkfpgdckdmlhkaaGreatDoorDq03
import Derived.Test.YtkfpgdckdmlhkaaGreatDoorDq04
import Derived.Test.YtkfpgdckdmlhkaaGreatDoorDq05
import Derived.Test.YtkfpgdckdmlhkaaGreatDoorDq06
import Derived.Test.YtkfpgdckdmlhkaaGreatDoorDq07
set_option maxHeartbeats 4000000
set_option linter.all false
namespace Go.Proofs.YtkfpgdckdmlhkaaGreatDoor
open Go.RowKit
variable {G : Nat → AV}
theorem kI (n : Int) : qG n 1 = [b8 n] := by
 show [b8 (n.fdiv (2 ^ 0))] = _
 rw [Int.fdiv_eq_ediv_of_nonneg _ (by decide)]
 simp
theorem big_c (f : Int) : LP Tryz.prog G 94 [iAV f] [] (fun _ => (.bool (decide (f = 4 ∨ f = 5)), [])) := by
 refine goW [] Tryz.func94 rfl ?_
 conv => whnf
 repeat' ((first | refine T.s ?_ | ((first | apply goB | apply AB.dec | apply AB.gen) <;> intro h <;> try (exfalso; omega)) | refine LQ.mk fun r => ?_ | exact T.z | fail) <;> conv => whnf)
 all_goals (try dsimp only)
 all_goals
   ((show RL _ _ _; refine goR ?_); (focus (refine congrArg AV.bool ?_; rw [Bool.eq_iff_iff])))
   simp_all [qu]
theorem hd_parts (s : Sm) (h : s.ok = true) : (xq s).length ≤ 1 ∧ (qD s).length ≤ 60 := by
 constructor
 · unfold xq; split <;> simp
 · unfold qD jO wK
   by_cases hk : s.h.k = 2 <;> (repeat' split) <;> simp [hk]
def udL (s : Sm) : List UInt8 := if s.ud = 0 then [] else qG s.ud 2
theorem hdL_eq (s : Sm) (h : s.ok = true) : hdL s = xq s ++ qD s ++ udL s ++ (if (s.f = 4 ∨ s.f = 5) ∧ ¬ s.h.ck = 0 then qG s.h.ck 2 else []) := by
 obtain ⟨-, -, hc⟩ := s.of h
 unfold hdL udL
 rw [sum_eq]
 rcases hc with ⟨hf, -⟩ | ⟨hf, hn, -⟩ | ⟨hf, hn, -⟩
 · rw [if_neg (show ¬ ((s.f = 4 ∨ s.f = 5) ∧ ¬ s.h.ck = 0) by omega), if_neg (show ¬ (s.f = 4 ∨ s.f = 5) by omega)]
   simp
 · simp only [jD, decide_eq_true_eq] at hn
   rw [if_pos hf, if_pos hn.2.2.2.2]
   by_cases hz : s.h.ck = 0 <;> simp [hz, hf]
 · simp only [jD, decide_eq_true_eq] at hn
   rw [if_neg (show ¬ ((s.f = 4 ∨ s.f = 5) ∧ ¬ s.h.ck = 0) by omega), if_neg (show ¬ (s.f = 4 ∨ s.f = 5) by omega)]
   simp
theorem qh (s : Sm) : LP Tryz.prog G 54 [s.av] [] (fun _ => (be (zu s), [])) := by
 cases hok : s.ok with
 | false =>
   have e : zu s = ([], 1) := by unfold zu; rw [hok]; rfl
   rw [e]
   refine goW [] Tryz.func54 rfl ?_
   conv => whnf
   repeat' ((first | exact Nm.b 0 | (show LC _ _ _ _ _ _; first | refine LC.pure (hok ▸ rvalid8_c s) ?_ | refine goE ?_) | refine T.s ?_ | ((first | apply goB | apply AB.dec | apply AB.gen) <;> intro h <;> try (exfalso; omega)) | refine LQ.mk fun r => ?_ | (show SQ _ _ _ _ _ _ _; first | (refine goD tQ qb 19 [5, 8, 3, 6] [0, 1, 2, 4, 5, 7, 8, 3, 6, 9, 10] [] (by kernel_rfl) ?_) | (refine goD tQ qb 23 [3, 7, 2, 4, 5] [0, 3, 6, 7, 8, 1, 2, 4, 5, 9, 10, 11] [] (by kernel_rfl) ?_) | (refine goD tQ qb 27 [5, 3] [0, 1, 2, 4, 5, 3, 6, 7] [] (by kernel_rfl) ?_) | (refine goD tQ qb 28 [5, 3] [0, 1, 2, 4, 5, 3, 6, 7] [] (by kernel_rfl) ?_) | (refine goD tQ qb 31 [5, 2, 3] [0, 1, 4, 5, 6, 2, 3, 7, 8, 9] [] (by kernel_rfl) ?_)) | exact T.z | refine ⟨_, rfl, rfl, ?_⟩ | fail) <;> conv => whnf)
   all_goals (try dsimp only)
   exact RL.frz [] (LF.tup ⟨LF.nils rfl rfl, LF.eq rfl, trivial⟩) LB.nil
 | true =>
   have e : zu s = (hdL s ++ s.pl, 0) := by unfold zu; rw [hok]; rfl
   have hpl := (s.of hok).1.2.2
   have hh := hd_parts s hok
   have hu : (udL s).length ≤ 2 := by unfold udL; split <;> simp
   have hq := hdL_eq s hok
   have hdl : (wK s.h s.d).length ≤ 14 := by
     unfold wK
     split <;> simp
   have hhl := (hd_len s hok).2
   have hdy : s.f = 4 ∨ s.f = 5 → LP Tryz.prog G 93 [s.av] [] (fun _ => (bv (wK s.h s.d), [])) := fun hf => by
     obtain ⟨-, -, hc⟩ := s.of hok
     rcases hc with ⟨hf, -⟩ | ⟨-, -, hw⟩ | ⟨hf, -⟩
     · omega
     · simp only [xP, Bool.and_eq_true] at hw
       have := s.h.of hw.1
       exact rdyn_c s this.1 (by omega)
     · omega
   rw [e]
   clear e
   refine goW [4, 7, 32, 34] Tryz.func54 rfl ?_
   conv => whnf
   repeat' ((first | (show CutL _ _ _ _ _ _ _ _; refine CutL.adopt 4 1 5 (by rfl) fun q => ?_) | (show LC _ _ _ _ _ _; refine LC.putk 1 (fun bs p hb => put1r_c bs _ hb p) ?_; (repeat first | refine goH ?_ | apply LH.here | apply LH.next); refine ⟨_, rfl, (by first | exact rfl | assumption | (simp; done) | (simp; omega)), (by first | exact Nat.le_of_ble_eq_true rfl | (simp; omega) | (simp; done)), ?_⟩; conv => whnf) | (show LC _ _ _ _ _ _; refine LC.putk 2 (fun bs p hb => put2_c bs _ hb p) ?_; (repeat first | refine goH ?_ | apply LH.here | apply LH.next); refine ⟨_, rfl, (by first | exact rfl | assumption | (simp; done) | (simp; omega)), (by first | exact Nat.le_of_ble_eq_true rfl | (simp; omega) | (simp; done)), ?_⟩; conv => whnf) | (show LC _ _ _ _ _ _; refine LC.putk 4 (fun bs p hb => put4_c bs _ hb p) ?_; (repeat first | refine goH ?_ | apply LH.here | apply LH.next); refine ⟨_, rfl, (by first | exact rfl | assumption | (simp; done) | (simp; omega)), (by first | exact Nat.le_of_ble_eq_true rfl | (simp; omega) | (simp; done)), ?_⟩; conv => whnf) | exact Nm.b 0 | (show LC _ _ _ _ _ _; first | refine LC.pure (hok ▸ rvalid8_c s) ?_ | refine LC.pure (hdy (by omega)) ?_ | refine LC.pure (big_c _) ?_ | refine goE ?_) | (show AQ _ _; first | (refine AQ.appB ?_ ?_; (focus (first | exact Nat.le_of_ble_eq_true rfl | (simp; done) | (simp; omega) | omega))) | (refine AQ.appM (cs := [b8 208]) ?_ rfl ?_; (focus (first | exact Nat.le_of_ble_eq_true rfl | (simp; done) | (simp; omega) | omega))) | (refine AQ.appM (cs := [b8 210]) ?_ rfl ?_; (focus (first | exact Nat.le_of_ble_eq_true rfl | (simp; done) | (simp; omega) | omega))) | (refine AQ.appM (cs := [b8 209, b8 s.h.k]) ?_ (by simp only [List.map_cons, List.map_nil, qT]; rfl) ?_; (focus (first | exact Nat.le_of_ble_eq_true rfl | (simp; done) | (simp; omega) | omega))) | (refine AQ.appM (cs := wK s.h s.d) ?_ rfl ?_; (focus (first | exact Nat.le_of_ble_eq_true rfl | (simp; done) | (simp; omega) | omega))) | (refine AQ.appM (cs := s.pl) ?_ rfl ?_; (focus (first | exact Nat.le_of_ble_eq_true rfl | (simp; done) | (simp; omega) | omega)))) | refine T.s ?_ | ((first | apply goB | apply AB.dec | apply AB.gen) <;> intro h <;> try (exfalso; omega)) | refine LQ.mk fun r => ?_ | (show SQ _ _ _ _ _ _ _; first | (apply goD tQ qb 19 [5, 8, 3, 6] [0, 1, 2, 4, 5, 7, 8, 3, 6, 9, 10] [_] (by kernel_rfl)) | (refine goD tQ qb 19 [5, 8, 3, 6] [0, 1, 2, 4, 5, 7, 8, 3, 6, 9, 10] [] (by kernel_rfl) ?_) | (apply goD tQ qb 23 [3, 7, 2, 4, 5] [0, 3, 6, 7, 8, 1, 2, 4, 5, 9, 10, 11] [_] (by kernel_rfl)) | (refine goD tQ qb 23 [3, 7, 2, 4, 5] [0, 3, 6, 7, 8, 1, 2, 4, 5, 9, 10, 11] [] (by kernel_rfl) ?_) | (apply goD tQ qb 27 [5, 3] [0, 1, 2, 4, 5, 3, 6, 7] [_] (by kernel_rfl)) | (refine goD tQ qb 27 [5, 3] [0, 1, 2, 4, 5, 3, 6, 7] [] (by kernel_rfl) ?_) | (apply goD tQ qb 28 [5, 3] [0, 1, 2, 4, 5, 3, 6, 7] [_] (by kernel_rfl)) | (refine goD tQ qb 28 [5, 3] [0, 1, 2, 4, 5, 3, 6, 7] [] (by kernel_rfl) ?_) | (apply goD tQ qb 31 [5, 2, 3] [0, 1, 4, 5, 6, 2, 3, 7, 8, 9] [_] (by kernel_rfl)) | (refine goD tQ qb 31 [5, 2, 3] [0, 1, 4, 5, 6, 2, 3, 7, 8, 9] [] (by kernel_rfl) ?_)) | (show CutL _ _ _ _ _ _ _ _; first | (refine goK tQ [4, 7, 32, 34] 4 (S := Nm × Nm × Nat) [] (fun (p, q, n) => ⟨[(4, .vw q 0 n 1), (1, .ptr p 0)], [(p, ⟨67, s.cs⟩), (q, ⟨5, (xq s).map bAV⟩)], n = (xq s).length, 0⟩) ?_ ?_; (rintro ⟨p, q, n⟩ hok; (try dsimp only at hok)); rotate_left) | (refine goK tQ [4, 7, 32, 34] 7 (S := Nm × Nm × Nat) [] (fun (p, q, n) => ⟨[(4, .vw q 0 n 1), (1, .ptr p 0)], [(p, ⟨67, s.cs⟩), (q, ⟨5, (xq s ++ qD s).map bAV⟩)], n = (xq s ++ qD s).length, 0⟩) ?_ ?_; (rintro ⟨p, q, n⟩ hok; (try dsimp only at hok)); rotate_left) | (refine goK tQ [4, 7, 32, 34] 32 (S := Nm × Nm × Nat) [] (fun (p, q, n) => ⟨[(4, .vw q 0 n 1), (1, .ptr p 0)], [(p, ⟨67, s.cs⟩), (q, ⟨5, (xq s ++ qD s ++ udL s).map bAV⟩)], n = (xq s ++ qD s ++ udL s).length, 0⟩) ?_ ?_; (rintro ⟨p, q, n⟩ hok; (try dsimp only at hok)); rotate_left) | (refine goK tQ [4, 7, 32, 34] 34 (S := Nm × Nm × Nat) [] (fun (p, q, n) => ⟨[(4, .vw q 0 n 1), (1, .ptr p 0)], [(p, ⟨67, s.cs⟩), (q, ⟨5, (hdL s).map bAV⟩)], n = (hdL s).length, 0⟩) ?_ ?_; (rintro ⟨p, q, n⟩ hok; (try dsimp only at hok)); rotate_left) | refine CutL.go tQ [4, 7, 32, 34] ?_) | (show AtC _ _ _ _ _ _ _ _; first | (apply AtC.mk' (id := 4) (S := Nm × Nm × Nat) ((_, _, _)); all_goals (try exact K88D); done) | (apply AtC.mk' (id := 7) (S := Nm × Nm × Nat) ((_, _, _)); all_goals (try exact K88D); done) | (apply AtC.mk' (id := 32) (S := Nm × Nm × Nat) ((_, _, _)); all_goals (try exact K88D); done) | (apply AtC.mk' (id := 34) (S := Nm × Nm × Nat) ((_, _, _)); all_goals (try exact K88D); done) | (apply AtC.mk' (id := 4) (S := Nm × Nm × Nat) ((_, _, _)); all_goals (try exact K88D)) | (apply AtC.mk' (id := 7) (S := Nm × Nm × Nat) ((_, _, _)); all_goals (try exact K88D)) | (apply AtC.mk' (id := 32) (S := Nm × Nm × Nat) ((_, _, _)); all_goals (try exact K88D)) | (apply AtC.mk' (id := 34) (S := Nm × Nm × Nat) ((_, _, _)); all_goals (try exact K88D))) | exact T.z | refine ⟨_, rfl, rfl, ?_⟩ | fail) <;> try (show (_ : Prop); conv => whnf))
   all_goals (try dsimp only)
   refine RL.frz [r] ?_ ?_
   · show LF _ _ _ (.tup [.sl (hdL s ++ s.pl).length ((hdL s ++ s.pl).map bAV), iAV 0])
     apply LF.tup
     refine And.intro (LF.rowF InL.here ?_) (And.intro (LF.eq rfl) trivial)
     (repeat first | refine goH ?_ | apply LH.here | apply LH.next)
     exact ⟨rfl, by rw [List.length_append, ← hok]⟩
   · show LH _ _ _
     (repeat first | refine goH ?_ | apply LH.here | apply LH.next)
     exact LB.nil
open Go.RowKit
variable {G : Nat → AV}
theorem bclone_ne (a : List UInt8) (h0 : 0 < a.length) (ha : a.length ≤ 140737488355328) : LP Tryz.prog G 101 [bv a] [] (fun _ => (bv a, [])) := by
 refine goW [] Tryz.func101 rfl ?_
 conv => whnf
 repeat' ((first | refine T.s ?_ | ((first | apply goB | apply AB.dec | apply AB.gen) <;> intro h <;> try (exfalso; omega)) | refine LQ.mk fun r => ?_ | exact T.z | fail) <;> conv => whnf)
 all_goals (try dsimp only)
 all_goals
   (refine RL.rowF ?_; (repeat first | refine goH ?_ | apply LH.here | apply LH.next); refine And.intro ?_ (And.intro ?_ ?_); rotate_left; rotate_left; (focus ((repeat' first | exact LB.nil | (with_reducible exact LB.refl) | (apply LB.cons; (repeat first | refine goH ?_ | apply LH.here | apply LH.next); refine And.intro ?_ ?_; (focus (try (first | (with_reducible rfl) | (refine congrArg (Pl.mk _) ?_; (first | rfl | (simp; done))) | rfl | (with_reducible refine congrArg (Pl.mk _) ?_)))))))))
   · rfl
   · simp
theorem qr (a : List UInt8) (ha : a.length ≤ 140737488355328) : LP Tryz.prog G 101 [bv a] [] (fun _ => (bv a, [])) := by
 by_cases h : 0 < a.length
 · exact bclone_ne a h ha
 · obtain rfl : a = [] := List.eq_nil_of_length_eq_zero (by omega)
   refine LP.empty ?_ fun b off cap hc => ?_
   · refine goW [] Tryz.func101 rfl ?_
     conv => whnf
     repeat' ((first | refine T.s ?_ | ((first | apply goB | apply AB.dec | apply AB.gen) <;> intro h <;> try (exfalso; omega)) | refine LQ.mk fun r => ?_ | exact T.z | fail) <;> conv => whnf)
     all_goals (try dsimp only)
     exact RL.frz [] (LF.nils rfl rfl) LB.nil
   · refine goW [] Tryz.func101 rfl ?_
     conv => whnf
     repeat' ((first | refine T.s ?_ | ((first | apply goB | apply AB.dec | apply AB.gen) <;> intro h <;> try (exfalso; omega)) | refine LQ.mk fun r => ?_ | exact T.z | fail) <;> conv => whnf)
     all_goals (try dsimp only)
     refine RL.rowF (b := ([] : List UInt8)) (f := bAV) ?_
     (repeat first | refine goH ?_ | apply LH.here | apply LH.next)
     exact ⟨rfl, rfl, LB.nil⟩
open Go.RowKit
variable {G : Nat → AV}
def beN (l : List UInt8) : Int := l.foldl (fun a c => 256 * a + (c.toNat : Int)) 0
theorem beN_app (l : List UInt8) (c : UInt8) : beN (l ++ [c]) = 256 * beN l + (c.toNat : Int) := by simp [beN]
theorem beN_take (l : List UInt8) (i : Nat) (h : i < l.length) : beN (l.take (i + 1)) = 256 * beN (l.take i) + ((l.getD i 0).toNat : Int) := by
 rw [List.take_succ_eq_append_getElem h, beN_app]
 simp [List.getD_eq_getElem?_getD, h]
theorem beN_rng : ∀ (l : List UInt8), 0 ≤ beN l ∧ beN l < 256 ^ l.length := by
 intro l
 have key : ∀ n (l : List UInt8), l.length = n → 0 ≤ beN l ∧ beN l < 256 ^ n := by
   intro n
   induction n with
   | zero => intro l h; obtain rfl := List.eq_nil_of_length_eq_zero h; exact ⟨by decide, by decide⟩
   | succ n ih =>
     intro l h
     have h1 := ih (l.take n) (by simp; omega)
     have h2 := beN_take l n (by omega)
     rw [List.take_of_length_le (show l.length ≤ n + 1 by omega)] at h2
     have h3 := (l.getD n 0).toNat_lt
     have h4 : (256 : Int) ^ (n + 1) = 256 * 256 ^ n := by rw [Int.pow_succ]; omega
     omega
 exact key _ l rfl
theorem or_shl (x c : Int) (hx : 0 ≤ x ∧ x < 16777216) (hc : 0 ≤ c ∧ c < 256) : qB .or .i64 (IntKind.i64.wrap (x * 2 ^ min (Int.toNat 8) IntKind.i64.bits)) c = 256 * x + c := by
 obtain ⟨a, rfl⟩ := Int.eq_ofNat_of_zero_le hx.1
 obtain ⟨b, rfl⟩ := Int.eq_ofNat_of_zero_le hc.1
 have e1 : IntKind.i64.wrap ((a : Int) * 2 ^ min (Int.toNat 8) IntKind.i64.bits) = ((2 ^ 8 * a : Nat) : Int) := by
   show IntKind.i64.wrap ((a : Int) * 256) = _
   rw [IntKind.wrap_i64]
   omega
 rw [e1]
 show IntKind.i64.wrap ((BitVec.ofInt 64 ((2 ^ 8 * a : Nat) : Int) ||| BitVec.ofInt 64 (b : Int)).toNat : Int) = _
 have e : (BitVec.ofInt 64 ((2 ^ 8 * a : Nat) : Int) ||| BitVec.ofInt 64 (b : Int)).toNat = 2 ^ 8 * a + b := by
   rw [BitVec.toNat_or, BitVec.ofInt_natCast, BitVec.ofInt_natCast, BitVec.toNat_ofNat, BitVec.toNat_ofNat, Nat.mod_eq_of_lt (show 2 ^ 8 * a < 2 ^ 64 by omega), Nat.mod_eq_of_lt (show b < 2 ^ 64 by omega), Nat.two_pow_add_eq_or_of_lt (by omega)]
 rw [e, IntKind.wrap_i64]
 omega
def tkV (n : Nat) : Option (List UInt8) → Int
 | none => 0
 | some l => if l.length < n then 0 else beN (l.take n)
def tkR (n : Nat) : Option (List UInt8) → Option (List UInt8)
 | none => none
 | some l => if l.length < n then none else some (l.drop n)
def rdCs : Option (List UInt8) → List AV
 | none => [.nils, .bool true]
 | some l => [bv l, .bool false]
theorem ftake_s (r : Nm) (n : Nat) (l : List UInt8) (h1 : 1 ≤ n) (h4 : n ≤ 4) (hl : l.length ≤ 140737488355328) : LP Tryz.prog G 97 [.ptr r 0, iAV n] [(r, ⟨142, [bv l, .bool false]⟩)] (fun _ => (iAV (tkV n (some l)), [(r, ⟨142, rdCs (tkR n (some l))⟩)])) := by
 by_cases h : l.length < n
 · have e1 : tkV n (some l) = 0 := if_pos h
   have e2 : tkR n (some l) = none := if_pos h
   rw [e1, e2]
   refine goW [] Tryz.func97 rfl ?_
   conv => whnf
   repeat' ((first | refine T.s ?_ | ((first | apply goB | apply AB.dec | apply AB.gen) <;> intro h <;> try (exfalso; omega)) | refine LQ.mk fun r => ?_ | (show (_ → _) ∧ (¬ _ → _); first | refine T.y ?_ | refine qn (fun h => ?_) (fun h => ?_)) | exact T.z | refine ⟨_, rfl, rfl, ?_⟩ | fail) <;> conv => whnf)
   all_goals (try dsimp only)
   (show RL _ _ _; refine goR ?_)
   rfl
 · have e1 : tkV n (some l) = beN (l.take n) := if_neg h
   have e2 : tkR n (some l) = some (l.drop n) := if_neg h
   rw [e1, e2]
   have hr : ∀ i, i < n → 0 ≤ beN (l.take i) ∧ beN (l.take i) < 16777216 := fun i hi => by
     have h := beN_rng (l.take i)
     have hk : (l.take i).length = 0 ∨ (l.take i).length = 1 ∨ (l.take i).length = 2 ∨ (l.take i).length = 3 := by rw [List.length_take]; omega
     rcases hk with e | e | e | e <;> (rw [e] at h; omega)
   have hor : ∀ i, i < n → qB .or .i64 (IntKind.i64.wrap (beN (l.take i) * 2 ^ min (Int.toNat 8) IntKind.i64.bits)) (IntKind.i64.wrap (((l.take n).getD i 0).toNat : Int)) = beN (l.take (i + 1)) := fun i hi => by
     have hg : (l.take n).getD i 0 = l.getD i 0 := by simp [List.getD_eq_getElem?_getD, List.getElem?_take, hi]
     have := (l.getD i 0).toNat_lt
     have hw : IntKind.i64.wrap ((l.getD i 0).toNat : Int) = ((l.getD i 0).toNat : Int) := by rw [IntKind.wrap_i64]; omega
     rw [hg, hw, or_shl _ _ (hr i hi) (by omega), beN_take l i (by omega)]
   refine goW [] Tryz.func97 rfl ?_
   conv => whnf
   repeat' ((first | (show AC _ _ _; first | (refine AC.idx (i) (0) ?_ ?_ ?_; (focus (first | exact rfl | (simp; done) | (simp; omega))); (focus (first | omega | exact T.side)))) | (show AQ _ _; first | (refine AQ.headE n ?_ ?_ ?_; (focus (first | exact rfl | (simp; done) | (simp; omega))); (focus (first | exact rfl | (simp; done) | (simp; omega)))) | (refine AQ.tailE n ?_ ?_ ?_; (focus (first | exact rfl | (simp; done) | (simp; omega))); (focus (first | exact rfl | (simp; done) | (simp; omega))))) | refine T.s ?_ | ((first | apply goB | apply AB.dec | apply AB.gen) <;> intro h <;> try (exfalso; omega)) | refine LQ.mk fun r => ?_ | (show SQ _ _ _ (.loop _) _ _ _; first | (apply goO tQ [] 6 (S := Nat) [0, 1, 26, 27] (fun i => ⟨[(28, .int .i64 i), (5, .int .i64 (beN (l.take i)))], [(r, ⟨142, [bv l, .bool false]⟩)], i ≤ n, n - i⟩) (0) (by rfl); (focus (all_goals (try exact KDF9); done)); rintro i hok; (try dsimp only at hok))) | (show AtL _ _ _ _ _ _ _ _ _ _; first | (apply AtL.mk' (id := 6) (S := Nat) (i + 1); all_goals (try exact KDF9); done) | (apply AtL.mk' (id := 6) (S := Nat) (i + 1); all_goals (try exact KDF9))) | (show (_ → _) ∧ (¬ _ → _); first | refine T.y ?_ | refine qn (fun h => ?_) (fun h => ?_)) | exact T.z | refine ⟨_, rfl, rfl, ?_⟩ | fail) <;> conv => whnf)
   all_goals (try dsimp only)
   all_goals (obtain rfl : i = n := (by simp at h; omega))
   all_goals (have e3 : (AV.sl ((l.length : Int).toNat - (i : Int).toNat) ((l.drop i).map bAV)) = bv (l.drop i) := (by unfold bv; congr 1; simp))
   all_goals rw [e3]
   all_goals (show RL _ _ _; refine goR ?_)
   all_goals rfl
theorem ftake_n (r : Nm) (n : Nat) (h1 : 1 ≤ n) (h4 : n ≤ 4) : LP Tryz.prog G 97 [.ptr r 0, iAV n] [(r, ⟨142, rdCs none⟩)] (fun _ => (iAV (tkV n none), [(r, ⟨142, rdCs (tkR n none)⟩)])) := by
 show LP Tryz.prog G 97 [.ptr r 0, iAV n] [(r, ⟨142, [.nils, .bool true]⟩)] (fun _ => (iAV 0, [(r, ⟨142, [.nils, .bool true]⟩)]))
 refine goW [] Tryz.func97 rfl ?_
 conv => whnf
 repeat' ((first | refine T.s ?_ | ((first | apply goB | apply AB.dec | apply AB.gen) <;> intro h <;> try (exfalso; omega)) | refine LQ.mk fun r => ?_ | (show (_ → _) ∧ (¬ _ → _); first | refine T.y ?_ | refine qn (fun h => ?_) (fun h => ?_)) | exact T.z | refine ⟨_, rfl, rfl, ?_⟩ | fail) <;> conv => whnf)
 all_goals (try dsimp only)
 all_goals (show RL _ _ _; refine goR ?_)
 all_goals rfl
def rdB : Option (List UInt8) → Prop
 | none => True
 | some l => l.length ≤ 140737488355328
theorem rdB.take {X : Option (List UInt8)} (h : rdB X) (n : Nat) : rdB (tkR n X) := by
 cases X with
 | none => exact trivial
 | some l =>
   show rdB (if l.length < n then none else some (l.drop n))
   split
   · exact trivial
   · exact Nat.le_trans (by simp) h
theorem ftake_c (r : Nm) (n : Nat) (X : Option (List UInt8)) (h : (1 ≤ n ∧ n ≤ 4) ∧ rdB X) : LP Tryz.prog G 97 [.ptr r 0, iAV n] [(r, ⟨142, rdCs X⟩)] (fun _ => (iAV (tkV n X), [(r, ⟨142, rdCs (tkR n X)⟩)])) := by
 cases X with
 | none => exact ftake_n r n h.1.1 h.1.2
 | some l => exact ftake_s r n l h.1.1 h.1.2 h.2
open Go.RowKit
variable {G : Nat → AV}
abbrev Rdr := {o : Option (List UInt8) // rdB o}
def rdr (l : List UInt8) (h : l.length ≤ 140737488355328) : Rdr := ⟨some l, h⟩
def rtk (n : Nat) (X : Rdr) : Rdr := ⟨tkR n X.1, X.2.take n⟩
def rv (n : Nat) (X : Rdr) : Int := tkV n X.1
def rE (X : Rdr) : Bool := X.1.isNone
def rL (X : Rdr) : List UInt8 := X.1.getD []
def rV (X : Rdr) : AV := match X.1 with | none => .nils | some l => bv l
@[reducible] def rcs (X : Rdr) : List AV := [rV X, .bool (rE X)]
theorem rcs_eq (X : Rdr) : rdCs X.1 = rcs X := by
 obtain ⟨_ | l, h⟩ := X <;> rfl
theorem wW (l : List UInt8) (h : l.length ≤ 140737488355328) : rcs (rdr l h) = [bv l, .bool false] := rfl
theorem rE_take (n : Nat) (X : Rdr) (h : rE X = true) : rE (rtk n X) = true := by
 obtain ⟨_ | l, h⟩ := X
 · rfl
 · exact Bool.noConfusion h
theorem rV_some (X : Rdr) (h : rE X = false) : rV X = bv (rL X) := by
 obtain ⟨_ | l, h⟩ := X
 · exact Bool.noConfusion h
 · rfl
theorem qC (X : Rdr) : (rL X).length ≤ 140737488355328 := by
 obtain ⟨_ | l, h⟩ := X
 · exact Nat.zero_le _
 · exact h
theorem ft_c (r : Nm) (n : Nat) (X : Rdr) (h : 1 ≤ n ∧ n ≤ 4) : LP Tryz.prog G 97 [.ptr r 0, iAV n] [(r, ⟨142, rcs X⟩)] (fun _ => (iAV (rv n X), [(r, ⟨142, rcs (rtk n X)⟩)])) := by
 have := ftake_c (G := G) r n X.1 ⟨h, X.2⟩
 rw [rcs_eq] at this
 exact (rcs_eq (rtk n X)) ▸ this
theorem zZ (r : Nm) (X : Rdr) : LP Tryz.prog G 97 [.ptr r 0, iAV 1] [(r, ⟨142, rcs X⟩)] (fun _ => (iAV (rv 1 X), [(r, ⟨142, rcs (rtk 1 X)⟩)])) := ft_c r 1 X (by decide)
theorem xi (r : Nm) (X : Rdr) : LP Tryz.prog G 97 [.ptr r 0, iAV 2] [(r, ⟨142, rcs X⟩)] (fun _ => (iAV (rv 2 X), [(r, ⟨142, rcs (rtk 2 X)⟩)])) := ft_c r 2 X (by decide)
theorem xh (r : Nm) (X : Rdr) : LP Tryz.prog G 97 [.ptr r 0, iAV 4] [(r, ⟨142, rcs X⟩)] (fun _ => (iAV (rv 4 X), [(r, ⟨142, rcs (rtk 4 X)⟩)])) := ft_c r 4 X (by decide)
theorem jU (r : Nm) (l : List UInt8) (h : l.length ≤ 140737488355328) : LP Tryz.prog G 97 [.ptr r 0, iAV 1] [(r, ⟨142, [bv l, .bool false]⟩)] (fun _ => (iAV (rv 1 (rdr l h)), [(r, ⟨142, rcs (rtk 1 (rdr l h))⟩)])) := zZ r (rdr l h)
theorem rbe_c (l : List UInt8) (n : Nat) (h1 : 1 ≤ n) (h4 : n ≤ 4) (hl : n ≤ l.length) : LP Tryz.prog G 84 [bv l, iAV 0, iAV n] [] (fun _ => (iAV (beN (l.take n)), [])) := by
 have hr : ∀ i, i < n → 0 ≤ beN (l.take i) ∧ beN (l.take i) < 16777216 := fun i hi => by
   have h := beN_rng (l.take i)
   have hk : (l.take i).length = 0 ∨ (l.take i).length = 1 ∨ (l.take i).length = 2 ∨ (l.take i).length = 3 := by rw [List.length_take]; omega
   rcases hk with e | e | e | e <;> (rw [e] at h; omega)
 have hor : ∀ i, i < n → q7 .add .i64 (q7 .mul .i64 256 (beN (l.take i))) (IntKind.i64.wrap ((l.getD ((q7 .add .i64 0 i).toNat * 1) 0).toNat : Int)) = beN (l.take (i + 1)) := fun i hi => by
   have e0 : (q7 .add .i64 0 i).toNat * 1 = i := by simp only [q7, IntKind.wrap_i64]; omega
   rw [e0]
   have := (l.getD i 0).toNat_lt
   have h3 := hr i hi
   rw [beN_take l i (by omega)]
   simp only [q7, IntKind.wrap_i64]
   omega
 refine goW [] Tryz.func84 rfl ?_
 conv => whnf
 repeat' ((first | refine T.s ?_ | ((first | apply goB | apply AB.dec | apply AB.gen) <;> intro h <;> try (exfalso; omega)) | refine LQ.mk fun r => ?_ | (show SQ _ _ _ (.loop _) _ _ _; first | (apply goO tQ [] 3 (S := Nat) [0, 1, 2] (fun i => ⟨[(8, .int .i64 i), (7, .int .i64 (beN (l.take i)))], [], i ≤ n, n - i⟩) (0) (by rfl); (focus (all_goals (try exact KDF9); done)); rintro i hok; (try dsimp only at hok))) | (show AtL _ _ _ _ _ _ _ _ _ _; first | (apply AtL.mk' (id := 3) (S := Nat) (i + 1); all_goals (try exact KDF9); done) | (apply AtL.mk' (id := 3) (S := Nat) (i + 1); all_goals (try exact KDF9))) | exact T.z | refine ⟨_, rfl, rfl, ?_⟩ | fail) <;> conv => whnf)
 all_goals (try dsimp only)
 all_goals (obtain rfl : i = n := (by omega))
 all_goals (show RL _ _ _; refine goR ?_)
 all_goals rfl
theorem rtake_s (r : Nm) (n : Nat) (l : List UInt8) (h1 : 1 ≤ n) (h4 : n ≤ 4) (hl : l.length ≤ 140737488355328) : LP Tryz.prog G 69 [.ptr r 0, iAV n] [(r, ⟨119, [bv l, .bool false]⟩)] (fun _ => (iAV (tkV n (some l)), [(r, ⟨119, rdCs (tkR n (some l))⟩)])) := by
 by_cases h : l.length < n
 · have e1 : tkV n (some l) = 0 := if_pos h
   have e2 : tkR n (some l) = none := if_pos h
   rw [e1, e2]
   refine goW [] Tryz.func69 rfl ?_
   conv => whnf
   repeat' ((first | refine T.s ?_ | ((first | apply goB | apply AB.dec | apply AB.gen) <;> intro h <;> try (exfalso; omega)) | refine LQ.mk fun r => ?_ | (show (_ → _) ∧ (¬ _ → _); first | refine T.y ?_ | refine qn (fun h => ?_) (fun h => ?_)) | exact T.z | fail) <;> conv => whnf)
   all_goals (try dsimp only)
   (show RL _ _ _; refine goR ?_)
   rfl
 · have e1 : tkV n (some l) = beN (l.take n) := if_neg h
   have e2 : tkR n (some l) = some (l.drop n) := if_neg h
   rw [e1, e2]
   refine goW [] Tryz.func69 rfl ?_
   conv => whnf
   repeat' ((first | (show LC _ _ _ _ _ _; first | refine LC.pure (rbe_c l n h1 h4 (by omega)) ?_ | refine goE ?_) | (show AQ _ _; first | (refine AQ.headE n ?_ ?_ ?_; (focus (first | exact rfl | (simp; done) | (simp; omega))); (focus (first | exact rfl | (simp; done) | (simp; omega)))) | (refine AQ.tailE n ?_ ?_ ?_; (focus (first | exact rfl | (simp; done) | (simp; omega))); (focus (first | exact rfl | (simp; done) | (simp; omega))))) | refine T.s ?_ | ((first | apply goB | apply AB.dec | apply AB.gen) <;> intro h <;> try (exfalso; omega)) | refine LQ.mk fun r => ?_ | (show (_ → _) ∧ (¬ _ → _); first | refine T.y ?_ | refine qn (fun h => ?_) (fun h => ?_)) | exact T.z | fail) <;> conv => whnf)
   all_goals (try dsimp only)
   all_goals (have e3 : (AV.sl ((l.length : Int).toNat - (n : Int).toNat) ((l.drop n).map bAV)) = bv (l.drop n) := (by unfold bv; congr 1; simp))
   all_goals rw [e3]
   all_goals (show RL _ _ _; refine goR ?_)
   all_goals rfl
theorem rtake_n (r : Nm) (n : Nat) (h1 : 1 ≤ n) (h4 : n ≤ 4) : LP Tryz.prog G 69 [.ptr r 0, iAV n] [(r, ⟨119, rdCs none⟩)] (fun _ => (iAV (tkV n none), [(r, ⟨119, rdCs (tkR n none)⟩)])) := by
 show LP Tryz.prog G 69 [.ptr r 0, iAV n] [(r, ⟨119, [.nils, .bool true]⟩)] (fun _ => (iAV 0, [(r, ⟨119, [.nils, .bool true]⟩)]))
 refine goW [] Tryz.func69 rfl ?_
 conv => whnf
 repeat' ((first | refine T.s ?_ | ((first | apply goB | apply AB.dec | apply AB.gen) <;> intro h <;> try (exfalso; omega)) | refine LQ.mk fun r => ?_ | (show (_ → _) ∧ (¬ _ → _); first | refine T.y ?_ | refine qn (fun h => ?_) (fun h => ?_)) | exact T.z | fail) <;> conv => whnf)
 all_goals (try dsimp only)
 all_goals (show RL _ _ _; refine goR ?_)
 all_goals rfl
theorem rt_c (r : Nm) (n : Nat) (X : Rdr) (h : 1 ≤ n ∧ n ≤ 4) : LP Tryz.prog G 69 [.ptr r 0, iAV n] [(r, ⟨119, rcs X⟩)] (fun _ => (iAV (rv n X), [(r, ⟨119, rcs (rtk n X)⟩)])) := by
 have : LP Tryz.prog G 69 [.ptr r 0, iAV n] [(r, ⟨119, rdCs X.1⟩)] (fun _ => (iAV (tkV n X.1), [(r, ⟨119, rdCs (tkR n X.1)⟩)])) := by
   obtain ⟨_ | l, hl⟩ := X
   · exact rtake_n r n h.1 h.2
   · exact rtake_s r n l h.1 h.2 hl
 rw [rcs_eq] at this
 exact (rcs_eq (rtk n X)) ▸ this
theorem jr (r : Nm) (X : Rdr) : LP Tryz.prog G 69 [.ptr r 0, iAV 1] [(r, ⟨119, rcs X⟩)] (fun _ => (iAV (rv 1 X), [(r, ⟨119, rcs (rtk 1 X)⟩)])) := rt_c r 1 X (by decide)
theorem jB (r : Nm) (X : Rdr) : LP Tryz.prog G 69 [.ptr r 0, iAV 2] [(r, ⟨119, rcs X⟩)] (fun _ => (iAV (rv 2 X), [(r, ⟨119, rcs (rtk 2 X)⟩)])) := rt_c r 2 X (by decide)
theorem jA (r : Nm) (X : Rdr) : LP Tryz.prog G 69 [.ptr r 0, iAV 4] [(r, ⟨119, rcs X⟩)] (fun _ => (iAV (rv 4 X), [(r, ⟨119, rcs (rtk 4 X)⟩)])) := rt_c r 4 X (by decide)
theorem kr (r : Nm) (l : List UInt8) (h : l.length ≤ 140737488355328) : LP Tryz.prog G 69 [.ptr r 0, iAV 1] [(r, ⟨119, [bv l, .bool false]⟩)] (fun _ => (iAV (rv 1 (rdr l h)), [(r, ⟨119, rcs (rtk 1 (rdr l h))⟩)])) := jr r (rdr l h)
attribute [irreducible] rdr rtk rv rE rL rV
open Go.RowKit
variable {G : Nat → AV}
@[reducible] def Sm.fs (s : Sm) : List AV := [iAV s.cx, iAV s.f, iAV s.n, iAV s.tm, iAV s.mr, iAV s.id, iAV s.ud, iAV s.h.k, iAV s.h.tos, iAV s.h.id, iAV s.h.fx, iAV s.h.ttl, iAV s.h.fr, iAV s.h.to, iAV s.h.fp, iAV s.h.tp, iAV s.h.ck, iAV s.h.mr, iAV s.h.ty, iAV s.h.sq, iAV s.h.tm, iAV s.h.sr, iAV s.d.st, iAV s.d.fo, iAV s.ck, .nils]
@[reducible] def shR (x k : Int) : Int := x.fdiv (2 ^ (min k.toNat IntKind.i64.bits))
@[reducible] def andR (x m : Int) : Int := qB .and .i64 x m
@[reducible] def vq (x k : Int) : Int := andR (shR x k) 1
theorem LC.two {P : Program} {f : FuncId} {args : List AV} {x : AV} {r p : Nm} {c d c' d' : Pl} {l : LS} {K : AV → LS → Prop} (hs : r ≠ p → LP P G f args [(r, c), (p, d)] fun _ => (x, [(r, c'), (p, d')])) (hk : LH l r fun c1 _ rest => c1 = c ∧ LH rest p fun d1 _ rest' => d1 = d ∧ LQ fun _ => K x ((r, c') :: (p, d') :: rest')) : LC P G f args l K := by
 refine ⟨fun φ hsp => ?_⟩
 have hne : r ≠ p := by
   obtain ⟨l1, c1, l2, rfl, -, h1⟩ := hk.ex
   obtain ⟨l3, c3, l4, e, -⟩ := h1.ex
   have hm : p ∈ (l1 ++ l2).map (·.1) := by rw [e]; simp
   rintro rfl
   have h3 := jw hsp.nd
   rw [List.map_append, List.mem_append] at hm
   exact hm.elim h3.1 h3.2.1
 exact (LC.mk' (hs hne) [] (.refl _) hk).run φ hsp
@[reducible] def jl (X : Rdr) : Int := rv 1 (rtk 1 (rtk 1 X))
@[reducible] def dynY (X : Rdr) : Rdr := rtk 1 (rtk 1 (rtk 1 X))
@[reducible] def jg (X : Rdr) (s : Sm) : Sm := { s with h := { s.h with tos := rv 1 X, ttl := rv 1 (rtk 1 X), fx := vq (jl X) 7, mr := vq (jl X) 4, ty := rv 1 (dynY X), sq := rv 2 (rtk 1 (dynY X)), id := rv 2 (rtk 2 (rtk 1 (dynY X))), tm := rv 4 (rtk 2 (rtk 2 (rtk 1 (dynY X)))) }, d := { st := rv 2 (rtk 4 (rtk 2 (rtk 2 (rtk 1 (dynY X))))), fo := vq (jl X) 5 } }
@[reducible] def jf (X : Rdr) (s : Sm) : Sm := { s with h := { s.h with tos := rv 1 X, ttl := rv 1 (rtk 1 X), fx := vq (jl X) 7, mr := vq (jl X) 4, id := rv 2 (dynY X) }, d := { s.d with fo := vq (jl X) 5 } }
@[reducible] def qq (X : Rdr) : Rdr := rtk 2 (rtk 4 (rtk 2 (rtk 2 (rtk 1 (dynY X)))))
@[reducible] def qp (X : Rdr) : Rdr := rtk 2 (dynY X)
theorem fdynT_c (r p : Nm) (X : Rdr) (s : Sm) (hrp : r ≠ p) (hk : s.h.k = 2) : LP Tryz.prog G 99 [.ptr r 0, .ptr p 7, .ptr p 22] [(r, ⟨142, rcs X⟩), (p, ⟨67, s.fs⟩)] (fun _ => (.bool (decide (vq (jl X) 6 = 1)), [(r, ⟨142, rcs (qq X)⟩), (p, ⟨67, (jg X s).fs⟩)])) := by
 refine goW [] Tryz.func99 rfl ?_
 conv => whnf
 repeat' ((first | (show LC _ _ _ _ _ _; first | (apply LC.upd (zZ _ _); (repeat first | refine goH ?_ | apply LH.here | apply LH.next); refine ⟨rfl, ?_⟩) | (apply LC.upd (xi _ _); (repeat first | refine goH ?_ | apply LH.here | apply LH.next); refine ⟨rfl, ?_⟩) | (apply LC.upd (xh _ _); (repeat first | refine goH ?_ | apply LH.here | apply LH.next); refine ⟨rfl, ?_⟩) | refine goE ?_) | refine T.s ?_ | ((first | apply goB | apply AB.dec | apply AB.gen) <;> intro h <;> try (exfalso; omega)) | refine LQ.mk fun r => ?_ | exact T.z | fail) <;> conv => whnf)
 all_goals (try dsimp only)
 all_goals (show RL _ _ _; refine goR ?_)
 all_goals rfl
theorem wo (r p : Nm) (X : Rdr) (s : Sm) (hrp : r ≠ p) (hk : s.h.k ≠ 2) : LP Tryz.prog G 99 [.ptr r 0, .ptr p 7, .ptr p 22] [(r, ⟨142, rcs X⟩), (p, ⟨67, s.fs⟩)] (fun _ => (.bool (decide (vq (jl X) 6 = 1)), [(r, ⟨142, rcs (qp X)⟩), (p, ⟨67, (jf X s).fs⟩)])) := by
 refine goW [] Tryz.func99 rfl ?_
 conv => whnf
 repeat' ((first | (show LC _ _ _ _ _ _; first | (apply LC.upd (zZ _ _); (repeat first | refine goH ?_ | apply LH.here | apply LH.next); refine ⟨rfl, ?_⟩) | (apply LC.upd (xi _ _); (repeat first | refine goH ?_ | apply LH.here | apply LH.next); refine ⟨rfl, ?_⟩) | (apply LC.upd (xh _ _); (repeat first | refine goH ?_ | apply LH.here | apply LH.next); refine ⟨rfl, ?_⟩) | refine goE ?_) | refine T.s ?_ | ((first | apply goB | apply AB.dec | apply AB.gen) <;> intro h <;> try (exfalso; omega)) | refine LQ.mk fun r => ?_ | exact T.z | fail) <;> conv => whnf)
 all_goals (try dsimp only)
 all_goals (show RL _ _ _; refine goR ?_)
 all_goals rfl
theorem jm (r p : Nm) (X : Rdr) (s : Sm) (hrp : r ≠ p) (hk : s.h.k ≠ 1) : LP Tryz.prog G 70 [.ptr r 0, .ptr p 0] [(r, ⟨119, rcs X⟩), (p, ⟨67, s.fs⟩)] (fun _ => (iAV (jl X), [(r, ⟨119, rcs (qq X)⟩), (p, ⟨67, (jg X s).fs⟩)])) := by
 refine goW [] Tryz.func70 rfl ?_
 conv => whnf
 repeat' ((first | (show LC _ _ _ _ _ _; first | (apply LC.upd (jr _ _); (repeat first | refine goH ?_ | apply LH.here | apply LH.next); refine ⟨rfl, ?_⟩) | (apply LC.upd (jB _ _); (repeat first | refine goH ?_ | apply LH.here | apply LH.next); refine ⟨rfl, ?_⟩) | (apply LC.upd (jA _ _); (repeat first | refine goH ?_ | apply LH.here | apply LH.next); refine ⟨rfl, ?_⟩) | refine goE ?_) | refine T.s ?_ | ((first | apply goB | apply AB.dec | apply AB.gen) <;> intro h <;> try (exfalso; omega)) | refine LQ.mk fun r => ?_ | exact T.z | fail) <;> conv => whnf)
 all_goals (try dsimp only)
 all_goals (show RL _ _ _; refine goR ?_)
 all_goals rfl
theorem wb (r p : Nm) (X : Rdr) (s : Sm) (hrp : r ≠ p) (hk : s.h.k = 1) : LP Tryz.prog G 70 [.ptr r 0, .ptr p 0] [(r, ⟨119, rcs X⟩), (p, ⟨67, s.fs⟩)] (fun _ => (iAV (jl X), [(r, ⟨119, rcs (qp X)⟩), (p, ⟨67, (jf X s).fs⟩)])) := by
 refine goW [] Tryz.func70 rfl ?_
 conv => whnf
 repeat' ((first | (show LC _ _ _ _ _ _; first | (apply LC.upd (jr _ _); (repeat first | refine goH ?_ | apply LH.here | apply LH.next); refine ⟨rfl, ?_⟩) | (apply LC.upd (jB _ _); (repeat first | refine goH ?_ | apply LH.here | apply LH.next); refine ⟨rfl, ?_⟩) | (apply LC.upd (jA _ _); (repeat first | refine goH ?_ | apply LH.here | apply LH.next); refine ⟨rfl, ?_⟩) | refine goE ?_) | refine T.s ?_ | ((first | apply goB | apply AB.dec | apply AB.gen) <;> intro h <;> try (exfalso; omega)) | refine LQ.mk fun r => ?_ | exact T.z | fail) <;> conv => whnf)
 all_goals (try dsimp only)
 all_goals (show RL _ _ _; refine goR ?_)
 all_goals rfl
open Go.RowKit
variable {G : Nat → AV}
@[reducible] def hdk (s : Sm) (k : Int) : Sm := { s with h := { s.h with k := k } }
@[reducible] def stH (X : Rdr) (s : Sm) : Sm := { s with h := { s.h with k := rv 1 X, fr := rv 4 (rtk 1 X), to := rv 4 (rtk 4 (rtk 1 X)), fp := rv 2 (rtk 4 (rtk 4 (rtk 1 X))), tp := rv 2 (rtk 2 (rtk 4 (rtk 4 (rtk 1 X)))) } }
@[reducible] def stX (X : Rdr) : Rdr := rtk 2 (rtk 2 (rtk 4 (rtk 4 (rtk 1 X))))
@[reducible] def stT (X : Rdr) (s : Sm) : Sm := { stH X s with h := { (stH X s).h with sr := rv 4 (stX X) } }
theorem fstatF_c (r p : Nm) (X : Rdr) (s : Sm) (hrp : r ≠ p) (he : rE (rtk 1 X) = false) (h1 : rv 1 X ≠ 1) (h2 : rv 1 X ≠ 2) : LP Tryz.prog G 98 [.ptr r 0, .ptr p 7] [(r, ⟨142, rcs X⟩), (p, ⟨67, s.fs⟩)] (fun _ => (.bool false, [(r, ⟨142, rcs (rtk 1 X)⟩), (p, ⟨67, (hdk s (rv 1 X)).fs⟩)])) := by
 refine goW [] Tryz.func98 rfl ?_
 conv => whnf
 repeat' ((first | (show LC _ _ _ _ _ _; first | (apply LC.upd (zZ _ _); (repeat first | refine goH ?_ | apply LH.here | apply LH.next); refine ⟨rfl, ?_⟩) | (apply LC.upd (xi _ _); (repeat first | refine goH ?_ | apply LH.here | apply LH.next); refine ⟨rfl, ?_⟩) | (apply LC.upd (xh _ _); (repeat first | refine goH ?_ | apply LH.here | apply LH.next); refine ⟨rfl, ?_⟩) | refine goE ?_) | refine T.s ?_ | ((first | apply goB | apply AB.dec | apply AB.gen) <;> intro h <;> try (exfalso; omega)) | refine LQ.mk fun r => ?_ | exact T.z | fail) <;> conv => whnf)
 all_goals (try dsimp only)
 all_goals first
   | ((show RL _ _ _; refine goR ?_); rfl)
   | (exfalso; simp_all)
theorem fstatT_c (r p : Nm) (X : Rdr) (s : Sm) (hrp : r ≠ p) (hk : rv 1 X = 2) : LP Tryz.prog G 98 [.ptr r 0, .ptr p 7] [(r, ⟨142, rcs X⟩), (p, ⟨67, s.fs⟩)] (fun _ => (.bool true, [(r, ⟨142, rcs (rtk 4 (stX X))⟩), (p, ⟨67, (stT X s).fs⟩)])) := by
 refine goW [] Tryz.func98 rfl ?_
 conv => whnf
 repeat' ((first | (show LC _ _ _ _ _ _; first | (apply LC.upd (zZ _ _); (repeat first | refine goH ?_ | apply LH.here | apply LH.next); refine ⟨rfl, ?_⟩) | (apply LC.upd (xi _ _); (repeat first | refine goH ?_ | apply LH.here | apply LH.next); refine ⟨rfl, ?_⟩) | (apply LC.upd (xh _ _); (repeat first | refine goH ?_ | apply LH.here | apply LH.next); refine ⟨rfl, ?_⟩) | refine goE ?_) | refine T.s ?_ | ((first | apply goB | apply AB.dec | apply AB.gen) <;> intro h <;> try (exfalso; omega)) | refine LQ.mk fun r => ?_ | exact T.z | fail) <;> conv => whnf)
 all_goals (try dsimp only)
 all_goals first
   | ((show RL _ _ _; refine goR ?_); rfl)
   | (exfalso; simp_all)
theorem yr (r p : Nm) (X : Rdr) (s : Sm) (hrp : r ≠ p) (hk : rv 1 X ≠ 2) (h : rE (rtk 1 X) = true ∨ rv 1 X = 1) : LP Tryz.prog G 98 [.ptr r 0, .ptr p 7] [(r, ⟨142, rcs X⟩), (p, ⟨67, s.fs⟩)] (fun _ => (.bool true, [(r, ⟨142, rcs (stX X)⟩), (p, ⟨67, (stH X s).fs⟩)])) := by
 refine goW [] Tryz.func98 rfl ?_
 conv => whnf
 repeat' ((first | (show LC _ _ _ _ _ _; first | (apply LC.upd (zZ _ _); (repeat first | refine goH ?_ | apply LH.here | apply LH.next); refine ⟨rfl, ?_⟩) | (apply LC.upd (xi _ _); (repeat first | refine goH ?_ | apply LH.here | apply LH.next); refine ⟨rfl, ?_⟩) | (apply LC.upd (xh _ _); (repeat first | refine goH ?_ | apply LH.here | apply LH.next); refine ⟨rfl, ?_⟩) | refine goE ?_) | refine T.s ?_ | ((first | apply goB | apply AB.dec | apply AB.gen) <;> intro h <;> try (exfalso; omega)) | refine LQ.mk fun r => ?_ | exact T.z | fail) <;> conv => whnf)
 all_goals (try dsimp only)
 all_goals first
   | ((show RL _ _ _; refine goR ?_); rfl)
   | (exfalso; simp_all)
@[reducible] def lw1 (X : Rdr) (k : Int) (s : Sm) : Sm := { hdk s k with n := shR (rv 1 X) 3, ck := andR (rv 1 X) 7 }
@[reducible] def yn (X : Rdr) (k : Int) (s : Sm) : Sm := { hdk s k with mr := vq (rv 1 X) 5, n := andR (rv 1 X) 31, tm := rv 2 (rtk 1 X), ck := rv 1 (rtk 2 (rtk 1 X)) }
@[reducible] def ym (X : Rdr) (k : Int) (s : Sm) : Sm := { hdk s k with mr := vq (rv 1 X) 5, n := andR (rv 1 X) 31, ck := rv 1 (rtk 1 X) }
@[reducible] def yl (X : Rdr) (k : Int) (s : Sm) : Sm := { hdk s k with mr := andR (rv 1 X) 1, n := rv 1 (rtk 1 X), tm := rv 4 (rtk 1 (rtk 1 X)), id := rv 2 (rtk 4 (rtk 1 (rtk 1 X))), ck := rv 1 (rtk 2 (rtk 4 (rtk 1 (rtk 1 X)))) }
@[reducible] def yk (X : Rdr) (k : Int) (s : Sm) : Sm := { hdk s k with mr := andR (rv 1 X) 1, n := rv 2 (rtk 1 X), ck := rv 1 (rtk 2 (rtk 1 X)) }
theorem nb3T_c (k : Int) (h : k = 2) : LP Tryz.prog G 120 [iAV 3, iAV k] [] (fun _ => (iAV 8, [])) := by
 have := nbits_c (G := G) 3 k
 rwa [show wid 3 k 0 = 8 from by simp [wid, h]] at this
theorem nb3U_c (k : Int) (h : k ≠ 2) : LP Tryz.prog G 120 [iAV 3, iAV k] [] (fun _ => (iAV 16, [])) := by
 have := nbits_c (G := G) 3 k
 rwa [show wid 3 k 0 = 16 from by simp [wid, h]] at this
@[reducible] def xr (X : Rdr) : Rdr := rtk 1 X
theorem flow1_c (r p : Nm) (X : Rdr) (R : List AV) (hR : R = rcs X) (k : Int) (s : Sm) (hrp : r ≠ p) (hf : s.f = 1)  : LP Tryz.prog G 100 [.ptr r 0, .ptr p 0, iAV k] [(r, ⟨142, R⟩), (p, ⟨67, s.fs⟩)] (fun _ => (.tup [], [(r, ⟨142, rcs (xr X)⟩), (p, ⟨67, (lw1 X k s).fs⟩)])) := by
 subst hR
 obtain ⟨cx, f, n, tm, mr, id, ud, h, d, ck, pl⟩ := s
 obtain rfl : f = 1 := hf
 refine goW [] Tryz.func100 rfl ?_
 conv => whnf
 repeat' ((first | (show LC _ _ _ _ _ _; first | (apply LC.upd (zZ _ _); (repeat first | refine goH ?_ | apply LH.here | apply LH.next); refine ⟨rfl, ?_⟩) | (apply LC.upd (xi _ _); (repeat first | refine goH ?_ | apply LH.here | apply LH.next); refine ⟨rfl, ?_⟩) | (apply LC.upd (xh _ _); (repeat first | refine goH ?_ | apply LH.here | apply LH.next); refine ⟨rfl, ?_⟩) | refine goE ?_) | refine T.s ?_ | ((first | apply goB | apply AB.dec | apply AB.gen) <;> intro h <;> try (exfalso; omega)) | refine LQ.mk fun r => ?_ | exact T.z | fail) <;> conv => whnf)
 all_goals (try dsimp only)
 all_goals first
   | ((show RL _ _ _; refine goR ?_); rfl)
   | (exfalso; simp_all)
@[reducible] def zf (X : Rdr) : Rdr := rtk 1 (rtk 2 (rtk 1 X))
theorem flow2T_c (r p : Nm) (X : Rdr) (R : List AV) (hR : R = rcs X) (k : Int) (s : Sm) (hrp : r ≠ p) (hf : s.f = 2) (hk : k = 2) : LP Tryz.prog G 100 [.ptr r 0, .ptr p 0, iAV k] [(r, ⟨142, R⟩), (p, ⟨67, s.fs⟩)] (fun _ => (.tup [], [(r, ⟨142, rcs (zf X)⟩), (p, ⟨67, (yn X k s).fs⟩)])) := by
 subst hR
 obtain ⟨cx, f, n, tm, mr, id, ud, h, d, ck, pl⟩ := s
 obtain rfl : f = 2 := hf
 refine goW [] Tryz.func100 rfl ?_
 conv => whnf
 repeat' ((first | (show LC _ _ _ _ _ _; first | (apply LC.upd (zZ _ _); (repeat first | refine goH ?_ | apply LH.here | apply LH.next); refine ⟨rfl, ?_⟩) | (apply LC.upd (xi _ _); (repeat first | refine goH ?_ | apply LH.here | apply LH.next); refine ⟨rfl, ?_⟩) | (apply LC.upd (xh _ _); (repeat first | refine goH ?_ | apply LH.here | apply LH.next); refine ⟨rfl, ?_⟩) | refine goE ?_) | refine T.s ?_ | ((first | apply goB | apply AB.dec | apply AB.gen) <;> intro h <;> try (exfalso; omega)) | refine LQ.mk fun r => ?_ | exact T.z | fail) <;> conv => whnf)
 all_goals (try dsimp only)
 all_goals first
   | ((show RL _ _ _; refine goR ?_); rfl)
   | (exfalso; simp_all)
@[reducible] def ze (X : Rdr) : Rdr := rtk 1 (rtk 1 X)
theorem flow2U_c (r p : Nm) (X : Rdr) (R : List AV) (hR : R = rcs X) (k : Int) (s : Sm) (hrp : r ≠ p) (hf : s.f = 2) (hk : k ≠ 2) : LP Tryz.prog G 100 [.ptr r 0, .ptr p 0, iAV k] [(r, ⟨142, R⟩), (p, ⟨67, s.fs⟩)] (fun _ => (.tup [], [(r, ⟨142, rcs (ze X)⟩), (p, ⟨67, (ym X k s).fs⟩)])) := by
 subst hR
 obtain ⟨cx, f, n, tm, mr, id, ud, h, d, ck, pl⟩ := s
 obtain rfl : f = 2 := hf
 refine goW [] Tryz.func100 rfl ?_
 conv => whnf
 repeat' ((first | (show LC _ _ _ _ _ _; first | (apply LC.upd (zZ _ _); (repeat first | refine goH ?_ | apply LH.here | apply LH.next); refine ⟨rfl, ?_⟩) | (apply LC.upd (xi _ _); (repeat first | refine goH ?_ | apply LH.here | apply LH.next); refine ⟨rfl, ?_⟩) | (apply LC.upd (xh _ _); (repeat first | refine goH ?_ | apply LH.here | apply LH.next); refine ⟨rfl, ?_⟩) | refine goE ?_) | refine T.s ?_ | ((first | apply goB | apply AB.dec | apply AB.gen) <;> intro h <;> try (exfalso; omega)) | refine LQ.mk fun r => ?_ | exact T.z | fail) <;> conv => whnf)
 all_goals (try dsimp only)
 all_goals first
   | ((show RL _ _ _; refine goR ?_); rfl)
   | (exfalso; simp_all)
@[reducible] def zd (X : Rdr) : Rdr := rtk 1 (rtk 2 (rtk 4 (rtk 1 (rtk 1 X))))
theorem flow3T_c (r p : Nm) (X : Rdr) (R : List AV) (hR : R = rcs X) (k : Int) (s : Sm) (hrp : r ≠ p) (hf : s.f = 3) (hk : k = 2) : LP Tryz.prog G 100 [.ptr r 0, .ptr p 0, iAV k] [(r, ⟨142, R⟩), (p, ⟨67, s.fs⟩)] (fun _ => (.tup [], [(r, ⟨142, rcs (zd X)⟩), (p, ⟨67, (yl X k s).fs⟩)])) := by
 subst hR
 obtain ⟨cx, f, n, tm, mr, id, ud, h, d, ck, pl⟩ := s
 obtain rfl : f = 3 := hf
 refine goW [] Tryz.func100 rfl ?_
 conv => whnf
 repeat' ((first | (show LC _ _ _ _ _ _; first | refine LC.pure (nb3T_c k hk) ?_ | (apply LC.upd (zZ _ _); (repeat first | refine goH ?_ | apply LH.here | apply LH.next); refine ⟨rfl, ?_⟩) | (apply LC.upd (xi _ _); (repeat first | refine goH ?_ | apply LH.here | apply LH.next); refine ⟨rfl, ?_⟩) | (apply LC.upd (xh _ _); (repeat first | refine goH ?_ | apply LH.here | apply LH.next); refine ⟨rfl, ?_⟩) | refine goE ?_) | refine T.s ?_ | ((first | apply goB | apply AB.dec | apply AB.gen) <;> intro h <;> try (exfalso; omega)) | refine LQ.mk fun r => ?_ | exact T.z | fail) <;> conv => whnf)
 all_goals (try dsimp only)
 all_goals first
   | ((show RL _ _ _; refine goR ?_); rfl)
   | (exfalso; simp_all)
@[reducible] def zc (X : Rdr) : Rdr := rtk 1 (rtk 2 (rtk 1 X))
theorem flow3U_c (r p : Nm) (X : Rdr) (R : List AV) (hR : R = rcs X) (k : Int) (s : Sm) (hrp : r ≠ p) (hf : s.f = 3) (hk : k ≠ 2) : LP Tryz.prog G 100 [.ptr r 0, .ptr p 0, iAV k] [(r, ⟨142, R⟩), (p, ⟨67, s.fs⟩)] (fun _ => (.tup [], [(r, ⟨142, rcs (zc X)⟩), (p, ⟨67, (yk X k s).fs⟩)])) := by
 subst hR
 obtain ⟨cx, f, n, tm, mr, id, ud, h, d, ck, pl⟩ := s
 obtain rfl : f = 3 := hf
 refine goW [] Tryz.func100 rfl ?_
 conv => whnf
 repeat' ((first | (show LC _ _ _ _ _ _; first | refine LC.pure (nb3U_c k hk) ?_ | (apply LC.upd (zZ _ _); (repeat first | refine goH ?_ | apply LH.here | apply LH.next); refine ⟨rfl, ?_⟩) | (apply LC.upd (xi _ _); (repeat first | refine goH ?_ | apply LH.here | apply LH.next); refine ⟨rfl, ?_⟩) | (apply LC.upd (xh _ _); (repeat first | refine goH ?_ | apply LH.here | apply LH.next); refine ⟨rfl, ?_⟩) | refine goE ?_) | refine T.s ?_ | ((first | apply goB | apply AB.dec | apply AB.gen) <;> intro h <;> try (exfalso; omega)) | refine LQ.mk fun r => ?_ | exact T.z | fail) <;> conv => whnf)
 all_goals (try dsimp only)
 all_goals first
   | ((show RL _ _ _; refine goR ?_); rfl)
   | (exfalso; simp_all)
def fmR (c : UInt8) : Int := if c.toNat < 128 then 1 else if c.toNat < 192 then 2 else if c.toNat = 192 ∨ c.toNat = 193 then 3 else if c.toNat = 208 then 4 else if c.toNat = 209 then 5 else if c.toNat = 210 then 6 else 0
set_option maxRecDepth 100000 in
theorem fmt_c (c : UInt8) : LP Tryz.prog G 96 [bAV c] [] (fun _ => (.tup [iAV (fmR c), .bool (decide (fmR c ≠ 0))], [])) := by
 refine goW [] Tryz.func96 rfl ?_
 conv => whnf
 repeat' ((first | refine T.s ?_ | ((first | apply goB | apply AB.dec | apply AB.gen) <;> intro h <;> try (exfalso; omega)) | refine LQ.mk fun r => ?_ | exact T.z | fail) <;> conv => whnf)
 all_goals (try dsimp only)
 all_goals
   (show RL _ _ _; refine goR ?_)
   have hlt : c.toNat < 256 := c.toNat_lt
   refine congrArg AV.tup ?_
   first
     | (have e : fmR c = 0 := (by unfold fmR; (repeat' split) <;> omega)
        rw [e]; rfl)
     | (have e : fmR c = 1 := (by unfold fmR; (repeat' split) <;> omega)
        rw [e]; rfl)
     | (have e : fmR c = 2 := (by unfold fmR; (repeat' split) <;> omega)
        rw [e]; rfl)
     | (have e : fmR c = 3 := (by unfold fmR; (repeat' split) <;> omega)
        rw [e]; rfl)
     | (have e : fmR c = 4 := (by unfold fmR; (repeat' split) <;> omega)
        rw [e]; rfl)
     | (have e : fmR c = 5 := (by unfold fmR; (repeat' split) <;> omega)
        rw [e]; rfl)
     | (have e : fmR c = 6 := (by unfold fmR; (repeat' split) <;> omega)
        rw [e]; rfl)
def ql : List UInt8 → Int × Int × Int
 | [] => (0, 0, 5)
 | a :: r => if 224 ≤ a.toNat ∧ a.toNat < 240 then (match r with | [] => (0, 0, 5) | b :: _ => if a.toNat = 224 ∨ fmR b = 0 ∨ b.toNat = 210 then (0, 0, 4) else ((a.toNat : Int) - 224, fmR b, 0)) else if fmR a = 0 then (0, 0, 4) else (0, fmR a, 0)
def pe (x : Int × Int × Int) : AV := .tup [iAV x.1, iAV x.2.1, iAV x.2.2]
theorem and240 : ∀ n : Nat, n < 256 → (qB .and .u8 (n : Int) 240 = 224 ↔ (224 ≤ n ∧ n < 240)) := by decide +kernel
theorem nand240 : ∀ n : Nat, n < 256 → (224 ≤ n ∧ n < 240) → IntKind.i64.wrap (qB .andNot .u8 (n : Int) 240) = (n : Int) - 224 := by decide +kernel
theorem wm (l : List UInt8) : LP Tryz.prog G 61 [bv l] [] (fun _ => (pe (ql l), [])) := by
 match l with
 | [] =>
   refine goW [] Tryz.func61 rfl ?_
   conv => whnf
   repeat' ((first | exact Nm.b 0 | refine T.s ?_ | ((first | apply goB | apply AB.dec | apply AB.gen) <;> intro h <;> try (exfalso; omega)) | refine LQ.mk fun r => ?_ | (show SQ _ _ _ _ _ _ _; first | (refine goD tQ qb 7 [] [0, 1, 2, 3, 4, 5, 6, 7] [] (by kernel_rfl) ?_)) | exact T.z | refine ⟨_, rfl, rfl, ?_⟩ | fail) <;> conv => whnf)
   all_goals (try dsimp only)
   (show RL _ _ _; refine goR ?_)
   rfl
 | [a] =>
   have hlt : a.toNat < 256 := a.toNat_lt
   have ha := and240 _ hlt
   refine goW [] Tryz.func61 rfl ?_
   conv => whnf
   repeat' ((first | exact Nm.b 0 | (show LC _ _ _ _ _ _; first | refine LC.pure (fmt_c _) ?_ | refine goE ?_) | refine T.s ?_ | ((first | apply goB | apply AB.dec | apply AB.gen) <;> intro h <;> try (exfalso; omega)) | refine LQ.mk fun r => ?_ | (show SQ _ _ _ _ _ _ _; first | (refine goD tQ qb 7 [] [0, 1, 2, 3, 4, 5, 6, 7] [] (by kernel_rfl) ?_)) | exact T.z | refine ⟨_, rfl, rfl, ?_⟩ | fail) <;> conv => whnf)
   all_goals (try dsimp only)
   all_goals
     dsimp only at *
     simp only [show Int.toNat 0 * 1 = 0 from rfl, show Int.toNat 1 * 1 = 1 from rfl, List.getD_cons_zero, List.getD_cons_succ] at *
     (show RL _ _ _; refine goR ?_)
     refine congrArg AV.tup ?_
     simp only [ql, iAV]
     first
       | (have hA : 224 ≤ a.toNat ∧ a.toNat < 240 := ha.1 (by assumption)
          rewrite [if_pos hA]
          (try rewrite [hb hA] at *)
          first
            | rfl
            | (split <;> first | rfl | (exfalso; omega) | (simp only [List.cons.injEq, AV.int.injEq, true_and, and_true]; omega)))
       | (have hA : ¬ (224 ≤ a.toNat ∧ a.toNat < 240) := fun h => absurd (ha.2 h) (by assumption)
          rewrite [if_neg hA]
          (split <;> first | rfl | (exfalso; omega) | (simp only [List.cons.injEq, AV.int.injEq, true_and, and_true]; omega)))
 | a :: b :: r =>
   have hlt : a.toNat < 256 := a.toNat_lt
   have ha := and240 _ hlt
   have hb := nand240 _ hlt
   refine goW [] Tryz.func61 rfl ?_
   conv => whnf
   repeat' ((first | exact Nm.b 0 | (show LC _ _ _ _ _ _; first | refine LC.pure (fmt_c _) ?_ | refine goE ?_) | refine T.s ?_ | ((first | apply goB | apply AB.dec | apply AB.gen) <;> intro h <;> try (exfalso; omega)) | refine LQ.mk fun r => ?_ | (show SQ _ _ _ _ _ _ _; first | (refine goD tQ qb 7 [] [0, 1, 2, 3, 4, 5, 6, 7] [] (by kernel_rfl) ?_)) | exact T.z | refine ⟨_, rfl, rfl, ?_⟩ | fail) <;> conv => whnf)
   all_goals (try dsimp only)
   all_goals
     dsimp only at *
     simp only [show Int.toNat 0 * 1 = 0 from rfl, show Int.toNat 1 * 1 = 1 from rfl, List.getD_cons_zero, List.getD_cons_succ] at *
     (show RL _ _ _; refine goR ?_)
     refine congrArg AV.tup ?_
     simp only [ql, iAV]
     first
       | (have hA : 224 ≤ a.toNat ∧ a.toNat < 240 := ha.1 (by assumption)
          rewrite [if_pos hA]
          (try rewrite [hb hA] at *)
          first
            | rfl
            | (split <;> first | rfl | (exfalso; omega) | (simp only [List.cons.injEq, AV.int.injEq, true_and, and_true]; omega)))
       | (have hA : ¬ (224 ≤ a.toNat ∧ a.toNat < 240) := fun h => absurd (ha.2 h) (by assumption)
          rewrite [if_neg hA]
          (split <;> first | rfl | (exfalso; omega) | (simp only [List.cons.injEq, AV.int.injEq, true_and, and_true]; omega)))
open Go.RowKit
variable {G : Nat → AV}
@[reducible] def s0 (c f : Int) : Sm := ⟨c, f, 0, 0, 0, 0, 0, ⟨0, 0, 0, 0, 0, 0, 0, 0, 0, 0, 0, 0, 0, 0, 0⟩, ⟨0, 0⟩, 0, []⟩
@[reducible] def wpl (s : Sm) (X : Rdr) : Sm := { s with pl := rL X }
@[reducible] def wud (s : Sm) (n : Int) : Sm := { s with ud := n }
@[reducible] def wck (s : Sm) (n : Int) : Sm := { s with ck := n }
@[reducible] def whc (s : Sm) (n : Int) : Sm := { s with h := { s.h with ck := n } }
def xW (X : Rdr) (s : Sm) (b : List UInt8) : Sm ⊕ Int :=
 if rE X = true then .inr 5 else if zu (wpl s X) = (b, 0) then .inl (wpl s X) else .inr 4
def zi (ck : Bool) (X : Rdr) (s : Sm) (b : List UInt8) : Sm ⊕ Int :=
 if ck = true then (if rE (rtk 2 X) = true then .inr 5 else if rv 2 X = 0 then .inr 4 else xW (rtk 2 X) (wud s (rv 2 X)) b) else xW X s b
def ka (X : Rdr) (s : Sm) (fl : Int) (b : List UInt8) : Sm ⊕ Int :=
 if vq fl 6 = 1 then xW (rtk 2 (rtk 1 X)) (whc (wck s (rv 1 X)) (rv 2 (rtk 1 X))) b else xW (rtk 1 X) (wck s (rv 1 X)) b
def kP (c : Int) (Y : Rdr) (b : List UInt8) : Sm ⊕ Int :=
 if rE (rtk 1 Y) = true then .inr 5
 else if rv 1 Y = 2 then ka (qq (rtk 4 (stX Y))) (jg (rtk 4 (stX Y)) (stT Y (s0 c 5))) (jl (rtk 4 (stX Y))) b
 else if rv 1 Y = 1 then ka (qp (stX Y)) (jf (stX Y) (stH Y (s0 c 5))) (jl (stX Y)) b
 else .inr 4
def decB (f c : Int) (X : Rdr) (b : List UInt8) (k : Int) (ck : Bool) : Sm ⊕ Int :=
 if f = 1 then zi ck (xr X) (lw1 X k (s0 c 1)) b
 else if f = 2 then (if k = 2 then zi ck (zf X) (yn X k (s0 c 2)) b else zi ck (ze X) (ym X k (s0 c 2)) b)
 else if f = 3 then (if k = 2 then zi ck (zd X) (yl X k (s0 c 3)) b else zi ck (zc X) (yk X k (s0 c 3)) b)
 else if f = 4 then (if k = 2 then ka (qq (rtk 1 X)) (jg (rtk 1 X) (hdk (s0 c 4) k)) (jl (rtk 1 X)) b else ka (qp (rtk 1 X)) (jf (rtk 1 X) (hdk (s0 c 4) k)) (jl (rtk 1 X)) b)
 else if f = 5 then kP c (rtk 1 X) b
 else xW (rtk 1 X) (s0 c 6) b
def qY (b : List UInt8) (hb : b.length ≤ 140737488355328) (k : Int) (ck : Bool) : Sm ⊕ Int :=
 if (ql b).2.2 ≠ 0 then .inr (ql b).2.2
 else if (ql b).2.1 ≤ 4 ∧ k ≠ 1 ∧ k ≠ 2 then .inr 7
 else decB (ql b).2.1 (ql b).1 (if 0 < (ql b).1 then rtk 1 (rdr b hb) else rdr b hb) b k ck
def zAV : AV := .agg [iAV 0, iAV 0, iAV 0, iAV 0, iAV 0, iAV 0, iAV 0, iAV 0, iAV 0, iAV 0, iAV 0, iAV 0, iAV 0, iAV 0, iAV 0, iAV 0, iAV 0, iAV 0, iAV 0, iAV 0, iAV 0, iAV 0, iAV 0, iAV 0, iAV 0, .nils]
def dsv : Sm ⊕ Int → AV
 | .inl s => s.av
 | .inr _ => zAV
def dse : Sm ⊕ Int → Int
 | .inl _ => 0
 | .inr e => e
def de (x : Sm ⊕ Int) : AV := .tup [dsv x, iAV (dse x)]
theorem rv_end (n : Nat) (X : Rdr) (h : rE (rtk n X) = true) : rv n X = 0 := by
 obtain ⟨_ | l, hl⟩ := X
 · unfold rv; rfl
 · unfold rv
   unfold rE rtk at h
   show (if l.length < n then 0 else beN (l.take n)) = 0
   by_cases hn : l.length < n
   · exact if_pos hn
   · exfalso
     have : tkR n (some l) = some (l.drop n) := if_neg hn
     simp [this] at h
theorem qi {X : Rdr} (h : rE X = false) : rcs X = [bv (rL X), .bool false] := by
 show [rV X, .bool (rE X)] = _
 rw [rV_some X h, h]
def jq (ck : Bool) (X : Rdr) (s : Sm) (b : List UInt8) : Sm ⊕ Int :=
 if ck = true then xW (rtk 2 X) (wud s (rv 2 X)) b else xW X s b
theorem zM {X : Rdr} {s : Sm} {b : List UInt8} (h : rE X = true) : xW X s b = .inr 5 := if_pos h
theorem zV {X : Rdr} {s : Sm} {b : List UInt8} (h : rE X = false) (h2 : (zu (wpl s X)).2 = 0) (h1 : (zu (wpl s X)).1 = b) : xW X s b = .inl (wpl s X) := by
 unfold xW
 rw [if_neg (by rw [h]; decide), if_pos (Prod.ext h1 h2)]
theorem z5 {X : Rdr} {s : Sm} {b : List UInt8} (h : rE X = false) (h1 : ¬ (zu (wpl s X)).1 = b) : xW X s b = .inr 4 := by
 unfold xW
 rw [if_neg (by rw [h]; decide), if_neg (fun e => h1 (congrArg Prod.fst e))]
theorem zb {X : Rdr} {s : Sm} {b : List UInt8} (h : rE X = false) (h1 : ¬ (zu (wpl s X)).2 = 0) : xW X s b = .inr 4 := by
 unfold xW
 rw [if_neg (by rw [h]; decide), if_neg (fun e => h1 (congrArg Prod.snd e))]
theorem ks {X : Rdr} {s : Sm} {fl : Int} {b : List UInt8} (h : vq fl 6 = 1) : ka X s fl b = xW (rtk 2 (rtk 1 X)) (whc (wck s (rv 1 X)) (rv 2 (rtk 1 X))) b := if_pos h
theorem kt {X : Rdr} {s : Sm} {fl : Int} {b : List UInt8} (h : ¬ vq fl 6 = 1) : ka X s fl b = xW (rtk 1 X) (wck s (rv 1 X)) b := if_neg h
theorem w7 {X : Rdr} {s : Sm} {b : List UInt8} (h : rE (rtk 2 X) = true) : zi true X s b = .inr 5 := if_pos h
theorem w8 {X : Rdr} {s : Sm} {b : List UInt8} (h : rE (rtk 2 X) = false) (h0 : rv 2 X = 0) : zi true X s b = .inr 4 := by
 unfold zi
 rw [if_pos rfl, if_neg (by rw [h]; decide), if_pos h0]
theorem w6 {X : Rdr} {s : Sm} {b : List UInt8} (h : rE (rtk 2 X) = false) (h0 : ¬ rv 2 X = 0) : zi true X s b = xW (rtk 2 X) (wud s (rv 2 X)) b := by
 unfold zi
 rw [if_pos rfl, if_neg (by rw [h]; decide), if_neg h0]
theorem zN (a b : List UInt8) : LP Tryz.prog G 103 [bv a, bv b] [] (fun _ => (.bool (decide (a = b)), [])) := by
 refine goW [] Tryz.func103 rfl ?_
 conv => whnf
 repeat' ((first | refine T.s ?_ | ((first | apply goB | apply AB.dec | apply AB.gen) <;> intro h <;> try (exfalso; omega)) | refine LQ.mk fun r => ?_ | exact T.z | refine ⟨_, rfl, rfl, ?_⟩ | fail) <;> conv => whnf)
 all_goals (try dsimp only)
 (show RL _ _ _; refine goR ?_)
 refine congrArg AV.bool ?_
 rw [ByteArray.toList_eq, ByteArray.toList_eq, Bool.eq_iff_iff]
 simp
theorem fpk {b : List UInt8} {c f e : Int} (h : ql b = (c, f, e)) : LP Tryz.prog G 61 [bv b] [] (fun _ => (.tup [iAV c, iAV f, iAV e], [])) := by
 have := wm (G := G) b
 rwa [h] at this
end Go.Proofs.YtkfpgdckdmlhkaaGreatDoor
