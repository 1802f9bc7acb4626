import Derived.Test.YtkfpgdckdmlhkaaGreatDoorDp09
import Derived.Test.YtkfpgdckdmlhkaaGreatDoorDp04
set_option maxHeartbeats 4000000
namespace Go.Proofs.YtkfpgdckdmlhkaaGreatDoor
open Go.RowKit
set_option linter.all false
variable {G : Nat → AV}
theorem putB_one (n : Int) : putB n 1 = [b8 n] := by
 show [b8 (n.fdiv (2 ^ 0))] = _
 rw [Int.fdiv_eq_ediv_of_nonneg _ (by decide)]
 simp
theorem big_c (f : Int) : LP Tryz.prog G 94 [iAV f] [] (fun _ => (.bool (decide (f = 4 ∨ f = 5)), [])) := by
 refine goW [] Tryz.func94 rfl ?_
 conv => whnf
 repeat' ((first
   | refine T.s ?_
   | ((first | refine goB (fun h => ?_) (fun h => ?_) | refine AB.dec (fun h => ?_) (fun h => ?_) | refine AB.gen (fun h => ?_) (fun h => ?_)) <;> try (exfalso; omega))
   | refine LFresh.mk fun r => ?_
   | exact T.z
   | fail) <;> conv => whnf)
 all_goals (try dsimp only)
 all_goals
   ((show RL _ _ _; refine goR ?_); (focus (refine congrArg AV.bool ?_; rw [Bool.eq_iff_iff])))
   simp_all [icmp]
theorem hd_parts (s : Sm) (h : s.ok = true) : (preL s).length ≤ 1 ∧ (bodyL s).length ≤ 60 := by
 constructor
 · unfold preL; split <;> simp
 · unfold bodyL statL dynL
   by_cases hk : s.h.k = 2 <;> (repeat' split) <;> simp [hk]
def udL (s : Sm) : List UInt8 := if s.ud = 0 then [] else putB s.ud 2
theorem hdL_eq (s : Sm) (h : s.ok = true) : hdL s = preL s ++ bodyL s ++ udL s ++ (if (s.f = 4 ∨ s.f = 5) ∧ ¬ s.h.ck = 0 then putB s.h.ck 2 else []) := by
 obtain ⟨-, -, hc⟩ := s.of h
 unfold hdL udL
 rw [sum_eq]
 rcases hc with ⟨hf, -⟩ | ⟨hf, hn, -⟩ | ⟨hf, hn, -⟩
 · rw [if_neg (show ¬ ((s.f = 4 ∨ s.f = 5) ∧ ¬ s.h.ck = 0) by omega), if_neg (show ¬ (s.f = 4 ∨ s.f = 5) by omega)]
   simp
 · simp only [noneR, decide_eq_true_eq] at hn
   rw [if_pos hf, if_pos hn.2.2.2.2]
   by_cases hz : s.h.ck = 0 <;> simp [hz, hf]
 · simp only [noneR, decide_eq_true_eq] at hn
   rw [if_neg (show ¬ ((s.f = 4 ∨ s.f = 5) ∧ ¬ s.h.ck = 0) by omega), if_neg (show ¬ (s.f = 4 ∨ s.f = 5) by omega)]
   simp
theorem rencode_c (s : Sm) : LP Tryz.prog G 54 [s.av] [] (fun _ => (be (encR s), [])) := by
 cases hok : s.ok with
 | false =>
   have e : encR s = ([], 1) := by unfold encR; rw [hok]; rfl
   rw [e]
   refine goW [] Tryz.func54 rfl ?_
   conv => whnf
   repeat' ((first
     | exact Nm.b 0
     | (show LC _ _ _ _ _ _; first | refine LC.pure (hok ▸ rvalid8_c s) ?_ | refine goE ?_)
     | refine T.s ?_
     | ((first | refine goB (fun h => ?_) (fun h => ?_) | refine AB.dec (fun h => ?_) (fun h => ?_) | refine AB.gen (fun h => ?_) (fun h => ?_)) <;> try (exfalso; omega))
     | refine LFresh.mk fun r => ?_
     | (show SQ _ _ _ _ _ _ _; first | (refine goD tQ mixed 19 [5, 8, 3, 6] [0, 1, 2, 4, 5, 7, 8, 3, 6, 9, 10] [] (by kernel_rfl) ?_) | (refine goD tQ mixed 23 [3, 7, 2, 4, 5] [0, 3, 6, 7, 8, 1, 2, 4, 5, 9, 10, 11] [] (by kernel_rfl) ?_) | (refine goD tQ mixed 27 [5, 3] [0, 1, 2, 4, 5, 3, 6, 7] [] (by kernel_rfl) ?_) | (refine goD tQ mixed 28 [5, 3] [0, 1, 2, 4, 5, 3, 6, 7] [] (by kernel_rfl) ?_) | (refine goD tQ mixed 31 [5, 2, 3] [0, 1, 4, 5, 6, 2, 3, 7, 8, 9] [] (by kernel_rfl) ?_))
     | exact T.z
     | refine ⟨_, rfl, rfl, ?_⟩
     | fail) <;> conv => whnf)
   all_goals (try dsimp only)
   exact RL.frz [] (LF.tup ⟨LF.nils rfl rfl, LF.eq rfl, trivial⟩) LB.nil
 | true =>
   have e : encR s = (hdL s ++ s.pl, 0) := by unfold encR; rw [hok]; rfl
   have hpl := (s.of hok).1.2.2
   have hh := hd_parts s hok
   have hu : (udL s).length ≤ 2 := by unfold udL; split <;> simp
   have hq := hdL_eq s hok
   have hdl : (dynL s.h s.d).length ≤ 14 := by
     unfold dynL
     split <;> simp
   have hhl := (hd_len s hok).2
   have hdy : s.f = 4 ∨ s.f = 5 → LP Tryz.prog G 93 [s.av] [] (fun _ => (bv (dynL s.h s.d), [])) := fun hf => by
     obtain ⟨-, -, hc⟩ := s.of hok
     rcases hc with ⟨hf, -⟩ | ⟨-, -, hw⟩ | ⟨hf, -⟩
     · omega
     · simp only [wholeR, Bool.and_eq_true] at hw
       have := s.h.of hw.1
       exact rdyn_c s this.1 (by omega)
     · omega
   rw [e]
   clear e
   refine goW [4, 7, 32, 34] Tryz.func54 rfl ?_
   conv => whnf
   repeat' ((first
     | (show CutL _ _ _ _ _ _ _ _; refine CutL.adopt 4 1 5 (by rfl) fun q => ?_)
     | (show LC _ _ _ _ _ _; refine LC.putk 1 (fun bs p hb => put1r_c bs _ hb p) ?_; (repeat first | refine goH ?_ | apply LH.here | apply LH.next); refine ⟨_, rfl, (by first | exact rfl | assumption | (simp; done) | (simp; omega)), (by first | exact Nat.le_of_ble_eq_true rfl | (simp; omega) | (simp; done)), ?_⟩; conv => whnf)
     | (show LC _ _ _ _ _ _; refine LC.putk 2 (fun bs p hb => put2_c bs _ hb p) ?_; (repeat first | refine goH ?_ | apply LH.here | apply LH.next); refine ⟨_, rfl, (by first | exact rfl | assumption | (simp; done) | (simp; omega)), (by first | exact Nat.le_of_ble_eq_true rfl | (simp; omega) | (simp; done)), ?_⟩; conv => whnf)
     | (show LC _ _ _ _ _ _; refine LC.putk 4 (fun bs p hb => put4_c bs _ hb p) ?_; (repeat first | refine goH ?_ | apply LH.here | apply LH.next); refine ⟨_, rfl, (by first | exact rfl | assumption | (simp; done) | (simp; omega)), (by first | exact Nat.le_of_ble_eq_true rfl | (simp; omega) | (simp; done)), ?_⟩; conv => whnf)
     | exact Nm.b 0
     | (show LC _ _ _ _ _ _; first | refine LC.pure (hok ▸ rvalid8_c s) ?_ | refine LC.pure (hdy (by omega)) ?_ | refine LC.pure (big_c _) ?_ | refine goE ?_)
     | (show AQ _ _; first | (refine AQ.appB ?_ ?_; (focus (first | exact Nat.le_of_ble_eq_true rfl | (simp; done) | (simp; omega) | omega))) | (refine AQ.appM (cs := [b8 208]) ?_ rfl ?_; (focus (first | exact Nat.le_of_ble_eq_true rfl | (simp; done) | (simp; omega) | omega))) | (refine AQ.appM (cs := [b8 210]) ?_ rfl ?_; (focus (first | exact Nat.le_of_ble_eq_true rfl | (simp; done) | (simp; omega) | omega))) | (refine AQ.appM (cs := [b8 209, b8 s.h.k]) ?_ (by simp only [List.map_cons, List.map_nil, bAV_b8]; rfl) ?_; (focus (first | exact Nat.le_of_ble_eq_true rfl | (simp; done) | (simp; omega) | omega))) | (refine AQ.appM (cs := dynL s.h s.d) ?_ rfl ?_; (focus (first | exact Nat.le_of_ble_eq_true rfl | (simp; done) | (simp; omega) | omega))) | (refine AQ.appM (cs := s.pl) ?_ rfl ?_; (focus (first | exact Nat.le_of_ble_eq_true rfl | (simp; done) | (simp; omega) | omega))))
     | refine T.s ?_
     | ((first | refine goB (fun h => ?_) (fun h => ?_) | refine AB.dec (fun h => ?_) (fun h => ?_) | refine AB.gen (fun h => ?_) (fun h => ?_)) <;> try (exfalso; omega))
     | refine LFresh.mk fun r => ?_
     | (show SQ _ _ _ _ _ _ _; first | (apply goD tQ mixed 19 [5, 8, 3, 6] [0, 1, 2, 4, 5, 7, 8, 3, 6, 9, 10] [_] (by kernel_rfl)) | (refine goD tQ mixed 19 [5, 8, 3, 6] [0, 1, 2, 4, 5, 7, 8, 3, 6, 9, 10] [] (by kernel_rfl) ?_) | (apply goD tQ mixed 23 [3, 7, 2, 4, 5] [0, 3, 6, 7, 8, 1, 2, 4, 5, 9, 10, 11] [_] (by kernel_rfl)) | (refine goD tQ mixed 23 [3, 7, 2, 4, 5] [0, 3, 6, 7, 8, 1, 2, 4, 5, 9, 10, 11] [] (by kernel_rfl) ?_) | (apply goD tQ mixed 27 [5, 3] [0, 1, 2, 4, 5, 3, 6, 7] [_] (by kernel_rfl)) | (refine goD tQ mixed 27 [5, 3] [0, 1, 2, 4, 5, 3, 6, 7] [] (by kernel_rfl) ?_) | (apply goD tQ mixed 28 [5, 3] [0, 1, 2, 4, 5, 3, 6, 7] [_] (by kernel_rfl)) | (refine goD tQ mixed 28 [5, 3] [0, 1, 2, 4, 5, 3, 6, 7] [] (by kernel_rfl) ?_) | (apply goD tQ mixed 31 [5, 2, 3] [0, 1, 4, 5, 6, 2, 3, 7, 8, 9] [_] (by kernel_rfl)) | (refine goD tQ mixed 31 [5, 2, 3] [0, 1, 4, 5, 6, 2, 3, 7, 8, 9] [] (by kernel_rfl) ?_))
     | (show CutL _ _ _ _ _ _ _ _; first | (refine goK tQ [4, 7, 32, 34] 4 (S := Nm × Nm × Nat) [] (fun (p, q, n) => ⟨[(4, .vw q 0 n 1), (1, .ptr p 0)], [(p, ⟨67, s.cs⟩), (q, ⟨5, (preL s).map bAV⟩)], n = (preL s).length, 0⟩) ?_ ?_; (rintro ⟨p, q, n⟩ hok; (try dsimp only at hok); (repeat (have hk := And.left hok; replace hok := And.right hok))); rotate_left) | (refine goK tQ [4, 7, 32, 34] 7 (S := Nm × Nm × Nat) [] (fun (p, q, n) => ⟨[(4, .vw q 0 n 1), (1, .ptr p 0)], [(p, ⟨67, s.cs⟩), (q, ⟨5, (preL s ++ bodyL s).map bAV⟩)], n = (preL s ++ bodyL s).length, 0⟩) ?_ ?_; (rintro ⟨p, q, n⟩ hok; (try dsimp only at hok); (repeat (have hk := And.left hok; replace hok := And.right hok))); rotate_left) | (refine goK tQ [4, 7, 32, 34] 32 (S := Nm × Nm × Nat) [] (fun (p, q, n) => ⟨[(4, .vw q 0 n 1), (1, .ptr p 0)], [(p, ⟨67, s.cs⟩), (q, ⟨5, (preL s ++ bodyL s ++ udL s).map bAV⟩)], n = (preL s ++ bodyL s ++ udL s).length, 0⟩) ?_ ?_; (rintro ⟨p, q, n⟩ hok; (try dsimp only at hok); (repeat (have hk := And.left hok; replace hok := And.right hok))); rotate_left) | (refine goK tQ [4, 7, 32, 34] 34 (S := Nm × Nm × Nat) [] (fun (p, q, n) => ⟨[(4, .vw q 0 n 1), (1, .ptr p 0)], [(p, ⟨67, s.cs⟩), (q, ⟨5, (hdL s).map bAV⟩)], n = (hdL s).length, 0⟩) ?_ ?_; (rintro ⟨p, q, n⟩ hok; (try dsimp only at hok); (repeat (have hk := And.left hok; replace hok := And.right hok))); rotate_left) | refine CutL.go tQ [4, 7, 32, 34] ?_)
     | (show AtC _ _ _ _ _ _ _ _; first | (apply AtC.mk' (id := 4) (S := Nm × Nm × Nat) ((_, _, _)); all_goals (try exact K88D); done) | (apply AtC.mk' (id := 7) (S := Nm × Nm × Nat) ((_, _, _)); all_goals (try exact K88D); done) | (apply AtC.mk' (id := 32) (S := Nm × Nm × Nat) ((_, _, _)); all_goals (try exact K88D); done) | (apply AtC.mk' (id := 34) (S := Nm × Nm × Nat) ((_, _, _)); all_goals (try exact K88D); done) | (apply AtC.mk' (id := 4) (S := Nm × Nm × Nat) ((_, _, _)); all_goals (try exact K88D)) | (apply AtC.mk' (id := 7) (S := Nm × Nm × Nat) ((_, _, _)); all_goals (try exact K88D)) | (apply AtC.mk' (id := 32) (S := Nm × Nm × Nat) ((_, _, _)); all_goals (try exact K88D)) | (apply AtC.mk' (id := 34) (S := Nm × Nm × Nat) ((_, _, _)); all_goals (try exact K88D)))
     | exact T.z
     | refine ⟨_, rfl, rfl, ?_⟩
     | fail) <;> try (show (_ : Prop); conv => whnf))
   all_goals (try dsimp only)
   refine RL.frz [r] ?_ ?_
   · show LF _ _ _ (.tup [.sl (hdL s ++ s.pl).length ((hdL s ++ s.pl).map bAV), iAV 0])
     apply LF.tup
     refine And.intro (LF.rowF InL.here ?_) (And.intro (LF.eq rfl) trivial)
     (repeat first | refine goH ?_ | apply LH.here | apply LH.next)
     exact ⟨rfl, by rw [List.length_append, ← hok]⟩
   · show LH _ _ _
     (repeat first | refine goH ?_ | apply LH.here | apply LH.next)
     exact LB.nil
open Go.RowKit
variable {G : Nat → AV}
theorem bclone_ne (a : List UInt8) (h0 : 0 < a.length) (ha : a.length ≤ 140737488355328) : LP Tryz.prog G 101 [bv a] [] (fun _ => (bv a, [])) := by
 refine goW [] Tryz.func101 rfl ?_
 conv => whnf
 repeat' ((first
   | refine T.s ?_
   | ((first | refine goB (fun h => ?_) (fun h => ?_) | refine AB.dec (fun h => ?_) (fun h => ?_) | refine AB.gen (fun h => ?_) (fun h => ?_)) <;> try (exfalso; omega))
   | refine LFresh.mk fun r => ?_
   | exact T.z
   | fail) <;> conv => whnf)
 all_goals (try dsimp only)
 all_goals
   (refine RL.rowF ?_; (repeat first | refine goH ?_ | apply LH.here | apply LH.next); refine And.intro ?_ (And.intro ?_ ?_); rotate_left; rotate_left; (focus ((repeat' first | exact LB.nil | (with_reducible exact LB.refl) | (apply LB.cons; (repeat first | refine goH ?_ | apply LH.here | apply LH.next); refine And.intro ?_ ?_; (focus (try (first | (with_reducible rfl) | (refine congrArg (Pl.mk _) ?_; (first | rfl | (simp; done))) | rfl | (with_reducible refine congrArg (Pl.mk _) ?_)))))))))
   · rfl
   · simp
theorem bclone_c (a : List UInt8) (ha : a.length ≤ 140737488355328) : LP Tryz.prog G 101 [bv a] [] (fun _ => (bv a, [])) := by
 by_cases h : 0 < a.length
 · exact bclone_ne a h ha
 · obtain rfl : a = [] := List.eq_nil_of_length_eq_zero (by omega)
   refine LP.empty ?_ fun b off cap hc => ?_
   · refine goW [] Tryz.func101 rfl ?_
     conv => whnf
     repeat' ((first
       | refine T.s ?_
       | ((first | refine goB (fun h => ?_) (fun h => ?_) | refine AB.dec (fun h => ?_) (fun h => ?_) | refine AB.gen (fun h => ?_) (fun h => ?_)) <;> try (exfalso; omega))
       | refine LFresh.mk fun r => ?_
       | exact T.z
       | fail) <;> conv => whnf)
     all_goals (try dsimp only)
     exact RL.frz [] (LF.nils rfl rfl) LB.nil
   · refine goW [] Tryz.func101 rfl ?_
     conv => whnf
     repeat' ((first
       | refine T.s ?_
       | ((first | refine goB (fun h => ?_) (fun h => ?_) | refine AB.dec (fun h => ?_) (fun h => ?_) | refine AB.gen (fun h => ?_) (fun h => ?_)) <;> try (exfalso; omega))
       | refine LFresh.mk fun r => ?_
       | exact T.z
       | fail) <;> conv => whnf)
     all_goals (try dsimp only)
     refine RL.rowF (b := ([] : List UInt8)) (f := bAV) ?_
     (repeat first | refine goH ?_ | apply LH.here | apply LH.next)
     exact ⟨rfl, rfl, LB.nil⟩
open Go.RowKit
variable {G : Nat → AV}
def beN (l : List UInt8) : Int := l.foldl (fun a c => 256 * a + (c.toNat : Int)) 0
theorem beN_app (l : List UInt8) (c : UInt8) : beN (l ++ [c]) = 256 * beN l + (c.toNat : Int) := by simp [beN]
theorem beN_take (l : List UInt8) (i : Nat) (h : i < l.length) : beN (l.take (i + 1)) = 256 * beN (l.take i) + ((l.getD i 0).toNat : Int) := by
 rw [List.take_succ_eq_append_getElem h, beN_app]
 simp [List.getD_eq_getElem?_getD, h]
theorem beN_rng : ∀ (l : List UInt8), 0 ≤ beN l ∧ beN l < 256 ^ l.length := by
 intro l
 have key : ∀ n (l : List UInt8), l.length = n → 0 ≤ beN l ∧ beN l < 256 ^ n := by
   intro n
   induction n with
   | zero => intro l h; obtain rfl := List.eq_nil_of_length_eq_zero h; exact ⟨by decide, by decide⟩
   | succ n ih =>
     intro l h
     have h1 := ih (l.take n) (by simp; omega)
     have h2 := beN_take l n (by omega)
     rw [List.take_of_length_le (show l.length ≤ n + 1 by omega)] at h2
     have h3 := (l.getD n 0).toNat_lt
     have h4 : (256 : Int) ^ (n + 1) = 256 * 256 ^ n := by rw [Int.pow_succ]; omega
     omega
 exact key _ l rfl
theorem or_shl (x c : Int) (hx : 0 ≤ x ∧ x < 16777216) (hc : 0 ≤ c ∧ c < 256) : ibits .or .i64 (IntKind.i64.wrap (x * 2 ^ min (Int.toNat 8) IntKind.i64.bits)) c = 256 * x + c := by
 obtain ⟨a, rfl⟩ := Int.eq_ofNat_of_zero_le hx.1
 obtain ⟨b, rfl⟩ := Int.eq_ofNat_of_zero_le hc.1
 have e1 : IntKind.i64.wrap ((a : Int) * 2 ^ min (Int.toNat 8) IntKind.i64.bits) = ((2 ^ 8 * a : Nat) : Int) := by
   show IntKind.i64.wrap ((a : Int) * 256) = _
   rw [IntKind.wrap_i64]
   omega
 rw [e1]
 show IntKind.i64.wrap ((BitVec.ofInt 64 ((2 ^ 8 * a : Nat) : Int) ||| BitVec.ofInt 64 (b : Int)).toNat : Int) = _
 have e : (BitVec.ofInt 64 ((2 ^ 8 * a : Nat) : Int) ||| BitVec.ofInt 64 (b : Int)).toNat = 2 ^ 8 * a + b := by
   rw [BitVec.toNat_or, BitVec.ofInt_natCast, BitVec.ofInt_natCast, BitVec.toNat_ofNat, BitVec.toNat_ofNat, Nat.mod_eq_of_lt (show 2 ^ 8 * a < 2 ^ 64 by omega), Nat.mod_eq_of_lt (show b < 2 ^ 64 by omega), Nat.two_pow_add_eq_or_of_lt (by omega)]
 rw [e, IntKind.wrap_i64]
 omega
def tkV (n : Nat) : Option (List UInt8) → Int
 | none => 0
 | some l => if l.length < n then 0 else beN (l.take n)
def tkR (n : Nat) : Option (List UInt8) → Option (List UInt8)
 | none => none
 | some l => if l.length < n then none else some (l.drop n)
def rdCs : Option (List UInt8) → List AV
 | none => [.nils, .bool true]
 | some l => [bv l, .bool false]
theorem ftake_s (r : Nm) (n : Nat) (l : List UInt8) (h1 : 1 ≤ n) (h4 : n ≤ 4) (hl : l.length ≤ 140737488355328) : LP Tryz.prog G 97 [.ptr r 0, iAV n] [(r, ⟨142, [bv l, .bool false]⟩)] (fun _ => (iAV (tkV n (some l)), [(r, ⟨142, rdCs (tkR n (some l))⟩)])) := by
 by_cases h : l.length < n
 · have e1 : tkV n (some l) = 0 := if_pos h
   have e2 : tkR n (some l) = none := if_pos h
   rw [e1, e2]
   refine goW [] Tryz.func97 rfl ?_
   conv => whnf
   repeat' ((first
     | refine T.s ?_
     | ((first | refine goB (fun h => ?_) (fun h => ?_) | refine AB.dec (fun h => ?_) (fun h => ?_) | refine AB.gen (fun h => ?_) (fun h => ?_)) <;> try (exfalso; omega))
     | refine LFresh.mk fun r => ?_
     | (refine dec_yes ?_ ?_; (focus (first | exact .inl rfl | (exact T.num))))
     | (refine dec_no ?_ ?_; (focus (exact T.num)))
     | refine dec_both (fun h => ?_) (fun h => ?_)
     | exact T.z
     | refine ⟨_, rfl, rfl, ?_⟩
     | fail) <;> conv => whnf)
   all_goals (try dsimp only)
   (show RL _ _ _; refine goR ?_)
   rfl
 · have e1 : tkV n (some l) = beN (l.take n) := if_neg h
   have e2 : tkR n (some l) = some (l.drop n) := if_neg h
   rw [e1, e2]
   have hr : ∀ i, i < n → 0 ≤ beN (l.take i) ∧ beN (l.take i) < 16777216 := fun i hi => by
     have h := beN_rng (l.take i)
     have hk : (l.take i).length = 0 ∨ (l.take i).length = 1 ∨ (l.take i).length = 2 ∨ (l.take i).length = 3 := by rw [List.length_take]; omega
     rcases hk with e | e | e | e <;> (rw [e] at h; omega)
   have hor : ∀ i, i < n → ibits .or .i64 (IntKind.i64.wrap (beN (l.take i) * 2 ^ min (Int.toNat 8) IntKind.i64.bits)) (IntKind.i64.wrap (((l.take n).getD i 0).toNat : Int)) = beN (l.take (i + 1)) := fun i hi => by
     have hg : (l.take n).getD i 0 = l.getD i 0 := by simp [List.getD_eq_getElem?_getD, List.getElem?_take, hi]
     have := (l.getD i 0).toNat_lt
     have hw : IntKind.i64.wrap ((l.getD i 0).toNat : Int) = ((l.getD i 0).toNat : Int) := by rw [IntKind.wrap_i64]; omega
     rw [hg, hw, or_shl _ _ (hr i hi) (by omega), beN_take l i (by omega)]
   refine goW [] Tryz.func97 rfl ?_
   conv => whnf
   repeat' ((first
     | (show AC _ _ _; first | (refine AC.idx (i) (0) ?_ ?_ ?_; (focus (first | exact rfl | (simp; done) | (simp; omega))); (focus (first | omega | exact T.side))))
     | (show AQ _ _; first | (refine AQ.headE n ?_ ?_ ?_; (focus (first | exact rfl | (simp; done) | (simp; omega))); (focus (first | exact rfl | (simp; done) | (simp; omega)))) | (refine AQ.tailE n ?_ ?_ ?_; (focus (first | exact rfl | (simp; done) | (simp; omega))); (focus (first | exact rfl | (simp; done) | (simp; omega)))))
     | refine T.s ?_
     | ((first | refine goB (fun h => ?_) (fun h => ?_) | refine AB.dec (fun h => ?_) (fun h => ?_) | refine AB.gen (fun h => ?_) (fun h => ?_)) <;> try (exfalso; omega))
     | refine LFresh.mk fun r => ?_
     | (show SQ _ _ _ (.loop _) _ _ _; first | (apply goO tQ [] 6 (S := Nat) [0, 1, 26, 27] (fun i => ⟨[(28, .int .i64 i), (5, .int .i64 (beN (l.take i)))], [(r, ⟨142, [bv l, .bool false]⟩)], i ≤ n, n - i⟩) (0) (by rfl); (focus (all_goals (try exact KDF9); done)); rintro i hok; (try dsimp only at hok); (repeat (have hk := And.left hok; replace hok := And.right hok))))
     | (show AtL _ _ _ _ _ _ _ _ _ _; first | (apply AtL.mk' (id := 6) (S := Nat) (i + 1); all_goals (try exact KDF9); done) | (apply AtL.mk' (id := 6) (S := Nat) (i + 1); all_goals (try exact KDF9)))
     | (refine dec_yes ?_ ?_; (focus (first | exact .inl rfl | (exact T.num))))
     | (refine dec_no ?_ ?_; (focus (exact T.num)))
     | refine dec_both (fun h => ?_) (fun h => ?_)
     | exact T.z
     | refine ⟨_, rfl, rfl, ?_⟩
     | fail) <;> conv => whnf)
   all_goals (try dsimp only)
   all_goals (obtain rfl : i = n := (by simp at h; omega))
   all_goals (have e3 : (AV.sl ((l.length : Int).toNat - (i : Int).toNat) ((l.drop i).map bAV)) = bv (l.drop i) := (by unfold bv; congr 1; simp))
   all_goals rw [e3]
   all_goals (show RL _ _ _; refine goR ?_)
   all_goals rfl
theorem ftake_n (r : Nm) (n : Nat) (h1 : 1 ≤ n) (h4 : n ≤ 4) : LP Tryz.prog G 97 [.ptr r 0, iAV n] [(r, ⟨142, rdCs none⟩)] (fun _ => (iAV (tkV n none), [(r, ⟨142, rdCs (tkR n none)⟩)])) := by
 show LP Tryz.prog G 97 [.ptr r 0, iAV n] [(r, ⟨142, [.nils, .bool true]⟩)] (fun _ => (iAV 0, [(r, ⟨142, [.nils, .bool true]⟩)]))
 refine goW [] Tryz.func97 rfl ?_
 conv => whnf
 repeat' ((first
   | refine T.s ?_
   | ((first | refine goB (fun h => ?_) (fun h => ?_) | refine AB.dec (fun h => ?_) (fun h => ?_) | refine AB.gen (fun h => ?_) (fun h => ?_)) <;> try (exfalso; omega))
   | refine LFresh.mk fun r => ?_
   | (refine dec_yes ?_ ?_; (focus (first | exact .inl rfl | (exact T.num))))
   | (refine dec_no ?_ ?_; (focus (exact T.num)))
   | refine dec_both (fun h => ?_) (fun h => ?_)
   | exact T.z
   | refine ⟨_, rfl, rfl, ?_⟩
   | fail) <;> conv => whnf)
 all_goals (try dsimp only)
 all_goals (show RL _ _ _; refine goR ?_)
 all_goals rfl
def rdB : Option (List UInt8) → Prop
 | none => True
 | some l => l.length ≤ 140737488355328
theorem rdB.take {X : Option (List UInt8)} (h : rdB X) (n : Nat) : rdB (tkR n X) := by
 cases X with
 | none => exact trivial
 | some l =>
   show rdB (if l.length < n then none else some (l.drop n))
   split
   · exact trivial
   · exact Nat.le_trans (by simp) h
theorem ftake_c (r : Nm) (n : Nat) (X : Option (List UInt8)) (h : (1 ≤ n ∧ n ≤ 4) ∧ rdB X) : LP Tryz.prog G 97 [.ptr r 0, iAV n] [(r, ⟨142, rdCs X⟩)] (fun _ => (iAV (tkV n X), [(r, ⟨142, rdCs (tkR n X)⟩)])) := by
 cases X with
 | none => exact ftake_n r n h.1.1 h.1.2
 | some l => exact ftake_s r n l h.1.1 h.1.2 h.2
open Go.RowKit
variable {G : Nat → AV}
abbrev Rdr := {o : Option (List UInt8) // rdB o}
def rdr (l : List UInt8) (h : l.length ≤ 140737488355328) : Rdr := ⟨some l, h⟩
def rtk (n : Nat) (X : Rdr) : Rdr := ⟨tkR n X.1, X.2.take n⟩
def rv (n : Nat) (X : Rdr) : Int := tkV n X.1
def rE (X : Rdr) : Bool := X.1.isNone
def rL (X : Rdr) : List UInt8 := X.1.getD []
def rV (X : Rdr) : AV := match X.1 with | none => .nils | some l => bv l
@[reducible] def rcs (X : Rdr) : List AV := [rV X, .bool (rE X)]
theorem rcs_eq (X : Rdr) : rdCs X.1 = rcs X := by
 obtain ⟨_ | l, h⟩ := X <;> rfl
theorem rcs_rdr (l : List UInt8) (h : l.length ≤ 140737488355328) : rcs (rdr l h) = [bv l, .bool false] := rfl
theorem rE_take (n : Nat) (X : Rdr) (h : rE X = true) : rE (rtk n X) = true := by
 obtain ⟨_ | l, h⟩ := X
 · rfl
 · exact Bool.noConfusion h
theorem rV_some (X : Rdr) (h : rE X = false) : rV X = bv (rL X) := by
 obtain ⟨_ | l, h⟩ := X
 · exact Bool.noConfusion h
 · rfl
theorem rL_le (X : Rdr) : (rL X).length ≤ 140737488355328 := by
 obtain ⟨_ | l, h⟩ := X
 · exact Nat.zero_le _
 · exact h
theorem ft_c (r : Nm) (n : Nat) (X : Rdr) (h : 1 ≤ n ∧ n ≤ 4) : LP Tryz.prog G 97 [.ptr r 0, iAV n] [(r, ⟨142, rcs X⟩)] (fun _ => (iAV (rv n X), [(r, ⟨142, rcs (rtk n X)⟩)])) := by
 have := ftake_c (G := G) r n X.1 ⟨h, X.2⟩
 rw [rcs_eq] at this
 exact (rcs_eq (rtk n X)) ▸ this
theorem ft1_c (r : Nm) (X : Rdr) : LP Tryz.prog G 97 [.ptr r 0, iAV 1] [(r, ⟨142, rcs X⟩)] (fun _ => (iAV (rv 1 X), [(r, ⟨142, rcs (rtk 1 X)⟩)])) := ft_c r 1 X (by decide)
theorem ft2_c (r : Nm) (X : Rdr) : LP Tryz.prog G 97 [.ptr r 0, iAV 2] [(r, ⟨142, rcs X⟩)] (fun _ => (iAV (rv 2 X), [(r, ⟨142, rcs (rtk 2 X)⟩)])) := ft_c r 2 X (by decide)
theorem ft4_c (r : Nm) (X : Rdr) : LP Tryz.prog G 97 [.ptr r 0, iAV 4] [(r, ⟨142, rcs X⟩)] (fun _ => (iAV (rv 4 X), [(r, ⟨142, rcs (rtk 4 X)⟩)])) := ft_c r 4 X (by decide)
theorem ftb_c (r : Nm) (l : List UInt8) (h : l.length ≤ 140737488355328) : LP Tryz.prog G 97 [.ptr r 0, iAV 1] [(r, ⟨142, [bv l, .bool false]⟩)] (fun _ => (iAV (rv 1 (rdr l h)), [(r, ⟨142, rcs (rtk 1 (rdr l h))⟩)])) := ft1_c r (rdr l h)
attribute [irreducible] rdr rtk rv rE rL rV
open Go.RowKit
variable {G : Nat → AV}
@[reducible] def Sm.fs (s : Sm) : List AV := [iAV s.cx, iAV s.f, iAV s.n, iAV s.tm, iAV s.mr, iAV s.id, iAV s.ud, iAV s.h.k, iAV s.h.tos, iAV s.h.id, iAV s.h.fx, iAV s.h.ttl, iAV s.h.fr, iAV s.h.to, iAV s.h.fp, iAV s.h.tp, iAV s.h.ck, iAV s.h.mr, iAV s.h.ty, iAV s.h.sq, iAV s.h.tm, iAV s.h.sr, iAV s.d.st, iAV s.d.fo, iAV s.ck, .nils]
@[reducible] def shR (x k : Int) : Int := x.fdiv (2 ^ (min k.toNat IntKind.i64.bits))
@[reducible] def andR (x m : Int) : Int := ibits .and .i64 x m
@[reducible] def bitR (x k : Int) : Int := andR (shR x k) 1
theorem LC.two {P : Program} {f : FuncId} {args : List AV} {x : AV} {r p : Nm} {c d c' d' : Pl} {l : LS} {K : AV → LS → Prop} (hs : r ≠ p → LP P G f args [(r, c), (p, d)] fun _ => (x, [(r, c'), (p, d')])) (hk : LH l r fun c1 _ rest => c1 = c ∧ LH rest p fun d1 _ rest' => d1 = d ∧ LFresh fun _ => K x ((r, c') :: (p, d') :: rest')) : LC P G f args l K := by
 refine ⟨fun φ hsp => ?_⟩
 have hne : r ≠ p := by
   obtain ⟨l1, c1, l2, rfl, -, h1⟩ := hk.ex
   obtain ⟨l3, c3, l4, e, -⟩ := h1.ex
   have hm : p ∈ (l1 ++ l2).map (·.1) := by rw [e]; simp
   rintro rfl
   have h3 := nd_mid hsp.nd
   rw [List.map_append, List.mem_append] at hm
   exact hm.elim h3.1 h3.2.1
 exact (LC.mk' (hs hne) [] (.refl _) hk).run φ hsp
@[reducible] def dynF (X : Rdr) : Int := rv 1 (rtk 1 (rtk 1 X))
@[reducible] def dynY (X : Rdr) : Rdr := rtk 1 (rtk 1 (rtk 1 X))
@[reducible] def dynT (X : Rdr) (s : Sm) : Sm := { s with h := { s.h with tos := rv 1 X, ttl := rv 1 (rtk 1 X), fx := bitR (dynF X) 7, mr := bitR (dynF X) 4, ty := rv 1 (dynY X), sq := rv 2 (rtk 1 (dynY X)), id := rv 2 (rtk 2 (rtk 1 (dynY X))), tm := rv 4 (rtk 2 (rtk 2 (rtk 1 (dynY X)))) }, d := { st := rv 2 (rtk 4 (rtk 2 (rtk 2 (rtk 1 (dynY X))))), fo := bitR (dynF X) 5 } }
@[reducible] def dynU (X : Rdr) (s : Sm) : Sm := { s with h := { s.h with tos := rv 1 X, ttl := rv 1 (rtk 1 X), fx := bitR (dynF X) 7, mr := bitR (dynF X) 4, id := rv 2 (dynY X) }, d := { s.d with fo := bitR (dynF X) 5 } }
@[reducible] def dynTX (X : Rdr) : Rdr := rtk 2 (rtk 4 (rtk 2 (rtk 2 (rtk 1 (dynY X)))))
@[reducible] def dynUX (X : Rdr) : Rdr := rtk 2 (dynY X)
theorem fdynT_c (r p : Nm) (X : Rdr) (s : Sm) (hrp : r ≠ p) (hk : s.h.k = 2) : LP Tryz.prog G 99 [.ptr r 0, .ptr p 7, .ptr p 22] [(r, ⟨142, rcs X⟩), (p, ⟨67, s.fs⟩)] (fun _ => (.bool (decide (bitR (dynF X) 6 = 1)), [(r, ⟨142, rcs (dynTX X)⟩), (p, ⟨67, (dynT X s).fs⟩)])) := by
 refine goW [] Tryz.func99 rfl ?_
 conv => whnf
 repeat' ((first
   | (show LC _ _ _ _ _ _; first | (apply LC.upd (ft1_c _ _); (repeat first | refine goH ?_ | apply LH.here | apply LH.next); refine ⟨rfl, ?_⟩) | (apply LC.upd (ft2_c _ _); (repeat first | refine goH ?_ | apply LH.here | apply LH.next); refine ⟨rfl, ?_⟩) | (apply LC.upd (ft4_c _ _); (repeat first | refine goH ?_ | apply LH.here | apply LH.next); refine ⟨rfl, ?_⟩) | refine goE ?_)
   | refine T.s ?_
   | ((first | refine goB (fun h => ?_) (fun h => ?_) | refine AB.dec (fun h => ?_) (fun h => ?_) | refine AB.gen (fun h => ?_) (fun h => ?_)) <;> try (exfalso; omega))
   | refine LFresh.mk fun r => ?_
   | exact T.z
   | fail) <;> conv => whnf)
 all_goals (try dsimp only)
 all_goals (show RL _ _ _; refine goR ?_)
 all_goals rfl
theorem fdynU_c (r p : Nm) (X : Rdr) (s : Sm) (hrp : r ≠ p) (hk : s.h.k ≠ 2) : LP Tryz.prog G 99 [.ptr r 0, .ptr p 7, .ptr p 22] [(r, ⟨142, rcs X⟩), (p, ⟨67, s.fs⟩)] (fun _ => (.bool (decide (bitR (dynF X) 6 = 1)), [(r, ⟨142, rcs (dynUX X)⟩), (p, ⟨67, (dynU X s).fs⟩)])) := by
 refine goW [] Tryz.func99 rfl ?_
 conv => whnf
 repeat' ((first
   | (show LC _ _ _ _ _ _; first | (apply LC.upd (ft1_c _ _); (repeat first | refine goH ?_ | apply LH.here | apply LH.next); refine ⟨rfl, ?_⟩) | (apply LC.upd (ft2_c _ _); (repeat first | refine goH ?_ | apply LH.here | apply LH.next); refine ⟨rfl, ?_⟩) | (apply LC.upd (ft4_c _ _); (repeat first | refine goH ?_ | apply LH.here | apply LH.next); refine ⟨rfl, ?_⟩) | refine goE ?_)
   | refine T.s ?_
   | ((first | refine goB (fun h => ?_) (fun h => ?_) | refine AB.dec (fun h => ?_) (fun h => ?_) | refine AB.gen (fun h => ?_) (fun h => ?_)) <;> try (exfalso; omega))
   | refine LFresh.mk fun r => ?_
   | exact T.z
   | fail) <;> conv => whnf)
 all_goals (try dsimp only)
 all_goals (show RL _ _ _; refine goR ?_)
 all_goals rfl
end Go.Proofs.YtkfpgdckdmlhkaaGreatDoor
