/-
  Contracts of the functions that the laws reach.
-/
import Derived.Test.YtkfpgdckdmlhkaaGreatDoorDq01
import Derived.Test.YtkfpgdckdmlhkaaGreatDoorDq02
import Derived.Test.YtkfpgdckdmlhkaaGreatDoorDq03
import Derived.Test.YtkfpgdckdmlhkaaGreatDoorDq04
import Derived.Test.YtkfpgdckdmlhkaaGreatDoorDq05
import Derived.Test.YtkfpgdckdmlhkaaGreatDoorDq06
set_option maxHeartbeats 4000000
set_option linter.all false
namespace Go.Proofs.YtkfpgdckdmlhkaaGreatDoor
open Go.RowKit
variable {G : Nat → AV}
@[reducible] def q0 (q : List Nm) : Nm := q.getD 0 (.b 0)
@[reducible] def q1 (q : List Nm) : Nm := q.getD 1 (.b 0)
@[reducible] def wP (w p1 p2 : Nm) (ws vs : List Int) : LS := [(w, ⟨155, [.vw p1 0 ws.length 1, .vw p2 0 vs.length 1]⟩), (p1, ⟨3, ws.map iAV⟩), (p2, ⟨3, vs.map iAV⟩)]
theorem LNames.drop {l : LS} {o : Nm} {qs : List Nm} (h : LNames l (o :: qs)) {φ : q9} (hs : Sep φ l) : qs.Nodup ∧ ∀ q ∈ qs, φ q = none ∧ q ∈ l.map (·.1) := by
 obtain ⟨h1, h2⟩ := h.sound hs
 exact ⟨(List.nodup_cons.1 h1).2, fun q hq => h2 q (by simp [hq])⟩
theorem RetLN.wr {w : Nm} {ws vs : List Int} {l : LS} (h : LH l w fun c _ r => ∃ (p1 p2 : Nm) (n m : Nat), c = ⟨155, [.vw p1 0 n 1, .vw p2 0 m 1]⟩ ∧ n = ws.length ∧ m = vs.length ∧ LH r p1 fun c1 _ r1 => c1 = ⟨3, ws.map iAV⟩ ∧ LH r1 p2 fun c2 _ _ => c2 = ⟨3, vs.map iAV⟩) :
   RetLN 2 (fun q => (.tup [], wP w (q0 q) (q1 q) ws vs)) (.tup []) l := by
 obtain ⟨l1, c, l2, rfl, p1, p2, n, m, rfl, rfl, rfl, h'⟩ := h.ex
 have hsub : LB (wP w p1 p2 ws vs) (l1 ++ (w, ⟨155, [.vw p1 0 ws.length 1, .vw p2 0 vs.length 1]⟩) :: l2) :=
   LB.cons ⟨l1, _, l2, rfl, rfl, LB.cons (LH.mono h' fun c _ r k => ⟨k.1, LB.cons (LH.mono k.2 fun c _ r k => ⟨k, LB.nil⟩)⟩)⟩
 have hn : LNames (l1 ++ (w, ⟨155, [.vw p1 0 ws.length 1, .vw p2 0 vs.length 1]⟩) :: l2) [w, p1, p2] := ⟨l1, _, l2, rfl, LH.mono h' fun c _ r k => LH.mono k.2 fun _ _ _ _ => trivial⟩
 refine ⟨fun φ hsp => ?_⟩
 obtain ⟨k1, k2⟩ := LNames.drop hn hsp
 obtain ⟨h2, h3⟩ := hsub.go φ hsp
 exact ⟨[], [p1, p2], rfl, k1, fun q hq => (k2 q hq).1, h2.nd, .refl _, h3⟩
theorem put0_c (w : Nm) (a b : Int) : LSpecN Tryz.prog G 122 [.ptr w 0, iAV a, iAV b] [(w, ⟨155, [.nils, .nils]⟩)] 2 (fun q => (.tup [], wP w (q0 q) (q1 q) [a] [b])) := by
 refine LSpecN.introL tQ Tryz.func122 rfl (by kernel_rfl) (by simp) (fun qs hq => by obtain ⟨x, y, rfl⟩ : ∃ x y, qs = [x, y] := (match qs, hq with | [x, y], _ => ⟨x, y, rfl⟩); exact ⟨by simp, by intro h1 h2; simp at h1 h2 ⊢; simp_all [eq_comm]⟩) ?_
 refine AWpL.sound tQ [] _ _ _ _ ?_
 conv => whnf
 repeat' ((first | exact Nm.b 0 | refine T.s ?_ | ((first | apply goB | apply AB.dec | apply AB.gen) <;> intro h <;> try (exfalso; omega)) | refine LQ.mk fun r => ?_ | (show SQ _ _ _ _ _ _ _; first | (apply goD tQ qb 0 [12, 8] [0, 1, 2, 3, 4, 5, 6, 9, 10, 11, 12, 13, 7, 8, 14, 15, 16, 17, 18, 19, 20, 21] [_] (by kernel_rfl)) | (refine goD tQ qb 0 [12, 8] [0, 1, 2, 3, 4, 5, 6, 9, 10, 11, 12, 13, 7, 8, 14, 15, 16, 17, 18, 19, 20, 21] [] (by kernel_rfl) ?_)) | exact T.z | fail) <;> try (show (_ : Prop); conv => whnf))
 all_goals (try dsimp only)
 all_goals (refine RetLN.wr ?_; (repeat first | refine goH ?_ | apply LH.here | apply LH.next); refine ⟨_, _, _, _, rfl, (by simp), (by simp), ?_⟩; (repeat first | refine goH ?_ | apply LH.here | apply LH.next); refine And.intro ?_ ?_; (focus (first | exact rfl | (simp [iAV]; done))); (repeat first | refine goH ?_ | apply LH.here | apply LH.next); (first | exact rfl | (simp [iAV]; done)))
theorem put1_c (w p1 p2 : Nm) (ws vs : List Int) (a b : Int) (h1 : 0 < ws.length) (h2 : ws.length ≤ 200) (h3 : 0 < vs.length) (h4 : vs.length ≤ 200) : LSpecN Tryz.prog G 122 [.ptr w 0, iAV a, iAV b] (wP w p1 p2 ws vs) 2 (fun q => (.tup [], wP w (q0 q) (q1 q) (ws ++ [a]) (vs ++ [b]))) := by
 refine LSpecN.introL tQ Tryz.func122 rfl (by kernel_rfl) (by simp) (fun qs hq => by obtain ⟨x, y, rfl⟩ : ∃ x y, qs = [x, y] := (match qs, hq with | [x, y], _ => ⟨x, y, rfl⟩); exact ⟨by simp, by intro h1 h2; simp at h1 h2 ⊢; simp_all [eq_comm]⟩) ?_
 refine AWpL.sound tQ [] _ _ _ _ ?_
 conv => whnf
 repeat' ((first | exact Nm.b 0 | refine T.s ?_ | ((first | apply goB | apply AB.dec | apply AB.gen) <;> intro h <;> try (exfalso; omega)) | refine LQ.mk fun r => ?_ | (show SQ _ _ _ _ _ _ _; first | (apply goD tQ qb 0 [12, 8] [0, 1, 2, 3, 4, 5, 6, 9, 10, 11, 12, 13, 7, 8, 14, 15, 16, 17, 18, 19, 20, 21] [_] (by kernel_rfl)) | (refine goD tQ qb 0 [12, 8] [0, 1, 2, 3, 4, 5, 6, 9, 10, 11, 12, 13, 7, 8, 14, 15, 16, 17, 18, 19, 20, 21] [] (by kernel_rfl) ?_)) | exact T.z | fail) <;> try (show (_ : Prop); conv => whnf))
 all_goals (try dsimp only)
 all_goals (refine RetLN.wr ?_; (repeat first | refine goH ?_ | apply LH.here | apply LH.next); refine ⟨_, _, _, _, rfl, (by simp), (by simp), ?_⟩; (repeat first | refine goH ?_ | apply LH.here | apply LH.next); refine And.intro ?_ ?_; (focus (first | exact rfl | (simp [iAV]; done))); (repeat first | refine goH ?_ | apply LH.here | apply LH.next); (first | exact rfl | (simp [iAV]; done)))
theorem LC.put {w : Nm} {a b : Int} {l : LS} {K : AV → LS → Prop} (h : LH l w fun c _ r => ∃ (p1 p2 : Nm) (n m : Nat), c = ⟨155, [.vw p1 0 n 1, .vw p2 0 m 1]⟩ ∧ LH r p1 fun c1 _ r1 => LH r1 p2 fun c2 _ r2 => ∃ ws vs : List Int, c1 = ⟨3, ws.map iAV⟩ ∧ c2 = ⟨3, vs.map iAV⟩ ∧ n = ws.length ∧ m = vs.length ∧
   (0 < ws.length ∧ ws.length ≤ 200 ∧ 0 < vs.length ∧ vs.length ≤ 200) ∧ ∀ x y, K (.tup []) (wP w x y (ws ++ [a]) (vs ++ [b]) ++ r2)) : LC Tryz.prog G 122 [.ptr w 0, .int .i64 a, .int .i64 b] l K := by
 obtain ⟨l1, c, l2, rfl, p1, p2, n, m, rfl, ha⟩ := h.ex
 obtain ⟨l3, c1, l4, e1, hb⟩ := ha.ex
 obtain ⟨l5, c2, l6, e2, ws, vs, rfl, rfl, rfl, rfl, ⟨k1, k2, k3, k4⟩, hc⟩ := hb.ex
 refine LC.mkN (put1_c w p1 p2 ws vs a b k1 k2 k3 k4) [] (LFs.refl _) ?_
 exact ⟨l1, _, l2, rfl, rfl, ⟨l3, _, l4, e1, rfl, ⟨l5, _, l6, e2, rfl, LFreshN.two hc⟩⟩⟩
def stW (h : Hd) : List Int := [8, 32, 32, 16, 16] ++ (if h.k = 2 then [32] else [])
def stV (h : Hd) : List Int := [h.k, h.fr, h.to, h.fp, h.tp] ++ (if h.k = 2 then [h.sr] else [])
theorem wstatic_c (w p1 p2 : Nm) (ws vs : List Int) (x : Hd) (h1 : 0 < ws.length) (h2 : ws.length ≤ 100) (h3 : 0 < vs.length) (h4 : vs.length ≤ 100) : LSpecN Tryz.prog G 124 [.ptr w 0, x.av] (wP w p1 p2 ws vs) 2 (fun q => (.tup [], wP w (q0 q) (q1 q) (ws ++ stW x) (vs ++ stV x))) := by
 refine LSpecN.introL tQ Tryz.func124 rfl (by kernel_rfl) (by simp) (fun qs hq => by obtain ⟨x, y, rfl⟩ : ∃ x y, qs = [x, y] := (match qs, hq with | [x, y], _ => ⟨x, y, rfl⟩); exact ⟨by simp, by intro h1 h2; simp at h1 h2 ⊢; simp_all [eq_comm]⟩) ?_
 refine AWpL.sound tQ [] _ _ _ _ ?_
 conv => whnf
 repeat' ((first | (show LC _ _ _ _ _ _; refine LC.put ?_; (repeat first | refine goH ?_ | apply LH.here | apply LH.next); refine ⟨_, _, _, _, rfl, ?_⟩; (repeat first | refine goH ?_ | apply LH.here | apply LH.next); (repeat first | refine goH ?_ | apply LH.here | apply LH.next); refine ⟨_, _, rfl, rfl, rfl, rfl, ?_, fun r r2 => ?_⟩; (focus (first | omega | (simp; omega) | (simp; done))); conv => whnf) | refine T.s ?_ | ((first | apply goB | apply AB.dec | apply AB.gen) <;> intro h <;> try (exfalso; omega)) | refine LQ.mk fun r => ?_ | exact T.z | fail) <;> conv => whnf)
 all_goals (try dsimp only)
 all_goals
   refine RetLN.wr ?_
   (repeat first | refine goH ?_ | apply LH.here | apply LH.next)
   refine ⟨_, _, _, _, rfl, (by simp [stW, h]), (by simp [stV, h]), ?_⟩
   (repeat first | refine goH ?_ | apply LH.here | apply LH.next)
   refine And.intro (by simp [stW, h, iAV]) ?_
   (repeat first | refine goH ?_ | apply LH.here | apply LH.next)
   simp [stV, h, iAV]
def wQ (x : Int) : Int := if 1 < x then 1 else x
theorem some_c (x : Int) : LP Tryz.prog G 137 [iAV x] [] (fun _ => (iAV (wQ x), [])) := by
 refine goW [] Tryz.func137 rfl ?_
 conv => whnf
 repeat' ((first | refine T.s ?_ | ((first | apply goB | apply AB.dec | apply AB.gen) <;> intro h <;> try (exfalso; omega)) | refine LQ.mk fun r => ?_ | exact T.z | fail) <;> conv => whnf)
 all_goals (try dsimp only)
 (show RL _ _ _; refine goR ?_)
 rfl
def dyW (h : Hd) : List Int := [8, 8, 1, 1, 1, 1, 4] ++ (if h.k = 2 then [8, 16, 16, 32, 16] else [16])
def dyV (h : Hd) (d : Dy) : List Int := [h.tos, h.ttl, h.fx, wQ h.ck, d.fo, h.mr, 0] ++ (if h.k = 2 then [h.ty, h.sq, h.id, h.tm, d.st] else [h.id])
theorem wdyn_c (w p1 p2 : Nm) (ws vs : List Int) (x : Hd) (d : Dy) (h1 : 0 < ws.length) (h2 : ws.length ≤ 100) (h3 : 0 < vs.length) (h4 : vs.length ≤ 100) : LSpecN Tryz.prog G 123 [.ptr w 0, x.av, d.av] (wP w p1 p2 ws vs) 2 (fun q => (.tup [], wP w (q0 q) (q1 q) (ws ++ dyW x) (vs ++ dyV x d))) := by
 refine LSpecN.introL tQ Tryz.func123 rfl (by kernel_rfl) (by simp) (fun qs hq => by obtain ⟨x, y, rfl⟩ : ∃ x y, qs = [x, y] := (match qs, hq with | [x, y], _ => ⟨x, y, rfl⟩); exact ⟨by simp, by intro h1 h2; simp at h1 h2 ⊢; simp_all [eq_comm]⟩) ?_
 refine AWpL.sound tQ [] _ _ _ _ ?_
 conv => whnf
 repeat' ((first | (show LC _ _ _ _ _ _; refine LC.put ?_; (repeat first | refine goH ?_ | apply LH.here | apply LH.next); refine ⟨_, _, _, _, rfl, ?_⟩; (repeat first | refine goH ?_ | apply LH.here | apply LH.next); (repeat first | refine goH ?_ | apply LH.here | apply LH.next); refine ⟨_, _, rfl, rfl, rfl, rfl, ?_, fun r r2 => ?_⟩; (focus (first | omega | (simp; omega) | (simp; done))); conv => whnf) | exact Nm.b 0 | (show LC _ _ _ _ _ _; first | refine LC.pure (some_c _) ?_ | refine goE ?_) | refine T.s ?_ | ((first | apply goB | apply AB.dec | apply AB.gen) <;> intro h <;> try (exfalso; omega)) | refine LQ.mk fun r => ?_ | (show SQ _ _ _ _ _ _ _; first | refine SQ.times 4 5 (by rfl) ?_ | (apply goD tQ qb 3 [1, 6, 8, 4] [0, 1, 2, 3, 5, 6, 7, 8, 11, 4, 9, 10] [_, _] (by kernel_rfl)) | (refine goD tQ qb 3 [1, 6, 8, 4] [0, 1, 2, 3, 5, 6, 7, 8, 11, 4, 9, 10] [] (by kernel_rfl) ?_) | refine AtL.step tQ [] ?_) | exact T.z | fail) <;> try (show (_ : Prop); conv => whnf))
 all_goals (try dsimp only)
 all_goals
   refine RetLN.wr ?_
   (repeat first | refine goH ?_ | apply LH.here | apply LH.next)
   refine ⟨_, _, _, _, rfl, (by simp [dyW, h]), (by simp [dyV, h]), ?_⟩
   (repeat first | refine goH ?_ | apply LH.here | apply LH.next)
   refine And.intro (by simp [dyW, h, iAV]) ?_
   (repeat first | refine goH ?_ | apply LH.here | apply LH.next)
   simp [dyV, h, iAV]
attribute [irreducible] dyW dyV stW stV
open Go.RowKit
variable {G : Nat → AV}
def byteN (l : List Bool) : Nat := l.foldl (fun a b => 2 * a + b.toNat) 0
def xK (l : List Bool) : UInt8 := UInt8.ofNat (byteN l)
def qx (bs : List Bool) : List UInt8 := (List.range (bs.length / 8)).map fun j => xK ((bs.drop (8 * j)).take 8)
@[simp] theorem bytesB_len (bs : List Bool) : (qx bs).length = bs.length / 8 := by simp [qx]
theorem bytesB_set (bs : List Bool) (k : Nat) (x : Bool) (h8 : bs.length % 8 = 0) (hk : k < bs.length) : (qx bs).set (k / 8) (xK (((bs.drop (8 * (k / 8))).take 8).set (k % 8) x)) = qx (bs.set k x) := by
 apply List.ext_getElem
 · simp [qx]
 · intro j h1 h2
   rw [List.getElem_set]
   have hj : j < bs.length / 8 := by simpa [qx] using h1
   split
   · rename_i e
     subst e
     simp only [qx, List.length_set, List.getElem_map, List.getElem_range]
     rw [List.drop_set, if_neg (by omega), List.take_set]
     congr 2
     omega
   · rename_i e
     simp only [qx, List.length_set, List.getElem_map, List.getElem_range]
     rw [List.drop_set]
     split
     · rfl
     · rw [List.take_set, List.set_eq_of_length_le]
       simp
       omega
theorem byte_or : ∀ b0 b1 b2 b3 b4 b5 b6 b7 : Bool, ∀ r, r < 8 → b8 (BitVec.ofInt 8 ((xK [b0, b1, b2, b3, b4, b5, b6, b7]).toNat : Int) ||| BitVec.ofInt 8 (2 ^ (7 - r) : Int)).toNat = xK ([b0, b1, b2, b3, b4, b5, b6, b7].set r true) := by decide +kernel
theorem byte_andn : ∀ b0 b1 b2 b3 b4 b5 b6 b7 : Bool, ∀ r, r < 8 → b8 (BitVec.ofInt 8 ((xK [b0, b1, b2, b3, b4, b5, b6, b7]).toNat : Int) &&& ~~~ BitVec.ofInt 8 (2 ^ (7 - r) : Int)).toNat = xK ([b0, b1, b2, b3, b4, b5, b6, b7].set r false) := by decide +kernel
theorem list8 {l : List Bool} (h : l.length = 8) : ∃ b0 b1 b2 b3 b4 b5 b6 b7, l = [b0, b1, b2, b3, b4, b5, b6, b7] := by
 match l, h with
 | [b0, b1, b2, b3, b4, b5, b6, b7], _ => exact ⟨b0, b1, b2, b3, b4, b5, b6, b7, rfl⟩
theorem byteB_or (l : List Bool) (h : l.length = 8) (r : Nat) (hr : r < 8) : b8 (BitVec.ofInt 8 ((xK l).toNat : Int) ||| BitVec.ofInt 8 (2 ^ (7 - r) : Int)).toNat = xK (l.set r true) := by
 obtain ⟨b0, b1, b2, b3, b4, b5, b6, b7, rfl⟩ := list8 h
 exact byte_or b0 b1 b2 b3 b4 b5 b6 b7 r hr
theorem byteB_andn (l : List Bool) (h : l.length = 8) (r : Nat) (hr : r < 8) : b8 (BitVec.ofInt 8 ((xK l).toNat : Int) &&& ~~~ BitVec.ofInt 8 (2 ^ (7 - r) : Int)).toNat = xK (l.set r false) := by
 obtain ⟨b0, b1, b2, b3, b4, b5, b6, b7, rfl⟩ := list8 h
 exact byte_andn b0 b1 b2 b3 b4 b5 b6 b7 r hr
theorem ibits_and (x n : Nat) (hn : n ≤ 32) (hx : x < 4611686018427387904) : qB .and .i64 (x : Int) ((2 ^ n - 1 : Nat) : Int) = ((x % 2 ^ n : Nat) : Int) := by
 have hp : 2 ^ n ≤ 2 ^ 32 := Nat.pow_le_pow_right (by omega) hn
 have hq : 0 < 2 ^ n := Nat.pow_pos (by omega)
 show IntKind.i64.wrap ((BitVec.ofInt 64 (x : Int) &&& BitVec.ofInt 64 ((2 ^ n - 1 : Nat) : Int)).toNat : Int) = _
 have e : (BitVec.ofInt 64 (x : Int) &&& BitVec.ofInt 64 ((2 ^ n - 1 : Nat) : Int)).toNat = x % 2 ^ n := by
   rw [BitVec.toNat_and, BitVec.ofInt_natCast, BitVec.ofInt_natCast, BitVec.toNat_ofNat, BitVec.toNat_ofNat, Nat.mod_eq_of_lt (show x < 2 ^ 64 by omega), Nat.mod_eq_of_lt (show 2 ^ n - 1 < 2 ^ 64 by omega), Nat.and_two_pow_sub_one_eq_mod]
 rw [e]
 have h1 : x % 2 ^ n < 2 ^ n := Nat.mod_lt _ hq
 generalize x % 2 ^ n = y at *
 rw [IntKind.wrap_i64]
 omega
def qz (w : Nat) (v : Int) : List Bool := (List.range w).map fun i => decide (v / 2 ^ (w - 1 - i) % 2 = 1)
@[simp] theorem bitsW_len (w : Nat) (v : Int) : (qz w v).length = w := by simp [qz]
theorem bit_at (w : Nat) (v : Int) (hv : 0 ≤ v) (hv2 : v < 4611686018427387904) (i : Nat) (hi : i < w) (hw : w ≤ 32) :
   qB .and .i64 (v.fdiv (2 ^ min (w - 1 - i) 64)) 1 = if (qz w v).getD i false = true then 1 else 0 := by
 have e : min (w - 1 - i) 64 = w - 1 - i := Nat.min_eq_left (by omega)
 have e2 : v.fdiv (2 ^ (w - 1 - i)) = v / 2 ^ (w - 1 - i) := Int.fdiv_eq_ediv_of_nonneg _ (Int.pow_nonneg (by decide))
 have h0 : 0 ≤ v / 2 ^ (w - 1 - i) := Int.ediv_nonneg hv (Int.pow_nonneg (by decide))
 have h1 : v / 2 ^ (w - 1 - i) ≤ v := Int.ediv_le_self _ hv
 rw [e, e2]
 have h2 : (qz w v).getD i false = decide (v / 2 ^ (w - 1 - i) % 2 = 1) := by
   simp [qz, List.getD_eq_getElem?_getD, hi]
 rw [h2]
 generalize v / 2 ^ (w - 1 - i) = y at *
 obtain ⟨m, rfl⟩ := Int.eq_ofNat_of_zero_le h0
 have := ibits_and m 1 (by decide) (by omega)
 rw [show ((2 ^ 1 - 1 : Nat) : Int) = 1 from rfl] at this
 rw [this]
 have h3 := Nat.mod_two_eq_zero_or_one m
 rcases h3 with h3 | h3
 · rw [show 2 ^ 1 = 2 from rfl, h3, if_neg (by simp; omega)]; rfl
 · rw [show 2 ^ 1 = 2 from rfl, h3, if_pos (by simp; omega)]; rfl
def wS (bs : List Bool) (at_ : Nat) (l : List Bool) : List Bool := bs.take at_ ++ (l ++ bs.drop (at_ + l.length))
theorem setB_len (bs : List Bool) (at_ : Nat) (l : List Bool) (h : at_ + l.length ≤ bs.length) : (wS bs at_ l).length = bs.length := by simp [wS]; omega
theorem setB_succ (bs : List Bool) (at_ i : Nat) (l : List Bool) (hi : i < l.length) (h : at_ + l.length ≤ bs.length) : (wS bs at_ (l.take i)).set (at_ + i) (l.getD i false) = wS bs at_ (l.take (i + 1)) := by
 have h1 : (l.take i).length = i := by simp; omega
 have h2 : (l.take (i + 1)).length = i + 1 := by simp; omega
 unfold wS
 rw [h1, h2, List.set_append, if_neg (by simp; omega), List.set_append, if_neg (by simp; omega)]
 have e1 : at_ + i - (bs.take at_).length - (l.take i).length = 0 := by simp; omega
 rw [e1, List.drop_eq_getElem_cons (show at_ + i < bs.length by omega)]
 simp only [List.set_cons_zero]
 rw [List.take_succ_eq_append_getElem hi, List.append_assoc]
 simp only [List.getD_eq_getElem?_getD, List.getElem?_eq_getElem hi, Option.getD_some, List.singleton_append, Nat.add_assoc]
theorem qV (bs : List Bool) (at_ : Nat) : wS bs at_ [] = bs := by simp [wS]
theorem tdiv8 (n : Int) (h : 0 ≤ n) : n.tdiv 8 = n / 8 := Int.tdiv_eq_ediv_of_nonneg h
theorem tmod8 (n : Int) (h : 0 ≤ n) : n.tmod 8 = n % 8 := Int.tmod_eq_emod_of_nonneg h
theorem mask_eq (r : Nat) (hr : r < 8) : IntKind.u8.wrap (1 * 2 ^ min (7 - (r : Int)).toNat IntKind.u8.bits) = 2 ^ (7 - r) := by
 have : ∀ r : Nat, r < 8 → IntKind.u8.wrap (1 * 2 ^ min (7 - (r : Int)).toNat IntKind.u8.bits) = 2 ^ (7 - r) := by decide +kernel
 exact this r hr
theorem vC (bs : List Bool) (j : Nat) (h : j < bs.length / 8) : (qx bs).getD j 0 = xK ((bs.drop (8 * j)).take 8) := by
 simp [qx, List.getD_eq_getElem?_getD, h]
theorem step_or (bs : List Bool) (k : Nat) (h8 : bs.length % 8 = 0) (hk : k < bs.length) : (qx bs).set (k / 8) (b8 ((BitVec.ofInt 8 (((qx bs).getD (k / 8) 0).toNat : Int) ||| BitVec.ofInt 8 (2 ^ (7 - k % 8) : Int)).toNat : Int)) = qx (bs.set k true) := by
 rw [vC bs _ (by omega), byteB_or _ (by simp; omega) (k % 8) (by omega), bytesB_set bs k true h8 hk]
theorem step_andn (bs : List Bool) (k : Nat) (h8 : bs.length % 8 = 0) (hk : k < bs.length) : (qx bs).set (k / 8) (b8 ((BitVec.ofInt 8 (((qx bs).getD (k / 8) 0).toNat : Int) &&& ~~~ BitVec.ofInt 8 (2 ^ (7 - k % 8) : Int)).toNat : Int)) = qx (bs.set k false) := by
 rw [vC bs _ (by omega), byteB_andn _ (by simp; omega) (k % 8) (by omega), bytesB_set bs k false h8 hk]
theorem bset_c (bs : List Bool) (n w : Nat) (v : Int) (h8 : bs.length % 8 = 0) (hl : bs.length ≤ 100000) (hn : n + w ≤ bs.length) (hw : w ≤ 32) (hv : 0 ≤ v) (hv2 : v < 4611686018427387904) (p : Nm) :
   LP Tryz.prog G 139 [.vw p 0 (bs.length / 8) 1, iAV n, iAV w, iAV v] [(p, ⟨5, (qx bs).map bAV⟩)] (fun _ => (.tup [], [(p, ⟨5, (qx (wS bs n (qz w v))).map bAV⟩)])) := by
 have hadd : ∀ i : Nat, i < w → q7 .add .i64 (n : Int) (i : Int) = ((n + i : Nat) : Int) := fun i hi => by (exact T.num)
 have hidx : ∀ i : Nat, i < w → IntKind.i64.wrap ((q7 .add .i64 (n : Int) (i : Int)).tdiv 8) = (((n + i) / 8 : Nat) : Int) := fun i hi => by
   rw [hadd i hi, tdiv8 _ (by omega), IntKind.wrap_i64]
   omega
 have hmod : ∀ i : Nat, i < w → (q7 .add .i64 (n : Int) (i : Int)).tmod 8 = (((n + i) % 8 : Nat) : Int) := fun i hi => by
   rw [hadd i hi, tmod8 _ (by omega)]
   omega
 have hsl : ∀ i : Nat, i < w → (wS bs n ((qz w v).take i)).length = bs.length := fun i hi => setB_len _ _ _ (by simp; omega)
 have hpos : ∀ i : Nat, i < w → 0 + (IntKind.i64.wrap ((q7 .add .i64 (n : Int) (i : Int)).tdiv 8)).toNat * 1 = (n + i) / 8 := fun i hi => by rw [hidx i hi]; omega
 have hmask : ∀ i : Nat, i < w → IntKind.u8.wrap (1 * 2 ^ min (q7 .sub .i64 7 ((q7 .add .i64 (n : Int) (i : Int)).tmod 8)).toNat IntKind.u8.bits) = 2 ^ (7 - (n + i) % 8) := fun i hi => by
   rw [hmod i hi, show q7 .sub .i64 7 (((n + i) % 8 : Nat) : Int) = 7 - (((n + i) % 8 : Nat) : Int) by (exact T.num)]
   exact mask_eq _ (by omega)
 have hsh : ∀ i : Nat, i < w → (q7 .sub .i64 (q7 .sub .i64 (w : Int) 1) (i : Int)).toNat = w - 1 - i := fun i hi => by
   have : q7 .sub .i64 (q7 .sub .i64 (w : Int) 1) (i : Int) = (w : Int) - 1 - i := by (exact T.num)
   rw [this]; omega
 have hbit : ∀ i : Nat, i < w → qB .and .i64 (v.fdiv (2 ^ min (q7 .sub .i64 (q7 .sub .i64 (w : Int) 1) (i : Int)).toNat IntKind.i64.bits)) 1 = if (qz w v).getD i false = true then 1 else 0 := fun i hi => by
   rw [hsh i hi]
   exact bit_at w v hv hv2 i hi hw
 refine goW [] Tryz.func139 rfl ?_
 conv => whnf
 repeat' ((first | (refine And.intro ?_ ?_; (focus (first | (rw [hidx _ (by omega)]; omega) | (rw [hmod _ (by omega)]; first | omega | (exact T.num)) | (dsimp only; rw [hidx _ (by omega), List.length_map, bytesB_len, hsl _ (by omega)]; omega) | (dsimp only; rw [hidx _ (by omega), bytesB_len, hsl _ (by omega)]; omega) | exact T.kx | exact T.side))) | (show AC _ _ _; first | (refine AC.idx ((n + i) / 8) 0 ?_ ?_ ?_; (focus (dsimp only; rw [hidx _ (by omega)]; omega)); (focus (rw [bytesB_len, hsl _ (by omega)]; omega)))) | (show AQ _ _; first | (refine AQ.set (x := b8 _) (qT _).symm ?_ ?_; (focus (dsimp only; rw [hidx _ (by omega), bytesB_len, hsl _ (by omega)]; omega)))) | refine T.s ?_ | ((first | apply goB | apply AB.dec | apply AB.gen) <;> intro h <;> try (exfalso; omega)) | refine LQ.mk fun r => ?_ | (show SQ _ _ _ (.loop _) _ _ _; first | (apply goO tQ [] 1 (S := Nat) [0, 1, 2, 3, 10] (fun i => ⟨[(11, .int .i64 i)], [(p, ⟨5, (qx (wS bs n ((qz w v).take i))).map bAV⟩)], i ≤ w, w - i⟩) (0) (by rfl); (focus ((repeat' first | exact trivial | (refine And.intro ?_ ?_) | exact LB.nil | (with_reducible exact LB.refl) | (apply LB.cons; (repeat first | refine goH ?_ | apply LH.here | apply LH.next); refine And.intro ?_ ?_; (focus (try (first | (with_reducible rfl) | (refine congrArg (Pl.mk _) ?_; (first | rfl | (simp [qV]; done))) | rfl | (with_reducible refine congrArg (Pl.mk _) ?_))))) | assumption | (first | (focus (apply Eq.trans; (conv => lhs; whnf); (conv => rhs; whnf); done)) | rfl | ((conv => lhs; whnf); first | rfl | (refine congrArg (AV.int _) ?_; (exact T.num)) | (refine congrArg AV.bool ?_; (exact T.num)) | (refine vwc ?_; first | (exact T.num) | (first | rfl | (simp [qV]; done))) | (refine qa ?_ ?_ <;> first | (exact T.num) | (first | rfl | (simp [qV]; done))) | (first | rfl | (simp [qV]; done)))) | (exact T.num) | (dsimp only; (exact T.num)) | (first | rfl | (simp [qV]; done))); done)); rintro i hok; (try dsimp only at hok))) | (show AtL _ _ _ _ _ _ _ _ _ _; first | (apply AtL.mk' (id := 1) (S := Nat) (i + 1); (repeat' first | exact trivial | (refine And.intro ?_ ?_) | exact LB.nil | (with_reducible exact LB.refl) | (apply LB.cons; (repeat first | refine goH ?_ | apply LH.here | apply LH.next); refine And.intro ?_ ?_; (focus (try (first | (with_reducible rfl) | (refine congrArg (Pl.mk _) ?_; (first | rfl | (simp [qV]; done))) | rfl | (with_reducible refine congrArg (Pl.mk _) ?_))))) | assumption | (first | (focus (apply Eq.trans; (conv => lhs; whnf); (conv => rhs; whnf); done)) | rfl | ((conv => lhs; whnf); first | rfl | (refine congrArg (AV.int _) ?_; (exact T.num)) | (refine congrArg AV.bool ?_; (exact T.num)) | (refine vwc ?_; first | (exact T.num) | (first | rfl | (simp [qV]; done))) | (refine qa ?_ ?_ <;> first | (exact T.num) | (first | rfl | (simp [qV]; done))) | (first | rfl | (simp [qV]; done)))) | (exact T.num) | (dsimp only; (exact T.num)) | (first | rfl | (simp [qV]; done))); done) | (apply AtL.mk' (id := 1) (S := Nat) (i + 1); (repeat' first | exact trivial | (refine And.intro ?_ ?_) | exact LB.nil | (with_reducible exact LB.refl) | (apply LB.cons; (repeat first | refine goH ?_ | apply LH.here | apply LH.next); refine And.intro ?_ ?_; (focus (try (first | (with_reducible rfl) | (refine congrArg (Pl.mk _) ?_; (first | rfl | (simp [qV]; done))) | rfl | (with_reducible refine congrArg (Pl.mk _) ?_))))) | assumption | (first | (focus (apply Eq.trans; (conv => lhs; whnf); (conv => rhs; whnf); done)) | rfl | ((conv => lhs; whnf); first | rfl | (refine congrArg (AV.int _) ?_; (exact T.num)) | (refine congrArg AV.bool ?_; (exact T.num)) | (refine vwc ?_; first | (exact T.num) | (first | rfl | (simp [qV]; done))) | (refine qa ?_ ?_ <;> first | (exact T.num) | (first | rfl | (simp [qV]; done))) | (first | rfl | (simp [qV]; done)))) | (exact T.num) | (dsimp only; (exact T.num)) | (first | rfl | (simp [qV]; done))))) | exact T.z | fail) <;> conv => whnf)
 all_goals (try dsimp only)
 · rw [hbit i (by omega)] at h
   have hb : (qz w v).getD i false = true := by
     cases hc : (qz w v).getD i false with
     | true => rfl
     | false => rw [hc] at h; exact absurd h (by decide)
   refine congrArg (List.map bAV) ?_
   have hs := step_or (wS bs n ((qz w v).take i)) (n + i) (by rw [hsl i (by omega)]; exact h8) (by rw [hsl i (by omega)]; omega)
   have hu := setB_succ bs n i (qz w v) (by simp; omega) (by simp; omega)
   rw [hb] at hu
   rw [hpos i (by omega), hmask i (by omega), ← hu]
   exact hs
 · rw [hbit i (by omega)] at h
   have hb : (qz w v).getD i false = false := by
     cases hc : (qz w v).getD i false with
     | false => rfl
     | true => rw [hc] at h; exact absurd rfl h
   refine congrArg (List.map bAV) ?_
   have hs := step_andn (wS bs n ((qz w v).take i)) (n + i) (by rw [hsl i (by omega)]; exact h8) (by rw [hsl i (by omega)]; omega)
   have hu := setB_succ bs n i (qz w v) (by simp; omega) (by simp; omega)
   rw [hb] at hu
   rw [hpos i (by omega), hmask i (by omega), ← hu]
   exact hs
 · have hi : i = w := by omega
   have e : (qz w v).take i = qz w v := List.take_of_length_le (by simp; omega)
   rw [e]
   (show RL _ _ _; refine goR ?_)
   rfl
open Go.RowKit
variable {G : Nat → AV}
def zG (ws : List Int) : Nat := (ws.map Int.toNat).sum
def j6 : List Int → List Int → List Bool
 | w :: ws, v :: vs => qz w.toNat v ++ j6 ws vs
 | _, _ => []
theorem v8 : ∀ (ws vs : List Int), ws.length = vs.length → (j6 ws vs).length = zG ws
 | [], [], _ => rfl
 | w :: ws, v :: vs, h => by
   have := v8 ws vs (by simpa using h)
   simp [j6, zG] at *
   omega
theorem v9 : ∀ (ws vs ws' vs' : List Int), ws.length = vs.length → j6 (ws ++ ws') (vs ++ vs') = j6 ws vs ++ j6 ws' vs'
 | [], [], _, _, _ => rfl
 | w :: ws, v :: vs, ws', vs', h => by
   have := v9 ws vs ws' vs' (by simpa using h)
   simp [j6, this]
theorem kZ (ws : List Int) (i : Nat) (h : i < ws.length) : zG (ws.take (i + 1)) = zG (ws.take i) + (ws.getD i 0).toNat := by
 unfold zG
 rw [List.take_succ_eq_append_getElem h, List.map_append, List.sum_append]
 congr 1
 simp [List.getD_eq_getElem?_getD, h]
theorem packB_take (ws vs : List Int) (i : Nat) (h : i < ws.length) (hl : ws.length = vs.length) : j6 (ws.take (i + 1)) (vs.take (i + 1)) = j6 (ws.take i) (vs.take i) ++ qz (ws.getD i 0).toNat (vs.getD i 0) := by
 rw [List.take_succ_eq_append_getElem h, List.take_succ_eq_append_getElem (show i < vs.length by omega), v9 _ _ _ _ (by simp; omega)]
 simp [j6, List.getD_eq_getElem?_getD, h, show i < vs.length by omega]
theorem sumW_le (ws : List Int) (h : ∀ i, i < ws.length → 0 ≤ ws.getD i 0 ∧ ws.getD i 0 ≤ 32) : ∀ i, i ≤ ws.length → zG (ws.take i) ≤ 32 * i
 | 0, _ => by simp [zG]
 | i + 1, hi => by
   have h1 := sumW_le ws h i (by omega)
   have h2 := h i (by omega)
   rw [kZ ws i (by omega)]
   omega
theorem yO (ws : List Int) (i : Nat) : zG (ws.take i) ≤ zG ws := by
 conv => rhs; rw [← List.take_append_drop i ws]
 unfold zG
 rw [List.map_append, List.sum_append]
 omega
theorem bfits_t (n v : Int) (h : 0 ≤ n ∧ n ≤ 32) (hv : 0 ≤ v ∧ v < 2 ^ n.toNat) : LP Tryz.prog G 138 [iAV n, iAV v] [] (fun _ => (.bool true, [])) := by
 have e : IntKind.i64.wrap (1 * 2 ^ min n.toNat IntKind.i64.bits) = 2 ^ n.toNat := by
   have e : min n.toNat IntKind.i64.bits = n.toNat := Nat.min_eq_left (by show n.toNat ≤ 64; omega)
   rw [e, Int.one_mul, IntKind.wrap_i64]
   have h2 : (2 : Int) ^ n.toNat ≤ 2 ^ 32 := by exact_mod_cast Nat.pow_le_pow_right (by decide) (show n.toNat ≤ 32 by omega)
   have h3 : (0 : Int) < 2 ^ n.toNat := Int.pow_pos (by decide)
   omega
 refine goW [] Tryz.func138 rfl ?_
 conv => whnf
 repeat' ((first | refine T.s ?_ | ((first | apply goB | apply AB.dec | apply AB.gen) <;> intro h <;> try (exfalso; omega)) | refine LQ.mk fun r => ?_ | exact T.z | fail) <;> conv => whnf)
 all_goals (try dsimp only)
 all_goals
   ((show RL _ _ _; refine goR ?_); (focus (refine congrArg AV.bool ?_; rw [Bool.eq_iff_iff])))
   simp_all [qu]
def wD (ws vs : List Int) (i : Nat) : List Bool := j6 (ws.take i) (vs.take i) ++ List.replicate (zG ws - zG (ws.take i)) false
theorem yd (ws vs : List Int) (hl : ws.length = vs.length) (i : Nat) : (wD ws vs i).length = zG ws := by
 have := yO ws i
 simp [wD, v8 (ws.take i) (vs.take i) (by simp; omega)]
 omega
theorem padB_succ (ws vs : List Int) (hl : ws.length = vs.length) (i : Nat) (hi : i < ws.length) : wS (wD ws vs i) (zG (ws.take i)) (qz (ws.getD i 0).toNat (vs.getD i 0)) = wD ws vs (i + 1) := by
 have h1 := v8 (ws.take i) (vs.take i) (by simp; omega)
 have h2 := yO ws (i + 1)
 have h3 := kZ ws i hi
 unfold wS wD
 rw [packB_take ws vs i hi hl, List.take_append_of_le_length (by omega), List.take_of_length_le (by omega), List.drop_append, List.drop_of_length_le (by omega), List.append_assoc]
 congr 2
 rw [List.nil_append, List.drop_replicate, bitsW_len]
 congr 1
 omega
theorem padB_zero (ws vs : List Int) : qx (wD ws vs 0) = List.replicate (zG ws / 8) 0 := by
 have e : wD ws vs 0 = List.replicate (zG ws) false := by simp [wD, j6, zG]
 rw [e]
 apply List.ext_getElem
 · simp
 · intro j h1 h2
   have hj : j < zG ws / 8 := by simpa using h1
   simp only [qx, List.getElem_map, List.getElem_range, List.getElem_replicate, List.drop_replicate, List.take_replicate]
   rw [show min 8 (zG ws - 8 * j) = 8 by omega]
   rfl
theorem padB_all (ws vs : List Int) (hl : ws.length = vs.length) : wD ws vs ws.length = j6 ws vs := by
 simp [wD, hl]
 rw [← hl]
 simp
theorem pack_c (ws vs : List Int) (hl : ws.length = vs.length) (h256 : ws.length ≤ 256) (h0 : 0 < zG ws) (h8 : zG ws % 8 = 0) (hfit : ∀ i, i < ws.length → (0 ≤ ws.getD i 0 ∧ ws.getD i 0 ≤ 32) ∧ 0 ≤ vs.getD i 0 ∧ vs.getD i 0 < 2 ^ (ws.getD i 0).toNat) :
   LP Tryz.prog G 125 [iv ws, iv vs] [] (fun q => (.tup [.vw q 0 (zG ws / 8) 1, iAV 0], [(q, ⟨5, (qx (j6 ws vs)).map bAV⟩)])) := by
 have hT : ∀ i, i ≤ ws.length → zG (ws.take i) ≤ 32 * i := sumW_le ws fun i hi => (hfit i hi).1
 have hT2 : zG ws ≤ 8192 := by
   have := hT ws.length (by omega)
   rw [List.take_of_length_le (by omega)] at this
   omega
 have hadd : ∀ i : Nat, i < ws.length → q7 .add .i64 (zG (ws.take i) : Int) (ws.getD i 0) = (zG (ws.take (i + 1)) : Int) := fun i hi => by
   have := hT i (by omega)
   have := (hfit i hi).1
   rw [kZ ws i hi]
   (exact T.num)
 have hset : ∀ (i : Nat) (p : Nm), i < ws.length → LP Tryz.prog G 139 [.vw p 0 (zG ws / 8) 1, iAV (zG (ws.take i)), iAV (ws.getD i 0), iAV (vs.getD i 0)] [(p, ⟨5, (qx (wD ws vs i)).map bAV⟩)] (fun _ => (.tup [], [(p, ⟨5, (qx (wD ws vs (i + 1))).map bAV⟩)])) := fun i p hi => by
   have hf := hfit i hi
   have hp : (2 : Int) ^ (ws.getD i 0).toNat ≤ 2 ^ 32 := by exact_mod_cast Nat.pow_le_pow_right (by decide) (show (ws.getD i 0).toNat ≤ 32 by omega)
   have hm := yO ws (i + 1)
   rw [kZ ws i hi] at hm
   have := bset_c (G := G) (wD ws vs i) (zG (ws.take i)) (ws.getD i 0).toNat (vs.getD i 0) (by rw [yd _ _ hl]; exact h8) (by rw [yd _ _ hl]; omega) (by rw [yd _ _ hl]; omega) (by omega) hf.2.1 (by omega) p
   rw [yd _ _ hl, padB_succ ws vs hl i hi, show (((ws.getD i 0).toNat : Nat) : Int) = ws.getD i 0 by omega] at this
   exact this
 have hend : ∀ i : Nat, i ≤ ws.length → ¬ (i : Int) < (ws.length : Int) → IntKind.i64.wrap ((q7 .add .i64 (zG (ws.take i) : Int) 7).tdiv 8) = ((zG ws / 8 : Nat) : Int) := fun i h1 h2 => by
   rw [List.take_of_length_le (show ws.length ≤ i by omega), show q7 .add .i64 (zG ws : Int) 7 = ((zG ws + 7 : Nat) : Int) by (exact T.num), tdiv8 _ (by omega), IntKind.wrap_i64]
   omega
 have hzc : ∀ i : Nat, i ≤ ws.length → ¬ (i : Int) < (ws.length : Int) → qO [AV.int .u8 0] ((IntKind.i64.wrap ((q7 .add .i64 (zG (ws.take i) : Int) 7).tdiv 8)).toNat * 1) = (qx (wD ws vs 0)).map bAV := fun i h1 h2 => by
   rw [hend i h1 h2, padB_zero, Int.toNat_natCast, Nat.mul_one]
   generalize zG ws / 8 = n
   apply List.ext_getElem
   · simp [qO]
   · intro k k1 k2
     simp [qO, Nat.mod_one]
     rfl
 have hall := padB_all ws vs hl
 refine goW [] Tryz.func125 rfl ?_
 conv => whnf
 repeat' ((first | (refine And.intro ?_ ?_; (focus (first | (rw [hend _ (by omega) (by assumption)]; omega) | (dsimp only; rw [hend _ (by omega) (by assumption)]; omega) | exact T.kx | exact T.side))) | (show LC _ _ _ _ _ _; first | refine LC.pure (bfits_t _ _ (hfit _ (by omega)).1 (hfit _ (by omega)).2) ?_ | (apply LC.upd (hset _ _ (by omega)); (repeat first | refine goH ?_ | apply LH.here | apply LH.next); refine ⟨rfl, ?_⟩) | refine goE ?_) | (show AC _ _ _; first | (refine AC.idx (i) (0) ?_ ?_ ?_; (focus (first | exact rfl | (simp; done) | (simp; omega))); (focus (first | omega | exact T.side)))) | (show AQ _ _; first | (refine AQ.eq (hzc _ (by omega) (by assumption)) ?_)) | refine T.s ?_ | ((first | apply goB | apply AB.dec | apply AB.gen) <;> intro h <;> try (exfalso; omega)) | refine LQ.mk fun r => ?_ | (show SQ _ _ _ (.loop _) _ _ _; first | (apply goO tQ [] 5 (S := Nat) [0, 1, 23, 24] (fun i => ⟨[(25, .int .i64 i), (6, .int .i64 (zG (ws.take i)))], [], i ≤ ws.length, ws.length - i⟩) (0) (by rfl); (focus (all_goals (try exact KD4A); done)); rintro i hok; (try dsimp only at hok)) | (apply goO tQ [] 14 (S := Nat × Nm) [1, 45, 46] (fun (i, q) => ⟨[(47, .int .i64 i), (10, .int .i64 (zG (ws.take i))), (9, .vw q 0 (zG ws / 8) 1)], [(q, ⟨5, (qx (wD ws vs i)).map bAV⟩)], i ≤ ws.length, ws.length - i⟩) ((0, _)) (by rfl); (focus (all_goals (try exact KD4A); done)); rintro ⟨i, q⟩ hok; (try dsimp only at hok))) | (show AtL _ _ _ _ _ _ _ _ _ _; first | (apply AtL.mk' (id := 5) (S := Nat) (i + 1); all_goals (try exact KD4A); done) | (apply AtL.mk' (id := 14) (S := Nat × Nm) ((i + 1, _)); all_goals (try exact KD4A); done) | (apply AtL.mk' (id := 5) (S := Nat) (i + 1); all_goals (try exact KD4A)) | (apply AtL.mk' (id := 14) (S := Nat × Nm) ((i + 1, _)); all_goals (try exact KD4A))) | exact T.z | fail) <;> conv => whnf)
 all_goals (try dsimp only)
 all_goals
   have hi : i = ws.length := by omega
   rw [hi, hall]
   refine RL.own q rfl ?_ ?_
   · (repeat first | refine goH ?_ | apply LH.here | apply LH.next)
     trivial
   · (repeat' first | exact LB.nil | (with_reducible exact LB.refl) | (apply LB.cons; (repeat first | refine goH ?_ | apply LH.here | apply LH.next); refine And.intro ?_ ?_; (focus (try (first | (with_reducible rfl) | (refine congrArg (Pl.mk _) ?_; (first | rfl | (simp; done))) | rfl | (with_reducible refine congrArg (Pl.mk _) ?_))))))
open Go.RowKit
variable {G : Nat → AV}
theorem LC.put0 {w : Nm} {a b : Int} {l : LS} {K : AV → LS → Prop} (h : LH l w fun c _ r => c = ⟨155, [.nils, .nils]⟩ ∧ ∀ x y, K (.tup []) (wP w x y [a] [b] ++ r)) : LC Tryz.prog G 122 [.ptr w 0, .int .i64 a, .int .i64 b] l K := by
 obtain ⟨l1, c, l2, rfl, rfl, ha⟩ := h.ex
 refine LC.mkN (put0_c w a b) [] (LFs.refl _) ?_
 exact ⟨l1, _, l2, rfl, rfl, LFreshN.two ha⟩
theorem LC.more {f : FuncId} {w : Nm} {al : List AV} {A B : List Int} {l : LS} {K : AV → LS → Prop} (hs : ∀ (p1 p2 : Nm) (ws vs : List Int), 0 < ws.length → ws.length ≤ 100 → 0 < vs.length → vs.length ≤ 100 → LSpecN Tryz.prog G f (.ptr w 0 :: al) (wP w p1 p2 ws vs) 2 (fun q => (.tup [], wP w (q0 q) (q1 q) (ws ++ A) (vs ++ B))))
   (h : LH l w fun c _ r => ∃ (p1 p2 : Nm) (n m : Nat), c = ⟨155, [.vw p1 0 n 1, .vw p2 0 m 1]⟩ ∧ LH r p1 fun c1 _ r1 => LH r1 p2 fun c2 _ r2 => ∃ ws vs : List Int, c1 = ⟨3, ws.map iAV⟩ ∧ c2 = ⟨3, vs.map iAV⟩ ∧ n = ws.length ∧ m = vs.length ∧
     (0 < ws.length ∧ ws.length ≤ 100 ∧ 0 < vs.length ∧ vs.length ≤ 100) ∧ ∀ x y, K (.tup []) (wP w x y (ws ++ A) (vs ++ B) ++ r2)) : LC Tryz.prog G f (.ptr w 0 :: al) l K := by
 obtain ⟨l1, c, l2, rfl, p1, p2, n, m, rfl, ha⟩ := h.ex
 obtain ⟨l3, c1, l4, e1, hb⟩ := ha.ex
 obtain ⟨l5, c2, l6, e2, ws, vs, rfl, rfl, rfl, rfl, ⟨k1, k2, k3, k4⟩, hc⟩ := hb.ex
 refine LC.mkN (hs p1 p2 ws vs k1 k2 k3 k4) [] (LFs.refl _) ?_
 exact ⟨l1, _, l2, rfl, rfl, ⟨l3, _, l4, e1, rfl, ⟨l5, _, l6, e2, rfl, LFreshN.two hc⟩⟩⟩
def kc (s : Sm) : Int := if s.f = 4 ∨ s.f = 5 then s.h.ck else s.ud
def kJ (s : Sm) : List Int := if 0 < s.cx then [8] else []
def kK (s : Sm) : List Int := if 0 < s.cx then [qB .or .i64 224 s.cx] else []
def x8 (s : Sm) : List Int :=
 if s.f = 1 then [5, 3] else if s.f = 2 then [3, 5] ++ ((if s.h.k = 2 then [16] else []) ++ [8]) else if s.f = 3 then [8, wid 3 s.h.k 0] ++ ((if s.h.k = 2 then [32, 16] else []) ++ [8])
 else if s.f = 4 then [8] ++ (dyW s.h ++ [8]) else if s.f = 5 then [8] ++ (stW s.h ++ (dyW s.h ++ [8])) else [8]
def x9 (s : Sm) : List Int :=
 if s.f = 1 then [s.n, s.ck] else if s.f = 2 then [qB .or .i64 4 s.mr, s.n] ++ ((if s.h.k = 2 then [s.tm] else []) ++ [s.ck]) else if s.f = 3 then [qB .or .i64 192 s.mr, s.n] ++ ((if s.h.k = 2 then [s.tm, s.id] else []) ++ [s.ck])
 else if s.f = 4 then [208] ++ (dyV s.h s.d ++ [s.ck]) else if s.f = 5 then [209] ++ (stV s.h ++ (dyV s.h s.d ++ [s.ck])) else [210]
def wI (s : Sm) : List Int := kJ s ++ (x8 s ++ (if kc s = 0 then [] else [16]))
def encV (s : Sm) : List Int := kK s ++ (x9 s ++ (if kc s = 0 then [] else [kc s]))
def headB (s : Sm) : List UInt8 := qx (j6 (wI s) (encV s))
attribute [irreducible] kc headB
def be (x : List UInt8 × Int) : AV := .tup [bv x.1, iAV x.2]
def encP (s : Sm) : List UInt8 × Int := if s.ok then (headB s ++ s.pl, 0) else ([], 1)
theorem enc_c (s : Sm) (hpk : s.ok = true → LP Tryz.prog G 125 [iv (wI s), iv (encV s)] [] (fun q => (.tup [.vw q 0 (headB s).length 1, iAV 0], [(q, ⟨5, (headB s).map bAV⟩)])))
   (hhl : s.ok = true → 0 < (headB s).length ∧ (headB s).length ≤ 1000) (hpl : s.ok = true → s.pl.length ≤ 1500) (hf : s.ok = true → 1 ≤ s.f ∧ s.f ≤ 6) (hd : (dyW s.h).length ≤ 20 ∧ (dyV s.h s.d).length ≤ 20 ∧ (stW s.h).length ≤ 20 ∧ (stV s.h).length ≤ 20)
   (hs : kc s = if s.f = 4 ∨ s.f = 5 then s.h.ck else s.ud) (hbl : (0 < (kJ s ++ x8 s).length ∧ (kJ s ++ x8 s).length ≤ 100) ∧ 0 < (kK s ++ x9 s).length ∧ (kK s ++ x9 s).length ≤ 100)
   (hew : kc s = 0 → wI s = kJ s ++ x8 s ∧ encV s = kK s ++ x9 s) (hew2 : ¬ kc s = 0 → wI s = kJ s ++ x8 s ++ [16] ∧ encV s = kK s ++ x9 s ++ [kc s]) : LP Tryz.prog G 102 [s.av] [] (fun _ => (be (encP s), [])) := by
 cases hok : s.ok with
 | false => 
   have e : encP s = ([], 1) := by unfold encP; rw [hok]; rfl
   rw [e]
   refine goW [] Tryz.func102 rfl ?_
   conv => whnf
   repeat' ((first | exact Nm.b 0 | (show LC _ _ _ _ _ _; first | refine LC.pure (hok ▸ fvalid8_c s) ?_ | refine goE ?_) | refine T.s ?_ | ((first | apply goB | apply AB.dec | apply AB.gen) <;> intro h <;> try (exfalso; omega)) | refine LQ.mk fun r => ?_ | (show SQ _ _ _ _ _ _ _; first | (refine goD tQ qb 6 [] [0, 1, 2, 3, 4, 5, 6, 7] [] (by kernel_rfl) ?_) | (refine goD tQ qb 19 [8, 6] [0, 1, 2, 3, 4, 5, 7, 8, 6, 9] [] (by kernel_rfl) ?_) | (refine goD tQ qb 39 [] [0, 1, 2, 3, 4, 5, 6, 7, 8, 9, 10, 11, 12, 13] [] (by kernel_rfl) ?_)) | exact T.z | fail) <;> conv => whnf)
   all_goals (try dsimp only)
   exact RL.frz [] (LF.tup ⟨LF.nils rfl rfl, LF.eq rfl, trivial⟩) LB.nil
 | true =>
   have hpk := hpk hok
   have hhl := hhl hok
   have hpl := hpl hok
   have hf := hf hok
   have e : encP s = (headB s ++ s.pl, 0) := by unfold encP; rw [hok]; rfl
   rw [e]
   refine goW [7, 37] Tryz.func102 rfl ?_
   conv => whnf
   repeat' ((first | (show LC _ _ _ _ _ _; refine LC.put0 ?_; (repeat first | refine goH ?_ | apply LH.here | apply LH.next); refine ⟨rfl, fun r r2 => ?_⟩; conv => whnf) | (show LC _ _ _ _ _ _; refine LC.put ?_; (repeat first | refine goH ?_ | apply LH.here | apply LH.next); refine ⟨_, _, _, _, rfl, ?_⟩; (repeat first | refine goH ?_ | apply LH.here | apply LH.next); (repeat first | refine goH ?_ | apply LH.here | apply LH.next); refine ⟨_, _, rfl, rfl, (by first | exact rfl | assumption), (by first | exact rfl | assumption), ?_, fun r r2 => ?_⟩; (focus (first | omega | (simp; omega) | (simp; done))); conv => whnf) | (show LC _ _ _ _ _ _; refine LC.more (fun p1 p2 ws vs => wstatic_c _ p1 p2 ws vs s.h) ?_; (repeat first | refine goH ?_ | apply LH.here | apply LH.next); refine ⟨_, _, _, _, rfl, ?_⟩; (repeat first | refine goH ?_ | apply LH.here | apply LH.next); (repeat first | refine goH ?_ | apply LH.here | apply LH.next); refine ⟨_, _, rfl, rfl, (by first | exact rfl | assumption), (by first | exact rfl | assumption), ?_, fun r r2 => ?_⟩; (focus (first | omega | (simp; omega) | (simp; done))); conv => whnf) | (show LC _ _ _ _ _ _; refine LC.more (fun p1 p2 ws vs => wdyn_c _ p1 p2 ws vs s.h s.d) ?_; (repeat first | refine goH ?_ | apply LH.here | apply LH.next); refine ⟨_, _, _, _, rfl, ?_⟩; (repeat first | refine goH ?_ | apply LH.here | apply LH.next); (repeat first | refine goH ?_ | apply LH.here | apply LH.next); refine ⟨_, _, rfl, rfl, (by first | exact rfl | assumption), (by first | exact rfl | assumption), ?_, fun r r2 => ?_⟩; (focus (first | omega | (simp; omega) | (simp; done))); conv => whnf) | (show LEra _ _ _; conv => whnf) | exact Nm.b 0 | (show LC _ _ _ _ _ _; first | refine LC.pure (hok ▸ fvalid8_c s) ?_ | refine LC.pure (nbits_c _ _) ?_ | refine LC.mk' (hpk) [_, _] ⟨LF.rowF InL.here ?_, LF.rowF (InL.next InL.here) ?_, trivial⟩ ?_ | refine goE ?_) | refine T.s ?_ | ((first | apply goB | apply AB.dec | apply AB.gen) <;> intro h <;> try (exfalso; omega)) | refine LQ.mk fun r => ?_ | (show SQ _ _ _ _ _ _ _; first | (apply goD tQ qb 6 [] [0, 1, 2, 3, 4, 5, 6, 7] [_] (by kernel_rfl)) | (refine goD tQ qb 6 [] [0, 1, 2, 3, 4, 5, 6, 7] [] (by kernel_rfl) ?_) | (apply goD tQ qb 19 [8, 6] [0, 1, 2, 3, 4, 5, 7, 8, 6, 9] [_] (by kernel_rfl)) | (refine goD tQ qb 19 [8, 6] [0, 1, 2, 3, 4, 5, 7, 8, 6, 9] [] (by kernel_rfl) ?_) | (apply goD tQ qb 39 [] [0, 1, 2, 3, 4, 5, 6, 7, 8, 9, 10, 11, 12, 13] [_] (by kernel_rfl)) | (refine goD tQ qb 39 [] [0, 1, 2, 3, 4, 5, 6, 7, 8, 9, 10, 11, 12, 13] [] (by kernel_rfl) ?_)) | (show CutL _ _ _ _ _ _ _ _; first | (refine goK tQ [7, 37] 7 (S := Nm × Nm × Nm × Nm × Nat × Nat) [] (fun (p, w, x, y, n, m) => ⟨[(5, .int .i64 (kc s)), (1, .ptr p 0), (4, .ptr w 0)], [(p, ⟨67, s.cs⟩), (w, ⟨155, [.vw x 0 n 1, .vw y 0 m 1]⟩), (x, ⟨3, (kJ s ++ x8 s).map iAV⟩), (y, ⟨3, (kK s ++ x9 s).map iAV⟩)], n = (kJ s ++ x8 s).length ∧ m = (kK s ++ x9 s).length, 0⟩) ?_ ?_; (rintro ⟨p, w, x, y, n, m⟩ ⟨hk, hok⟩); rotate_left) | (refine goK tQ [7, 37] 37 (S := Nm × Nm × Nm × Nm × Nat × Nat) [] (fun (p, w, x, y, n, m) => ⟨[(1, .ptr p 0), (4, .ptr w 0)], [(p, ⟨67, s.cs⟩), (w, ⟨155, [.vw x 0 n 1, .vw y 0 m 1]⟩), (x, ⟨3, (wI s).map iAV⟩), (y, ⟨3, (encV s).map iAV⟩)], n = (wI s).length ∧ m = (encV s).length, 0⟩) ?_ ?_; (rintro ⟨p, w, x, y, n, m⟩ ⟨hk, hok⟩); rotate_left) | refine CutL.go tQ [7, 37] ?_) | (show AtC _ _ _ _ _ _ _ _; first | (apply AtC.mk' (id := 7) (S := Nm × Nm × Nm × Nm × Nat × Nat) ((_, _, _, _, _, _)); all_goals (try exact K1D1); done) | (apply AtC.mk' (id := 37) (S := Nm × Nm × Nm × Nm × Nat × Nat) ((_, _, _, _, _, _)); all_goals (try exact K1D1); done) | (apply AtC.mk' (id := 7) (S := Nm × Nm × Nm × Nm × Nat × Nat) ((_, _, _, _, _, _)); all_goals (try exact K1D1)) | (apply AtC.mk' (id := 37) (S := Nm × Nm × Nm × Nm × Nat × Nat) ((_, _, _, _, _, _)); all_goals (try exact K1D1))) | exact T.z | fail) <;> try (show (_ : Prop); conv => whnf))
   all_goals (try dsimp only)
   all_goals try assumption
   all_goals
     refine RL.frz [r] ?_ ?_
     · show LF _ _ _ (.tup [.sl (headB s ++ s.pl).length ((headB s ++ s.pl).map bAV), iAV 0])
       apply LF.tup
       refine And.intro (LF.rowF InL.here ?_) (And.intro (LF.eq rfl) trivial)
       (repeat first | refine goH ?_ | apply LH.here | apply LH.next)
       exact ⟨by simp, by simp⟩
     · show LH _ _ _
       (repeat first | refine goH ?_ | apply LH.here | apply LH.next)
       exact LB.nil
open Go.RowKit
variable {G : Nat → AV}
theorem xA (l rest : List Bool) (h : l.length = 8) : qx (l ++ rest) = xK l :: qx rest := by
 apply List.ext_getElem
 · simp [qx, h]
 · intro j h1 h2
   cases j with
   | zero => simp [qx, ← h]
   | succ j =>
     simp only [qx, List.getElem_map, List.getElem_range, List.getElem_cons_succ]
     rw [show 8 * (j + 1) = l.length + 8 * j by omega, List.drop_length_add_append]
theorem bytesB_nil : qx [] = [] := rfl
theorem bitsW8_mod (v : Int) (hv : 0 ≤ v) : qz 8 v = qz 8 (v % 256) := by
 unfold qz
 apply List.map_congr_left
 intro i hi
 have hi : i < 8 := by simpa using hi
 have key : v / 1 % 2 = v % 256 / 1 % 2 ∧ v / 2 % 2 = v % 256 / 2 % 2 ∧ v / 4 % 2 = v % 256 / 4 % 2 ∧ v / 8 % 2 = v % 256 / 8 % 2 ∧ v / 16 % 2 = v % 256 / 16 % 2 ∧ v / 32 % 2 = v % 256 / 32 % 2 ∧ v / 64 % 2 = v % 256 / 64 % 2 ∧ v / 128 % 2 = v % 256 / 128 % 2 := by omega
 obtain ⟨k0, k1, k2, k3, k4, k5, k6, k7⟩ := key
 have e : v / 2 ^ (8 - 1 - i) % 2 = v % 256 / 2 ^ (8 - 1 - i) % 2 := by
   rcases i with _ | _ | _ | _ | _ | _ | _ | _ | i
   · exact k7
   · exact k6
   · exact k5
   · exact k4
   · exact k3
   · exact k2
   · exact k1
   · exact k0
   · omega
 rw [e]
theorem byte8 (v : Int) (hv : 0 ≤ v) : xK (qz 8 v) = b8 v := by
 rw [bitsW8_mod v hv]
 have key : ∀ m : Nat, m < 256 → xK (qz 8 (m : Int)) = b8 (m : Int) := by decide +kernel
 have h1 := key (v % 256).toNat (by omega)
 rw [show (((v % 256).toNat : Nat) : Int) = v % 256 by omega] at h1
 rw [h1]
 unfold b8
 congr 2
 omega
theorem vD (a b : Nat) (v : Int) (hv : 0 ≤ v) : qz (a + b) v = qz a (v / 2 ^ b) ++ qz b v := by
 apply List.ext_getElem
 · simp
 · intro i h1 h2
   rw [List.getElem_append]
   have hi : i < a + b := by simpa using h1
   simp only [qz, List.getElem_map, List.getElem_range, List.length_map, List.length_range]
   split
   · rename_i h
     rw [Int.ediv_ediv_of_nonneg (Int.pow_nonneg (by decide)), ← Int.pow_add, show a + b - 1 - i = b + (a - 1 - i) by omega]
   · rename_i h
     rw [show a + b - 1 - i = b - 1 - (i - a) by omega]
theorem byte53 (a b : Int) (ha : 0 ≤ a ∧ a < 32) (hb : 0 ≤ b ∧ b < 8) : xK (qz 5 a ++ qz 3 b) = b8 (8 * a + b) := by
 have key : ∀ m : Nat, m < 32 → ∀ n : Nat, n < 8 → xK (qz 5 (m : Int) ++ qz 3 (n : Int)) = b8 (8 * (m : Int) + (n : Int)) := by decide +kernel
 have := key a.toNat (by omega) b.toNat (by omega)
 rwa [show ((a.toNat : Nat) : Int) = a by omega, show ((b.toNat : Nat) : Int) = b by omega] at this
theorem byte35 (a b : Int) (ha : 0 ≤ a ∧ a < 8) (hb : 0 ≤ b ∧ b < 32) : xK (qz 3 a ++ qz 5 b) = b8 (32 * a + b) := by
 have key : ∀ m : Nat, m < 8 → ∀ n : Nat, n < 32 → xK (qz 3 (m : Int) ++ qz 5 (n : Int)) = b8 (32 * (m : Int) + (n : Int)) := by decide +kernel
 have := key a.toNat (by omega) b.toNat (by omega)
 rwa [show ((a.toNat : Nat) : Int) = a by omega, show ((b.toNat : Nat) : Int) = b by omega] at this
theorem byteF (a b c d : Int) (ha : a = 0 ∨ a = 1) (hb : b = 0 ∨ b = 1) (hc : c = 0 ∨ c = 1) (hd : d = 0 ∨ d = 1) : xK (qz 1 a ++ (qz 1 b ++ (qz 1 c ++ (qz 1 d ++ qz 4 0)))) = b8 (128 * a + 64 * b + 32 * c + 16 * d) := by
 rcases ha with rfl | rfl <;> rcases hb with rfl | rfl <;> rcases hc with rfl | rfl <;> rcases hd with rfl | rfl <;> decide +kernel
theorem bytes16 (v : Int) (hv : 0 ≤ v) (rest : List Bool) : qx (qz 16 v ++ rest) = qG v 2 ++ qx rest := by
 rw [vD 8 8 v hv, List.append_assoc, xA _ _ (by simp), xA _ _ (by simp), byte8 _ (Int.ediv_nonneg hv (by decide)), byte8 _ hv]
 simp only [qG, List.cons_append, List.nil_append]
 rw [Int.fdiv_eq_ediv_of_nonneg _ (by decide), Int.fdiv_eq_ediv_of_nonneg _ (by decide)]
 simp
theorem bytes32 (v : Int) (hv : 0 ≤ v) (rest : List Bool) : qx (qz 32 v ++ rest) = qG v 4 ++ qx rest := by
 rw [vD 16 16 v hv, List.append_assoc, bytes16 _ (Int.ediv_nonneg hv (by decide)), bytes16 _ hv]
 simp only [qG, List.cons_append, List.nil_append]
 rw [Int.fdiv_eq_ediv_of_nonneg _ (by decide), Int.fdiv_eq_ediv_of_nonneg _ (by decide), Int.fdiv_eq_ediv_of_nonneg _ (by decide), Int.fdiv_eq_ediv_of_nonneg _ (by decide), Int.fdiv_eq_ediv_of_nonneg _ (by decide), Int.fdiv_eq_ediv_of_nonneg _ (by decide), Int.ediv_ediv_of_nonneg (by decide), Int.ediv_ediv_of_nonneg (by decide)]
 rfl
theorem bytes8 (v : Int) (hv : 0 ≤ v) (rest : List Bool) : qx (qz 8 v ++ rest) = b8 v :: qx rest := by
 rw [xA _ _ (by simp), byte8 _ hv]
open Go.RowKit
variable {G : Nat → AV}
structure Seg (ws vs : List Int) (bs : List UInt8) : Prop where
 len : ws.length = vs.length
 fit : ∀ i, i < ws.length → (0 ≤ ws.getD i 0 ∧ ws.getD i 0 ≤ 32) ∧ 0 ≤ vs.getD i 0 ∧ vs.getD i 0 < 2 ^ (ws.getD i 0).toNat
 sum : zG ws = 8 * bs.length
 eq : ∀ rest, qx (j6 ws vs ++ rest) = bs ++ qx rest
theorem Seg.nil : Seg [] [] [] := ⟨rfl, fun i hi => by simp at hi, rfl, fun _ => rfl⟩
theorem Seg.app {ws vs ws' vs' : List Int} {bs bs' : List UInt8} (h : Seg ws vs bs) (k : Seg ws' vs' bs') : Seg (ws ++ ws') (vs ++ vs') (bs ++ bs') := by
 refine ⟨by simp [h.len, k.len], fun i hi => ?_, by have := h.sum; have := k.sum; simp [zG] at *; omega, fun rest => ?_⟩
 · by_cases hc : i < ws.length
   · have := h.fit i hc
     simp only [List.getD_eq_getElem?_getD, List.getElem?_append_left hc, List.getElem?_append_left (show i < vs.length by rw [← h.len]; exact hc)] at *
     exact this
   · have := k.fit (i - ws.length) (by simp at hi; omega)
     simp only [List.getD_eq_getElem?_getD] at *
     rw [List.getElem?_append_right (by omega), List.getElem?_append_right (by rw [← h.len]; omega), ← h.len]
     exact this
 · rw [v9 _ _ _ _ h.len, List.append_assoc, h.eq, k.eq, List.append_assoc]
theorem kA (v : Int) (h : 0 ≤ v ∧ v < 256) : Seg [8] [v] [b8 v] := by
 refine ⟨rfl, fun i hi => ?_, rfl, fun rest => ?_⟩
 · obtain rfl : i = 0 := by simpa using hi
   exact ⟨by decide, h⟩
 · show qx ((qz 8 v ++ []) ++ rest) = _
   rw [List.append_nil, bytes8 v h.1]; rfl
theorem wA (v : Int) (h : 0 ≤ v ∧ v < 65536) : Seg [16] [v] (qG v 2) := by
 refine ⟨rfl, fun i hi => ?_, rfl, fun rest => ?_⟩
 · obtain rfl : i = 0 := by simpa using hi
   exact ⟨by decide, h⟩
 · show qx ((qz 16 v ++ []) ++ rest) = _
   rw [List.append_nil, bytes16 v h.1]
theorem seg32 (v : Int) (h : 0 ≤ v ∧ v < 4294967296) : Seg [32] [v] (qG v 4) := by
 refine ⟨rfl, fun i hi => ?_, rfl, fun rest => ?_⟩
 · obtain rfl : i = 0 := by simpa using hi
   exact ⟨by decide, h⟩
 · show qx ((qz 32 v ++ []) ++ rest) = _
   rw [List.append_nil, bytes32 v h.1]
theorem seg53 (a b : Int) (ha : 0 ≤ a ∧ a < 32) (hb : 0 ≤ b ∧ b < 8) : Seg [5, 3] [a, b] [b8 (8 * a + b)] := by
 refine ⟨rfl, fun i hi => ?_, rfl, fun rest => ?_⟩
 · have hi : i < 2 := by simpa using hi
   rcases i with _ | _ | i
   · exact ⟨by decide, ha⟩
   · exact ⟨by decide, hb⟩
   · omega
 · show qx ((qz 5 a ++ (qz 3 b ++ [])) ++ rest) = _
   rw [List.append_nil, xA _ _ (by simp), byte53 a b ha hb]; rfl
theorem seg35 (a b : Int) (ha : 0 ≤ a ∧ a < 8) (hb : 0 ≤ b ∧ b < 32) : Seg [3, 5] [a, b] [b8 (32 * a + b)] := by
 refine ⟨rfl, fun i hi => ?_, rfl, fun rest => ?_⟩
 · have hi : i < 2 := by simpa using hi
   rcases i with _ | _ | i
   · exact ⟨by decide, ha⟩
   · exact ⟨by decide, hb⟩
   · omega
 · show qx ((qz 3 a ++ (qz 5 b ++ [])) ++ rest) = _
   rw [List.append_nil, xA _ _ (by simp), byte35 a b ha hb]; rfl
theorem segF (a b c d : Int) (ha : a = 0 ∨ a = 1) (hb : b = 0 ∨ b = 1) (hc : c = 0 ∨ c = 1) (hd : d = 0 ∨ d = 1) : Seg [1, 1, 1, 1, 4] [a, b, c, d, 0] [b8 (128 * a + 64 * b + 32 * c + 16 * d)] := by
 refine ⟨rfl, fun i hi => ?_, rfl, fun rest => ?_⟩
 · have hi : i < 5 := by simpa using hi
   rcases i with _ | _ | _ | _ | _ | i
   · exact ⟨by decide, by show 0 ≤ a ∧ a < 2; omega⟩
   · exact ⟨by decide, by show 0 ≤ b ∧ b < 2; omega⟩
   · exact ⟨by decide, by show 0 ≤ c ∧ c < 2; omega⟩
   · exact ⟨by decide, by show 0 ≤ d ∧ d < 2; omega⟩
   · exact ⟨by decide, by show (0 : Int) ≤ 0 ∧ (0 : Int) < 2 ^ 4; decide⟩
   · omega
 · show qx ((qz 1 a ++ (qz 1 b ++ (qz 1 c ++ (qz 1 d ++ (qz 4 0 ++ []))))) ++ rest) = _
   rw [List.append_nil, xA _ _ (by simp), byteF a b c d ha hb hc hd]; rfl
theorem seg_if {p : Prop} [Decidable p] {ws vs ws' vs' : List Int} {bs bs' : List UInt8} (h : p → Seg ws vs bs) (k : ¬ p → Seg ws' vs' bs') : Seg (if p then ws else ws') (if p then vs else vs') (if p then bs else bs') := by
 by_cases hp : p
 · simp only [if_pos hp]; exact h hp
 · simp only [if_neg hp]; exact k hp
theorem or224 (c : Int) (h : 0 ≤ c ∧ c < 16) : qB .or .i64 224 c = 224 + c := by
 have key : ∀ m : Nat, m < 16 → qB .or .i64 224 (m : Int) = 224 + (m : Int) := by decide +kernel
 have := key c.toNat (by omega)
 rwa [show ((c.toNat : Nat) : Int) = c by omega] at this
theorem or4 (c : Int) (h : c = 0 ∨ c = 1) : qB .or .i64 4 c = 4 + c := by rcases h with rfl | rfl <;> decide +kernel
theorem or192 (c : Int) (h : c = 0 ∨ c = 1) : qB .or .i64 192 c = 192 + c := by rcases h with rfl | rfl <;> decide +kernel
def wK (h : Hd) (d : Dy) : List UInt8 := [b8 h.tos] ++ ([b8 h.ttl] ++ ([b8 (128 * h.fx + 64 * wQ h.ck + 32 * d.fo + 16 * h.mr)] ++ (if h.k = 2 then [b8 h.ty] ++ (qG h.sq 2 ++ (qG h.id 2 ++ (qG h.tm 4 ++ qG d.st 2))) else qG h.id 2)))
def jO (h : Hd) : List UInt8 := [b8 h.k] ++ (qG h.fr 4 ++ (qG h.to 4 ++ (qG h.fp 2 ++ (qG h.tp 2 ++ (if h.k = 2 then qG h.sr 4 else [])))))
theorem in_iff (n m : Int) : inR n m = true ↔ 0 ≤ n ∧ n ≤ m := by simp [inR]
theorem Hd.of (h : Hd) (k : h.ok = true) : (h.k = 1 ∨ h.k = 2) ∧ (0 ≤ h.tos ∧ h.tos ≤ 255) ∧ (0 ≤ h.ttl ∧ h.ttl ≤ 255) ∧ (0 ≤ h.id ∧ h.id ≤ 65535) ∧ (0 ≤ h.fp ∧ h.fp ≤ 65535) ∧ (0 ≤ h.tp ∧ h.tp ≤ 65535) ∧ (0 ≤ h.ck ∧ h.ck ≤ 65535) ∧ (0 ≤ h.fx ∧ h.fx ≤ 1) ∧ (0 ≤ h.fr ∧ h.fr ≤ 4294967295) ∧ (0 ≤ h.to ∧ h.to ≤ 4294967295) ∧
   (0 ≤ h.mr ∧ h.mr ≤ 1) ∧ (0 ≤ h.ty ∧ h.ty ≤ 127) ∧ (0 ≤ h.sq ∧ h.sq ≤ 65535) ∧ (0 ≤ h.tm ∧ h.tm ≤ 4294967295) ∧ (0 ≤ h.sr ∧ h.sr ≤ 4294967295) := by
 unfold Hd.ok at k
 split at k
 · rename_i h1
   simp only [comR, udpR, Bool.and_eq_true, in_iff, decide_eq_true_eq] at k
   omega
 · split at k
   · rename_i h1
     simp only [comR, rtpR, Bool.and_eq_true, in_iff] at k
     omega
   · cases k
theorem Dy.of (d : Dy) (k : d.ok = true) : (0 ≤ d.st ∧ d.st ≤ 65535) ∧ (d.fo = 0 ∨ d.fo = 1) := by
 simp only [Dy.ok, Bool.and_eq_true, in_iff, decide_eq_true_eq] at k
 exact k
theorem some01 (c : Int) (h : 0 ≤ c) : wQ c = 0 ∨ wQ c = 1 := by unfold wQ; split <;> omega
theorem seg_dyn (h : Hd) (d : Dy) (hk : h.ok = true) (dk : d.ok = true) : Seg (dyW h) (dyV h d) (wK h d) := by
 have a := h.of hk
 have b := d.of dk
 have c := some01 h.ck (by omega)
 unfold dyW dyV wK
 refine Seg.app (ws := [8]) (vs := [h.tos]) (kA _ (by omega)) ?_
 refine Seg.app (ws := [8]) (vs := [h.ttl]) (kA _ (by omega)) ?_
 refine Seg.app (ws := [1, 1, 1, 1, 4]) (vs := [h.fx, wQ h.ck, d.fo, h.mr, 0]) (segF _ _ _ _ (by omega) c b.2 (by omega)) ?_
 refine seg_if (fun _ => ?_) fun _ => wA _ (by omega)
 exact Seg.app (ws := [8]) (vs := [h.ty]) (kA _ (by omega)) (Seg.app (ws := [16]) (vs := [h.sq]) (wA _ (by omega)) (Seg.app (ws := [16]) (vs := [h.id]) (wA _ (by omega)) (Seg.app (ws := [32]) (vs := [h.tm]) (seg32 _ (by omega)) (wA _ (by omega)))))
theorem seg_stat (h : Hd) (hk : h.ok = true) : Seg (stW h) (stV h) (jO h) := by
 have a := h.of hk
 unfold stW stV jO
 refine Seg.app (ws := [8]) (vs := [h.k]) (kA _ (by omega)) (Seg.app (ws := [32]) (vs := [h.fr]) (seg32 _ (by omega)) (Seg.app (ws := [32]) (vs := [h.to]) (seg32 _ (by omega)) (Seg.app (ws := [16]) (vs := [h.fp]) (wA _ (by omega)) (Seg.app (ws := [16]) (vs := [h.tp]) (wA _ (by omega)) ?_))))
 exact seg_if (fun _ => seg32 _ (by omega)) fun _ => Seg.nil
def qD (s : Sm) : List UInt8 :=
 if s.f = 1 then [b8 (8 * s.n + s.ck)] else if s.f = 2 then [b8 (32 * (4 + s.mr) + s.n)] ++ ((if s.h.k = 2 then qG s.tm 2 else []) ++ [b8 s.ck])
 else if s.f = 3 then (if s.h.k = 2 then [b8 (192 + s.mr)] ++ [b8 s.n] else [b8 (192 + s.mr)] ++ qG s.n 2) ++ ((if s.h.k = 2 then qG s.tm 4 ++ qG s.id 2 else []) ++ [b8 s.ck])
 else if s.f = 4 then [b8 208] ++ (wK s.h s.d ++ [b8 s.ck]) else if s.f = 5 then [b8 209] ++ (jO s.h ++ (wK s.h s.d ++ [b8 s.ck])) else [b8 210]
def xq (s : Sm) : List UInt8 := if 0 < s.cx then [b8 (224 + s.cx)] else []
def hdL (s : Sm) : List UInt8 := xq s ++ (qD s ++ (if kc s = 0 then [] else qG (kc s) 2))
theorem Sm.of (s : Sm) (h : s.ok = true) : (0 ≤ s.cx ∧ s.cx < 16 ∧ s.pl.length ≤ 1500) ∧ qW (cbR s.f) s.ck = true ∧
   ((s.f = 1 ∨ s.f = 2 ∨ s.f = 3) ∧ zH s = true ∧ (s.h.k = 1 ∨ s.h.k = 2) ∧ hzR s.h s.h.k = true ∧ dzR s.d = true ∨
     (s.f = 4 ∨ s.f = 5) ∧ jD s = true ∧ xP s = true ∨
     s.f = 6 ∧ jD s = true ∧ (s.cx = 0 ∧ s.ck = 0) ∧ hzR s.h 0 = true ∧ dzR s.d = true) := by
 unfold Sm.ok ww at h
 simp only [Bool.and_eq_true, decide_eq_true_eq] at h
 obtain ⟨⟨h1, h2⟩, h3⟩ := h
 refine ⟨h1, h2, ?_⟩
 split at h3
 · rename_i hf
   simp only [Bool.and_eq_true, decide_eq_true_eq] at h3
   exact .inl ⟨hf, h3.1, h3.2.1, h3.2.2.1, h3.2.2.2⟩
 · split at h3
   · rename_i hf
     simp only [Bool.and_eq_true] at h3
     exact .inr (.inl ⟨hf, h3.1, h3.2⟩)
   · split at h3
     · rename_i hf
       simp only [Bool.and_eq_true, decide_eq_true_eq] at h3
       exact .inr (.inr ⟨hf, h3.1, h3.2.1, h3.2.2.1, h3.2.2.2⟩)
     · cases h3
theorem fit_iff (n : Nat) (v : Int) : qW (n : Int) v = true ↔ 0 ≤ v ∧ v < 2 ^ n := by
 unfold qW
 rw [Int.toNat_natCast]
 simp
theorem seg_body (s : Sm) (h : s.ok = true) : Seg (x8 s) (x9 s) (qD s) := by
 obtain ⟨-, hck, hc⟩ := s.of h
 have g := fun n v => (fit_iff n v).1
 rcases hc with ⟨hf, hl, hk, -, -⟩ | ⟨hf, hn, hw⟩ | ⟨hf, -, -⟩
 · simp only [zH, Bool.and_eq_true] at hl
   obtain ⟨l0, l1, l2, l3, l4⟩ := hl
   rcases hf with hf | hf | hf
   · rw [hf] at l0 hck
     have a := g 4 _ l0
     have b := g 3 _ hck
     simp only [x8, x9, qD, if_pos hf]
     exact seg53 _ _ (by omega) (by omega)
   · rw [hf] at l0 l1 l2 hck
     have b := g 7 _ hck
     have h1 : ¬ s.f = 1 := by omega
     simp only [x8, x9, qD, if_neg h1, if_pos hf]
     rcases hk with hk | hk
     · rw [hk] at l0 l1 l2
       have a := g 5 _ l0
       have c := g 0 _ l2
       have hk2 : ¬ s.h.k = 2 := by omega
       simp only [if_neg hk2, or4 s.mr (by omega)]
       exact (seg35 _ _ (by omega) (by omega)).app (Seg.nil.app (kA _ (by omega)))
     · rw [hk] at l0 l1 l2
       have a := g 5 _ l0
       have c := g 1 _ l2
       have d := g 16 _ l1
       simp only [if_pos hk, or4 s.mr (by omega)]
       exact (seg35 _ _ (by omega) (by omega)).app ((wA _ (by omega)).app (kA _ (by omega)))
   · rw [hf] at l0 l1 l2 l3 hck
     have b := g 8 _ hck
     have h1 : ¬ s.f = 1 := by omega
     have h2 : ¬ s.f = 2 := by omega
     simp only [x8, x9, qD, if_neg h1, if_neg h2, if_pos hf]
     rcases hk with hk | hk
     · rw [hk] at l0 l1 l2 l3
       have a := g 16 _ l0
       have c := g 0 _ l2
       have hk2 : ¬ s.h.k = 2 := by omega
       simp only [if_neg hk2, or192 s.mr (by omega), show wid 3 s.h.k 0 = 16 by rw [hk]; rfl]
       exact Seg.app (ws := [8, 16]) (vs := [192 + s.mr, s.n]) (Seg.app (ws := [8]) (vs := [192 + s.mr]) (kA _ (by omega)) (wA _ (by omega))) (Seg.nil.app (kA _ (by omega)))
     · rw [hk] at l0 l1 l2 l3
       have a := g 8 _ l0
       have c := g 1 _ l2
       have d := g 32 _ l1
       have e := g 16 _ l3
       simp only [if_pos hk, or192 s.mr (by omega), show wid 3 s.h.k 0 = 8 by rw [hk]; rfl]
       exact Seg.app (ws := [8, 8]) (vs := [192 + s.mr, s.n]) (Seg.app (ws := [8]) (vs := [192 + s.mr]) (kA _ (by omega)) (kA _ (by omega))) (Seg.app (ws := [32, 16]) (vs := [s.tm, s.id]) (Seg.app (ws := [32]) (vs := [s.tm]) (seg32 _ (by omega)) (wA _ (by omega))) (kA _ (by omega)))
 · have b : 0 ≤ s.ck ∧ s.ck < 256 := by
     rcases hf with hf | hf <;> (rw [hf] at hck; exact g 8 _ hck)
   simp only [xP, Bool.and_eq_true] at hw
   rcases hf with hf | hf
   · simp only [x8, x9, qD, if_neg (show ¬ s.f = 1 by omega), if_neg (show ¬ s.f = 2 by omega), if_neg (show ¬ s.f = 3 by omega), if_pos hf]
     exact (kA 208 (by decide)).app ((seg_dyn _ _ hw.1 hw.2.1).app (kA _ b))
   · simp only [x8, x9, qD, if_neg (show ¬ s.f = 1 by omega), if_neg (show ¬ s.f = 2 by omega), if_neg (show ¬ s.f = 3 by omega), if_neg (show ¬ s.f = 4 by omega), if_pos hf]
     exact (kA 209 (by decide)).app ((seg_stat _ hw.1).app ((seg_dyn _ _ hw.1 hw.2.1).app (kA _ b)))
 · simp only [x8, x9, qD, if_neg (show ¬ s.f = 1 by omega), if_neg (show ¬ s.f = 2 by omega), if_neg (show ¬ s.f = 3 by omega), if_neg (show ¬ s.f = 4 by omega), if_neg (show ¬ s.f = 5 by omega)]
   exact kA 210 (by decide)
open Go.RowKit
variable {G : Nat → AV}
theorem sum_eq (s : Sm) : kc s = if s.f = 4 ∨ s.f = 5 then s.h.ck else s.ud := by unfold kc; rfl
theorem sum_rng (s : Sm) (h : s.ok = true) : 0 ≤ kc s ∧ kc s < 65536 := by
 obtain ⟨-, -, hc⟩ := s.of h
 rw [sum_eq]
 rcases hc with ⟨hf, hl, -⟩ | ⟨hf, hn, hw⟩ | ⟨hf, hn, -⟩
 · rw [if_neg (by omega)]
   simp only [zH, Bool.and_eq_true] at hl
   exact (fit_iff 16 _).1 hl.2.2.2.2
 · rw [if_pos hf]
   simp only [xP, Bool.and_eq_true] at hw
   have := s.h.of hw.1
   omega
 · rw [if_neg (by omega)]
   simp only [jD, decide_eq_true_eq] at hn
   omega
theorem seg_pre (s : Sm) (h : s.ok = true) : Seg (kJ s) (kK s) (xq s) := by
 obtain ⟨h1, -⟩ := s.of h
 unfold kJ kK xq
 refine seg_if (fun hp => ?_) fun _ => Seg.nil
 rw [or224 _ (by omega)]
 exact kA _ (by omega)
theorem seg_enc (s : Sm) (h : s.ok = true) : Seg (wI s) (encV s) (hdL s) := by
 have hs := sum_rng s h
 exact (seg_pre s h).app ((seg_body s h).app (seg_if (fun _ => Seg.nil) fun _ => wA _ hs))
theorem head_eq (s : Sm) (h : s.ok = true) : headB s = hdL s := by
 have := (seg_enc s h).eq []
 rw [List.append_nil, bytesB_nil, List.append_nil] at this
 unfold headB
 exact this
theorem dy_len (h : Hd) (d : Dy) : (dyW h).length ≤ 12 ∧ (dyV h d).length ≤ 12 ∧ (stW h).length ≤ 6 ∧ (stV h).length ≤ 6 := by
 unfold dyW dyV stW stV
 by_cases hk : h.k = 2 <;> simp [hk]
theorem body_len (s : Sm) : (0 < (x8 s).length ∧ (x8 s).length ≤ 30) ∧ 0 < (x9 s).length ∧ (x9 s).length ≤ 30 := by
 have hd := dy_len s.h s.d
 unfold x8 x9
 by_cases hk : s.h.k = 2 <;> (repeat' split) <;> simp [hk] <;> omega
theorem pre_len (s : Sm) : (kJ s).length ≤ 1 ∧ (kK s).length ≤ 1 := by
 unfold kJ kK
 split <;> simp
theorem enc_len (s : Sm) : (wI s).length ≤ 40 := by
 have := body_len s
 have := pre_len s
 unfold wI
 simp only [List.length_append]
 split <;> simp <;> omega
theorem hd_len (s : Sm) (h : s.ok = true) : 0 < (hdL s).length ∧ (hdL s).length ≤ 1000 := by
 have hs := seg_enc s h
 have hb := (seg_body s h).sum
 have hw := body_len s
 have h1 := sumW_le (wI s) (fun i hi => (hs.fit i hi).1) (wI s).length (by omega)
 rw [List.take_of_length_le (by omega), hs.sum] at h1
 have := enc_len s
 refine ⟨?_, by omega⟩
 have : 0 < (qD s).length := by
   unfold qD
   (repeat' split) <;> simp
 simp [hdL]
 omega
def zu (s : Sm) : List UInt8 × Int := if s.ok then (hdL s ++ s.pl, 0) else ([], 1)
theorem qm (s : Sm) : LP Tryz.prog G 102 [s.av] [] (fun _ => (be (zu s), [])) := by
 have e : encP s = zu s := by
   unfold encP zu
   split
   · rename_i h; rw [head_eq s h]
   · rfl
 rw [← e]
 have hd := dy_len s.h s.d
 have hb := body_len s
 have hp := pre_len s
 refine enc_c s (fun h => ?_) (fun h => ?_) (fun h => (s.of h).1.2.2) (fun h => ?_) (by omega) (sum_eq s) (by simp only [List.length_append]; omega) (fun h => ?_) (fun h => ?_)
 · have hs := seg_enc s h
   have hl := hd_len s h
   have := pack_c (G := G) (wI s) (encV s) hs.len (by have := enc_len s; omega) (by rw [hs.sum]; omega) (by rw [hs.sum]; omega) hs.fit
   rw [hs.sum, show 8 * (hdL s).length / 8 = (hdL s).length by omega, ← head_eq s h, show qx (j6 (wI s) (encV s)) = headB s by unfold headB; rfl] at this
   exact this
 · rw [head_eq s h]; exact hd_len s h
 · obtain ⟨-, -, hc⟩ := s.of h
   rcases hc with ⟨hf, -⟩ | ⟨hf, -⟩ | ⟨hf, -⟩ <;> omega
 · simp [wI, encV, h]
 · simp [wI, encV, h]
open Go.RowKit
variable {G : Nat → AV}
@[simp] theorem putB_ln (n : Int) (k : Nat) : (qG n k).length = k := by
 induction k with
 | zero => simp [qG]
 | succ k ih => simp [qG, ih]
theorem CutL.adopt {P : Program} {N : Nat} {e : Env} {l : LS} (x sz : Nat) (t : TypeId) {c d : Code} {Q : Exit → Env → LS → Prop} (hx : e x = .nils) (h : ∀ q, CutL P G N c d Q (put e x (.vw q 0 0 sz)) ((q, ⟨t, []⟩) :: l)) : CutL P G N c d Q e l := ⟨SQ.adopt x sz t hx fun q => (h q).run⟩
theorem put2_c (l : List UInt8) (n : Int) (hl : l.length ≤ 1000) (p : Nm) : LP Tryz.prog G 92 [.vw p 0 l.length 1, iAV 2, iAV n] [(p, ⟨5, l.map bAV⟩)] (fun q => (.vw q 0 (l.length + 2) 1, [(q, ⟨5, (l ++ qG n 2).map bAV⟩)])) := by
 refine goW [] Tryz.func92 rfl ?_
 conv => whnf
 repeat' ((first | refine T.s ?_ | ((first | apply goB | apply AB.dec | apply AB.gen) <;> intro h <;> try (exfalso; omega)) | refine LQ.mk fun r => ?_ | (show SQ _ _ _ _ _ _ _; first | refine SQ.times 2 3 (by rfl) ?_ | refine AtL.step tQ [] ?_) | exact T.z | refine ⟨_, rfl, rfl, ?_⟩ | fail) <;> conv => whnf)
 all_goals (try dsimp only)
 refine RL.own r rfl ?_ ?_
 · (repeat first | refine goH ?_ | apply LH.here | apply LH.next); trivial
 · apply LB.cons
   (repeat first | refine goH ?_ | apply LH.here | apply LH.next)
   refine And.intro (congrArg (Pl.mk _) ?_) LB.nil
   simp only [qG, List.map_append, List.map_cons, List.map_nil, qT, List.append_assoc, List.cons_append, List.nil_append]
   rfl
theorem put1r_c (l : List UInt8) (n : Int) (hl : l.length ≤ 1000) (p : Nm) : LP Tryz.prog G 92 [.vw p 0 l.length 1, iAV 1, iAV n] [(p, ⟨5, l.map bAV⟩)] (fun q => (.vw q 0 (l.length + 1) 1, [(q, ⟨5, (l ++ qG n 1).map bAV⟩)])) := by
 refine goW [] Tryz.func92 rfl ?_
 conv => whnf
 repeat' ((first | refine T.s ?_ | ((first | apply goB | apply AB.dec | apply AB.gen) <;> intro h <;> try (exfalso; omega)) | refine LQ.mk fun r => ?_ | (show SQ _ _ _ _ _ _ _; first | refine SQ.times 2 2 (by rfl) ?_ | refine AtL.step tQ [] ?_) | exact T.z | refine ⟨_, rfl, rfl, ?_⟩ | fail) <;> conv => whnf)
 all_goals (try dsimp only)
 refine RL.own r rfl ?_ ?_
 · (repeat first | refine goH ?_ | apply LH.here | apply LH.next); trivial
 · apply LB.cons
   (repeat first | refine goH ?_ | apply LH.here | apply LH.next)
   refine And.intro (congrArg (Pl.mk _) ?_) LB.nil
   simp only [qG, List.map_append, List.map_cons, List.map_nil, qT, List.append_assoc, List.cons_append, List.nil_append]
   rfl
theorem LC.putk {k : Int} (kn : Nat) {q : Nm} {n : Nat} {x : Int} {l : LS} {K : AV → LS → Prop} (hs : ∀ (bs : List UInt8) (p : Nm), bs.length ≤ 1000 → LP Tryz.prog G 92 [.vw p 0 bs.length 1, .int .i64 k, .int .i64 x] [(p, ⟨5, bs.map bAV⟩)] (fun q => (.vw q 0 (bs.length + kn) 1, [(q, ⟨5, (bs ++ qG x kn).map bAV⟩)])))
   (h : LH l q fun c _ r => ∃ bs : List UInt8, c = ⟨5, bs.map bAV⟩ ∧ n = bs.length ∧ bs.length ≤ 1000 ∧ LQ fun q' => K (.vw q' 0 (bs.length + kn) 1) ((q', ⟨5, (bs ++ qG x kn).map bAV⟩) :: r)) : LC Tryz.prog G 92 [.vw q 0 n 1, .int .i64 k, .int .i64 x] l K := by
 obtain ⟨l1, c, l2, rfl, bs, rfl, rfl, h1, h2⟩ := h.ex
 refine LC.mk' (hs bs q h1) [] (LFs.refl _) ?_
 exact ⟨l1, _, l2, rfl, rfl, h2⟩
theorem AQ.appB {bs : List UInt8} {m : Nat} {x : Int} {K : List AV → Prop} (h : bs.length ≤ m) (k : K ((bs ++ [b8 x]).map bAV)) : AQ (List.take m (List.drop 0 (bs.map bAV)) ++ [.int .u8 (IntKind.u8.wrap x)]) K := AQ.app h (by rw [← qT]; simpa using k)
theorem AQ.appM {bs cs : List UInt8} {m : Nat} {xs : List AV} {K : List AV → Prop} (h : bs.length ≤ m) (hx : xs = cs.map bAV) (k : K ((bs ++ cs).map bAV)) : AQ (List.take m (List.drop 0 (bs.map bAV)) ++ xs) K := AQ.app h (by rw [hx]; simpa using k)
theorem b8_1 (a b : Int) : b8 (q7 .add .i64 (q7 .mul .i64 8 a) b) = b8 (8 * a + b) := by
 unfold b8
 simp only [q7, IntKind.wrap_i64]
 congr 2
 omega
theorem b8_2 (a b : Int) : b8 (q7 .add .i64 (q7 .add .i64 128 (q7 .mul .i64 32 a)) b) = b8 (32 * (4 + a) + b) := by
 unfold b8
 simp only [q7, IntKind.wrap_i64]
 congr 2
 omega
theorem b8_3 (c a : Int) : b8 (q7 .add .i64 c a) = b8 (c + a) := by
 unfold b8
 simp only [q7, IntKind.wrap_i64]
 congr 2
 omega
theorem b8_f (a b c : Int) : b8 (q7 .add .i64 (q7 .add .i64 (q7 .mul .i64 128 a) (q7 .mul .i64 32 b)) (q7 .mul .i64 16 c)) = b8 (128 * a + 32 * b + 16 * c) := by
 unfold b8
 simp only [q7, IntKind.wrap_i64]
 congr 2
 omega
theorem b8_g (a b c : Int) : b8 (q7 .add .i64 (q7 .add .i64 (q7 .add .i64 (q7 .mul .i64 128 a) (q7 .mul .i64 32 b)) (q7 .mul .i64 16 c)) 64) = b8 (128 * a + 64 + 32 * b + 16 * c) := by
 unfold b8
 simp only [q7, IntKind.wrap_i64]
 congr 2
 omega
theorem rdyn_c (s : Sm) (hk : s.h.k = 1 ∨ s.h.k = 2) (hck : 0 ≤ s.h.ck) : LP Tryz.prog G 93 [s.av] [] (fun _ => (bv (wK s.h s.d), [])) := by
 have w0 : wQ s.h.ck = if s.h.ck = 0 then 0 else 1 := by unfold wQ; split <;> split <;> omega
 refine goW [] Tryz.func93 rfl ?_
 conv => whnf
 repeat' ((first | (show LC _ _ _ _ _ _; refine LC.putk 2 (fun bs p hb => put2_c bs _ hb p) ?_; (repeat first | refine goH ?_ | apply LH.here | apply LH.next); refine ⟨_, rfl, (by first | exact rfl | (simp; done)), (by first | exact Nat.le_of_ble_eq_true rfl | (simp; omega) | (simp; done)), ?_⟩; conv => whnf) | (show LC _ _ _ _ _ _; refine LC.putk 4 (fun bs p hb => put4_c bs _ hb p) ?_; (repeat first | refine goH ?_ | apply LH.here | apply LH.next); refine ⟨_, rfl, (by first | exact rfl | (simp; done)), (by first | exact Nat.le_of_ble_eq_true rfl | (simp; omega) | (simp; done)), ?_⟩; conv => whnf) | exact Nm.b 0 | (show AQ _ _; first | (refine AQ.eq (show [_, _, _] = ([b8 _, b8 _, b8 _] : List UInt8).map bAV from (by simp only [List.map_cons, List.map_nil, qT]; rfl)) ?_) | (refine AQ.appB ?_ ?_; (focus (first | exact Nat.le_of_ble_eq_true rfl | (simp; done) | (simp; omega))))) | refine T.s ?_ | ((first | apply goB | apply AB.dec | apply AB.gen) <;> intro h <;> try (exfalso; omega)) | refine LQ.mk fun r => ?_ | (show SQ _ _ _ _ _ _ _; first | (apply goD tQ qb 9 [5, 3] [0, 1, 2, 4, 5, 3, 6, 7] [_] (by kernel_rfl)) | (refine goD tQ qb 9 [5, 3] [0, 1, 2, 4, 5, 3, 6, 7] [] (by kernel_rfl) ?_) | (apply goD tQ qb 10 [6, 3] [0, 1, 2, 4, 5, 6, 3, 7, 8] [_] (by kernel_rfl)) | (refine goD tQ qb 10 [6, 3] [0, 1, 2, 4, 5, 6, 3, 7, 8] [] (by kernel_rfl) ?_)) | exact T.z | refine ⟨_, rfl, rfl, ?_⟩ | fail) <;> try (show (_ : Prop); conv => whnf))
 all_goals (try dsimp only)
 all_goals
   refine RL.rowF (b := wK s.h s.d) (f := bAV) ?_
   (repeat first | refine goH ?_ | apply LH.here | apply LH.next)
   refine And.intro ?_ (And.intro ?_ ?_)
   · refine congrArg (List.map bAV) ?_
     simp only [wK, w0]
     first
       | (have hk2 : s.h.k = 2 := by omega
          simp [b8_f, b8_g, hk2, *]; done)
       | (have hk2 : ¬ s.h.k = 2 := by omega
          simp [b8_f, b8_g, hk2, *]; done)
   · simp only [wK]
     first
       | (have hk2 : s.h.k = 2 := by omega
          simp [hk2]; done)
       | (have hk2 : ¬ s.h.k = 2 := by omega
          simp [hk2]; done)
   · exact LB.nil
end Go.Proofs.YtkfpgdckdmlhkaaGreatDoor
