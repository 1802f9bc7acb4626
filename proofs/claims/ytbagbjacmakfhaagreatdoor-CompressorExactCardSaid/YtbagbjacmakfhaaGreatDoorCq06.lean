/-
  Contracts of the functions that the laws reach.
-/
import Derived.Test.YtbagbjacmakfhaaGreatDoorCq01
import Derived.Test.YtbagbjacmakfhaaGreatDoorCq02
import Derived.Test.YtbagbjacmakfhaaGreatDoorCq03
import Derived.Test.YtbagbjacmakfhaaGreatDoorCq04
import Derived.Test.YtbagbjacmakfhaaGreatDoorCq05
set_option maxHeartbeats 1000000
set_option linter.all false
namespace Go.Proofs.YtbagbjacmakfhaaGreatDoor
open Go.RowKit
variable {G : Nat → AV}
theorem put4_c (l : List UInt8) (n : Int) (hl : l.length ≤ 1000) (p : Nm) : LP Tryz.prog G 112 [.vw p 0 l.length 1, iAV 4, iAV n] [(p, ⟨5, l.map bAV⟩)] (fun q => (.vw q 0 (l.length + 4) 1, [(q, ⟨5, (l ++ qx n 4).map bAV⟩)])) := by
 refine goW [] Tryz.func112 rfl ?_
 conv => whnf
 repeat' ((first | refine T.s ?_ | ((first | apply goB | apply AB.dec | apply AB.gen) <;> intro h <;> try (exfalso; omega)) | refine LQ.mk fun r => ?_ | (show SQ _ _ _ _ _ _ _; first | refine SQ.times 2 5 (by rfl) ?_ | refine AtL.step tQ [] ?_) | exact T.z | refine ⟨_, rfl, rfl, ?_⟩ | fail) <;> conv => whnf)
 all_goals (try dsimp only)
 refine RL.own r rfl ?_ ?_
 · (repeat first | refine goH ?_ | apply LH.here | apply LH.next); trivial
 · apply LB.cons
   (repeat first | refine goH ?_ | apply LH.here | apply LH.next)
   refine And.intro (congrArg (Pl.mk _) ?_) LB.nil
   simp only [qx, List.map_append, List.map_cons, List.map_nil, qR, List.append_assoc, List.cons_append, List.nil_append]
   rfl
open Go.RowKit
def crcB (k p r b : Nat) : Nat := if r / 2 ^ (k - 1) = b then (2 * r) % 2 ^ k else ((2 * r) % 2 ^ k) ^^^ p
def xI (k p r c : Nat) : Nat → Nat
 | 0 => r
 | j + 1 => crcB k p (xI k p r c j) (c / 2 ^ (7 - j) % 2)
def j8 (k p : Nat) (r : Nat) : List UInt8 → Nat
 | [] => r
 | c :: l => j8 k p (xI k p r c.toNat 8) l
theorem crcL_app (k p : Nat) : ∀ (l m : List UInt8) (r : Nat), j8 k p r (l ++ m) = j8 k p (j8 k p r l) m
 | [], _, _ => rfl
 | c :: l, m, r => crcL_app k p l m _
theorem crcL_take (k p r : Nat) (l : List UInt8) (i : Nat) (h : i < l.length) : j8 k p r (l.take (i + 1)) = xI k p (j8 k p r (l.take i)) (l.getD i 0).toNat 8 := by
 rw [List.take_succ_eq_append_getElem h, crcL_app]
 simp [j8, List.getD_eq_getElem?_getD, h]
theorem crcB_lt {k p r b : Nat} (hp : p < 2 ^ k) : crcB k p r b < 2 ^ k := by
 have h : (2 * r) % 2 ^ k < 2 ^ k := Nat.mod_lt _ (Nat.pow_pos (by decide))
 unfold crcB
 split
 · exact h
 · exact Nat.xor_lt_two_pow h hp
theorem wU {k p r c : Nat} (hp : p < 2 ^ k) (hr : r < 2 ^ k) : ∀ j, xI k p r c j < 2 ^ k
 | 0 => hr
 | _ + 1 => crcB_lt hp
theorem kR {k p : Nat} (hp : p < 2 ^ k) : ∀ (l : List UInt8) {r : Nat}, r < 2 ^ k → j8 k p r l < 2 ^ k
 | [], _, h => h
 | _ :: l, _, h => kR hp l (wU hp h 8)
theorem crcN_zero (k p r c : Nat) : xI k p r c 0 = r := rfl
theorem kQ (k p r c j : Nat) : xI k p r c (j + 1) = crcB k p (xI k p r c j) (c / 2 ^ (7 - j) % 2) := rfl
theorem crcL_nil (k p r : Nat) : j8 k p r [] = r := rfl
attribute [irreducible] crcB xI j8
def xk (n : Int) : Int := if n = 3 then 3 else if n = 7 then 9 else if n = 8 then 7 else if n = 16 then 4129 else if n = 24 then 8801531 else 0
def crcS (n : Int) (l : List UInt8) : Int := (j8 n.toNat (xk n).toNat (2 ^ n.toNat - 1) l : Nat)
theorem crcS_eq (n : Int) (l : List UInt8) : (j8 n.toNat (xk n).toNat (2 ^ n.toNat - 1) l : Int) = crcS n l := rfl
attribute [irreducible] crcS
theorem vL (a b : Nat) (ha : a < 4294967296) (hb : b < 4294967296) : qu .xor .i64 (a : Int) (b : Int) = ((a ^^^ b : Nat) : Int) := by
 show IntKind.i64.wrap ((BitVec.ofInt 64 (a : Int) ^^^ BitVec.ofInt 64 (b : Int)).toNat : Int) = _
 have h : a ^^^ b < 2 ^ 32 := Nat.xor_lt_two_pow ha hb
 rw [BitVec.toNat_xor, BitVec.ofInt_natCast, BitVec.ofInt_natCast, BitVec.toNat_ofNat, BitVec.toNat_ofNat, Nat.mod_eq_of_lt (show a < 2 ^ 64 by omega), Nat.mod_eq_of_lt (show b < 2 ^ 64 by omega), IntKind.wrap_i64]
 omega
section
variable {n : Int} {R c j : Nat}
theorem top_e (hn : 1 ≤ n ∧ n ≤ 32) : (R : Int).fdiv (2 ^ min (q7 .sub .i64 n 1).toNat IntKind.i64.bits) = ((R / 2 ^ (n.toNat - 1) : Nat) : Int) := by
 have e : q7 .sub .i64 n 1 = n - 1 := by (exact T.num)
 rw [e, Int.fdiv_eq_ediv_of_nonneg _ (Int.le_of_lt (Int.pow_pos (by decide))), show min (n - 1).toNat IntKind.i64.bits = n.toNat - 1 by show min _ 64 = _; omega]
 simp
theorem shc_e (hc : c < 256) (hj : j < 8) : qu .and .i64 ((IntKind.i64.wrap (c : Int)).fdiv (2 ^ min (7 - (j : Int)).toNat IntKind.i64.bits)) 1 = ((c / 2 ^ (7 - j) % 2 : Nat) : Int) := by
 rw [show IntKind.i64.wrap (c : Int) = c by rw [IntKind.wrap_i64]; omega, Int.fdiv_eq_ediv_of_nonneg _ (Int.le_of_lt (Int.pow_pos (by decide))), show min (7 - (j : Int)).toNat IntKind.i64.bits = 7 - j by show min _ 64 = _; omega]
 refine (y6 _ 1 (by decide)).trans ?_
 simp
theorem xor_ne {a b : Nat} (ha : a < 2) (hb : b < 2) : a ^^^ b = 1 ↔ a ≠ b := by
 obtain rfl | rfl : a = 0 ∨ a = 1 := by omega
 · obtain rfl | rfl : b = 0 ∨ b = 1 := by omega
   · decide
   · decide
 · obtain rfl | rfl : b = 0 ∨ b = 1 := by omega
   · decide
   · decide
theorem shl_e (hn : 1 ≤ n ∧ n ≤ 24) (hR : R < 2 ^ n.toNat) : qu .and .i64 (IntKind.i64.wrap ((R : Int) * 2 ^ min (1 : Int).toNat IntKind.i64.bits)) (q7 .sub .i64 (IntKind.i64.wrap (1 * 2 ^ min n.toNat IntKind.i64.bits)) 1) = ((2 * R % 2 ^ n.toNat : Nat) : Int) := by
 have h := Nat.pow_le_pow_right (n := 2) (by decide) (show n.toNat ≤ 24 by omega)
 refine (low_e _ (by omega)).trans ?_
 rw [jh _ (by omega)]
 unfold lw
 rw [show (R : Int) * 2 ^ min (1 : Int).toNat IntKind.i64.bits = ((2 * R : Nat) : Int) by show (R : Int) * 2 ^ 1 = _; push_cast; omega]
 simp
theorem topx {p r : Nat} (hn : 1 ≤ n ∧ n ≤ 24) (hR : R < 2 ^ n.toNat) (hc : c < 256) (hj : j < 8) : qu .xor .i64 ((R : Int).fdiv (2 ^ min (q7 .sub .i64 n 1).toNat IntKind.i64.bits)) (qu .and .i64 ((IntKind.i64.wrap (c : Int)).fdiv (2 ^ min (7 - (j : Int)).toNat IntKind.i64.bits)) 1) = 1 ↔ R / 2 ^ (n.toNat - 1) ≠ c / 2 ^ (7 - j) % 2 := by
 have h1 : R / 2 ^ (n.toNat - 1) < 2 := by
   rw [Nat.div_lt_iff_lt_mul (Nat.pow_pos (by decide)), Nat.mul_comm, ← Nat.pow_succ, show (n.toNat - 1).succ = n.toNat by omega]
   exact hR
 have h2 : c / 2 ^ (7 - j) % 2 < 2 := Nat.mod_lt _ (by decide)
 rw [top_e (by omega), shc_e hc hj, vL _ _ (by omega) (by omega), ← xor_ne h1 h2]
 exact ⟨fun h => by exact_mod_cast h, fun h => by exact_mod_cast h⟩
theorem crc_t {p r : Nat} (hn : 1 ≤ n ∧ n ≤ 24) (hp : p < 2 ^ n.toNat) (hr : r < 2 ^ n.toNat) (hc : c < 256) (hj0 : (0 : Int) ≤ 7 - (j : Int))
   (h : qu .xor .i64 ((xI n.toNat p r c j : Int).fdiv (2 ^ min (q7 .sub .i64 n 1).toNat IntKind.i64.bits)) (qu .and .i64 ((IntKind.i64.wrap (c : Int)).fdiv (2 ^ min (7 - (j : Int)).toNat IntKind.i64.bits)) 1) = 1) :
   qu .xor .i64 (qu .and .i64 (IntKind.i64.wrap ((xI n.toNat p r c j : Int) * 2 ^ min (1 : Int).toNat IntKind.i64.bits)) (q7 .sub .i64 (IntKind.i64.wrap (1 * 2 ^ min n.toNat IntKind.i64.bits)) 1)) (p : Int) = ((xI n.toNat p r c (j + 1) : Nat) : Int) := by
 have hj : j < 8 := by omega
 have hR := wU (c := c) hp hr j
 have h24 := Nat.pow_le_pow_right (n := 2) (by decide) (show n.toNat ≤ 24 by omega)
 rw [topx (p := p) (r := r) hn hR hc hj] at h
 have h3 : 2 * xI n.toNat p r c j % 2 ^ n.toNat < 2 ^ n.toNat := Nat.mod_lt _ (Nat.pow_pos (by decide))
 rw [shl_e hn hR, vL _ _ (by omega) (by omega), kQ]
 unfold crcB
 rw [if_neg h]
theorem crc_f {p r : Nat} (hn : 1 ≤ n ∧ n ≤ 24) (hp : p < 2 ^ n.toNat) (hr : r < 2 ^ n.toNat) (hc : c < 256) (hj0 : (0 : Int) ≤ 7 - (j : Int))
   (h : ¬ qu .xor .i64 ((xI n.toNat p r c j : Int).fdiv (2 ^ min (q7 .sub .i64 n 1).toNat IntKind.i64.bits)) (qu .and .i64 ((IntKind.i64.wrap (c : Int)).fdiv (2 ^ min (7 - (j : Int)).toNat IntKind.i64.bits)) 1) = 1) :
   qu .and .i64 (IntKind.i64.wrap ((xI n.toNat p r c j : Int) * 2 ^ min (1 : Int).toNat IntKind.i64.bits)) (q7 .sub .i64 (IntKind.i64.wrap (1 * 2 ^ min n.toNat IntKind.i64.bits)) 1) = ((xI n.toNat p r c (j + 1) : Nat) : Int) := by
 have hj : j < 8 := by omega
 have hR := wU (c := c) hp hr j
 rw [topx (p := p) (r := r) hn hR hc hj] at h
 rw [shl_e hn hR, kQ]
 unfold crcB
 rw [if_pos (by omega)]
end
def qD (x : Int) : Int := if x ≤ 0 then 0 else (x - 1) % 65535 + 1
theorem foldR_small {x : Int} (h0 : 0 ≤ x) (h : x ≤ 65535) : qD x = x := by unfold qD; split <;> omega
theorem foldR_step {x : Int} (h : 65535 < x) : qD (x % 65536 + x / 65536) = qD x := by
 unfold qD
 rw [if_neg (by omega), if_neg (by omega)]
 omega
theorem xo (x : Int) : 0 ≤ qD x ∧ qD x ≤ 65535 := by unfold qD; split <;> omega
theorem foldR_add {x y : Int} (h0 : 0 ≤ x) (h : 0 ≤ y) : qD (qD x + y) = qD (x + y) := by
 unfold qD
 split
 · split <;> split <;> omega
 · split <;> split <;> omega
def z5 : List UInt8 → Int
 | [] => 0
 | [a] => 256 * (a.toNat : Int)
 | a :: b :: l => 256 * (a.toNat : Int) + (b.toNat : Int) + z5 l
theorem kE (l : List UInt8) : ∀ (j : Nat), 2 * j < l.length → z5 (l.take (2 * (j + 1))) = z5 (l.take (2 * j)) + (256 * ((l.getD (2 * j) 0).toNat : Int) + ((l.getD (2 * j + 1) 0).toNat : Int)) := by
 intro j
 induction j generalizing l with
 | zero =>
   intro h
   match l, h with
   | [a], _ => simp [z5]
   | a :: b :: l, _ => simp [z5]
 | succ j ih =>
   intro h
   match l, h with
   | a :: b :: l, h =>
     have h2 : 2 * j < l.length := by simp at h; omega
     have := ih l h2
     have e1 : List.take (2 * (j + 1 + 1)) (a :: b :: l) = a :: b :: List.take (2 * (j + 1)) l := rfl
     have e2 : List.take (2 * (j + 1)) (a :: b :: l) = a :: b :: List.take (2 * j) l := rfl
     have e3 : (a :: b :: l).getD (2 * (j + 1)) 0 = l.getD (2 * j) 0 := rfl
     have e4 : (a :: b :: l).getD (2 * (j + 1) + 1) 0 = l.getD (2 * j + 1) 0 := rfl
     rw [e1, e2, e3, e4]
     simp only [z5]
     omega
theorem xS (l : List UInt8) : ∀ n, l.length ≤ 2 * n → 0 ≤ z5 l ∧ z5 l ≤ 65535 * (n : Int) := by
 intro n
 induction n generalizing l with
 | zero => intro h; obtain rfl := List.eq_nil_of_length_eq_zero (by omega : l.length = 0); exact ⟨by decide, by decide⟩
 | succ n ih =>
   intro h
   match l, h with
   | [], _ => exact ⟨by decide, by simp only [z5]; omega⟩
   | [a], _ => have := a.toNat_lt; simp only [z5]; omega
   | a :: b :: l, h =>
     have h1 := a.toNat_lt
     have h2 := b.toNat_lt
     have := ih l (by simp at h; omega)
     simp only [z5]
     omega
theorem foldR_id {x : Int} (h : ¬ 65535 < x) (h0 : 0 ≤ x) : qD x = x := foldR_small h0 (by omega)
theorem wsum_nil : z5 [] = 0 := rfl
attribute [irreducible] z5 qD
def csR (l : List UInt8) : Int := 65535 - qD (z5 l)
def qy (h : Hd) : List UInt8 :=
 [69, b8 h.tos, 0, 0] ++ qx h.id 2 ++ [b8 (64 * h.fx), 0, b8 h.ttl, 17, 0, 0] ++ qx h.fr 4 ++ qx h.to 4 ++ qx h.fp 2 ++ qx h.tp 2 ++ [0, 0] ++ qx h.ck 2 ++
   (if h.k = 2 then [128, b8 (128 * h.mr + h.ty)] ++ qx h.sq 2 ++ qx h.tm 4 ++ qx h.sr 4 else [])
@[simp] theorem putBlen (n : Int) (k : Nat) : (qx n k).length = k := by
 induction k with
 | zero => rfl
 | succ k ih => simp [qx, ih]
theorem z8 (h : Hd) : (qy h).length = if h.k = 2 then 40 else 28 := by unfold qy; split <;> simp
def setW (l : List UInt8) (a : Nat) (xs : List UInt8) : List UInt8 := l.take a ++ xs ++ l.drop (a + xs.length)
theorem wj {l : List UInt8} {a : Nat} {xs : List UInt8} (h : a + xs.length ≤ l.length) : (setW l a xs).length = l.length := by simp [setW]; omega
def bld1 (h : Hd) (p : List UInt8) : List UInt8 := setW (setW (qy h ++ p) 2 (qx (((qy h).length + p.length : Nat) : Int) 2)) 24 (qx (((qy h).length + p.length : Nat) - 20) 2)
def bldL (h : Hd) (p : List UInt8) : List UInt8 := setW (bld1 h p) 10 (qx (csR ((bld1 h p).take 20)) 2)
def zp (h : Hd) (p : List UInt8) : List UInt8 × Int :=
 if h.ok = true then (if (qy h).length + p.length ≤ 1500 then (bldL h p, 0) else ([], 2)) else ([], 1)
def headO (h : Hd) : List UInt8 := if h.ok = true then qy h else []
theorem bld1_len (h : Hd) (p : List UInt8) : (bld1 h p).length = (qy h).length + p.length := by
 have h1 := z8 h
 have h2 : 28 ≤ (qy h).length := by rw [h1]; split <;> omega
 unfold bld1
 rw [wj, wj, List.length_append]
 · simp; omega
 · rw [wj] <;> simp <;> omega
theorem bldL_len (h : Hd) (p : List UInt8) : (bldL h p).length = (qy h).length + p.length := by
 have h1 := z8 h
 have h2 : 28 ≤ (qy h).length := by rw [h1]; split <;> omega
 unfold bldL
 rw [wj, bld1_len]
 rw [bld1_len]; simp; omega
open Go.RowKit
variable {G : Nat → AV}
structure Sm where
 cx : Int
 f : Int
 n : Int
 tm : Int
 mr : Int
 id : Int
 ud : Int
 h : Hd
 d : Dy
 ck : Int
 pl : List UInt8
@[reducible] def Sm.cs (s : Sm) : List AV := [iAV s.cx, iAV s.f, iAV s.n, iAV s.tm, iAV s.mr, iAV s.id, iAV s.ud, iAV s.h.k, iAV s.h.tos, iAV s.h.id, iAV s.h.fx, iAV s.h.ttl, iAV s.h.fr, iAV s.h.to, iAV s.h.fp, iAV s.h.tp, iAV s.h.ck, iAV s.h.mr, iAV s.h.ty, iAV s.h.sq, iAV s.h.tm, iAV s.h.sr, iAV s.d.st, iAV s.d.fo, iAV s.ck, bv s.pl]
@[reducible] def Sm.av (s : Sm) : AV := .agg s.cs
def cbR (f : Int) : Int := if f = 1 then 3 else if f = 2 then 7 else 8
theorem cbits_c8 (f : Int) : LP Tryz.prog G 104 [iAV f] [] (fun _ => (iAV (cbR f), [])) := by
 refine goW [] Tryz.func104 rfl ?_
 conv => whnf
 repeat' ((first | refine T.s ?_ | ((first | apply goB | apply AB.dec | apply AB.gen) <;> intro h <;> try (exfalso; omega)) | refine LQ.mk fun r => ?_ | exact T.z | fail) <;> conv => whnf)
 all_goals (try dsimp only)
 all_goals
   (show RL _ _ _; refine goR ?_)
   simp [cbR, iAV, *]
def wid (f k : Int) (i : Nat) : Int := (if f = 1 then [4, 0, 0, 0] else if f = 2 ∧ k = 2 then [5, 16, 1, 0] else if f = 2 then [5, 0, 0, 0] else if k = 2 then [8, 32, 1, 16] else [16, 0, 0, 0] : List Int).getD i 0
theorem widths_c (f k : Int) : LP Tryz.prog G 125 [iAV f, iAV k] [] (fun _ => (.agg [iAV (wid f k 0), iAV (wid f k 1), iAV (wid f k 2), iAV (wid f k 3)], [])) := by
 refine goW [] Tryz.func125 rfl ?_
 conv => whnf
 repeat' ((first | refine T.s ?_ | ((first | apply goB | apply AB.dec | apply AB.gen) <;> intro h <;> try (exfalso; omega)) | refine LQ.mk fun r => ?_ | exact T.z | fail) <;> conv => whnf)
 all_goals (try dsimp only)
 all_goals
   (show RL _ _ _; refine goR ?_)
   simp [wid, iAV, qo, *]
theorem nbits_c (f k : Int) : LP Tryz.prog G 85 [iAV f, iAV k] [] (fun _ => (iAV (wid f k 0), [])) := by
 refine goW [] Tryz.func85 rfl ?_
 conv => whnf
 repeat' ((first | (show LC _ _ _ _ _ _; first | refine LC.pure (widths_c _ _) ?_ | refine goE ?_) | refine T.s ?_ | ((first | apply goB | apply AB.dec | apply AB.gen) <;> intro h <;> try (exfalso; omega)) | refine LQ.mk fun r => ?_ | exact T.z | fail) <;> conv => whnf)
 all_goals (try dsimp only)
 (show RL _ _ _; refine goR ?_)
 rfl
def qO (n v : Int) : Bool := decide (0 ≤ v ∧ v < 2 ^ n.toNat)
theorem pow_w (n : Int) (h0 : 0 ≤ n) (h1 : n ≤ 32) : IntKind.i64.wrap (1 * 2 ^ min n.toNat IntKind.i64.bits) = 2 ^ n.toNat := by
 have e : min n.toNat IntKind.i64.bits = n.toNat := Nat.min_eq_left (by show n.toNat ≤ 64; omega)
 rw [e, Int.one_mul, IntKind.wrap_i64]
 have h2 : (2 : Int) ^ n.toNat ≤ 2 ^ 32 := by exact_mod_cast Nat.pow_le_pow_right (by decide) (show n.toNat ≤ 32 by omega)
 have h3 : (0 : Int) < 2 ^ n.toNat := Int.pow_pos (by decide)
 omega
theorem ffits_c (n v : Int) (h0 : 0 ≤ n) (h1 : n ≤ 32) : LP Tryz.prog G 124 [iAV n, iAV v] [] (fun _ => (.bool (qO n v), [])) := by
 have hw := pow_w n h0 h1
 refine goW [] Tryz.func124 rfl ?_
 conv => whnf
 repeat' ((first | refine T.s ?_ | ((first | apply goB | apply AB.dec | apply AB.gen) <;> intro h <;> try (exfalso; omega)) | refine LQ.mk fun r => ?_ | exact T.z | fail) <;> conv => whnf)
 all_goals (try dsimp only)
 all_goals
   (show RL _ _ _; refine goR ?_)
   refine congrArg AV.bool ?_
   rw [Bool.eq_iff_iff]
   simp_all [qO, qo] <;> (intros; omega)
attribute [irreducible] qO
def jy (s : Sm) : Bool := decide (s.n = 0 ∧ s.tm = 0 ∧ s.mr = 0 ∧ s.id = 0 ∧ s.ud = 0)
def hzR (h : Hd) (k : Int) : Bool := decide (h.k = k ∧ h.tos = 0 ∧ h.id = 0 ∧ h.fx = 0 ∧ h.ttl = 0 ∧ h.fr = 0 ∧ h.to = 0 ∧ h.fp = 0 ∧ h.tp = 0 ∧ h.ck = 0 ∧ h.mr = 0 ∧ h.ty = 0 ∧ h.sq = 0 ∧ h.tm = 0 ∧ h.sr = 0)
def szR (h : Hd) : Bool := decide (h.fr = 0 ∧ h.to = 0 ∧ h.fp = 0 ∧ h.tp = 0 ∧ h.sr = 0)
def dzR (d : Dy) : Bool := decide (d.st = 0 ∧ d.fo = 0)
def xF (s : Sm) : Bool := s.h.ok && (s.d.ok && (!(decide (s.h.k = 1) && !(dzR s.d)) && (decide (s.f = 5) || szR s.h)))
def zq (s : Sm) : Bool := qO (wid s.f s.h.k 0) s.n && (qO (wid s.f s.h.k 1) s.tm && (qO (wid s.f s.h.k 2) s.mr && (qO (wid s.f s.h.k 3) s.id && qO 16 s.ud)))
def kV (s : Sm) : Bool := decide (0 ≤ s.cx ∧ s.cx < 16 ∧ s.pl.length ≤ 1500) && qO (cbR s.f) s.ck
def Sm.ok (s : Sm) : Bool :=
 kV s && (if s.f = 1 ∨ s.f = 2 ∨ s.f = 3 then zq s && (decide (s.h.k = 1 ∨ s.h.k = 2) && (hzR s.h s.h.k && dzR s.d))
   else if s.f = 4 ∨ s.f = 5 then jy s && xF s
   else if s.f = 6 then jy s && (decide (s.cx = 0 ∧ s.ck = 0) && (hzR s.h 0 && dzR s.d)) else false)
theorem wid_le (f k : Int) (i : Nat) : 0 ≤ wid f k i ∧ wid f k i ≤ 32 := by
 unfold wid
 rcases i with _ | _ | _ | _ | i <;> (repeat' split) <;> simp
theorem cbR_le (f : Int) : 0 ≤ cbR f ∧ cbR f ≤ 32 := by
 unfold cbR
 (repeat' split) <;> omega
theorem fwhole_c (s : Sm) : LP Tryz.prog G 126 [s.av] [] (fun _ => (.bool (xF s), [])) := by
 refine goW [] Tryz.func126 rfl ?_
 conv => whnf
 repeat' ((first | exact Nm.b 0 | (show LC _ _ _ _ _ _; first | refine LC.pure (zR s.h) ?_ | refine LC.pure (jA s.d) ?_ | refine LC.pure (fstatic_c s.h) ?_ | refine goE ?_) | refine T.s ?_ | ((first | apply goB | apply AB.dec | apply AB.gen) <;> intro h <;> try (exfalso; omega)) | refine LQ.mk fun r => ?_ | (show SQ _ _ _ _ _ _ _; first | (apply goD tQ qd 4 [7, 5] [0, 1, 2, 3, 4, 6, 7, 8, 5, 9, 10, 11] [_] (by kernel_rfl)) | (refine goD tQ qd 4 [7, 5] [0, 1, 2, 3, 4, 6, 7, 8, 5, 9, 10, 11] [] (by kernel_rfl) ?_)) | exact T.z | fail) <;> try (show (_ : Prop); conv => whnf))
 all_goals (try dsimp only)
 all_goals
   (show RL _ _ _; refine goR ?_)
   refine congrArg AV.bool ?_
   rw [Bool.eq_iff_iff]
   simp_all [xF, dzR, szR, qJ, qo, Hd.static]
end Go.Proofs.YtbagbjacmakfhaaGreatDoor
