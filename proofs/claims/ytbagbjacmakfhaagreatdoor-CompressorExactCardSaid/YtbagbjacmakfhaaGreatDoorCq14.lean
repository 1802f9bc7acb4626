/-
  Contracts of the functions that the laws reach.
-/
import Derived.Test.YtbagbjacmakfhaaGreatDoorCq01
import Derived.Test.YtbagbjacmakfhaaGreatDoorCq02
import Derived.Test.YtbagbjacmakfhaaGreatDoorCq03
import Derived.Test.YtbagbjacmakfhaaGreatDoorCq04
import Derived.Test.YtbagbjacmakfhaaGreatDoorCq05
import Derived.Test.YtbagbjacmakfhaaGreatDoorCq06
import Derived.Test.YtbagbjacmakfhaaGreatDoorCq07
import Derived.Test.YtbagbjacmakfhaaGreatDoorCq08
import Derived.Test.YtbagbjacmakfhaaGreatDoorCq09
import Derived.Test.YtbagbjacmakfhaaGreatDoorCq10
import Derived.Test.YtbagbjacmakfhaaGreatDoorCq12
import Derived.Test.YtbagbjacmakfhaaGreatDoorCq13
set_option maxHeartbeats 8000000
set_option linter.all false
namespace Go.Proofs.YtbagbjacmakfhaaGreatDoor
open Go.RowKit
section
variable {α : Type} {f : α → List AV} {n : Nat}
theorem qr (hf : ∀ x, (f x).length = n) : ∀ l : List α, (l.flatMap f).length = l.length * n
 | [] => by simp
 | x :: l => by rw [List.flatMap_cons, List.length_append, qr hf l, hf, List.length_cons, Nat.succ_mul, Nat.add_comm]
theorem kP (hf : ∀ x, (f x).length = n) : ∀ (l : List α) (i : Nat), (l.flatMap f).drop (i * n) = (l.drop i).flatMap f
 | _, 0 => by simp
 | [], i + 1 => by simp
 | x :: l, i + 1 => by
   rw [List.flatMap_cons, List.drop_append, hf, List.drop_of_length_le (by rw [hf, Nat.succ_mul]; omega), List.nil_append, show (i + 1) * n - n = i * n by rw [Nat.succ_mul]; omega, kP hf l i]
   rfl
theorem wS (hf : ∀ x, (f x).length = n) : ∀ (l : List α) (i : Nat), (l.flatMap f).take (i * n) = (l.take i).flatMap f
 | _, 0 => by simp
 | [], i + 1 => by simp
 | x :: l, i + 1 => by
   rw [List.flatMap_cons, List.take_append, hf, List.take_of_length_le (by rw [hf, Nat.succ_mul]; omega), show (i + 1) * n - n = i * n by rw [Nat.succ_mul]; omega, wS hf l i]
   rfl
theorem drop_getD (l : List α) (i : Nat) (d : α) (h : i < l.length) : l.drop i = l.getD i d :: l.drop (i + 1) := by
 rw [List.drop_eq_getElem_cons h]
 simp [List.getD_eq_getElem?_getD, h]
theorem yK (hf : ∀ x, (f x).length = n) (l : List α) (i : Nat) (d : α) (h : i < l.length) : (l.flatMap f).drop (i * n) = f (l.getD i d) ++ (l.drop (i + 1)).flatMap f := by
 rw [kP hf, drop_getD l i d h, List.flatMap_cons]
theorem AC.recd {agg : Bool} {l : List α} {o m : Nat} {K : AV → Prop} (hf : ∀ x, (f x).length = n) (i : Nat) (d : α) (ho : o = i * n) (hm : m = n) (h : i < l.length) (k : K (mkv agg (f (l.getD i d)))) : AC agg (((l.flatMap f).drop o).take m) K := ⟨by
 subst ho hm
 rw [yK hf l i d h, List.take_append_of_le_length (by rw [hf]; omega), List.take_of_length_le (by rw [hf]; omega)]
 exact k⟩
theorem AC.fld {l : List α} {o m : Nat} {K : AV → Prop} (hf : ∀ x, (f x).length = n) (i j : Nat) (d : α) (v : AV) (ho : o = i * n + j) (hj : j + m ≤ n) (h : i < l.length) (hv : mkv false (((f (l.getD i d)).drop j).take m) = v) (k : K v) : AC false (((l.flatMap f).drop o).take m) K := ⟨by
 subst ho
 rw [← List.drop_drop, yK hf l i d h, List.drop_append_of_le_length (by rw [hf]; omega), List.take_append_of_le_length (by simp [hf]; omega), hv]
 exact k⟩
theorem yd (hf : ∀ x, (f x).length = n) (l : List α) (i j : Nat) (d y : α) (xs : List AV) (h : i < l.length) (hj : j + xs.length ≤ n) (hy : f y = ql (f (l.getD i d)) j xs) : ql (l.flatMap f) (i * n + j) xs = (l.set i y).flatMap f := by
 have h1 : (l.flatMap f).take (i * n + j) = (l.take i).flatMap f ++ (f (l.getD i d)).take j := by
   rw [List.take_add, wS hf, yK hf l i d h, List.take_append_of_le_length (by rw [hf]; omega)]
 have h2 : (l.flatMap f).drop (i * n + j + xs.length) = (f (l.getD i d)).drop (j + xs.length) ++ (l.drop (i + 1)).flatMap f := by
   rw [Nat.add_assoc, ← List.drop_drop, yK hf l i d h, List.drop_append_of_le_length (by rw [hf]; omega)]
 unfold ql at hy ⊢
 rw [h1, h2, List.set_eq_take_append_cons_drop, if_pos h, List.flatMap_append, List.flatMap_cons, hy]
 simp [List.append_assoc]
end
theorem yN {A B : List AV} {o k : Nat} (h : o = A.length) : (A ++ B).drop (o + k) = B.drop k := by subst h; rw [List.drop_append]; simp
theorem kY {A B xs : List AV} {o k : Nat} (h : o = A.length) : ql (A ++ B) (o + k) xs = A ++ ql B k xs := by
 subst h
 unfold ql
 rw [List.take_append, List.take_of_length_le (by omega), Nat.add_assoc, List.drop_append, List.drop_of_length_le (by omega)]
 simp [List.append_assoc]
theorem AC.behind {agg : Bool} {A B : List AV} {o k m : Nat} {K : AV → Prop} (h : o = A.length) (g : AC agg ((B.drop k).take m) K) : AC agg (((A ++ B).drop (o + k)).take m) K := ⟨by rw [yN h]; exact g.go⟩
theorem AQ.behind {A B xs : List AV} {o k : Nat} {K : List AV → Prop} (h : o = A.length) (g : AQ (ql B k xs) fun cs => K (A ++ cs)) : AQ (ql (A ++ B) (o + k) xs) K := ⟨by rw [kY h]; exact g.go⟩
open Go.RowKit
structure Rc where
 st : Int
 la : Hd
 dy : Dy
 er : Int
 deriving DecidableEq
@[reducible] def Hd.cs (h : Hd) : List AV := [iAV h.k, iAV h.tos, iAV h.id, iAV h.fx, iAV h.ttl, iAV h.fr, iAV h.to, iAV h.fp, iAV h.tp, iAV h.ck, iAV h.mr, iAV h.ty, iAV h.sq, iAV h.tm, iAV h.sr]
@[reducible] def Rc.cs (r : Rc) : List AV := [iAV r.st, iAV r.la.k, iAV r.la.tos, iAV r.la.id, iAV r.la.fx, iAV r.la.ttl, iAV r.la.fr, iAV r.la.to, iAV r.la.fp, iAV r.la.tp, iAV r.la.ck, iAV r.la.mr, iAV r.la.ty, iAV r.la.sq, iAV r.la.tm, iAV r.la.sr, iAV r.dy.st, iAV r.dy.fo, iAV r.er]
theorem Rc.cs_len (r : Rc) : r.cs.length = 19 := rfl
@[reducible] def Rc.av (r : Rc) : AV := .agg r.cs
def Rc.z : Rc := ⟨0, Hd.z, Dy.z, 0⟩
def rcv (l : List Rc) : AV := .sl l.length (l.flatMap Rc.cs)
structure De where
 m : Int
 cx : List Rc
@[reducible] def De.av (d : De) : AV := .agg [iAV d.m, rcv d.cx]
def De.z : De := ⟨0, []⟩
def Rc.ok (r : Rc) : Bool := decide (0 ≤ r.er ∧ r.er < 3) && (if r.st = 0 then decide (r.la = Hd.z ∧ r.dy = Dy.z) else if r.st = 1 ∨ r.st = 2 then r.la.ok && (r.dy.ok && decide (r.la.k = 2 ∨ r.dy = Dy.z)) else false)
def modeR (m : Int) : Bool := decide (1 ≤ m ∧ m ≤ 3)
def De.ok (d : De) : Bool := modeR d.m && (decide (d.cx.length = 16) && d.cx.all Rc.ok)
structure Fb where
 c : Int
 k : Int
 n : Int
@[reducible] def Fb.cs (x : Fb) : List AV := [iAV x.c, iAV x.k, iAV x.n]
def ky (f : Int) (h : Hd) : Int := crcS (cbR f) (headO h)
def De.set (d : De) (c : Int) (r : Rc) : De := ⟨d.m, d.cx.set c.toNat r⟩
open Go.RowKit
variable {G : Nat → AV}
theorem mput2_c (l : List UInt8) (n : Nat) (x : Int) (hl : l.length = n) (hn : n ≤ 100000) (p : Nm) : LP Tryz.prog G 70 [.vw p 0 n 1, iAV 2, iAV x] [(p, ⟨5, l.map bAV⟩)] (fun q => (.vw q 0 (n + 2) 1, [(q, ⟨5, (l ++ qx x 2).map bAV⟩)])) := by
 subst hl
 refine goW [] Tryz.func70 rfl ?_
 conv => whnf
 repeat' ((first | refine T.s ?_ | ((first | apply goB | apply AB.dec | apply AB.gen) <;> intro h <;> try (exfalso; omega)) | refine LQ.mk fun r => ?_ | (show SQ _ _ _ _ _ _ _; first | refine SQ.times 2 3 (by rfl) ?_ | refine AtL.step tQ [] ?_) | exact T.z | refine ⟨_, rfl, rfl, ?_⟩ | fail) <;> conv => whnf)
 all_goals (try dsimp only)
 all_goals
   refine RL.own r rfl ?_ ?_
   · (repeat first | refine goH ?_ | apply LH.here | apply LH.next); trivial
   · apply LB.cons
     (repeat first | refine goH ?_ | apply LH.here | apply LH.next)
     refine And.intro (congrArg (Pl.mk _) ?_) LB.nil
     simp only [qx, List.map_append, List.map_cons, List.map_nil, qR, List.append_assoc, List.cons_append, List.nil_append]
     rfl
theorem mput4_c (l : List UInt8) (n : Nat) (x : Int) (hl : l.length = n) (hn : n ≤ 100000) (p : Nm) : LP Tryz.prog G 70 [.vw p 0 n 1, iAV 4, iAV x] [(p, ⟨5, l.map bAV⟩)] (fun q => (.vw q 0 (n + 4) 1, [(q, ⟨5, (l ++ qx x 4).map bAV⟩)])) := by
 subst hl
 refine goW [] Tryz.func70 rfl ?_
 conv => whnf
 repeat' ((first | refine T.s ?_ | ((first | apply goB | apply AB.dec | apply AB.gen) <;> intro h <;> try (exfalso; omega)) | refine LQ.mk fun r => ?_ | (show SQ _ _ _ _ _ _ _; first | refine SQ.times 2 5 (by rfl) ?_ | refine AtL.step tQ [] ?_) | exact T.z | refine ⟨_, rfl, rfl, ?_⟩ | fail) <;> conv => whnf)
 all_goals (try dsimp only)
 all_goals
   refine RL.own r rfl ?_ ?_
   · (repeat first | refine goH ?_ | apply LH.here | apply LH.next); trivial
   · apply LB.cons
     (repeat first | refine goH ?_ | apply LH.here | apply LH.next)
     refine And.intro (congrArg (Pl.mk _) ?_) LB.nil
     simp only [qx, List.map_append, List.map_cons, List.map_nil, qR, List.append_assoc, List.cons_append, List.nil_append]
     rfl
theorem LC.mput2 {l : LS} {K : AV → LS → Prop} {p : Nm} {n : Nat} {x : Int} (hn : n ≤ 100000) (h : LH l p fun c _ rest => ∃ L : List UInt8, c = ⟨5, L.map bAV⟩ ∧ L.length = n ∧ LQ fun q => K (.vw q 0 (n + 2) 1) ((q, ⟨5, (L ++ qx x 2).map bAV⟩) :: rest)) : LC Tryz.prog G 70 [.vw p 0 n 1, .int .i64 2, .int .i64 x] l K := by
 obtain ⟨l1, c, l2, rfl, L, rfl, h1, h2⟩ := h.ex
 exact LC.take (mput2_c L n x h1 hn p) ⟨l1, _, l2, rfl, rfl, h2⟩
theorem LC.mput4 {l : LS} {K : AV → LS → Prop} {p : Nm} {n : Nat} {x : Int} (hn : n ≤ 100000) (h : LH l p fun c _ rest => ∃ L : List UInt8, c = ⟨5, L.map bAV⟩ ∧ L.length = n ∧ LQ fun q => K (.vw q 0 (n + 4) 1) ((q, ⟨5, (L ++ qx x 4).map bAV⟩) :: rest)) : LC Tryz.prog G 70 [.vw p 0 n 1, .int .i64 4, .int .i64 x] l K := by
 obtain ⟨l1, c, l2, rfl, L, rfl, h1, h2⟩ := h.ex
 exact LC.take (mput4_c L n x h1 hn p) ⟨l1, _, l2, rfl, rfl, h2⟩
def jN (h : Hd) (n : Int) : List UInt8 := [69, b8 h.tos] ++ qx n 2 ++ qx h.id 2 ++ [b8 (q7 .mul .i64 64 h.fx), 0, b8 h.ttl, 17, 0, 0] ++ qx h.fr 4 ++ qx h.to 4
theorem vG (h : Hd) (n : Int) : (jN h n).length = 20 := by simp [jN]
def pkT (h : Hd) : List UInt8 := if h.k = 2 then [128, b8 (q7 .add .i64 (q7 .mul .i64 128 h.mr) h.ty)] ++ qx h.sq 2 ++ qx h.tm 4 ++ qx h.sr 4 else []
def pkN (h : Hd) (pl : List UInt8) : Int := if h.k = 2 then q7 .add .i64 40 pl.length else q7 .add .i64 28 pl.length
def xH (h : Hd) (pl : List UInt8) : List UInt8 :=
 st2 (jN h (pkN h pl)) 10 (csR (jN h (pkN h pl))) ++ qx h.fp 2 ++ qx h.tp 2 ++ qx (q7 .sub .i64 (pkN h pl) 20) 2 ++ qx h.ck 2 ++ pkT h ++ pl
theorem pk_a (t : Int) : [AV.int .u8 69, AV.int .u8 (IntKind.u8.wrap t)] = ([69, b8 t] : List UInt8).map bAV := by
 simp only [List.map_cons, List.map_nil, qR]; rfl
theorem pk_b {L : List UInt8} {n : Nat} (f t : Int) (h : L.length = n) : List.take n (List.drop 0 (L.map bAV)) ++ [AV.int .u8 (IntKind.u8.wrap f), AV.int .u8 0, AV.int .u8 (IntKind.u8.wrap t), AV.int .u8 17, AV.int .u8 0, AV.int .u8 0] = (L ++ [b8 f, 0, b8 t, 17, 0, 0]).map bAV := by
 rw [List.drop_zero, List.take_of_length_le (by simp; omega), List.map_append, ← head_mid]
theorem pk_c {L : List UInt8} {n : Nat} (t : Int) (h : L.length = n) : List.take n (List.drop 0 (L.map bAV)) ++ [AV.int .u8 128, AV.int .u8 (IntKind.u8.wrap t)] = (L ++ [128, b8 t]).map bAV := by
 rw [List.drop_zero, List.take_of_length_le (by simp; omega), List.map_append, ← head_80]
theorem pk_add {c d : Nat} {X : Int} (hX : 0 ≤ X ∧ X ≤ 1000000000) (h : c < 256) (h2 : d < 256) : q7 .add .i64 X (q7 .add .i64 (q7 .mul .i64 256 (IntKind.i64.wrap (c : Int))) (IntKind.i64.wrap (d : Int))) = X + (256 * (c : Int) + (d : Int)) := by
 rw [show IntKind.i64.wrap (c : Int) = c by rw [IntKind.wrap_i64]; omega, show IntKind.i64.wrap (d : Int) = d by rw [IntKind.wrap_i64]; omega]
 have e : q7 .mul .i64 256 (c : Int) = 256 * (c : Int) := by show IntKind.i64.wrap _ = _; rw [IntKind.wrap_i64]; omega
 rw [e]
 (exact T.num)
theorem pk_step {L : List UInt8} (hL : L.length = 20) {j : Nat} (h : 2 * j < 20) : q7 .add .i64 (z5 (L.take (2 * j))) (q7 .add .i64 (q7 .mul .i64 256 (IntKind.i64.wrap ((L.getD (2 * j) 0).toNat : Int))) (IntKind.i64.wrap ((L.getD (2 * j + 1) 0).toNat : Int))) = z5 (L.take (2 * (j + 1))) := by
 have h1 := xS (L.take (2 * j)) 10 (by simp; omega)
 rw [pk_add (by omega) (UInt8.toNat_lt _) (UInt8.toNat_lt _), kE L j (by omega)]
theorem pk_set {L : List UInt8} {F : Int} (hF : 0 ≤ F ∧ F ≤ 65535) : (L.set 10 (b8 (IntKind.i64.wrap ((q7 .sub .i64 65535 F).tdiv 256)))).set 11 (b8 ((q7 .sub .i64 65535 F).tmod 256)) = st2 L 10 (65535 - F) := by
 have e : q7 .sub .i64 65535 F = 65535 - F := by (exact T.num)
 rw [e]
 exact rset_e L 10 (by omega)
theorem RL.bytes {b : List UInt8} {q : Nm} {n : Nat} {l : LS} (h : LH l q fun c _ _ => c.cs = b.map bAV ∧ n = b.length) : RL (fun _ => (bv b, [])) (.vw q 0 n 1) l := by
 obtain ⟨l1, c, l2, rfl, h1, h2⟩ := h.ex
 exact RL.rowF ⟨l1, c, l2, rfl, h1, h2, LB.nil⟩
theorem pk_i1 {j : Nat} (h : j ≤ 10) : 0 + (q7 .add .i64 ((2 * j : Nat) : Int) 1).toNat * 1 = 2 * j + 1 := by
 have e : q7 .add .i64 ((2 * j : Nat) : Int) 1 = ((2 * j + 1 : Nat) : Int) := by (exact T.num)
 rw [e]; omega
theorem pk_i0 (j : Nat) : 0 + ((2 * j : Nat) : Int).toNat * 1 = 2 * j := by omega
theorem pk_all {L : List UInt8} {j : Nat} (hL : L.length = 20) (h : ¬ ((2 * j : Nat) : Int) < 20) : qD (z5 (L.take (2 * j))) = qD (z5 L) := by
 rw [List.take_of_length_le (by omega)]
theorem pk_end {hd : Hd} {pl T : List UInt8} {N y : Int} (hN : pkN hd pl = N) (hT : pkT hd = T) (h1 : ¬ 65535 < y) (h0 : 0 ≤ y) (h : qD y = qD (z5 (jN hd N))) :
   (((jN hd N).set 10 (b8 (IntKind.i64.wrap ((q7 .sub .i64 65535 y).tdiv 256)))).set 11 (b8 ((q7 .sub .i64 65535 y).tmod 256))) ++ qx hd.fp 2 ++ qx hd.tp 2 ++ qx (q7 .sub .i64 N 20) 2 ++ qx hd.ck 2 ++ T ++ pl = xH hd pl := by
 have hy : y = qD (z5 (jN hd N)) := by rw [← h, foldR_id h1 h0]
 rw [pk_set (by omega), hy]
 unfold xH csR
 rw [hN, hT]
theorem pk_0 (L : List UInt8) : (0 : Int) = z5 (L.take (2 * 0)) := wsum_nil.symm
theorem mpacket_1 (hd : Hd) (pl : List UInt8) (hk : hd.k = 1) (hp : pl.length ≤ 100000) : LP Tryz.prog G 33 [hd.av, bv pl] [] (fun _ => (bv (xH hd pl), [])) := by
 have hL := vG hd (q7 .add .i64 28 pl.length)
 have hW := fun j => xS ((jN hd (q7 .add .i64 28 pl.length)).take (2 * j)) 10 (by rw [List.length_take, hL]; omega)
 refine goW [] Tryz.func33 rfl ?_
 conv => whnf
 repeat' ((first | (show LC _ _ _ _ _ _; refine LC.mput2 (by first | omega | (simp; omega)) ?_; (repeat first | refine goH ?_ | apply LH.here | apply LH.next); refine ⟨_, rfl, ?_, ?_⟩; (focus (first | (simp only [List.length_append, List.length_set, hL, putBlen, List.length_nil, List.length_cons]; done) | rfl | (simp; done) | (simp [hL]; done)))) | (show LC _ _ _ _ _ _; refine LC.mput4 (by first | omega | (simp; omega)) ?_; (repeat first | refine goH ?_ | apply LH.here | apply LH.next); refine ⟨_, rfl, ?_, ?_⟩; (focus (first | (simp only [List.length_append, List.length_set, hL, putBlen, List.length_nil, List.length_cons]; done) | rfl | (simp; done) | (simp [hL]; done)))) | exact Nm.b 0 | (show AC _ _ _; first | (refine AC.idx (2 * j + 1) 0 (pk_i1 (by omega)) ?_ ?_; (focus (rw [hL]; omega))) | (refine AC.idx (2 * j) 0 (pk_i0 j) ?_ ?_; (focus (rw [hL]; omega)))) | (show AQ _ _; first | (refine AQ.eq (pk_a _) ?_) | ((with_reducible show AQ (_ ++ [_, _, _, _, _, _]) _); refine AQ.eq (pk_b _ _ ?_) ?_; (focus rfl)) | ((with_reducible show AQ (_ ++ [_, _]) _); refine AQ.eq (pk_c _ ?_) ?_; (focus (first | (simp only [List.length_append, List.length_set, hL, putBlen, List.length_nil, List.length_cons]; done) | rfl)))) | refine T.s ?_ | ((first | apply goB | apply AB.dec | apply AB.gen) <;> intro h <;> try (exfalso; omega)) | refine LQ.mk fun r => ?_ | (show SQ _ _ _ (.loop _) _ _ _; first | (apply goO tQ [] 10 (S := Nat × Nm × Nm) [1, 6] (fun (j, b, q) => ⟨[(8, .int .i64 ((2 * j : Nat) : Int)), (7, .int .i64 (z5 ((jN hd (q7 .add .i64 28 pl.length)).take (2 * j)))), (2, .ptr b 0), (5, .vw q 0 20 1)], [(b, ⟨50, hd.cs⟩), (q, ⟨5, (jN hd (q7 .add .i64 28 pl.length)).map bAV⟩)], j ≤ 10, 10 - j⟩) ((0, _, _)) (by rfl); (focus (all_goals (try exact K205); done)); rintro ⟨j, b, q⟩ hok; (try dsimp only at hok)) | (apply goO tQ [] 13 (S := Int × Nm × Nm) [1, 6] (fun (y, b, q) => ⟨[(7, .int .i64 y), (2, .ptr b 0), (5, .vw q 0 20 1)], [(b, ⟨50, hd.cs⟩), (q, ⟨5, (jN hd (q7 .add .i64 28 pl.length)).map bAV⟩)], 0 ≤ y ∧ y ≤ 1000000000 ∧ qD y = qD (z5 (jN hd (q7 .add .i64 28 pl.length))), y.toNat⟩) ((z5 ((jN hd (q7 .add .i64 28 pl.length)).take (2 * j)), _, _)) (by rfl); (focus (all_goals (try exact K205); done)); rintro ⟨y, b, q⟩ ⟨hk, hk, hok⟩)) | (show SQ _ _ _ _ _ _ _; first | (apply goD tQ qd 5 [4, 2] [0, 1, 3, 4, 2, 5, 6] [_] (by kernel_rfl)) | (refine goD tQ qd 5 [4, 2] [0, 1, 3, 4, 2, 5, 6] [] (by kernel_rfl) ?_) | (apply goD tQ qd 7 [5, 3] [0, 1, 2, 4, 5, 3, 6, 7] [_] (by kernel_rfl)) | (refine goD tQ qd 7 [5, 3] [0, 1, 2, 4, 5, 3, 6, 7] [] (by kernel_rfl) ?_) | (refine goD tQ qd 12 [] [0, 1, 2, 3, 4, 5, 6, 7, 8, 9, 10, 11, 12, 13, 14, 15] [] (by kernel_rfl) ?_) | (apply goD tQ qd 16 [5, 3] [0, 1, 2, 4, 5, 3, 6, 7] [_] (by kernel_rfl)) | (refine goD tQ qd 16 [5, 3] [0, 1, 2, 4, 5, 3, 6, 7] [] (by kernel_rfl) ?_) | (apply goD tQ qd 17 [5, 3] [0, 1, 2, 4, 5, 3, 6, 7] [_] (by kernel_rfl)) | (refine goD tQ qd 17 [5, 3] [0, 1, 2, 4, 5, 3, 6, 7] [] (by kernel_rfl) ?_) | (apply goD tQ qd 20 [5, 8, 3, 6] [0, 1, 2, 4, 5, 7, 8, 3, 6, 9, 10] [_] (by kernel_rfl)) | (refine goD tQ qd 20 [5, 8, 3, 6] [0, 1, 2, 4, 5, 7, 8, 3, 6, 9, 10] [] (by kernel_rfl) ?_)) | (show AtL _ _ _ _ _ _ _ _ _ _; first | (apply AtL.mk' (id := 10) (S := Nat × Nm × Nm) ((j + 1, _, _)); all_goals (try exact K205); done) | (apply AtL.mk' (id := 13) (S := Int × Nm × Nm) ((fnx y, _, _)); all_goals (try exact K205); done) | (apply AtL.mk' (id := 10) (S := Nat × Nm × Nm) ((j + 1, _, _)); all_goals (try exact K205)) | (apply AtL.mk' (id := 13) (S := Int × Nm × Nm) ((fnx y, _, _)); all_goals (try exact K205))) | exact T.z | refine ⟨_, rfl, rfl, ?_⟩ | fail) <;> try (show (_ : Prop); conv => whnf))
 all_goals (try dsimp only)
 all_goals
   have hN : pkN hd pl = q7 .add .i64 28 pl.length := if_neg (by omega)
   have hT : pkT hd = _ := if_neg (by omega)
   rw [← pk_end (hd := hd) (pl := pl) hN hT (by assumption) (by assumption) (by assumption)]
   refine RL.bytes ?_
   (repeat first | refine goH ?_ | apply LH.here | apply LH.next)
   refine ⟨?_, ?_⟩
   · simp only [show 0 + Int.toNat 10 * 1 = 10 from rfl, show 0 + Int.toNat 11 * 1 = 11 from rfl, List.map_append, List.append_nil, List.append_assoc, List.map_cons, List.map_nil, List.cons_append, List.nil_append]
   · simp only [List.length_append, List.length_set, hL, putBlen, List.length_nil, List.length_cons, Nat.add_zero]
theorem mpacket_2 (hd : Hd) (pl : List UInt8) (hK : hd.k = 2) (hp : pl.length ≤ 100000) : LP Tryz.prog G 33 [hd.av, bv pl] [] (fun _ => (bv (xH hd pl), [])) := by
 have hL := vG hd (q7 .add .i64 40 pl.length)
 have hW := fun j => xS ((jN hd (q7 .add .i64 40 pl.length)).take (2 * j)) 10 (by rw [List.length_take, hL]; omega)
 refine goW [] Tryz.func33 rfl ?_
 conv => whnf
 repeat' ((first | (show LC _ _ _ _ _ _; refine LC.mput2 (by first | omega | (simp; omega)) ?_; (repeat first | refine goH ?_ | apply LH.here | apply LH.next); refine ⟨_, rfl, ?_, ?_⟩; (focus (first | (simp only [List.length_append, List.length_set, hL, putBlen, List.length_nil, List.length_cons]; done) | rfl | (simp; done) | (simp [hL]; done)))) | (show LC _ _ _ _ _ _; refine LC.mput4 (by first | omega | (simp; omega)) ?_; (repeat first | refine goH ?_ | apply LH.here | apply LH.next); refine ⟨_, rfl, ?_, ?_⟩; (focus (first | (simp only [List.length_append, List.length_set, hL, putBlen, List.length_nil, List.length_cons]; done) | rfl | (simp; done) | (simp [hL]; done)))) | exact Nm.b 0 | (show AC _ _ _; first | (refine AC.idx (2 * j + 1) 0 (pk_i1 (by omega)) ?_ ?_; (focus (rw [hL]; omega))) | (refine AC.idx (2 * j) 0 (pk_i0 j) ?_ ?_; (focus (rw [hL]; omega)))) | (show AQ _ _; first | (refine AQ.eq (pk_a _) ?_) | ((with_reducible show AQ (_ ++ [_, _, _, _, _, _]) _); refine AQ.eq (pk_b _ _ ?_) ?_; (focus rfl)) | ((with_reducible show AQ (_ ++ [_, _]) _); refine AQ.eq (pk_c _ ?_) ?_; (focus (first | (simp only [List.length_append, List.length_set, hL, putBlen, List.length_nil, List.length_cons]; done) | rfl)))) | refine T.s ?_ | ((first | apply goB | apply AB.dec | apply AB.gen) <;> intro h <;> try (exfalso; omega)) | refine LQ.mk fun r => ?_ | (show SQ _ _ _ (.loop _) _ _ _; first | (apply goO tQ [] 10 (S := Nat × Nm × Nm) [1, 6] (fun (j, b, q) => ⟨[(8, .int .i64 ((2 * j : Nat) : Int)), (7, .int .i64 (z5 ((jN hd (q7 .add .i64 40 pl.length)).take (2 * j)))), (2, .ptr b 0), (5, .vw q 0 20 1)], [(b, ⟨50, hd.cs⟩), (q, ⟨5, (jN hd (q7 .add .i64 40 pl.length)).map bAV⟩)], j ≤ 10, 10 - j⟩) ((0, _, _)) (by rfl); (focus (all_goals (try exact K205); done)); rintro ⟨j, b, q⟩ hok; (try dsimp only at hok)) | (apply goO tQ [] 13 (S := Int × Nm × Nm) [1, 6] (fun (y, b, q) => ⟨[(7, .int .i64 y), (2, .ptr b 0), (5, .vw q 0 20 1)], [(b, ⟨50, hd.cs⟩), (q, ⟨5, (jN hd (q7 .add .i64 40 pl.length)).map bAV⟩)], 0 ≤ y ∧ y ≤ 1000000000 ∧ qD y = qD (z5 (jN hd (q7 .add .i64 40 pl.length))), y.toNat⟩) ((z5 ((jN hd (q7 .add .i64 40 pl.length)).take (2 * j)), _, _)) (by rfl); (focus (all_goals (try exact K205); done)); rintro ⟨y, b, q⟩ ⟨hk, hk, hok⟩)) | (show SQ _ _ _ _ _ _ _; first | (apply goD tQ qd 5 [4, 2] [0, 1, 3, 4, 2, 5, 6] [_] (by kernel_rfl)) | (refine goD tQ qd 5 [4, 2] [0, 1, 3, 4, 2, 5, 6] [] (by kernel_rfl) ?_) | (apply goD tQ qd 7 [5, 3] [0, 1, 2, 4, 5, 3, 6, 7] [_] (by kernel_rfl)) | (refine goD tQ qd 7 [5, 3] [0, 1, 2, 4, 5, 3, 6, 7] [] (by kernel_rfl) ?_) | (refine goD tQ qd 12 [] [0, 1, 2, 3, 4, 5, 6, 7, 8, 9, 10, 11, 12, 13, 14, 15] [] (by kernel_rfl) ?_) | (apply goD tQ qd 16 [5, 3] [0, 1, 2, 4, 5, 3, 6, 7] [_] (by kernel_rfl)) | (refine goD tQ qd 16 [5, 3] [0, 1, 2, 4, 5, 3, 6, 7] [] (by kernel_rfl) ?_) | (apply goD tQ qd 17 [5, 3] [0, 1, 2, 4, 5, 3, 6, 7] [_] (by kernel_rfl)) | (refine goD tQ qd 17 [5, 3] [0, 1, 2, 4, 5, 3, 6, 7] [] (by kernel_rfl) ?_) | (apply goD tQ qd 20 [5, 8, 3, 6] [0, 1, 2, 4, 5, 7, 8, 3, 6, 9, 10] [_] (by kernel_rfl)) | (refine goD tQ qd 20 [5, 8, 3, 6] [0, 1, 2, 4, 5, 7, 8, 3, 6, 9, 10] [] (by kernel_rfl) ?_)) | (show AtL _ _ _ _ _ _ _ _ _ _; first | (apply AtL.mk' (id := 10) (S := Nat × Nm × Nm) ((j + 1, _, _)); all_goals (try exact K205); done) | (apply AtL.mk' (id := 13) (S := Int × Nm × Nm) ((fnx y, _, _)); all_goals (try exact K205); done) | (apply AtL.mk' (id := 10) (S := Nat × Nm × Nm) ((j + 1, _, _)); all_goals (try exact K205)) | (apply AtL.mk' (id := 13) (S := Int × Nm × Nm) ((fnx y, _, _)); all_goals (try exact K205))) | exact T.z | refine ⟨_, rfl, rfl, ?_⟩ | fail) <;> try (show (_ : Prop); conv => whnf))
 all_goals (try dsimp only)
 all_goals
   have hN : pkN hd pl = q7 .add .i64 40 pl.length := if_pos hK
   have hT : pkT hd = _ := if_pos hK
   rw [← pk_end (hd := hd) (pl := pl) hN hT (by assumption) (by assumption) (by assumption)]
   refine RL.bytes ?_
   (repeat first | refine goH ?_ | apply LH.here | apply LH.next)
   refine ⟨?_, ?_⟩
   · simp only [show 0 + Int.toNat 10 * 1 = 10 from rfl, show 0 + Int.toNat 11 * 1 = 11 from rfl, List.map_append, List.append_nil, List.append_assoc, List.map_cons, List.map_nil, List.cons_append, List.nil_append]
   · simp only [List.length_append, List.length_set, hL, putBlen, List.length_nil, List.length_cons, Nat.add_zero]
theorem yr (hd : Hd) (pl : List UInt8) (hk : hd.k = 1 ∨ hd.k = 2) (hp : pl.length ≤ 100000) : LP Tryz.prog G 33 [hd.av, bv pl] [] (fun _ => (bv (xH hd pl), [])) := by
 rcases hk with hk | hk
 · exact mpacket_1 hd pl hk hp
 · exact mpacket_2 hd pl hk hp
open Go.RowKit
variable {G : Nat → AV}
@[simp] theorem adv_adv (t : List Int) (a i j : Nat) : adv t (adv t a i) j = adv t a (i + j) := by
 induction j with
 | zero => rfl
 | succ j ih => exact congrArg (qe t) ih
def wordR (t : List Int) (a : Nat) (m : Int) : Int := if qi t a 4 = 0 then qi t (adv t a 1) 3 else if qi t a 4 = 1 then q7 .sub .i64 m (qi t (adv t a 1) 3) else qi t (adv t a 1) (q7 .add .i64 m 1)
theorem word_c (t : List Int) (a : Nat) (m : Int) (ht : t.length ≤ 400) (p : Nm) : LP Tryz.prog G 66 [.ptr p 0, iAV m] [(p, z4 t a)] (fun _ => (iAV (wordR t a m), [(p, z4 t (adv t a 2))])) := by
 refine goW [] Tryz.func66 rfl ?_
 conv => whnf
 repeat' ((first | (show LC _ _ _ _ _ _; first | (apply LC.upd (zZ t _ _ ht _); (repeat first | refine goH ?_ | apply LH.here | apply LH.next); refine ⟨rfl, ?_⟩) | refine goE ?_) | refine T.s ?_ | ((first | apply goB | apply AB.dec | apply AB.gen) <;> intro h <;> try (exfalso; omega)) | refine LQ.mk fun r => ?_ | exact T.z | fail) <;> conv => whnf)
 all_goals (try dsimp only)
 all_goals
   (show RL _ _ _; refine goR ?_)
   unfold wordR
   (repeat first | rw [if_pos (by first | assumption | omega)] | rw [if_neg (by first | assumption | omega)])
   rfl
attribute [irreducible] wordR
theorem xB (t : List Int) (a : Nat) (n : Int) : zG t a n = true ↔ qi t a n = q7 .sub .i64 n 1 := by simp [zG, qo]
def hckR (t : List Int) (a : Nat) : Int := if zG t (adv t a 5) 2 = true then q7 .add .i64 1 (qi t (adv t a 6) 65535) else 0
def yV (t : List Int) (a : Nat) : Nat := if zG t (adv t a 5) 2 = true then 7 else 6
def wa (fl : Int) : Int := q7 .add .i64 1 (xC fl 2)
def yv (t : List Int) (a : Nat) (fl : Int) : Hd :=
 { k := wa fl, tos := qi t a 2, ttl := q7 .add .i64 64 (qi t (adv t a 1) 2), fx := qi t (adv t a 2) 2, id := wordR t (adv t a 3) 65535, fr := 167772161, to := q7 .add .i64 167772162 (IntKind.i64.wrap (fl.tdiv 2)), fp := 5000, tp := q7 .add .i64 6000 fl,
   ck := hckR t a
   ty := if wa fl = 2 then 96 else 0
   sq := if wa fl = 2 then wordR t (adv t a (yV t a)) 65535 else 0
   tm := if wa fl = 2 then wordR t (adv t a (yV t a + 2)) 4294967295 else 0
   sr := if wa fl = 2 then q7 .add .i64 77 fl else 0
   mr := if wa fl = 2 then qi t (adv t a (yV t a + 4)) 2 else 0 }
def vN (t : List Int) (a : Nat) (fl : Int) : Nat := adv t a (yV t a + if wa fl = 2 then 5 else 0)
theorem yy (t : List Int) (a : Nat) (fl : Int) (ht : t.length ≤ 400) (p : Nm) : LP Tryz.prog G 28 [.ptr p 0, iAV fl] [(p, z4 t a)] (fun _ => ((yv t a fl).av, [(p, z4 t (vN t a fl))])) := by
 refine goW [] Tryz.func28 rfl ?_
 conv => whnf
 repeat' ((first | (show LC _ _ _ _ _ _; first | (apply LC.upd (zZ t _ _ ht _); (repeat first | refine goH ?_ | apply LH.here | apply LH.next); refine ⟨rfl, ?_⟩) | (apply LC.upd (vH t _ _ ht _); (repeat first | refine goH ?_ | apply LH.here | apply LH.next); refine ⟨rfl, ?_⟩) | (apply LC.upd (word_c t _ _ ht _); (repeat first | refine goH ?_ | apply LH.here | apply LH.next); refine ⟨rfl, ?_⟩) | refine LC.pure (mod_c _ _) ?_ | refine goE ?_) | refine T.s ?_ | ((first | apply goB | apply AB.dec | apply AB.gen) <;> intro h <;> try (exfalso; omega)) | refine LQ.mk fun r => ?_ | exact T.z | fail) <;> conv => whnf)
 all_goals (try dsimp only)
 all_goals (refine RL.val ?_ ?_; rotate_left; (focus ((repeat' first | exact LB.nil | (with_reducible exact LB.refl) | (apply LB.cons; (repeat first | refine goH ?_ | apply LH.here | apply LH.next); refine And.intro ?_ ?_; (focus (try (first | (with_reducible rfl) | (refine congrArg (Pl.mk _) ?_; (first | rfl | (simp; done))) | rfl | (with_reducible refine congrArg (Pl.mk _) ?_)))))))))
 all_goals rename_i h1
 all_goals first
   | (have ho : zG t (adv t a 5) 2 = true := (xB _ _ _).2 h1
      have hk : wa fl = 2 := h
      (first | (unfold vN yV; rewrite [if_pos ho, if_pos hk]; rfl) | (unfold yv hckR yV; simp only [if_pos ho, if_pos hk]; rfl)))
   | (have ho : zG t (adv t a 5) 2 = true := (xB _ _ _).2 h1
      have hk : ¬ wa fl = 2 := h
      (first | (unfold vN yV; rewrite [if_pos ho, if_neg hk]; rfl) | (unfold yv hckR yV; simp only [if_pos ho, if_neg hk]; rfl)))
   | (have ho : ¬ zG t (adv t a 5) 2 = true := fun hh => h1 ((xB _ _ _).1 hh)
      have hk : wa fl = 2 := h
      (first | (unfold vN yV; rewrite [if_neg ho, if_pos hk]; rfl) | (unfold yv hckR yV; simp only [if_neg ho, if_pos hk]; rfl)))
   | (have ho : ¬ zG t (adv t a 5) 2 = true := fun hh => h1 ((xB _ _ _).1 hh)
      have hk : ¬ wa fl = 2 := h
      (first | (unfold vN yV; rewrite [if_neg ho, if_neg hk]; rfl) | (unfold yv hckR yV; simp only [if_neg ho, if_neg hk]; rfl)))
   | trace_state
open Go.RowKit
variable {G : Nat → AV}
def foS (t : List Int) (a : Nat) (reg : Bool) : Int × Nat :=
 if reg = true then (1, a) else if zG t a 4 = true then (q7 .add .i64 1 (qi t (adv t a 1) 20), adv t a 2) else (1, adv t a 1)
def foI (h : Hd) (s : Int) : Hd := { h with id := xC (q7 .add .i64 h.id s) 65536 }
def foB (t : List Int) (a : Nat) (h : Hd) : Hd × Nat := if h.ck ≠ 0 then ({ h with ck := q7 .add .i64 1 (qi t a 65535) }, adv t a 1) else (h, a)
def foT (s : Int) (h : Hd) : Hd := if h.k = 2 then { h with sq := xC (q7 .add .i64 h.sq s) 65536, tm := xC (q7 .add .i64 h.tm (q7 .mul .i64 160 s)) 4294967296, mr := 0 } else h
def foX (t : List Int) (a : Nat) (h : Hd) : Hd × Nat :=
 if qi t a 14 = 0 then ({ h with tos := qi t (adv t a 1) 4 }, adv t a 2)
 else if qi t a 14 = 1 then ({ h with ttl := q7 .add .i64 60 (qi t (adv t a 1) 4) }, adv t a 2)
 else if qi t a 14 = 2 then (if h.k = 2 then { h with mr := 1 } else h, adv t a 1)
 else if qi t a 14 = 3 then (if h.k = 2 then ({ h with tm := xC (q7 .add .i64 h.tm (qi t (adv t a 1) 1048576)) 4294967296 }, adv t a 2) else (h, adv t a 1))
 else if qi t a 14 = 4 then (if h.k = 2 then ({ h with id := qi t (adv t a 1) 65536 }, adv t a 2) else (h, adv t a 1))
 else if qi t a 14 = 5 then (if h.k = 2 then ({ h with ty := q7 .add .i64 90 (qi t (adv t a 1) 10) }, adv t a 2) else (h, adv t a 1))
 else if qi t a 14 = 6 then (if h.ck = 0 then { h with ck := 5 } else { h with ck := 0 }, adv t a 1)
 else (h, adv t a 1)
def wR (t : List Int) (a : Nat) (h : Hd) (reg : Bool) : Hd × Nat :=
 if reg = true then (foT (foS t a reg).1 (foB t (foS t a reg).2 (foI h (foS t a reg).1)).1, (foB t (foS t a reg).2 (foI h (foS t a reg).1)).2)
 else foX t (foB t (foS t a reg).2 (foI h (foS t a reg).1)).2 (foT (foS t a reg).1 (foB t (foS t a reg).2 (foI h (foS t a reg).1)).1)
section
variable {t : List Int} {a a1 a2 : Nat} {h x y : Hd} {s : Int}
theorem jB (e : qi t a 4 = q7 .sub .i64 4 1) : (q7 .add .i64 1 (qi t (adv t a 1) 20), adv t a 2) = foS t a false := by
 unfold foS; rw [if_neg (by decide), if_pos ((xB _ _ _).2 e)]
theorem jC (e : ¬ qi t a 4 = q7 .sub .i64 4 1) : (1, adv t a 1) = foS t a false := by
 unfold foS; rw [if_neg (by decide), if_neg (fun k => e ((xB _ _ _).1 k))]
theorem zM (e : ¬ h.ck = 0) : (({ h with ck := q7 .add .i64 1 (qi t a 65535) } : Hd), adv t a 1) = foB t a h := by unfold foB; rw [if_pos e]
theorem zN (e : h.ck = 0) : (h, a) = foB t a h := by unfold foB; rw [if_neg (fun k => k e)]
theorem zK (e : h.k = 2) : ({ h with sq := xC (q7 .add .i64 h.sq s) 65536, tm := xC (q7 .add .i64 h.tm (q7 .mul .i64 160 s)) 4294967296, mr := 0 } : Hd) = foT s h := by unfold foT; rw [if_pos e]
theorem zL (e : ¬ h.k = 2) : h = foT s h := by unfold foT; rw [if_neg e]
theorem fol_t (e2 : (x, a2) = foB t a (foI h 1)) (e3 : y = foT 1 x) : wR t a h true = (y, a2) := by
 have e1 : foS t a true = (1, a) := rfl
 unfold wR
 rw [if_pos rfl, e1]
 simp only [← e2, e3]
theorem fol_f (e1 : (s, a1) = foS t a false) (e2 : (x, a2) = foB t a1 (foI h s)) (e3 : y = foT s x) : wR t a h false = foX t a2 y := by
 unfold wR
 rw [if_neg (by decide), ← e1]
 simp only [← e2, e3]
end
theorem follow_t (t : List Int) (a : Nat) (hd : Hd) (ht : t.length ≤ 400) (p : Nm) : LP Tryz.prog G 29 [.ptr p 0, hd.av, .bool true] [(p, z4 t a)] (fun _ => ((wR t a hd true).1.av, [(p, z4 t (wR t a hd true).2)])) := by
 refine goW [5, 7] Tryz.func29 rfl ?_
 conv => whnf
 repeat' ((first | exact Nm.b 0 | (show LC _ _ _ _ _ _; first | (apply LC.upd (zZ t _ _ ht _); (repeat first | refine goH ?_ | apply LH.here | apply LH.next); refine ⟨rfl, ?_⟩) | (apply LC.upd (vH t _ _ ht _); (repeat first | refine goH ?_ | apply LH.here | apply LH.next); refine ⟨rfl, ?_⟩) | refine LC.pure (mod_c _ _) ?_ | refine goE ?_) | refine T.s ?_ | ((first | apply goB | apply AB.dec | apply AB.gen) <;> intro h <;> try (exfalso; omega)) | refine LQ.mk fun r => ?_ | (show SQ _ _ _ _ _ _ _; first | (refine goD tQ qd 23 [1, 3] [0, 1, 2, 3, 4, 5, 6, 7] [] (by kernel_rfl) ?_)) | (show CutL _ _ _ _ _ _ _ _; first | (refine goK tQ [5, 7] 5 (S := Hd × Nat × Nm × Nm) [0, 2, 7] (fun (x, a2, b, o) => ⟨[(4, .ptr b 0), (6, .ptr o 0)], [(p, z4 t a2), (b, ⟨50, x.cs⟩), (o, ⟨50, Hd.cs ⟨0, 0, 0, 0, 0, 0, 0, 0, 0, 0, 0, 0, 0, 0, 0⟩⟩)], (x, a2) = foB t a (foI hd 1), 0⟩) ?_ ?_; (rintro ⟨x, a2, b, o⟩ hok; (try dsimp only at hok)); rotate_left) | (refine goK tQ [5, 7] 7 (S := Hd × Nm × Nm) [0, 2] (fun (y, b, o) => ⟨[(4, .ptr b 0), (6, .ptr o 0)], [(p, z4 t a2), (b, ⟨50, y.cs⟩), (o, ⟨50, Hd.cs ⟨0, 0, 0, 0, 0, 0, 0, 0, 0, 0, 0, 0, 0, 0, 0⟩⟩)], y = foT 1 x, 0⟩) ?_ ?_; (rintro ⟨y, b, o⟩ hok; (try dsimp only at hok)); rotate_left) | refine CutL.go tQ [5, 7] ?_) | (show AtC _ _ _ _ _ _ _ _; first | (apply AtC.mk' (id := 5) (S := Hd × Nat × Nm × Nm) ((foI hd 1, a, _, _)); (repeat' first | exact trivial | (refine And.intro ?_ ?_) | exact LB.nil | (with_reducible exact LB.refl) | (apply LB.cons; (repeat first | refine goH ?_ | apply LH.here | apply LH.next); refine And.intro ?_ ?_; (focus (try (first | (with_reducible rfl) | (refine congrArg (Pl.mk _) ?_; (first | rfl | (simp; done))) | rfl | (with_reducible refine congrArg (Pl.mk _) ?_))))) | assumption | (show (_, _) = foB _ _ _; first | exact zM (by assumption) | exact zN (by assumption)) | (show _ = foT _ _; first | exact zK (by assumption) | exact zL (by assumption)) | (first | (focus (apply Eq.trans; (conv => lhs; whnf); (conv => rhs; whnf); done)) | rfl | ((conv => lhs; whnf); first | rfl | (refine congrArg (AV.int _) ?_; (exact T.num)) | (refine congrArg AV.bool ?_; (exact T.num)) | (refine vwc ?_; first | (exact T.num) | (first | rfl | (simp; done))) | (refine qc ?_ ?_ <;> first | (exact T.num) | (first | rfl | (simp; done))) | (first | rfl | (simp; done)))) | (exact T.num) | (dsimp only; (exact T.num)) | (first | rfl | (simp; done))); done) | (apply AtC.mk' (id := 5) (S := Hd × Nat × Nm × Nm) (({ foI hd 1 with ck := q7 .add .i64 1 (qi t a 65535) }, adv t a 1, _, _)); (repeat' first | exact trivial | (refine And.intro ?_ ?_) | exact LB.nil | (with_reducible exact LB.refl) | (apply LB.cons; (repeat first | refine goH ?_ | apply LH.here | apply LH.next); refine And.intro ?_ ?_; (focus (try (first | (with_reducible rfl) | (refine congrArg (Pl.mk _) ?_; (first | rfl | (simp; done))) | rfl | (with_reducible refine congrArg (Pl.mk _) ?_))))) | assumption | (show (_, _) = foB _ _ _; first | exact zM (by assumption) | exact zN (by assumption)) | (show _ = foT _ _; first | exact zK (by assumption) | exact zL (by assumption)) | (first | (focus (apply Eq.trans; (conv => lhs; whnf); (conv => rhs; whnf); done)) | rfl | ((conv => lhs; whnf); first | rfl | (refine congrArg (AV.int _) ?_; (exact T.num)) | (refine congrArg AV.bool ?_; (exact T.num)) | (refine vwc ?_; first | (exact T.num) | (first | rfl | (simp; done))) | (refine qc ?_ ?_ <;> first | (exact T.num) | (first | rfl | (simp; done))) | (first | rfl | (simp; done)))) | (exact T.num) | (dsimp only; (exact T.num)) | (first | rfl | (simp; done))); done) | (apply AtC.mk' (id := 7) (S := Hd × Nm × Nm) ((x, _, _)); (repeat' first | exact trivial | (refine And.intro ?_ ?_) | exact LB.nil | (with_reducible exact LB.refl) | (apply LB.cons; (repeat first | refine goH ?_ | apply LH.here | apply LH.next); refine And.intro ?_ ?_; (focus (try (first | (with_reducible rfl) | (refine congrArg (Pl.mk _) ?_; (first | rfl | (simp; done))) | rfl | (with_reducible refine congrArg (Pl.mk _) ?_))))) | assumption | (show (_, _) = foB _ _ _; first | exact zM (by assumption) | exact zN (by assumption)) | (show _ = foT _ _; first | exact zK (by assumption) | exact zL (by assumption)) | (first | (focus (apply Eq.trans; (conv => lhs; whnf); (conv => rhs; whnf); done)) | rfl | ((conv => lhs; whnf); first | rfl | (refine congrArg (AV.int _) ?_; (exact T.num)) | (refine congrArg AV.bool ?_; (exact T.num)) | (refine vwc ?_; first | (exact T.num) | (first | rfl | (simp; done))) | (refine qc ?_ ?_ <;> first | (exact T.num) | (first | rfl | (simp; done))) | (first | rfl | (simp; done)))) | (exact T.num) | (dsimp only; (exact T.num)) | (first | rfl | (simp; done))); done) | (apply AtC.mk' (id := 7) (S := Hd × Nm × Nm) (({ x with sq := xC (q7 .add .i64 x.sq 1) 65536, tm := xC (q7 .add .i64 x.tm (q7 .mul .i64 160 1)) 4294967296, mr := 0 }, _, _)); (repeat' first | exact trivial | (refine And.intro ?_ ?_) | exact LB.nil | (with_reducible exact LB.refl) | (apply LB.cons; (repeat first | refine goH ?_ | apply LH.here | apply LH.next); refine And.intro ?_ ?_; (focus (try (first | (with_reducible rfl) | (refine congrArg (Pl.mk _) ?_; (first | rfl | (simp; done))) | rfl | (with_reducible refine congrArg (Pl.mk _) ?_))))) | assumption | (show (_, _) = foB _ _ _; first | exact zM (by assumption) | exact zN (by assumption)) | (show _ = foT _ _; first | exact zK (by assumption) | exact zL (by assumption)) | (first | (focus (apply Eq.trans; (conv => lhs; whnf); (conv => rhs; whnf); done)) | rfl | ((conv => lhs; whnf); first | rfl | (refine congrArg (AV.int _) ?_; (exact T.num)) | (refine congrArg AV.bool ?_; (exact T.num)) | (refine vwc ?_; first | (exact T.num) | (first | rfl | (simp; done))) | (refine qc ?_ ?_ <;> first | (exact T.num) | (first | rfl | (simp; done))) | (first | rfl | (simp; done)))) | (exact T.num) | (dsimp only; (exact T.num)) | (first | rfl | (simp; done))); done) | (apply AtC.mk' (id := 5) (S := Hd × Nat × Nm × Nm) ((foI hd 1, a, _, _)); (repeat' first | exact trivial | (refine And.intro ?_ ?_) | exact LB.nil | (with_reducible exact LB.refl) | (apply LB.cons; (repeat first | refine goH ?_ | apply LH.here | apply LH.next); refine And.intro ?_ ?_; (focus (try (first | (with_reducible rfl) | (refine congrArg (Pl.mk _) ?_; (first | rfl | (simp; done))) | rfl | (with_reducible refine congrArg (Pl.mk _) ?_))))) | assumption | (show (_, _) = foB _ _ _; first | exact zM (by assumption) | exact zN (by assumption)) | (show _ = foT _ _; first | exact zK (by assumption) | exact zL (by assumption)) | (first | (focus (apply Eq.trans; (conv => lhs; whnf); (conv => rhs; whnf); done)) | rfl | ((conv => lhs; whnf); first | rfl | (refine congrArg (AV.int _) ?_; (exact T.num)) | (refine congrArg AV.bool ?_; (exact T.num)) | (refine vwc ?_; first | (exact T.num) | (first | rfl | (simp; done))) | (refine qc ?_ ?_ <;> first | (exact T.num) | (first | rfl | (simp; done))) | (first | rfl | (simp; done)))) | (exact T.num) | (dsimp only; (exact T.num)) | (first | rfl | (simp; done)))) | (apply AtC.mk' (id := 5) (S := Hd × Nat × Nm × Nm) (({ foI hd 1 with ck := q7 .add .i64 1 (qi t a 65535) }, adv t a 1, _, _)); (repeat' first | exact trivial | (refine And.intro ?_ ?_) | exact LB.nil | (with_reducible exact LB.refl) | (apply LB.cons; (repeat first | refine goH ?_ | apply LH.here | apply LH.next); refine And.intro ?_ ?_; (focus (try (first | (with_reducible rfl) | (refine congrArg (Pl.mk _) ?_; (first | rfl | (simp; done))) | rfl | (with_reducible refine congrArg (Pl.mk _) ?_))))) | assumption | (show (_, _) = foB _ _ _; first | exact zM (by assumption) | exact zN (by assumption)) | (show _ = foT _ _; first | exact zK (by assumption) | exact zL (by assumption)) | (first | (focus (apply Eq.trans; (conv => lhs; whnf); (conv => rhs; whnf); done)) | rfl | ((conv => lhs; whnf); first | rfl | (refine congrArg (AV.int _) ?_; (exact T.num)) | (refine congrArg AV.bool ?_; (exact T.num)) | (refine vwc ?_; first | (exact T.num) | (first | rfl | (simp; done))) | (refine qc ?_ ?_ <;> first | (exact T.num) | (first | rfl | (simp; done))) | (first | rfl | (simp; done)))) | (exact T.num) | (dsimp only; (exact T.num)) | (first | rfl | (simp; done)))) | (apply AtC.mk' (id := 7) (S := Hd × Nm × Nm) ((x, _, _)); (repeat' first | exact trivial | (refine And.intro ?_ ?_) | exact LB.nil | (with_reducible exact LB.refl) | (apply LB.cons; (repeat first | refine goH ?_ | apply LH.here | apply LH.next); refine And.intro ?_ ?_; (focus (try (first | (with_reducible rfl) | (refine congrArg (Pl.mk _) ?_; (first | rfl | (simp; done))) | rfl | (with_reducible refine congrArg (Pl.mk _) ?_))))) | assumption | (show (_, _) = foB _ _ _; first | exact zM (by assumption) | exact zN (by assumption)) | (show _ = foT _ _; first | exact zK (by assumption) | exact zL (by assumption)) | (first | (focus (apply Eq.trans; (conv => lhs; whnf); (conv => rhs; whnf); done)) | rfl | ((conv => lhs; whnf); first | rfl | (refine congrArg (AV.int _) ?_; (exact T.num)) | (refine congrArg AV.bool ?_; (exact T.num)) | (refine vwc ?_; first | (exact T.num) | (first | rfl | (simp; done))) | (refine qc ?_ ?_ <;> first | (exact T.num) | (first | rfl | (simp; done))) | (first | rfl | (simp; done)))) | (exact T.num) | (dsimp only; (exact T.num)) | (first | rfl | (simp; done)))) | (apply AtC.mk' (id := 7) (S := Hd × Nm × Nm) (({ x with sq := xC (q7 .add .i64 x.sq 1) 65536, tm := xC (q7 .add .i64 x.tm (q7 .mul .i64 160 1)) 4294967296, mr := 0 }, _, _)); (repeat' first | exact trivial | (refine And.intro ?_ ?_) | exact LB.nil | (with_reducible exact LB.refl) | (apply LB.cons; (repeat first | refine goH ?_ | apply LH.here | apply LH.next); refine And.intro ?_ ?_; (focus (try (first | (with_reducible rfl) | (refine congrArg (Pl.mk _) ?_; (first | rfl | (simp; done))) | rfl | (with_reducible refine congrArg (Pl.mk _) ?_))))) | assumption | (show (_, _) = foB _ _ _; first | exact zM (by assumption) | exact zN (by assumption)) | (show _ = foT _ _; first | exact zK (by assumption) | exact zL (by assumption)) | (first | (focus (apply Eq.trans; (conv => lhs; whnf); (conv => rhs; whnf); done)) | rfl | ((conv => lhs; whnf); first | rfl | (refine congrArg (AV.int _) ?_; (exact T.num)) | (refine congrArg AV.bool ?_; (exact T.num)) | (refine vwc ?_; first | (exact T.num) | (first | rfl | (simp; done))) | (refine qc ?_ ?_ <;> first | (exact T.num) | (first | rfl | (simp; done))) | (first | rfl | (simp; done)))) | (exact T.num) | (dsimp only; (exact T.num)) | (first | rfl | (simp; done))))) | exact T.z | fail) <;> conv => whnf)
 all_goals (try dsimp only)
 all_goals
   rw [fol_t (x := x) (a2 := a2) (y := y) (by assumption) (by assumption)]
   (show RL _ _ _; refine goR ?_)
   rfl
theorem follow_f (t : List Int) (a : Nat) (hd : Hd) (ht : t.length ≤ 400) (p : Nm) : LP Tryz.prog G 29 [.ptr p 0, hd.av, .bool false] [(p, z4 t a)] (fun _ => ((wR t a hd false).1.av, [(p, z4 t (wR t a hd false).2)])) := by
 refine goW [2, 5, 7] Tryz.func29 rfl ?_
 conv => whnf
 repeat' ((first | exact Nm.b 0 | (show LC _ _ _ _ _ _; first | (apply LC.upd (zZ t _ _ ht _); (repeat first | refine goH ?_ | apply LH.here | apply LH.next); refine ⟨rfl, ?_⟩) | (apply LC.upd (vH t _ _ ht _); (repeat first | refine goH ?_ | apply LH.here | apply LH.next); refine ⟨rfl, ?_⟩) | refine LC.pure (mod_c _ _) ?_ | refine goE ?_) | refine T.s ?_ | ((first | apply goB | apply AB.dec | apply AB.gen) <;> intro h <;> try (exfalso; omega)) | refine LQ.mk fun r => ?_ | (show SQ _ _ _ _ _ _ _; first | refine gX 23 [1, 3] [0, 1, 2, 3, 4, 5, 6, 7] [p] ?_) | (show CutL _ _ _ _ _ _ _ _; first | (refine goK tQ [2, 5, 7] 2 (S := Int × Nat × Nm × Nm) [0, 2] (fun (s, a1, b, o) => ⟨[(7, .int .i64 s), (4, .ptr b 0), (6, .ptr o 0)], [(p, z4 t a1), (b, ⟨50, hd.cs⟩), (o, ⟨50, Hd.cs ⟨0, 0, 0, 0, 0, 0, 0, 0, 0, 0, 0, 0, 0, 0, 0⟩⟩)], (s, a1) = foS t a false, 0⟩) ?_ ?_; (rintro ⟨s, a1, b, o⟩ hok; (try dsimp only at hok)); rotate_left) | (refine goK tQ [2, 5, 7] 5 (S := Hd × Nat × Nm × Nm) [0, 2, 7] (fun (x, a2, b, o) => ⟨[(4, .ptr b 0), (6, .ptr o 0)], [(p, z4 t a2), (b, ⟨50, x.cs⟩), (o, ⟨50, Hd.cs ⟨0, 0, 0, 0, 0, 0, 0, 0, 0, 0, 0, 0, 0, 0, 0⟩⟩)], (x, a2) = foB t a1 (foI hd s), 0⟩) ?_ ?_; (rintro ⟨x, a2, b, o⟩ hok; (try dsimp only at hok)); rotate_left) | (refine goK tQ [2, 5, 7] 7 (S := Hd × Nm × Nm) [0, 2] (fun (y, b, o) => ⟨[(4, .ptr b 0), (6, .ptr o 0)], [(p, z4 t a2), (b, ⟨50, y.cs⟩), (o, ⟨50, Hd.cs ⟨0, 0, 0, 0, 0, 0, 0, 0, 0, 0, 0, 0, 0, 0, 0⟩⟩)], y = foT s x, 0⟩) ?_ ?_; (rintro ⟨y, b, o⟩ hok; (try dsimp only at hok)); rotate_left) | refine CutL.go tQ [2, 5, 7] ?_) | (show AtC _ _ _ _ _ _ _ _; first | (apply AtC.mk' (id := 2) (S := Int × Nat × Nm × Nm) ((1, adv t a 1, _, _)); (repeat' first | exact trivial | (refine And.intro ?_ ?_) | exact LB.nil | (with_reducible exact LB.refl) | (apply LB.cons; (repeat first | refine goH ?_ | apply LH.here | apply LH.next); refine And.intro ?_ ?_; (focus (try (first | (with_reducible rfl) | (refine congrArg (Pl.mk _) ?_; (first | rfl | (simp; done))) | rfl | (with_reducible refine congrArg (Pl.mk _) ?_))))) | assumption | (show (_, _) = foS _ _ _; first | exact jB (by assumption) | exact jC (by assumption)) | (show (_, _) = foB _ _ _; first | exact zM (by assumption) | exact zN (by assumption)) | (show _ = foT _ _; first | exact zK (by assumption) | exact zL (by assumption)) | (first | (focus (apply Eq.trans; (conv => lhs; whnf); (conv => rhs; whnf); done)) | rfl | ((conv => lhs; whnf); first | rfl | (refine congrArg (AV.int _) ?_; (exact T.num)) | (refine congrArg AV.bool ?_; (exact T.num)) | (refine vwc ?_; first | (exact T.num) | (first | rfl | (simp; done))) | (refine qc ?_ ?_ <;> first | (exact T.num) | (first | rfl | (simp; done))) | (first | rfl | (simp; done)))) | (exact T.num) | (dsimp only; (exact T.num)) | (first | rfl | (simp; done))); done) | (apply AtC.mk' (id := 2) (S := Int × Nat × Nm × Nm) ((q7 .add .i64 1 (qi t (adv t a 1) 20), adv t a 2, _, _)); (repeat' first | exact trivial | (refine And.intro ?_ ?_) | exact LB.nil | (with_reducible exact LB.refl) | (apply LB.cons; (repeat first | refine goH ?_ | apply LH.here | apply LH.next); refine And.intro ?_ ?_; (focus (try (first | (with_reducible rfl) | (refine congrArg (Pl.mk _) ?_; (first | rfl | (simp; done))) | rfl | (with_reducible refine congrArg (Pl.mk _) ?_))))) | assumption | (show (_, _) = foS _ _ _; first | exact jB (by assumption) | exact jC (by assumption)) | (show (_, _) = foB _ _ _; first | exact zM (by assumption) | exact zN (by assumption)) | (show _ = foT _ _; first | exact zK (by assumption) | exact zL (by assumption)) | (first | (focus (apply Eq.trans; (conv => lhs; whnf); (conv => rhs; whnf); done)) | rfl | ((conv => lhs; whnf); first | rfl | (refine congrArg (AV.int _) ?_; (exact T.num)) | (refine congrArg AV.bool ?_; (exact T.num)) | (refine vwc ?_; first | (exact T.num) | (first | rfl | (simp; done))) | (refine qc ?_ ?_ <;> first | (exact T.num) | (first | rfl | (simp; done))) | (first | rfl | (simp; done)))) | (exact T.num) | (dsimp only; (exact T.num)) | (first | rfl | (simp; done))); done) | (apply AtC.mk' (id := 5) (S := Hd × Nat × Nm × Nm) ((foI hd s, a1, _, _)); (repeat' first | exact trivial | (refine And.intro ?_ ?_) | exact LB.nil | (with_reducible exact LB.refl) | (apply LB.cons; (repeat first | refine goH ?_ | apply LH.here | apply LH.next); refine And.intro ?_ ?_; (focus (try (first | (with_reducible rfl) | (refine congrArg (Pl.mk _) ?_; (first | rfl | (simp; done))) | rfl | (with_reducible refine congrArg (Pl.mk _) ?_))))) | assumption | (show (_, _) = foS _ _ _; first | exact jB (by assumption) | exact jC (by assumption)) | (show (_, _) = foB _ _ _; first | exact zM (by assumption) | exact zN (by assumption)) | (show _ = foT _ _; first | exact zK (by assumption) | exact zL (by assumption)) | (first | (focus (apply Eq.trans; (conv => lhs; whnf); (conv => rhs; whnf); done)) | rfl | ((conv => lhs; whnf); first | rfl | (refine congrArg (AV.int _) ?_; (exact T.num)) | (refine congrArg AV.bool ?_; (exact T.num)) | (refine vwc ?_; first | (exact T.num) | (first | rfl | (simp; done))) | (refine qc ?_ ?_ <;> first | (exact T.num) | (first | rfl | (simp; done))) | (first | rfl | (simp; done)))) | (exact T.num) | (dsimp only; (exact T.num)) | (first | rfl | (simp; done))); done) | (apply AtC.mk' (id := 5) (S := Hd × Nat × Nm × Nm) (({ foI hd s with ck := q7 .add .i64 1 (qi t a1 65535) }, adv t a1 1, _, _)); (repeat' first | exact trivial | (refine And.intro ?_ ?_) | exact LB.nil | (with_reducible exact LB.refl) | (apply LB.cons; (repeat first | refine goH ?_ | apply LH.here | apply LH.next); refine And.intro ?_ ?_; (focus (try (first | (with_reducible rfl) | (refine congrArg (Pl.mk _) ?_; (first | rfl | (simp; done))) | rfl | (with_reducible refine congrArg (Pl.mk _) ?_))))) | assumption | (show (_, _) = foS _ _ _; first | exact jB (by assumption) | exact jC (by assumption)) | (show (_, _) = foB _ _ _; first | exact zM (by assumption) | exact zN (by assumption)) | (show _ = foT _ _; first | exact zK (by assumption) | exact zL (by assumption)) | (first | (focus (apply Eq.trans; (conv => lhs; whnf); (conv => rhs; whnf); done)) | rfl | ((conv => lhs; whnf); first | rfl | (refine congrArg (AV.int _) ?_; (exact T.num)) | (refine congrArg AV.bool ?_; (exact T.num)) | (refine vwc ?_; first | (exact T.num) | (first | rfl | (simp; done))) | (refine qc ?_ ?_ <;> first | (exact T.num) | (first | rfl | (simp; done))) | (first | rfl | (simp; done)))) | (exact T.num) | (dsimp only; (exact T.num)) | (first | rfl | (simp; done))); done) | (apply AtC.mk' (id := 7) (S := Hd × Nm × Nm) ((x, _, _)); (repeat' first | exact trivial | (refine And.intro ?_ ?_) | exact LB.nil | (with_reducible exact LB.refl) | (apply LB.cons; (repeat first | refine goH ?_ | apply LH.here | apply LH.next); refine And.intro ?_ ?_; (focus (try (first | (with_reducible rfl) | (refine congrArg (Pl.mk _) ?_; (first | rfl | (simp; done))) | rfl | (with_reducible refine congrArg (Pl.mk _) ?_))))) | assumption | (show (_, _) = foS _ _ _; first | exact jB (by assumption) | exact jC (by assumption)) | (show (_, _) = foB _ _ _; first | exact zM (by assumption) | exact zN (by assumption)) | (show _ = foT _ _; first | exact zK (by assumption) | exact zL (by assumption)) | (first | (focus (apply Eq.trans; (conv => lhs; whnf); (conv => rhs; whnf); done)) | rfl | ((conv => lhs; whnf); first | rfl | (refine congrArg (AV.int _) ?_; (exact T.num)) | (refine congrArg AV.bool ?_; (exact T.num)) | (refine vwc ?_; first | (exact T.num) | (first | rfl | (simp; done))) | (refine qc ?_ ?_ <;> first | (exact T.num) | (first | rfl | (simp; done))) | (first | rfl | (simp; done)))) | (exact T.num) | (dsimp only; (exact T.num)) | (first | rfl | (simp; done))); done) | (apply AtC.mk' (id := 7) (S := Hd × Nm × Nm) (({ x with sq := xC (q7 .add .i64 x.sq s) 65536, tm := xC (q7 .add .i64 x.tm (q7 .mul .i64 160 s)) 4294967296, mr := 0 }, _, _)); (repeat' first | exact trivial | (refine And.intro ?_ ?_) | exact LB.nil | (with_reducible exact LB.refl) | (apply LB.cons; (repeat first | refine goH ?_ | apply LH.here | apply LH.next); refine And.intro ?_ ?_; (focus (try (first | (with_reducible rfl) | (refine congrArg (Pl.mk _) ?_; (first | rfl | (simp; done))) | rfl | (with_reducible refine congrArg (Pl.mk _) ?_))))) | assumption | (show (_, _) = foS _ _ _; first | exact jB (by assumption) | exact jC (by assumption)) | (show (_, _) = foB _ _ _; first | exact zM (by assumption) | exact zN (by assumption)) | (show _ = foT _ _; first | exact zK (by assumption) | exact zL (by assumption)) | (first | (focus (apply Eq.trans; (conv => lhs; whnf); (conv => rhs; whnf); done)) | rfl | ((conv => lhs; whnf); first | rfl | (refine congrArg (AV.int _) ?_; (exact T.num)) | (refine congrArg AV.bool ?_; (exact T.num)) | (refine vwc ?_; first | (exact T.num) | (first | rfl | (simp; done))) | (refine qc ?_ ?_ <;> first | (exact T.num) | (first | rfl | (simp; done))) | (first | rfl | (simp; done)))) | (exact T.num) | (dsimp only; (exact T.num)) | (first | rfl | (simp; done))); done) | (apply AtC.mk' (id := 2) (S := Int × Nat × Nm × Nm) ((1, adv t a 1, _, _)); (repeat' first | exact trivial | (refine And.intro ?_ ?_) | exact LB.nil | (with_reducible exact LB.refl) | (apply LB.cons; (repeat first | refine goH ?_ | apply LH.here | apply LH.next); refine And.intro ?_ ?_; (focus (try (first | (with_reducible rfl) | (refine congrArg (Pl.mk _) ?_; (first | rfl | (simp; done))) | rfl | (with_reducible refine congrArg (Pl.mk _) ?_))))) | assumption | (show (_, _) = foS _ _ _; first | exact jB (by assumption) | exact jC (by assumption)) | (show (_, _) = foB _ _ _; first | exact zM (by assumption) | exact zN (by assumption)) | (show _ = foT _ _; first | exact zK (by assumption) | exact zL (by assumption)) | (first | (focus (apply Eq.trans; (conv => lhs; whnf); (conv => rhs; whnf); done)) | rfl | ((conv => lhs; whnf); first | rfl | (refine congrArg (AV.int _) ?_; (exact T.num)) | (refine congrArg AV.bool ?_; (exact T.num)) | (refine vwc ?_; first | (exact T.num) | (first | rfl | (simp; done))) | (refine qc ?_ ?_ <;> first | (exact T.num) | (first | rfl | (simp; done))) | (first | rfl | (simp; done)))) | (exact T.num) | (dsimp only; (exact T.num)) | (first | rfl | (simp; done)))) | (apply AtC.mk' (id := 2) (S := Int × Nat × Nm × Nm) ((q7 .add .i64 1 (qi t (adv t a 1) 20), adv t a 2, _, _)); (repeat' first | exact trivial | (refine And.intro ?_ ?_) | exact LB.nil | (with_reducible exact LB.refl) | (apply LB.cons; (repeat first | refine goH ?_ | apply LH.here | apply LH.next); refine And.intro ?_ ?_; (focus (try (first | (with_reducible rfl) | (refine congrArg (Pl.mk _) ?_; (first | rfl | (simp; done))) | rfl | (with_reducible refine congrArg (Pl.mk _) ?_))))) | assumption | (show (_, _) = foS _ _ _; first | exact jB (by assumption) | exact jC (by assumption)) | (show (_, _) = foB _ _ _; first | exact zM (by assumption) | exact zN (by assumption)) | (show _ = foT _ _; first | exact zK (by assumption) | exact zL (by assumption)) | (first | (focus (apply Eq.trans; (conv => lhs; whnf); (conv => rhs; whnf); done)) | rfl | ((conv => lhs; whnf); first | rfl | (refine congrArg (AV.int _) ?_; (exact T.num)) | (refine congrArg AV.bool ?_; (exact T.num)) | (refine vwc ?_; first | (exact T.num) | (first | rfl | (simp; done))) | (refine qc ?_ ?_ <;> first | (exact T.num) | (first | rfl | (simp; done))) | (first | rfl | (simp; done)))) | (exact T.num) | (dsimp only; (exact T.num)) | (first | rfl | (simp; done)))) | (apply AtC.mk' (id := 5) (S := Hd × Nat × Nm × Nm) ((foI hd s, a1, _, _)); (repeat' first | exact trivial | (refine And.intro ?_ ?_) | exact LB.nil | (with_reducible exact LB.refl) | (apply LB.cons; (repeat first | refine goH ?_ | apply LH.here | apply LH.next); refine And.intro ?_ ?_; (focus (try (first | (with_reducible rfl) | (refine congrArg (Pl.mk _) ?_; (first | rfl | (simp; done))) | rfl | (with_reducible refine congrArg (Pl.mk _) ?_))))) | assumption | (show (_, _) = foS _ _ _; first | exact jB (by assumption) | exact jC (by assumption)) | (show (_, _) = foB _ _ _; first | exact zM (by assumption) | exact zN (by assumption)) | (show _ = foT _ _; first | exact zK (by assumption) | exact zL (by assumption)) | (first | (focus (apply Eq.trans; (conv => lhs; whnf); (conv => rhs; whnf); done)) | rfl | ((conv => lhs; whnf); first | rfl | (refine congrArg (AV.int _) ?_; (exact T.num)) | (refine congrArg AV.bool ?_; (exact T.num)) | (refine vwc ?_; first | (exact T.num) | (first | rfl | (simp; done))) | (refine qc ?_ ?_ <;> first | (exact T.num) | (first | rfl | (simp; done))) | (first | rfl | (simp; done)))) | (exact T.num) | (dsimp only; (exact T.num)) | (first | rfl | (simp; done)))) | (apply AtC.mk' (id := 5) (S := Hd × Nat × Nm × Nm) (({ foI hd s with ck := q7 .add .i64 1 (qi t a1 65535) }, adv t a1 1, _, _)); (repeat' first | exact trivial | (refine And.intro ?_ ?_) | exact LB.nil | (with_reducible exact LB.refl) | (apply LB.cons; (repeat first | refine goH ?_ | apply LH.here | apply LH.next); refine And.intro ?_ ?_; (focus (try (first | (with_reducible rfl) | (refine congrArg (Pl.mk _) ?_; (first | rfl | (simp; done))) | rfl | (with_reducible refine congrArg (Pl.mk _) ?_))))) | assumption | (show (_, _) = foS _ _ _; first | exact jB (by assumption) | exact jC (by assumption)) | (show (_, _) = foB _ _ _; first | exact zM (by assumption) | exact zN (by assumption)) | (show _ = foT _ _; first | exact zK (by assumption) | exact zL (by assumption)) | (first | (focus (apply Eq.trans; (conv => lhs; whnf); (conv => rhs; whnf); done)) | rfl | ((conv => lhs; whnf); first | rfl | (refine congrArg (AV.int _) ?_; (exact T.num)) | (refine congrArg AV.bool ?_; (exact T.num)) | (refine vwc ?_; first | (exact T.num) | (first | rfl | (simp; done))) | (refine qc ?_ ?_ <;> first | (exact T.num) | (first | rfl | (simp; done))) | (first | rfl | (simp; done)))) | (exact T.num) | (dsimp only; (exact T.num)) | (first | rfl | (simp; done)))) | (apply AtC.mk' (id := 7) (S := Hd × Nm × Nm) ((x, _, _)); (repeat' first | exact trivial | (refine And.intro ?_ ?_) | exact LB.nil | (with_reducible exact LB.refl) | (apply LB.cons; (repeat first | refine goH ?_ | apply LH.here | apply LH.next); refine And.intro ?_ ?_; (focus (try (first | (with_reducible rfl) | (refine congrArg (Pl.mk _) ?_; (first | rfl | (simp; done))) | rfl | (with_reducible refine congrArg (Pl.mk _) ?_))))) | assumption | (show (_, _) = foS _ _ _; first | exact jB (by assumption) | exact jC (by assumption)) | (show (_, _) = foB _ _ _; first | exact zM (by assumption) | exact zN (by assumption)) | (show _ = foT _ _; first | exact zK (by assumption) | exact zL (by assumption)) | (first | (focus (apply Eq.trans; (conv => lhs; whnf); (conv => rhs; whnf); done)) | rfl | ((conv => lhs; whnf); first | rfl | (refine congrArg (AV.int _) ?_; (exact T.num)) | (refine congrArg AV.bool ?_; (exact T.num)) | (refine vwc ?_; first | (exact T.num) | (first | rfl | (simp; done))) | (refine qc ?_ ?_ <;> first | (exact T.num) | (first | rfl | (simp; done))) | (first | rfl | (simp; done)))) | (exact T.num) | (dsimp only; (exact T.num)) | (first | rfl | (simp; done)))) | (apply AtC.mk' (id := 7) (S := Hd × Nm × Nm) (({ x with sq := xC (q7 .add .i64 x.sq s) 65536, tm := xC (q7 .add .i64 x.tm (q7 .mul .i64 160 s)) 4294967296, mr := 0 }, _, _)); (repeat' first | exact trivial | (refine And.intro ?_ ?_) | exact LB.nil | (with_reducible exact LB.refl) | (apply LB.cons; (repeat first | refine goH ?_ | apply LH.here | apply LH.next); refine And.intro ?_ ?_; (focus (try (first | (with_reducible rfl) | (refine congrArg (Pl.mk _) ?_; (first | rfl | (simp; done))) | rfl | (with_reducible refine congrArg (Pl.mk _) ?_))))) | assumption | (show (_, _) = foS _ _ _; first | exact jB (by assumption) | exact jC (by assumption)) | (show (_, _) = foB _ _ _; first | exact zM (by assumption) | exact zN (by assumption)) | (show _ = foT _ _; first | exact zK (by assumption) | exact zL (by assumption)) | (first | (focus (apply Eq.trans; (conv => lhs; whnf); (conv => rhs; whnf); done)) | rfl | ((conv => lhs; whnf); first | rfl | (refine congrArg (AV.int _) ?_; (exact T.num)) | (refine congrArg AV.bool ?_; (exact T.num)) | (refine vwc ?_; first | (exact T.num) | (first | rfl | (simp; done))) | (refine qc ?_ ?_ <;> first | (exact T.num) | (first | rfl | (simp; done))) | (first | rfl | (simp; done)))) | (exact T.num) | (dsimp only; (exact T.num)) | (first | rfl | (simp; done))))) | exact T.z | fail) <;> conv => whnf)
 all_goals (try dsimp only)
 all_goals
   rw [fol_f (s := s) (a1 := a1) (x := x) (a2 := a2) (y := y) (by assumption) (by assumption) (by assumption)]
   unfold foX
   (repeat first | rw [if_pos (by first | assumption | omega)] | rw [if_neg (by first | assumption | omega)])
   (show RL _ _ _; refine goR ?_)
   rfl
theorem follow_c (t : List Int) (a : Nat) (hd : Hd) (reg : Bool) (ht : t.length ≤ 400) (p : Nm) : LP Tryz.prog G 29 [.ptr p 0, hd.av, .bool reg] [(p, z4 t a)] (fun _ => ((wR t a hd reg).1.av, [(p, z4 t (wR t a hd reg).2)])) := by
 cases reg
 · exact follow_f t a hd ht p
 · exact follow_t t a hd ht p
open Go.RowKit
section
variable {P : Program} {G : Nat → AV} {N : Nat} {e : Env} {l : LS} {σ σ0 : q9} {w0 w : World} {a : Act}
theorem Rel.adoptP {p : Nm} {j sz : Nat} {t0 : TypeId} {cs : List AV} (t : TypeId) (h : Rel G N e σ σ0 w0 a w) (hp : σ p = some ⟨t0, cs⟩) (hj : j < cs.length) (hn : cs.getD j .any = .nils) {k : Nat} (hk : σ (.v k) = none) :
   Rel G N e (upd (upd σ p ⟨t0, cs.set j (.vw (.v k) 0 0 sz)⟩) (.v k) ⟨t, []⟩) σ0 w0 a w := by
 have hpk : p ≠ .v k := fun e => by subst e; rw [hk] at hp; cases hp
 have hbn : ∀ b, σ (.b b) = none → (upd (upd σ p ⟨t0, cs.set j (.vw (.v k) 0 0 sz)⟩) (.v k) ⟨t, []⟩) (.b b) = none := fun b hb => by
   rw [qk _ _ (by simp), qk _ _ (fun e => by subst e; rw [hb] at hp; cases hp)]
   exact hb
 have hst : Stp σ w (upd (upd σ p ⟨t0, cs.set j (.vw (.v k) 0 0 sz)⟩) (.v k) ⟨t, []⟩) w := Stp.forget _ _ w hbn
 refine ⟨h.n, h.d, fun x => (h.env x).mono hst, ⟨fun q c hq => ?_, fun m c hm => ?_, xL (xL h.mem.fin _ _) _ _⟩, h.st.trans hst, h.glob.mono hst⟩
 · rw [qk _ _ (by simp)] at hq
   by_cases e : Nm.b q = p
   · subst e
     rw [qw] at hq; cases hq
     obtain ⟨cur, k1, k2, k3⟩ := h.mem.pl q _ hp
     refine ⟨cur, k1, by simpa using k2, fun i hi => ?_⟩
     have hi2 : i < cs.length := by
       have h5 : i < (cs.set j (AV.vw (.v k) 0 0 sz)).length := hi
       rwa [List.length_set] at h5
     by_cases hij : i = j
     · subst hij
       have k4 := k3 i hi2
       simp only at k4
       rw [hn] at k4
       have e2 : (cs.set i (AV.vw (.v k) 0 0 sz)).getD i .any = .vw (.v k) 0 0 sz := by simp [List.getD_eq_getElem?_getD, hi2]
       show Rd _ w ((cs.set i (AV.vw (.v k) 0 0 sz)).getD i .any) _
       rw [e2]
       generalize cur.getD i undef = u at k4
       cases k4
       exact .vwnil _ _
     · have e2 : (cs.set j (AV.vw (.v k) 0 0 sz)).getD i .any = cs.getD i .any := by
         simp only [List.getD_eq_getElem?_getD]
         rw [List.getElem?_set_ne (by omega)]
       show Rd _ w ((cs.set j (AV.vw (.v k) 0 0 sz)).getD i .any) _
       rw [e2]
       exact (k3 i hi2).mono hst
   · rw [qk _ _ e] at hq
     obtain ⟨cur, k1, k2, k3⟩ := h.mem.pl q c hq
     exact ⟨cur, k1, k2, fun i hi => (k3 i hi).mono hst⟩
 · by_cases hmk : m = k
   · subst hmk; rw [qw] at hm; cases hm; rfl
   · rw [qk _ _ (by simp; exact hmk)] at hm
     by_cases e : Nm.v m = p
     · subst e
       have := h.mem.vl m _ hp
       simp only at this
       rw [this] at hj
       simp at hj
     · rw [qk _ _ e] at hm
       exact h.mem.vl m c hm
theorem SQ.adoptP (p : Nm) (j sz : Nat) (t : TypeId) {c : Code} {Q : Exit → Env → LS → Prop} (h : LH l p fun d s _ => j < d.cs.length ∧ d.cs.getD j .any = .nils ∧ ∀ q, SQ P G N c Q e ((q, ⟨t, []⟩) :: s ⟨d.ty, d.cs.set j (.vw q 0 0 sz)⟩)) : SQ P G N c Q e l := by
 obtain ⟨l1, d, l2, rfl, h1, h2, h3⟩ := h.ex
 refine ⟨fun φ hs => ⟨fun σ0 w0 a w hr => ?_⟩⟩
 obtain ⟨B, hB⟩ := hr.mem.fin
 have hk := hB B (Nat.le_refl _)
 have hs2 : Sep φ (l1 ++ (p, ⟨d.ty, d.cs.set j (.vw (.v B) 0 0 sz)⟩) :: l2) := hs.set
 have hr2 := hr.adoptP (sz := sz) t hs.get h1 h2 hk
 rw [hs.set'] at hr2
 have hs3 : Sep φ ((.v B, ⟨t, []⟩) :: (l1 ++ (p, ⟨d.ty, d.cs.set j (.vw (.v B) 0 0 sz)⟩) :: l2)) := hs2.new (by
   rw [← hs.set', qk _ _ (fun e => by rw [e, hs.get] at hk; cases hk)]
   exact hk) _
 exact ((h3 (.v B)).run φ hs3).run σ0 w0 a w hr2
end
open Go.RowKit
section
variable {P : Program} {G : Nat → AV} {N : Nat} {e : Env} {l : LS} {σ σ0 : q9} {w0 w : World} {a : Act}
theorem Rel.dummy (t : TypeId) (h : Rel G N e σ σ0 w0 a w) {k : Nat} (hk : σ (.v k) = none) : Rel G N e (upd σ (.v k) ⟨t, []⟩) σ0 w0 a w := by
 have hst : Stp σ w (upd σ (.v k) ⟨t, []⟩) w := Stp.forget _ _ w fun b hb => by rw [qk _ _ (by simp)]; exact hb
 refine ⟨h.n, h.d, fun x => (h.env x).mono hst, ⟨fun q c hq => ?_, fun m c hm => ?_, xL h.mem.fin _ _⟩, h.st.trans hst, h.glob.mono hst⟩
 · rw [qk _ _ (by simp)] at hq
   obtain ⟨cur, k1, k2, k3⟩ := h.mem.pl q c hq
   exact ⟨cur, k1, k2, fun i hi => (k3 i hi).mono hst⟩
 · by_cases hmk : m = k
   · subst hmk; rw [qw] at hm; cases hm; rfl
   · rw [qk _ _ (by simp; exact hmk)] at hm
     exact h.mem.vl m c hm
theorem SQ.dummy (t : TypeId) {c : Code} {Q : Exit → Env → LS → Prop} (h : ∀ q, SQ P G N c Q e ((q, ⟨t, []⟩) :: l)) : SQ P G N c Q e l := by
 refine ⟨fun φ hs => ⟨fun σ0 w0 a w hr => ?_⟩⟩
 obtain ⟨B, hB⟩ := hr.mem.fin
 have hk := hB B (Nat.le_refl _)
 exact ((h (.v B)).run φ (hs.new hk _)).run σ0 w0 a w (hr.dummy t hk)
theorem LFs.fm {α : Type} {F : List Nm} {f g : α → List AV} (h : ∀ x, LFs l F (f x) (g x)) : ∀ xs : List α, LFs l F (xs.flatMap f) (xs.flatMap g)
 | [] => trivial
 | x :: xs => by rw [List.flatMap_cons, List.flatMap_cons]; exact LFs.app (h x) (LFs.fm h xs)
theorem LFs.same {F : List Nm} : ∀ xs : List AV, LFs l F xs xs
 | [] => trivial
 | _ :: xs => ⟨.eq rfl, LFs.same xs⟩
end
open Go.RowKit
section
variable {P : Program} {G : Nat → AV} {l : LS}
theorem LC.twoK {f : FuncId} {args : List AV} {x : AV} {r p : Nm} {c d c' d' : Pl} {K : AV → LS → Prop} (hs : r ≠ p → LP P G f args [(r, c), (p, d)] fun _ => (x, [(r, c'), (p, d')]))
   (hk : LH l r fun c1 s rest => c1 = c ∧ LH rest p fun d1 _ _ => d1 = d ∧ LH (s c') p fun _ s2 _ => K x (s2 d')) : LC P G f args l K := ⟨fun φ hsp => by
 obtain ⟨l1, c1, l2, rfl, rfl, ha⟩ := hk.ex
 obtain ⟨l3, d1, l4, e, rfl, hb⟩ := ha.ex
 obtain ⟨m1, e1, m2, e2, h⟩ := hb.ex
 clear hk ha hb
 have hnd := xY hsp.nd
 have hp : p ∈ (l1 ++ l2).map (·.1) := by rw [e]; simp
 have hne : r ≠ p := fun hh => by
   subst hh
   rw [List.map_append, List.mem_append] at hp
   exact hp.elim hnd.1 hnd.2.1
 have hpp : pQ φ (l1 ++ (r, c1) :: l2) p = some d1 := by
   have h1 := hsp.rest
   rw [e] at h1
   have h2 := h1.get
   rw [← e, ← hsp.era', qZ _ (Ne.symm hne)] at h2
   exact h2
 refine ⟨.inl ⟨[], args, [(r, c1), (p, d1)], _, rfl, fun _ _ => .refl _, hs hne, fun x hx => ?_, by simp [hne], fun q hq hn => ?_⟩⟩
 · simp only [List.mem_cons, List.not_mem_nil, or_false] at hx
   rcases hx with rfl | rfl
   · exact hsp.get
   · exact hpp
 · have h3 : Sep φ (l1 ++ (r, c') :: l2) := hsp.set
   have e3 : l1 ++ (r, c') :: l2 = m1 ++ (p, e1) :: m2 := e2
   have h4 := h3
   rw [e3] at h4
   refine ⟨m1 ++ (p, d') :: m2, ?_, h4.set, h⟩
   rw [← h4.set' d', ← e3, ← hsp.set' c']
   have key : ∀ σ : q9, Go.Proofs.YtbagbjacmakfhaaGreatDoor.upd (Go.Proofs.YtbagbjacmakfhaaGreatDoor.upd (era (era σ p) r) p d') r c' = Go.Proofs.YtbagbjacmakfhaaGreatDoor.upd (Go.Proofs.YtbagbjacmakfhaaGreatDoor.upd σ r c') p d' := fun σ => by
    funext y
    by_cases hy : y = r
    · subst hy
      rw [qw, qk _ _ hne, qw]
    · rw [qk _ _ hy]
      by_cases hz : y = p
      · subst hz; rw [qw, qw]
      · rw [qk _ _ hz, qk _ _ hz, qk _ _ hy, qZ _ hy, qZ _ hz]
   exact key _⟩
end
theorem AQ.rset {α : Type} {f : α → List AV} {n : Nat} (hf : ∀ x, (f x).length = n) {l : List α} {o : Nat} {xs : List AV} {K : List AV → Prop} {i : Nat} {x : α} (j : Nat) (y : α) (h : i < l.length) (ho : o = i * n + j) (hj : j + xs.length ≤ n) (hy : f y = ql (f x) j xs) (k : K ((l.set i y).flatMap f)) : AQ (ql ((l.set i x).flatMap f) o xs) K := ⟨by
 subst ho
 have h1 : (l.set i x).getD i x = x := by simp [List.getD_eq_getElem?_getD, h]
 rw [yd hf (l.set i x) i j x y xs (by simpa using h) hj (by rw [h1]; exact hy), List.set_set]
 exact k⟩
theorem AC.rset {α : Type} {f : α → List AV} {n : Nat} (hf : ∀ x, (f x).length = n) {agg : Bool} {l : List α} {o m : Nat} {K : AV → Prop} {i : Nat} {x : α} (j : Nat) (v : AV) (h : i < l.length) (ho : o = i * n + j) (hj : j + m ≤ n) (hv : mkv agg (((f x).drop j).take m) = v) (k : K v) : AC agg ((((l.set i x).flatMap f).drop o).take m) K := ⟨by
 subst ho
 have h1 : (l.set i x).getD i x = x := by simp [List.getD_eq_getElem?_getD, h]
 rw [← List.drop_drop, yK hf (l.set i x) i x (by simpa using h), h1, List.drop_append_of_le_length (by rw [hf]; omega), List.take_append_of_le_length (by simp [hf]; omega), hv]
 exact k⟩
open Go.RowKit
theorem hkd_12 (fl : Int) : wa fl = 1 ∨ wa fl = 2 := by
 have h := wJ fl 2 (by decide) (by decide)
 have e : wa fl = 1 + xC fl 2 := by unfold wa; (exact T.num)
 omega
theorem ok_low (s : Sm) (hf : s.f = 1 ∨ s.f = 2 ∨ s.f = 3) (h1 : 0 ≤ s.cx ∧ s.cx < 16 ∧ s.pl.length ≤ 1500) (h2 : qO (cbR s.f) s.ck = true) (h3 : zq s = true) (hk : s.h.k = 1 ∨ s.h.k = 2) (hz : hzR s.h s.h.k = true) (hd : dzR s.d = true) : s.ok = true := by
 unfold Sm.ok kV
 rw [if_pos hf, h2, h3, hz, hd, decide_eq_true h1, decide_eq_true hk]
 rfl
theorem ok_big (s : Sm) (hf : s.f = 4 ∨ s.f = 5) (h1 : 0 ≤ s.cx ∧ s.cx < 16 ∧ s.pl.length ≤ 1500) (h2 : qO (cbR s.f) s.ck = true) (h3 : jy s = true) (h4 : xF s = true) : s.ok = true := by
 unfold Sm.ok kV
 rw [if_neg (by omega), if_pos hf, h2, h3, h4, decide_eq_true h1]
 rfl
theorem zW (n : Nat) (v : Int) : qO (n : Int) v = true ↔ 0 ≤ v ∧ v ≤ 2 ^ n - 1 := by rw [jm, vM]
open Go.RowKit
theorem gidx_take {α : Type} {p : α → Bool} (l : List α) (i : Nat) (d : α) (h : i < l.length) : (l.take (i + 1)).findIdx? p = ((l.take i).findIdx? p).or (if p (l.getD i d) = true then some i else none) := by
 rw [List.take_succ_eq_append_getElem h, List.findIdx?_append]
 have e : l[i] = l.getD i d := by simp [List.getD_eq_getElem?_getD, h]
 rw [e, List.findIdx?_singleton]
 congr 1
 split
 · simp; omega
 · rfl
theorem vO {α : Type} {p : α → Bool} (l : List α) (i : Nat) (d : α) (h : i < l.length) (h0 : (l.take i).findIdx? p = none) (hp : p (l.getD i d) = true) : l.findIdx? p = some i := by
 have e : l = l.take (i + 1) ++ l.drop (i + 1) := (List.take_append_drop _ _).symm
 rw [e, List.findIdx?_append, gidx_take l i d h, h0, if_pos hp]
 rfl
theorem gidx_n {α : Type} {p : α → Bool} {l : List α} {i : Nat} (d : α) (h : i < l.length) (h0 : (l.take i).findIdx? p = none) (hp : p (l.getD i d) = false) : (l.take (i + 1)).findIdx? p = none := by
 rw [gidx_take l i d h, h0, if_neg (by rw [hp]; decide)]; rfl
theorem gidx_e {α : Type} {p : α → Bool} {l : List α} {i : Nat} (h : l.length ≤ i) (h0 : (l.take i).findIdx? p = none) : l.findIdx? p = none := by rwa [List.take_of_length_le h] at h0
open Go.RowKit
variable {G : Nat → AV}
def gB (b : List UInt8) (a n : Nat) : Int := beN ((b.drop a).take n)
def jV (b : List UInt8) : Bool := decide (40 ≤ b.length) && decide (b.getD 28 0 = 128)
def zY (b : List UInt8) : Hd :=
 if jV b = true then ⟨2, ((b.getD 1 0).toNat : Nat), gB b 4 2, ((b.getD 6 0).toNat / 64 % 2 : Nat), ((b.getD 8 0).toNat : Nat), gB b 12 4, gB b 16 4, gB b 20 2, gB b 22 2, gB b 26 2, ((b.getD 29 0).toNat / 128 : Nat), ((b.getD 29 0).toNat % 128 : Nat), gB b 30 2, gB b 32 4, gB b 36 4⟩
 else ⟨1, ((b.getD 1 0).toNat : Nat), gB b 4 2, ((b.getD 6 0).toNat / 64 % 2 : Nat), ((b.getD 8 0).toNat : Nat), gB b 12 4, gB b 16 4, gB b 20 2, gB b 22 2, gB b 26 2, 0, 0, 0, 0, 0⟩
def yk (b : List UInt8) : Nat := if jV b = true then 40 else 28
def qg (b : List UInt8) : (Hd × List UInt8) × Int :=
 if b.length < 28 ∨ 1500 < b.length then ((Hd.z, []), 2)
 else if zp (zY b) (b.drop (yk b)) = (b, 0) then ((zY b, b.drop (yk b)), 0) else ((Hd.z, []), 4)
theorem qB (b : List UInt8) (a n : Nat) (h4 : n ≤ 4) (ha : a + n ≤ b.length) (hl : b.length ≤ 100000) : LP Tryz.prog G 63 [bv b, iAV a, iAV n] [] (fun _ => (iAV (gB b a n), [])) := by
 have hr : ∀ i, i < n → 0 ≤ gB b a i ∧ gB b a i < 16777216 := fun i hi => by
   have h := beN_rng ((b.drop a).take i)
   have hk : ((b.drop a).take i).length = i := by simp; omega
   rw [hk] at h
   unfold gB
   have : i = 0 ∨ i = 1 ∨ i = 2 ∨ i = 3 := by omega
   rcases this with rfl | rfl | rfl | rfl <;> omega
 have hz : gB b a 0 = 0 := by unfold gB; simp [beN]
 have hor : ∀ i, i < n → q7 .add .i64 (q7 .mul .i64 256 (gB b a i)) (IntKind.i64.wrap ((b.getD ((q7 .add .i64 (a : Int) (i : Int)).toNat * 1) 0).toNat : Int)) = gB b a (i + 1) := fun i hi => by
   have e0 : (q7 .add .i64 (a : Int) (i : Int)).toNat * 1 = a + i := by simp only [q7, IntKind.wrap_i64]; omega
   rw [e0]
   have := (b.getD (a + i) 0).toNat_lt
   have h3 := hr i hi
   have e1 : gB b a (i + 1) = 256 * gB b a i + ((b.getD (a + i) 0).toNat : Int) := by
     unfold gB
     rw [List.take_succ_eq_append_getElem (by simp; omega), beN_app]
     simp [List.getD_eq_getElem?_getD, show a + i < b.length by omega]
   rw [e1]
   simp only [q7, IntKind.wrap_i64]
   omega
 have hix : ∀ i : Nat, i < n → (q7 .add .i64 (a : Int) (i : Int)).toNat * 1 < b.length := fun i hi => by simp only [q7, IntKind.wrap_i64]; omega
 refine goW [] Tryz.func63 rfl ?_
 conv => whnf
 repeat' ((first | refine T.s ?_ | ((first | apply goB | apply AB.dec | apply AB.gen) <;> intro h <;> try (exfalso; omega)) | refine LQ.mk fun r => ?_ | (show SQ _ _ _ (.loop _) _ _ _; first | (apply goO tQ [] 3 (S := Nat) [0, 1, 2] (fun i => ⟨[(8, .int .i64 i), (7, .int .i64 (gB b a i))], [], i ≤ n, n - i⟩) (0) (by rfl); (focus (all_goals (try exact K6E1); done)); rintro i hok; (try dsimp only at hok))) | (show AtL _ _ _ _ _ _ _ _ _ _; first | (apply AtL.mk' (id := 3) (S := Nat) (i + 1); all_goals (try exact K6E1); done) | (apply AtL.mk' (id := 3) (S := Nat) (i + 1); all_goals (try exact K6E1))) | exact T.z | refine ⟨_, rfl, rfl, ?_⟩ | fail) <;> conv => whnf)
 all_goals (try dsimp only)
 all_goals (obtain rfl : i = n := (by omega))
 all_goals (show RL _ _ _; refine goR ?_)
 all_goals rfl
theorem sh6 : ∀ x : Nat, x < 256 → IntKind.i64.wrap (qu .and .u8 ((x : Int).fdiv (2 ^ min (6 : Int).toNat IntKind.u8.bits)) 1) = ((x / 64 % 2 : Nat) : Int) := by decide +kernel
theorem sh7 : ∀ x : Nat, x < 256 → IntKind.i64.wrap ((x : Int).fdiv (2 ^ min (7 : Int).toNat IntKind.u8.bits)) = ((x / 128 : Nat) : Int) := by decide +kernel
theorem an7q : ∀ x : Nat, x < 256 → IntKind.i64.wrap (qu .and .u8 (x : Int) 127) = ((x % 128 : Nat) : Int) := by decide +kernel
theorem wr8 : ∀ x : Nat, x < 256 → IntKind.i64.wrap (x : Int) = (x : Int) := by decide +kernel
theorem ve (b : List UInt8) (h1 : 28 ≤ b.length) (h2 : b.length ≤ 1500) : qg b = if zp (zY b) (b.drop (yk b)) = (b, 0) then ((zY b, b.drop (yk b)), 0) else ((Hd.z, []), 4) := by unfold qg; rw [if_neg (by omega)]
theorem RL.hdb {v : AV} {p : List UInt8} {q : Nm} {n : Nat} {e : Int} {l : LS} (h : LH l q fun c _ _ => c.cs = p.map bAV ∧ n = p.length) : RL (fun _ => (.tup [v, bv p, iAV e], [])) (.tup [v, .vw q 0 n 1, .int .i64 e]) l := by
 obtain ⟨l1, c, l2, rfl, h1, rfl⟩ := h.ex
 exact RL.frz [q] (LF.tup (xs := [v, .vw q 0 p.length 1, .int .i64 e]) (ys := [v, bv p, iAV e]) ⟨LF.eq rfl, LF.rowF InL.here ⟨l1, c, l2, rfl, h1, rfl⟩, LF.eq rfl, trivial⟩) ⟨l1, c, l2, rfl, LB.nil⟩
theorem RL.hdn {v : AV} {e : Int} {l : LS} : RL (fun _ => (.tup [v, bv [], iAV e], [])) (.tup [v, .nils, .int .i64 e]) l :=
 RL.frz [] (LF.tup (xs := [v, .nils, .int .i64 e]) (ys := [v, bv [], iAV e]) ⟨LF.eq rfl, LF.nils rfl rfl, LF.eq rfl, trivial⟩) LB.nil
theorem n128 (x : UInt8) : (x = 128) = (x.toNat = 128) := propext ⟨fun h => by rw [h]; rfl, fun h => UInt8.toNat_inj.1 h⟩
theorem rparse_u (b : List UInt8) (h28 : 28 ≤ b.length) (hl : b.length ≤ 1500) (hr : jV b = false) : LP Tryz.prog G 25 [bv b] [] (fun _ => (.tup [(qg b).1.1.av, bv (qg b).1.2, iAV (qg b).2], [])) := by
 have hX : (⟨1, IntKind.i64.wrap ((b.getD 1 0).toNat : Int), gB b 4 2, IntKind.i64.wrap (qu .and .u8 (((b.getD 6 0).toNat : Int).fdiv (2 ^ min (6 : Int).toNat IntKind.u8.bits)) 1), IntKind.i64.wrap ((b.getD 8 0).toNat : Int), gB b 12 4, gB b 16 4, gB b 20 2, gB b 22 2, gB b 26 2, 0, 0, 0, 0, 0⟩ : Hd) = zY b := by
   unfold zY
   rw [hr, sh6 _ (b.getD 6 0).toNat_lt, wr8 _ (b.getD 1 0).toNat_lt, wr8 _ (b.getD 8 0).toNat_lt]
   rfl
 have hN : yk b = 28 := by unfold yk; rw [hr]; rfl
 have hl : b.length ≤ 100000 := by omega
 have hB := rbuild_c (G := G) (zY b) (b.drop 28) (by simp; omega)
 have hS := same_c (G := G) b (zp (zY b) (b.drop 28)).1
 rw [ve b (by omega) (by omega), hN]
 simp only [jV, Bool.and_eq_true, Bool.and_eq_false_iff, decide_eq_true_eq, decide_eq_false_iff_not, n128] at hr
 by_cases hc : zp (zY b) (b.drop 28) = (b, 0)
 · rw [if_pos hc]
   rw [hc] at hB hS
   rw [decide_eq_true rfl] at hS
   rw [← hX] at hB ⊢
   refine goW [] Tryz.func25 rfl ?_
   conv => whnf
   repeat' ((first | exact Nm.b 0 | (show LC _ _ _ _ _ _; first | refine LC.pure (qB b 4 2 (by decide) (by omega) hl) ?_ | refine LC.pure (qB b 12 4 (by decide) (by omega) hl) ?_ | refine LC.pure (qB b 16 4 (by decide) (by omega) hl) ?_ | refine LC.pure (qB b 20 2 (by decide) (by omega) hl) ?_ | refine LC.pure (qB b 22 2 (by decide) (by omega) hl) ?_ | refine LC.pure (qB b 26 2 (by decide) (by omega) hl) ?_ | refine LC.pure (qB b 30 2 (by decide) (by omega) hl) ?_ | refine LC.pure (qB b 32 4 (by decide) (by omega) hl) ?_ | refine LC.pure (qB b 36 4 (by decide) (by omega) hl) ?_ | refine LC.pure (hB) ?_ | refine LC.pure (hS) ?_ | refine goE ?_) | (show AC _ _ _; first | (refine AC.idx 1 0 rfl ?_ ?_; (focus omega)) | (refine AC.idx 6 0 rfl ?_ ?_; (focus omega)) | (refine AC.idx 8 0 rfl ?_ ?_; (focus omega)) | (refine AC.idx 28 0 rfl ?_ ?_; (focus omega)) | (refine AC.idx 29 0 rfl ?_ ?_; (focus omega))) | (show AQ _ _; first | (refine AQ.tailE 28 rfl ?_ ?_; (focus (simp; omega)))) | refine T.s ?_ | ((first | apply goB | apply AB.dec | apply AB.gen) <;> intro h <;> try (exfalso; omega)) | refine LQ.mk fun r => ?_ | (show SQ _ _ _ _ _ _ _; first | (refine goD tQ qd 3 [2, 8, 14, 5, 17, 19, 21, 23, 25] [0, 1, 2, 3, 4, 6, 7, 8, 9, 10, 11, 12, 13, 14, 15, 16, 18, 20, 22, 24, 5, 17, 19, 21, 23, 25, 26, 27, 28] [r] (by kernel_rfl) ?_) | (refine goD tQ qd 3 [2, 8, 14, 5, 17, 19, 21, 23, 25] [0, 1, 2, 3, 4, 6, 7, 8, 9, 10, 11, 12, 13, 14, 15, 16, 18, 20, 22, 24, 5, 17, 19, 21, 23, 25, 26, 27, 28] [] (by kernel_rfl) ?_) | (refine goD tQ qd 7 [7, 11] [0, 1, 2, 3, 4, 5, 6, 7, 8, 9, 10, 11, 12, 13] [] (by kernel_rfl) ?_) | (refine goD tQ qd 9 [] [0, 1, 2, 3, 4, 5, 6, 7, 8, 9] [r] (by kernel_rfl) ?_) | (refine goD tQ qd 9 [] [0, 1, 2, 3, 4, 5, 6, 7, 8, 9] [] (by kernel_rfl) ?_) | (refine goD tQ qd 12 [0, 4] [0, 1, 2, 3, 4, 5, 6, 7] [r] (by kernel_rfl) ?_) | (refine goD tQ qd 12 [0, 4] [0, 1, 2, 3, 4, 5, 6, 7] [] (by kernel_rfl) ?_)) | (show (_ → _) ∧ (¬ _ → _); first | refine T.y ?_ | refine qm (fun h => ?_) (fun h => ?_)) | exact T.z | refine ⟨_, rfl, rfl, ?_⟩ | fail) <;> conv => whnf)
   all_goals (try dsimp only)
   all_goals
     refine RL.hdb ?_
     (repeat first | refine goH ?_ | apply LH.here | apply LH.next)
     exact ⟨rfl, by simp⟩
 · rw [if_neg hc]
   rw [← hX] at hB hS hc
   refine goW [] Tryz.func25 rfl ?_
   conv => whnf
   repeat' ((first | exact Nm.b 0 | (show LC _ _ _ _ _ _; first | refine LC.pure (qB b 4 2 (by decide) (by omega) hl) ?_ | refine LC.pure (qB b 12 4 (by decide) (by omega) hl) ?_ | refine LC.pure (qB b 16 4 (by decide) (by omega) hl) ?_ | refine LC.pure (qB b 20 2 (by decide) (by omega) hl) ?_ | refine LC.pure (qB b 22 2 (by decide) (by omega) hl) ?_ | refine LC.pure (qB b 26 2 (by decide) (by omega) hl) ?_ | refine LC.pure (qB b 30 2 (by decide) (by omega) hl) ?_ | refine LC.pure (qB b 32 4 (by decide) (by omega) hl) ?_ | refine LC.pure (qB b 36 4 (by decide) (by omega) hl) ?_ | refine LC.pure (hB) ?_ | refine LC.pure (hS) ?_ | refine goE ?_) | (show AC _ _ _; first | (refine AC.idx 1 0 rfl ?_ ?_; (focus omega)) | (refine AC.idx 6 0 rfl ?_ ?_; (focus omega)) | (refine AC.idx 8 0 rfl ?_ ?_; (focus omega)) | (refine AC.idx 28 0 rfl ?_ ?_; (focus omega)) | (refine AC.idx 29 0 rfl ?_ ?_; (focus omega))) | (show AQ _ _; first | (refine AQ.tailE 28 rfl ?_ ?_; (focus (simp; omega)))) | refine T.s ?_ | ((first | apply goB | apply AB.dec | apply AB.gen) <;> intro h <;> try (exfalso; omega)) | refine LQ.mk fun r => ?_ | (show SQ _ _ _ _ _ _ _; first | (refine goD tQ qd 3 [2, 8, 14, 5, 17, 19, 21, 23, 25] [0, 1, 2, 3, 4, 6, 7, 8, 9, 10, 11, 12, 13, 14, 15, 16, 18, 20, 22, 24, 5, 17, 19, 21, 23, 25, 26, 27, 28] [r] (by kernel_rfl) ?_) | (refine goD tQ qd 3 [2, 8, 14, 5, 17, 19, 21, 23, 25] [0, 1, 2, 3, 4, 6, 7, 8, 9, 10, 11, 12, 13, 14, 15, 16, 18, 20, 22, 24, 5, 17, 19, 21, 23, 25, 26, 27, 28] [] (by kernel_rfl) ?_) | (refine goD tQ qd 7 [7, 11] [0, 1, 2, 3, 4, 5, 6, 7, 8, 9, 10, 11, 12, 13] [] (by kernel_rfl) ?_) | (refine goD tQ qd 9 [] [0, 1, 2, 3, 4, 5, 6, 7, 8, 9] [r] (by kernel_rfl) ?_) | (refine goD tQ qd 9 [] [0, 1, 2, 3, 4, 5, 6, 7, 8, 9] [] (by kernel_rfl) ?_) | (refine goD tQ qd 12 [0, 4] [0, 1, 2, 3, 4, 5, 6, 7] [r] (by kernel_rfl) ?_) | (refine goD tQ qd 12 [0, 4] [0, 1, 2, 3, 4, 5, 6, 7] [] (by kernel_rfl) ?_)) | (show (_ → _) ∧ (¬ _ → _); first | refine T.y ?_ | refine qm (fun h => ?_) (fun h => ?_)) | exact T.z | refine ⟨_, rfl, rfl, ?_⟩ | fail) <;> conv => whnf)
   all_goals (try dsimp only)
   all_goals first
     | exact RL.hdn
     | (exfalso; clear hB hS hX; generalize zp _ _ = B at *; obtain ⟨B1, B2⟩ := B; refine hc ?_; simp only [Prod.mk.injEq]; (try simp only [Bool.not_eq_true', decide_eq_true_eq, decide_eq_false_iff_not, Bool.not_eq_false', ne_eq, Decidable.not_not] at *); simp_all)
     | trace_state
theorem rparse_t (b : List UInt8) (h28 : 28 ≤ b.length) (hl : b.length ≤ 1500) (hr : jV b = true) : LP Tryz.prog G 25 [bv b] [] (fun _ => (.tup [(qg b).1.1.av, bv (qg b).1.2, iAV (qg b).2], [])) := by
 have hX : (⟨2, IntKind.i64.wrap ((b.getD 1 0).toNat : Int), gB b 4 2, IntKind.i64.wrap (qu .and .u8 (((b.getD 6 0).toNat : Int).fdiv (2 ^ min (6 : Int).toNat IntKind.u8.bits)) 1), IntKind.i64.wrap ((b.getD 8 0).toNat : Int), gB b 12 4, gB b 16 4, gB b 20 2, gB b 22 2, gB b 26 2, IntKind.i64.wrap (((b.getD 29 0).toNat : Int).fdiv (2 ^ min (7 : Int).toNat IntKind.u8.bits)), IntKind.i64.wrap (qu .and .u8 ((b.getD 29 0).toNat : Int) 127), gB b 30 2, gB b 32 4, gB b 36 4⟩ : Hd) = zY b := by
   unfold zY
   rw [hr, sh6 _ (b.getD 6 0).toNat_lt, wr8 _ (b.getD 1 0).toNat_lt, wr8 _ (b.getD 8 0).toNat_lt, sh7 _ (b.getD 29 0).toNat_lt, an7q _ (b.getD 29 0).toNat_lt]
   rfl
 have hN : yk b = 40 := by unfold yk; rw [hr]; rfl
 have hl : b.length ≤ 100000 := by omega
 have hB := rbuild_c (G := G) (zY b) (b.drop 40) (by simp; omega)
 have hS := same_c (G := G) b (zp (zY b) (b.drop 40)).1
 rw [ve b (by omega) (by omega), hN]
 simp only [jV, Bool.and_eq_true, Bool.and_eq_false_iff, decide_eq_true_eq, decide_eq_false_iff_not, n128] at hr
 by_cases hc : zp (zY b) (b.drop 40) = (b, 0)
 · rw [if_pos hc]
   rw [hc] at hB hS
   rw [decide_eq_true rfl] at hS
   rw [← hX] at hB ⊢
   refine goW [] Tryz.func25 rfl ?_
   conv => whnf
   repeat' ((first | exact Nm.b 0 | (show LC _ _ _ _ _ _; first | refine LC.pure (qB b 4 2 (by decide) (by omega) hl) ?_ | refine LC.pure (qB b 12 4 (by decide) (by omega) hl) ?_ | refine LC.pure (qB b 16 4 (by decide) (by omega) hl) ?_ | refine LC.pure (qB b 20 2 (by decide) (by omega) hl) ?_ | refine LC.pure (qB b 22 2 (by decide) (by omega) hl) ?_ | refine LC.pure (qB b 26 2 (by decide) (by omega) hl) ?_ | refine LC.pure (qB b 30 2 (by decide) (by omega) hl) ?_ | refine LC.pure (qB b 32 4 (by decide) (by omega) hl) ?_ | refine LC.pure (qB b 36 4 (by decide) (by omega) hl) ?_ | refine LC.pure (hB) ?_ | refine LC.pure (hS) ?_ | refine goE ?_) | (show AC _ _ _; first | (refine AC.idx 1 0 rfl ?_ ?_; (focus omega)) | (refine AC.idx 6 0 rfl ?_ ?_; (focus omega)) | (refine AC.idx 8 0 rfl ?_ ?_; (focus omega)) | (refine AC.idx 28 0 rfl ?_ ?_; (focus omega)) | (refine AC.idx 29 0 rfl ?_ ?_; (focus omega))) | (show AQ _ _; first | (refine AQ.tailE 40 rfl ?_ ?_; (focus (simp; omega)))) | refine T.s ?_ | ((first | apply goB | apply AB.dec | apply AB.gen) <;> intro h <;> try (exfalso; omega)) | refine LQ.mk fun r => ?_ | (show SQ _ _ _ _ _ _ _; first | (refine goD tQ qd 3 [2, 8, 14, 5, 17, 19, 21, 23, 25] [0, 1, 2, 3, 4, 6, 7, 8, 9, 10, 11, 12, 13, 14, 15, 16, 18, 20, 22, 24, 5, 17, 19, 21, 23, 25, 26, 27, 28] [r] (by kernel_rfl) ?_) | (refine goD tQ qd 3 [2, 8, 14, 5, 17, 19, 21, 23, 25] [0, 1, 2, 3, 4, 6, 7, 8, 9, 10, 11, 12, 13, 14, 15, 16, 18, 20, 22, 24, 5, 17, 19, 21, 23, 25, 26, 27, 28] [] (by kernel_rfl) ?_) | (refine goD tQ qd 7 [7, 11] [0, 1, 2, 3, 4, 5, 6, 7, 8, 9, 10, 11, 12, 13] [] (by kernel_rfl) ?_) | (refine goD tQ qd 9 [] [0, 1, 2, 3, 4, 5, 6, 7, 8, 9] [r] (by kernel_rfl) ?_) | (refine goD tQ qd 9 [] [0, 1, 2, 3, 4, 5, 6, 7, 8, 9] [] (by kernel_rfl) ?_) | (refine goD tQ qd 12 [0, 4] [0, 1, 2, 3, 4, 5, 6, 7] [r] (by kernel_rfl) ?_) | (refine goD tQ qd 12 [0, 4] [0, 1, 2, 3, 4, 5, 6, 7] [] (by kernel_rfl) ?_)) | (show (_ → _) ∧ (¬ _ → _); first | refine T.y ?_ | refine qm (fun h => ?_) (fun h => ?_)) | exact T.z | refine ⟨_, rfl, rfl, ?_⟩ | fail) <;> conv => whnf)
   all_goals (try dsimp only)
   all_goals
     refine RL.hdb ?_
     (repeat first | refine goH ?_ | apply LH.here | apply LH.next)
     exact ⟨rfl, by simp⟩
 · rw [if_neg hc]
   rw [← hX] at hB hS hc
   refine goW [] Tryz.func25 rfl ?_
   conv => whnf
   repeat' ((first | exact Nm.b 0 | (show LC _ _ _ _ _ _; first | refine LC.pure (qB b 4 2 (by decide) (by omega) hl) ?_ | refine LC.pure (qB b 12 4 (by decide) (by omega) hl) ?_ | refine LC.pure (qB b 16 4 (by decide) (by omega) hl) ?_ | refine LC.pure (qB b 20 2 (by decide) (by omega) hl) ?_ | refine LC.pure (qB b 22 2 (by decide) (by omega) hl) ?_ | refine LC.pure (qB b 26 2 (by decide) (by omega) hl) ?_ | refine LC.pure (qB b 30 2 (by decide) (by omega) hl) ?_ | refine LC.pure (qB b 32 4 (by decide) (by omega) hl) ?_ | refine LC.pure (qB b 36 4 (by decide) (by omega) hl) ?_ | refine LC.pure (hB) ?_ | refine LC.pure (hS) ?_ | refine goE ?_) | (show AC _ _ _; first | (refine AC.idx 1 0 rfl ?_ ?_; (focus omega)) | (refine AC.idx 6 0 rfl ?_ ?_; (focus omega)) | (refine AC.idx 8 0 rfl ?_ ?_; (focus omega)) | (refine AC.idx 28 0 rfl ?_ ?_; (focus omega)) | (refine AC.idx 29 0 rfl ?_ ?_; (focus omega))) | (show AQ _ _; first | (refine AQ.tailE 40 rfl ?_ ?_; (focus (simp; omega)))) | refine T.s ?_ | ((first | apply goB | apply AB.dec | apply AB.gen) <;> intro h <;> try (exfalso; omega)) | refine LQ.mk fun r => ?_ | (show SQ _ _ _ _ _ _ _; first | (refine goD tQ qd 3 [2, 8, 14, 5, 17, 19, 21, 23, 25] [0, 1, 2, 3, 4, 6, 7, 8, 9, 10, 11, 12, 13, 14, 15, 16, 18, 20, 22, 24, 5, 17, 19, 21, 23, 25, 26, 27, 28] [r] (by kernel_rfl) ?_) | (refine goD tQ qd 3 [2, 8, 14, 5, 17, 19, 21, 23, 25] [0, 1, 2, 3, 4, 6, 7, 8, 9, 10, 11, 12, 13, 14, 15, 16, 18, 20, 22, 24, 5, 17, 19, 21, 23, 25, 26, 27, 28] [] (by kernel_rfl) ?_) | (refine goD tQ qd 7 [7, 11] [0, 1, 2, 3, 4, 5, 6, 7, 8, 9, 10, 11, 12, 13] [] (by kernel_rfl) ?_) | (refine goD tQ qd 9 [] [0, 1, 2, 3, 4, 5, 6, 7, 8, 9] [r] (by kernel_rfl) ?_) | (refine goD tQ qd 9 [] [0, 1, 2, 3, 4, 5, 6, 7, 8, 9] [] (by kernel_rfl) ?_) | (refine goD tQ qd 12 [0, 4] [0, 1, 2, 3, 4, 5, 6, 7] [r] (by kernel_rfl) ?_) | (refine goD tQ qd 12 [0, 4] [0, 1, 2, 3, 4, 5, 6, 7] [] (by kernel_rfl) ?_)) | (show (_ → _) ∧ (¬ _ → _); first | refine T.y ?_ | refine qm (fun h => ?_) (fun h => ?_)) | exact T.z | refine ⟨_, rfl, rfl, ?_⟩ | fail) <;> conv => whnf)
   all_goals (try dsimp only)
   all_goals first
     | exact RL.hdn
     | (exfalso; clear hB hS hX; generalize zp _ _ = B at *; obtain ⟨B1, B2⟩ := B; refine hc ?_; simp only [Prod.mk.injEq]; (try simp only [Bool.not_eq_true', decide_eq_true_eq, decide_eq_false_iff_not, Bool.not_eq_false', ne_eq, Decidable.not_not] at *); simp_all)
     | trace_state
theorem zX (b : List UInt8) (hl : b.length ≤ 100000) : LP Tryz.prog G 25 [bv b] [] (fun _ => (.tup [(qg b).1.1.av, bv (qg b).1.2, iAV (qg b).2], [])) := by
 by_cases h : b.length < 28 ∨ 1500 < b.length
 · rw [show qg b = ((Hd.z, []), 2) from if_pos h]
   refine goW [] Tryz.func25 rfl ?_
   conv => whnf
   repeat' ((first | exact Nm.b 0 | refine T.s ?_ | ((first | apply goB | apply AB.dec | apply AB.gen) <;> intro h <;> try (exfalso; omega)) | refine LQ.mk fun r => ?_ | (show SQ _ _ _ _ _ _ _; first | (refine goD tQ qd 3 [2, 8, 14, 5, 17, 19, 21, 23, 25] [0, 1, 2, 3, 4, 6, 7, 8, 9, 10, 11, 12, 13, 14, 15, 16, 18, 20, 22, 24, 5, 17, 19, 21, 23, 25, 26, 27, 28] [] (by kernel_rfl) ?_) | (refine goD tQ qd 7 [7, 11] [0, 1, 2, 3, 4, 5, 6, 7, 8, 9, 10, 11, 12, 13] [] (by kernel_rfl) ?_) | (refine goD tQ qd 9 [] [0, 1, 2, 3, 4, 5, 6, 7, 8, 9] [] (by kernel_rfl) ?_) | (refine goD tQ qd 12 [0, 4] [0, 1, 2, 3, 4, 5, 6, 7] [] (by kernel_rfl) ?_)) | (show (_ → _) ∧ (¬ _ → _); first | refine T.y ?_ | refine qm (fun h => ?_) (fun h => ?_)) | exact T.z | refine ⟨_, rfl, rfl, ?_⟩ | fail) <;> conv => whnf)
   all_goals (try dsimp only)
   all_goals exact RL.hdn
 · cases hr : jV b with
   | true => exact rparse_t b (by omega) (by omega) hr
   | false => exact rparse_u b (by omega) (by omega) hr
end Go.Proofs.YtbagbjacmakfhaaGreatDoor
