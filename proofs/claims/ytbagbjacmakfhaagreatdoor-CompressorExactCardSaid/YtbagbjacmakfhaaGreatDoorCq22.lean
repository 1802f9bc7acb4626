/-
  Contracts of the functions that the laws reach.
-/
import Derived.Test.YtbagbjacmakfhaaGreatDoorCq01
import Derived.Test.YtbagbjacmakfhaaGreatDoorCq02
import Derived.Test.YtbagbjacmakfhaaGreatDoorCq03
import Derived.Test.YtbagbjacmakfhaaGreatDoorCq04
import Derived.Test.YtbagbjacmakfhaaGreatDoorCq05
import Derived.Test.YtbagbjacmakfhaaGreatDoorCq06
import Derived.Test.YtbagbjacmakfhaaGreatDoorCq08
import Derived.Test.YtbagbjacmakfhaaGreatDoorCq09
import Derived.Test.YtbagbjacmakfhaaGreatDoorCq10
import Derived.Test.YtbagbjacmakfhaaGreatDoorCq12
import Derived.Test.YtbagbjacmakfhaaGreatDoorCq13
import Derived.Test.YtbagbjacmakfhaaGreatDoorCq14
import Derived.Test.YtbagbjacmakfhaaGreatDoorCq15
import Derived.Test.YtbagbjacmakfhaaGreatDoorCq16
import Derived.Test.YtbagbjacmakfhaaGreatDoorCq17
import Derived.Test.YtbagbjacmakfhaaGreatDoorCq18
set_option maxHeartbeats 4000000
set_option linter.all false
namespace Go.Proofs.YtbagbjacmakfhaaGreatDoor
open Go.RowKit
variable {G : Nat → AV}
theorem LF.rcv {cx : List Rc} {n : Nat} {q : Nm} {l : LS} {F : List Nm} (hF : InL q F) (hn : n = cx.length) (hq : LH l q fun c _ _ => c.cs = cx.flatMap Rc.cs) : LF l F (.vw q 0 n 19) (Go.Proofs.YtbagbjacmakfhaaGreatDoor.rcv cx) := by
 subst hn
 obtain ⟨l1, c, l2, rfl, h3⟩ := hq.ex
 exact LF.row hF ⟨l1, c, l2, rfl, by decide, by rw [h3, qr Rc.cs_len], rfl, h3.symm⟩
theorem AQ.rsetW {α : Type} {f : α → List AV} {n : Nat} (hf : ∀ x, (f x).length = n) {l : List α} {o : Nat} {xs : List AV} {K : List AV → Prop} {i : Nat} (d y : α) (h : i < l.length) (ho : o = i * n) (hy : f y = xs) (k : K ((l.set i y).flatMap f)) : AQ (ql (l.flatMap f) o xs) K := ⟨by
 subst ho hy
 have h1 := yd hf l i 0 d y (f y) h (by rw [hf]; omega) (by
   unfold ql
   rw [List.take_zero, List.drop_of_length_le (by simp [hf])]
   simp)
 rw [Nat.add_zero] at h1
 rw [h1]
 exact k⟩
open Go.RowKit
variable {G : Nat → AV}
def zT (t : List Int) (a : Nat) : Nat → List Hd × Nat
 | 0 => ([], a)
 | n + 1 => ((zT t a n).1 ++ [yv t (zT t a n).2 n], vN t (zT t a n).2 n)
theorem z6 (t : List Int) (a : Nat) : ∀ n, (zT t a n).1.length = n
 | 0 => rfl
 | n + 1 => by simp [zT, z6 t a n]
def yJ (h : Hd) : Prop := h.k = 1 ∨ h.k = 2
theorem hdr_kind (t : List Int) (a : Nat) (fl : Int) : yJ (yv t a fl) := hkd_12 fl
theorem qX (t : List Int) (a : Nat) : ∀ n, ∀ h ∈ (zT t a n).1, yJ h
 | 0, h, hh => by cases hh
 | n + 1, h, hh => by
   simp only [zT, List.mem_append, List.mem_singleton] at hh
   rcases hh with hh | rfl
   · exact qX t a n h hh
   · exact hdr_kind _ _ _
theorem fol_k (t : List Int) (a : Nat) (h : Hd) (reg : Bool) : (wR t a h reg).1.k = h.k := by
 have e1 : ∀ s, (foI h s).k = h.k := fun s => rfl
 have e2 : ∀ a x, (foB t a x).1.k = x.k := fun a x => by unfold foB; split <;> rfl
 have e3 : ∀ s x, (foT s x).k = x.k := fun s x => by unfold foT; split <;> rfl
 have e4 : ∀ a x, (foX t a x).1.k = x.k := fun a x => by unfold foX; (repeat' split) <;> rfl
 unfold wR
 split
 · dsimp only; rw [e3, e2, e1]
 · rw [e4, e3, e2, e1]
structure Pq where
 hs : List Hd
 bs : List (List UInt8)
 a : Nat
def pqK (t : List Int) (fl : Int) (x : Pq) : Nat := (qi t x.a fl).toNat
def pqP (t : List Int) (x : Pq) : List UInt8 := xp t (qe t (qe t x.a)) (x9 t (qe t x.a) 6)
def pqA (t : List Int) (x : Pq) : Nat := adv t (qe t (qe t x.a)) (x9 t (qe t x.a) 6)
def pqH (t : List Int) (fl : Int) (x : Pq) : Hd := x.hs.getD (pqK t fl x) Hd.z
def pqF (t : List Int) (fl : Int) (reg : Bool) (x : Pq) : Hd × Nat := wR t (pqA t x) (pqH t fl x) reg
def pqS (t : List Int) (fl : Int) (reg : Bool) (x : Pq) : Pq :=
 if reg = true then ⟨x.hs.set (pqK t fl x) (pqF t fl reg x).1, x.bs ++ [xH (pqH t fl x) (pqP t x)], (pqF t fl reg x).2⟩
 else if zG t (pqF t fl reg x).2 15 = true then ⟨x.hs.set (pqK t fl x) (pqF t fl reg x).1, x.bs ++ [xH (pqH t fl x) (pqP t x)] ++ [jU t (qe t (pqF t fl reg x).2) 40], yG t (qe t (pqF t fl reg x).2) 40⟩
 else ⟨x.hs.set (pqK t fl x) (pqF t fl reg x).1, x.bs ++ [xH (pqH t fl x) (pqP t x)], qe t (pqF t fl reg x).2⟩
def pqI (t : List Int) (fl : Int) (reg : Bool) : Nat → Pq → Pq
 | 0, x => x
 | n + 1, x => pqI t fl reg n (pqS t fl reg x)
def wD (t : List Int) (a : Nat) (fl : Nat) (cnt : Int) : Nat := (qi t (zT t a fl).2 (q7 .add .i64 cnt 1)).toNat
def jw (t : List Int) (a : Nat) (fl : Nat) (cnt : Int) (reg : Bool) : Pq := pqI t fl reg (wD t a fl cnt) ⟨(zT t a fl).1, [], qe t (zT t a fl).2⟩
def bbv (l : List (List UInt8)) : AV := .sl l.length (l.map bv)
attribute [local irreducible] yv vN wR xH xp jU yG x9 qi qe
theorem qh (t : List Int) (a n : Nat) : (zT t a n).1.flatMap Hd.cs ++ (yv t (zT t a n).2 n).cs = (zT t a (n + 1)).1.flatMap Hd.cs := by simp [zT]
theorem pq_f {t : List Int} {fl : Int} {x : Pq} {n : Nat} {R : Pq} (h : pqI t fl false (n + 1) x = R) (k : zG t (pqF t fl false x).2 15 = false) : pqI t fl false n ⟨x.hs.set (pqK t fl x) (pqF t fl false x).1, x.bs ++ [xH (pqH t fl x) (pqP t x)], qe t (pqF t fl false x).2⟩ = R := by
 rw [← h]
 show _ = pqI t fl false n (pqS t fl false x)
 unfold pqS
 rw [if_neg (by decide), if_neg (by rw [k]; decide)]
theorem pq_g {t : List Int} {fl : Int} {x : Pq} {n : Nat} {R : Pq} (h : pqI t fl false (n + 1) x = R) (k : zG t (pqF t fl false x).2 15 = true) : pqI t fl false n ⟨x.hs.set (pqK t fl x) (pqF t fl false x).1, x.bs ++ [xH (pqH t fl x) (pqP t x)] ++ [jU t (qe t (pqF t fl false x).2) 40], yG t (qe t (pqF t fl false x).2) 40⟩ = R := by
 rw [← h]
 show _ = pqI t fl false n (pqS t fl false x)
 unfold pqS
 rw [if_neg (by decide), if_pos k]
theorem ze {t : List Int} {fl : Int} {reg : Bool} {x : Pq} (h : ∀ y ∈ x.hs, yJ y) (hk : pqK t fl x < x.hs.length) : ∀ y ∈ x.hs.set (pqK t fl x) (pqF t fl reg x).1, yJ y := fun y hy => by
 rcases List.mem_or_eq_of_mem_set hy with hy | rfl
 · exact h y hy
 · unfold yJ pqF
   rw [fol_k]
   refine h _ ?_
   unfold pqH
   rw [List.getD_eq_getElem?_getD, List.getElem?_eq_getElem hk]
   exact List.getElem_mem _
theorem RL.rowBB {t : List Int} {a : Nat} {L : List (List UInt8)} {n : Nat} {q p : Nm} {l : LS} (h : LH l q fun c _ r => c.cs = L.map bv ∧ n = L.length ∧ LB [(p, z4 t a)] r) : RL (fun _ => (bbv L, [(p, z4 t a)])) (.vw q 0 n 1) l := by
 obtain ⟨l1, c, l2, rfl, h1, rfl, h2⟩ := h.ex
 exact RL.frz [q] (LF.row InL.here ⟨l1, c, l2, rfl, by decide, by simp [h1], rfl, h1.symm⟩) ⟨l1, c, l2, rfl, h2⟩
theorem pq_k {t : List Int} {fl : Nat} {x : Pq} (h0 : 1 ≤ fl) (h1 : fl ≤ 10) : 0 ≤ qi t x.a fl ∧ qi t x.a fl < fl ∧ pqK t fl x < fl := by
 have := qQ t x.a fl (by omega) (by omega)
 unfold pqK
 omega
theorem pq_next {t : List Int} {fl : Int} {reg : Bool} {x : Pq} {n : Nat} {R : Pq} (h0 : (0 : Int) < (n : Int)) (h : pqI t fl reg n x = R) : pqI t fl reg (n - 1) (pqS t fl reg x) = R := by
 obtain ⟨m, rfl⟩ : ∃ m, n = m + 1 := ⟨n - 1, by omega⟩
 exact h
theorem wB {t : List Int} {fl : Int} {x : Pq} {n : Nat} {R : Pq} (h0 : (0 : Int) < (n : Int)) (h : pqI t fl false n x = R) (k : zG t (pqF t fl false x).2 15 = false) : pqI t fl false (n - 1) ⟨x.hs.set (pqK t fl x) (pqF t fl false x).1, x.bs ++ [xH (pqH t fl x) (pqP t x)], qe t (pqF t fl false x).2⟩ = R := by
 obtain ⟨m, rfl⟩ : ∃ m, n = m + 1 := ⟨n - 1, by omega⟩
 exact pq_f h k
theorem wA {t : List Int} {fl : Int} {x : Pq} {n : Nat} {R : Pq} (h0 : (0 : Int) < (n : Int)) (h : pqI t fl false n x = R) (k : zG t (pqF t fl false x).2 15 = true) : pqI t fl false (n - 1) ⟨x.hs.set (pqK t fl x) (pqF t fl false x).1, x.bs ++ [xH (pqH t fl x) (pqP t x)] ++ [jU t (qe t (pqF t fl false x).2) 40], yG t (qe t (pqF t fl false x).2) 40⟩ = R := by
 obtain ⟨m, rfl⟩ : ∃ m, n = m + 1 := ⟨n - 1, by omega⟩
 exact pq_g h k
theorem vE {t : List Int} {fl : Int} {x : Pq} {n : Nat} {R : Pq} (h0 : (0 : Int) < (n : Int)) (h : pqI t fl true n x = R) : pqI t fl true (n - 1) ⟨x.hs.set (pqK t fl x) (pqF t fl true x).1, x.bs ++ [xH (pqH t fl x) (pqP t x)], (pqF t fl true x).2⟩ = R := pq_next h0 h
theorem pq_0 {t : List Int} {fl : Int} {reg : Bool} {x : Pq} {n : Nat} {R : Pq} (h0 : ¬ (0 : Int) < (n : Int)) (h : pqI t fl reg n x = R) : x = R := by
 obtain rfl : n = 0 := by omega
 exact h
theorem pq_hk {fl : Nat} {t : List Int} {x : Pq} (h : ∀ y ∈ x.hs, yJ y) (hl : x.hs.length = fl) (h0 : 1 ≤ fl) (h1 : fl ≤ 10) : (pqH t fl x).k = 1 ∨ (pqH t fl x).k = 2 := by
 have := (pq_k (t := t) (x := x) h0 h1).2.2
 refine h _ ?_
 unfold pqH
 rw [List.getD_eq_getElem?_getD, List.getElem?_eq_getElem (by omega)]
 exact List.getElem_mem _
theorem pq_pl (t : List Int) (x : Pq) : (pqP t x).length ≤ 100000 := by
 have := qQ t (qe t x.a) (q7 .add .i64 6 1) (by decide) (by decide)
 have e : q7 .add .i64 6 1 = 7 := rfl
 unfold pqP x9
 rw [bytesL_len]
 omega
theorem hds_le (t : List Int) (a i : Nat) : 0 + i * 15 ≤ ((zT t a i).1.flatMap Hd.cs).length := by rw [qr Hd.cs_len, z6]; omega
theorem hds_ge (t : List Int) (a i : Nat) : ((zT t a i).1.flatMap Hd.cs).length ≤ i * 15 := by rw [qr Hd.cs_len, z6]; exact Nat.le_refl _
theorem qj (l : List (List UInt8)) (b : List UInt8) : l.map bv ++ [bv b] = (l ++ [b]).map bv := by rw [List.map_append]; rfl
theorem qn (l : List (List UInt8)) (b c : List UInt8) : l.map bv ++ [bv b] ++ [bv c] = (l ++ [b] ++ [c]).map bv := by rw [qj, qj]
theorem wH {t : List Int} {a : Nat} (h : qi t a 15 = q7 .sub .i64 15 1) : zG t a 15 = true := (xB _ _ _).2 h
theorem wI {t : List Int} {a : Nat} (h : ¬ qi t a 15 = q7 .sub .i64 15 1) : zG t a 15 = false := Bool.eq_false_iff.2 fun k => h ((xB _ _ _).1 k)
theorem pq_ix {t : List Int} {fl : Int} {x : Pq} : 0 + (qi t x.a fl).toNat * 15 = pqK t fl x * 15 := Nat.zero_add _
theorem pq_le {t : List Int} {fl : Nat} {x : Pq} (hl : x.hs.length = fl) (h0 : 1 ≤ fl) (h1 : fl ≤ 10) : 0 + (qi t x.a fl).toNat * 15 + 15 ≤ (x.hs.flatMap Hd.cs).length := by
 rw [pq_ix, qr Hd.cs_len]
 have := (pq_k (t := t) (x := x) h0 h1).2.2
 omega
theorem packets_t (t : List Int) (a : Nat) (fl : Nat) (cnt : Int) (h0 : 1 ≤ fl) (h1 : fl ≤ 10) (h2 : 0 ≤ cnt) (h3 : cnt ≤ 100) (ht : t.length ≤ 400) (p : Nm) : LP Tryz.prog G 11 [.ptr p 0, iAV fl, iAV cnt, .bool true] [(p, z4 t a)] (fun _ => (bbv (jw t a fl cnt true).bs, [(p, z4 t (jw t a fl cnt true).a)])) := by
 have hm : q7 .add .i64 cnt 1 = cnt + 1 := by (exact T.num)
 have hb := qQ t (zT t a fl).2 (q7 .add .i64 cnt 1) (by omega) (by omega)
 have hN : qi t (zT t a fl).2 (q7 .add .i64 cnt 1) = (wD t a fl cnt : Int) := by unfold wD; omega
 have hNb : wD t a fl cnt ≤ 101 := by unfold wD; omega
 have hq := fun x => (pq_k (t := t) (fl := fl) (x := x) h0 h1).1
 have hq2 := fun x => (pq_k (t := t) (fl := fl) (x := x) h0 h1).2.1
 have hq3 := fun x => (pq_k (t := t) (fl := fl) (x := x) h0 h1).2.2
 refine goW [] Tryz.func11 rfl ?_
 conv => whnf
 repeat' ((first | (show SQ _ _ _ (.loop _) _ _ _; have hi : fl = i := (by omega); subst hi) | exact Nm.b 0 | (refine And.intro ?_ ?_; (focus (first | exact hds_le _ _ _ | exact pq_le (by assumption) h0 h1 | exact T.kx | exact T.side))) | (show LC _ _ _ _ _ _; first | (apply LC.upd (yy t _ _ ht _); (repeat first | refine goH ?_ | apply LH.here | apply LH.next); refine ⟨rfl, ?_⟩) | (apply LC.upd (dbytes_c t _ 6 (by decide) (by decide) ht _); (repeat first | refine goH ?_ | apply LH.here | apply LH.next); refine ⟨rfl, ?_⟩) | (apply LC.upd (zZ t _ _ ht _); (repeat first | refine goH ?_ | apply LH.here | apply LH.next); refine ⟨rfl, ?_⟩) | refine LC.pure (yr (pqH t fl x) (pqP t x) (pq_hk (by assumption) (by assumption) h0 h1) (pq_pl t x)) ?_ | (apply LC.upd (follow_c t (pqA t x) (pqH t fl x) true ht _); (repeat first | refine goH ?_ | apply LH.here | apply LH.next); refine ⟨rfl, ?_⟩) | refine goE ?_) | (show AC _ _ _; first | (refine AC.recd Hd.cs_len (pqK t fl x) Hd.z pq_ix rfl ?_ ?_; (focus (have := hq3 x; omega)))) | (show AQ _ _; first | (refine AQ.full ?_ ?_; (focus exact hds_ge _ _ _)) | (refine AQ.rsetW Hd.cs_len (i := pqK t fl x) Hd.z (pqF t fl true x).1 ?_ ?_ ?_ ?_; (focus (have := hq3 x; omega)); (focus (exact pq_ix)); (focus rfl))) | refine T.s ?_ | ((first | apply goB | apply AB.dec | apply AB.gen) <;> intro h <;> try (exfalso; omega)) | refine LQ.mk fun r => ?_ | (show SQ _ _ _ (.loop _) _ _ _; first | (apply goO tQ [] 3 (S := Nat × Nm) [0, 1, 2, 3] (fun (i, q) => ⟨[(9, .vw q 0 i 15), (10, .int .i64 i)], [(p, z4 t (zT t a i).2), (q, ⟨50, (zT t a i).1.flatMap Hd.cs⟩)], i ≤ fl, fl - i⟩) ((0, _)) (by rfl); (focus ((repeat' first | exact trivial | (refine And.intro ?_ ?_) | exact LB.nil | (with_reducible exact LB.refl) | (apply LB.cons; (repeat first | refine goH ?_ | apply LH.here | apply LH.next); refine And.intro ?_ ?_; (focus (try (first | (with_reducible rfl) | (refine congrArg (Pl.mk _) ?_; (first | (with_reducible rfl) | exact qh _ _ _ | exact qj _ _ | rfl)) | rfl | (with_reducible refine congrArg (Pl.mk _) ?_))))) | assumption | (exact vE (by assumption) (by assumption)) | (exact ze (by assumption) (by have := hq3 x; omega)) | (exact qX _ _ _) | (exact z6 _ _ _) | (rw [List.length_set]; assumption) | (exact hq _) | (exact hq2 _) | (first | (focus (apply Eq.trans; (conv => lhs; whnf); (conv => rhs; whnf); done)) | rfl | ((conv => lhs; whnf); first | rfl | (refine congrArg (AV.int _) ?_; (exact T.num)) | (refine congrArg AV.bool ?_; (exact T.num)) | (refine vwc ?_; first | (exact T.num) | (first | (with_reducible rfl) | exact qh _ _ _ | exact qj _ _ | rfl)) | (refine qc ?_ ?_ <;> first | (exact T.num) | (first | (with_reducible rfl) | exact qh _ _ _ | exact qj _ _ | rfl)) | (first | (with_reducible rfl) | exact qh _ _ _ | exact qj _ _ | rfl))) | (exact T.num) | (dsimp only; (exact T.num)) | (first | (with_reducible rfl) | exact qh _ _ _ | exact qj _ _ | rfl)); done)); rintro ⟨i, q⟩ hok; (try dsimp only at hok)) | (apply goO tQ [] 8 (S := Nat × Pq × Nm × Nm) [0, 1, 3] (fun (n, x, q, r) => ⟨[(9, .vw q 0 fl 15), (11, .vw r 0 x.bs.length 1), (12, .int .i64 n)], [(p, z4 t x.a), (q, ⟨50, x.hs.flatMap Hd.cs⟩), (r, ⟨23, x.bs.map bv⟩)], n ≤ 101 ∧ x.hs.length = fl ∧ (∀ y ∈ x.hs, yJ y) ∧ (0 ≤ qi t x.a fl) ∧ qi t x.a fl < fl ∧ x.bs.length ≤ 1000 - n ∧ pqI t fl true n x = jw t a fl cnt true, n⟩) ((wD t a fl cnt, ⟨(zT t a fl).1, [], qe t (zT t a fl).2⟩, _, _)) (by rfl); (focus ((repeat' first | exact trivial | (refine And.intro ?_ ?_) | exact LB.nil | (with_reducible exact LB.refl) | (apply LB.cons; (repeat first | refine goH ?_ | apply LH.here | apply LH.next); refine And.intro ?_ ?_; (focus (try (first | (with_reducible rfl) | (refine congrArg (Pl.mk _) ?_; (first | (with_reducible rfl) | exact qh _ _ _ | exact qj _ _ | rfl)) | rfl | (with_reducible refine congrArg (Pl.mk _) ?_))))) | assumption | (exact vE (by assumption) (by assumption)) | (exact ze (by assumption) (by have := hq3 x; omega)) | (exact qX _ _ _) | (exact z6 _ _ _) | (rw [List.length_set]; assumption) | (exact hq _) | (exact hq2 _) | (first | (focus (apply Eq.trans; (conv => lhs; whnf); (conv => rhs; whnf); done)) | rfl | ((conv => lhs; whnf); first | rfl | (refine congrArg (AV.int _) ?_; (exact T.num)) | (refine congrArg AV.bool ?_; (exact T.num)) | (refine vwc ?_; first | (exact T.num) | (first | (with_reducible rfl) | exact qh _ _ _ | exact qj _ _ | rfl)) | (refine qc ?_ ?_ <;> first | (exact T.num) | (first | (with_reducible rfl) | exact qh _ _ _ | exact qj _ _ | rfl)) | (first | (with_reducible rfl) | exact qh _ _ _ | exact qj _ _ | rfl))) | (exact T.num) | (dsimp only; (exact T.num)) | (first | (with_reducible rfl) | exact qh _ _ _ | exact qj _ _ | rfl)); done)); rintro ⟨n, x, q, r⟩ ⟨hk, hk, hk, hk, hk, hk, hok⟩)) | (show SQ _ _ _ _ _ _ _; first | refine SQ.adopt 9 15 50 (by rfl) fun q => ?_ | refine SQ.adopt 11 1 23 (by rfl) fun q => ?_ | refine gX 11 [4, 6] [0, 1, 2, 3, 4, 5, 6, 7, 8, 9, 10] [p] ?_) | (show AtL _ _ _ _ _ _ _ _ _ _; first | (apply AtL.mk' (id := 3) (S := Nat × Nm) ((i + 1, _)); (repeat' first | exact trivial | (refine And.intro ?_ ?_) | exact LB.nil | (with_reducible exact LB.refl) | (apply LB.cons; (repeat first | refine goH ?_ | apply LH.here | apply LH.next); refine And.intro ?_ ?_; (focus (try (first | (with_reducible rfl) | (refine congrArg (Pl.mk _) ?_; (first | (with_reducible rfl) | exact qh _ _ _ | exact qj _ _ | rfl)) | rfl | (with_reducible refine congrArg (Pl.mk _) ?_))))) | assumption | (exact vE (by assumption) (by assumption)) | (exact ze (by assumption) (by have := hq3 x; omega)) | (exact qX _ _ _) | (exact z6 _ _ _) | (rw [List.length_set]; assumption) | (exact hq _) | (exact hq2 _) | (first | (focus (apply Eq.trans; (conv => lhs; whnf); (conv => rhs; whnf); done)) | rfl | ((conv => lhs; whnf); first | rfl | (refine congrArg (AV.int _) ?_; (exact T.num)) | (refine congrArg AV.bool ?_; (exact T.num)) | (refine vwc ?_; first | (exact T.num) | (first | (with_reducible rfl) | exact qh _ _ _ | exact qj _ _ | rfl)) | (refine qc ?_ ?_ <;> first | (exact T.num) | (first | (with_reducible rfl) | exact qh _ _ _ | exact qj _ _ | rfl)) | (first | (with_reducible rfl) | exact qh _ _ _ | exact qj _ _ | rfl))) | (exact T.num) | (dsimp only; (exact T.num)) | (first | (with_reducible rfl) | exact qh _ _ _ | exact qj _ _ | rfl)); done) | (apply AtL.mk' (id := 8) (S := Nat × Pq × Nm × Nm) ((n - 1, ⟨x.hs.set (pqK t fl x) (pqF t fl true x).1, x.bs ++ [xH (pqH t fl x) (pqP t x)], (pqF t fl true x).2⟩, _, _)); (repeat' first | exact trivial | (refine And.intro ?_ ?_) | exact LB.nil | (with_reducible exact LB.refl) | (apply LB.cons; (repeat first | refine goH ?_ | apply LH.here | apply LH.next); refine And.intro ?_ ?_; (focus (try (first | (with_reducible rfl) | (refine congrArg (Pl.mk _) ?_; (first | (with_reducible rfl) | exact qh _ _ _ | exact qj _ _ | rfl)) | rfl | (with_reducible refine congrArg (Pl.mk _) ?_))))) | assumption | (exact vE (by assumption) (by assumption)) | (exact ze (by assumption) (by have := hq3 x; omega)) | (exact qX _ _ _) | (exact z6 _ _ _) | (rw [List.length_set]; assumption) | (exact hq _) | (exact hq2 _) | (first | (focus (apply Eq.trans; (conv => lhs; whnf); (conv => rhs; whnf); done)) | rfl | ((conv => lhs; whnf); first | rfl | (refine congrArg (AV.int _) ?_; (exact T.num)) | (refine congrArg AV.bool ?_; (exact T.num)) | (refine vwc ?_; first | (exact T.num) | (first | (with_reducible rfl) | exact qh _ _ _ | exact qj _ _ | rfl)) | (refine qc ?_ ?_ <;> first | (exact T.num) | (first | (with_reducible rfl) | exact qh _ _ _ | exact qj _ _ | rfl)) | (first | (with_reducible rfl) | exact qh _ _ _ | exact qj _ _ | rfl))) | (exact T.num) | (dsimp only; (exact T.num)) | (first | (with_reducible rfl) | exact qh _ _ _ | exact qj _ _ | rfl)); done) | (apply AtL.mk' (id := 3) (S := Nat × Nm) ((i + 1, _)); (repeat' first | exact trivial | (refine And.intro ?_ ?_) | exact LB.nil | (with_reducible exact LB.refl) | (apply LB.cons; (repeat first | refine goH ?_ | apply LH.here | apply LH.next); refine And.intro ?_ ?_; (focus (try (first | (with_reducible rfl) | (refine congrArg (Pl.mk _) ?_; (first | (with_reducible rfl) | exact qh _ _ _ | exact qj _ _ | rfl)) | rfl | (with_reducible refine congrArg (Pl.mk _) ?_))))) | assumption | (exact vE (by assumption) (by assumption)) | (exact ze (by assumption) (by have := hq3 x; omega)) | (exact qX _ _ _) | (exact z6 _ _ _) | (rw [List.length_set]; assumption) | (exact hq _) | (exact hq2 _) | (first | (focus (apply Eq.trans; (conv => lhs; whnf); (conv => rhs; whnf); done)) | rfl | ((conv => lhs; whnf); first | rfl | (refine congrArg (AV.int _) ?_; (exact T.num)) | (refine congrArg AV.bool ?_; (exact T.num)) | (refine vwc ?_; first | (exact T.num) | (first | (with_reducible rfl) | exact qh _ _ _ | exact qj _ _ | rfl)) | (refine qc ?_ ?_ <;> first | (exact T.num) | (first | (with_reducible rfl) | exact qh _ _ _ | exact qj _ _ | rfl)) | (first | (with_reducible rfl) | exact qh _ _ _ | exact qj _ _ | rfl))) | (exact T.num) | (dsimp only; (exact T.num)) | (first | (with_reducible rfl) | exact qh _ _ _ | exact qj _ _ | rfl))) | (apply AtL.mk' (id := 8) (S := Nat × Pq × Nm × Nm) ((n - 1, ⟨x.hs.set (pqK t fl x) (pqF t fl true x).1, x.bs ++ [xH (pqH t fl x) (pqP t x)], (pqF t fl true x).2⟩, _, _)); (repeat' first | exact trivial | (refine And.intro ?_ ?_) | exact LB.nil | (with_reducible exact LB.refl) | (apply LB.cons; (repeat first | refine goH ?_ | apply LH.here | apply LH.next); refine And.intro ?_ ?_; (focus (try (first | (with_reducible rfl) | (refine congrArg (Pl.mk _) ?_; (first | (with_reducible rfl) | exact qh _ _ _ | exact qj _ _ | rfl)) | rfl | (with_reducible refine congrArg (Pl.mk _) ?_))))) | assumption | (exact vE (by assumption) (by assumption)) | (exact ze (by assumption) (by have := hq3 x; omega)) | (exact qX _ _ _) | (exact z6 _ _ _) | (rw [List.length_set]; assumption) | (exact hq _) | (exact hq2 _) | (first | (focus (apply Eq.trans; (conv => lhs; whnf); (conv => rhs; whnf); done)) | rfl | ((conv => lhs; whnf); first | rfl | (refine congrArg (AV.int _) ?_; (exact T.num)) | (refine congrArg AV.bool ?_; (exact T.num)) | (refine vwc ?_; first | (exact T.num) | (first | (with_reducible rfl) | exact qh _ _ _ | exact qj _ _ | rfl)) | (refine qc ?_ ?_ <;> first | (exact T.num) | (first | (with_reducible rfl) | exact qh _ _ _ | exact qj _ _ | rfl)) | (first | (with_reducible rfl) | exact qh _ _ _ | exact qj _ _ | rfl))) | (exact T.num) | (dsimp only; (exact T.num)) | (first | (with_reducible rfl) | exact qh _ _ _ | exact qj _ _ | rfl)))) | exact T.z | fail) <;> conv => whnf)
 all_goals (try dsimp only)
 all_goals
   rw [← pq_0 (x := x) (n := n) (fl := (fl : Int)) (reg := true) (t := t) (R := jw t a fl cnt true) (by assumption) (by assumption)]
   refine RL.rowBB ?_
   (repeat first | refine goH ?_ | apply LH.here | apply LH.next)
   refine ⟨rfl, rfl, ?_⟩
   (repeat' first | exact LB.nil | (with_reducible exact LB.refl) | (apply LB.cons; (repeat first | refine goH ?_ | apply LH.here | apply LH.next); refine And.intro ?_ ?_; (focus (try (first | (with_reducible rfl) | (refine congrArg (Pl.mk _) ?_; (first | rfl | (simp; done))) | rfl | (with_reducible refine congrArg (Pl.mk _) ?_))))))
theorem packets_f (t : List Int) (a : Nat) (fl : Nat) (cnt : Int) (h0 : 1 ≤ fl) (h1 : fl ≤ 10) (h2 : 0 ≤ cnt) (h3 : cnt ≤ 100) (ht : t.length ≤ 400) (p : Nm) : LP Tryz.prog G 11 [.ptr p 0, iAV fl, iAV cnt, .bool false] [(p, z4 t a)] (fun _ => (bbv (jw t a fl cnt false).bs, [(p, z4 t (jw t a fl cnt false).a)])) := by
 have hm : q7 .add .i64 cnt 1 = cnt + 1 := by (exact T.num)
 have hb := qQ t (zT t a fl).2 (q7 .add .i64 cnt 1) (by omega) (by omega)
 have hN : qi t (zT t a fl).2 (q7 .add .i64 cnt 1) = (wD t a fl cnt : Int) := by unfold wD; omega
 have hNb : wD t a fl cnt ≤ 101 := by unfold wD; omega
 have hq := fun x => (pq_k (t := t) (fl := fl) (x := x) h0 h1).1
 have hq2 := fun x => (pq_k (t := t) (fl := fl) (x := x) h0 h1).2.1
 have hq3 := fun x => (pq_k (t := t) (fl := fl) (x := x) h0 h1).2.2
 refine goW [] Tryz.func11 rfl ?_
 conv => whnf
 repeat' ((first | (show SQ _ _ _ (.loop _) _ _ _; have hi : fl = i := (by omega); subst hi) | exact Nm.b 0 | (refine And.intro ?_ ?_; (focus (first | exact hds_le _ _ _ | exact pq_le (by assumption) h0 h1 | exact T.kx | exact T.side))) | (show LC _ _ _ _ _ _; first | (apply LC.upd (yy t _ _ ht _); (repeat first | refine goH ?_ | apply LH.here | apply LH.next); refine ⟨rfl, ?_⟩) | (apply LC.upd (dbytes_c t _ 6 (by decide) (by decide) ht _); (repeat first | refine goH ?_ | apply LH.here | apply LH.next); refine ⟨rfl, ?_⟩) | (apply LC.upd (dsome_c t _ 40 (by decide) (by decide) ht _); (repeat first | refine goH ?_ | apply LH.here | apply LH.next); refine ⟨rfl, ?_⟩) | (apply LC.upd (zZ t _ _ ht _); (repeat first | refine goH ?_ | apply LH.here | apply LH.next); refine ⟨rfl, ?_⟩) | (apply LC.upd (vH t _ _ ht _); (repeat first | refine goH ?_ | apply LH.here | apply LH.next); refine ⟨rfl, ?_⟩) | refine LC.pure (yr (pqH t fl x) (pqP t x) (pq_hk (by assumption) (by assumption) h0 h1) (pq_pl t x)) ?_ | (apply LC.upd (follow_c t (pqA t x) (pqH t fl x) false ht _); (repeat first | refine goH ?_ | apply LH.here | apply LH.next); refine ⟨rfl, ?_⟩) | refine goE ?_) | (show AC _ _ _; first | (refine AC.recd Hd.cs_len (pqK t fl x) Hd.z pq_ix rfl ?_ ?_; (focus (have := hq3 x; omega)))) | (show AQ _ _; first | (refine AQ.full ?_ ?_; (focus exact hds_ge _ _ _)) | (refine AQ.rsetW Hd.cs_len (i := pqK t fl x) Hd.z (pqF t fl false x).1 ?_ ?_ ?_ ?_; (focus (have := hq3 x; omega)); (focus (exact pq_ix)); (focus rfl))) | refine T.s ?_ | ((first | apply goB | apply AB.dec | apply AB.gen) <;> intro h <;> try (exfalso; omega)) | refine LQ.mk fun r => ?_ | (show SQ _ _ _ (.loop _) _ _ _; first | (apply goO tQ [] 3 (S := Nat × Nm) [0, 1, 2, 3] (fun (i, q) => ⟨[(9, .vw q 0 i 15), (10, .int .i64 i)], [(p, z4 t (zT t a i).2), (q, ⟨50, (zT t a i).1.flatMap Hd.cs⟩)], i ≤ fl, fl - i⟩) ((0, _)) (by rfl); (focus ((repeat' first | exact trivial | (refine And.intro ?_ ?_) | exact LB.nil | (with_reducible exact LB.refl) | (apply LB.cons; (repeat first | refine goH ?_ | apply LH.here | apply LH.next); refine And.intro ?_ ?_; (focus (try (first | (with_reducible rfl) | (refine congrArg (Pl.mk _) ?_; (first | (with_reducible rfl) | exact qh _ _ _ | exact qn _ _ _ | exact qj _ _ | rfl)) | rfl | (with_reducible refine congrArg (Pl.mk _) ?_))))) | assumption | (exact wB (by assumption) (by assumption) (wI (by assumption))) | (exact wA (by assumption) (by assumption) (wH (by assumption))) | (exact ze (by assumption) (by have := hq3 x; omega)) | (exact qX _ _ _) | (exact z6 _ _ _) | (rw [List.length_set]; assumption) | (exact hq _) | (exact hq2 _) | (first | (focus (apply Eq.trans; (conv => lhs; whnf); (conv => rhs; whnf); done)) | rfl | ((conv => lhs; whnf); first | rfl | (refine congrArg (AV.int _) ?_; (exact T.num)) | (refine congrArg AV.bool ?_; (exact T.num)) | (refine vwc ?_; first | (exact T.num) | (first | (with_reducible rfl) | exact qh _ _ _ | exact qn _ _ _ | exact qj _ _ | rfl)) | (refine qc ?_ ?_ <;> first | (exact T.num) | (first | (with_reducible rfl) | exact qh _ _ _ | exact qn _ _ _ | exact qj _ _ | rfl)) | (first | (with_reducible rfl) | exact qh _ _ _ | exact qn _ _ _ | exact qj _ _ | rfl))) | (exact T.num) | (dsimp only; (exact T.num)) | (first | (with_reducible rfl) | exact qh _ _ _ | exact qn _ _ _ | exact qj _ _ | rfl)); done)); rintro ⟨i, q⟩ hok; (try dsimp only at hok)) | (apply goO tQ [] 8 (S := Nat × Pq × Nm × Nm) [0, 1, 3] (fun (n, x, q, r) => ⟨[(9, .vw q 0 fl 15), (11, .vw r 0 x.bs.length 1), (12, .int .i64 n)], [(p, z4 t x.a), (q, ⟨50, x.hs.flatMap Hd.cs⟩), (r, ⟨23, x.bs.map bv⟩)], n ≤ 101 ∧ x.hs.length = fl ∧ (∀ y ∈ x.hs, yJ y) ∧ (0 ≤ qi t x.a fl) ∧ qi t x.a fl < fl ∧ x.bs.length ≤ 1000 - 2 * n ∧ pqI t fl false n x = jw t a fl cnt false, n⟩) ((wD t a fl cnt, ⟨(zT t a fl).1, [], qe t (zT t a fl).2⟩, _, _)) (by rfl); (focus ((repeat' first | exact trivial | (refine And.intro ?_ ?_) | exact LB.nil | (with_reducible exact LB.refl) | (apply LB.cons; (repeat first | refine goH ?_ | apply LH.here | apply LH.next); refine And.intro ?_ ?_; (focus (try (first | (with_reducible rfl) | (refine congrArg (Pl.mk _) ?_; (first | (with_reducible rfl) | exact qh _ _ _ | exact qn _ _ _ | exact qj _ _ | rfl)) | rfl | (with_reducible refine congrArg (Pl.mk _) ?_))))) | assumption | (exact wB (by assumption) (by assumption) (wI (by assumption))) | (exact wA (by assumption) (by assumption) (wH (by assumption))) | (exact ze (by assumption) (by have := hq3 x; omega)) | (exact qX _ _ _) | (exact z6 _ _ _) | (rw [List.length_set]; assumption) | (exact hq _) | (exact hq2 _) | (first | (focus (apply Eq.trans; (conv => lhs; whnf); (conv => rhs; whnf); done)) | rfl | ((conv => lhs; whnf); first | rfl | (refine congrArg (AV.int _) ?_; (exact T.num)) | (refine congrArg AV.bool ?_; (exact T.num)) | (refine vwc ?_; first | (exact T.num) | (first | (with_reducible rfl) | exact qh _ _ _ | exact qn _ _ _ | exact qj _ _ | rfl)) | (refine qc ?_ ?_ <;> first | (exact T.num) | (first | (with_reducible rfl) | exact qh _ _ _ | exact qn _ _ _ | exact qj _ _ | rfl)) | (first | (with_reducible rfl) | exact qh _ _ _ | exact qn _ _ _ | exact qj _ _ | rfl))) | (exact T.num) | (dsimp only; (exact T.num)) | (first | (with_reducible rfl) | exact qh _ _ _ | exact qn _ _ _ | exact qj _ _ | rfl)); done)); rintro ⟨n, x, q, r⟩ ⟨hk, hk, hk, hk, hk, hk, hok⟩)) | (show SQ _ _ _ _ _ _ _; first | refine SQ.adopt 9 15 50 (by rfl) fun q => ?_ | refine SQ.adopt 11 1 23 (by rfl) fun q => ?_ | refine gX 11 [4, 6] [0, 1, 2, 3, 4, 5, 6, 7, 8, 9, 10] [p] ?_) | (show AtL _ _ _ _ _ _ _ _ _ _; first | (apply AtL.mk' (id := 3) (S := Nat × Nm) ((i + 1, _)); (repeat' first | exact trivial | (refine And.intro ?_ ?_) | exact LB.nil | (with_reducible exact LB.refl) | (apply LB.cons; (repeat first | refine goH ?_ | apply LH.here | apply LH.next); refine And.intro ?_ ?_; (focus (try (first | (with_reducible rfl) | (refine congrArg (Pl.mk _) ?_; (first | (with_reducible rfl) | exact qh _ _ _ | exact qn _ _ _ | exact qj _ _ | rfl)) | rfl | (with_reducible refine congrArg (Pl.mk _) ?_))))) | assumption | (exact wB (by assumption) (by assumption) (wI (by assumption))) | (exact wA (by assumption) (by assumption) (wH (by assumption))) | (exact ze (by assumption) (by have := hq3 x; omega)) | (exact qX _ _ _) | (exact z6 _ _ _) | (rw [List.length_set]; assumption) | (exact hq _) | (exact hq2 _) | (first | (focus (apply Eq.trans; (conv => lhs; whnf); (conv => rhs; whnf); done)) | rfl | ((conv => lhs; whnf); first | rfl | (refine congrArg (AV.int _) ?_; (exact T.num)) | (refine congrArg AV.bool ?_; (exact T.num)) | (refine vwc ?_; first | (exact T.num) | (first | (with_reducible rfl) | exact qh _ _ _ | exact qn _ _ _ | exact qj _ _ | rfl)) | (refine qc ?_ ?_ <;> first | (exact T.num) | (first | (with_reducible rfl) | exact qh _ _ _ | exact qn _ _ _ | exact qj _ _ | rfl)) | (first | (with_reducible rfl) | exact qh _ _ _ | exact qn _ _ _ | exact qj _ _ | rfl))) | (exact T.num) | (dsimp only; (exact T.num)) | (first | (with_reducible rfl) | exact qh _ _ _ | exact qn _ _ _ | exact qj _ _ | rfl)); done) | (apply AtL.mk' (id := 8) (S := Nat × Pq × Nm × Nm) ((n - 1, ⟨x.hs.set (pqK t fl x) (pqF t fl false x).1, x.bs ++ [xH (pqH t fl x) (pqP t x)] ++ [jU t (qe t (pqF t fl false x).2) 40], yG t (qe t (pqF t fl false x).2) 40⟩, _, _)); (repeat' first | exact trivial | (refine And.intro ?_ ?_) | exact LB.nil | (with_reducible exact LB.refl) | (apply LB.cons; (repeat first | refine goH ?_ | apply LH.here | apply LH.next); refine And.intro ?_ ?_; (focus (try (first | (with_reducible rfl) | (refine congrArg (Pl.mk _) ?_; (first | (with_reducible rfl) | exact qh _ _ _ | exact qn _ _ _ | exact qj _ _ | rfl)) | rfl | (with_reducible refine congrArg (Pl.mk _) ?_))))) | assumption | (exact wB (by assumption) (by assumption) (wI (by assumption))) | (exact wA (by assumption) (by assumption) (wH (by assumption))) | (exact ze (by assumption) (by have := hq3 x; omega)) | (exact qX _ _ _) | (exact z6 _ _ _) | (rw [List.length_set]; assumption) | (exact hq _) | (exact hq2 _) | (first | (focus (apply Eq.trans; (conv => lhs; whnf); (conv => rhs; whnf); done)) | rfl | ((conv => lhs; whnf); first | rfl | (refine congrArg (AV.int _) ?_; (exact T.num)) | (refine congrArg AV.bool ?_; (exact T.num)) | (refine vwc ?_; first | (exact T.num) | (first | (with_reducible rfl) | exact qh _ _ _ | exact qn _ _ _ | exact qj _ _ | rfl)) | (refine qc ?_ ?_ <;> first | (exact T.num) | (first | (with_reducible rfl) | exact qh _ _ _ | exact qn _ _ _ | exact qj _ _ | rfl)) | (first | (with_reducible rfl) | exact qh _ _ _ | exact qn _ _ _ | exact qj _ _ | rfl))) | (exact T.num) | (dsimp only; (exact T.num)) | (first | (with_reducible rfl) | exact qh _ _ _ | exact qn _ _ _ | exact qj _ _ | rfl)); done) | (apply AtL.mk' (id := 8) (S := Nat × Pq × Nm × Nm) ((n - 1, ⟨x.hs.set (pqK t fl x) (pqF t fl false x).1, x.bs ++ [xH (pqH t fl x) (pqP t x)], qe t (pqF t fl false x).2⟩, _, _)); (repeat' first | exact trivial | (refine And.intro ?_ ?_) | exact LB.nil | (with_reducible exact LB.refl) | (apply LB.cons; (repeat first | refine goH ?_ | apply LH.here | apply LH.next); refine And.intro ?_ ?_; (focus (try (first | (with_reducible rfl) | (refine congrArg (Pl.mk _) ?_; (first | (with_reducible rfl) | exact qh _ _ _ | exact qn _ _ _ | exact qj _ _ | rfl)) | rfl | (with_reducible refine congrArg (Pl.mk _) ?_))))) | assumption | (exact wB (by assumption) (by assumption) (wI (by assumption))) | (exact wA (by assumption) (by assumption) (wH (by assumption))) | (exact ze (by assumption) (by have := hq3 x; omega)) | (exact qX _ _ _) | (exact z6 _ _ _) | (rw [List.length_set]; assumption) | (exact hq _) | (exact hq2 _) | (first | (focus (apply Eq.trans; (conv => lhs; whnf); (conv => rhs; whnf); done)) | rfl | ((conv => lhs; whnf); first | rfl | (refine congrArg (AV.int _) ?_; (exact T.num)) | (refine congrArg AV.bool ?_; (exact T.num)) | (refine vwc ?_; first | (exact T.num) | (first | (with_reducible rfl) | exact qh _ _ _ | exact qn _ _ _ | exact qj _ _ | rfl)) | (refine qc ?_ ?_ <;> first | (exact T.num) | (first | (with_reducible rfl) | exact qh _ _ _ | exact qn _ _ _ | exact qj _ _ | rfl)) | (first | (with_reducible rfl) | exact qh _ _ _ | exact qn _ _ _ | exact qj _ _ | rfl))) | (exact T.num) | (dsimp only; (exact T.num)) | (first | (with_reducible rfl) | exact qh _ _ _ | exact qn _ _ _ | exact qj _ _ | rfl)); done) | (apply AtL.mk' (id := 3) (S := Nat × Nm) ((i + 1, _)); (repeat' first | exact trivial | (refine And.intro ?_ ?_) | exact LB.nil | (with_reducible exact LB.refl) | (apply LB.cons; (repeat first | refine goH ?_ | apply LH.here | apply LH.next); refine And.intro ?_ ?_; (focus (try (first | (with_reducible rfl) | (refine congrArg (Pl.mk _) ?_; (first | (with_reducible rfl) | exact qh _ _ _ | exact qn _ _ _ | exact qj _ _ | rfl)) | rfl | (with_reducible refine congrArg (Pl.mk _) ?_))))) | assumption | (exact wB (by assumption) (by assumption) (wI (by assumption))) | (exact wA (by assumption) (by assumption) (wH (by assumption))) | (exact ze (by assumption) (by have := hq3 x; omega)) | (exact qX _ _ _) | (exact z6 _ _ _) | (rw [List.length_set]; assumption) | (exact hq _) | (exact hq2 _) | (first | (focus (apply Eq.trans; (conv => lhs; whnf); (conv => rhs; whnf); done)) | rfl | ((conv => lhs; whnf); first | rfl | (refine congrArg (AV.int _) ?_; (exact T.num)) | (refine congrArg AV.bool ?_; (exact T.num)) | (refine vwc ?_; first | (exact T.num) | (first | (with_reducible rfl) | exact qh _ _ _ | exact qn _ _ _ | exact qj _ _ | rfl)) | (refine qc ?_ ?_ <;> first | (exact T.num) | (first | (with_reducible rfl) | exact qh _ _ _ | exact qn _ _ _ | exact qj _ _ | rfl)) | (first | (with_reducible rfl) | exact qh _ _ _ | exact qn _ _ _ | exact qj _ _ | rfl))) | (exact T.num) | (dsimp only; (exact T.num)) | (first | (with_reducible rfl) | exact qh _ _ _ | exact qn _ _ _ | exact qj _ _ | rfl))) | (apply AtL.mk' (id := 8) (S := Nat × Pq × Nm × Nm) ((n - 1, ⟨x.hs.set (pqK t fl x) (pqF t fl false x).1, x.bs ++ [xH (pqH t fl x) (pqP t x)] ++ [jU t (qe t (pqF t fl false x).2) 40], yG t (qe t (pqF t fl false x).2) 40⟩, _, _)); (repeat' first | exact trivial | (refine And.intro ?_ ?_) | exact LB.nil | (with_reducible exact LB.refl) | (apply LB.cons; (repeat first | refine goH ?_ | apply LH.here | apply LH.next); refine And.intro ?_ ?_; (focus (try (first | (with_reducible rfl) | (refine congrArg (Pl.mk _) ?_; (first | (with_reducible rfl) | exact qh _ _ _ | exact qn _ _ _ | exact qj _ _ | rfl)) | rfl | (with_reducible refine congrArg (Pl.mk _) ?_))))) | assumption | (exact wB (by assumption) (by assumption) (wI (by assumption))) | (exact wA (by assumption) (by assumption) (wH (by assumption))) | (exact ze (by assumption) (by have := hq3 x; omega)) | (exact qX _ _ _) | (exact z6 _ _ _) | (rw [List.length_set]; assumption) | (exact hq _) | (exact hq2 _) | (first | (focus (apply Eq.trans; (conv => lhs; whnf); (conv => rhs; whnf); done)) | rfl | ((conv => lhs; whnf); first | rfl | (refine congrArg (AV.int _) ?_; (exact T.num)) | (refine congrArg AV.bool ?_; (exact T.num)) | (refine vwc ?_; first | (exact T.num) | (first | (with_reducible rfl) | exact qh _ _ _ | exact qn _ _ _ | exact qj _ _ | rfl)) | (refine qc ?_ ?_ <;> first | (exact T.num) | (first | (with_reducible rfl) | exact qh _ _ _ | exact qn _ _ _ | exact qj _ _ | rfl)) | (first | (with_reducible rfl) | exact qh _ _ _ | exact qn _ _ _ | exact qj _ _ | rfl))) | (exact T.num) | (dsimp only; (exact T.num)) | (first | (with_reducible rfl) | exact qh _ _ _ | exact qn _ _ _ | exact qj _ _ | rfl))) | (apply AtL.mk' (id := 8) (S := Nat × Pq × Nm × Nm) ((n - 1, ⟨x.hs.set (pqK t fl x) (pqF t fl false x).1, x.bs ++ [xH (pqH t fl x) (pqP t x)], qe t (pqF t fl false x).2⟩, _, _)); (repeat' first | exact trivial | (refine And.intro ?_ ?_) | exact LB.nil | (with_reducible exact LB.refl) | (apply LB.cons; (repeat first | refine goH ?_ | apply LH.here | apply LH.next); refine And.intro ?_ ?_; (focus (try (first | (with_reducible rfl) | (refine congrArg (Pl.mk _) ?_; (first | (with_reducible rfl) | exact qh _ _ _ | exact qn _ _ _ | exact qj _ _ | rfl)) | rfl | (with_reducible refine congrArg (Pl.mk _) ?_))))) | assumption | (exact wB (by assumption) (by assumption) (wI (by assumption))) | (exact wA (by assumption) (by assumption) (wH (by assumption))) | (exact ze (by assumption) (by have := hq3 x; omega)) | (exact qX _ _ _) | (exact z6 _ _ _) | (rw [List.length_set]; assumption) | (exact hq _) | (exact hq2 _) | (first | (focus (apply Eq.trans; (conv => lhs; whnf); (conv => rhs; whnf); done)) | rfl | ((conv => lhs; whnf); first | rfl | (refine congrArg (AV.int _) ?_; (exact T.num)) | (refine congrArg AV.bool ?_; (exact T.num)) | (refine vwc ?_; first | (exact T.num) | (first | (with_reducible rfl) | exact qh _ _ _ | exact qn _ _ _ | exact qj _ _ | rfl)) | (refine qc ?_ ?_ <;> first | (exact T.num) | (first | (with_reducible rfl) | exact qh _ _ _ | exact qn _ _ _ | exact qj _ _ | rfl)) | (first | (with_reducible rfl) | exact qh _ _ _ | exact qn _ _ _ | exact qj _ _ | rfl))) | (exact T.num) | (dsimp only; (exact T.num)) | (first | (with_reducible rfl) | exact qh _ _ _ | exact qn _ _ _ | exact qj _ _ | rfl)))) | exact T.z | fail) <;> conv => whnf)
 all_goals (try dsimp only)
 all_goals first
   | (rw [← pq_0 (x := x) (n := n) (fl := (fl : Int)) (reg := false) (t := t) (R := jw t a fl cnt false) (by assumption) (by assumption)]; refine RL.rowBB ?_; (repeat first | refine goH ?_ | apply LH.here | apply LH.next); refine ⟨rfl, rfl, ?_⟩; (repeat' first | exact LB.nil | (with_reducible exact LB.refl) | (apply LB.cons; (repeat first | refine goH ?_ | apply LH.here | apply LH.next); refine And.intro ?_ ?_; (focus (try (first | (with_reducible rfl) | (refine congrArg (Pl.mk _) ?_; (first | rfl | (simp; done))) | rfl | (with_reducible refine congrArg (Pl.mk _) ?_)))))))
   | trace_state
theorem packets_c (t : List Int) (a : Nat) (fl : Nat) (cnt : Int) (reg : Bool) (h0 : 1 ≤ fl) (h1 : fl ≤ 10) (h2 : 0 ≤ cnt) (h3 : cnt ≤ 100) (ht : t.length ≤ 400) (p : Nm) : LP Tryz.prog G 11 [.ptr p 0, iAV fl, iAV cnt, .bool reg] [(p, z4 t a)] (fun _ => (bbv (jw t a fl cnt reg).bs, [(p, z4 t (jw t a fl cnt reg).a)])) := by
 cases reg
 · exact packets_f t a fl cnt h0 h1 h2 h3 ht p
 · exact packets_t t a fl cnt h0 h1 h2 h3 ht p
theorem pkt_len (h : Hd) (p : List UInt8) : 28 ≤ (xH h p).length ∧ (xH h p).length ≤ 40 + p.length := by
 have h1 : (pkT h).length = 0 ∨ (pkT h).length = 12 := by unfold pkT; split <;> simp
 unfold xH
 simp only [List.length_append, st2_len, vG, putBlen]
 omega
def zt (b : List UInt8) : Prop := b ≠ [] ∧ b.length ≤ 1500
theorem pqS_sized (t : List Int) (fl : Int) (reg : Bool) (x : Pq) (h : ∀ b ∈ x.bs, zt b) : ∀ b ∈ (pqS t fl reg x).bs, zt b := by
 have h1 : zt (xH (pqH t fl x) (pqP t x)) := by
   have := pkt_len (pqH t fl x) (pqP t x)
   have h2 := qQ t (qe t x.a) (q7 .add .i64 6 1) (by decide) (by decide)
   have e : q7 .add .i64 6 1 = 7 := rfl
   have h3 : (pqP t x).length ≤ 6 := by unfold pqP x9; rw [bytesL_len]; omega
   exact ⟨fun e => by rw [e] at this; simp at this, by omega⟩
 have h2 : ∀ a, zt (jU t a 40) := fun a => by
   have h2 := qQ t (adv t a 1) (q7 .add .i64 (q7 .sub .i64 40 1) 1) (by decide) (by decide)
   have e : q7 .add .i64 (q7 .sub .i64 40 1) 1 = 40 := rfl
   unfold jU
   refine ⟨fun e => (by cases e), ?_⟩
   rw [List.length_cons, bytesL_len]
   unfold x9
   omega
 unfold pqS
 (repeat' split) <;> intro b hb <;> simp only [List.mem_append, List.mem_singleton] at hb
 · rcases hb with hb | rfl
   · exact h b hb
   · exact h1
 · rcases hb with (hb | rfl) | rfl
   · exact h b hb
   · exact h1
   · exact h2 _
 · rcases hb with hb | rfl
   · exact h b hb
   · exact h1
theorem pqI_sized (t : List Int) (fl : Int) (reg : Bool) : ∀ (n : Nat) (x : Pq), (∀ b ∈ x.bs, zt b) → ∀ b ∈ (pqI t fl reg n x).bs, zt b
 | 0, _, h => h
 | n + 1, x, h => pqI_sized t fl reg n _ (pqS_sized t fl reg x h)
theorem ym (t : List Int) (a fl : Nat) (cnt : Int) (reg : Bool) : ∀ b ∈ (jw t a fl cnt reg).bs, zt b := pqI_sized t fl reg _ _ fun b hb => by cases hb
theorem pqI_len (t : List Int) (fl : Int) (reg : Bool) : ∀ (n : Nat) (x : Pq), (pqI t fl reg n x).bs.length ≤ x.bs.length + 2 * n
 | 0, _ => by simp [pqI]
 | n + 1, x => by
   have h1 := pqI_len t fl reg n (pqS t fl reg x)
   have h2 : (pqS t fl reg x).bs.length ≤ x.bs.length + 2 := by unfold pqS; (repeat' split) <;> simp
   show (pqI t fl reg n (pqS t fl reg x)).bs.length ≤ _
   omega
theorem v9 (t : List Int) (a fl : Nat) (cnt : Int) (reg : Bool) (h2 : 0 ≤ cnt) (h3 : cnt ≤ 100) : (jw t a fl cnt reg).bs.length ≤ 202 := by
 have h1 := pqI_len t fl reg (wD t a fl cnt) ⟨(zT t a fl).1, [], qe t (zT t a fl).2⟩
 have hm : q7 .add .i64 cnt 1 = cnt + 1 := by (exact T.num)
 have hb := qQ t (zT t a fl).2 (q7 .add .i64 cnt 1) (by omega) (by omega)
 have hN : wD t a fl cnt ≤ 101 := by unfold wD; omega
 unfold jw
 simp only [List.length_nil] at h1
 omega
attribute [irreducible] jw
end Go.Proofs.YtbagbjacmakfhaaGreatDoor
namespace Go.Proofs.YtbagbjacmakfhaaGreatDoor
open Go.RowKit
variable {G : Nat → AV}
theorem shapR_f {m w : Int} (h : ¬ (1 ≤ m ∧ m ≤ 3 ∧ 1 ≤ w ∧ w ≤ 8)) : wX m w = (Co.z, 3) := by
 unfold wX
 rw [if_neg]
 unfold zJ
 simpa using h
theorem wi {m w : Int} (h : 1 ≤ m ∧ m ≤ 3 ∧ 1 ≤ w ∧ w ≤ 8) : wX m w = (⟨m, w, List.replicate 16 Sn.z⟩, 0) := by
 unfold wX
 rw [if_pos]
 unfold zJ
 exact decide_eq_true h
def zsn : List AV := [.bool false, iAV 0, iAV 0, iAV 0, iAV 0, iAV 0, iAV 0, iAV 0, .nils]
theorem zsn_f {l : LS} {F : List Nm} : LFs l F zsn Sn.z.cs := ⟨.eq rfl, .eq rfl, .eq rfl, .eq rfl, .eq rfl, .eq rfl, .eq rfl, .eq rfl, LF.nils rfl rfl, trivial⟩
theorem RL.coz {e : Int} {l : LS} : RL (fun _ => (.tup [Co.z.av, iAV e], [])) (.tup [.agg [.int .i64 0, .int .i64 0, .nils], .int .i64 e]) l :=
 RL.frz [] (LF.tup (xs := [.agg [.int .i64 0, .int .i64 0, .nils], .int .i64 e]) (ys := [Co.z.av, iAV e]) ⟨LF.agg (xs := [.int .i64 0, .int .i64 0, .nils]) (ys := [iAV 0, iAV 0, snv []]) ⟨LF.eq rfl, LF.eq rfl, LF.nils rfl rfl, trivial⟩, LF.eq rfl, trivial⟩) LB.nil
theorem r9new_c (m w : Int) : LP Tryz.prog G 24 [iAV m, iAV w] [] (fun _ => (.tup [(wX m w).1.av, iAV (wX m w).2], [])) := by
 by_cases h : 1 ≤ m ∧ m ≤ 3 ∧ 1 ≤ w ∧ w ≤ 8
 · rw [wi h]
   refine goW [] Tryz.func24 rfl ?_
   conv => whnf
   repeat' ((first | (show AQ _ _; first | (refine AQ.eq (cs' := (List.replicate 16 ()).flatMap fun _ => zsn) rfl ?_)) | refine T.s ?_ | ((first | apply goB | apply AB.dec | apply AB.gen) <;> intro h <;> try (exfalso; omega)) | refine LQ.mk fun r => ?_ | exact T.z | fail) <;> conv => whnf)
   all_goals (try dsimp only)
   all_goals
     refine RL.frz [r] (LF.tup (xs := [.agg [.int .i64 m, .int .i64 w, .vw r 0 16 9], .int .i64 0]) (ys := [Co.av ⟨m, w, List.replicate 16 Sn.z⟩, iAV 0]) ⟨LF.agg (xs := [.int .i64 m, .int .i64 w, .vw r 0 16 9]) (ys := [iAV m, iAV w, snv (List.replicate 16 Sn.z)]) ⟨LF.eq rfl, LF.eq rfl, LF.rowN InL.here ?_, trivial⟩, LF.eq rfl, trivial⟩) ?_
     · (repeat first | refine goH ?_ | apply LH.here | apply LH.next)
       exact ⟨by decide, by kernel_rfl, by simp, by
         rw [show (List.replicate 16 Sn.z).flatMap Sn.cs = (List.replicate 16 ()).flatMap fun _ => Sn.z.cs by kernel_rfl]
         exact LFs.fm (fun _ => zsn_f) _⟩
     · (repeat first | refine goH ?_ | apply LH.here | apply LH.next)
       exact LB.nil
 · rw [shapR_f h]
   refine goW [] Tryz.func24 rfl ?_
   conv => whnf
   repeat' ((first | (show AQ _ _; first | (refine AQ.eq (cs' := (List.replicate 16 ()).flatMap fun _ => zsn) rfl ?_)) | refine T.s ?_ | ((first | apply goB | apply AB.dec | apply AB.gen) <;> intro h <;> try (exfalso; omega)) | refine LQ.mk fun r => ?_ | exact T.z | fail) <;> conv => whnf)
   all_goals (try dsimp only)
   all_goals first
     | (exfalso; omega)
     | exact RL.coz
     | trace_state
def cpG (c : Co) (i0 : Nat) (q : Nm) (k : Nat) : List AV := if k = i0 then (c.at k).cv (.vw q 0 (c.at k).rf.length 15) else (c.at k).cs
def cpR (c : Co) (i0 : Nat) (q : Nm) (n : Nat) : List AV := (List.range n).flatMap (cpG c i0 q)
theorem cpG_len (c : Co) (i0 : Nat) (q : Nm) (k : Nat) : (cpG c i0 q k).length = 9 := by unfold cpG; split <;> rfl
theorem jG (c : Co) (i0 : Nat) (q : Nm) (n : Nat) : cpR c i0 q (n + 1) = cpR c i0 q n ++ cpG c i0 q n := by unfold cpR; rw [List.range_succ, List.flatMap_append]; simp
theorem cpR_irr (c : Co) {i0 n : Nat} (h : n ≤ i0) (q q' : Nm) : cpR c i0 q n = cpR c i0 q' n := by
 induction n with
 | zero => rfl
 | succ n ih =>
   rw [jG, jG, ih (by omega)]
   unfold cpG
   rw [if_neg (by omega), if_neg (by omega)]
@[simp] theorem cpR_len (c : Co) (i0 : Nat) (q : Nm) (n : Nat) : (cpR c i0 q n).length = n * 9 := by
 induction n with
 | zero => rfl
 | succ n ih => rw [jG, List.length_append, ih, cpG_len]; omega
theorem hds_one (l : List Hd) : ((l.flatMap Hd.cs).all AV.one) = true := by
 induction l with
 | nil => rfl
 | cons x l ih => rw [List.flatMap_cons, List.all_append, ih]; rfl
def cpP (c : Co) (i0 n : Nat) : List AV := if i0 < n then (c.at i0).rf.flatMap Hd.cs else []
@[reducible] def n0 (q : List Nm) : Nm := q.getD 0 (.b 0)
@[reducible] def n1 (q : List Nm) : Nm := q.getD 1 (.b 0)
theorem wV {c : Co} {i0 j : Nat} (h : j = i0) (p q : Nm) : cpR c i0 p j ++ (c.at j).cv (.vw q 0 (c.at j).rf.length 15) = cpR c i0 q (j + 1) := by
 rw [jG, cpR_irr c (Nat.le_of_eq h) p q]
 unfold cpG
 rw [if_pos h]
theorem xq {c : Co} {i0 j : Nat} (h : j = i0) : (c.at j).rf.flatMap Hd.cs = cpP c i0 (j + 1) := by
 unfold cpP
 rw [if_pos (by omega), h]
theorem wW {c : Co} {i0 j : Nat} (h : ¬ j = i0) (p : Nm) : cpR c i0 p j ++ (c.at j).cs = cpR c i0 p (j + 1) := by
 rw [jG]
 unfold cpG
 rw [if_neg h]
theorem xr {c : Co} {i0 j : Nat} (h : ¬ j = i0) : cpP c i0 j = cpP c i0 (j + 1) := by
 unfold cpP
 by_cases h2 : i0 < j
 · rw [if_pos h2, if_pos (by omega)]
 · rw [if_neg h2, if_neg (by omega)]
theorem r9copy_c (c : Co) (i0 : Nat) (hi : i0 < c.cx.length) (hl : c.cx.length ≤ 100) (hr : ∀ i, i < c.cx.length → (c.at i).rf.length ≤ 1000) : LSpecN Tryz.prog G 36 [c.av] [] 2 (fun q => (.agg [iAV c.m, iAV c.w, .vw (n0 q) 0 c.cx.length 9], [(n0 q, ⟨61, cpR c i0 (n1 q) c.cx.length⟩), (n1 q, ⟨50, (c.at i0).rf.flatMap Hd.cs⟩)])) := by
 have hb : ∀ j : Nat, (j : Int) < (c.cx.length : Int) → (c.cx.getD j Sn.z).rf.length ≤ 1000 := fun j h => hr j (by omega)
 refine LSpecN.introL tQ Tryz.func36 rfl (by kernel_rfl) (by simp) (fun qs hq => by obtain ⟨x, y, rfl⟩ : ∃ x y, qs = [x, y] := (match qs, hq with | [x, y], _ => ⟨x, y, rfl⟩); exact ⟨by simp, by intro h1 h2; simp at h1 h2 ⊢; simp_all [eq_comm]⟩) ?_
 refine AWpL.sound tQ [] _ _ _ _ ?_
 conv => whnf
 repeat' ((first | (refine And.intro ?_ ?_; (focus (first | exact zx Sn.cs_len (by assumption) | exact qr Hd.cs_len _ | exact hds_one _ | exact Nat.le_trans (Nat.mul_le_mul_right _ (hb j (by assumption))) (by decide) | exact Nat.le_trans (hb j (by assumption)) (by decide) | exact T.kx | exact T.side))) | (show AC _ _ _; first | (refine AC.recd Sn.cs_len j Sn.z rfl rfl ?_ ?_; (focus omega))) | refine T.s ?_ | ((first | apply goB | apply AB.dec | apply AB.gen) <;> intro h <;> try (exfalso; omega)) | refine LQ.mk fun r => ?_ | (show SQ _ _ _ (.loop _) _ _ _; first | (apply goO tQ [] 4 (S := Nat × Nm × Nm × Nm × Nm × Nm) [] (fun (j, a, z, o, q, p) => ⟨[(4, .int .i64 j), (1, .ptr a 0), (2, .ptr z 0), (3, .ptr o 0)], [(a, ⟨34, [iAV c.m, iAV c.w, snv c.cx]⟩), (z, ⟨34, [iAV 0, iAV 0, .nils]⟩), (o, ⟨34, [iAV c.m, iAV c.w, .vw q 0 j 9]⟩), (q, ⟨61, cpR c i0 p j⟩), (p, ⟨50, cpP c i0 j⟩)], j ≤ c.cx.length, c.cx.length - j⟩) ((0, _, _, _, _, _)) (by rfl); (focus (all_goals (try exact K99A); done)); rintro ⟨j, a, z, o, q, p⟩ hok; (try dsimp only at hok))) | (show SQ _ _ _ _ _ _ _; first | (refine SQ.dummy 50 fun p => ?_; refine SQ.adoptP r 2 9 61 ?_; (repeat first | refine goH ?_ | apply LH.here | apply LH.next); refine ⟨show 2 < 3 from by decide, rfl, fun q => ?_⟩)) | (show AtL _ _ _ _ _ _ _ _ _ _; first | (by_cases hji : j = i0; (focus (rename_i pa pb pc; refine AtL.mk' (id := 4) (j + 1, a, z, o, r, pb) ?_; all_goals (try exact K99A))); (focus (rename_i pa pb pc; refine AtL.mkF (id := 4) (j + 1, a, z, o, r, p) ⟨?_, ?_, LTo.frz r [pb] (cpR c i0 p j ++ (c.at j).cs) ?_, ?_⟩; rotate_left; rotate_left; (focus ((repeat first | refine goH ?_ | apply LH.here | apply LH.next); refine ⟨LFs.app (LFs.same _) ⟨.eq rfl, .eq rfl, .eq rfl, .eq rfl, .eq rfl, .eq rfl, .eq rfl, .eq rfl, LF.row InL.here ?_, trivial⟩, ?_⟩; (focus ((repeat first | refine goH ?_ | apply LH.here | apply LH.next); exact ⟨by decide, qr Hd.cs_len _, rfl, rfl⟩)); (repeat first | refine goH ?_ | apply LH.here | apply LH.next); all_goals (try exact K99A))); all_goals all_goals (try exact K99A)))) | (apply AtL.mk' (id := 4) (S := Nat × Nm × Nm × Nm × Nm × Nm) ((j + 1, _, _, _, _, _)); all_goals (try exact K99A); done) | (apply AtL.mk' (id := 4) (S := Nat × Nm × Nm × Nm × Nm × Nm) ((j + 1, _, _, _, _, _)); all_goals (try exact K99A))) | exact T.z | fail) <;> conv => whnf)
 all_goals (try dsimp only)
 obtain rfl : j = c.cx.length := by omega
 have e : cpP c i0 c.cx.length = (c.at i0).rf.flatMap Hd.cs := if_pos hi
 rw [e]
 apply RetLN.val [q, p] rfl
 · show LH _ _ _
   exact .next (.next (.next (.here (.next (.next (.next (.here trivial)))))))
 · rfl
 · exact LB.cons (.next (.next (.next (.here ⟨rfl, LB.cons (.next (.next (.next (.here ⟨rfl, LB.nil⟩))))⟩))))
open Go.RowKit
variable {G : Nat → AV}
theorem vj {l : LS} {F : List Nm} {c : Co} {i0 : Nat} {p : Nm} (hF : InL p F) (hp : LH l p fun cc _ _ => cc.cs = (c.at i0).rf.flatMap Hd.cs) : ∀ n, LFs l F (cpR c i0 p n) ((List.range n).flatMap fun k => (c.at k).cs)
 | 0 => trivial
 | n + 1 => by
   rw [jG, List.range_succ, List.flatMap_append]
   refine LFs.app (vj hF hp n) ?_
   simp only [List.flatMap_cons, List.flatMap_nil, List.append_nil]
   unfold cpG
   split
   · rename_i h
     subst h
     exact ⟨.eq rfl, .eq rfl, .eq rfl, .eq rfl, .eq rfl, .eq rfl, .eq rfl, .eq rfl, LF.row hF (LH.mono hp fun cc _ _ e => ⟨by decide, by rw [e]; exact qr Hd.cs_len _, rfl, e.symm⟩), trivial⟩
   · exact LFs.same _
theorem cx_range (c : Co) (n : Nat) (h : n ≤ c.cx.length) : (List.range n).flatMap (fun k => (c.at k).cs) = (c.cx.take n).flatMap Sn.cs := by
 induction n with
 | zero => simp
 | succ n ih =>
   rw [List.range_succ, List.flatMap_append, ih (by omega), List.take_succ_eq_append_getElem (by omega), List.flatMap_append]
   simp [Co.at, List.getD_eq_getElem?_getD, show n < c.cx.length by omega]
theorem xc (c : Co) : (List.range c.cx.length).flatMap (fun k => (c.at k).cs) = c.cx.flatMap Sn.cs := by rw [cx_range c _ (Nat.le_refl _), List.take_length]
theorem LH.wk {p : Nm} {x : Nm × Pl} {Q : Pl → Prop} {l2 : LS} : ∀ {l1 : LS}, (LH (l1 ++ l2) p fun c _ _ => Q c) → LH (l1 ++ x :: l2) p fun c _ _ => Q c
 | [], h => .next h
 | y :: l1, h => by
   obtain ⟨m1, d, m2, e, hq⟩ := h.ex
   cases m1 with
   | nil =>
     injection e with e1 e2
     subst e1
     exact .here hq
   | cons z m1 =>
     injection e with e1 e2
     exact .next (LH.wk ⟨m1, d, m2, e2, hq⟩)
theorem cop_row {c : Co} {i0 : Nat} {R : Nm} {l : LS} (h : LH l R fun cc _ r => ∃ p, cc.cs = cpR c i0 p c.cx.length ∧ LH r p fun cc' _ _ => cc'.cs = (c.at i0).rf.flatMap Hd.cs) : ∃ p, LF l [R, p] (.vw R 0 c.cx.length 9) (snv c.cx) ∧ LEra l [R, p] (LB []) := by
 obtain ⟨l1, cc, l2, rfl, p, h1, h2⟩ := h.ex
 refine ⟨p, LF.rowN InL.here ⟨l1, cc, l2, rfl, by decide, by rw [h1]; exact cpR_len _ _ _ _, rfl, ?_⟩, ⟨l1, cc, l2, rfl, LH.mono h2 fun _ _ _ _ => LB.nil⟩⟩
 rw [h1, ← xc]
 exact vj (InL.next InL.here) (LH.wk h2) _
theorem RL.cop {c : Co} (i0 : Nat) {R : Nm} {x : List UInt8} {e : Int} {l : LS} (h : LH l R fun cc _ r => ∃ p, cc.cs = cpR c i0 p c.cx.length ∧ LH r p fun cc' _ _ => cc'.cs = (c.at i0).rf.flatMap Hd.cs) : RL (fun _ => (.tup [c.av, bv x, iAV e], [])) (.tup [.agg [.int .i64 c.m, .int .i64 c.w, .vw R 0 c.cx.length 9], bv x, .int .i64 e]) l := by
 obtain ⟨p, h1, h2⟩ := cop_row h
 exact RL.frz [R, p] (LF.tup (xs := [.agg [.int .i64 c.m, .int .i64 c.w, .vw R 0 c.cx.length 9], bv x, .int .i64 e]) (ys := [c.av, bv x, iAV e]) ⟨LF.agg (xs := [.int .i64 c.m, .int .i64 c.w, .vw R 0 c.cx.length 9]) (ys := [iAV c.m, iAV c.w, snv c.cx]) ⟨.eq rfl, .eq rfl, h1, trivial⟩, .eq rfl, .eq rfl, trivial⟩) h2
theorem RL.co3 {e : Int} {l : LS} : RL (fun _ => (.tup [Co.z.av, bv [], iAV e], [])) (.tup [.agg [.int .i64 0, .int .i64 0, .nils], .nils, .int .i64 e]) l :=
 RL.frz [] (LF.tup (xs := [.agg [.int .i64 0, .int .i64 0, .nils], .nils, .int .i64 e]) (ys := [Co.z.av, bv [], iAV e]) ⟨LF.agg (xs := [.int .i64 0, .int .i64 0, .nils]) (ys := [iAV 0, iAV 0, snv []]) ⟨LF.eq rfl, LF.eq rfl, LF.nils rfl rfl, trivial⟩, LF.nils rfl rfl, LF.eq rfl, trivial⟩) LB.nil
def cpr (x : (Co × List UInt8) × Int) : AV := .tup [x.1.1.av, bv x.1.2, iAV x.2]
theorem r9comp_inv (c : Co) (b : List UInt8) (hc : c.ok = false) : LP Tryz.prog G 19 [c.av, bv b] [] (fun _ => (cpr (qf c b), [])) := by
 have hv := zf (G := G) c
 rw [hc] at hv
 rw [show qf c b = ((Co.z, []), 1) by unfold qf; rw [if_neg (by rw [hc]; decide)]]
 refine goW [] Tryz.func19 rfl ?_
 conv => whnf
 repeat' ((first | exact Nm.b 0 | (show LC _ _ _ _ _ _; first | refine LC.pure (hv) ?_ | refine goE ?_) | refine T.s ?_ | ((first | apply goB | apply AB.dec | apply AB.gen) <;> intro h <;> try (exfalso; omega)) | refine LQ.mk fun r => ?_ | (show SQ _ _ _ (.loop _) _ _ _; first | (refine goL tQ [] 39 (S := Nat) [2, 4, 7, 8, 9, 11, 13, 16, 18] (fun f => ⟨[(19, .int .i64 f)], [], False, 4 - f⟩) (0) ?_; rintro f hok; (try dsimp only at hok))) | (show SQ _ _ _ _ _ _ _; first | (refine goD tQ qd 8 [0, 2] [0, 1, 2, 3, 4, 5] [] (by kernel_rfl) ?_) | (refine goD tQ qd 11 [0, 2] [0, 1, 2, 3, 4, 5] [] (by kernel_rfl) ?_) | (refine goD tQ qd 19 [2, 1] [0, 2, 1, 3, 4, 5] [] (by kernel_rfl) ?_) | (refine goD tQ qd 21 [0, 2] [0, 1, 2, 3, 4, 5] [] (by kernel_rfl) ?_) | (refine goD tQ qd 24 [1, 3] [0, 1, 2, 3, 4, 5, 6] [] (by kernel_rfl) ?_) | (refine goD tQ qd 25 [15, 13] [0, 1, 2, 3, 4, 5, 6, 7, 8, 9, 10, 11, 12, 14, 15, 13, 16, 17, 18, 19] [] (by kernel_rfl) ?_)) | (show AtL _ _ _ _ _ _ _ _ _ _; first | (show AtL 39 _ _ _ _ _ _ _ _ _; exact goN 39 (S := Nat) (f + 1)) | (apply AtL.mk' (id := 39) (S := Nat) (f + 1); all_goals (try exact KC12))) | (show (_ → _) ∧ (¬ _ → _); first | refine T.y ?_ | refine qm (fun h => ?_) (fun h => ?_)) | exact T.z | fail) <;> conv => whnf)
 all_goals (try dsimp only)
 all_goals exact RL.co3
theorem r9comp_size (c : Co) (b : List UInt8) (hc : c.ok = true) (hb : b = [] ∨ 1500 < b.length) : LP Tryz.prog G 19 [c.av, bv b] [] (fun _ => (cpr (qf c b), [])) := by
 have hv := zf (G := G) c
 rw [hc] at hv
 rw [show qf c b = ((Co.z, []), 2) by unfold qf; rw [if_pos hc, if_pos hb]]
 have hb2 : b.length = 0 ∨ 1500 < b.length := by
   rcases hb with rfl | hb
   · exact .inl rfl
   · exact .inr hb
 clear hb
 refine goW [] Tryz.func19 rfl ?_
 conv => whnf
 repeat' ((first | exact Nm.b 0 | (show LC _ _ _ _ _ _; first | refine LC.pure (hv) ?_ | refine goE ?_) | refine T.s ?_ | ((first | apply goB | apply AB.dec | apply AB.gen) <;> intro h <;> try (exfalso; omega)) | refine LQ.mk fun r => ?_ | (show SQ _ _ _ (.loop _) _ _ _; first | (refine goL tQ [] 39 (S := Nat) [2, 4, 7, 8, 9, 11, 13, 16, 18] (fun f => ⟨[(19, .int .i64 f)], [], False, 4 - f⟩) (0) ?_; rintro f hok; (try dsimp only at hok))) | (show SQ _ _ _ _ _ _ _; first | (refine goD tQ qd 8 [0, 2] [0, 1, 2, 3, 4, 5] [] (by kernel_rfl) ?_) | (refine goD tQ qd 11 [0, 2] [0, 1, 2, 3, 4, 5] [] (by kernel_rfl) ?_) | (refine goD tQ qd 19 [2, 1] [0, 2, 1, 3, 4, 5] [] (by kernel_rfl) ?_) | (refine goD tQ qd 21 [0, 2] [0, 1, 2, 3, 4, 5] [] (by kernel_rfl) ?_) | (refine goD tQ qd 24 [1, 3] [0, 1, 2, 3, 4, 5, 6] [] (by kernel_rfl) ?_) | (refine goD tQ qd 25 [15, 13] [0, 1, 2, 3, 4, 5, 6, 7, 8, 9, 10, 11, 12, 14, 15, 13, 16, 17, 18, 19] [] (by kernel_rfl) ?_)) | (show AtL _ _ _ _ _ _ _ _ _ _; first | (show AtL 39 _ _ _ _ _ _ _ _ _; exact goN 39 (S := Nat) (f + 1)) | (apply AtL.mk' (id := 39) (S := Nat) (f + 1); all_goals (try exact KC12))) | (show (_ → _) ∧ (¬ _ → _); first | refine T.y ?_ | refine qm (fun h => ?_) (fun h => ?_)) | exact T.z | fail) <;> conv => whnf)
 all_goals (try dsimp only)
 all_goals first
   | exact RL.co3
   | trace_state
theorem qY {c : Co} (h : c.ok = true) : c.cx.length = 16 := by
 unfold Co.ok at h
 simp only [Bool.and_eq_true, decide_eq_true_eq] at h
 exact h.2.1
theorem co_oks {c : Co} (h : c.ok = true) : c.oks 16 = true := by
 unfold Co.ok at h
 simp only [Bool.and_eq_true] at h
 exact h.2.2
theorem co_sn {c : Co} (h : c.ok = true) (i : Nat) (hi : i < c.cx.length) : (c.at i).ok c.m c.w = true := by
 have h1 := yZ (co_oks h) (by rw [qY h] at hi; exact hi)
 simp only [Bool.and_eq_true] at h1
 exact h1.1
theorem yH {m w : Int} {s : Sn} (h : s.ok m w = true) (hw : w ≤ 8) : s.rf.length ≤ 32 := by
 cases ha : s.act with
 | true =>
   have h1 := ((Sn.ok_e ha).1 h).1
   unfold yg jg at h1
   obtain ⟨-, h1, -⟩ := h1
   split at h1 <;> omega
 | false =>
   unfold Sn.ok at h
   rw [if_neg (by rw [ha]; decide)] at h
   simp only [jQ, decide_eq_true_eq] at h
   rw [h.2.2.2.2.2.2]
   decide
theorem wc {c : Co} (h : c.ok = true) : 1 ≤ c.m ∧ c.m ≤ 3 ∧ 1 ≤ c.w ∧ c.w ≤ 8 := by
 unfold Co.ok at h
 simp only [Bool.and_eq_true] at h
 have h1 := h.1
 simp only [zJ, decide_eq_true_eq] at h1
 exact h1
theorem co_rf {c : Co} (h : c.ok = true) (i : Nat) (hi : i < c.cx.length) : (c.at i).rf.length ≤ 1000 := by
 have := yH (co_sn h i hi) (wc h).2.2.2
 omega
theorem zQ (c : Co) (hc : c.ok = true) (i0 : Nat) (hi : i0 < 16) : LSpecN Tryz.prog G 36 [c.av] [] 2 (fun q => (.agg [iAV c.m, iAV c.w, .vw (n0 q) 0 c.cx.length 9], [(n0 q, ⟨61, cpR c i0 (n1 q) c.cx.length⟩), (n1 q, ⟨50, (c.at i0).rf.flatMap Hd.cs⟩)])) :=
 r9copy_c c i0 (by rw [qY hc]; exact hi) (by rw [qY hc]; decide) (co_rf hc)
theorem xz (c : Co) (hc : c.ok = true) (hd : Hd) : LP Tryz.prog G 55 [c.av, hd.av] [] (fun _ => (j3 (qP c.cx hd), [])) :=
 r9find_c c hd (by rw [qY hc]; decide) fun i hi ha => jf (co_sn hc i hi) ha
theorem LC.findL {c : Co} {hd : Hd} (i0 : Nat) {R : Nm} {l : LS} {K : AV → LS → Prop} (hs : LP Tryz.prog G 55 [c.av, hd.av] [] (fun _ => (j3 (qP c.cx hd), []))) (h : LH l R fun cc _ r => ∃ p, cc.cs = cpR c i0 p c.cx.length ∧ LH r p fun cc' _ _ => cc'.cs = (c.at i0).rf.flatMap Hd.cs) (k : K (j3 (qP c.cx hd)) l) :
   LC Tryz.prog G 55 [.agg [.int .i64 c.m, .int .i64 c.w, .vw R 0 c.cx.length 9], hd.av] l K := by
 obtain ⟨p, h1, -⟩ := cop_row h
 exact LC.lend hs [R, p] ⟨LF.agg (xs := [.int .i64 c.m, .int .i64 c.w, .vw R 0 c.cx.length 9]) (ys := [iAV c.m, iAV c.w, snv c.cx]) ⟨.eq rfl, .eq rfl, h1, trivial⟩, .eq rfl, trivial⟩ (Flat.tup (Flat.cons (Flat.int _ _) (Flat.cons (Flat.bool _) Flat.nil))) k
open Go.RowKit
section
variable {m w : Int} {s : Sn} {h : Hd} {x : Sn} {bg : Bool}
theorem csA_k (ha : s.act = true) (h1 : xN s.lst h = 0) (h2 : ¬ (s.lng = 3 ∧ qN s.lst h ≠ s.dy)) : (s, false) = csA w s h := by
 unfold csA
 rw [if_neg (by rw [ha]; decide), if_neg (by rintro (h3 | h3); exact h3 h1; exact h2 h3)]
theorem csA_f (ha : s.act = true) (h1 : xN s.lst h ≠ 0 ∨ s.lng = 3 ∧ qN s.lst h ≠ s.dy) (h2 : 0 < s.full) : ({ s with lng := 0, full := w }, true) = csA w s h := by
 unfold csA
 rw [if_neg (by rw [ha]; decide), if_pos h1, if_pos h2]
theorem csA_r (ha : s.act = true) (h1 : xN s.lst h ≠ 0 ∨ s.lng = 3 ∧ qN s.lst h ≠ s.dy) (h2 : ¬ 0 < s.full) : ({ s with lng := 0, refr := w }, true) = csA w s h := by
 unfold csA
 rw [if_neg (by rw [ha]; decide), if_pos h1, if_neg h2]
theorem csB_y (h1 : m = 1) (h2 : x.sin = 32) (h3 : x.full = 0) : ({ x with full := w, refr := 0 }, true) = csB m w (x, bg) := by
 unfold csB
 rw [if_pos ⟨h1, h2, h3⟩]
theorem csB_n (h1 : ¬ (m = 1 ∧ x.sin = 32 ∧ x.full = 0)) : (x, bg) = csB m w (x, bg) := by
 unfold csB
 rw [if_neg h1]
theorem csD_y {last : Hd} {had : Bool} (h1 : bg = true ∨ x.ser = (x.rf.length : Int) ∧ (0 < x.full ∨ 0 < x.refr)) : wY x last had h = csD last had h (x, bg) := by
 unfold csD
 rw [if_pos h1]
theorem csD_n {last : Hd} {had : Bool} (h1 : ¬ (bg = true ∨ x.ser = (x.rf.length : Int) ∧ (0 < x.full ∨ 0 < x.refr))) : x = csD last had h (x, bg) := by
 unfold csD
 rw [if_neg h1]
theorem csE_5 {last : Hd} {had : Bool} (h1 : 0 < x.full) : (x, (5 : Int)) = csE w last had h x := by
 unfold csE
 rw [if_pos h1]
theorem csE_4 {last : Hd} {had : Bool} (h1 : ¬ 0 < x.full) (h2 : 0 < x.refr) : (x, (4 : Int)) = csE w last had h x := by
 unfold csE
 rw [if_neg h1, if_pos h2]
def qT (x : Sn) (h : Hd) (f : Int) : Prop := 1 ≤ f ∧ f ≤ 4 ∧ (2 ≤ f → qU x h 1 = false) ∧ (3 ≤ f → qU x h 2 = false) ∧ (4 ≤ f → qU x h 3 = false)
theorem j2 : qT x h 1 := ⟨by decide, by decide, fun h => absurd h (by decide), fun h => absurd h (by decide), fun h => absurd h (by decide)⟩
theorem xZ {f : Int} (h1 : qT x h f) (h2 : f ≤ 3) (h3 : qU x h f = false) : qT x h (f + 1) := by
 obtain ⟨a1, a2, a3, a4, a5⟩ := h1
 have : f = 1 ∨ f = 2 ∨ f = 3 := by omega
 rcases this with rfl | rfl | rfl
 · exact ⟨by decide, by decide, fun _ => h3, fun h => absurd h (by decide), fun h => absurd h (by decide)⟩
 · exact ⟨by decide, by decide, fun _ => a3 (by decide), fun _ => h3, fun h => absurd h (by decide)⟩
 · exact ⟨by decide, by decide, fun _ => a3 (by decide), fun _ => a4 (by decide), fun _ => h3⟩
theorem csE_f {last : Hd} {had : Bool} {f : Int} (h1 : ¬ 0 < x.full) (h2 : ¬ 0 < x.refr) (h3 : qT x h f) (h4 : f ≤ 3) (h5 : qU x h f = true) : (x, f) = csE w last had h x := by
 obtain ⟨a1, a2, a3, a4, a5⟩ := h3
 unfold csE
 rw [if_neg h1, if_neg h2]
 have : f = 1 ∨ f = 2 ∨ f = 3 := by omega
 rcases this with rfl | rfl | rfl
 · rw [if_pos h5]
 · rw [if_neg (by rw [a3 (by decide)]; decide), if_pos h5]
 · rw [if_neg (by rw [a3 (by decide)]; decide), if_neg (by rw [a4 (by decide)]; decide), if_pos h5]
theorem csE_r {last : Hd} {had : Bool} {f : Int} (h1 : ¬ 0 < x.full) (h2 : ¬ 0 < x.refr) (h3 : qT x h f) (h4 : ¬ f ≤ 3) : (wY { x with refr := w, lng := 0 } last had h, (4 : Int)) = csE w last had h x := by
 obtain ⟨a1, a2, a3, a4, a5⟩ := h3
 unfold csE
 rw [if_neg h1, if_neg h2, if_neg (by rw [a3 (by omega)]; decide), if_neg (by rw [a4 (by omega)]; decide), if_neg (by rw [a5 (by omega)]; decide)]
def yA (m : Int) (h : Hd) (s : Sn) (f : Int) : Sn :=
 { s with
   full := if m ≠ 3 ∧ f = 5 then s.full - 1 else s.full
   refr := if m ≠ 3 ∧ f = 4 then s.refr - 1 else s.refr
   sin := if f = 5 then 0 else min (s.sin + 1) 32
   lng := if (f = 2 ∨ f = 3) ∧ h.k = 2 then min (s.lng + 1) 3 else 0 }
end
theorem findR_lt {l : List Sn} {h : Hd} {i : Nat} (e : qP l h = some i) : i < l.length := by
 have key : ∀ {p : Sn → Bool} {j : Nat}, l.findIdx? p = some j → j < l.length := fun {p j} hj => by
   rw [List.findIdx?_eq_some_iff_getElem] at hj
   exact hj.1
 unfold qP at e
 split at e
 · rename_i j hj
   cases e
   exact key hj
 · exact key e
def frs (c : Co) (a n : Nat) : List AV := ((List.range n).drop a).flatMap fun k => (c.at k).cs
theorem j4 {α β : Type} {f g : α → List β} : ∀ l : List α, (∀ k ∈ l, f k = g k) → l.flatMap f = l.flatMap g
 | [], _ => rfl
 | x :: l, h => by rw [List.flatMap_cons, List.flatMap_cons, h x (by simp), j4 l fun k hk => h k (by simp [hk])]
theorem kS (c : Co) (i0 : Nat) (p : Nm) (n : Nat) (h : i0 < n) : cpR c i0 p n = (List.range i0).flatMap (fun k => (c.at k).cs) ++ ((c.at i0).cv (.vw p 0 (c.at i0).rf.length 15) ++ frs c (i0 + 1) n) := by
 have e : List.range n = List.range i0 ++ (i0 :: (List.range n).drop (i0 + 1)) := by
   have h1 : List.range n = (List.range n).take i0 ++ (List.range n).drop i0 := (List.take_append_drop _ _).symm
   rw [List.take_range, Nat.min_eq_left (by omega), List.drop_eq_getElem_cons (by simpa using h)] at h1
   simpa using h1
 unfold cpR frs
 rw [e, List.flatMap_append, List.flatMap_cons]
 have e1 : (List.range i0).flatMap (cpG c i0 p) = (List.range i0).flatMap fun k => (c.at k).cs := by
   refine j4 _ fun k hk => ?_
   unfold cpG
   rw [if_neg (by have := List.mem_range.1 hk; omega)]
 have e2 : ((List.range n).drop (i0 + 1)).flatMap (cpG c i0 p) = ((List.range n).drop (i0 + 1)).flatMap fun k => (c.at k).cs := by
   refine j4 _ fun k hk => ?_
   unfold cpG
   rw [if_neg]
   rintro rfl
   obtain ⟨j, hj, hk⟩ := List.mem_iff_getElem.1 hk
   simp at hk
   omega
 rw [e1, e2, ← e]
 congr 2
 unfold cpG
 rw [if_pos rfl]
theorem ji (c : Co) (n : Nat) : ((List.range n).flatMap fun k => (c.at k).cs).length = n * 9 := by
 have := qr (f := fun k => (c.at k).cs) (n := 9) (fun _ => rfl) (List.range n)
 rwa [List.length_range] at this
theorem cpR_at (c : Co) (i0 : Nat) (p : Nm) (n : Nat) (h : i0 < n) : ((cpR c i0 p n).drop (i0 * 9)).take 9 = (c.at i0).cv (.vw p 0 (c.at i0).rf.length 15) := by
 rw [kS c i0 p n h, List.drop_append, ji, List.drop_of_length_le (by rw [ji]; omega), List.nil_append, Nat.sub_self, List.drop_zero]
 rfl
theorem cpR_set (c : Co) (i0 : Nat) (p : Nm) (n : Nat) (h : i0 < n) (ys : List AV) (hy : ys.length = 9) : ql (cpR c i0 p n) (i0 * 9) ys = (List.range i0).flatMap (fun k => (c.at k).cs) ++ (ys ++ frs c (i0 + 1) n) := by
 rw [kS c i0 p n h]
 unfold ql
 rw [List.take_append, List.take_of_length_le (by rw [ji]; omega), ji, Nat.sub_self, List.take_zero, List.append_nil, List.drop_append, List.drop_of_length_le (by rw [ji]; omega), ji, hy, show i0 * 9 + 9 - i0 * 9 = 9 by omega]
 simp
theorem AC.cpA {c : Co} {i0 : Nat} {p : Nm} {n o m : Nat} {K : AV → Prop} (ho : o = i0 * 9) (hm : m = 9) (h : i0 < n) (k : K (.agg ((c.at i0).cv (.vw p 0 (c.at i0).rf.length 15)))) : AC true (((cpR c i0 p n).drop o).take m) K := ⟨by
 subst ho hm
 rw [cpR_at c i0 p n h]
 exact k⟩
theorem AQ.cpS {c : Co} {i0 : Nat} {p : Nm} {n o : Nat} {ys : List AV} {K : List AV → Prop} (ho : o = i0 * 9) (h : i0 < n) (hy : ys.length = 9) (k : K ((List.range i0).flatMap (fun k => (c.at k).cs) ++ (ys ++ frs c (i0 + 1) n))) : AQ (ql (cpR c i0 p n) o ys) K := ⟨by
 subst ho
 rw [cpR_set c i0 p n h ys hy]
 exact k⟩
theorem set_fm (c : Co) (i0 : Nat) (h : i0 < c.cx.length) (s' : Sn) : (c.cx.set i0 s').flatMap Sn.cs = (List.range i0).flatMap (fun k => (c.at k).cs) ++ (s'.cs ++ frs c (i0 + 1) c.cx.length) := by
 have e : frs c (i0 + 1) c.cx.length = (c.cx.drop (i0 + 1)).flatMap Sn.cs := by
   have h1 := xc c
   have h2 := kP (f := fun k => (c.at k).cs) (n := 9) (fun _ => rfl) (List.range c.cx.length) (i0 + 1)
   rw [h1, kP Sn.cs_len] at h2
   exact h2.symm
 rw [e, cx_range c i0 (by omega), List.set_eq_take_append_cons_drop, if_pos h, List.flatMap_append, List.flatMap_cons]
open Go.RowKit
theorem xO {a b : Hd} : qt a b = true ↔ (a.k = b.k ∧ a.fr = b.fr ∧ a.to = b.to ∧ a.fp = b.fp ∧ a.tp = b.tp ∧ a.sr = b.sr) := by unfold qt; rw [decide_eq_true_iff]
theorem kH {a b : Hd} (h : qt a b = true) : qt b a = true := by
 rw [xO] at h ⊢
 exact ⟨h.1.symm, h.2.1.symm, h.2.2.1.symm, h.2.2.2.1.symm, h.2.2.2.2.1.symm, h.2.2.2.2.2.symm⟩
theorem xx {a b c : Hd} (h : qt a b = true) (k : qt b c = true) : qt a c = true := by
 rw [xO] at h k ⊢
 exact ⟨h.1.trans k.1, h.2.1.trans k.2.1, h.2.2.1.trans k.2.2.1, h.2.2.2.1.trans k.2.2.2.1, h.2.2.2.2.1.trans k.2.2.2.2.1, h.2.2.2.2.2.trans k.2.2.2.2.2⟩
theorem sameR_rfl (a : Hd) : qt a a = true := xO.2 ⟨rfl, rfl, rfl, rfl, rfl, rfl⟩
theorem mem_lst {s : Sn} (h : 0 < s.rf.length) : s.lst ∈ s.rf := by
 unfold Sn.lst
 rw [List.getD_eq_getElem?_getD, List.getElem?_eq_getElem (by omega)]
 exact List.getElem_mem _
theorem mem_fst {s : Sn} (h : 0 < s.rf.length) : s.fst ∈ s.rf := by
 unfold Sn.fst
 rw [List.getD_eq_getElem?_getD, List.getElem?_eq_getElem (by omega)]
 exact List.getElem_mem _
theorem dyz_ok : Dy.z.ok = true := by unfold Dy.ok Dy.z inR; decide
theorem wN (a b : Hd) : (qN a b).ok = true ∧ (a.k = 2 ∨ qN a b = Dy.z) := by
 unfold qN
 split
 · rename_i h
   refine ⟨?_, .inl h.2.2.1⟩
   unfold Dy.ok
   simp only [Bool.and_eq_true, decide_eq_true_eq]
   constructor
   · split
     · rename_i h2; exact inR_t ⟨h2.2.2.1, h2.2.2.2⟩
     · exact inR_t ⟨by decide, by decide⟩
   · split
     · exact .inr rfl
     · exact .inl rfl
 · exact ⟨dyz_ok, .inr rfl⟩
structure Mid (m w : Int) (h : Hd) (x : Sn) : Prop where
 act : x.act = true
 full : 0 ≤ x.full ∧ x.full ≤ w
 refr : 0 ≤ x.refr ∧ x.refr ≤ w
 both : ¬ (0 < x.full ∧ 0 < x.refr)
 ser : 0 ≤ x.ser ∧ x.ser ≤ x.rf.length
 sin : 0 ≤ x.sin ∧ x.sin ≤ 32
 lng : 0 ≤ x.lng ∧ x.lng ≤ 3
 dok : x.dy.ok = true
 dz : h.k = 2 ∨ x.dy = Dy.z
 refs : ∀ r ∈ x.rf, r.ok = true ∧ qt r h = true
 len : (m ≠ 3 → (x.rf.length : Int) ≤ w) ∧ (m = 3 → x.rf.length ≤ 32)
section
variable {m w : Int} {s x : Sn} {h : Hd}
theorem sn_refs (hs : s.ok m w = true) (ha : s.act = true) (hh : qt s.fst h = true) : ∀ r ∈ s.rf, r.ok = true ∧ qt r h = true := fun r hr => by
 have h1 := ((Sn.ok_e ha).1 hs).2.2.1
 rw [List.all_eq_true] at h1
 have h2 := h1 r hr
 unfold wq at h2
 rw [Bool.and_eq_true] at h2
 exact ⟨h2.1, xx h2.2 hh⟩
theorem ye (hs : s.ok m w = true) (ha : s.act = false) : s.full = 0 ∧ s.refr = 0 ∧ s.ser = 0 ∧ s.sin = 0 ∧ s.lng = 0 ∧ s.dy = Dy.z ∧ s.rf = [] := by
 unfold Sn.ok at hs
 rw [if_neg (by rw [ha]; decide)] at hs
 unfold jQ at hs
 exact of_decide_eq_true hs
theorem mid_of (hs : s.ok m w = true) (ha : s.act = true) (hh : qt s.fst h = true) : Mid m w h s := by
 have h1 := (Sn.ok_e ha).1 hs
 have h2 := h1.1
 unfold yg jg at h2
 have he : endR s = true := h1.2.2.2
 unfold endR at he
 have he := of_decide_eq_true he
 rw [(xO.1 hh).1] at he
 exact ⟨ha, h2.2.2.2.1, h2.2.2.2.2.1, h2.2.2.2.2.2.1, h2.2.2.1, h2.2.2.2.2.2.2.1, h2.2.2.2.2.2.2.2, h1.2.1, he, sn_refs hs ha hh, fun hm => by have := h2.2.1; rw [if_neg hm] at this; exact this, fun hm => by have := h2.2.1; rw [if_pos hm] at this; omega⟩
def Beg (y : Sn × Bool) : Prop := y.2 = true → 0 < y.1.full ∨ 0 < y.1.refr
theorem vh (hw : 1 ≤ w) (hs : s.ok m w = true) (hh : s.act = true → qt s.fst h = true) : Mid m w h (csA w s h).1 ∧ Beg (csA w s h) ∧ (csA w s h).1.rf = s.rf := by
 unfold csA
 cases ha : s.act with
 | false =>
   rw [if_pos rfl]
   obtain ⟨a1, a2, a3, a4, a5, a6, a7⟩ := ye hs ha
   refine ⟨⟨rfl, ⟨by dsimp only; omega, by dsimp only; omega⟩, ⟨by dsimp only; omega, by dsimp only; omega⟩, by dsimp only; omega, ⟨by dsimp only; omega, by dsimp only; omega⟩, ⟨by dsimp only; omega, by dsimp only; omega⟩, ⟨by dsimp only; omega, by dsimp only; omega⟩, by rw [a6]; exact dyz_ok, .inr a6, fun r hr => ?_, ?_⟩, fun _ => .inl (by dsimp only; omega), rfl⟩
   · dsimp only at hr; rw [a7] at hr; cases hr
   · dsimp only; rw [a7]; exact ⟨fun _ => by show (0 : Int) ≤ w; omega, fun _ => by decide⟩
 | true =>
   rw [if_neg (by decide)]
   have h0 := mid_of hs ha (hh ha)
   split
   · split
     · exact ⟨{ h0 with full := ⟨by dsimp only; omega, by dsimp only; omega⟩, both := by have := h0.both; dsimp only; omega, lng := ⟨by dsimp only; omega, by dsimp only; omega⟩, act := rfl }, fun _ => .inl (by dsimp only; omega), rfl⟩
     · exact ⟨{ h0 with refr := ⟨by dsimp only; omega, by dsimp only; omega⟩, both := by have := h0.both; dsimp only; omega, lng := ⟨by dsimp only; omega, by dsimp only; omega⟩, act := rfl }, fun _ => .inr (by dsimp only; omega), rfl⟩
   · exact ⟨h0, fun k => Bool.noConfusion k, rfl⟩
theorem vg (hw : 1 ≤ w) {y : Sn × Bool} (h0 : Mid m w h y.1) (hb : Beg y) : Mid m w h (csB m w y).1 ∧ Beg (csB m w y) ∧ (csB m w y).1.rf = y.1.rf := by
 unfold csB
 split
 · exact ⟨{ h0 with full := ⟨by dsimp only; omega, by dsimp only; omega⟩, refr := ⟨by dsimp only; omega, by dsimp only; omega⟩, both := by dsimp only; omega }, fun _ => .inl (by dsimp only; omega), rfl⟩
 · exact ⟨h0, hb, rfl⟩
theorem csD_mid (hw : 1 ≤ w) {y : Sn × Bool} {n : Nat} {last : Hd} {had : Bool} (hn : n = y.1.rf.length) (h0 : Mid m w h y.1) (hb : Beg y) (hl : had = true → last.k = h.k) :
   Mid m w h (csD last had h (csC m w n y)) ∧ (m = 3 → (csD last had h (csC m w n y)).rf.length < 32) ∧ ((csD last had h (csC m w n y)).rf = y.1.rf ∨ (csD last had h (csC m w n y)).rf = []) := by
 have key : ∀ z : Sn, Mid m w h { z with ser := 0 } → Mid m w h (wY z last had h) := fun z hz => by
   unfold wY
   refine { hz with ser := ⟨by dsimp only; omega, by dsimp only; omega⟩, dok := ?_, dz := ?_ }
   · dsimp only
     split
     · exact (wN last h).1
     · exact dyz_ok
   · dsimp only
     split
     · rename_i hd
       have := (wN last h).2
       rw [hl hd] at this
       exact this
     · exact .inr rfl
 unfold csC
 split
 · rename_i hc
   have e : csD last had h ({ y.1 with full := w, refr := 0, rf := [] }, true) = wY { y.1 with full := w, refr := 0, rf := [] } last had h := (csD_y (.inl rfl)).symm
   rw [e]
   refine ⟨key _ { h0 with full := ⟨by dsimp only; omega, by dsimp only; omega⟩, refr := ⟨by dsimp only; omega, by dsimp only; omega⟩, both := by dsimp only; omega, ser := ⟨by dsimp only; omega, by show (0 : Int) ≤ _; omega⟩, refs := fun r hr => (by cases hr), len := ⟨fun _ => by show (0 : Int) ≤ w; omega, fun _ => by show 0 ≤ 32; decide⟩ }, fun _ => by show 0 < 32; decide, .inr rfl⟩
 · rename_i hc
   have hlt : m = 3 → y.1.rf.length < 32 := fun hm => by have := h0.len.2 hm; rw [hn] at hc; omega
   unfold csD
   split
   · exact ⟨key _ { h0 with ser := ⟨by dsimp only; omega, by dsimp only; omega⟩ }, hlt, .inl rfl⟩
   · exact ⟨h0, hlt, .inl rfl⟩
theorem csE_mid (hw : 1 ≤ w) {u last : Hd} {had : Bool} (h0 : Mid m w h x) (hl : had = true → last.k = h.k) :
   Mid m w h (csE w last had h x).1 ∧ (1 ≤ (csE w last had h x).2 ∧ (csE w last had h x).2 ≤ 5) ∧ ((csE w last had h x).2 = 5 ↔ 0 < (csE w last had h x).1.full) ∧ ((csE w last had h x).2 = 4 ↔ 0 < (csE w last had h x).1.refr) ∧ (csE w last had h x).1.rf = x.rf := by
 have hb := h0.both
 have h1 := h0.full
 have h2 := h0.refr
 unfold csE
 split
 · exact ⟨h0, by dsimp only; omega, ⟨fun _ => by assumption, fun _ => rfl⟩, ⟨fun k => by dsimp only at k; omega, fun k => by dsimp only at k; omega⟩, rfl⟩
 · split
   · exact ⟨h0, by dsimp only; omega, ⟨fun k => by dsimp only at k; omega, fun k => by dsimp only at k; omega⟩, ⟨fun _ => by assumption, fun _ => rfl⟩, rfl⟩
   · split
     · exact ⟨h0, by dsimp only; omega, ⟨fun k => by dsimp only at k; omega, fun k => by dsimp only at k; omega⟩, ⟨fun k => by dsimp only at k; omega, fun k => by dsimp only at k; omega⟩, rfl⟩
     · split
       · exact ⟨h0, by dsimp only; omega, ⟨fun k => by dsimp only at k; omega, fun k => by dsimp only at k; omega⟩, ⟨fun k => by dsimp only at k; omega, fun k => by dsimp only at k; omega⟩, rfl⟩
       · split
         · exact ⟨h0, by dsimp only; omega, ⟨fun k => by dsimp only at k; omega, fun k => by dsimp only at k; omega⟩, ⟨fun k => by dsimp only at k; omega, fun k => by dsimp only at k; omega⟩, rfl⟩
         · unfold wY
           refine ⟨{ h0 with ser := ⟨by dsimp only; omega, by dsimp only; omega⟩, dok := ?_, dz := ?_, refr := ⟨by dsimp only; omega, by dsimp only; omega⟩, lng := ⟨by dsimp only; omega, by dsimp only; omega⟩, both := by dsimp only; omega }, by dsimp only; omega, ⟨fun k => by dsimp only at k; omega, fun k => by dsimp only at k; omega⟩, ⟨fun _ => by dsimp only; omega, fun _ => rfl⟩, rfl⟩
           · dsimp only
             split
             · exact (wN last h).1
             · exact dyz_ok
           · dsimp only
             split
             · rename_i hd
               have := (wN last h).2
               rw [hl hd] at this
               exact this
             · exact .inr rfl
theorem lst_k (hs : s.ok m w = true) (hh : s.act = true → qt s.fst h = true) (ha : s.act = true) : s.lst.k = h.k := (xO.1 (sn_refs hs ha (hh ha) _ (mem_lst (jf hs ha))).2).1
theorem ctx_mid (hw : 1 ≤ w) (hs : s.ok m w = true) (hh : s.act = true → qt s.fst h = true) :
   Mid m w h (xd m w s h).1 ∧ (1 ≤ (xd m w s h).2 ∧ (xd m w s h).2 ≤ 5) ∧ ((xd m w s h).2 = 5 ↔ 0 < (xd m w s h).1.full) ∧ ((xd m w s h).2 = 4 ↔ 0 < (xd m w s h).1.refr) ∧ (m = 3 → (xd m w s h).1.rf.length < 32) := by
 have hl := lst_k hs hh
 have h1 := vh (m := m) hw hs hh
 have h2 := vg hw h1.1 h1.2.1
 have h3 := csD_mid (n := s.rf.length) (last := s.lst) (had := s.act) hw (by rw [h2.2.2, h1.2.2]) h2.1 h2.2.1 hl
 have h4 := csE_mid (last := s.lst) (had := s.act) (u := h) hw h3.1 hl
 unfold xd
 exact ⟨h4.1, h4.2.1, h4.2.2.1, h4.2.2.2.1, fun hm => by rw [h4.2.2.2.2]; exact h3.2.1 hm⟩
theorem all_of {l : List Hd} {p : Hd → Bool} (k : ∀ r ∈ l, p r = true) : l.all p = true := List.all_eq_true.2 k
theorem sn_ok_of (ha : x.act = true) (hr : yg m w x) (hd : x.dy.ok = true) (hk : x.fst.k = 2 ∨ x.dy = Dy.z) (hrf : ∀ r ∈ x.rf, r.ok = true ∧ qt r x.fst = true) : x.ok m w = true := by
 refine (Sn.ok_e ha).2 ⟨hr, hd, all_of fun r hr => ?_, ?_⟩
 · unfold wq
   rw [(hrf r hr).1, (hrf r hr).2]; rfl
 · unfold endR
   exact decide_eq_true hk
def cutN (m w : Int) (x : Sn) : Nat := if m ≠ 3 ∧ w < (x.rf.length : Int) + 1 then ((x.rf.length : Int) + 1 - w).toNat else 0
theorem csF_rf (f : Int) : (csF m w h x f).rf = (x.rf ++ [h]).drop (cutN m w x) := by
 unfold csF cutN
 dsimp only
 split
 · rfl
 · rw [List.drop_zero]
theorem cutN_le (hw : 1 ≤ w) : cutN m w x ≤ x.rf.length := by unfold cutN; split <;> omega
theorem csF_len (hw : 1 ≤ w) (f : Int) : (csF m w h x f).rf.length = x.rf.length + 1 - cutN m w x := by rw [csF_rf]; simp
theorem csF_ok (hw : 1 ≤ w) (hw8 : w ≤ 8) (h0 : Mid m w h x) (ho : h.ok = true) {f : Int} (h5 : f = 5 → 0 < x.full) (h4 : f = 4 → 0 < x.refr) (h3 : m = 3 → x.rf.length < 32) : (csF m w h x f).ok m w = true ∧ (csF m w h x f).act = true ∧ qt (csF m w h x f).fst h = true := by
 have hl := csF_len (m := m) (h := h) (x := x) hw f
 have hc := cutN_le (m := m) (x := x) hw
 have hpos : 0 < (csF m w h x f).rf.length := by omega
 have hmem : ∀ r ∈ (csF m w h x f).rf, r.ok = true ∧ qt r h = true := fun r hr => by
   rw [csF_rf] at hr
   have := List.mem_of_mem_drop hr
   rw [List.mem_append, List.mem_singleton] at this
   rcases this with k | rfl
   · exact h0.refs r k
   · exact ⟨ho, sameR_rfl _⟩
 have hf := hmem _ (mem_fst hpos)
 have a1 := h0.full
 have a2 := h0.refr
 have a3 := h0.both
 have a4 := h0.ser
 have a5 := h0.sin
 have a6 := h0.lng
 have a7 := h0.len
 refine ⟨sn_ok_of h0.act ?_ h0.dok ?_ fun r hr => ⟨(hmem r hr).1, xx (hmem r hr).2 (kH hf.2)⟩, h0.act, hf.2⟩
 · have e : (csF m w h x f).ser = if m ≠ 3 ∧ w < (x.rf.length : Int) + 1 then max 0 (x.ser - ((x.rf.length : Int) + 1 - w)) else x.ser := rfl
   refine ⟨hpos, ?_, ?_, ?_, ?_, ?_, ?_, ?_⟩
   · rw [hl]
     unfold jg cutN
     by_cases hm : m = 3
     · have := h3 hm; rw [if_pos hm, if_neg (by omega)]; omega
     · have := a7.1 hm; rw [if_neg hm]; split <;> omega
   · rw [hl, e]
     unfold cutN
     split <;> omega
   · show 0 ≤ (if m ≠ 3 ∧ f = 5 then x.full - 1 else x.full) ∧ (if m ≠ 3 ∧ f = 5 then x.full - 1 else x.full) ≤ w
     split <;> omega
   · show 0 ≤ (if m ≠ 3 ∧ f = 4 then x.refr - 1 else x.refr) ∧ (if m ≠ 3 ∧ f = 4 then x.refr - 1 else x.refr) ≤ w
     split <;> omega
   · show ¬ (0 < (if m ≠ 3 ∧ f = 5 then x.full - 1 else x.full) ∧ 0 < (if m ≠ 3 ∧ f = 4 then x.refr - 1 else x.refr))
     split <;> split <;> omega
   · show 0 ≤ (if f = 5 then 0 else min (x.sin + 1) 32) ∧ (if f = 5 then 0 else min (x.sin + 1) 32) ≤ 32
     split <;> omega
   · show 0 ≤ (if (f = 2 ∨ f = 3) ∧ h.k = 2 then min (x.lng + 1) 3 else 0) ∧ (if (f = 2 ∨ f = 3) ∧ h.k = 2 then min (x.lng + 1) 3 else 0) ≤ 3
     split <;> omega
 · rw [(xO.1 hf.2).1]
   exact h0.dz
end
theorem yB {c : Co} : c.ok = true ↔ (1 ≤ c.m ∧ c.m ≤ 3 ∧ 1 ≤ c.w ∧ c.w ≤ 8) ∧ c.cx.length = 16 ∧ (∀ i, i < 16 → (c.at i).ok c.m c.w = true) ∧ ∀ i k, k < i → i < 16 → qW (c.at i) (c.at k) = false := by
 constructor
 · intro h
   refine ⟨wc h, qY h, fun i hi => co_sn h i (by rw [qY h]; exact hi), fun i k hk hi => ?_⟩
   have h1 := yZ (co_oks h) hi
   rw [Bool.and_eq_true] at h1
   have h2 := yZ h1.2 hk
   simpa using h2
 · rintro ⟨h1, h2, h3, h4⟩
   refine okc ?_ h2 ?_
   · unfold zJ; exact decide_eq_true h1
   · rw [oks_e, List.all_eq_true]
     intro i hi
     have hi := List.mem_range.1 hi
     unfold oksG
     rw [h3 i hi, Bool.true_and, List.all_eq_true]
     intro k hk
     rw [h4 i k (List.mem_range.1 hk) hi]; rfl
theorem alike_e {s t : Sn} : qW s t = true ↔ s.act = true ∧ t.act = true ∧ qt s.fst t.fst = true := by unfold qW; simp
theorem alike_f {s t : Sn} (h : s.act = true → t.act = true → qt s.fst t.fst = true → False) : qW s t = false := by
 cases hc : qW s t with
 | false => rfl
 | true => rw [alike_e] at hc; exact (h hc.1 hc.2.1 hc.2.2).elim
theorem co_set {c : Co} {i : Nat} {s : Sn} {h : Hd} (hc : c.ok = true) (hi : i < 16) (hs : s.ok c.m c.w = true) (hf : s.act = true → qt s.fst h = true) (ho : ∀ k, k < 16 → k ≠ i → (c.at k).act = true → qt (c.at k).fst h = false) : (c.set i s).ok = true := by
 obtain ⟨h1, h2, h3, h4⟩ := yB.1 hc
 have hat : ∀ k, k < 16 → (c.set i s).at k = if k = i then s else c.at k := fun k hk => by
   unfold Co.set Co.at
   rw [List.getD_eq_getElem?_getD, List.getElem?_set]
   split
   · rename_i e; subst e; rw [if_pos (by omega), if_pos rfl]; rfl
   · rename_i e; rw [if_neg (fun k => e k.symm), List.getD_eq_getElem?_getD]
 refine yB.2 ⟨h1, by show (c.cx.set i s).length = 16; rw [List.length_set]; exact h2, fun k hk => ?_, fun a b hb ha => ?_⟩
 · rw [hat k hk]
   split
   · exact hs
   · exact h3 k hk
 · rw [hat a ha, hat b (by omega)]
   split
   · rename_i e
     rw [if_neg (by omega)]
     refine alike_f fun x1 x2 x3 => ?_
     have := ho b (by omega) (by omega) x2
     rw [xx (kH x3) (hf x1)] at this
     cases this
   · rename_i e
     split
     · refine alike_f fun x1 x2 x3 => ?_
       have := ho a ha e x1
       rw [xx x3 (hf x2)] at this
       cases this
     · exact h4 a b hb ha
theorem zA {c : Co} {h : Hd} {i : Nat} (hc : c.ok = true) (hf : qP c.cx h = some i) : i < 16 ∧ (c.at i).ok c.m c.w = true ∧ ((c.at i).act = true → qt (c.at i).fst h = true) ∧ ∀ k, k < 16 → k ≠ i → (c.at k).act = true → qt (c.at k).fst h = false := by
 have hl := qY hc
 have hi := findR_lt hf
 obtain ⟨h1, h2, h3, h4⟩ := yB.1 hc
 have ga : ∀ k, (hk : k < c.cx.length) → c.at k = c.cx[k] := fun k hk => by unfold Co.at; simp [List.getD_eq_getElem?_getD, hk]
 refine ⟨by omega, h3 i (by omega), ?_⟩
 unfold qP at hf
 split at hf
 · rename_i j hj
   cases hf
   unfold ownI at hj
   rw [List.findIdx?_eq_some_iff_getElem] at hj
   obtain ⟨hx, h5, -⟩ := hj
   rw [← ga i hi, Bool.and_eq_true] at h5
   refine ⟨fun _ => h5.2, fun k hk hne hka => ?_⟩
   cases hs : qt (c.at k).fst h with
   | false => rfl
   | true =>
     have h6 := xx hs (kH h5.2)
     rcases Nat.lt_or_gt_of_ne hne with hlt | hgt
     · have := h4 i k hlt (by omega)
       rw [alike_e.2 ⟨h5.1, hka, kH h6⟩] at this; cases this
     · have := h4 k i hgt hk
       rw [alike_e.2 ⟨hka, h5.1, h6⟩] at this; cases this
 · rename_i hj
   unfold ownI at hj
   rw [List.findIdx?_eq_none_iff] at hj
   have h7 : ∀ k, k < 16 → (c.at k).act = true → qt (c.at k).fst h = false := fun k hk hka => by
     have := hj (c.cx[k]) (List.getElem_mem _)
     rw [← ga k (by omega), hka] at this
     simpa using this
   unfold wO at hf
   rw [List.findIdx?_eq_some_iff_getElem] at hf
   obtain ⟨hx, h5, -⟩ := hf
   rw [← ga i hi] at h5
   refine ⟨fun ha => (by rw [ha] at h5; cases h5), fun k hk _ hka => h7 k hk hka⟩
theorem comp_ok {c : Co} {h : Hd} {pl : List UInt8} {i : Nat} (hc : c.ok = true) (ho : h.ok = true) (hf : qP c.cx h = some i) : (qS c i h pl).1.ok = true := by
 obtain ⟨hi, hs, hh, hoth⟩ := zA hc hf
 obtain ⟨h1, h2, h3, h4⟩ := wc hc
 have hm := ctx_mid h3 hs hh
 have h5 := csF_ok h3 h4 hm.1 ho (f := (xd c.m c.w (c.at i) h).2) hm.2.2.1.1 hm.2.2.2.1.1 hm.2.2.2.2
 exact co_set hc hi h5.1 (fun _ => h5.2.2) hoth
theorem je {b pl : List UInt8} {h : Hd} (hp : qg b = ((h, pl), 0)) : h.ok = true ∧ zp h pl = (b, 0) ∧ b.length ≤ 1500 ∧ b ≠ [] ∧ pl.length ≤ 1500 := by
 unfold qg at hp
 split at hp
 · exact absurd (congrArg Prod.snd hp) (show ¬ (2 : Int) = 0 by decide)
 · rename_i hl
   split at hp
   · rename_i he
     have e1 : zY b = h := congrArg (fun x => x.1.1) hp
     have e2 : b.drop (yk b) = pl := congrArg (fun x => x.1.2) hp
     rw [e1, e2] at he
     refine ⟨?_, he, by omega, fun e => hl (.inl (by rw [e]; decide)), by rw [← e2, List.length_drop]; omega⟩
     cases ho : h.ok with
     | true => rfl
     | false => rw [bldR_n ho] at he; exact absurd (congrArg Prod.snd he) (show ¬ (1 : Int) = 0 by decide)
   · exact absurd (congrArg Prod.snd hp) (show ¬ (4 : Int) = 0 by decide)
theorem kz {c : Co} {b : List UInt8} (hc : c.ok = true) (hb : ¬ (b = [] ∨ 1500 < b.length)) : (qf c b).1.1.ok = true ∧ (qf c b).2 = 0 ∧ (qf c b).1.1.m = c.m ∧ (qf c b).1.1.w = c.w := by
 unfold qf
 rw [if_pos hc, if_neg hb]
 split
 · rename_i hp
   have ho := (je (b := b) (h := (qg b).1.1) (pl := (qg b).1.2) (by rw [← hp])).1
   split
   · rename_i i hf
     split
     · exact ⟨hc, rfl, rfl, rfl⟩
     · exact ⟨comp_ok hc ho hf, rfl, rfl, rfl⟩
   · exact ⟨hc, rfl, rfl, rfl⟩
 · exact ⟨hc, rfl, rfl, rfl⟩
open Go.RowKit
theorem kK {G : Nat → AV} (t : List Int) (a : Nat) (fl : Int) (cnt : Int) (reg : Bool) (h0 : 1 ≤ fl) (h1 : fl ≤ 10) (h2 : 0 ≤ cnt) (h3 : cnt ≤ 100) (ht : t.length ≤ 400) (p : Nm) : LP Tryz.prog G 11 [.ptr p 0, iAV fl, iAV cnt, .bool reg] [(p, z4 t a)] (fun _ => (bbv (jw t a fl.toNat cnt reg).bs, [(p, z4 t (jw t a fl.toNat cnt reg).a)])) := by
 have h := packets_c (G := G) t a fl.toNat cnt reg (by omega) (by omega) h2 h3 ht p
 rwa [show ((fl.toNat : Nat) : Int) = fl by omega] at h
theorem z_at {m w : Int} (i : Nat) : (⟨m, w, List.replicate 16 Sn.z⟩ : Co).at i = Sn.z := by
 unfold Co.at
 rw [List.getD_eq_getElem?_getD, List.getElem?_replicate]
 split <;> rfl
theorem xw {L : List (List UInt8)} (h : ∀ b ∈ L, zt b) {i : Nat} (hi : (i : Int) < (L.length : Int)) : zt (L.getD i []) := by
 refine h _ ?_
 rw [List.getD_eq_getElem?_getD, List.getElem?_eq_getElem (by omega)]
 exact List.getElem_mem _
theorem vn {m w : Int} (hm : 1 ≤ m ∧ m ≤ 3) (hw : 1 ≤ w ∧ w ≤ 8) : Co.ok ⟨m, w, List.replicate 16 Sn.z⟩ = true := by
 refine yB.2 ⟨⟨hm.1, hm.2, hw.1, hw.2⟩, by simp, fun i hi => ?_, fun i k hk hi => ?_⟩
 · rw [z_at]; rfl
 · rw [z_at]; rfl
end Go.Proofs.YtbagbjacmakfhaaGreatDoor
