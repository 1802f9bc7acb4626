/-
  Contracts of the functions that the laws reach.
-/
import Derived.Test.YtbagbjacmakfhaaDoorCr01
import Derived.Test.YtbagbjacmakfhaaDoorCr02
import Derived.Test.YtbagbjacmakfhaaDoorCr03
import Derived.Test.YtbagbjacmakfhaaDoorCr04
import Derived.Test.YtbagbjacmakfhaaDoorCr05
set_option maxHeartbeats 4000000
set_option linter.all false
namespace Go.Proofs.YtbagbjacmakfhaaDoor
open Go.RowKit
variable {G : Nat → AV}
structure Sm where
 cx : Int
 f : Int
 n : Int
 tm : Int
 mr : Int
 id : Int
 ud : Int
 h : Hd
 d : Dy
 ck : Int
 pl : List UInt8
@[reducible] def Sm.cs (s : Sm) : List AV := [iAV s.cx, iAV s.f, iAV s.n, iAV s.tm, iAV s.mr, iAV s.id, iAV s.ud, iAV s.h.k, iAV s.h.tos, iAV s.h.id, iAV s.h.fx, iAV s.h.ttl, iAV s.h.fr, iAV s.h.to, iAV s.h.fp, iAV s.h.tp, iAV s.h.ck, iAV s.h.mr, iAV s.h.ty, iAV s.h.sq, iAV s.h.tm, iAV s.h.sr, iAV s.d.st, iAV s.d.fo, iAV s.ck, bv s.pl]
@[reducible] def Sm.av (s : Sm) : AV := .agg s.cs
def cbR (f : Int) : Int := if f = 1 then 3 else if f = 2 then 7 else 8
theorem cbits_c8 (f : Int) : LP Tryd.prog G 77 [iAV f] [] (fun _ => (iAV (cbR f), [])) := by
 refine goW [] Tryd.func77 rfl ?_
 conv => whnf
 repeat' ((first | refine T.s ?_ | ((first | apply goB | apply AB.dec | apply AB.gen) <;> intro h <;> try (exfalso; omega)) | refine LQ.mk fun r => ?_ | exact T.z | fail) <;> conv => whnf)
 all_goals (try dsimp only)
 all_goals
   (show RL _ _ _; refine goR ?_)
   simp [cbR, iAV, *]
def wid (f k : Int) (i : Nat) : Int := (if f = 1 then [4, 0, 0, 0] else if f = 2 ∧ k = 2 then [5, 16, 1, 0] else if f = 2 then [5, 0, 0, 0] else if k = 2 then [8, 32, 1, 16] else [16, 0, 0, 0] : List Int).getD i 0
theorem vJ (f k : Int) : LP Tryd.prog G 83 [iAV f, iAV k] [] (fun _ => (.agg [iAV (wid f k 0), iAV (wid f k 1), iAV (wid f k 2), iAV (wid f k 3)], [])) := by
 refine goW [] Tryd.func83 rfl ?_
 conv => whnf
 repeat' ((first | refine T.s ?_ | ((first | apply goB | apply AB.dec | apply AB.gen) <;> intro h <;> try (exfalso; omega)) | refine LQ.mk fun r => ?_ | exact T.z | fail) <;> conv => whnf)
 all_goals (try dsimp only)
 all_goals
   (show RL _ _ _; refine goR ?_)
   simp [wid, iAV, ql, *]
theorem v9 (f k : Int) : LP Tryd.prog G 57 [iAV f, iAV k] [] (fun _ => (iAV (wid f k 0), [])) := by
 refine goW [] Tryd.func57 rfl ?_
 conv => whnf
 repeat' ((first | (show LC _ _ _ _ _ _; first | refine LC.pure (vJ _ _) ?_ | refine goE ?_) | refine T.s ?_ | ((first | apply goB | apply AB.dec | apply AB.gen) <;> intro h <;> try (exfalso; omega)) | refine LQ.mk fun r => ?_ | exact T.z | fail) <;> conv => whnf)
 all_goals (try dsimp only)
 (show RL _ _ _; refine goR ?_)
 rfl
def qL (n v : Int) : Bool := decide (0 ≤ v ∧ v < 2 ^ n.toNat)
theorem pow_w (n : Int) (h0 : 0 ≤ n) (h1 : n ≤ 32) : IntKind.i64.wrap (1 * 2 ^ min n.toNat IntKind.i64.bits) = 2 ^ n.toNat := by
 have e : min n.toNat IntKind.i64.bits = n.toNat := Nat.min_eq_left (by show n.toNat ≤ 64; omega)
 rw [e, Int.one_mul, IntKind.wrap_i64]
 have h2 : (2 : Int) ^ n.toNat ≤ 2 ^ 32 := by exact_mod_cast Nat.pow_le_pow_right (by decide) (show n.toNat ≤ 32 by omega)
 have h3 : (0 : Int) < 2 ^ n.toNat := Int.pow_pos (by decide)
 omega
theorem vn (n v : Int) (h0 : 0 ≤ n) (h1 : n ≤ 32) : LP Tryd.prog G 82 [iAV n, iAV v] [] (fun _ => (.bool (qL n v), [])) := by
 have hw := pow_w n h0 h1
 refine goW [] Tryd.func82 rfl ?_
 conv => whnf
 repeat' ((first | refine T.s ?_ | ((first | apply goB | apply AB.dec | apply AB.gen) <;> intro h <;> try (exfalso; omega)) | refine LQ.mk fun r => ?_ | exact T.z | fail) <;> conv => whnf)
 all_goals (try dsimp only)
 all_goals
   (show RL _ _ _; refine goR ?_)
   refine congrArg AV.bool ?_
   rw [Bool.eq_iff_iff]
   simp_all [qL, ql] <;> (intros; omega)
attribute [irreducible] qL
def k9 (s : Sm) : Bool := decide (s.n = 0 ∧ s.tm = 0 ∧ s.mr = 0 ∧ s.id = 0 ∧ s.ud = 0)
def hzR (h : Hd) (k : Int) : Bool := decide (h.k = k ∧ h.tos = 0 ∧ h.id = 0 ∧ h.fx = 0 ∧ h.ttl = 0 ∧ h.fr = 0 ∧ h.to = 0 ∧ h.fp = 0 ∧ h.tp = 0 ∧ h.ck = 0 ∧ h.mr = 0 ∧ h.ty = 0 ∧ h.sq = 0 ∧ h.tm = 0 ∧ h.sr = 0)
def szR (h : Hd) : Bool := decide (h.fr = 0 ∧ h.to = 0 ∧ h.fp = 0 ∧ h.tp = 0 ∧ h.sr = 0)
def dzR (d : Dy) : Bool := decide (d.st = 0 ∧ d.fo = 0)
def xM (s : Sm) : Bool := s.h.ok && (s.d.ok && (!(decide (s.h.k = 1) && !(dzR s.d)) && (decide (s.f = 5) || szR s.h)))
def zA (s : Sm) : Bool := qL (wid s.f s.h.k 0) s.n && (qL (wid s.f s.h.k 1) s.tm && (qL (wid s.f s.h.k 2) s.mr && (qL (wid s.f s.h.k 3) s.id && qL 16 s.ud)))
def topR (s : Sm) : Bool := decide (0 ≤ s.cx ∧ s.cx < 16 ∧ s.pl.length ≤ 1500) && qL (cbR s.f) s.ck
def Sm.ok (s : Sm) : Bool :=
 topR s && (if s.f = 1 ∨ s.f = 2 ∨ s.f = 3 then zA s && (decide (s.h.k = 1 ∨ s.h.k = 2) && (hzR s.h s.h.k && dzR s.d))
   else if s.f = 4 ∨ s.f = 5 then k9 s && xM s
   else if s.f = 6 then k9 s && (decide (s.cx = 0 ∧ s.ck = 0) && (hzR s.h 0 && dzR s.d)) else false)
theorem wid_le (f k : Int) (i : Nat) : 0 ≤ wid f k i ∧ wid f k i ≤ 32 := by
 unfold wid
 rcases i with _ | _ | _ | _ | i <;> (repeat' split) <;> simp
theorem cbR_le (f : Int) : 0 ≤ cbR f ∧ cbR f ≤ 32 := by
 unfold cbR
 (repeat' split) <;> omega
theorem fwhole_c (s : Sm) : LP Tryd.prog G 84 [s.av] [] (fun _ => (.bool (xM s), [])) := by
 refine goW [] Tryd.func84 rfl ?_
 conv => whnf
 repeat' ((first | exact Nm.b 0 | (show LC _ _ _ _ _ _; first | refine LC.pure (zt s.h) ?_ | refine LC.pure (xD s.d) ?_ | refine LC.pure (yB s.h) ?_ | refine goE ?_) | refine T.s ?_ | ((first | apply goB | apply AB.dec | apply AB.gen) <;> intro h <;> try (exfalso; omega)) | refine LQ.mk fun r => ?_ | (show SQ _ _ _ _ _ _ _; first | (apply goD tQ qf 4 [7, 5] [0, 1, 2, 3, 4, 6, 7, 8, 5, 9, 10, 11] [_] (by kernel_rfl)) | (refine goD tQ qf 4 [7, 5] [0, 1, 2, 3, 4, 6, 7, 8, 5, 9, 10, 11] [] (by kernel_rfl) ?_)) | exact T.z | fail) <;> try (show (_ : Prop); conv => whnf))
 all_goals (try dsimp only)
 all_goals
   (show RL _ _ _; refine goR ?_)
   refine congrArg AV.bool ?_
   rw [Bool.eq_iff_iff]
   simp_all [xM, dzR, szR, qH, ql, Hd.static]
open Go.RowKit
variable {G : Nat → AV}
theorem yA (s : Sm) : LP Tryd.prog G 55 [s.av] [] (fun _ => (.bool s.ok, [])) := by
 refine goW [3, 10] Tryd.func55 rfl ?_
 conv => whnf
 repeat' ((first | exact Nm.b 0 | (show LC _ _ _ _ _ _; first | refine LC.pure (cbits_c8 _) ?_ | refine LC.pure (vJ _ _) ?_ | refine LC.pure (vn _ _ (cbR_le _).1 (cbR_le _).2) ?_ | refine LC.pure (vn _ _ (wid_le _ _ _).1 (wid_le _ _ _).2) ?_ | refine LC.pure (vn _ _ (by decide) (by decide)) ?_ | refine LC.pure (fwhole_c s) ?_ | refine goE ?_) | refine T.s ?_ | ((first | apply goB | apply AB.dec | apply AB.gen) <;> intro h <;> try (exfalso; omega)) | refine LQ.mk fun r => ?_ | (show SQ _ _ _ _ _ _ _; first | (apply goD tQ qf 1 [19, 17] [0, 1, 2, 3, 4, 5, 6, 7, 8, 9, 10, 11, 12, 13, 14, 15, 16, 18, 19, 17, 20, 21, 22] [_] (by kernel_rfl)) | (refine goD tQ qf 1 [19, 17] [0, 1, 2, 3, 4, 5, 6, 7, 8, 9, 10, 11, 12, 13, 14, 15, 16, 18, 19, 17, 20, 21, 22] [] (by kernel_rfl) ?_)) | (show CutL _ _ _ _ _ _ _ _; first | (refine goK tQ [3, 10] 3 (S := Nm) [] (fun p => ⟨[(3, .bool (k9 s)), (1, .ptr p 0)], [(p, ⟨68, s.cs⟩)], True, 0⟩) ?_ ?_; (rintro p -); rotate_left) | (refine goK tQ [3, 10] 10 (S := Nm) [4] (fun p => ⟨[(6, .bool (zA s)), (1, .ptr p 0)], [(p, ⟨68, s.cs⟩)], True, 0⟩) ?_ ?_; (rintro p -); rotate_left) | refine CutL.go tQ [3, 10] ?_) | (show AtC _ _ _ _ _ _ _ _; first | (apply AtC.mk' (id := 3) (S := Nm) (_); all_goals (try exact K476); done) | (apply AtC.mk' (id := 10) (S := Nm) (_); all_goals (try exact K476); done) | (apply AtC.mk' (id := 3) (S := Nm) (_); all_goals (try exact K476)) | (apply AtC.mk' (id := 10) (S := Nm) (_); all_goals (try exact K476))) | exact T.z | fail) <;> try (show (_ : Prop); conv => whnf))
 all_goals (try dsimp only)
 all_goals
   (show RL _ _ _; refine goR ?_)
   refine congrArg AV.bool ?_
   rw [Bool.eq_iff_iff]
   simp_all [Sm.ok, topR, k9, hzR, dzR, qH, ql] <;> (intros; omega)
end Go.Proofs.YtbagbjacmakfhaaDoor
