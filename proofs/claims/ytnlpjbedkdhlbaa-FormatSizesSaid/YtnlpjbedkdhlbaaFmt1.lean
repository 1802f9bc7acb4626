import Derived.Test.YtnlpjbedkdhlbaaHd1
namespace Go.Proofs.Ytnlpjbedkdhlbaa
open Go.RowKit
set_option linter.all false
variable {G : Nat → AV}
/-- A compressed packet in parts. -/
structure Sm where
  cx : Int
  f : Int
  n : Int
  tm : Int
  mr : Int
  id : Int
  ud : Int
  h : Hd
  d : Dy
  ck : Int
  pl : List UInt8
@[reducible] def Sm.cs (s : Sm) : List AV := [iAV s.cx, iAV s.f, iAV s.n, iAV s.tm, iAV s.mr, iAV s.id, iAV s.ud, iAV s.h.k, iAV s.h.tos, iAV s.h.id, iAV s.h.fx, iAV s.h.ttl, iAV s.h.fr, iAV s.h.to, iAV s.h.fp, iAV s.h.tp, iAV s.h.ck, iAV s.h.mr, iAV s.h.ty, iAV s.h.sq, iAV s.h.tm, iAV s.h.sr, iAV s.d.st, iAV s.d.fo, iAV s.ck, bv s.pl]
@[reducible] def Sm.av (s : Sm) : AV := .agg s.cs
def cbR (f : Int) : Int := if f = 1 then 3 else if f = 2 then 7 else 8
theorem cbits_c8 (f : Int) : LSpec Try.prog G 37 [iAV f] [] (fun _ => (iAV (cbR f), [])) := by
  refine LSpec.introL tyOk Try.func37 rfl (by kernel_rfl) (by simp) (fun q => ⟨by simp, by simp⟩) ?_
  refine AWpL.sound tyOk [] _ _ _ _ ?_
  conv => whnf
  repeat' first
    | (show LHas _ _ _; ((try show LHas _ _ _); repeat (with_reducible show LHas _ _ _); first | apply LHas.here | apply LHas.next); conv => whnf)
    | ((first | (with_reducible refine And.intro ?_ ?_) | refine And.intro ?_ ?_); (focus (first | exact T.side)); conv => whnf)
    | (show ABr _ _ _; first | (refine ABr.tt ?_; conv => whnf) | (refine ABr.ff ?_; conv => whnf) | (refine ABr.byN ?_) | ((with_reducible refine ABr.eqlT (by assumption) ?_); conv => whnf) | ((with_reducible refine ABr.eqlF (by assumption) ?_); conv => whnf) | ((with_reducible refine ABr.eql (fun h => ?_) (fun h => ?_)) <;> first | (exfalso; omega) | conv => whnf) | (refine ABr.byT (by with_reducible assumption) ?_; conv => whnf) | (refine ABr.byF (by with_reducible assumption) ?_; conv => whnf) | ((with_reducible refine ABr.decT rfl ?_); conv => whnf) | ((with_reducible refine ABr.decT (by assumption) ?_); conv => whnf) | ((with_reducible refine ABr.decF (by assumption) ?_); conv => whnf) | (refine ABr.dec (fun h => ?_) (fun h => ?_) <;> first | (exfalso; omega) | conv => whnf) | (refine ABr.gen (fun h => ?_) (fun h => ?_) <;> conv => whnf))
    | (show ACell _ _ _; first | (refine ACell.cell 0 ?_ ?_; (focus (first | exact T.side)); conv => whnf) | (refine ACell.mk ?_; conv => whnf))
    | (show AList _ _; first | (refine AList.app ?_ ?_; (focus (first | exact T.side)); conv => whnf) | (refine AList.set (x := b8 _) (bAV_b8 _).symm ?_ ?_; (focus (first | exact T.side)); conv => whnf) | (refine AList.set (f := iAV) rfl ?_ ?_; (focus (first | exact T.side)); conv => whnf) | (refine AList.part ?_; conv => whnf) | (refine AList.force ?_; (conv => whnf); refine Lit.mk ?_; conv => whnf) | (refine AList.full ?_ ?_; (focus (first | exact Nat.le_of_ble_eq_true rfl | (simp; done) | (simp; omega))); conv => whnf) | (refine AList.mk ?_; conv => whnf))
    | (refine LFresh.mk fun r => ?_; conv => whnf)
    | (show KeepL _ _ _; first | (with_reducible exact KeepL.refl) | (refine KeepL.cons ?_; ((try show LHas _ _ _); repeat (with_reducible show LHas _ _ _); first | apply LHas.here | apply LHas.next); ((try show LHas _ _ _); repeat (with_reducible show LHas _ _ _); first | apply LHas.here | apply LHas.next); refine And.intro rfl ?_) | exact KeepL.nil)
    | (show InL _ _; first | exact InL.here | refine InL.next ?_)
    | (show False; (exact T.num))
  all_goals (try dsimp only)
  all_goals
    (refine RetL.val ?_ ?_; rotate_left; (focus ((repeat' first | exact LSub.nil | (with_reducible exact LSub.refl) | (apply LSub.cons; ((try show LHas _ _ _); repeat (with_reducible show LHas _ _ _); first | apply LHas.here | apply LHas.next); refine And.intro ?_ ?_; (focus (try (first | (with_reducible rfl) | (refine congrArg (Pl.mk _) ?_; (first | rfl | (simp; done))) | rfl | (with_reducible refine congrArg (Pl.mk _) ?_)))))))))
    simp [cbR, iAV, *]
def wid (f k : Int) (i : Nat) : Int := (if f = 1 then [4, 0, 0, 0] else if f = 2 ∧ k = 2 then [5, 16, 1, 0] else if f = 2 then [5, 0, 0, 0] else if k = 2 then [8, 32, 1, 16] else [16, 0, 0, 0] : List Int).getD i 0
theorem widths_c (f k : Int) : LSpec Try.prog G 38 [iAV f, iAV k] [] (fun _ => (.agg [iAV (wid f k 0), iAV (wid f k 1), iAV (wid f k 2), iAV (wid f k 3)], [])) := by
  refine LSpec.introL tyOk Try.func38 rfl (by kernel_rfl) (by simp) (fun q => ⟨by simp, by simp⟩) ?_
  refine AWpL.sound tyOk [] _ _ _ _ ?_
  conv => whnf
  repeat' first
    | (show LHas _ _ _; ((try show LHas _ _ _); repeat (with_reducible show LHas _ _ _); first | apply LHas.here | apply LHas.next); conv => whnf)
    | ((first | (with_reducible refine And.intro ?_ ?_) | refine And.intro ?_ ?_); (focus (first | exact T.side)); conv => whnf)
    | (show ABr _ _ _; first | (refine ABr.tt ?_; conv => whnf) | (refine ABr.ff ?_; conv => whnf) | (refine ABr.byN ?_) | ((with_reducible refine ABr.eqlT (by assumption) ?_); conv => whnf) | ((with_reducible refine ABr.eqlF (by assumption) ?_); conv => whnf) | ((with_reducible refine ABr.eql (fun h => ?_) (fun h => ?_)) <;> first | (exfalso; omega) | conv => whnf) | (refine ABr.byT (by with_reducible assumption) ?_; conv => whnf) | (refine ABr.byF (by with_reducible assumption) ?_; conv => whnf) | ((with_reducible refine ABr.decT rfl ?_); conv => whnf) | ((with_reducible refine ABr.decT (by assumption) ?_); conv => whnf) | ((with_reducible refine ABr.decF (by assumption) ?_); conv => whnf) | (refine ABr.dec (fun h => ?_) (fun h => ?_) <;> first | (exfalso; omega) | conv => whnf) | (refine ABr.gen (fun h => ?_) (fun h => ?_) <;> conv => whnf))
    | (show ACell _ _ _; first | (refine ACell.cell 0 ?_ ?_; (focus (first | exact T.side)); conv => whnf) | (refine ACell.mk ?_; conv => whnf))
    | (show AList _ _; first | (refine AList.app ?_ ?_; (focus (first | exact T.side)); conv => whnf) | (refine AList.set (x := b8 _) (bAV_b8 _).symm ?_ ?_; (focus (first | exact T.side)); conv => whnf) | (refine AList.set (f := iAV) rfl ?_ ?_; (focus (first | exact T.side)); conv => whnf) | (refine AList.part ?_; conv => whnf) | (refine AList.force ?_; (conv => whnf); refine Lit.mk ?_; conv => whnf) | (refine AList.full ?_ ?_; (focus (first | exact Nat.le_of_ble_eq_true rfl | (simp; done) | (simp; omega))); conv => whnf) | (refine AList.mk ?_; conv => whnf))
    | (refine LFresh.mk fun r => ?_; conv => whnf)
    | (show KeepL _ _ _; first | (with_reducible exact KeepL.refl) | (refine KeepL.cons ?_; ((try show LHas _ _ _); repeat (with_reducible show LHas _ _ _); first | apply LHas.here | apply LHas.next); ((try show LHas _ _ _); repeat (with_reducible show LHas _ _ _); first | apply LHas.here | apply LHas.next); refine And.intro rfl ?_) | exact KeepL.nil)
    | (show InL _ _; first | exact InL.here | refine InL.next ?_)
    | (show False; (exact T.num))
  all_goals (try dsimp only)
  all_goals
    (refine RetL.val ?_ ?_; rotate_left; (focus ((repeat' first | exact LSub.nil | (with_reducible exact LSub.refl) | (apply LSub.cons; ((try show LHas _ _ _); repeat (with_reducible show LHas _ _ _); first | apply LHas.here | apply LHas.next); refine And.intro ?_ ?_; (focus (try (first | (with_reducible rfl) | (refine congrArg (Pl.mk _) ?_; (first | rfl | (simp; done))) | rfl | (with_reducible refine congrArg (Pl.mk _) ?_)))))))))
    simp [wid, iAV, icmp, *]
theorem nbits_c (f k : Int) : LSpec Try.prog G 29 [iAV f, iAV k] [] (fun _ => (iAV (wid f k 0), [])) := by
  refine LSpec.introL tyOk Try.func29 rfl (by kernel_rfl) (by simp) (fun q => ⟨by simp, by simp⟩) ?_
  refine AWpL.sound tyOk [] _ _ _ _ ?_
  conv => whnf
  repeat' first
    | (show LHas _ _ _; ((try show LHas _ _ _); repeat (with_reducible show LHas _ _ _); first | apply LHas.here | apply LHas.next); conv => whnf)
    | ((first | (with_reducible refine And.intro ?_ ?_) | refine And.intro ?_ ?_); (focus (first | exact T.side)); conv => whnf)
    | (show LCall _ _ _ _ _ _; first | (refine LCall.pure (widths_c _ _) ?_; conv => whnf) | (apply LCall.eq; (focus (repeat first | (apply cons_congr; (focus (first | exact sl_bv rfl | exact sl_bv (by first | (simp; done) | (simp; (exact T.num))) | exact rfl))) | exact rfl)); first | (refine LCall.pure (widths_c _ _) ?_; conv => whnf)))
    | (show ABr _ _ _; first | (refine ABr.tt ?_; conv => whnf) | (refine ABr.ff ?_; conv => whnf) | (refine ABr.byN ?_) | (refine ABr.byT (by with_reducible assumption) ?_; conv => whnf) | (refine ABr.byF (by with_reducible assumption) ?_; conv => whnf) | ((with_reducible refine ABr.decT rfl ?_); conv => whnf) | ((with_reducible refine ABr.decT (by assumption) ?_); conv => whnf) | ((with_reducible refine ABr.decF (by assumption) ?_); conv => whnf) | (refine ABr.dec (fun h => ?_) (fun h => ?_) <;> first | (exfalso; omega) | conv => whnf) | (refine ABr.gen (fun h => ?_) (fun h => ?_) <;> conv => whnf))
    | (show ACell _ _ _; first | (refine ACell.cell 0 ?_ ?_; (focus (first | exact T.side)); conv => whnf) | (refine ACell.mk ?_; conv => whnf))
    | (show AList _ _; first | (refine AList.app ?_ ?_; (focus (first | exact T.side)); conv => whnf) | (refine AList.set (x := b8 _) (bAV_b8 _).symm ?_ ?_; (focus (first | exact T.side)); conv => whnf) | (refine AList.set (f := iAV) rfl ?_ ?_; (focus (first | exact T.side)); conv => whnf) | (refine AList.part ?_; conv => whnf) | (refine AList.force ?_; (conv => whnf); refine Lit.mk ?_; conv => whnf) | (refine AList.full ?_ ?_; (focus (first | exact Nat.le_of_ble_eq_true rfl | (simp; done) | (simp; omega))); conv => whnf) | (refine AList.mk ?_; conv => whnf))
    | (refine LFresh.mk fun r => ?_; conv => whnf)
    | (show KeepL _ _ _; first | (with_reducible exact KeepL.refl) | (refine KeepL.cons ?_; ((try show LHas _ _ _); repeat (with_reducible show LHas _ _ _); first | apply LHas.here | apply LHas.next); ((try show LHas _ _ _); repeat (with_reducible show LHas _ _ _); first | apply LHas.here | apply LHas.next); refine And.intro rfl ?_) | exact KeepL.nil)
    | (show InL _ _; first | exact InL.here | refine InL.next ?_)
    | (show False; (exact T.num))
  all_goals (try dsimp only)
  (refine RetL.val ?_ ?_; rotate_left; (focus ((repeat' first | exact LSub.nil | (with_reducible exact LSub.refl) | (apply LSub.cons; ((try show LHas _ _ _); repeat (with_reducible show LHas _ _ _); first | apply LHas.here | apply LHas.next); refine And.intro ?_ ?_; (focus (try (first | (with_reducible rfl) | (refine congrArg (Pl.mk _) ?_; (first | rfl | (simp; done))) | rfl | (with_reducible refine congrArg (Pl.mk _) ?_)))))))))
  rfl
def fitR (n v : Int) : Bool := decide (0 ≤ v ∧ v < 2 ^ n.toNat)
theorem pow_w (n : Int) (h0 : 0 ≤ n) (h1 : n ≤ 32) : IntKind.i64.wrap (1 * 2 ^ min n.toNat IntKind.i64.bits) = 2 ^ n.toNat := by
  have e : min n.toNat IntKind.i64.bits = n.toNat := Nat.min_eq_left (by show n.toNat ≤ 64; omega)
  rw [e, Int.one_mul, IntKind.wrap_i64]
  have h2 : (2 : Int) ^ n.toNat ≤ 2 ^ 32 := by exact_mod_cast Nat.pow_le_pow_right (by decide) (show n.toNat ≤ 32 by omega)
  have h3 : (0 : Int) < 2 ^ n.toNat := Int.pow_pos (by decide)
  omega
theorem ffits_c (n v : Int) (h0 : 0 ≤ n) (h1 : n ≤ 32) : LSpec Try.prog G 36 [iAV n, iAV v] [] (fun _ => (.bool (fitR n v), [])) := by
  have hw := pow_w n h0 h1
  refine LSpec.introL tyOk Try.func36 rfl (by kernel_rfl) (by simp) (fun q => ⟨by simp, by simp⟩) ?_
  refine AWpL.sound tyOk [] _ _ _ _ ?_
  conv => whnf
  repeat' first
    | (show LHas _ _ _; ((try show LHas _ _ _); repeat (with_reducible show LHas _ _ _); first | apply LHas.here | apply LHas.next); conv => whnf)
    | ((first | (with_reducible refine And.intro ?_ ?_) | refine And.intro ?_ ?_); (focus (first | exact T.side)); conv => whnf)
    | (show ABr _ _ _; first | (refine ABr.tt ?_; conv => whnf) | (refine ABr.ff ?_; conv => whnf) | (refine ABr.byN ?_) | ((with_reducible refine ABr.lssT (by assumption) ?_); conv => whnf) | ((with_reducible refine ABr.lssF (by assumption) ?_); conv => whnf) | ((with_reducible refine ABr.lss (fun h => ?_) (fun h => ?_)) <;> first | (exfalso; omega) | conv => whnf) | ((with_reducible refine ABr.geqT (by assumption) ?_); conv => whnf) | ((with_reducible refine ABr.geqF (by assumption) ?_); conv => whnf) | ((with_reducible refine ABr.geq (fun h => ?_) (fun h => ?_)) <;> first | (exfalso; omega) | conv => whnf) | (refine ABr.byT (by with_reducible assumption) ?_; conv => whnf) | (refine ABr.byF (by with_reducible assumption) ?_; conv => whnf) | ((with_reducible refine ABr.decT rfl ?_); conv => whnf) | ((with_reducible refine ABr.decT (by assumption) ?_); conv => whnf) | ((with_reducible refine ABr.decF (by assumption) ?_); conv => whnf) | (refine ABr.dec (fun h => ?_) (fun h => ?_) <;> first | (exfalso; omega) | conv => whnf) | (refine ABr.gen (fun h => ?_) (fun h => ?_) <;> conv => whnf))
    | (show ACell _ _ _; first | (refine ACell.cell 0 ?_ ?_; (focus (first | exact T.side)); conv => whnf) | (refine ACell.mk ?_; conv => whnf))
    | (show AList _ _; first | (refine AList.app ?_ ?_; (focus (first | exact T.side)); conv => whnf) | (refine AList.set (x := b8 _) (bAV_b8 _).symm ?_ ?_; (focus (first | exact T.side)); conv => whnf) | (refine AList.set (f := iAV) rfl ?_ ?_; (focus (first | exact T.side)); conv => whnf) | (refine AList.part ?_; conv => whnf) | (refine AList.force ?_; (conv => whnf); refine Lit.mk ?_; conv => whnf) | (refine AList.full ?_ ?_; (focus (first | exact Nat.le_of_ble_eq_true rfl | (simp; done) | (simp; omega))); conv => whnf) | (refine AList.mk ?_; conv => whnf))
    | (refine LFresh.mk fun r => ?_; conv => whnf)
    | (show KeepL _ _ _; first | (with_reducible exact KeepL.refl) | (refine KeepL.cons ?_; ((try show LHas _ _ _); repeat (with_reducible show LHas _ _ _); first | apply LHas.here | apply LHas.next); ((try show LHas _ _ _); repeat (with_reducible show LHas _ _ _); first | apply LHas.here | apply LHas.next); refine And.intro rfl ?_) | exact KeepL.nil)
    | (show InL _ _; first | exact InL.here | refine InL.next ?_)
    | (show False; (exact T.num))
  all_goals (try dsimp only)
  all_goals
    (refine RetL.val ?_ ?_; rotate_left; (focus ((repeat' first | exact LSub.nil | (with_reducible exact LSub.refl) | (apply LSub.cons; ((try show LHas _ _ _); repeat (with_reducible show LHas _ _ _); first | apply LHas.here | apply LHas.next); refine And.intro ?_ ?_; (focus (try (first | (with_reducible rfl) | (refine congrArg (Pl.mk _) ?_; (first | rfl | (simp; done))) | rfl | (with_reducible refine congrArg (Pl.mk _) ?_)))))))))
    refine congrArg AV.bool ?_
    rw [Bool.eq_iff_iff]
    simp_all [fitR, icmp] <;> (intros; omega)
attribute [irreducible] fitR
def noneR (s : Sm) : Bool := decide (s.n = 0 ∧ s.tm = 0 ∧ s.mr = 0 ∧ s.id = 0 ∧ s.ud = 0)
/-- A header with a kind alone. -/
def hzR (h : Hd) (k : Int) : Bool := decide (h.k = k ∧ h.tos = 0 ∧ h.id = 0 ∧ h.fx = 0 ∧ h.ttl = 0 ∧ h.fr = 0 ∧ h.to = 0 ∧ h.fp = 0 ∧ h.tp = 0 ∧ h.ck = 0 ∧ h.mr = 0 ∧ h.ty = 0 ∧ h.sq = 0 ∧ h.tm = 0 ∧ h.sr = 0)
def szR (h : Hd) : Bool := decide (h.fr = 0 ∧ h.to = 0 ∧ h.fp = 0 ∧ h.tp = 0 ∧ h.sr = 0)
def dzR (d : Dy) : Bool := decide (d.st = 0 ∧ d.fo = 0)
def wholeR (s : Sm) : Bool := s.h.ok && (s.d.ok && (!(decide (s.h.k = 1) && !(dzR s.d)) && (decide (s.f = 5) || szR s.h)))
def lowbR (s : Sm) : Bool := fitR (wid s.f s.h.k 0) s.n && (fitR (wid s.f s.h.k 1) s.tm && (fitR (wid s.f s.h.k 2) s.mr && (fitR (wid s.f s.h.k 3) s.id && fitR 16 s.ud)))
def topR (s : Sm) : Bool := decide (0 ≤ s.cx ∧ s.cx < 16 ∧ s.pl.length ≤ 1500) && fitR (cbR s.f) s.ck
def Sm.ok (s : Sm) : Bool :=
  topR s && (if s.f = 1 ∨ s.f = 2 ∨ s.f = 3 then lowbR s && (decide (s.h.k = 1 ∨ s.h.k = 2) && (hzR s.h s.h.k && dzR s.d))
    else if s.f = 4 ∨ s.f = 5 then noneR s && wholeR s
    else if s.f = 6 then noneR s && (decide (s.cx = 0 ∧ s.ck = 0) && (hzR s.h 0 && dzR s.d)) else false)
theorem wid_le (f k : Int) (i : Nat) : 0 ≤ wid f k i ∧ wid f k i ≤ 32 := by
  unfold wid
  rcases i with _ | _ | _ | _ | i <;> (repeat' split) <;> simp
theorem cbR_le (f : Int) : 0 ≤ cbR f ∧ cbR f ≤ 32 := by
  unfold cbR
  (repeat' split) <;> omega
set_option maxHeartbeats 1000000 in
theorem fwhole_c (s : Sm) : LSpec Try.prog G 39 [s.av] [] (fun _ => (.bool (wholeR s), [])) := by
  refine LSpec.introL tyOk Try.func39 rfl (by kernel_rfl) (by simp) (fun q => ⟨by simp, by simp⟩) ?_
  refine AWpL.sound tyOk [] _ _ _ _ ?_
  conv => whnf
  repeat' first
    | (show LHas _ _ _; ((try show LHas _ _ _); repeat (with_reducible show LHas _ _ _); first | apply LHas.here | apply LHas.next); conv => whnf)
    | ((first | (with_reducible refine And.intro ?_ ?_) | refine And.intro ?_ ?_); (focus (first | exact T.side)); conv => whnf)
    | (show LCall _ _ _ _ _ _; first | (refine LCall.pure (pvalid_c s.h) ?_; conv => whnf) | (refine LCall.pure (fvalid_c s.d) ?_; conv => whnf) | (refine LCall.pure (fstatic_c s.h) ?_; conv => whnf) | (apply LCall.eq; (focus (repeat first | (apply cons_congr; (focus (first | exact sl_bv rfl | exact sl_bv (by first | (simp; done) | (simp; (exact T.num))) | exact rfl))) | exact rfl)); first | (refine LCall.pure (pvalid_c s.h) ?_; conv => whnf) | (refine LCall.pure (fvalid_c s.d) ?_; conv => whnf) | (refine LCall.pure (fstatic_c s.h) ?_; conv => whnf)))
    | (show ABr _ _ _; first | (refine ABr.tt ?_; conv => whnf) | (refine ABr.ff ?_; conv => whnf) | (refine ABr.byN ?_) | ((with_reducible refine ABr.eqlT (by assumption) ?_); conv => whnf) | ((with_reducible refine ABr.eqlF (by assumption) ?_); conv => whnf) | ((with_reducible refine ABr.eql (fun h => ?_) (fun h => ?_)) <;> first | (exfalso; omega) | conv => whnf) | ((with_reducible refine ABr.neqT (by assumption) ?_); conv => whnf) | ((with_reducible refine ABr.neqF (by assumption) ?_); conv => whnf) | ((with_reducible refine ABr.neq (fun h => ?_) (fun h => ?_)) <;> first | (exfalso; omega) | conv => whnf) | (refine ABr.byT (by with_reducible assumption) ?_; conv => whnf) | (refine ABr.byF (by with_reducible assumption) ?_; conv => whnf) | ((with_reducible refine ABr.decT rfl ?_); conv => whnf) | ((with_reducible refine ABr.decT (by assumption) ?_); conv => whnf) | ((with_reducible refine ABr.decF (by assumption) ?_); conv => whnf) | (refine ABr.dec (fun h => ?_) (fun h => ?_) <;> first | (exfalso; omega) | conv => whnf) | (refine ABr.gen (fun h => ?_) (fun h => ?_) <;> conv => whnf))
    | (show ACell _ _ _; first | (refine ACell.cell 0 ?_ ?_; (focus (first | exact T.side)); conv => whnf) | (refine ACell.mk ?_; conv => whnf))
    | (show AList _ _; first | (refine AList.app ?_ ?_; (focus (first | exact T.side)); conv => whnf) | (refine AList.set (x := b8 _) (bAV_b8 _).symm ?_ ?_; (focus (first | exact T.side)); conv => whnf) | (refine AList.set (f := iAV) rfl ?_ ?_; (focus (first | exact T.side)); conv => whnf) | (refine AList.part ?_; conv => whnf) | (refine AList.force ?_; (conv => whnf); refine Lit.mk ?_; conv => whnf) | (refine AList.full ?_ ?_; (focus (first | exact Nat.le_of_ble_eq_true rfl | (simp; done) | (simp; omega))); conv => whnf) | (refine AList.mk ?_; conv => whnf))
    | (refine LFresh.mk fun r => ?_; conv => whnf)
    | (show SWpL _ _ _ _ _ _ _; first | (apply SWpL.draw tyOk mixed (id := 4) [[], [0], [1, 0], [2, 1, 0], [3, 2, 1, 0], [4, 3, 2, 1, 0], [3, 2, 1, 0], [6, 3, 2, 1, 0], [7, 6, 3, 2, 1, 0], [5, 4, 3, 2, 1, 0, 8, 7, 6], [3, 2, 1, 0, 9, 5, 4, 8, 7, 6], [10, 3, 2, 1, 0, 9, 5, 4, 8, 7, 6]] [7, 5] [0, 1, 2, 3, 4, 6, 7, 8, 5, 9, 10, 11] [_] (by kernel_rfl); conv => whnf) | (apply SWpL.draw tyOk mixed (id := 4) [[], [0], [1, 0], [2, 1, 0], [3, 2, 1, 0], [4, 3, 2, 1, 0], [3, 2, 1, 0], [6, 3, 2, 1, 0], [7, 6, 3, 2, 1, 0], [5, 4, 3, 2, 1, 0, 8, 7, 6], [3, 2, 1, 0, 9, 5, 4, 8, 7, 6], [10, 3, 2, 1, 0, 9, 5, 4, 8, 7, 6]] [7, 5] [0, 1, 2, 3, 4, 6, 7, 8, 5, 9, 10, 11] [] (by kernel_rfl); conv => whnf))
    | (show KeepL _ _ _; first | (with_reducible exact KeepL.refl) | (refine KeepL.cons ?_; ((try show LHas _ _ _); repeat (with_reducible show LHas _ _ _); first | apply LHas.here | apply LHas.next); ((try show LHas _ _ _); repeat (with_reducible show LHas _ _ _); first | apply LHas.here | apply LHas.next); refine And.intro rfl ?_) | exact KeepL.nil)
    | (show InL _ _; first | exact InL.here | refine InL.next ?_)
    | (show False; (exact T.num))
    | exact Nm.b 0
  all_goals (try dsimp only)
  all_goals
    (refine RetL.val ?_ ?_; rotate_left; (focus ((repeat' first | exact LSub.nil | (with_reducible exact LSub.refl) | (apply LSub.cons; ((try show LHas _ _ _); repeat (with_reducible show LHas _ _ _); first | apply LHas.here | apply LHas.next); refine And.intro ?_ ?_; (focus (try (first | (with_reducible rfl) | (refine congrArg (Pl.mk _) ?_; (first | rfl | (simp; done))) | rfl | (with_reducible refine congrArg (Pl.mk _) ?_)))))))))
    refine congrArg AV.bool ?_
    rw [Bool.eq_iff_iff]
    simp_all [wholeR, dzR, szR, alleq, icmp, Hd.static]
end Go.Proofs.Ytnlpjbedkdhlbaa
