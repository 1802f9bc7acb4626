/-
  Contracts of the functions that the laws reach.
-/
import Derived.Test.YtbagbjacmakfhaaGreatDoorCq01
import Derived.Test.YtbagbjacmakfhaaGreatDoorCq02
import Derived.Test.YtbagbjacmakfhaaGreatDoorCq03
import Derived.Test.YtbagbjacmakfhaaGreatDoorCq04
import Derived.Test.YtbagbjacmakfhaaGreatDoorCq05
import Derived.Test.YtbagbjacmakfhaaGreatDoorCq06
import Derived.Test.YtbagbjacmakfhaaGreatDoorCq08
import Derived.Test.YtbagbjacmakfhaaGreatDoorCq09
import Derived.Test.YtbagbjacmakfhaaGreatDoorCq10
import Derived.Test.YtbagbjacmakfhaaGreatDoorCq13
import Derived.Test.YtbagbjacmakfhaaGreatDoorCq14
set_option maxHeartbeats 2000000
set_option linter.all false
namespace Go.Proofs.YtbagbjacmakfhaaGreatDoor
open Go.RowKit
structure Sn where
 act : Bool
 full : Int
 refr : Int
 ser : Int
 sin : Int
 lng : Int
 dy : Dy
 rf : List Hd
def hdv (l : List Hd) : AV := .sl l.length (l.flatMap Hd.cs)
@[reducible] def Sn.cs (s : Sn) : List AV := [.bool s.act, iAV s.full, iAV s.refr, iAV s.ser, iAV s.sin, iAV s.lng, iAV s.dy.st, iAV s.dy.fo, hdv s.rf]
@[reducible] def Sn.av (s : Sn) : AV := .agg s.cs
theorem Sn.cs_len (s : Sn) : s.cs.length = 9 := rfl
theorem Hd.cs_len (h : Hd) : h.cs.length = 15 := rfl
def snv (l : List Sn) : AV := .sl l.length (l.flatMap Sn.cs)
def Sn.z : Sn := ⟨false, 0, 0, 0, 0, 0, Dy.z, []⟩
structure Co where
 m : Int
 w : Int
 cx : List Sn
@[reducible] def Co.av (c : Co) : AV := .agg [iAV c.m, iAV c.w, snv c.cx]
def Co.z : Co := ⟨0, 0, []⟩
def Sn.fst (s : Sn) : Hd := s.rf.getD 0 Hd.z
def Sn.lst (s : Sn) : Hd := s.rf.getD (s.rf.length - 1) Hd.z
def jQ (s : Sn) : Bool := decide (s.full = 0 ∧ s.refr = 0 ∧ s.ser = 0 ∧ s.sin = 0 ∧ s.lng = 0 ∧ s.dy = Dy.z ∧ s.rf = [])
def jg (m w : Int) : Int := if m = 3 then 32 else w
def Sn.ok (m w : Int) (s : Sn) : Bool :=
 if s.act = true then
   decide (1 ≤ s.rf.length ∧ (s.rf.length : Int) ≤ jg m w) && (inR s.ser s.rf.length && (inR s.full w && (inR s.refr w && (decide (¬ (0 < s.full ∧ 0 < s.refr)) &&
     (inR s.sin 32 && (inR s.lng 3 && (s.dy.ok && (decide (s.fst.k = 2 ∨ s.dy = Dy.z) && s.rf.all fun r => r.ok && qt r s.fst))))))))
 else jQ s
def qW (s t : Sn) : Bool := s.act && (t.act && qt s.fst t.fst)
def zJ (m w : Int) : Bool := decide (1 ≤ m ∧ m ≤ 3 ∧ 1 ≤ w ∧ w ≤ 8)
def Co.at (c : Co) (i : Nat) : Sn := c.cx.getD i Sn.z
def Co.oks (c : Co) (n : Nat) : Bool := (List.range n).all fun i => (c.at i).ok c.m c.w && (List.range i).all fun k => !qW (c.at i) (c.at k)
def Co.ok (c : Co) : Bool := zJ c.m c.w && (decide (c.cx.length = 16) && c.oks 16)
def wX (m w : Int) : Co × Int := if zJ m w = true then (⟨m, w, List.replicate 16 Sn.z⟩, 0) else (Co.z, 3)
def xN (a b : Hd) : Int := (if a.tos = b.tos then 0 else 1) + (if a.ttl = b.ttl then 0 else 2) + (if a.fx = b.fx then 0 else 4) + (if a.ty = b.ty then 0 else 8) + (if decide (a.ck = 0) = decide (b.ck = 0) then 0 else 16)
def qN (a b : Hd) : Dy :=
 if a.ok = true ∧ b.ok = true ∧ a.k = 2 ∧ qt a b = true then
   ⟨if sg 16 a.num b.num ≠ 0 ∧ (sg 32 a.tm b.tm).tmod (sg 16 a.num b.num) = 0 ∧ 0 ≤ (sg 32 a.tm b.tm).tdiv (sg 16 a.num b.num) ∧ (sg 32 a.tm b.tm).tdiv (sg 16 a.num b.num) ≤ 65535 then (sg 32 a.tm b.tm).tdiv (sg 16 a.num b.num) else 0,
     if b.id = lw 16 (a.id + sg 16 a.num b.num) then 1 else 0⟩
 else Dy.z
def xD (width : Int) (l : List Int) (k v : Int) : Bool := xt width && (decide (3 ≤ k ∧ k ≤ width) && (zO width v && l.all fun r => zO width r && decide (lsbV width r k (lw k v) = v)))
def zy (s : Sn) (h r : Hd) : Hd := { wy s.dy r h.num with ck := h.ck }
def xm (s : Sn) (h : Hd) (f : Int) (r : Hd) : Bool := decide (xN r h = 0) && (decide (f = 1 → zy s h r = h) && decide (f = 2 ∧ h.k = 2 → (zy s h r).id = h.id))
def qU (s : Sn) (h : Hd) (f : Int) : Bool :=
 s.rf.all (xm s h f) && (decide (f = 3 ∧ h.k ≠ 2) || (xD 16 (s.rf.map Hd.num) (wid f h.k 0) h.num && (decide (¬ (f = 2 ∧ h.k = 2)) || xD 32 (s.rf.map (·.tm)) 16 h.tm)))
def wY (s : Sn) (last : Hd) (had : Bool) (h : Hd) : Sn := { s with ser := s.rf.length, dy := if had = true then qN last h else Dy.z }
def csA (w : Int) (s : Sn) (h : Hd) : Sn × Bool :=
 if s.act = false then ({ s with act := true, full := w }, true)
 else if xN s.lst h ≠ 0 ∨ s.lng = 3 ∧ qN s.lst h ≠ s.dy then (if 0 < s.full then { s with lng := 0, full := w } else { s with lng := 0, refr := w }, true)
 else (s, false)
def csB (m w : Int) (x : Sn × Bool) : Sn × Bool := if m = 1 ∧ x.1.sin = 32 ∧ x.1.full = 0 then ({ x.1 with full := w, refr := 0 }, true) else x
def csC (m w : Int) (n : Nat) (x : Sn × Bool) : Sn × Bool := if m = 3 ∧ n = 32 then ({ x.1 with full := w, refr := 0, rf := [] }, true) else x
def csD (last : Hd) (had : Bool) (h : Hd) (x : Sn × Bool) : Sn := if x.2 = true ∨ x.1.ser = (x.1.rf.length : Int) ∧ (0 < x.1.full ∨ 0 < x.1.refr) then wY x.1 last had h else x.1
def csE (w : Int) (last : Hd) (had : Bool) (h : Hd) (s : Sn) : Sn × Int :=
 if 0 < s.full then (s, 5) else if 0 < s.refr then (s, 4) else if qU s h 1 = true then (s, 1) else if qU s h 2 = true then (s, 2) else if qU s h 3 = true then (s, 3)
 else (wY { s with refr := w, lng := 0 } last had h, 4)
def csF (m w : Int) (h : Hd) (s : Sn) (f : Int) : Sn :=
 { act := s.act
   full := if m ≠ 3 ∧ f = 5 then s.full - 1 else s.full
   refr := if m ≠ 3 ∧ f = 4 then s.refr - 1 else s.refr
   ser := if m ≠ 3 ∧ w < (s.rf.length : Int) + 1 then max 0 (s.ser - ((s.rf.length : Int) + 1 - w)) else s.ser
   sin := if f = 5 then 0 else min (s.sin + 1) 32
   lng := if (f = 2 ∨ f = 3) ∧ h.k = 2 then min (s.lng + 1) 3 else 0
   dy := s.dy
   rf := if m ≠ 3 ∧ w < (s.rf.length : Int) + 1 then (s.rf ++ [h]).drop ((s.rf.length : Int) + 1 - w).toNat else s.rf ++ [h] }
def xd (m w : Int) (s : Sn) (h : Hd) : Sn × Int := csE w s.lst s.act h (csD s.lst s.act h (csC m w s.rf.length (csB m w (csA w s h))))
def qz (dy : Dy) (c f : Int) (h : Hd) (pl : List UInt8) : Sm :=
 if f = 5 then ⟨c, 5, 0, 0, 0, 0, 0, h, dy, ky 5 h, pl⟩
 else if f = 4 then ⟨c, 4, 0, 0, 0, 0, 0, { h with fr := 0, to := 0, fp := 0, tp := 0, sr := 0 }, dy, ky 4 h, pl⟩
 else if f = 1 then ⟨c, 1, lw 4 h.num, 0, 0, 0, h.ck, { Hd.z with k := h.k }, Dy.z, ky 1 h, pl⟩
 else if f = 2 then (if h.k = 2 then ⟨c, 2, lw 5 h.num, lw 16 h.tm, h.mr, 0, h.ck, { Hd.z with k := h.k }, Dy.z, ky 2 h, pl⟩ else ⟨c, 2, lw 5 h.num, 0, 0, 0, h.ck, { Hd.z with k := h.k }, Dy.z, ky 2 h, pl⟩)
 else (if h.k = 2 then ⟨c, 3, lw 8 h.num, h.tm, h.mr, h.id, h.ck, { Hd.z with k := h.k }, Dy.z, ky 3 h, pl⟩ else ⟨c, 3, h.num, 0, 0, 0, h.ck, { Hd.z with k := h.k }, Dy.z, ky 3 h, pl⟩)
def ownI (l : List Sn) (h : Hd) : Option Nat := l.findIdx? fun s => s.act && qt s.fst h
def wO (l : List Sn) : Option Nat := l.findIdx? fun s => !s.act
def qP (l : List Sn) (h : Hd) : Option Nat := match ownI l h with | some i => some i | none => wO l
def xy (b : List UInt8) : Sm := ⟨0, 6, 0, 0, 0, 0, 0, Hd.z, Dy.z, 0, b⟩
def Co.set (c : Co) (i : Nat) (s : Sn) : Co := ⟨c.m, c.w, c.cx.set i s⟩
def qS (c : Co) (i : Nat) (h : Hd) (pl : List UInt8) : Co × List UInt8 :=
 (c.set i (csF c.m c.w h (xd c.m c.w (c.at i) h).1 (xd c.m c.w (c.at i) h).2), (zd (qz (xd c.m c.w (c.at i) h).1.dy i (xd c.m c.w (c.at i) h).2 h pl)).1)
def qf (c : Co) (b : List UInt8) : (Co × List UInt8) × Int :=
 if c.ok = true then
   (if b = [] ∨ 1500 < b.length then ((Co.z, []), 2)
    else if (qg b).2 = 0 then
     (match qP c.cx (qg b).1.1 with
      | some i => if (c.at i).act = true ∧ c.m = 3 ∧ (sg 16 (c.at i).lst.num (qg b).1.1.num < 1 ∨ 255 < sg 16 (c.at i).lst.num (qg b).1.1.num) then ((c, (zd (xy b)).1), 0) else (qS c i (qg b).1.1 (qg b).1.2, 0)
      | none => ((c, (zd (xy b)).1), 0))
    else ((c, (zd (xy b)).1), 0))
 else ((Co.z, []), 1)
open Go.RowKit
variable {G : Nat → AV}
theorem wv (a b : Hd) : LP Tryz.prog G 43 [a.av, b.av] [] (fun _ => (.bool (qt a b), [])) := by
 refine goW [] Tryz.func43 rfl ?_
 conv => whnf
 repeat' ((first | exact Nm.b 0 | (show LC _ _ _ _ _ _; first | refine LC.pure (vz _) ?_ | refine goE ?_) | refine T.s ?_ | ((first | apply goB | apply AB.dec | apply AB.gen) <;> intro h <;> try (exfalso; omega)) | refine LQ.mk fun r => ?_ | (show SQ _ _ _ _ _ _ _; first | refine gX 1 [2, 1] [0, 2, 1, 3, 4, 5] [] ?_) | exact T.z | fail) <;> conv => whnf)
 all_goals (try dsimp only)
 all_goals
   (show RL _ _ _; refine goR ?_)
   refine congrArg AV.bool ?_
   rw [Bool.eq_iff_iff]
   simp [qt, qJ, Hd.static]
theorem jd (a b : Hd) : LP Tryz.prog G 57 [a.av, b.av] [] (fun _ => (iAV (xN a b), [])) := by
 refine goW [] Tryz.func57 rfl ?_
 conv => whnf
 repeat' ((first | refine T.s ?_ | ((first | apply goB | apply AB.dec | apply AB.gen) <;> intro h <;> try (exfalso; omega)) | refine LQ.mk fun r => ?_ | exact T.z | fail) <;> conv => whnf)
 all_goals (try dsimp only)
 all_goals
   (show RL _ _ _; refine goR ?_)
   unfold xN
   (repeat first | rw [if_pos (by first | assumption | omega)] | rw [if_neg (by first | assumption | omega)])
   rfl
theorem sg_rng (n a b : Int) (h1 : 1 ≤ n) (h2 : n ≤ 32) : -2147483648 ≤ sg n a b ∧ sg n a b < 2147483648 := by
 have h3 := yu n (b - a)
 have h4 := pw_le (n := n - 1) (m := 31) (by omega)
 have h5 : (2 : Int) ^ n.toNat = 2 * 2 ^ (n - 1).toNat := by
   rw [show n.toNat = (n - 1).toNat + 1 by omega, Int.pow_succ]; omega
 unfold sg
 split <;> omega
theorem learnR_n {a b : Hd} (h : ¬ (a.ok = true ∧ b.ok = true ∧ a.k = 2 ∧ qt a b = true)) : qN a b = Dy.z := if_neg h
theorem tdiv_rng {t s : Int} (h : -2147483648 ≤ t ∧ t < 2147483648) : -2147483648 ≤ t.tdiv s ∧ t.tdiv s ≤ 2147483648 := by
 have h1 : (t.tdiv s).natAbs ≤ t.natAbs := by rw [Int.natAbs_tdiv]; exact Nat.div_le_self ..
 omega
theorem ju (a b : Hd) : LP Tryz.prog G 58 [a.av, b.av] [] (fun _ => ((qN a b).av, [])) := by
 have va := zg (G := G) a
 have vb := zg (G := G) b
 have hsm := wv (G := G) a b
 by_cases hg : a.ok = true ∧ b.ok = true ∧ a.k = 2 ∧ qt a b = true
 · obtain ⟨h1, h2, h3, h4⟩ := hg
   have hid := ok_id h1
   rw [h1] at va; rw [h2] at vb; rw [h4] at hsm
   rw [show qN a b = _ from if_pos ⟨h1, h2, h3, h4⟩]
   have hS := sg_rng 16 a.num b.num (by decide) (by decide)
   have hT := sg_rng 32 a.tm b.tm (by decide) (by decide)
   have e1 : q7 .add .i64 a.id (sg 16 a.num b.num) = a.id + sg 16 a.num b.num := by (exact T.num)
   have hD := tdiv_rng (s := sg 16 a.num b.num) hT
   have e2 : IntKind.i64.wrap ((sg 32 a.tm b.tm).tdiv (sg 16 a.num b.num)) = (sg 32 a.tm b.tm).tdiv (sg 16 a.num b.num) := by rw [IntKind.wrap_i64]; omega
   refine goW [] Tryz.func58 rfl ?_
   conv => whnf
   repeat' ((first | exact Nm.b 0 | (show LC _ _ _ _ _ _; first | refine LC.pure (va) ?_ | refine LC.pure (vb) ?_ | refine LC.pure (hsm) ?_ | refine LC.pure (za _) ?_ | refine LC.pure (zB 16 _ _ (by decide) (by decide)) ?_ | refine LC.pure (zB 32 _ _ (by decide) (by decide)) ?_ | refine LC.pure (jM 16 _ (by decide) (by decide)) ?_ | refine goE ?_) | refine T.s ?_ | ((first | apply goB | apply AB.dec | apply AB.gen) <;> intro h <;> try (exfalso; omega)) | refine LQ.mk fun r => ?_ | (show SQ _ _ _ _ _ _ _; first | refine gX 3 [2, 1] [0, 2, 1, 3, 4, 5] [] ?_ | refine gX 8 [1, 6] [0, 1, 2, 3, 4, 5, 6, 7] [] ?_) | exact T.z | fail) <;> conv => whnf)
   all_goals (try dsimp only)
   all_goals
     (show RL _ _ _; refine goR ?_)
     clear va vb hsm
     try rw [e1] at *
     try rw [e2] at *
     generalize (sg 32 a.tm b.tm).tdiv (sg 16 a.num b.num) = V at *
     generalize (sg 32 a.tm b.tm).tmod (sg 16 a.num b.num) = W at *
     (repeat first | rw [if_pos (by first | assumption | omega)] | rw [if_neg (by first | assumption | omega)])
     rfl
 · rw [learnR_n hg]
   refine goW [] Tryz.func58 rfl ?_
   conv => whnf
   repeat' ((first | exact Nm.b 0 | (show LC _ _ _ _ _ _; first | refine LC.pure (va) ?_ | refine LC.pure (vb) ?_ | refine LC.pure (hsm) ?_ | refine goE ?_) | refine T.s ?_ | ((first | apply goB | apply AB.dec | apply AB.gen) <;> intro h <;> try (exfalso; omega)) | refine LQ.mk fun r => ?_ | (show SQ _ _ _ _ _ _ _; first | refine gX 3 [2, 1] [0, 2, 1, 3, 4, 5] [] ?_ | refine gX 8 [1, 6] [0, 1, 2, 3, 4, 5, 6, 7] [] ?_) | exact T.z | fail) <;> conv => whnf)
   all_goals (try dsimp only)
   all_goals first
     | ((show RL _ _ _; refine goR ?_); rfl)
     | (exfalso; simp_all [qt]; done)
open Go.RowKit
variable {G : Nat → AV}
def kr (n : Int) : Option Int := if n = 3 then some 3 else if n = 7 then some 9 else if n = 8 then some 7 else if n = 16 then some 4129 else if n = 24 then some 8801531 else none
def gm : Nat → AV := fun g => match Nat.beq g 0 with | true => .ip [.mp kr] | false => .any
def zz (n : Int) : Bool := decide (n = 3 ∨ n = 7 ∨ n = 8 ∨ n = 16 ∨ n = 24)
theorem r3poly_c (n : Int) : LP Tryz.prog G 146 [iAV n] [] (fun _ => (iAV (xk n), [])) := by
 refine goW [] Tryz.func146 rfl ?_
 conv => whnf
 repeat' ((first | refine T.s ?_ | ((first | apply goB | apply AB.dec | apply AB.gen) <;> intro h <;> try (exfalso; omega)) | refine LQ.mk fun r => ?_ | exact T.z | fail) <;> conv => whnf)
 all_goals (try dsimp only)
 all_goals
   (show RL _ _ _; refine goR ?_)
   simp [xk, iAV, *]
theorem cpoly_y (n : Int) (h : zz n = true) : LP Tryz.prog gm 132 [iAV n] [] (fun _ => (.tup [iAV (xk n), .bool true], [])) := by
 have e : kr n = some (xk n) := by
   simp only [zz, decide_eq_true_eq] at h
   rcases h with rfl | rfl | rfl | rfl | rfl <;> rfl
 refine goW [] Tryz.func132 rfl ?_
 conv => whnf
 repeat' ((first | (show AFind _ _; refine AFind.is _ (e) ?_) | refine T.s ?_ | ((first | apply goB | apply AB.dec | apply AB.gen) <;> intro h <;> try (exfalso; omega)) | refine LQ.mk fun r => ?_ | exact T.z | fail) <;> conv => whnf)
 all_goals (try dsimp only)
 all_goals
   (show RL _ _ _; refine goR ?_)
   rfl
theorem cpoly_y' (n : Int) (h : zz n = true) (p : Nat) (hp : xk n = p) : LP Tryz.prog gm 132 [iAV n] [] (fun _ => (.tup [iAV p, .bool true], [])) := hp ▸ cpoly_y n h
theorem cpoly_n (n : Int) (h : zz n = false) : LP Tryz.prog gm 132 [iAV n] [] (fun _ => (.tup [iAV 0, .bool false], [])) := by
 have e : kr n = none := by
   simp only [zz, decide_eq_false_iff_not] at h
   unfold kr
   repeat rw [if_neg (by omega)]
 refine goW [] Tryz.func132 rfl ?_
 conv => whnf
 repeat' ((first | (show AFind _ _; refine AFind.is _ (e) ?_) | refine T.s ?_ | ((first | apply goB | apply AB.dec | apply AB.gen) <;> intro h <;> try (exfalso; omega)) | refine LQ.mk fun r => ?_ | exact T.z | fail) <;> conv => whnf)
 all_goals (try dsimp only)
 all_goals
   (show RL _ _ _; refine goR ?_)
   rfl
theorem poly_lt {n : Int} (h : zz n = true) : (xk n).toNat < 2 ^ n.toNat ∧ (((xk n).toNat : Nat) : Int) = xk n := by
 simp only [zz, decide_eq_true_eq] at h
 rcases h with rfl | rfl | rfl | rfl | rfl
 · exact ⟨by show 3 < 8; omega, rfl⟩
 · exact ⟨by show 9 < 128; omega, rfl⟩
 · exact ⟨by show 7 < 256; omega, rfl⟩
 · exact ⟨by show 4129 < 65536; omega, rfl⟩
 · exact ⟨by show 8801531 < 16777216; omega, rfl⟩
theorem dec7 {j : Nat} (h : j ≤ 8) : q7 .sub .i64 (7 - (j : Int)) 1 = 7 - ((j + 1 : Nat) : Int) := by (exact T.num)
theorem inc1 {i : Nat} (h : i < 1000000) : q7 .add .i64 (i : Int) 1 = ((i + 1 : Nat) : Int) := by (exact T.num)
theorem crc8 {k p r i j : Nat} {l : List UInt8} (h1 : (i : Int) < (l.length : Int)) (h2 : ¬ (0 : Int) ≤ 7 - (j : Int)) (h3 : j ≤ 8) : ((xI k p (j8 k p r (l.take i)) (l.getD i 0).toNat j : Nat) : Int) = ((j8 k p r (l.take (i + 1)) : Nat) : Int) := by
 rw [crcL_take _ _ _ _ _ (by omega), show j = 8 by omega]
theorem cnext_c (n : Int) (h : zz n = true) (r0 : Nat) (hr : r0 < 2 ^ n.toNat) (l : List UInt8) (hl : l.length ≤ 1000000) : LP Tryz.prog gm 133 [iAV n, iAV r0, bv l] [] (fun _ => (.tup [iAV (j8 n.toNat (xk n).toNat r0 l : Nat), iAV 0], [])) := by
 have hn : 3 ≤ n ∧ n ≤ 24 := by simp only [zz, decide_eq_true_eq] at h; omega
 have hs := yU (n := n) (by omega)
 have hr1 : (r0 : Int) < 2 ^ n.toNat := by exact_mod_cast hr
 have hs' : IntKind.i64.wrap (1 * 2 ^ min n.toNat IntKind.i64.bits) = 2 ^ n.toNat := hs
 have hp := poly_lt h
 have hn : 1 ≤ n ∧ n ≤ 24 := by omega
 have hb : ∀ i, (l.getD i 0).toNat < 256 := fun i => (l.getD i 0).toNat_lt
 obtain ⟨p, hpe⟩ : ∃ p : Nat, (xk n).toNat = p := ⟨_, rfl⟩
 rw [hpe] at hp ⊢
 refine goW [] Tryz.func133 rfl ?_
 conv => whnf
 repeat' ((first | exact Nm.b 0 | (show LC _ _ _ _ _ _; first | refine LC.pure (cpoly_y' _ h p hp.2.symm) ?_ | refine goE ?_) | (show AC _ _ _; first | (refine AC.idx (i) (0) ?_ ?_ ?_; (focus (first | exact rfl | (simp; done) | (simp; omega))); (focus (first | omega | exact T.side)))) | refine T.s ?_ | ((first | apply goB | apply AB.dec | apply AB.gen) <;> intro h <;> try (exfalso; omega)) | refine LQ.mk fun r => ?_ | (show SQ _ _ _ (.loop _) _ _ _; first | (apply goO tQ [] 7 (S := Nat) [0, 8, 31, 32] (fun i => ⟨[(33, .int .i64 i), (1, .int .i64 (j8 n.toNat p r0 (l.take i) : Nat))], [], i ≤ l.length, l.length - i⟩) (0) (by rfl); (focus (all_goals (try exact KE71); done)); rintro i hok; (try dsimp only at hok)) | (apply goO tQ [] 10 (S := Nat) [0, 8, 11, 31, 32, 33] (fun j => ⟨[(12, .int .i64 (7 - (j : Int))), (1, .int .i64 (xI n.toNat p (j8 n.toNat p r0 (l.take i)) (l.getD i 0).toNat j : Nat))], [], j ≤ 8, 8 - j⟩) (0) (by rfl); (focus (all_goals (try exact KE71); done)); rintro j hok; (try dsimp only at hok))) | (show SQ _ _ _ _ _ _ _; first | (refine goD tQ qd 12 [] [0, 1, 2, 3, 4, 5, 6, 7, 8, 9, 10] [] (by kernel_rfl) ?_)) | (show AtL _ _ _ _ _ _ _ _ _ _; first | (apply AtL.mk' (id := 7) (S := Nat) (i + 1); all_goals (try exact KE71); done) | (apply AtL.mk' (id := 10) (S := Nat) (j + 1); all_goals (try exact KE71); done) | (apply AtL.mk' (id := 7) (S := Nat) (i + 1); all_goals (try exact KE71)) | (apply AtL.mk' (id := 10) (S := Nat) (j + 1); all_goals (try exact KE71))) | exact T.z | refine ⟨_, rfl, rfl, ?_⟩ | fail) <;> conv => whnf)
 all_goals (try dsimp only)
 all_goals
   (show RL _ _ _; refine goR ?_)
   rw [List.take_of_length_le (by omega)]
   rfl
def crcO (n : Int) (l : List UInt8) : Int × Int := if zz n = true then (crcS n l, 0) else (0, 7)
theorem crcO_y {n : Int} (h : zz n = true) (l : List UInt8) : crcO n l = (crcS n l, 0) := if_pos h
theorem crcO_n {n : Int} (h : zz n = false) (l : List UInt8) : crcO n l = (0, 7) := if_neg (by rw [h]; decide)
attribute [irreducible] crcO
theorem mask_n {n : Int} (h1 : n ≤ 24) : q7 .sub .i64 (IntKind.i64.wrap (1 * 2 ^ min n.toNat IntKind.i64.bits)) 1 = ((2 ^ n.toNat - 1 : Nat) : Int) := by
 refine (mask_e (by omega)).trans ?_
 have : 0 < 2 ^ n.toNat := Nat.pow_pos (by decide)
 rw [Int.ofNat_sub this]
 simp
theorem csum_c (n : Int) (l : List UInt8) (hl : l.length ≤ 1000000) : LP Tryz.prog gm 103 [iAV n, bv l] [] (fun _ => (.tup [iAV (crcO n l).1, iAV (crcO n l).2], [])) := by
 cases h : zz n with
 | true =>
   have hn0 : 0 ≤ n ∧ n ≤ 24 := by simp only [zz, decide_eq_true_eq] at h; omega
   have e := mask_n hn0.2
   rw [crcO_y h, ← crcS_eq]
   refine goW [] Tryz.func103 rfl ?_
   conv => whnf
   repeat' ((first | (show LC _ _ _ _ _ _; (refine LC.eq (args' := [iAV n, iAV ((2 ^ n.toNat - 1 : Nat) : Int), bv l]) (congrArg (fun z => [iAV n, AV.int .i64 z, bv l]) e) ?_); refine LC.pure (cnext_c n h _ (Nat.sub_lt (Nat.pow_pos (by decide)) (by decide)) l hl) ?_; conv => whnf) | (show LC _ _ _ _ _ _; first | refine LC.pure (cpoly_y _ h) ?_ | refine goE ?_) | refine T.s ?_ | ((first | apply goB | apply AB.dec | apply AB.gen) <;> intro h <;> try (exfalso; omega)) | refine LQ.mk fun r => ?_ | exact T.z | fail) <;> conv => whnf)
   all_goals (try dsimp only)
   (show RL _ _ _; refine goR ?_)
   rfl
 | false =>
   rw [crcO_n h]
   refine goW [] Tryz.func103 rfl ?_
   conv => whnf
   repeat' ((first | (show LC _ _ _ _ _ _; first | refine LC.pure (cpoly_n _ h) ?_ | refine goE ?_) | refine T.s ?_ | ((first | apply goB | apply AB.dec | apply AB.gen) <;> intro h <;> try (exfalso; omega)) | refine LQ.mk fun r => ?_ | exact T.z | fail) <;> conv => whnf)
   all_goals (try dsimp only)
   (show RL _ _ _; refine goR ?_)
   rfl
open Go.RowKit
variable {G : Nat → AV}
theorem poly_0 {n : Int} (h : zz n = false) : xk n = 0 := by
 simp only [zz, decide_eq_false_iff_not] at h
 unfold xk
 repeat rw [if_neg (by omega)]
theorem poly_pos {n : Int} (h : zz n = true) : xk n ≠ 0 := by
 simp only [zz, decide_eq_true_eq] at h
 rcases h with rfl | rfl | rfl | rfl | rfl <;> decide
theorem u64m {n : Int} (h1 : 0 ≤ n) (h2 : n ≤ 32) : (IntKind.u64.wrap n).toNat = n.toNat := by rw [IntKind.wrap_u64]; omega
theorem and8 : ∀ x : Nat, x < 256 → qu .and .u8 (x : Int) 1 = ((x % 2 : Nat) : Int) := by decide +kernel
section
variable {n : Int} {R c j p r : Nat}
theorem r3_top (hn : 1 ≤ n ∧ n ≤ 24) (hR : R < 2 ^ n.toNat) : qu .and .i64 ((R : Int).fdiv (2 ^ min (IntKind.u64.wrap (q7 .sub .i64 n 1)).toNat IntKind.i64.bits)) 1 = ((R / 2 ^ (n.toNat - 1) : Nat) : Int) := by
 have e : q7 .sub .i64 n 1 = n - 1 := by (exact T.num)
 have h1 : R / 2 ^ (n.toNat - 1) < 2 := by
   rw [Nat.div_lt_iff_lt_mul (Nat.pow_pos (by decide)), Nat.mul_comm, ← Nat.pow_succ, show (n.toNat - 1).succ = n.toNat by omega]
   exact hR
 rw [e, u64m (by omega) (by omega), Int.fdiv_eq_ediv_of_nonneg _ (Int.le_of_lt (Int.pow_pos (by decide))), show min (n - 1).toNat IntKind.i64.bits = n.toNat - 1 by show min _ 64 = _; omega]
 refine (y6 _ 1 (by decide)).trans ?_
 rw [show ((R : Int) / 2 ^ (n.toNat - 1)) = ((R / 2 ^ (n.toNat - 1) : Nat) : Int) by simp]
 generalize R / 2 ^ (n.toNat - 1) = x at h1
 show (x : Int) % 2 = x
 omega
theorem r3_bit (hc : c < 256) (hj : j < 8) : IntKind.i64.wrap (qu .and .u8 ((c : Int).fdiv (2 ^ min (IntKind.u64.wrap (7 - (j : Int))).toNat IntKind.u8.bits)) 1) = ((c / 2 ^ (7 - j) % 2 : Nat) : Int) := by
 rw [u64m (by omega) (by omega), Int.fdiv_eq_ediv_of_nonneg _ (Int.le_of_lt (Int.pow_pos (by decide))), show min (7 - (j : Int)).toNat IntKind.u8.bits = 7 - j by show min _ 8 = _; omega, show ((c : Int) / 2 ^ (7 - j)) = ((c / 2 ^ (7 - j) : Nat) : Int) by simp, and8 _ (Nat.lt_of_le_of_lt (Nat.div_le_self ..) hc), IntKind.wrap_i64]
 omega
theorem r3_shl (hn : 1 ≤ n ∧ n ≤ 24) (hR : R < 2 ^ n.toNat) : qu .and .i64 (IntKind.i64.wrap ((R : Int) * 2 ^ min (1 : Int).toNat IntKind.i64.bits)) (q7 .sub .i64 (IntKind.i64.wrap (1 * 2 ^ min (IntKind.u64.wrap n).toNat IntKind.i64.bits)) 1) = ((2 * R % 2 ^ n.toNat : Nat) : Int) := by
 rw [u64m (by omega) (by omega)]
 exact shl_e hn hR
theorem r3_t (hn : 1 ≤ n ∧ n ≤ 24) (hp : p < 2 ^ n.toNat) (hr : r < 2 ^ n.toNat) (hc : c < 256) (hj0 : (0 : Int) ≤ 7 - (j : Int))
   (h : qu .and .i64 ((xI n.toNat p r c j : Int).fdiv (2 ^ min (IntKind.u64.wrap (q7 .sub .i64 n 1)).toNat IntKind.i64.bits)) 1 = IntKind.i64.wrap (qu .and .u8 ((c : Int).fdiv (2 ^ min (IntKind.u64.wrap (7 - (j : Int))).toNat IntKind.u8.bits)) 1)) :
   qu .and .i64 (IntKind.i64.wrap ((xI n.toNat p r c j : Int) * 2 ^ min (1 : Int).toNat IntKind.i64.bits)) (q7 .sub .i64 (IntKind.i64.wrap (1 * 2 ^ min (IntKind.u64.wrap n).toNat IntKind.i64.bits)) 1) = ((xI n.toNat p r c (j + 1) : Nat) : Int) := by
 have hR := wU (c := c) hp hr j
 rw [r3_top hn hR, r3_bit hc (by omega)] at h
 rw [r3_shl hn hR, kQ]
 unfold crcB
 rw [if_pos (by omega)]
theorem r3_f (hn : 1 ≤ n ∧ n ≤ 24) (hp : p < 2 ^ n.toNat) (hr : r < 2 ^ n.toNat) (hc : c < 256) (hj0 : (0 : Int) ≤ 7 - (j : Int))
   (h : ¬ qu .and .i64 ((xI n.toNat p r c j : Int).fdiv (2 ^ min (IntKind.u64.wrap (q7 .sub .i64 n 1)).toNat IntKind.i64.bits)) 1 = IntKind.i64.wrap (qu .and .u8 ((c : Int).fdiv (2 ^ min (IntKind.u64.wrap (7 - (j : Int))).toNat IntKind.u8.bits)) 1)) :
   qu .xor .i64 (qu .and .i64 (IntKind.i64.wrap ((xI n.toNat p r c j : Int) * 2 ^ min (1 : Int).toNat IntKind.i64.bits)) (q7 .sub .i64 (IntKind.i64.wrap (1 * 2 ^ min (IntKind.u64.wrap n).toNat IntKind.i64.bits)) 1)) (p : Int) = ((xI n.toNat p r c (j + 1) : Nat) : Int) := by
 have hR := wU (c := c) hp hr j
 have h24 := Nat.pow_le_pow_right (n := 2) (by decide) (show n.toNat ≤ 24 by omega)
 have h3 : 2 * xI n.toNat p r c j % 2 ^ n.toNat < 2 ^ n.toNat := Nat.mod_lt _ (Nat.pow_pos (by decide))
 rw [r3_top hn hR, r3_bit hc (by omega)] at h
 rw [r3_shl hn hR, vL _ _ (by omega) (by omega), kQ]
 unfold crcB
 rw [if_neg (by omega)]
end
theorem r3next_c (n : Int) (h : zz n = true) (r0 : Nat) (hr : r0 < 2 ^ n.toNat) (l : List UInt8) (hl : l.length ≤ 1000000) : LP Tryz.prog G 147 [iAV n, iAV r0, bv l] [] (fun _ => (.tup [iAV (j8 n.toNat (xk n).toNat r0 l : Nat), iAV 0], [])) := by
 have hn : 3 ≤ n ∧ n ≤ 24 := by simp only [zz, decide_eq_true_eq] at h; omega
 have hs := yU (n := n) (by omega)
 have hr1 : (r0 : Int) < 2 ^ n.toNat := by exact_mod_cast hr
 have hs' : IntKind.i64.wrap (1 * 2 ^ min n.toNat IntKind.i64.bits) = 2 ^ n.toNat := hs
 have hp := poly_lt h
 have hn : 1 ≤ n ∧ n ≤ 24 := by omega
 have hb : ∀ i, (l.getD i 0).toNat < 256 := fun i => (l.getD i 0).toNat_lt
 have hp0 := poly_pos h
 have hs3 : IntKind.i64.wrap (1 * 2 ^ min (IntKind.u64.wrap n).toNat IntKind.i64.bits) = 2 ^ n.toNat := by rw [u64m (by omega) (by omega)]; exact hs
 obtain ⟨p, hpe⟩ : ∃ p : Nat, (xk n).toNat = p := ⟨_, rfl⟩
 have hpp := r3poly_c (G := G) n
 rw [← hp.2] at hpp hp0
 rw [hpe] at hp hpp hp0 ⊢
 refine goW [] Tryz.func147 rfl ?_
 conv => whnf
 repeat' ((first | (show LC _ _ _ _ _ _; first | refine LC.pure (hpp) ?_ | refine goE ?_) | (show AC _ _ _; first | (refine AC.idx (i) (0) ?_ ?_ ?_; (focus (first | exact rfl | (simp; done) | (simp; omega))); (focus (first | omega | exact T.side)))) | refine T.s ?_ | ((first | apply goB | apply AB.dec | apply AB.gen) <;> intro h <;> try (exfalso; omega)) | refine LQ.mk fun r => ?_ | (show SQ _ _ _ (.loop _) _ _ _; first | (apply goO tQ [] 7 (S := Nat) [0, 2, 8] (fun i => ⟨[(9, .int .i64 i), (1, .int .i64 (j8 n.toNat p r0 (l.take i) : Nat))], [], i ≤ l.length, l.length - i⟩) (0) (by rfl); (focus (all_goals (try exact KC8C); done)); rintro i hok; (try dsimp only at hok)) | (apply goO tQ [] 10 (S := Nat) [0, 2, 8, 9] (fun j => ⟨[(10, .int .i64 (7 - (j : Int))), (1, .int .i64 (xI n.toNat p (j8 n.toNat p r0 (l.take i)) (l.getD i 0).toNat j : Nat))], [], j ≤ 8, 8 - j⟩) (0) (by rfl); (focus (all_goals (try exact KC8C); done)); rintro j hok; (try dsimp only at hok))) | (show AtL _ _ _ _ _ _ _ _ _ _; first | (apply AtL.mk' (id := 7) (S := Nat) (i + 1); all_goals (try exact KC8C); done) | (apply AtL.mk' (id := 10) (S := Nat) (j + 1); all_goals (try exact KC8C); done) | (apply AtL.mk' (id := 7) (S := Nat) (i + 1); all_goals (try exact KC8C)) | (apply AtL.mk' (id := 10) (S := Nat) (j + 1); all_goals (try exact KC8C))) | exact T.z | refine ⟨_, rfl, rfl, ?_⟩ | fail) <;> conv => whnf)
 all_goals (try dsimp only)
 all_goals
   (show RL _ _ _; refine goR ?_)
   rw [List.take_of_length_le (by omega)]
   rfl
theorem r3sum_c (n : Int) (l : List UInt8) (hl : l.length ≤ 1000000) : LP Tryz.prog G 138 [iAV n, bv l] [] (fun _ => (.tup [iAV (crcO n l).1, iAV (crcO n l).2], [])) := by
 have hpp := r3poly_c (G := G) n
 cases h : zz n with
 | true =>
   have hn0 : 0 ≤ n ∧ n ≤ 24 := by simp only [zz, decide_eq_true_eq] at h; omega
   have e : q7 .sub .i64 (IntKind.i64.wrap (1 * 2 ^ min (IntKind.u64.wrap n).toNat IntKind.i64.bits)) 1 = ((2 ^ n.toNat - 1 : Nat) : Int) := by rw [u64m (by omega) (by omega)]; exact mask_n hn0.2
   have hp0 := poly_pos h
   rw [crcO_y h, ← crcS_eq]
   refine goW [] Tryz.func138 rfl ?_
   conv => whnf
   repeat' ((first | (show LC _ _ _ _ _ _; (refine LC.eq (args' := [iAV n, iAV ((2 ^ n.toNat - 1 : Nat) : Int), bv l]) (congrArg (fun z => [iAV n, AV.int .i64 z, bv l]) e) ?_); refine LC.pure (r3next_c n h _ (Nat.sub_lt (Nat.pow_pos (by decide)) (by decide)) l hl) ?_; conv => whnf) | (show LC _ _ _ _ _ _; first | refine LC.pure (hpp) ?_ | refine goE ?_) | refine T.s ?_ | ((first | apply goB | apply AB.dec | apply AB.gen) <;> intro h <;> try (exfalso; omega)) | refine LQ.mk fun r => ?_ | exact T.z | refine ⟨_, rfl, rfl, ?_⟩ | fail) <;> conv => whnf)
   all_goals (try dsimp only)
   (show RL _ _ _; refine goR ?_)
   rfl
 | false =>
   rw [crcO_n h]
   rw [poly_0 h] at hpp
   refine goW [] Tryz.func138 rfl ?_
   conv => whnf
   repeat' ((first | (show LC _ _ _ _ _ _; first | refine LC.pure (hpp) ?_ | refine goE ?_) | refine T.s ?_ | ((first | apply goB | apply AB.dec | apply AB.gen) <;> intro h <;> try (exfalso; omega)) | refine LQ.mk fun r => ?_ | exact T.z | refine ⟨_, rfl, rfl, ?_⟩ | fail) <;> conv => whnf)
   all_goals (try dsimp only)
   (show RL _ _ _; refine goR ?_)
   rfl
open Go.RowKit
variable {G : Nat → AV}
theorem qA {α : Type} {g : α → Bool} (l : List α) (i : Nat) (d : α) (h : i < l.length) : (l.take (i + 1)).all g = ((l.take i).all g && g (l.getD i d)) := by
 rw [List.take_succ_eq_append_getElem h, List.all_append]
 simp [List.getD_eq_getElem?_getD, h]
theorem jJ {α : Type} {g : α → Bool} (l : List α) (i : Nat) (d : α) (h : i < l.length) (hb : g (l.getD i d) = false) : l.all g = false := by
 cases hc : l.all g with
 | false => rfl
 | true =>
   rw [List.all_eq_true] at hc
   have := hc (l.getD i d) (by simp [List.getD_eq_getElem?_getD, h])
   rw [hb] at this; cases this
theorem zm {α : Type} {g : α → Bool} {l : List α} {i : Nat} (h : l.length ≤ i) (hk : (l.take i).all g = true) : l.all g = true := by rwa [List.take_of_length_le h] at hk
def yX (width k v r : Int) : Bool := decide ((wL width r k (lw k v)).2 = 0 ∧ (wL width r k (lw k v)).1 = v)
def jP (width k v : Int) : Bool := xt width && (decide (3 ≤ k ∧ k ≤ width) && zO width v)
theorem fit1_e {width k v : Int} (h : jP width k v = true) (r : Int) : yX width k v r = (zO width r && decide (lsbV width r k (lw k v) = v)) := by
 simp only [jP, Bool.and_eq_true, decide_eq_true_eq] at h
 obtain ⟨h1, ⟨h2, h3⟩, h4⟩ := h
 have h5 : zO k (lw k v) = true := by have := yu k v; simp only [zO, decide_eq_true_eq]; exact this
 unfold yX
 cases hr : zO width r with
 | true => rw [lsbR_g h1 h2 h3 hr h5]; simp
 | false => rw [lsbR_b h1 (by simp [hr])]; simp
theorem fitsR_e (width : Int) (l : List Int) (k v : Int) : xD width l k v = (jP width k v && l.all (yX width k v)) := by
 cases h : jP width k v with
 | true =>
   have e : yX width k v = fun r => (zO width r && decide (lsbV width r k (lw k v) = v)) := funext (fit1_e h)
   rw [e]
   simp only [jP, Bool.and_eq_true] at h
   unfold xD
   rw [h.1, h.2.1, h.2.2]
   rfl
 | false =>
   unfold xD
   simp only [jP, Bool.and_eq_false_iff] at h
   rcases h with h | h | h <;> rw [h] <;> simp
attribute [irreducible] yX
theorem r7fits_c (width : Int) (l : List Int) (k v : Int) (hl : l.length ≤ 100000) : LP Tryz.prog G 110 [iAV width, iv l, iAV k, iAV v] [] (fun _ => (.bool (xD width l k v), [])) := by
 have hw := wu (G := G) width
 rw [fitsR_e]
 cases hg : jP width k v with
 | true =>
   have hgg := hg
   simp only [jP, Bool.and_eq_true, decide_eq_true_eq, zO] at hgg
   obtain ⟨h1, h2, h3⟩ := hgg
   have hn := yY h1
   rw [h1] at hw
   have e1 : IntKind.i64.wrap (1 * 2 ^ min (IntKind.u64.wrap width).toNat IntKind.i64.bits) = 2 ^ width.toNat := by rw [u64m (by omega) (by omega)]; exact yU (by omega)
   have hf : ∀ r, ¬ (wL width r k (lw k v)).2 = 0 → yX width k v r = false := fun r h => by unfold yX; simp [h]
   have hf2 : ∀ r, ¬ (wL width r k (lw k v)).1 = v → yX width k v r = false := fun r h => by unfold yX; simp [h]
   have hf3 : ∀ r, (wL width r k (lw k v)).2 = 0 → (wL width r k (lw k v)).1 = v → yX width k v r = true := fun r h h' => by unfold yX; simp [h, h']
   rw [Bool.true_and]
   refine goW [] Tryz.func110 rfl ?_
   conv => whnf
   repeat' ((first | exact Nm.b 0 | (show LC _ _ _ _ _ _; first | refine LC.pure (hw) ?_ | refine LC.pure (jM k v (by omega) (by omega)) ?_ | refine LC.pure (r7decode_c _ _ _ _) ?_ | refine goE ?_) | (show AC _ _ _; first | (refine AC.idx (i) (0) ?_ ?_ ?_; (focus (first | exact rfl | (simp; done) | (simp; omega))); (focus (first | omega | exact T.side)))) | refine T.s ?_ | ((first | apply goB | apply AB.dec | apply AB.gen) <;> intro h <;> try (exfalso; omega)) | refine LQ.mk fun r => ?_ | (show SQ _ _ _ (.loop _) _ _ _; first | (apply goO tQ [] 4 (S := Nat) [0, 1, 2, 3] (fun i => ⟨[(9, .int .i64 i)], [], i ≤ l.length ∧ (l.take i).all (yX width k v) = true, l.length - i⟩) (0) (by rfl); (focus (all_goals (try exact KCA0); done)); rintro i ⟨hk, hok⟩)) | (show SQ _ _ _ _ _ _ _; first | (refine goD tQ qd 6 [4, 8] [0, 1, 2, 3, 4, 5, 6, 7, 8, 9, 10, 11, 12, 13, 14] [] (by kernel_rfl) ?_)) | (show AtL _ _ _ _ _ _ _ _ _ _; first | (apply AtL.mk' (id := 4) (S := Nat) (i + 1); all_goals (try exact KCA0); done) | (apply AtL.mk' (id := 4) (S := Nat) (i + 1); all_goals (try exact KCA0))) | exact T.z | refine ⟨_, rfl, rfl, ?_⟩ | fail) <;> conv => whnf)
   all_goals (try dsimp only)
   all_goals first
     | ((show RL _ _ _; refine goR ?_); rw [jJ l i 0 (by omega) (hf _ (by assumption))])
     | ((show RL _ _ _; refine goR ?_); rw [jJ l i 0 (by omega) (hf2 _ (by assumption))])
     | ((show RL _ _ _; refine goR ?_); rw [zm (by omega) hok])
     | trace_state
 | false =>
   simp only [jP, Bool.and_eq_false_iff, decide_eq_false_iff_not, zO] at hg
   rw [Bool.false_and]
   cases h1 : xt width with
   | false =>
     rw [h1] at hw
     refine goW [] Tryz.func110 rfl ?_
     conv => whnf
     repeat' ((first | exact Nm.b 0 | (show LC _ _ _ _ _ _; first | refine LC.pure (hw) ?_ | refine goE ?_) | refine T.s ?_ | ((first | apply goB | apply AB.dec | apply AB.gen) <;> intro h <;> try (exfalso; omega)) | refine LQ.mk fun r => ?_ | (show SQ _ _ _ _ _ _ _; first | (refine goD tQ qd 6 [4, 8] [0, 1, 2, 3, 4, 5, 6, 7, 8, 9, 10, 11, 12, 13, 14] [] (by kernel_rfl) ?_)) | exact T.z | refine ⟨_, rfl, rfl, ?_⟩ | fail) <;> conv => whnf)
     all_goals (try dsimp only)
     all_goals first | ((show RL _ _ _; refine goR ?_); rfl)
   | true =>
     have hn := yY h1
     rw [h1] at hw
     have e1 : IntKind.i64.wrap (1 * 2 ^ min (IntKind.u64.wrap width).toNat IntKind.i64.bits) = 2 ^ width.toNat := by rw [u64m (by omega) (by omega)]; exact yU (by omega)
     have hg : ¬ (3 ≤ k ∧ k ≤ width) ∨ ¬ (0 ≤ v ∧ v < 2 ^ width.toNat) := by
       rcases hg with hg | hg
       · rw [hg] at h1; cases h1
       · exact hg
     refine goW [] Tryz.func110 rfl ?_
     conv => whnf
     repeat' ((first | exact Nm.b 0 | (show LC _ _ _ _ _ _; first | refine LC.pure (hw) ?_ | refine goE ?_) | refine T.s ?_ | ((first | apply goB | apply AB.dec | apply AB.gen) <;> intro h <;> try (exfalso; omega)) | refine LQ.mk fun r => ?_ | (show SQ _ _ _ (.loop _) _ _ _; first | (refine goL tQ [] 4 (S := Nat) [0, 1, 2, 3] (fun i => ⟨[(9, .int .i64 i)], [], False, l.length - i⟩) (0) ?_; rintro i hok; (try dsimp only at hok))) | (show SQ _ _ _ _ _ _ _; first | (refine goD tQ qd 6 [4, 8] [0, 1, 2, 3, 4, 5, 6, 7, 8, 9, 10, 11, 12, 13, 14] [] (by kernel_rfl) ?_)) | (show AtL _ _ _ _ _ _ _ _ _ _; first | (show AtL 4 _ _ _ _ _ _ _ _ _; exact goN 4 (S := Nat) (i + 1)) | (apply AtL.mk' (id := 4) (S := Nat) (i + 1); all_goals (try exact KC12))) | exact T.z | refine ⟨_, rfl, rfl, ?_⟩ | fail) <;> conv => whnf)
     all_goals (try dsimp only)
     all_goals first | ((show RL _ _ _; refine goR ?_); rfl)
theorem r9size_c (f : Int) : LP Tryz.prog G 139 [iAV f] [] (fun _ => (iAV (cbR f), [])) := by
 refine goW [] Tryz.func139 rfl ?_
 conv => whnf
 repeat' ((first | refine T.s ?_ | ((first | apply goB | apply AB.dec | apply AB.gen) <;> intro h <;> try (exfalso; omega)) | refine LQ.mk fun r => ?_ | exact T.z | fail) <;> conv => whnf)
 all_goals (try dsimp only)
 all_goals
   (show RL _ _ _; refine goR ?_)
   simp [cbR, iAV, *]
theorem poly_cb (f : Int) : zz (cbR f) = true := by
 unfold zz cbR
 (repeat' split) <;> simp
theorem crcO_cb (f : Int) (l : List UInt8) : crcO (cbR f) l = (crcS (cbR f) l, 0) := crcO_y (poly_cb f) l
theorem headL_le (h : Hd) : (qy h).length ≤ 40 := by rw [z8]; split <;> omega
theorem jr (hd : Hd) (f : Int) : LP Tryz.prog G 115 [hd.av, iAV f] [] (fun _ => (iAV (ky f hd), [])) := by
 have h1 := r3sum_c (G := G) (cbR f) (qy hd) (by have := headL_le hd; omega)
 have h0 := r3sum_c (G := G) (cbR f) [] (by decide)
 rw [crcO_cb] at h1 h0
 cases ko : hd.ok with
 | true =>
   rw [show ky f hd = crcS (cbR f) (qy hd) by unfold ky headO; rw [if_pos ko]]
   refine goW [] Tryz.func115 rfl ?_
   conv => whnf
   repeat' ((first | exact Nm.b 0 | (show LC _ _ _ _ _ _; first | refine LC.pure (r9size_c _) ?_ | refine LC.own (r5head_c hd ko) ?_ | refine LC.mk' (h1) [_] ⟨LF.eq rfl, LF.rowF InL.here ?_, trivial⟩ ?_ | refine goE ?_) | refine T.s ?_ | ((first | apply goB | apply AB.dec | apply AB.gen) <;> intro h <;> try (exfalso; omega)) | refine LQ.mk fun r => ?_ | (show SQ _ _ _ _ _ _ _; first | refine gX 1 [2, 1] [0, 2, 1, 3, 4, 5, 6, 7, 8, 9] [] ?_) | exact T.z | fail) <;> conv => whnf)
   all_goals (try dsimp only)
   all_goals first | ((show RL _ _ _; refine goR ?_); rfl) | trace_state
 | false =>
   rw [show ky f hd = crcS (cbR f) [] by unfold ky headO; rw [if_neg (by rw [ko]; decide)]]
   refine goW [] Tryz.func115 rfl ?_
   conv => whnf
   repeat' ((first | exact Nm.b 0 | (show LC _ _ _ _ _ _; first | refine LC.pure (r9size_c _) ?_ | refine LC.pure (r5head_n hd ko) ?_ | refine LC.mk' (h0) [] ⟨LF.eq rfl, LF.nils rfl rfl, trivial⟩ ?_ | refine goE ?_) | refine T.s ?_ | ((first | apply goB | apply AB.dec | apply AB.gen) <;> intro h <;> try (exfalso; omega)) | refine LQ.mk fun r => ?_ | (show SQ _ _ _ _ _ _ _; first | refine gX 1 [2, 1] [0, 2, 1, 3, 4, 5, 6, 7, 8, 9] [] ?_) | exact T.z | fail) <;> conv => whnf)
   all_goals (try dsimp only)
   all_goals first | ((show RL _ _ _; refine goR ?_); rfl) | trace_state
end Go.Proofs.YtbagbjacmakfhaaGreatDoor
