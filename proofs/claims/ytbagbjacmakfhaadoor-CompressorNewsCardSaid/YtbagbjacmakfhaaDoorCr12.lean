/-
  Contracts of the functions that the laws reach.
-/
import Derived.Test.YtbagbjacmakfhaaDoorCr01
import Derived.Test.YtbagbjacmakfhaaDoorCr02
import Derived.Test.YtbagbjacmakfhaaDoorCr03
import Derived.Test.YtbagbjacmakfhaaDoorCr04
import Derived.Test.YtbagbjacmakfhaaDoorCr05
import Derived.Test.YtbagbjacmakfhaaDoorCr06
import Derived.Test.YtbagbjacmakfhaaDoorCr07
import Derived.Test.YtbagbjacmakfhaaDoorCr08
import Derived.Test.YtbagbjacmakfhaaDoorCr09
import Derived.Test.YtbagbjacmakfhaaDoorCr11
set_option maxHeartbeats 2000000
set_option linter.all false
namespace Go.Proofs.YtbagbjacmakfhaaDoor
open Go.RowKit
variable {G : Nat → AV}
def gB (b : List UInt8) (a n : Nat) : Int := beN ((b.drop a).take n)
def j9 (b : List UInt8) : Bool := decide (40 ≤ b.length) && decide (b.getD 28 0 = 128)
def xk (b : List UInt8) : Hd :=
 if j9 b = true then ⟨2, ((b.getD 1 0).toNat : Nat), gB b 4 2, ((b.getD 6 0).toNat / 64 % 2 : Nat), ((b.getD 8 0).toNat : Nat), gB b 12 4, gB b 16 4, gB b 20 2, gB b 22 2, gB b 26 2, ((b.getD 29 0).toNat / 128 : Nat), ((b.getD 29 0).toNat % 128 : Nat), gB b 30 2, gB b 32 4, gB b 36 4⟩
 else ⟨1, ((b.getD 1 0).toNat : Nat), gB b 4 2, ((b.getD 6 0).toNat / 64 % 2 : Nat), ((b.getD 8 0).toNat : Nat), gB b 12 4, gB b 16 4, gB b 20 2, gB b 22 2, gB b 26 2, 0, 0, 0, 0, 0⟩
def wa (b : List UInt8) : Nat := if j9 b = true then 40 else 28
def qx (b : List UInt8) : (Hd × List UInt8) × Int :=
 if b.length < 28 ∨ 1500 < b.length then ((Hd.z, []), 2)
 else if zC (xk b) (b.drop (wa b)) = (b, 0) then ((xk b, b.drop (wa b)), 0) else ((Hd.z, []), 4)
theorem wr8 : ∀ x : Nat, x < 256 → IntKind.i64.wrap (x : Int) = (x : Int) := by decide +kernel
theorem yZ (b : List UInt8) (h1 : 28 ≤ b.length) (h2 : b.length ≤ 1500) : qx b = if zC (xk b) (b.drop (wa b)) = (b, 0) then ((xk b, b.drop (wa b)), 0) else ((Hd.z, []), 4) := by unfold qx; rw [if_neg (by omega)]
theorem RL.hdn {v : AV} {e : Int} {l : LS} : RL (fun _ => (.tup [v, bv [], iAV e], [])) (.tup [v, .nils, .int .i64 e]) l :=
 RL.frz [] (LF.tup (xs := [v, .nils, .int .i64 e]) (ys := [v, bv [], iAV e]) ⟨LF.eq rfl, LF.nils rfl rfl, LF.eq rfl, trivial⟩) LB.nil
theorem n128 (x : UInt8) : (x = 128) = (x.toNat = 128) := propext ⟨fun h => by rw [h]; rfl, fun h => UInt8.toNat_inj.1 h⟩
open Go.RowKit
structure Sn where
 act : Bool
 full : Int
 refr : Int
 ser : Int
 sin : Int
 lng : Int
 dy : Dy
 rf : List Hd
def hdv (l : List Hd) : AV := .sl l.length (l.flatMap Hd.cs)
@[reducible] def Sn.cs (s : Sn) : List AV := [.bool s.act, iAV s.full, iAV s.refr, iAV s.ser, iAV s.sin, iAV s.lng, iAV s.dy.st, iAV s.dy.fo, hdv s.rf]
@[reducible] def Sn.av (s : Sn) : AV := .agg s.cs
theorem Sn.cs_len (s : Sn) : s.cs.length = 9 := rfl
theorem Hd.cs_len (h : Hd) : h.cs.length = 15 := rfl
def snv (l : List Sn) : AV := .sl l.length (l.flatMap Sn.cs)
def Sn.z : Sn := ⟨false, 0, 0, 0, 0, 0, Dy.z, []⟩
structure Co where
 m : Int
 w : Int
 cx : List Sn
@[reducible] def Co.av (c : Co) : AV := .agg [iAV c.m, iAV c.w, snv c.cx]
def Co.z : Co := ⟨0, 0, []⟩
def Sn.fst (s : Sn) : Hd := s.rf.getD 0 Hd.z
def Sn.lst (s : Sn) : Hd := s.rf.getD (s.rf.length - 1) Hd.z
def jg (s : Sn) : Bool := decide (s.full = 0 ∧ s.refr = 0 ∧ s.ser = 0 ∧ s.sin = 0 ∧ s.lng = 0 ∧ s.dy = Dy.z ∧ s.rf = [])
def xC (m w : Int) : Int := if m = 3 then 32 else w
def Sn.ok (m w : Int) (s : Sn) : Bool :=
 if s.act = true then
   decide (1 ≤ s.rf.length ∧ (s.rf.length : Int) ≤ xC m w) && (inR s.ser s.rf.length && (inR s.full w && (inR s.refr w && (decide (¬ (0 < s.full ∧ 0 < s.refr)) &&
     (inR s.sin 32 && (inR s.lng 3 && (s.dy.ok && (decide (s.fst.k = 2 ∨ s.dy = Dy.z) && s.rf.all fun r => r.ok && qo r s.fst))))))))
 else jg s
def qN (s t : Sn) : Bool := s.act && (t.act && qo s.fst t.fst)
def zj (m w : Int) : Bool := decide (1 ≤ m ∧ m ≤ 3 ∧ 1 ≤ w ∧ w ≤ 8)
def Co.at (c : Co) (i : Nat) : Sn := c.cx.getD i Sn.z
def Co.oks (c : Co) (n : Nat) : Bool := (List.range n).all fun i => (c.at i).ok c.m c.w && (List.range i).all fun k => !qN (c.at i) (c.at k)
def Co.ok (c : Co) : Bool := zj c.m c.w && (decide (c.cx.length = 16) && c.oks 16)
def zO (m w : Int) : Co × Int := if zj m w = true then (⟨m, w, List.replicate 16 Sn.z⟩, 0) else (Co.z, 3)
def xo (a b : Hd) : Int := (if a.tos = b.tos then 0 else 1) + (if a.ttl = b.ttl then 0 else 2) + (if a.fx = b.fx then 0 else 4) + (if a.ty = b.ty then 0 else 8) + (if decide (a.ck = 0) = decide (b.ck = 0) then 0 else 16)
def qZ (a b : Hd) : Dy :=
 if a.ok = true ∧ b.ok = true ∧ a.k = 2 ∧ qo a b = true then
   ⟨if sg 16 a.num b.num ≠ 0 ∧ (sg 32 a.tm b.tm).tmod (sg 16 a.num b.num) = 0 ∧ 0 ≤ (sg 32 a.tm b.tm).tdiv (sg 16 a.num b.num) ∧ (sg 32 a.tm b.tm).tdiv (sg 16 a.num b.num) ≤ 65535 then (sg 32 a.tm b.tm).tdiv (sg 16 a.num b.num) else 0,
     if b.id = lw 16 (a.id + sg 16 a.num b.num) then 1 else 0⟩
 else Dy.z
def jc (width : Int) (l : List Int) (k v : Int) : Bool := jP width && (decide (3 ≤ k ∧ k ≤ width) && (j0 width v && l.all fun r => j0 width r && decide (lsbV width r k (lw k v) = v)))
def qS (s : Sn) (h r : Hd) : Hd := { jX s.dy r h.num with ck := h.ck }
def zp (s : Sn) (h : Hd) (f : Int) (r : Hd) : Bool := decide (xo r h = 0) && (decide (f = 1 → qS s h r = h) && decide (f = 2 ∧ h.k = 2 → (qS s h r).id = h.id))
def qO (s : Sn) (h : Hd) (f : Int) : Bool :=
 s.rf.all (zp s h f) && (decide (f = 3 ∧ h.k ≠ 2) || (jc 16 (s.rf.map Hd.num) (wid f h.k 0) h.num && (decide (¬ (f = 2 ∧ h.k = 2)) || jc 32 (s.rf.map (·.tm)) 16 h.tm)))
def we (s : Sn) (last : Hd) (had : Bool) (h : Hd) : Sn := { s with ser := s.rf.length, dy := if had = true then qZ last h else Dy.z }
def csA (w : Int) (s : Sn) (h : Hd) : Sn × Bool :=
 if s.act = false then ({ s with act := true, full := w }, true)
 else if xo s.lst h ≠ 0 ∨ s.lng = 3 ∧ qZ s.lst h ≠ s.dy then (if 0 < s.full then { s with lng := 0, full := w } else { s with lng := 0, refr := w }, true)
 else (s, false)
def csB (m w : Int) (x : Sn × Bool) : Sn × Bool := if m = 1 ∧ x.1.sin = 32 ∧ x.1.full = 0 then ({ x.1 with full := w, refr := 0 }, true) else x
def csC (m w : Int) (n : Nat) (x : Sn × Bool) : Sn × Bool := if m = 3 ∧ n = 32 then ({ x.1 with full := w, refr := 0, rf := [] }, true) else x
def csD (last : Hd) (had : Bool) (h : Hd) (x : Sn × Bool) : Sn := if x.2 = true ∨ x.1.ser = (x.1.rf.length : Int) ∧ (0 < x.1.full ∨ 0 < x.1.refr) then we x.1 last had h else x.1
def csE (w : Int) (last : Hd) (had : Bool) (h : Hd) (s : Sn) : Sn × Int :=
 if 0 < s.full then (s, 5) else if 0 < s.refr then (s, 4) else if qO s h 1 = true then (s, 1) else if qO s h 2 = true then (s, 2) else if qO s h 3 = true then (s, 3)
 else (we { s with refr := w, lng := 0 } last had h, 4)
def csF (m w : Int) (h : Hd) (s : Sn) (f : Int) : Sn :=
 { act := s.act
   full := if m ≠ 3 ∧ f = 5 then s.full - 1 else s.full
   refr := if m ≠ 3 ∧ f = 4 then s.refr - 1 else s.refr
   ser := if m ≠ 3 ∧ w < (s.rf.length : Int) + 1 then max 0 (s.ser - ((s.rf.length : Int) + 1 - w)) else s.ser
   sin := if f = 5 then 0 else min (s.sin + 1) 32
   lng := if (f = 2 ∨ f = 3) ∧ h.k = 2 then min (s.lng + 1) 3 else 0
   dy := s.dy
   rf := if m ≠ 3 ∧ w < (s.rf.length : Int) + 1 then (s.rf ++ [h]).drop ((s.rf.length : Int) + 1 - w).toNat else s.rf ++ [h] }
def qX (m w : Int) (s : Sn) (h : Hd) : Sn × Int := csE w s.lst s.act h (csD s.lst s.act h (csC m w s.rf.length (csB m w (csA w s h))))
def qK (dy : Dy) (c f : Int) (h : Hd) (pl : List UInt8) : Sm :=
 if f = 5 then ⟨c, 5, 0, 0, 0, 0, 0, h, dy, kP 5 h, pl⟩
 else if f = 4 then ⟨c, 4, 0, 0, 0, 0, 0, { h with fr := 0, to := 0, fp := 0, tp := 0, sr := 0 }, dy, kP 4 h, pl⟩
 else if f = 1 then ⟨c, 1, lw 4 h.num, 0, 0, 0, h.ck, { Hd.z with k := h.k }, Dy.z, kP 1 h, pl⟩
 else if f = 2 then (if h.k = 2 then ⟨c, 2, lw 5 h.num, lw 16 h.tm, h.mr, 0, h.ck, { Hd.z with k := h.k }, Dy.z, kP 2 h, pl⟩ else ⟨c, 2, lw 5 h.num, 0, 0, 0, h.ck, { Hd.z with k := h.k }, Dy.z, kP 2 h, pl⟩)
 else (if h.k = 2 then ⟨c, 3, lw 8 h.num, h.tm, h.mr, h.id, h.ck, { Hd.z with k := h.k }, Dy.z, kP 3 h, pl⟩ else ⟨c, 3, h.num, 0, 0, 0, h.ck, { Hd.z with k := h.k }, Dy.z, kP 3 h, pl⟩)
def ownI (l : List Sn) (h : Hd) : Option Nat := l.findIdx? fun s => s.act && qo s.fst h
def freeI (l : List Sn) : Option Nat := l.findIdx? fun s => !s.act
def zu (l : List Sn) (h : Hd) : Option Nat := match ownI l h with | some i => some i | none => freeI l
def jz (b : List UInt8) : Sm := ⟨0, 6, 0, 0, 0, 0, 0, Hd.z, Dy.z, 0, b⟩
def Co.set (c : Co) (i : Nat) (s : Sn) : Co := ⟨c.m, c.w, c.cx.set i s⟩
def kX (c : Co) (i : Nat) (h : Hd) (pl : List UInt8) : Co × List UInt8 :=
 (c.set i (csF c.m c.w h (qX c.m c.w (c.at i) h).1 (qX c.m c.w (c.at i) h).2), (xH (qK (qX c.m c.w (c.at i) h).1.dy i (qX c.m c.w (c.at i) h).2 h pl)).1)
def qz (c : Co) (b : List UInt8) : (Co × List UInt8) × Int :=
 if c.ok = true then
   (if b = [] ∨ 1500 < b.length then ((Co.z, []), 2)
    else if (qx b).2 = 0 then
     (match zu c.cx (qx b).1.1 with
      | some i => if (c.at i).act = true ∧ c.m = 3 ∧ (sg 16 (c.at i).lst.num (qx b).1.1.num < 1 ∨ 255 < sg 16 (c.at i).lst.num (qx b).1.1.num) then ((c, (xH (jz b)).1), 0) else (kX c i (qx b).1.1 (qx b).1.2, 0)
      | none => ((c, (xH (jz b)).1), 0))
    else ((c, (xH (jz b)).1), 0))
 else ((Co.z, []), 1)
open Go.RowKit
variable {G : Nat → AV}
theorem vX (a b : Hd) : LP Tryd.prog G 27 [a.av, b.av] [] (fun _ => (.bool (qo a b), [])) := by
 refine goW [] Tryd.func27 rfl ?_
 conv => whnf
 repeat' ((first | exact Nm.b 0 | (show LC _ _ _ _ _ _; first | refine LC.pure (r6static_c _) ?_ | refine goE ?_) | refine T.s ?_ | ((first | apply goB | apply AB.dec | apply AB.gen) <;> intro h <;> try (exfalso; omega)) | refine LQ.mk fun r => ?_ | (show SQ _ _ _ _ _ _ _; first | refine gX 1 [2, 1] [0, 2, 1, 3, 4, 5] [] ?_) | exact T.z | fail) <;> conv => whnf)
 all_goals (try dsimp only)
 all_goals
   (show RL _ _ _; refine goR ?_)
   refine congrArg AV.bool ?_
   rw [Bool.eq_iff_iff]
   simp [qo, qH, Hd.static]
theorem sg_rng (n a b : Int) (h1 : 1 ≤ n) (h2 : n ≤ 32) : -2147483648 ≤ sg n a b ∧ sg n a b < 2147483648 := by
 have h3 := wG n (b - a)
 have h4 := yr (n := n - 1) (m := 31) (by omega)
 have h5 : (2 : Int) ^ n.toNat = 2 * 2 ^ (n - 1).toNat := by
   rw [show n.toNat = (n - 1).toNat + 1 by omega, Int.pow_succ]; omega
 unfold sg
 split <;> omega
theorem learnR_n {a b : Hd} (h : ¬ (a.ok = true ∧ b.ok = true ∧ a.k = 2 ∧ qo a b = true)) : qZ a b = Dy.z := if_neg h
theorem tdiv_rng {t s : Int} (h : -2147483648 ≤ t ∧ t < 2147483648) : -2147483648 ≤ t.tdiv s ∧ t.tdiv s ≤ 2147483648 := by
 have h1 : (t.tdiv s).natAbs ≤ t.natAbs := by rw [Int.natAbs_tdiv]; exact Nat.div_le_self ..
 omega
open Go.RowKit
variable {G : Nat → AV}
def j7 (n : Int) : Option Int := if n = 3 then some 3 else if n = 7 then some 9 else if n = 8 then some 7 else if n = 16 then some 4129 else if n = 24 then some 8801531 else none
def gm : Nat → AV := fun g => match Nat.beq g 0 with | true => .ip [.mp j7] | false => .any
def zR (n : Int) : Bool := decide (n = 3 ∨ n = 7 ∨ n = 8 ∨ n = 16 ∨ n = 24)
theorem cpoly_y (n : Int) (h : zR n = true) : LP Tryd.prog gm 92 [iAV n] [] (fun _ => (.tup [iAV (j6 n), .bool true], [])) := by
 have e : j7 n = some (j6 n) := by
   simp only [zR, decide_eq_true_eq] at h
   rcases h with rfl | rfl | rfl | rfl | rfl <;> rfl
 refine goW [] Tryd.func92 rfl ?_
 conv => whnf
 repeat' ((first | (show AFind _ _; refine AFind.is _ (e) ?_) | refine T.s ?_ | ((first | apply goB | apply AB.dec | apply AB.gen) <;> intro h <;> try (exfalso; omega)) | refine LQ.mk fun r => ?_ | exact T.z | fail) <;> conv => whnf)
 all_goals (try dsimp only)
 all_goals
   (show RL _ _ _; refine goR ?_)
   rfl
theorem cpoly_y' (n : Int) (h : zR n = true) (p : Nat) (hp : j6 n = p) : LP Tryd.prog gm 92 [iAV n] [] (fun _ => (.tup [iAV p, .bool true], [])) := hp ▸ cpoly_y n h
theorem cpoly_n (n : Int) (h : zR n = false) : LP Tryd.prog gm 92 [iAV n] [] (fun _ => (.tup [iAV 0, .bool false], [])) := by
 have e : j7 n = none := by
   simp only [zR, decide_eq_false_iff_not] at h
   unfold j7
   repeat rw [if_neg (by omega)]
 refine goW [] Tryd.func92 rfl ?_
 conv => whnf
 repeat' ((first | (show AFind _ _; refine AFind.is _ (e) ?_) | refine T.s ?_ | ((first | apply goB | apply AB.dec | apply AB.gen) <;> intro h <;> try (exfalso; omega)) | refine LQ.mk fun r => ?_ | exact T.z | fail) <;> conv => whnf)
 all_goals (try dsimp only)
 all_goals
   (show RL _ _ _; refine goR ?_)
   rfl
theorem poly_lt {n : Int} (h : zR n = true) : (j6 n).toNat < 2 ^ n.toNat ∧ (((j6 n).toNat : Nat) : Int) = j6 n := by
 simp only [zR, decide_eq_true_eq] at h
 rcases h with rfl | rfl | rfl | rfl | rfl
 · exact ⟨by show 3 < 8; omega, rfl⟩
 · exact ⟨by show 9 < 128; omega, rfl⟩
 · exact ⟨by show 7 < 256; omega, rfl⟩
 · exact ⟨by show 4129 < 65536; omega, rfl⟩
 · exact ⟨by show 8801531 < 16777216; omega, rfl⟩
theorem dec7 {j : Nat} (h : j ≤ 8) : qc .sub .i64 (7 - (j : Int)) 1 = 7 - ((j + 1 : Nat) : Int) := by (exact T.num)
theorem inc1 {i : Nat} (h : i < 1000000) : qc .add .i64 (i : Int) 1 = ((i + 1 : Nat) : Int) := by (exact T.num)
theorem crc8 {k p r i j : Nat} {l : List UInt8} (h1 : (i : Int) < (l.length : Int)) (h2 : ¬ (0 : Int) ≤ 7 - (j : Int)) (h3 : j ≤ 8) : ((jh k p (xV k p r (l.take i)) (l.getD i 0).toNat j : Nat) : Int) = ((xV k p r (l.take (i + 1)) : Nat) : Int) := by
 rw [crcL_take _ _ _ _ _ (by omega), show j = 8 by omega]
theorem cnext_c (n : Int) (h : zR n = true) (r0 : Nat) (hr : r0 < 2 ^ n.toNat) (l : List UInt8) (hl : l.length ≤ 1000000) : LP Tryd.prog gm 93 [iAV n, iAV r0, bv l] [] (fun _ => (.tup [iAV (xV n.toNat (j6 n).toNat r0 l : Nat), iAV 0], [])) := by
 have hn : 3 ≤ n ∧ n ≤ 24 := by simp only [zR, decide_eq_true_eq] at h; omega
 have hs := shl1 (n := n) (by omega)
 have hr1 : (r0 : Int) < 2 ^ n.toNat := by exact_mod_cast hr
 have hs' : IntKind.i64.wrap (1 * 2 ^ min n.toNat IntKind.i64.bits) = 2 ^ n.toNat := hs
 have hp := poly_lt h
 have hn : 1 ≤ n ∧ n ≤ 24 := by omega
 have hb : ∀ i, (l.getD i 0).toNat < 256 := fun i => (l.getD i 0).toNat_lt
 obtain ⟨p, hpe⟩ : ∃ p : Nat, (j6 n).toNat = p := ⟨_, rfl⟩
 rw [hpe] at hp ⊢
 refine goW [] Tryd.func93 rfl ?_
 conv => whnf
 repeat' ((first | exact Nm.b 0 | (show LC _ _ _ _ _ _; first | refine LC.pure (cpoly_y' _ h p hp.2.symm) ?_ | refine goE ?_) | (show AC _ _ _; first | (refine AC.idx (i) (0) ?_ ?_ ?_; (focus (first | exact rfl | (simp; done) | (simp; omega))); (focus (first | omega | exact T.side)))) | refine T.s ?_ | ((first | apply goB | apply AB.dec | apply AB.gen) <;> intro h <;> try (exfalso; omega)) | refine LQ.mk fun r => ?_ | (show SQ _ _ _ (.loop _) _ _ _; first | (apply goO tQ [] 7 (S := Nat) [0, 8, 31, 32] (fun i => ⟨[(33, .int .i64 i), (1, .int .i64 (xV n.toNat p r0 (l.take i) : Nat))], [], i ≤ l.length, l.length - i⟩) (0) (by rfl); (focus (all_goals (try exact KE71); done)); rintro i hok; (try dsimp only at hok)) | (apply goO tQ [] 10 (S := Nat) [0, 8, 11, 31, 32, 33] (fun j => ⟨[(12, .int .i64 (7 - (j : Int))), (1, .int .i64 (jh n.toNat p (xV n.toNat p r0 (l.take i)) (l.getD i 0).toNat j : Nat))], [], j ≤ 8, 8 - j⟩) (0) (by rfl); (focus (all_goals (try exact KE71); done)); rintro j hok; (try dsimp only at hok))) | (show SQ _ _ _ _ _ _ _; first | (refine goD tQ qf 12 [] [0, 1, 2, 3, 4, 5, 6, 7, 8, 9, 10] [] (by kernel_rfl) ?_)) | (show AtL _ _ _ _ _ _ _ _ _ _; first | (apply AtL.mk' (id := 7) (S := Nat) (i + 1); all_goals (try exact KE71); done) | (apply AtL.mk' (id := 10) (S := Nat) (j + 1); all_goals (try exact KE71); done) | (apply AtL.mk' (id := 7) (S := Nat) (i + 1); all_goals (try exact KE71)) | (apply AtL.mk' (id := 10) (S := Nat) (j + 1); all_goals (try exact KE71))) | exact T.z | refine ⟨_, rfl, rfl, ?_⟩ | fail) <;> conv => whnf)
 all_goals (try dsimp only)
 all_goals
   (show RL _ _ _; refine goR ?_)
   rw [List.take_of_length_le (by omega)]
   rfl
def crcO (n : Int) (l : List UInt8) : Int × Int := if zR n = true then (vv n l, 0) else (0, 7)
theorem crcO_y {n : Int} (h : zR n = true) (l : List UInt8) : crcO n l = (vv n l, 0) := if_pos h
theorem crcO_n {n : Int} (h : zR n = false) (l : List UInt8) : crcO n l = (0, 7) := if_neg (by rw [h]; decide)
attribute [irreducible] crcO
theorem mask_n {n : Int} (h1 : n ≤ 24) : qc .sub .i64 (IntKind.i64.wrap (1 * 2 ^ min n.toNat IntKind.i64.bits)) 1 = ((2 ^ n.toNat - 1 : Nat) : Int) := by
 refine (mask_e (by omega)).trans ?_
 have : 0 < 2 ^ n.toNat := Nat.pow_pos (by decide)
 rw [Int.ofNat_sub this]
 simp
theorem csum_c (n : Int) (l : List UInt8) (hl : l.length ≤ 1000000) : LP Tryd.prog gm 76 [iAV n, bv l] [] (fun _ => (.tup [iAV (crcO n l).1, iAV (crcO n l).2], [])) := by
 cases h : zR n with
 | true =>
   have hn0 : 0 ≤ n ∧ n ≤ 24 := by simp only [zR, decide_eq_true_eq] at h; omega
   have e := mask_n hn0.2
   rw [crcO_y h, ← crcS_eq]
   refine goW [] Tryd.func76 rfl ?_
   conv => whnf
   repeat' ((first | (show LC _ _ _ _ _ _; (refine LC.eq (args' := [iAV n, iAV ((2 ^ n.toNat - 1 : Nat) : Int), bv l]) (congrArg (fun z => [iAV n, AV.int .i64 z, bv l]) e) ?_); refine LC.pure (cnext_c n h _ (Nat.sub_lt (Nat.pow_pos (by decide)) (by decide)) l hl) ?_; conv => whnf) | (show LC _ _ _ _ _ _; first | refine LC.pure (cpoly_y _ h) ?_ | refine goE ?_) | refine T.s ?_ | ((first | apply goB | apply AB.dec | apply AB.gen) <;> intro h <;> try (exfalso; omega)) | refine LQ.mk fun r => ?_ | exact T.z | fail) <;> conv => whnf)
   all_goals (try dsimp only)
   (show RL _ _ _; refine goR ?_)
   rfl
 | false =>
   rw [crcO_n h]
   refine goW [] Tryd.func76 rfl ?_
   conv => whnf
   repeat' ((first | (show LC _ _ _ _ _ _; first | refine LC.pure (cpoly_n _ h) ?_ | refine goE ?_) | refine T.s ?_ | ((first | apply goB | apply AB.dec | apply AB.gen) <;> intro h <;> try (exfalso; omega)) | refine LQ.mk fun r => ?_ | exact T.z | fail) <;> conv => whnf)
   all_goals (try dsimp only)
   (show RL _ _ _; refine goR ?_)
   rfl
end Go.Proofs.YtbagbjacmakfhaaDoor
