/-
  Contracts of the functions that the laws reach.
-/
import Derived.ProofKit
import Derived.OpenShut
import Derived.LaidMore
import Derived.Stop.Joined
import Derived.Test.YtbagbjacmakfhaaDoorRows
import Derived.WideKeyElems2
import Derived.Test.YtbagbjacmakfhaaDoorCr01
import Derived.Test.YtbagbjacmakfhaaDoorCr02
import Derived.Test.YtbagbjacmakfhaaDoorCr03
import Derived.Test.YtbagbjacmakfhaaDoorCr04
import Derived.Test.YtbagbjacmakfhaaDoorCr05
import Derived.Test.YtbagbjacmakfhaaDoorCr06
import Derived.Test.YtbagbjacmakfhaaDoorCr07
import Derived.Test.YtbagbjacmakfhaaDoorCr08
import Derived.Test.YtbagbjacmakfhaaDoorCr09
import Derived.Test.YtbagbjacmakfhaaDoorCr11
import Derived.Test.YtbagbjacmakfhaaDoorCr12
import Derived.Test.YtbagbjacmakfhaaDoorCr16
import Derived.Test.YtbagbjacmakfhaaDoorCr17
import Derived.Test.YtbagbjacmakfhaaDoorCr18
import Derived.Test.YtbagbjacmakfhaaDoorCr21
import Derived.Test.YtbagbjacmakfhaaDoorCr22
set_option maxHeartbeats 4000000
set_option linter.all false
namespace Go.Proofs.YtbagbjacmakfhaaDoor
open Go.RowKit
theorem b8nn {n : Int} (h : 0 ≤ n ∧ n ≤ 255) : ((b8 n).toNat : Int) = n := by
 unfold b8
 rw [UInt8.toNat_ofNat']
 omega
theorem pt2 (n : Int) : qu n 2 = [b8 (n.fdiv 256), b8 n] := by
 show [b8 (n.fdiv (2 ^ 8)), b8 (n.fdiv (2 ^ 0))] = _
 rw [show n.fdiv (2 ^ 0) = n by rw [Int.pow_zero, Int.fdiv_one]]
 rfl
theorem pt4 (n : Int) : qu n 4 = [b8 (n.fdiv 16777216), b8 (n.fdiv 65536), b8 (n.fdiv 256), b8 n] := by
 show [b8 (n.fdiv (2 ^ 24)), b8 (n.fdiv (2 ^ 16)), b8 (n.fdiv (2 ^ 8)), b8 (n.fdiv (2 ^ 0))] = _
 rw [show n.fdiv (2 ^ 0) = n by rw [Int.pow_zero, Int.fdiv_one]]
 rfl
theorem b8mm (n : Int) : ((b8 n).toNat : Int) = n % 256 := by
 unfold b8
 rw [UInt8.toNat_ofNat']
 omega
theorem bq2 {n : Int} (h : 0 ≤ n ∧ n ≤ 65535) : beN [b8 (n.fdiv 256), b8 n] = n := by
 show 256 * (256 * 0 + ((b8 (n.fdiv 256)).toNat : Int)) + ((b8 n).toNat : Int) = n
 rw [b8mm, b8mm, Int.fdiv_eq_ediv_of_nonneg _ (by decide)]
 omega
theorem bq4 {n : Int} (h : 0 ≤ n ∧ n ≤ 4294967295) : beN [b8 (n.fdiv 16777216), b8 (n.fdiv 65536), b8 (n.fdiv 256), b8 n] = n := by
 show 256 * (256 * (256 * (256 * 0 + ((b8 (n.fdiv 16777216)).toNat : Int)) + ((b8 (n.fdiv 65536)).toNat : Int)) + ((b8 (n.fdiv 256)).toNat : Int)) + ((b8 n).toNat : Int) = n
 rw [b8mm, b8mm, b8mm, b8mm, Int.fdiv_eq_ediv_of_nonneg _ (by decide), Int.fdiv_eq_ediv_of_nonneg _ (by decide), Int.fdiv_eq_ediv_of_nonneg _ (by decide)]
 omega
theorem hdrg {h : Hd} (k : h.ok = true) : (0 ≤ h.fx ∧ h.fx ≤ 1) ∧ (0 ≤ h.fr ∧ h.fr ≤ 4294967295) ∧ (0 ≤ h.to ∧ h.to ≤ 4294967295) := by
 unfold Hd.ok at k
 split at k
 · simp only [jL, yM, Bool.and_eq_true, xe, decide_eq_true_eq] at k
   omega
 · split at k
   · simp only [jL, vU, Bool.and_eq_true, xe, decide_eq_true_eq] at k
     omega
   · cases k
theorem hdud {h : Hd} (k : h.ok = true) (h1 : h.k = 1) : h.mr = 0 ∧ h.ty = 0 ∧ h.sq = 0 ∧ h.tm = 0 ∧ h.sr = 0 := by
 unfold Hd.ok at k
 rw [if_pos h1] at k
 simp only [yM, Bool.and_eq_true, decide_eq_true_eq] at k
 exact k.2
def pkB (h : Hd) (a b c d e f : UInt8) : List UInt8 :=
 [69, b8 h.tos, a, b, b8 (h.id.fdiv 256), b8 h.id, b8 (64 * h.fx), 0, b8 h.ttl, 17, c, d, b8 (h.fr.fdiv 16777216), b8 (h.fr.fdiv 65536), b8 (h.fr.fdiv 256), b8 h.fr, b8 (h.to.fdiv 16777216), b8 (h.to.fdiv 65536), b8 (h.to.fdiv 256), b8 h.to,
   b8 (h.fp.fdiv 256), b8 h.fp, b8 (h.tp.fdiv 256), b8 h.tp, e, f, b8 (h.ck.fdiv 256), b8 h.ck]
def pkE (h : Hd) : List UInt8 := [128, b8 (128 * h.mr + h.ty), b8 (h.sq.fdiv 256), b8 h.sq, b8 (h.tm.fdiv 16777216), b8 (h.tm.fdiv 65536), b8 (h.tm.fdiv 256), b8 h.tm, b8 (h.sr.fdiv 16777216), b8 (h.sr.fdiv 65536), b8 (h.sr.fdiv 256), b8 h.sr]
def pkF (h : Hd) (p : List UInt8) : List UInt8 := if h.k = 2 then pkE h ++ p else p
theorem vj (h : Hd) (p : List UInt8) : qq h ++ p = pkB h 0 0 0 0 0 0 ++ pkF h p := by
 unfold qq pkF
 simp only [pt2, pt4]
 split <;> rfl
theorem set2_B (h : Hd) (a b c d e f x y : UInt8) (p : List UInt8) : yb (pkB h a b c d e f ++ p) 2 [x, y] = pkB h x y c d e f ++ p := rfl
theorem yQ (h : Hd) (a b c d e f x y : UInt8) (p : List UInt8) : yb (pkB h a b c d e f ++ p) 24 [x, y] = pkB h a b c d x y ++ p := rfl
theorem set10_B (h : Hd) (a b c d e f x y : UInt8) (p : List UInt8) : yb (pkB h a b c d e f ++ p) 10 [x, y] = pkB h a b x y e f ++ p := rfl
theorem bldL_B (h : Hd) (p : List UInt8) : ∃ a b c d e f, wc h p = pkB h a b c d e f ++ pkF h p := by
 unfold wc wU
 rw [vj]
 simp only [pt2]
 rw [set2_B, yQ, set10_B]
 exact ⟨_, _, _, _, _, _, rfl⟩
theorem pkF_len (h : Hd) (p : List UInt8) : (pkF h p).length = (if h.k = 2 then 12 else 0) + p.length := by
 unfold pkF
 split
 · rw [List.length_append]; rfl
 · simp
theorem prs_B {h : Hd} {p : List UInt8} (ho : h.ok = true) (hp : h.k = 2 ∨ p.length < 12) (a b c d e f : UInt8) : xk (pkB h a b c d e f ++ pkF h p) = h ∧ (pkB h a b c d e f ++ pkF h p).drop (wa (pkB h a b c d e f ++ pkF h p)) = p := by
 have hl := pkF_len h p
 have hB : (pkB h a b c d e f ++ pkF h p).length = 28 + (pkF h p).length := by rw [List.length_append]; rfl
 obtain ⟨hk, r1, r2, r3, r4, r5, r6, r7, r8, r9, r10, r11, r12, r13, r14⟩ := h.of ho
 obtain ⟨q1, q2, q3⟩ := hdrg ho
 have e6 : (b8 (64 * h.fx)).toNat / 64 % 2 = h.fx.toNat := by
   have : h.fx = 0 ∨ h.fx = 1 := by omega
   rcases this with e | e <;> rw [e] <;> rfl
 have k1 : (((b8 h.tos).toNat : Nat) : Int) = h.tos := b8nn r1
 have k2 : (((b8 h.ttl).toNat : Nat) : Int) = h.ttl := b8nn r2
 have k3 : ((h.fx.toNat : Nat) : Int) = h.fx := by omega
 rcases hk with hk | hk
 · obtain ⟨u1, u2, u3, u4, u5⟩ := hdud ho hk
   have hn : j9 (pkB h a b c d e f ++ pkF h p) = false := by
     unfold j9
     rw [decide_eq_false (by rw [hB, hl, if_neg (by omega)]; omega)]
     rfl
   unfold xk wa
   rw [hn]
   refine ⟨?_, ?_⟩
   · show (⟨1, ((b8 h.tos).toNat : Nat), beN [b8 (h.id.fdiv 256), b8 h.id], ((b8 (64 * h.fx)).toNat / 64 % 2 : Nat), ((b8 h.ttl).toNat : Nat), beN [b8 (h.fr.fdiv 16777216), b8 (h.fr.fdiv 65536), b8 (h.fr.fdiv 256), b8 h.fr], beN [b8 (h.to.fdiv 16777216), b8 (h.to.fdiv 65536), b8 (h.to.fdiv 256), b8 h.to], beN [b8 (h.fp.fdiv 256), b8 h.fp], beN [b8 (h.tp.fdiv 256), b8 h.tp], beN [b8 (h.ck.fdiv 256), b8 h.ck], 0, 0, 0, 0, 0⟩ : Hd) = h
     rw [k1, k2, e6, k3, bq2 r3, bq4 q2, bq4 q3, bq2 r4, bq2 r5, bq2 r6]
     obtain ⟨x1, x2, x3, x4, x5, x6, x7, x8, x9, x10, x11, x12, x13, x14, x15⟩ := h
     dsimp only at hk u1 u2 u3 u4 u5 ⊢
     rw [hk, u1, u2, u3, u4, u5]
   · show pkF h p = p
     unfold pkF
     rw [if_neg (by omega)]
 · have hF : pkF h p = pkE h ++ p := if_pos hk
   have hn : j9 (pkB h a b c d e f ++ pkF h p) = true := by
     unfold j9
     rw [decide_eq_true (by rw [hB, hl, if_pos hk]; omega), hF]
     rfl
   have e29 : (b8 (128 * h.mr + h.ty)).toNat = h.mr.toNat * 128 + h.ty.toNat := by
     have := b8mm (128 * h.mr + h.ty)
     omega
   unfold xk wa
   rw [hn, hF]
   refine ⟨?_, rfl⟩
   show (⟨2, ((b8 h.tos).toNat : Nat), beN [b8 (h.id.fdiv 256), b8 h.id], ((b8 (64 * h.fx)).toNat / 64 % 2 : Nat), ((b8 h.ttl).toNat : Nat), beN [b8 (h.fr.fdiv 16777216), b8 (h.fr.fdiv 65536), b8 (h.fr.fdiv 256), b8 h.fr], beN [b8 (h.to.fdiv 16777216), b8 (h.to.fdiv 65536), b8 (h.to.fdiv 256), b8 h.to], beN [b8 (h.fp.fdiv 256), b8 h.fp], beN [b8 (h.tp.fdiv 256), b8 h.tp], beN [b8 (h.ck.fdiv 256), b8 h.ck], ((b8 (128 * h.mr + h.ty)).toNat / 128 : Nat), ((b8 (128 * h.mr + h.ty)).toNat % 128 : Nat), beN [b8 (h.sq.fdiv 256), b8 h.sq], beN [b8 (h.tm.fdiv 16777216), b8 (h.tm.fdiv 65536), b8 (h.tm.fdiv 256), b8 h.tm], beN [b8 (h.sr.fdiv 16777216), b8 (h.sr.fdiv 65536), b8 (h.sr.fdiv 256), b8 h.sr]⟩ : Hd) = h
   have e30 : ((b8 (128 * h.mr + h.ty)).toNat / 128 : Nat) = h.mr.toNat := by omega
   have e31 : ((b8 (128 * h.mr + h.ty)).toNat % 128 : Nat) = h.ty.toNat := by omega
   rw [k1, k2, e6, k3, bq2 r3, bq4 q2, bq4 q3, bq2 r4, bq2 r5, bq2 r6, e30, e31, bq2 r12, bq4 r13, bq4 r14, show ((h.mr.toNat : Nat) : Int) = h.mr by omega, show ((h.ty.toNat : Nat) : Int) = h.ty by omega]
   obtain ⟨x1, x2, x3, x4, x5, x6, x7, x8, x9, x10, x11, x12, x13, x14, x15⟩ := h
   dsimp only at hk ⊢
   rw [hk]
theorem pars_bld {h : Hd} {p : List UInt8} (ho : h.ok = true) (hp : h.k = 2 ∨ p.length < 12) (hl : (qq h).length + p.length ≤ 1500) : qx (wc h p) = ((h, p), 0) := by
 obtain ⟨a, b, c, d, e, f, he⟩ := bldL_B h p
 obtain ⟨h1, h2⟩ := prs_B ho hp a b c d e f
 have h3 := bldL_len h p
 have h4 := qT h
 have h5 : 28 ≤ (qq h).length := by rw [h4]; split <;> omega
 rw [yZ _ (by omega) (by omega)]
 rw [← he] at h1 h2
 rw [h1, h2]
 have : zC h p = (wc h p, 0) := by unfold zC; rw [if_pos ho, if_pos hl]
 rw [if_pos this]
theorem pkt_bld {h : Hd} {p : List UInt8} (ho : h.ok = true) (hp : p.length ≤ 1000) : xZ h p = wc h p := by
 obtain ⟨hk, r1, r2, r3, r4, r5, r6, r7, r8, r9, r10, r11, r12, r13, r14⟩ := h.of ho
 obtain ⟨q1, q2, q3⟩ := hdrg ho
 have hN : pkN h p = (((qq h).length + p.length : Nat) : Int) := by
   unfold pkN
   rw [qT]
   split <;> (exact T.num)
 have hM : qc .sub .i64 (pkN h p) 20 = (((qq h).length + p.length : Nat) : Int) - 20 := by rw [hN]; have hb : (qq h).length ≤ 40 := (by rw [qT]; split <;> omega); (exact T.num)
 have hF : qc .mul .i64 64 h.fx = 64 * h.fx := by (exact T.num)
 have hT : qc .add .i64 (qc .mul .i64 128 h.mr) h.ty = 128 * h.mr + h.ty := by (exact T.num)
 generalize hX : (((qq h).length + p.length : Nat) : Int) = X at hN hM
 have h20 : xu h (pkN h p) = (wU h p).take 20 := by
   unfold xu wU
   rw [hN, hF, hX, vj]
   simp only [pt2, pt4]
   rw [set2_B, yQ]
   rfl
 unfold xZ
 rw [hM, h20]
 unfold wc
 generalize csR ((wU h p).take 20) = C
 unfold wU pkT
 rw [vj, hX, hT]
 simp only [pt2, pt4]
 rw [set2_B, yQ, set10_B]
 unfold pkF pkE
 split <;> (unfold st2; rfl)
theorem pars_pkt {h : Hd} {p : List UInt8} (ho : h.ok = true) (hp : h.k = 2 ∨ p.length < 12) (hl : p.length ≤ 1000) : qx (xZ h p) = ((h, p), 0) := by
 rw [pkt_bld ho hl]
 refine pars_bld ho hp ?_
 rw [qT]
 split <;> omega
open Go.RowKit
structure Fo (j : Int) (r h : Hd) : Prop where
 sm : qo r h = true
 ch : xo r h = 0
 id : h.id = (r.id + j) % 65536
 sq : r.k = 2 → h.sq = (r.sq + j) % 65536 ∧ h.tm = (r.tm + 160 * j) % 4294967296
 mr : h.mr = 0
theorem jw {a b : Hd} : xo a b = 0 ↔ a.tos = b.tos ∧ a.ttl = b.ttl ∧ a.fx = b.fx ∧ a.ty = b.ty ∧ decide (a.ck = 0) = decide (b.ck = 0) := by
 refine ⟨chg_of, fun ⟨h1, h2, h3, h4, h5⟩ => ?_⟩
 unfold xo
 rw [if_pos h1, if_pos h2, if_pos h3, if_pos h4, if_pos h5]
 rfl
theorem Fo.trans {i j : Int} {a b c : Hd} (h : Fo i a b) (k : Fo j b c) : Fo (i + j) a c := by
 obtain ⟨s1, s2, s3, s4, s5, s6⟩ := qC.1 h.sm
 refine ⟨zy h.sm k.sm, ?_, by rw [k.id, h.id]; omega, fun e => ?_, k.mr⟩
 · obtain ⟨c1, c2, c3, c4, c5⟩ := jw.1 h.ch
   obtain ⟨d1, d2, d3, d4, d5⟩ := jw.1 k.ch
   exact jw.2 ⟨c1.trans d1, c2.trans d2, c3.trans d3, c4.trans d4, c5.trans d5⟩
 · obtain ⟨q1, q2⟩ := h.sq e
   obtain ⟨p1, p2⟩ := k.sq (by omega)
   rw [p1, p2, q1, q2]
   refine ⟨by omega, by omega⟩
theorem fol_true (t : List Int) (a : Nat) (h : Hd) : xR t a h true = (foT 1 (foB t a (foI h 1)).1, (foB t a (foI h 1)).2) := rfl
theorem modE {x m : Int} (hx : 0 ≤ x) (hm : 0 < m) : z8 x m = x % m := by
 unfold z8
 have h1 : x.tmod m = x % m := Int.tmod_eq_emod_of_nonneg hx
 have h2 := Int.emod_nonneg x (show m ≠ 0 by omega)
 rw [if_neg (by omega), h1, if_neg (by omega)]
theorem fol_fo {t : List Int} {a : Nat} {h : Hd} (ho : h.ok = true) : Fo 1 h (xR t a h true).1 ∧ (xR t a h true).1.ok = true := by
 obtain ⟨hk, r1, r2, r3, r4, r5, r6, r7, r8, r9, r10, r11, r12, r13, r14⟩ := h.of ho
 have n1 := zb t a 65535 (by decide) (by decide)
 have ei : z8 (qc .add .i64 h.id 1) 65536 = (h.id + 1) % 65536 := by
   have e : qc .add .i64 h.id 1 = h.id + 1 := by (exact T.num)
   rw [e, modE (by omega) (by decide)]
 have eq : 0 ≤ h.sq → z8 (qc .add .i64 h.sq 1) 65536 = (h.sq + 1) % 65536 := fun _ => by
   have e : qc .add .i64 h.sq 1 = h.sq + 1 := by (exact T.num)
   rw [e, modE (by omega) (by decide)]
 have et : 0 ≤ h.tm → z8 (qc .add .i64 h.tm (qc .mul .i64 160 1)) 4294967296 = (h.tm + 160 * 1) % 4294967296 := fun _ => by
   have e : qc .add .i64 h.tm (qc .mul .i64 160 1) = h.tm + 160 := by (exact T.num)
   rw [e, modE (by omega) (by decide)]
   rfl
 obtain ⟨c, hc, hc2⟩ : ∃ c, (foB t a (foI h 1)).1 = { foI h 1 with ck := c } ∧ (0 ≤ c ∧ c ≤ 65535) ∧ decide (h.ck = 0) = decide (c = 0) := by
   unfold foB
   split
   · rename_i hne
     have hne : h.ck ≠ 0 := hne
     have e : qc .add .i64 1 (qm t a 65535) = 1 + qm t a 65535 := by (exact T.num)
     refine ⟨_, rfl, by rw [e]; omega, ?_⟩
     rw [e, decide_eq_false hne, decide_eq_false (by omega)]
   · exact ⟨h.ck, rfl, r6, rfl⟩
 rw [fol_true]
 dsimp only
 rw [hc]
 obtain ⟨q1, q2, q3⟩ := hdrg ho
 unfold foT foI
 dsimp only
 rw [ei]
 rcases hk with hk | hk
 · obtain ⟨u1, u2, u3, u4, u5⟩ := hdud ho hk
   rw [if_neg (by omega)]
   refine ⟨⟨qC.2 ⟨rfl, rfl, rfl, rfl, rfl, rfl⟩, jw.2 ⟨rfl, rfl, rfl, rfl, hc2.2⟩, rfl, fun e => by omega, u1⟩, ?_⟩
   unfold Hd.ok
   dsimp only
   rw [if_pos hk]
   simp only [jL, yM, Bool.and_eq_true, xe, decide_eq_true_eq]
   omega
 · rw [if_pos hk, eq r12.1, et r13.1]
   refine ⟨⟨qC.2 ⟨rfl, rfl, rfl, rfl, rfl, rfl⟩, jw.2 ⟨rfl, rfl, rfl, rfl, hc2.2⟩, rfl, fun _ => ⟨rfl, rfl⟩, rfl⟩, ?_⟩
   unfold Hd.ok
   dsimp only
   rw [if_neg (by omega), if_pos hk]
   simp only [jL, vU, Bool.and_eq_true, xe]
   omega
theorem pow16 : (2 : Int) ^ (16 : Int).toNat = 65536 := by decide
theorem pow32 : (2 : Int) ^ (32 : Int).toNat = 4294967296 := by decide
theorem yf (x : Int) : lw 16 x = x % 65536 := by unfold lw; rw [pow16]
theorem lw32 (x : Int) : lw 32 x = x % 4294967296 := by unfold lw; rw [pow32]
section
variable {j : Int} {r h : Hd}
theorem num_u (k : r.k = 1) : r.num = r.id % 65536 := by unfold Hd.num; rw [if_neg (by omega), yf]
theorem num_t (k : r.k = 2) : r.num = r.sq % 65536 := by unfold Hd.num; rw [if_pos k, yf]
theorem Fo.num (f : Fo j r h) (hr : r.ok = true) : h.num = (r.num + j) % 65536 ∧ (0 ≤ r.num ∧ r.num < 65536) := by
 obtain ⟨s1, -⟩ := qC.1 f.sm
 obtain ⟨hk, -⟩ := r.of hr
 rcases hk with hk | hk
 · rw [num_u hk, num_u (by omega), f.id]; omega
 · rw [num_t hk, num_t (by omega), (f.sq hk).1]; omega
theorem Fo.step (f : Fo j r h) (hr : r.ok = true) (h0 : 1 ≤ j) (h1 : j ≤ 8) : sg 16 r.num h.num = j := by
 obtain ⟨e, e2⟩ := f.num hr
 unfold sg
 rw [yf, e, pow16, show (2 : Int) ^ ((16 : Int) - 1).toNat = 32768 by decide, if_neg (by omega)]
 omega
theorem Fo.lsb (f : Fo j r h) (hr : r.ok = true) (h0 : 1 ≤ j) (h1 : j ≤ 8) {k : Int} (hk : k = 4 ∨ k = 8) : (j0 16 r.num && decide (lsbV 16 r.num k (lw k h.num) = h.num)) = true := by
 obtain ⟨e, e2⟩ := f.num hr
 have hv : j0 16 r.num = true := by unfold j0; rw [pow16]; exact decide_eq_true e2
 rw [hv, Bool.true_and, decide_eq_true_eq]
 unfold lsbV yd
 rw [e]
 generalize r.num = n at e2
 rcases hk with rfl | rfl
 · rw [yf, show (2 : Int) ^ ((4 : Int) - 3).toNat - 1 = 1 by decide]
   unfold lw
   rw [show (2 : Int) ^ (4 : Int).toNat = 16 by decide]
   omega
 · rw [yf, show (2 : Int) ^ ((8 : Int) - 3).toNat - 1 = 31 by decide]
   unfold lw
   rw [show (2 : Int) ^ (8 : Int).toNat = 256 by decide]
   omega
theorem pred_u {d : Dy} (hr : r.ok = true) (hd : d.ok = true) (k : r.k = 1) (n : Int) : jX d r n = { r with mr := 0, ck := 0, id := lw 16 n } := by unfold jX; rw [if_pos ⟨hr, hd⟩, if_pos k]
theorem pred_t {d : Dy} (hr : r.ok = true) (hd : d.ok = true) (k : r.k = 2) (n : Int) : jX d r n = { r with mr := 0, ck := 0, sq := lw 16 n, tm := lw 32 (r.tm + d.st * wu r n), id := lw 16 (r.id + d.fo * wu r n) } := by
 unfold jX; rw [if_pos ⟨hr, hd⟩, if_neg (by omega)]
theorem hd_eq {a b : Hd} (h1 : a.k = b.k) (h2 : a.tos = b.tos) (h3 : a.id = b.id) (h4 : a.fx = b.fx) (h5 : a.ttl = b.ttl) (h6 : a.fr = b.fr) (h7 : a.to = b.to) (h8 : a.fp = b.fp) (h9 : a.tp = b.tp) (h10 : a.ck = b.ck) (h11 : a.mr = b.mr) (h12 : a.ty = b.ty) (h13 : a.sq = b.sq) (h14 : a.tm = b.tm) (h15 : a.sr = b.sr) : a = b := by
 cases a; cases b
 simp only [Hd.mk.injEq]
 exact ⟨h1, h2, h3, h4, h5, h6, h7, h8, h9, h10, h11, h12, h13, h14, h15⟩
theorem Fo.tiny {s : Sn} (f : Fo j r h) (hr : r.ok = true) (ho : h.ok = true) (h0 : 1 ≤ j) (h1 : j ≤ 8) (hd : s.dy.ok = true) (hdy : r.k = 2 → s.dy = ⟨160, 1⟩) : zp s h 1 r = true := by
 obtain ⟨s1, s2, s3, s4, s5, s6⟩ := qC.1 f.sm
 obtain ⟨c1, c2, c3, c4, c5⟩ := jw.1 f.ch
 obtain ⟨hk, q1, q2, q3, q4, q5, q6, q7, q8, q9, q10, q11⟩ := h.of ho
 have hst := f.step hr h0 h1
 have hp : qS s h r = h := by
   unfold qS
   have hk' : r.k = 1 ∨ r.k = 2 := by omega
   rcases hk' with hk' | hk'
   · rw [pred_u hr hd hk']
     obtain ⟨u1, u2, u3, u4, u5⟩ := hdud ho (by omega)
     obtain ⟨w1, w2, w3, w4, w5⟩ := hdud hr hk'
     refine hd_eq s1 c1 ?_ c3 c2 s2 s3 s4 s5 rfl u1.symm c4 (by dsimp only; omega) (by dsimp only; omega) s6
     show lw 16 h.num = h.id
     rw [yf, num_u (by omega)]
     omega
   · rw [pred_t hr hd hk', hdy hk']
     unfold wu
     rw [hst]
     refine hd_eq s1 c1 ?_ c3 c2 s2 s3 s4 s5 rfl f.mr.symm c4 ?_ ?_ s6
     · show lw 16 (r.id + 1 * j) = h.id
       rw [yf, f.id]; omega
     · show lw 16 h.num = h.sq
       rw [yf, num_t (by omega)]; omega
     · show lw 32 (r.tm + 160 * j) = h.tm
       rw [lw32, (f.sq hk').2]
 unfold zp
 rw [f.ch, hp]
 simp
theorem Fo.not1 {s : Sn} (f : Fo j r h) (hr : r.ok = true) (h0 : 1 ≤ j) (h1 : j ≤ 8) (k : r.k = 2) (hd : s.dy = Dy.z) : zp s h 1 r = false := by
 obtain ⟨-, -, -, -, -, -, -, -, -, q9, q10, q11⟩ := r.of hr
 have hp : qS s h r ≠ h := fun e => by
   have e1 := congrArg Hd.tm e
   unfold qS at e1
   rw [pred_t hr (by rw [hd]; exact jJ) k, hd] at e1
   have e2 : lw 32 (r.tm + 0 * wu r h.num) = h.tm := e1
   rw [lw32, (f.sq k).2] at e2
   omega
 unfold zp
 rw [decide_eq_false (fun (e : (1 : Int) = 1 → qS s h r = h) => hp (e rfl))]
 simp
theorem Fo.not2 {s : Sn} (f : Fo j r h) (hr : r.ok = true) (h0 : 1 ≤ j) (h1 : j ≤ 8) (k : r.k = 2) (hd : s.dy = Dy.z) : zp s h 2 r = false := by
 obtain ⟨-, -, -, q3, -, -, -, -, -, q9, q10, q11⟩ := r.of hr
 have hk : h.k = 2 := by have := (qC.1 f.sm).1; omega
 have hp : ¬ (qS s h r).id = h.id := fun e1 => by
   unfold qS at e1
   rw [pred_t hr (by rw [hd]; exact jJ) k, hd] at e1
   have e2 : lw 16 (r.id + 0 * wu r h.num) = h.id := e1
   rw [yf, f.id] at e2
   omega
 unfold zp
 rw [decide_eq_false (fun (e : (2 : Int) = 2 ∧ h.k = 2 → (qS s h r).id = h.id) => hp (e ⟨rfl, hk⟩))]
 simp
theorem Fo.is3 {s : Sn} (f : Fo j r h) : zp s h 3 r = true := by
 unfold zp
 rw [f.ch]
 simp
theorem Fo.learn (f : Fo 1 r h) (hr : r.ok = true) (ho : h.ok = true) (k : r.k = 2) : qZ r h = ⟨160, 1⟩ := by
 obtain ⟨-, -, -, -, -, -, -, -, -, q9, q10, q11⟩ := r.of hr
 have hst := f.step hr (by decide) (by decide)
 have htm : sg 32 r.tm h.tm = 160 := by
   unfold sg
   rw [lw32, (f.sq k).2, pow32, show (2 : Int) ^ ((32 : Int) - 1).toNat = 2147483648 by decide, if_neg (by omega)]
   omega
 unfold qZ
 rw [if_pos ⟨hr, ho, k, f.sm⟩, hst, htm, if_pos (by decide), if_pos (by rw [yf, f.id])]
 rfl
end
open Go.RowKit
structure Ts (w n : Int) (s : Sn) (h : Hd) : Prop where
 act : s.act = true
 full : s.full = if n ≤ w then w - n else 0
 refr : s.refr = if h.k = 2 ∧ w + 3 < n ∧ n ≤ 2 * w + 3 then 2 * w + 3 - n else 0
 ser : s.ser = if h.k = 2 ∧ w + 3 < n ∧ n ≤ 2 * w + 3 then 2 * w + 3 - n else 0
 lng : s.lng = if h.k = 2 ∧ w ≤ n ∧ n ≤ w + 3 then n - w else 0
 dy : s.dy = if h.k = 2 ∧ w + 3 < n then ⟨160, 1⟩ else Dy.z
 sin : 0 ≤ s.sin
 len : (s.rf.length : Int) = min n w
 rf : ∀ (i : Nat) (r : Hd), s.rf[i]? = some r → r.ok = true ∧ Fo ((s.rf.length : Int) - i) r h
def tiF (w n : Int) (h : Hd) : Int := if n < w then 5 else if h.k = 2 ∧ n < w + 3 then 3 else if h.k = 2 ∧ n < 2 * w + 3 then 4 else 1
section
variable {w n : Int} {s : Sn} {h : Hd}
theorem Ts.last (t : Ts w n s h) (hw : 1 ≤ w) (hn : 1 ≤ n) : s.lst.ok = true ∧ Fo 1 s.lst h := by
 have hl := t.len
 have h0 : 0 < s.rf.length := by omega
 have hx := t.rf (s.rf.length - 1) s.lst (by
   unfold Sn.lst
   rw [List.getD_eq_getElem?_getD, List.getElem?_eq_getElem (by omega)]
   rfl)
 refine ⟨hx.1, ?_⟩
 have e : (s.rf.length : Int) - (s.rf.length - 1 : Nat) = 1 := by omega
 rw [← e]
 exact hx.2
theorem Ts.dok (t : Ts w n s h) : s.dy.ok = true := by
 rw [t.dy]
 split
 · unfold Dy.ok inR; decide
 · exact jJ
theorem Ts.mem (t : Ts w n s h) (hw : w ≤ 8) {r : Hd} (hr : r ∈ s.rf) : r.ok = true ∧ ∃ j, 1 ≤ j ∧ j ≤ 8 ∧ Fo j r h := by
 obtain ⟨i, hi, e⟩ := List.getElem_of_mem hr
 obtain ⟨h1, h2⟩ := t.rf i r (by rw [List.getElem?_eq_getElem hi, e])
 have := t.len
 exact ⟨h1, _, by omega, by omega, h2⟩
theorem Ts.fits (t : Ts w n s h) (hw : w ≤ 8) (ho : h.ok = true) {k : Int} (hk : k = 4 ∨ k = 8) : jc 16 (s.rf.map Hd.num) k h.num = true := by
 unfold jc
 have hv : j0 16 h.num = true := by
   have := v8 ho
   unfold j0
   rw [pow16]
   exact decide_eq_true (by omega)
 rw [hv, show jP 16 = true from rfl, decide_eq_true (show 3 ≤ k ∧ k ≤ 16 by omega), Bool.true_and, Bool.true_and, Bool.true_and, List.all_eq_true]
 intro x hx
 obtain ⟨r, hr, rfl⟩ := List.mem_map.1 hx
 obtain ⟨h1, j, h2, h3, h4⟩ := t.mem hw hr
 exact h4.lsb h1 h2 h3 hk
theorem Ts.poss1 (t : Ts w n s h) (hw : w ≤ 8) (ho : h.ok = true) (hd : h.k = 2 → s.dy = ⟨160, 1⟩) : qO s h 1 = true := by
 unfold qO
 rw [show wid 1 h.k 0 = 4 from rfl, t.fits hw ho (.inl rfl)]
 have : s.rf.all (zp s h 1) = true := List.all_eq_true.2 fun r hr => by
   obtain ⟨h1, j, h2, h3, h4⟩ := t.mem hw hr
   exact h4.tiny h1 ho h2 h3 t.dok (fun k => hd (by have := (qC.1 h4.sm).1; omega))
 rw [this]
 simp
theorem Ts.poss3 (t : Ts w n s h) (hw : 1 ≤ w) (hw8 : w ≤ 8) (hn : 1 ≤ n) (ho : h.ok = true) (hk : h.k = 2) (hd : s.dy = Dy.z) : qO s h 1 = false ∧ qO s h 2 = false ∧ qO s h 3 = true := by
 obtain ⟨hl, hf⟩ := t.last hw hn
 have hm : s.lst ∈ s.rf := mem_lst (by have := t.len; omega)
 have hk2 : s.lst.k = 2 := by have := (qC.1 hf.sm).1; omega
 have no : ∀ f, zp s h f s.lst = false → qO s h f = false := fun f e => by
   unfold qO
   have : s.rf.all (zp s h f) = false := by
     rw [List.all_eq_false]
     exact ⟨_, hm, by rw [e]; decide⟩
   rw [this]
   rfl
 refine ⟨no 1 (hf.not1 hl (by decide) (by decide) hk2 hd), no 2 (hf.not2 hl (by decide) (by decide) hk2 hd), ?_⟩
 unfold qO
 have ha : s.rf.all (zp s h 3) = true := List.all_eq_true.2 fun r hr => by
   obtain ⟨h1, j, h2, h3, h4⟩ := t.mem hw8 hr
   exact h4.is3
 rw [ha, show wid 3 h.k 0 = 8 by rw [hk]; rfl, t.fits hw8 ho (.inr rfl)]
 simp
theorem ctx_same (hA : csA w s h = (s, false)) (hD : csD s.lst s.act h (s, false) = s) : qX 2 w s h = csE w s.lst s.act h s := by
 unfold qX
 rw [hA]
 have hB : csB 2 w (s, false) = (s, false) := if_neg (by omega)
 have hC : csC 2 w s.rf.length (s, false) = (s, false) := if_neg (by omega)
 rw [hB, hC, hD]
theorem Ts.ctx (t : Ts w n s h) (hw : 1 ≤ w) (hw8 : w ≤ 8) (hn : 1 ≤ n) (ho : h.ok = true) : qX 2 w s h = (if h.k = 2 ∧ n = w + 3 then { s with lng := 0, refr := w, ser := w, dy := ⟨160, 1⟩ } else s, tiF w n h) := by
 obtain ⟨hl, hf⟩ := t.last hw hn
 have t1 := t.full
 have t2 := t.refr
 have t3 := t.ser
 have t4 := t.lng
 have t5 := t.len
 have t6 := t.dy
 have hk2 : s.lst.k = h.k := (qC.1 hf.sm).1
 obtain ⟨hk, -⟩ := h.of ho
 by_cases hc : h.k = 2 ∧ n = w + 3
 · obtain ⟨k, e⟩ := hc
   rw [if_pos ⟨k, e⟩]
   rw [if_neg (by omega)] at t1 t2 t3
   rw [if_pos (by omega)] at t4
   rw [if_neg (by omega)] at t6
   have hA : csA w s h = ({ s with lng := 0, refr := w }, true) := by
     unfold csA
     rw [if_neg (by rw [t.act]; decide), if_pos (.inr ⟨by omega, by rw [hf.learn hl ho (by omega), t6]; decide⟩), if_neg (by omega)]
   have hB : csB 2 w ({ s with lng := 0, refr := w }, true) = ({ s with lng := 0, refr := w }, true) := if_neg (by omega)
   have hC : csC 2 w s.rf.length ({ s with lng := 0, refr := w }, true) = ({ s with lng := 0, refr := w }, true) := if_neg (by omega)
   have hD : csD s.lst s.act h ({ s with lng := 0, refr := w }, true) = { s with lng := 0, refr := w, ser := w, dy := ⟨160, 1⟩ } := by
     unfold csD
     rw [if_pos (.inl rfl)]
     unfold we
     rw [t.act, if_pos rfl, hf.learn hl ho (by omega)]
     have : (s.rf.length : Int) = w := by omega
     dsimp only
     rw [this]
   unfold qX
   rw [hA, hB, hC, hD]
   unfold csE
   rw [if_neg (by dsimp only; omega), if_pos (by dsimp only; omega)]
   have : tiF w n h = 4 := by unfold tiF; rw [if_neg (by omega), if_neg (by omega), if_pos (by omega)]
   rw [this]
 · rw [if_neg hc]
   have hA : csA w s h = (s, false) := by
     unfold csA
     rw [if_neg (by rw [t.act]; decide), if_neg]
     rintro (e | ⟨e, -⟩)
     · exact e hf.ch
     · rw [t4] at e
       split at e
       · rename_i q; exact hc ⟨q.1, by omega⟩
       · omega
   have hD : csD s.lst s.act h (s, false) = s := by
     unfold csD
     rw [if_neg]
     rintro (e | ⟨e, e2⟩)
     · cases e
     · dsimp only at e e2
       rw [t3] at e
       rw [t1, t2] at e2
       rw [t5] at e
       (repeat' split at e) <;> (repeat' split at e2) <;> omega
   rw [ctx_same hA hD]
   unfold csE tiF
   by_cases h5 : n < w
   · rw [if_pos (by rw [t1, if_pos (by omega)]; omega), if_pos h5]
   · rw [if_neg (by rw [t1]; split <;> omega), if_neg h5]
     by_cases h4 : h.k = 2 ∧ w + 3 < n ∧ n < 2 * w + 3
     · rw [if_pos (by rw [t2, if_pos (by omega)]; omega), if_neg (by omega), if_pos (by omega)]
     · rw [if_neg (by rw [t2]; split <;> omega)]
       by_cases h3 : h.k = 2 ∧ n < w + 3
       · obtain ⟨p1, p2, p3⟩ := t.poss3 hw hw8 hn ho h3.1 (by rw [t6, if_neg (by omega)])
         rw [if_neg (by rw [p1]; decide), if_neg (by rw [p2]; decide), if_pos p3, if_pos h3]
       · have p1 := t.poss1 hw8 ho (fun k => by rw [t6, if_pos (by omega)])
         rw [if_pos p1, if_neg h3, if_neg (by omega)]
theorem rf_next {x : Sn} {f : Int} {m : Int} {h' : Hd} (hw : 1 ≤ w) (hm : m ≠ 3) (hl : (x.rf.length : Int) = min n w) (hn : 1 ≤ n) (hr : ∀ (i : Nat) (r : Hd), x.rf[i]? = some r → r.ok = true ∧ Fo ((x.rf.length : Int) - i) r h) (ho : h.ok = true) (hf : Fo 1 h h') :
   (((csF m w h x f).rf.length : Nat) : Int) = min (n + 1) w ∧ ∀ (i : Nat) (r : Hd), (csF m w h x f).rf[i]? = some r → r.ok = true ∧ Fo (((csF m w h x f).rf.length : Int) - i) r h' := by
 have hlen := csF_len (m := m) (h := h) (x := x) hw f
 have hrf := vt (m := m) (w := w) (h := h) (x := x) f
 have hle := cutN_le (m := m) (x := x) hw
 have hc : (ks m w x : Int) = if w < n + 1 then 1 else 0 := by
   unfold ks
   by_cases hn2 : w < n + 1
   · rw [if_pos hn2, if_pos ⟨hm, by omega⟩]; omega
   · rw [if_neg hn2, if_neg (fun k => by omega)]; rfl
 have hN : (((csF m w h x f).rf.length : Nat) : Int) = min (n + 1) w := by
   rw [hlen]
   split at hc <;> omega
 refine ⟨hN, fun i r hir => ?_⟩
 rw [hrf, List.getElem?_drop] at hir
 by_cases hi : ks m w x + i < x.rf.length
 · rw [List.getElem?_append_left hi] at hir
   obtain ⟨h1, h2⟩ := hr _ r hir
   refine ⟨h1, ?_⟩
   have e : ((csF m w h x f).rf.length : Int) - i = (x.rf.length : Int) - ((ks m w x + i : Nat) : Int) + 1 := by rw [hlen]; omega
   rw [e]
   exact h2.trans hf
 · rw [List.getElem?_append_right (by omega)] at hir
   have hi2 : ks m w x + i - x.rf.length = 0 := by
     have := (List.getElem?_eq_some_iff.1 hir).1
     simp at this
     omega
   rw [hi2] at hir
   obtain rfl : h = r := by simpa using hir
   refine ⟨ho, ?_⟩
   have e : ((csF m w h x f).rf.length : Int) - i = 1 := by rw [hlen]; omega
   rw [e]
   exact hf
theorem Ts.next {h' : Hd} (t : Ts w n s h) (hw : 1 ≤ w) (hw8 : w ≤ 8) (hn : 1 ≤ n) (ho : h.ok = true) (hf : Fo 1 h h') : (qX 2 w s h).2 = tiF w n h ∧ Ts w (n + 1) (csF 2 w h (qX 2 w s h).1 (qX 2 w s h).2) h' := by
 have hx := t.ctx hw hw8 hn ho
 refine ⟨by rw [hx], ?_⟩
 have hk : h'.k = h.k := ((qC.1 hf.sm).1).symm
 have hk12 := (h.of ho).1
 have t1 := t.full
 have t2 := t.refr
 have t3 := t.ser
 have t4 := t.lng
 have t5 := t.len
 have t6 := t.dy
 have t7 := t.sin
 rw [hx]
 by_cases hc : h.k = 2 ∧ n = w + 3
 · rw [if_pos hc]
   have hfm : tiF w n h = 4 := by unfold tiF; rw [if_neg (by omega), if_neg (by omega), if_pos (by omega)]
   rw [hfm]
   obtain ⟨h1, h2⟩ := rf_next (x := { s with lng := 0, refr := w, ser := w, dy := ⟨160, 1⟩ }) (f := 4) (m := 2) hw (by decide) t5 hn t.rf ho hf
   refine ⟨t.act, ?_, ?_, ?_, ?_, ?_, ?_, h1, h2⟩
   · show (if (2 : Int) ≠ 3 ∧ (4 : Int) = 5 then s.full - 1 else s.full) = _
     rw [if_neg (by omega), t1, if_neg (by omega), if_neg (by omega)]
   · show (if (2 : Int) ≠ 3 ∧ (4 : Int) = 4 then w - 1 else w) = _
     rw [if_pos (by decide), hk, if_pos (by omega)]; omega
   · show (if (2 : Int) ≠ 3 ∧ w < (s.rf.length : Int) + 1 then max 0 (w - ((s.rf.length : Int) + 1 - w)) else w) = _
     rw [if_pos ⟨by decide, by omega⟩, hk, if_pos (by omega)]; omega
   · show (if ((4 : Int) = 2 ∨ (4 : Int) = 3) ∧ h.k = 2 then min (0 + 1) 3 else 0) = _
     rw [if_neg (by omega), if_neg (by omega)]
   · show (⟨160, 1⟩ : Dy) = _
     rw [hk, if_pos (by omega)]
   · show 0 ≤ (if (4 : Int) = 5 then 0 else min (s.sin + 1) 32)
     rw [if_neg (by decide)]; omega
 · rw [if_neg hc]
   obtain ⟨f, hfm⟩ : ∃ f, tiF w n h = f := ⟨_, rfl⟩
   rw [hfm]
   obtain ⟨h1, h2⟩ := rf_next (x := s) (f := f) (m := 2) hw (by decide) t5 hn t.rf ho hf
   have hf2 := hfm
   unfold tiF at hf2
   refine ⟨t.act, ?_, ?_, ?_, ?_, ?_, ?_, h1, h2⟩
   · show (if (2 : Int) ≠ 3 ∧ f = 5 then s.full - 1 else s.full) = _
     rw [t1]
     (repeat' split at hf2) <;> (repeat' split) <;> omega
   · show (if (2 : Int) ≠ 3 ∧ f = 4 then s.refr - 1 else s.refr) = _
     rw [t2, hk]
     (repeat' split at hf2) <;> (repeat' split) <;> omega
   · show (if (2 : Int) ≠ 3 ∧ w < (s.rf.length : Int) + 1 then max 0 (s.ser - ((s.rf.length : Int) + 1 - w)) else s.ser) = _
     rw [t3, hk, t5]
     (repeat' split) <;> omega
   · show (if (f = 2 ∨ f = 3) ∧ h.k = 2 then min (s.lng + 1) 3 else 0) = _
     rw [t4, hk]
     (repeat' split at hf2) <;> (repeat' split) <;> omega
   · show s.dy = _
     rw [t6, hk]
     by_cases q : h.k = 2 ∧ w + 3 < n
     · rw [if_pos q, if_pos (by omega)]
     · rw [if_neg q, if_neg (by omega)]
   · show 0 ≤ (if f = 5 then 0 else min (s.sin + 1) 32)
     split <;> omega
theorem Ts.first {h' : Hd} (hw : 1 ≤ w) (hw8 : w ≤ 8) (ho : h.ok = true) (hf : Fo 1 h h') : (qX 2 w Sn.z h).2 = 5 ∧ Ts w 1 (csF 2 w h (qX 2 w Sn.z h).1 (qX 2 w Sn.z h).2) h' := by
 have hk : h'.k = h.k := ((qC.1 hf.sm).1).symm
 have hx : qX 2 w Sn.z h = ({ Sn.z with act := true, full := w }, 5) := by
   have hA : csA w Sn.z h = ({ Sn.z with act := true, full := w }, true) := if_pos rfl
   have hB : csB 2 w ({ Sn.z with act := true, full := w }, true) = ({ Sn.z with act := true, full := w }, true) := if_neg (by omega)
   have hC : csC 2 w Sn.z.rf.length ({ Sn.z with act := true, full := w }, true) = ({ Sn.z with act := true, full := w }, true) := if_neg (by omega)
   have hD : csD Sn.z.lst Sn.z.act h ({ Sn.z with act := true, full := w }, true) = { Sn.z with act := true, full := w } := by
     unfold csD
     rw [if_pos (.inl rfl)]
     rfl
   unfold qX
   rw [hA, hB, hC, hD]
   unfold csE
   rw [if_pos (by dsimp only; omega)]
 rw [hx]
 refine ⟨rfl, ?_⟩
 have hrf : (csF 2 w h { Sn.z with act := true, full := w } 5).rf = [h] := by
   rw [vt]
   have : ks 2 w { Sn.z with act := true, full := w } = 0 := by
     unfold ks
     rw [if_neg]
     rintro ⟨-, k⟩
     have : w < 0 + 1 := k
     omega
   rw [this]
   rfl
 refine ⟨rfl, ?_, ?_, ?_, ?_, ?_, ?_, ?_, ?_⟩
 · show (if (2 : Int) ≠ 3 ∧ (5 : Int) = 5 then w - 1 else w) = _
   rw [if_pos (by decide), if_pos (by omega)]
 · show (if (2 : Int) ≠ 3 ∧ (5 : Int) = 4 then (0 : Int) - 1 else 0) = _
   rw [if_neg (by omega), if_neg (by omega)]
 · show (if (2 : Int) ≠ 3 ∧ w < ((0 : Nat) : Int) + 1 then max 0 ((0 : Int) - (((0 : Nat) : Int) + 1 - w)) else 0) = _
   rw [if_neg (by omega), if_neg (by omega)]
 · show (if ((5 : Int) = 2 ∨ (5 : Int) = 3) ∧ h.k = 2 then min ((0 : Int) + 1) 3 else 0) = _
   rw [if_neg (by omega)]
   split <;> omega
 · show Dy.z = _
   rw [if_neg (by omega)]
 · show (0 : Int) ≤ 0
   omega
 · rw [hrf]
   show (1 : Int) = _
   omega
 · rw [hrf]
   intro i r hi
   cases i with
   | zero =>
     obtain rfl : h = r := by simpa using hi
     exact ⟨ho, by simpa using hf⟩
   | succ i => simp at hi
end
open Go.RowKit
structure Tc (w n : Int) (c : Co) (h : Hd) : Prop where
 ok : c.ok = true
 cm : c.m = 2
 cw : c.w = w
 oth : ∀ k, 1 ≤ k → k < 16 → (c.at k).act = false
 st : n = 0 ∧ c.at 0 = Sn.z ∨ 1 ≤ n ∧ Ts w n (c.at 0) h
theorem find_none {α : Type} {p : α → Bool} {l : List α} (h : ∀ x ∈ l, p x = false) : l.findIdx? p = none := List.findIdx?_eq_none_iff.2 h
theorem cx_cons {c : Co} (h : c.cx.length = 16) : ∃ l, c.cx = c.at 0 :: l := by
 cases hc : c.cx with
 | nil => rw [hc] at h; cases h
 | cons a l => exact ⟨l, by unfold Co.at; rw [hc]; rfl⟩
theorem at_mem {c : Co} {x : Sn} (hx : x ∈ c.cx) (hl : c.cx.length = 16) : ∃ k, k < 16 ∧ c.at k = x := by
 obtain ⟨i, hi, e⟩ := List.getElem_of_mem hx
 exact ⟨i, by omega, by unfold Co.at; rw [List.getD_eq_getElem?_getD, List.getElem?_eq_getElem hi, e]; rfl⟩
section
variable {w n : Int} {c : Co} {h : Hd}
theorem Tc.find (t : Tc w n c h) (hw : 1 ≤ w) : zu c.cx h = some 0 := by
 have hl := zK t.ok
 obtain ⟨l, e⟩ := cx_cons hl
 unfold zu ownI freeI
 rcases t.st with ⟨-, hz⟩ | ⟨hn, ts⟩
 · have hown : c.cx.findIdx? (fun s => s.act && qo s.fst h) = none := find_none fun x hx => by
     obtain ⟨k, hk, rfl⟩ := at_mem hx hl
     by_cases h0 : k = 0
     · rw [h0, hz]; rfl
     · rw [t.oth k (by omega) hk]; rfl
   rw [hown]
   dsimp only
   rw [e, hz, List.findIdx?_cons]
   rfl
 · have hs : qo (c.at 0).fst h = true := by
     have h1 := ts.len
     have h2 := ts.rf 0 (c.at 0).fst (by
       unfold Sn.fst
       rw [List.getD_eq_getElem?_getD, List.getElem?_eq_getElem (by omega)]
       rfl)
     exact h2.2.sm
   have : c.cx.findIdx? (fun s => s.act && qo s.fst h) = some 0 := by
     rw [e, List.findIdx?_cons, ts.act, hs]
     rfl
   rw [this]
theorem tiny_len {dy : Dy} {p : List UInt8} : (hdL (qK dy ((0 : Nat) : Int) 1 h p)).length = if h.ck ≠ 0 then 3 else 1 := by
 have e : qK dy ((0 : Nat) : Int) 1 h p = ⟨((0 : Nat) : Int), 1, lw 4 h.num, 0, 0, 0, h.ck, { Hd.z with k := h.k }, Dy.z, kP 1 h, p⟩ := rfl
 have h1 : preL (qK dy ((0 : Nat) : Int) 1 h p) = [] := pre_neg (by rw [e]; exact (show ¬ (0 : Int) < 0 by decide))
 have h2 : (qW (qK dy ((0 : Nat) : Int) 1 h p)).length = 1 := by rw [bL1 _ (by rw [e])]; rfl
 have h3 : xN (qK dy ((0 : Nat) : Int) 1 h p) = h.ck := by rw [e]; unfold xN; rw [if_neg (show ¬ ((1 : Int) = 4 ∨ (1 : Int) = 5) by decide)]
 unfold hdL
 rw [h1, h3, List.nil_append, List.length_append, h2]
 by_cases hc : h.ck = 0
 · rw [if_pos hc, if_neg (by omega)]; rfl
 · rw [if_neg hc, if_pos hc, putBlen]
theorem Tc.step {h' : Hd} {p : List UInt8} (t : Tc w n c h) (hw : 1 ≤ w) (hw8 : w ≤ 8) (ho : h.ok = true) (hf : Fo 1 h h') (hp : p.length < 12) : ∃ c' y f, qz c (xZ h p) = ((c', y), 0) ∧ Tc w (n + 1) c' h' ∧ jB y = (0, f, 0) ∧ (n = 0 → f = 5) ∧ (2 * w + 3 ≤ n → f = 1 ∧ (y.length : Int) = (if h.ck ≠ 0 then 3 else 1) + p.length) := by
 have hfi := t.find hw
 have hpar := pars_pkt ho (.inr hp) (by omega)
 have hl := zK t.ok
 have hsz := pkt_len h p
 have hcr : qz c (xZ h p) = (kX c 0 h p, 0) := by
   unfold qz
   rw [if_pos t.ok, if_neg (by rintro (k | k); (rw [k] at hsz; simp at hsz); omega), hpar, if_pos rfl, hfi]
   dsimp only
   rw [if_neg (by rw [t.cm]; rintro ⟨-, k, -⟩; exact absurd k (by decide))]
 have hx : (qX 2 w (c.at 0) h).2 = (if n = 0 then 5 else tiF w n h) ∧ Ts w (n + 1) (csF 2 w h (qX 2 w (c.at 0) h).1 (qX 2 w (c.at 0) h).2) h' := by
   rcases t.st with ⟨hn, hz⟩ | ⟨hn, ts⟩
   · subst hn
     rw [hz, if_pos rfl]
     exact Ts.first hw hw8 ho hf
   · rw [if_neg (by omega)]
     exact ts.next hw hw8 hn ho hf
 obtain ⟨hi, hs, hh, -⟩ := xS t.ok hfi
 have hm := vq (vB t.ok).2.2.1 hs hh
 rw [t.cm, t.cw] at hm
 have hPok := u7 (c := ((0 : Nat) : Int)) (pl := p) ho hm.1.dok hm.1.dz ⟨by omega, by omega⟩ hm.2.1 (by omega)
 have hpl := (partsR_f (dy := (qX 2 w (c.at 0) h).1.dy) (c := ((0 : Nat) : Int)) (h := h) (pl := p) hm.2.1)
 have hok' := comp_ok (pl := p) t.ok ho hfi
 have hC : kX c 0 h p = (c.set 0 (csF 2 w h (qX 2 w (c.at 0) h).1 (qX 2 w (c.at 0) h).2), hdL (qK (qX 2 w (c.at 0) h).1.dy ((0 : Nat) : Int) (qX 2 w (c.at 0) h).2 h p) ++ p) := by
   unfold kX
   rw [t.cm, t.cw, enc_ok hPok, hpl.2.2.1]
 have hat : ∀ k, (c.set 0 (csF 2 w h (qX 2 w (c.at 0) h).1 (qX 2 w (c.at 0) h).2)).at k = if k = 0 then csF 2 w h (qX 2 w (c.at 0) h).1 (qX 2 w (c.at 0) h).2 else c.at k := fun k => co_at hl (by decide)
 rw [hC] at hcr hok'
 refine ⟨_, _, (qX 2 w (c.at 0) h).2, hcr, ⟨hok', t.cm, t.cw, fun k h1 h2 => ?_, .inr ⟨?_, ?_⟩⟩, ?_, fun e => ?_, fun e => ?_⟩
 · rw [hat, if_neg (by omega)]; exact t.oth k h1 h2
 · rcases t.st with ⟨e, -⟩ | ⟨e, -⟩ <;> omega
 · rw [hat, if_pos rfl]; exact hx.2
 · have := ret_peek _ hPok p
   rw [hpl.1, hpl.2.1] at this
   exact this
 · rw [hx.1, if_pos e]
 · have e1 : (qX 2 w (c.at 0) h).2 = 1 := by
     rw [hx.1, if_neg (by omega)]
     unfold tiF
     rw [if_neg (by omega), if_neg (by omega), if_neg (by omega)]
   refine ⟨e1, ?_⟩
   rw [List.length_append, e1, tiny_len]
   split <;> omega
theorem Tc.new (hw : 1 ≤ w ∧ w ≤ 8) : Tc w 0 ⟨2, w, List.replicate 16 Sn.z⟩ h := by
 have hz : ∀ k, (⟨2, w, List.replicate 16 Sn.z⟩ : Co).at k = Sn.z := fun k => by
   unfold Co.at
   rw [List.getD_eq_getElem?_getD, List.getElem?_replicate]
   split <;> rfl
 refine ⟨vC.2 ⟨⟨(show (1 : Int) ≤ 2 by decide), (show (2 : Int) ≤ 3 by decide), hw.1, hw.2⟩, by simp, fun i hi => by rw [hz]; rfl, fun i k hk hi => by rw [hz]; rfl⟩, rfl, rfl, fun k _ _ => by rw [hz]; rfl, .inl ⟨rfl, hz 0⟩⟩
end
open Go.RowKit
theorem tiny_step {w i : Int} {c : Co} {h : Hd} {P : List UInt8} (t : List Int) (a : Nat) (HT : Tc w i c h) (hw : 1 ≤ w ∧ w ≤ 8) (ho : h.ok = true) (hP : P.length ≤ 3) : ∃ c' y f, LP Tryd.prog gm 17 [c.av, bv (xZ h P)] [] (fun _ => (.tup [Co.av c', bv y, iAV 0], [])) ∧ LP Tryd.prog gm 19 [bv y] [] (fun _ => (.tup [iAV 0, iAV f, iAV 0], [])) ∧ Tc w (i + 1) c' (xR t a h true).1 ∧ (xR t a h true).1.ok = true ∧ (i = 0 → f = 5) ∧
   (qc .add .i64 (qc .mul .i64 2 w) 3 ≤ i → f = 1) ∧ (qc .add .i64 (qc .mul .i64 2 w) 3 ≤ i → h.ck = 0 → (y.length : Int) = qc .add .i64 1 P.length) ∧ (qc .add .i64 (qc .mul .i64 2 w) 3 ≤ i → ¬ h.ck = 0 → (y.length : Int) = qc .add .i64 3 P.length) := by
 obtain ⟨hf, ho2⟩ := fol_fo (t := t) (a := a) ho
 obtain ⟨c', y, f, e1, e2, e3, e4, e5⟩ := HT.step hw.1 hw.2 ho hf (p := P) (by omega)
 have h1 := jK c (xZ h P)
 rw [e1] at h1
 have ew : qc .add .i64 (qc .mul .i64 2 w) 3 = 2 * w + 3 := by (exact T.num)
 have l1 : qc .add .i64 1 (P.length : Int) = 1 + P.length := by (exact T.num)
 have l3 : qc .add .i64 3 (P.length : Int) = 3 + P.length := by (exact T.num)
 rw [ew, l1, l3]
 exact ⟨c', y, f, h1, fpk e3, e2, ho2, e4, fun k => (e5 k).1, fun k q => by rw [(e5 k).2, if_neg (by simpa using q)], fun k q => by rw [(e5 k).2, if_pos q]⟩
theorem tc_cast {w : Int} {i : Nat} {c : Co} {h : Hd} (k : Tc w (i + 1) c h) : Tc w ((i + 1 : Nat) : Int) c h := by
 have e : ((i + 1 : Nat) : Int) = i + 1 := by omega
 rw [e]; exact k
attribute [local irreducible] Co.ok wF xZ xR
theorem EClw7_1 {p : Prop} (h : p := by (repeat' first | exact trivial | (refine And.intro ?_ ?_) | exact LB.nil | (with_reducible exact LB.refl) | (apply LB.cons; (repeat first | refine goH ?_ | apply LH.here | apply LH.next); refine And.intro ?_ ?_; (focus (try (first | (with_reducible rfl) | (refine congrArg (Pl.mk _) ?_; (first | rfl | (simp; done))) | rfl | (with_reducible refine congrArg (Pl.mk _) ?_))))) | (with_reducible assumption) | (exact tc_cast (by assumption)) | (show (_ : AV) = _; (first | (focus (apply Eq.trans; (conv => lhs; whnf); (conv => rhs; whnf); done)) | rfl | ((conv => lhs; whnf); first | rfl | (refine congrArg (AV.int _) ?_; (exact T.num)) | (refine congrArg AV.bool ?_; (exact T.num)) | (refine vwc ?_; first | (exact T.num) | (first | rfl | (simp; done))) | (refine qe ?_ ?_ <;> first | (exact T.num) | (first | rfl | (simp; done))) | (first | rfl | (simp; done))))) | ((with_reducible first | (show (_ : Int) ≤ _) | (show (_ : Int) < _) | (show (_ : Nat) ≤ _) | (show (_ : Nat) < _) | (show (_ : Int) = _) | (show (_ : Nat) = _)); (exact T.num)) | (first | rfl | (simp; done))); first | done | fail) : p := h
theorem tiny9_t (t : List Int) (width : Int) (ht : t.length ≤ 400) : LP Tryd.prog gm 4 [iv t, iAV width] [] (fun _ => (.bool true, [])) := by
 have hl := light_c (G := gm) t
 rw [decide_eq_true ht] at hl
 have m2 := ve width 8 (by decide) (by decide)
 obtain ⟨w, hw⟩ : ∃ w, qc .add .i64 1 (z8 width 8) = w := ⟨_, rfl⟩
 have hw2 : 1 ≤ w ∧ w ≤ 8 := by rw [← hw]; (exact T.num)
 have n4 := zb t 0 4 (by decide) (by decide)
 have hN := wo (G := gm) 2 w
 rw [yP ⟨by decide, by decide, hw2.1, hw2.2⟩] at hN
 have hH := fun p => dheader_c (G := gm) t (zc t 0) (qm t 0 4) ht p
 have hho := hdrR_ok t (zc t 0) (qm t 0 4) ⟨n4.1, by omega⟩
 generalize kM t (zc t 0) (qm t 0 4) = h0 at hH hho
 generalize hdrA t (zc t 0) (qm t 0 4) = a0 at hH
 have eN : qc .add .i64 (qc .mul .i64 2 w) 10 = 2 * w + 10 := by (exact T.num)
 have hT0 := Tc.new (h := h0) hw2
 refine goW [] Tryd.func4 rfl ?_
 conv => whnf
 repeat' ((first | ((with_reducible show AB (ql .neq f 5) _ _); refine AB.neqF (hf0 (by assumption)) ?_) | ((with_reducible show AB (ql .neq f 1) _ _); refine AB.neqF (hf1 (by assumption)) ?_) | ((with_reducible show AB (ql .neq (Nat.cast (List.length _)) _) _ _); first | refine AB.neqF (hf2 (by assumption) (by assumption)) ?_ | refine AB.neqF (hf3 (by assumption) (by assumption)) ?_) | (show LC _ _ 6 _ _ _; (try rw [hw]); refine LC.pure hN ?_) | (show LC _ _ 18 _ _ _; obtain ⟨Q, hQ⟩ : ∃ Q, zQ t (zc t a) (xd t a 3) = Q := ⟨_, rfl⟩; have hQl : Q.length ≤ 3 := (by rw [← hQ, bytesL_len]; have := zb t a (qc .add .i64 3 1) (by decide) (by decide); have e4 : qc .add .i64 3 1 = 4 := rfl; unfold xd; omega); rw [hQ]; obtain ⟨c', y, f, hcp, hpk, hT', ho', hf0, hf1, hf2, hf3⟩ := tiny_step (P := Q) t (adv t (zc t a) (xd t a 3)) (by assumption) hw2 (by assumption) hQl; refine LC.pure (yx hh Q (ok_k (by assumption)) (by omega)) ?_) | exact Nm.b 0 | (show LC _ _ _ _ _ _; first | refine LC.pure (hl) ?_ | refine LC.pure (wW) ?_ | refine LC.own (roll_c t) ?_ | (apply LC.upd (jF t _ _ ht _); (repeat first | refine goH ?_ | apply LH.here | apply LH.next); refine ⟨rfl, ?_⟩) | (apply LC.upd (hH _); (repeat first | refine goH ?_ | apply LH.here | apply LH.next); refine ⟨rfl, ?_⟩) | refine LC.pure (yy _ _) ?_ | (apply LC.upd (dbytes_c t a 3 (by decide) (by decide) ht _); (repeat first | refine goH ?_ | apply LH.here | apply LH.next); refine ⟨rfl, ?_⟩) | refine LC.pure (hcp) ?_ | refine LC.pure (hpk) ?_ | (apply LC.upd (follow_c t _ hh true ht _); (repeat first | refine goH ?_ | apply LH.here | apply LH.next); refine ⟨rfl, ?_⟩) | refine goE ?_) | refine T.s ?_ | ((first | apply goB | apply AB.dec | apply AB.gen) <;> intro h) | refine LQ.mk fun r => ?_ | (show SQ _ _ _ (.loop _) _ _ _; first | (apply goO tQ [] 8 (S := Nat × Co × Hd × Nat × Nm × Nm × Nm) [6] (fun (i, c, hh, a, d, ph, pc) => ⟨[(10, .int .i64 i), (9, .int .i64 0), (5, .ptr d 0), (7, .ptr ph 0), (8, .ptr pc 0)], [(d, zT t a), (ph, ⟨38, hh.cs⟩), (pc, ⟨24, [iAV c.m, iAV c.w, snv c.cx]⟩)], (i : Int) ≤ 2 * w + 10 ∧ Tc w i c hh ∧ hh.ok = true, (2 * w + 10 - i).toNat⟩) ((0, ⟨2, w, List.replicate 16 Sn.z⟩, h0, a0, _, _, _)) (by rfl); (focus (all_goals (try exact KA0F); done)); rintro ⟨i, c, hh, a, d, ph, pc⟩ ⟨hk, hk, hok⟩)) | (show SQ _ _ _ _ _ _ _; first | refine gX 12 [0, 3] [0, 1, 2, 3, 4, 5, 6, 7, 8, 9, 10, 11] [] ?_) | (show AtL 8 _ _ _ _ _ _ _ _ _; first | (apply AtL.mk' (id := 8) (S := Nat × Co × Hd × Nat × Nm × Nm × Nm) ((i + 1, c', (xR t (adv t (zc t a) (xd t a 3)) hh true).1, (xR t (adv t (zc t a) (xd t a 3)) hh true).2, _, _, _)); focus (refine T.a5 ?_ ?_ ?_ ?_ <;> exact EClw7_1))) | exact T.z | fail) <;> conv => whnf)
 all_goals (try dsimp only)
 all_goals first
   | ((show RL _ _ _; refine goR ?_); rfl)
   | trace_state
theorem tiny9_c (t : List Int) (width : Int) : LP Tryd.prog gm 4 [iv t, iAV width] [] (fun _ => (.bool true, [])) := by
 by_cases ht : t.length ≤ 400
 · exact tiny9_t t width ht
 · have hl := light_c (G := gm) t
   rw [decide_eq_false ht] at hl
   refine goW [] Tryd.func4 rfl ?_
   conv => whnf
   repeat' ((first | exact Nm.b 0 | (show LC _ _ _ _ _ _; first | refine LC.pure (hl) ?_ | refine LC.pure (wW) ?_ | refine goE ?_) | refine T.s ?_ | ((first | apply goB | apply AB.dec | apply AB.gen) <;> intro h <;> try (exfalso; omega)) | refine LQ.mk fun r => ?_ | (show SQ _ _ _ _ _ _ _; first | (refine goD tQ qf 12 [0, 3] [0, 1, 2, 3, 4, 5, 6, 7, 8, 9, 10, 11] [] (by kernel_rfl) ?_)) | exact T.z | fail) <;> conv => whnf)
   all_goals (try dsimp only)
   all_goals first | ((show RL _ _ _; refine goR ?_); rfl) | ((show RL _ _ _; refine goR ?_); simp; done) | (exfalso; simp_all; done) | trace_state
theorem cnew_sz (m w : Int) : (zO m w).1.cx.length ≤ 100000 ∧ ∀ i : Nat, i < (zO m w).1.cx.length → ((zO m w).1.cx.getD i Sn.z).rf.length ≤ 100000 := by
 unfold zO
 split
 · refine ⟨by simp, fun i hi => ?_⟩
   simp only [List.getD_eq_getElem?_getD, List.getElem?_replicate]
   split <;> decide
 · exact ⟨by decide, fun i hi => absurd hi (Nat.not_lt_zero _)⟩
theorem news9_c (m w : Int) (c : Co) : LP Tryd.prog gm 3 [iAV m, iAV w, c.av] [] (fun _ => (.bool true, [])) := by
 have h1 := cnew_sz m w
 have h2 := cnew_sz (z8 m 5) (z8 w 10)
 have n1 := wo (G := gm) m w
 have n2 := r9new_c (G := gm) m w
 have n3 := wo (G := gm) (z8 m 5) (z8 w 10)
 have n4 := r9new_c (G := gm) (z8 m 5) (z8 w 10)
 have s1 := vW (G := gm) (zO m w).1 h1.1 h1.2
 have s2 := vW (G := gm) (zO (z8 m 5) (z8 w 10)).1 h2.1 h2.2
 have hv := z9 (G := gm) c
 have hr := r9valid_c (G := gm) c
 clear h1 h2
 generalize zO m w = X at n1 n2 s1
 generalize zO (z8 m 5) (z8 w 10) = Y at n3 n4 s2
 generalize c.ok = B at hv hr
 obtain ⟨⟨xm, xw, xl⟩, e⟩ := X
 obtain ⟨⟨ym, yw, yl⟩, e'⟩ := Y
 cases B
 all_goals
   refine goW [] Tryd.func3 rfl ?_
   conv => whnf
   repeat' ((first | exact Nm.b 0 | (show LC _ _ _ _ _ _; first | refine LC.pure (wW) ?_ | refine LC.pure (yy _ _) ?_ | refine LC.pure (n1) ?_ | refine LC.pure (n2) ?_ | refine LC.pure (n3) ?_ | refine LC.pure (n4) ?_ | refine LC.pure (s1) ?_ | refine LC.pure (s2) ?_ | refine LC.pure (hv) ?_ | refine LC.pure (hr) ?_ | refine goE ?_) | refine T.s ?_ | ((first | apply goB | apply AB.dec | apply AB.gen) <;> intro h) | refine LQ.mk fun r => ?_ | (show SQ _ _ _ _ _ _ _; first | refine gX 7 [24, 23] [0, 1, 2, 3, 4, 5, 6, 7, 8, 9, 10, 11, 12, 13, 14, 15, 16, 17, 18, 19, 20, 21, 22, 24, 23, 25, 26, 27, 28] [] ?_) | exact T.z | fail) <;> conv => whnf)
   all_goals (try dsimp only)
   all_goals first | ((show RL _ _ _; refine goR ?_); rfl) | ((show RL _ _ _; refine goR ?_); simp; done) | (exfalso; simp_all; done) | trace_state
end Go.Proofs.YtbagbjacmakfhaaDoor
namespace Go.Proofs.YtbagbjacmakfhaaDoor
open Go.ChangeShapes Go.WideShapes Go.ChangeAt Go.RowKit
theorem LP.stmt {P : Program} {G : Nat → AV} {f : FuncId} {args : List AV} (h : LP P G f args [] (fun _ => (.bool true, []))) {W : World} {vs : Array Value} (hg : Glob G (fun _ => none) W) (hr : RdL (fun _ => none) W args vs) :
   Calls P f vs W fun e W' => e = .returned (.bool true) ∧ Below W.heap.size W W' := by
 unfold LP at h
 refine (h.2.2 (fun _ => none) W vs ⟨nofun, nofun, 0, fun _ _ => rfl⟩ hg (by simp) (by simp) hr).mono ?_
 rintro e W' ⟨v, q, rfl, -, -, hv, -, hs⟩
 have hv : Rd _ W' (.bool true) v := hv
 cases hv
 exact ⟨rfl, hs.os, hs.tape, hs.output, hs.size, fun k hk => (hs.old k hk rfl).2⟩
theorem RdL.nil0 {σ : qd} {W : World} : RdL σ W [] #[] := ⟨rfl, fun i hi => by simp at hi⟩
theorem RdL.cons0 {σ : qd} {W : World} {a : AV} {v : Value} {al : List AV} {vs : List Value} (h : Rd σ W a v) (hs : RdL σ W al vs.toArray) : RdL σ W (a :: al) (v :: vs).toArray :=
 ⟨by have := hs.1; simp at this ⊢; omega, fun i hi => by
   cases i with
   | zero => simpa using h
   | succ i =>
     have h2 := hs.2 i (by simp at hi; omega)
     simpa using h2⟩
theorem RdL.agg0 {σ : qd} {W : World} {al : List AV} {vs : List Value} (h : RdL σ W al vs.toArray) : Rd σ W (.agg al) (.agg vs.toArray) := .agg _ _ h.1 h.2
theorem je {α : Type} (p : Nat → α → Prop) : ∀ (n : Nat), (∀ i, i < n → ∃ x, p i x) → ∃ l : List α, l.length = n ∧ ∀ i x, l[i]? = some x → p i x
 | 0, _ => ⟨[], rfl, by simp⟩
 | n + 1, h => by
   obtain ⟨l, h1, h2⟩ := je p n fun i hi => h i (by omega)
   obtain ⟨x, hx⟩ := h n (by omega)
   refine ⟨l ++ [x], by simp [h1], fun i y hy => ?_⟩
   by_cases hi : i < l.length
   · rw [List.getElem?_append_left hi] at hy
     exact h2 i y hy
   · rw [List.getElem?_append_right (by omega)] at hy
     by_cases h0 : i - l.length = 0
     · rw [h0] at hy
       simp at hy
       subst hy
       have : i = n := by omega
       subst this
       exact hx
     · obtain ⟨k, hk⟩ := Nat.exists_eq_succ_of_ne_zero h0
       rw [hk] at hy
       simp at hy
section
variable {H : Type} {enc : TypeId × Value → H} {P : Program} {W : World} {base : Nat} {sp : Nat → Bool} {held : Bool} {b0 : Nat} {r : Reach}
theorem cell_row {α : Type} {A : α → AV} {u e : TypeId} (hu : P.underlying u = some (.slice e)) (hc : P.cellsOf e = 1) (he : ∀ (fuel : Nat) (c : Value) (y : DataW H × List MemPlace), DataW.trod enc P W base sp held fuel e [c] = some y → ∃ x, Rd (fun _ => none) W (A x) c)
   {c : Value} (hv : Cell.okWide P W r b0 u c) {fuel : Nat} {y : DataW H × List MemPlace} (h : DataW.trod enc P W base sp held fuel u [c] = some y) : ∃ l : List α, Rd (fun _ => none) W (.sl l.length (l.map A)) c := by
 rcases DataW.trod_slice hu h with ⟨h0, -⟩ | ⟨a, len, cap, elems, rest, n, -, h0, -, -, hl, hm, hlen, hel, -⟩
 · obtain rfl := (List.cons.inj h0).1
   exact ⟨[], .slnil⟩
 · obtain rfl := (List.cons.inj h0).1
   have hspot : a.spot = none := by
     simp only [Cell.okWide, hu, Cell.ok] at hv
     exact hv.2.2.2.1
   obtain ⟨b, off, spot⟩ := a
   simp only at hspot
   subst hspot
   have hadd : ∀ i, (⟨b, off, none⟩ : Addr).add i = ⟨b, off + i, none⟩ := fun i => by unfold Addr.add; split <;> simp_all
   obtain ⟨l, h1, h2⟩ := je (fun i x => ∃ v, W.cell? ⟨b, off + i, none⟩ = some v ∧ Rd (fun _ => none) W (A x) v) len (fun i hi => by
     have hE := hel i hi
     rw [List.getElem?_eq_getElem (by omega)] at hE
     obtain ⟨c1, hc1, hy1⟩ := Option.bind_eq_some_iff.1 hE
     obtain ⟨-, h4, h5⟩ := World.cells?_some hc1
     rw [hc] at h4 h5
     match c1, h4 with
     | [v], _ =>
       have h6 := h5 0 (by omega)
       rw [Nat.mul_one, hadd] at h6
       have e0 : (⟨b, off + i, none⟩ : Addr).add 0 = ⟨b, off + i, none⟩ := by simp [Addr.add]
       rw [e0] at h6
       obtain ⟨x, hx⟩ := he n v _ hy1
       exact ⟨x, v, by simpa using h6, hx⟩)
   refine ⟨l, ?_⟩
   rw [h1]
   have h3 : ∀ i (hi : i < l.length), ∃ v, W.cell? ⟨b, off + i, none⟩ = some v ∧ Rd (fun _ => none) W (A l[i]) v := fun i hi => h2 i l[i] (List.getElem?_eq_getElem hi)
   refine .sl len _ b off cap (fun i => (W.cell? ⟨b, off + i, none⟩).getD undef) (fun _ => rfl) hl hm (fun i hi => ?_) (fun i hi => ?_)
   · obtain ⟨v, k1, -⟩ := h3 i (by simpa using hi)
     rw [k1]; rfl
   · have hi' : i < l.length := by simpa using hi
     obtain ⟨v, k1, k2⟩ := h3 i hi'
     rw [k1]
     simpa [List.getD_eq_getElem?_getD, hi'] using k2
theorem cell_ints {u e : TypeId} (hu : P.underlying u = some (.slice e)) (he : P.underlying e = some (.int .i64)) (hc : P.cellsOf e = 1) {c : Value} (hv : Cell.okWide P W r b0 u c) {fuel : Nat} {y : DataW H × List MemPlace} (h : DataW.trod enc P W base sp held fuel u [c] = some y) : ∃ l : List Int, Rd (fun _ => none) W (iv l) c :=
 cell_row (A := iAV) hu hc (fun fuel c y h => by
   obtain ⟨n, h1, -, -⟩ := DataW.trod_int he h
   obtain rfl := (List.cons.inj h1).1
   exact ⟨n, .int _ _⟩) hv h
theorem xh {u : TypeId} (hu : P.underlying u = some (.int .i64)) {c : Value} {fuel : Nat} {y : DataW H × List MemPlace} (h : DataW.trod enc P W base sp held fuel u [c] = some y) : ∃ n : Int, Rd (fun _ => none) W (iAV n) c := by
 obtain ⟨n, h1, -, -⟩ := DataW.trod_int hu h
 obtain rfl := (List.cons.inj h1).1
 exact ⟨n, .int _ _⟩
theorem agg_cells {t : TypeId} {fs : Array Field} {ts : List TypeId} (ht : P.underlying t = some (.struct fs)) (hts : P.cellTypes P.depth t = some ts) (hn : P.cellsOf t = ts.length) {v : Value} (hv : Value.okWide P W r b0 t v) :
   ∃ cs : List Value, v = .agg cs.toArray ∧ cs.length = ts.length ∧ ∀ (i : Nat) (u : TypeId) (c : Value), ts[i]? = some u → cs[i]? = some c → Cell.okWide P W r b0 u c := by
 unfold Value.okWide at hv
 rw [ht] at hv
 obtain ⟨⟨cs⟩, rfl, h1, ts', h2, h3, h4⟩ := hv
 obtain rfl := Option.some.inj (hts.symm.trans h2)
 have h1 : cs.length = ts.length := by rw [← hn]; simpa using h1
 refine ⟨cs, rfl, h1, fun i u c hu hc => ?_⟩
 obtain ⟨u', k1, k2⟩ := h4 i c (by simpa using hc)
 have hi : i < ts.length := by rw [← h1]; exact (List.getElem?_eq_some_iff.1 hc).1
 rw [Nat.mod_eq_of_lt hi, hu] at k1
 obtain rfl := Option.some.inj k1
 exact k2
theorem kT {t : TypeId} {fs : Array Field} (ht : P.underlying t = some (.struct fs)) {fuel : Nat} {cs : List Value} {y : DataW H × List MemPlace} (h : DataW.trod enc P W base sp held fuel t cs = some y) :
   ∀ (i : Nat) (f : Field), fs[i]? = some f → ∃ n y', DataW.trod enc P W base sp held n f.type ((cs.drop f.offset).take (P.cellsOf f.type)) = some y' := by
 obtain ⟨xs, n, -, -, hl, hxl, hf⟩ := DataW.trod_struct ht h
 intro i f hfi
 have h1 := hf i f hfi
 have hi : i < xs.length := by rw [hxl]; exact (Array.getElem?_eq_some_iff.1 hfi).1
 rw [List.getElem?_eq_getElem hi] at h1
 exact ⟨n, _, h1⟩
theorem qP {t : TypeId} {fs : Array Field} (ht : P.underlying t = some (.struct fs)) {fuel : Nat} {cs : List Value} {y : DataW H × List MemPlace} (h : DataW.trod enc P W base sp held fuel t cs = some y) (i k : Nat) (f : Field) (hf : fs[i]? = some f) (hk : P.cellsOf f.type = k) (cs' : List Value) (hc : (cs.drop f.offset).take k = cs') :
   ∃ n y', DataW.trod enc P W base sp held n f.type cs' = some y' := by
 subst hk hc
 exact kT ht h i f hf
end
section
variable {H : Type} {enc : TypeId × Value → H} {P : Program} {W : World} {base : Nat} {sp : Nat → Bool} {held : Bool} {b0 : Nat} {r : Reach} {v : Value} {d : DataW H} {p : List MemPlace}
theorem arg_ints {u e : TypeId} (hu : P.underlying u = some (.slice e)) (he : P.underlying e = some (.int .i64)) (hc : P.cellsOf e = 1) (hv : Value.okWide P W r b0 u v) (h : DataW.Trod enc P W base sp held u v d p) : ∃ l : List Int, Rd (fun _ => none) W (iv l) v := by
 obtain ⟨a, len, cap, rfl⟩ := okWide_slice hu hv
 obtain ⟨fuel, hf⟩ := h
 have hv : Cell.okWide P W r b0 u (.slice a len cap) := by simpa only [Value.okWide, hu] using hv
 exact cell_ints hu he hc hv hf
theorem vE {u : TypeId} (hu : P.underlying u = some (.int .i64)) (hv : Value.okWide P W r b0 u v) (h : DataW.Trod enc P W base sp held u v d p) : ∃ n : Int, Rd (fun _ => none) W (iAV n) v := by
 obtain ⟨n, rfl, -⟩ := open_int hu hv h
 exact ⟨n, .int _ _⟩
end
open Go.ChangeShapes Go.WideShapes Go.ChangeAt Go.RowKit Go.MapKept
theorem gPoly : Tryd.prog.globalNamed "radiolink/check.polynomials" = some 0 := by kernel_rfl
theorem tPoly : (Tryd.prog.globals[0]?).map (·.type) = some 125 := by kernel_rfl
set_option maxRecDepth 100000 in
theorem key_int {v : Value} {y : Go.Lit} (h : keyOf Tryd.prog 3 v = some y) : ∃ m : Int, v = .int .i64 m ∧ y = .int .i64 m := by
 unfold keyOf mapKey at h
 rw [Tryd.underlying3] at h
 cases v with
 | int q m =>
   simp only at h
   split at h
   · rename_i hq
     obtain ⟨rfl, -⟩ := hq
     exact ⟨m, rfl, (Option.some.inj h).symm⟩
   · cases h
 | _ => cases h
set_option maxRecDepth 100000 in
theorem val_int {H : Type} {enc : TypeId × Value → H} {W : World} {n : Nat} {v : Value} {z : DataW H × List MemPlace} (h : WideElems.elemAt enc Tryd.prog W 0 (fun _ => true) false n 3 v = some z) : ∃ m : Int, v = .int .i64 m ∧ z.1 = .lit (.int .i64 m) := by
 unfold WideElems.elemAt at h
 split at h
 · rename_i hf
   obtain ⟨d, p⟩ := z
   obtain ⟨i, h2, h3, -⟩ := DataW.trod_int Tryd.underlying3 h
   refine ⟨i, ?_, congrArg Prod.fst h3⟩
   cases v with
   | agg cs =>
     unfold Value.formed at hf
     rw [Tryd.underlying3] at hf
     cases hf
   | int q m =>
     have h4 : [Value.int q m] = [.int .i64 i] := h2
     injection h4
   | _ => cases h2
 · cases h
theorem poly_in {n v : Int} : j7 n = some v ↔ (n, v) ∈ [((3 : Int), (3 : Int)), (7, 9), (8, 7), (16, 4129), (24, 8801531)] := by
 unfold j7
 simp only [List.mem_cons, Prod.mk.injEq, List.not_mem_nil, or_false]
 constructor
 · intro h
   (repeat' split at h) <;> first | (cases h; omega) | cases h
 · intro h
   rcases h with ⟨rfl, rfl⟩ | ⟨rfl, rfl⟩ | ⟨rfl, rfl⟩ | ⟨rfl, rfl⟩ | ⟨rfl, rfl⟩ <;> rfl
set_option maxRecDepth 100000 in
theorem u0 {W : World} (h : laidMetH Tryd.prog [("radiolink/check.polynomials", Rows.laid_radiolink_check_polynomials)] W) : Glob gm (fun _ => none) W := by
 rw [MakeChecks.laidMetH_plain _ _ _ (by kernel_rfl)] at h
 obtain ⟨ps, ⟨g0, t0, cs0, f0, p0, q0, hg0, ht0, hv0, hd0, -, -⟩, -, -⟩ := h
 obtain rfl := Option.some.inj (gPoly.symm.trans hg0)
 obtain rfl := Option.some.inj (tPoly.symm.trans ht0)
 rcases WideElems.open_map Tryd.underlying125 hd0 with ⟨h1, h2⟩ | ⟨b, es, clock, n, rfl, hcs, hb, -, hF, hx⟩
 · cases h2
 · have hx1 := (congrArg Prod.fst hx)
   have hx2 : ([(.int .i64 3, .lit (.int .i64 3)), (.int .i64 7, .lit (.int .i64 9)), (.int .i64 8, .lit (.int .i64 7)), (.int .i64 16, .lit (.int .i64 4129)), (.int .i64 24, .lit (.int .i64 8801531))] : List (Go.Lit × DataW Unit)) = _ := DataW.map.inj hx1
   have hperm := sorted_perm (es.toList.map (WideElems.rg Tryd.prog 3 (WideElems.elemAt (fun _ => ()) Tryd.prog W 0 (fun _ => true) false n 3)))
   rw [← hx2] at hperm
   have key : ∀ x ∈ es.toList, ∃ m z, x.key = .int .i64 m ∧ x.val = .int .i64 z ∧ WideElems.rg Tryd.prog 3 (WideElems.elemAt (fun _ => ()) Tryd.prog W 0 (fun _ => true) false n 3) x = (.int .i64 m, .lit (.int .i64 z)) := fun x hxm => by
     obtain ⟨y, hy⟩ := hF.reads x hxm
     obtain ⟨m, k1, k2⟩ := key_int (WideElems.rd_key hy)
     obtain ⟨u, k3, k4⟩ := WideElems.rd_val hy
     obtain ⟨z, k5, k6⟩ := val_int k3
     refine ⟨m, z, k1, k5, ?_⟩
     rw [WideElems.rg_of hy]
     exact Prod.ext k2 (k4.trans k6)
   have in1 : ∀ x ∈ es.toList, ∀ m z, x.key = .int .i64 m → x.val = .int .i64 z → j7 m = some z := fun x hxm m z e1 e2 => by
     obtain ⟨m', z', k1, k2, k3⟩ := key x hxm
     rw [k1] at e1; rw [k2] at e2
     cases e1; cases e2
     have : ((Go.Lit.int .i64 m, DataW.lit (Go.Lit.int .i64 z)) : Go.Lit × DataW Unit) ∈ es.toList.map (WideElems.rg Tryd.prog 3 (WideElems.elemAt (fun _ => ()) Tryd.prog W 0 (fun _ => true) false n 3)) := List.mem_map.2 ⟨x, hxm, k3⟩
     have := hperm.mem_iff.2 this
     rw [poly_in]
     simp only [List.mem_cons, Prod.mk.injEq, Go.Lit.int.injEq, DataW.lit.injEq, List.not_mem_nil, or_false, true_and] at this ⊢
     exact this
   have in2 : ∀ m z, j7 m = some z → ∃ x ∈ es.toList, x.key = .int .i64 m := fun m z e => by
     have h3 : ((Go.Lit.int .i64 m, DataW.lit (Go.Lit.int .i64 z)) : Go.Lit × DataW Unit) ∈ ([(.int .i64 3, .lit (.int .i64 3)), (.int .i64 7, .lit (.int .i64 9)), (.int .i64 8, .lit (.int .i64 7)), (.int .i64 16, .lit (.int .i64 4129)), (.int .i64 24, .lit (.int .i64 8801531))] : List (Go.Lit × DataW Unit)) := by
       rw [poly_in] at e
       simp only [List.mem_cons, Prod.mk.injEq, Go.Lit.int.injEq, DataW.lit.injEq, List.not_mem_nil, or_false, true_and] at e ⊢
       exact e
     obtain ⟨x, hxm, k⟩ := List.mem_map.1 (hperm.mem_iff.1 h3)
     obtain ⟨m', z', k1, k2, k3⟩ := key x hxm
     rw [k3] at k
     refine ⟨x, hxm, ?_⟩
     rw [k1]
     have := congrArg Prod.fst k
     cases this
     rfl
   intro g
   by_cases hg : g = 0
   · subst hg
     show Rd _ W (.ip [.mp j7]) _
     refine .ip _ _ 0 (fun _ => .map (some b)) (fun _ => rfl) (fun i hi => ?_) (fun i hi => ?_)
     · obtain rfl : i = 0 := by have : i < 1 := hi; omega
       have h2 := World.var?_cell hg0 hv0 0
       rw [Nat.zero_add]
       rw [h2]
       have h5 := congrArg (·[0]?) hcs
       simpa using h5
     · obtain rfl : i = 0 := by have : i < 1 := hi; omega
       refine .mp j7 b es clock rfl hb fun m => ?_
       rcases findNow_spec (d := .int .i64) (k := .int .i64 m) rfl es.toList 0 (fun x hxm => by obtain ⟨m', z', k1, -, -⟩ := key x hxm; rw [k1]; rfl) with ⟨h1, h2⟩ | ⟨j, e, h1, h2, h3⟩
       · refine .inr ⟨?_, h1⟩
         cases hp : j7 m with
         | none => rfl
         | some z =>
           obtain ⟨x, hxm, k⟩ := in2 m z hp
           exact absurd k (h2 x hxm)
       · have hem : e ∈ es.toList := List.mem_of_getElem? h2
         obtain ⟨m', z', k1, k2, -⟩ := key e hem
         refine .inl ⟨0 + j, z', in1 e hem m z' h3 k2, ?_⟩
         rw [h1, k2]
   · have : gm g = .any := by
       unfold gm
       split
       · rename_i hb
         exact absurd (Nat.eq_of_beq_eq_true hb) hg
       · rfl
     rw [this]
     exact .any _
theorem door_met (os : Os) (args : Array Value) : laidMetH Tryd.prog [("radiolink/check.polynomials", Rows.laid_radiolink_check_polynomials)] ((World.doorLaid Tryd.prog 400 os).forCall (fun _ _ => 0) ⟨#[], args, []⟩).memory :=
 laidMetH_of_parts3 (fuel := 8) (laidMet_of_run' 8 (by kernel_rfl) (by kernel_rfl)) (by kernel_rfl) (by kernel_rfl)
open Go.ChangeShapes Go.WideShapes Go.ChangeAt Go.RowKit
def sum2 : List (TypeId × Nat) → Nat
 | [] => 0
 | x :: l => x.2 + sum2 l
def offs : List (TypeId × Nat) → Nat → List (TypeId × Nat)
 | [], _ => []
 | x :: l, o => (x.1, o) :: offs l (o + x.2)
section
variable {H : Type} {enc : TypeId × Value → H} {P : Program} {W : World} {base : Nat} {sp : Nat → Bool} {held : Bool} {b0 : Nat} {r : Reach}
def IntT (enc : TypeId × Value → H) (P : Program) (W : World) (base : Nat) (sp : Nat → Bool) (held : Bool) (x : TypeId × Nat) : Prop :=
 P.cellsOf x.1 = x.2 ∧ ∀ (fuel : Nat) (cs : List Value) (y : DataW H × List MemPlace), DataW.trod enc P W base sp held fuel x.1 cs = some y → ∃ ns : List Int, ns.length = x.2 ∧ cs = ns.map fun z => Value.int .i64 z
theorem IntT.int {t : TypeId} (hu : P.underlying t = some (.int .i64)) (hc : P.cellsOf t = 1) : IntT enc P W base sp held (t, 1) := by
 refine ⟨hc, fun fuel cs y h => ?_⟩
 obtain ⟨n, h1, -, -⟩ := DataW.trod_int hu h
 exact ⟨[n], rfl, h1⟩
theorem IntT.fields {t : TypeId} {fs : Array Field} (ht : P.underlying t = some (.struct fs)) {fuel : Nat} {cs : List Value} {y : DataW H × List MemPlace} (h : DataW.trod enc P W base sp held fuel t cs = some y) : ∀ (L : List (TypeId × Nat)) (i o : Nat),
   (∀ x ∈ L, IntT enc P W base sp held x) → (fs.toList.drop i).map (fun f => (f.type, f.offset)) = offs L o → o + sum2 L = cs.length → ∃ ns : List Int, ns.length = sum2 L ∧ cs.drop o = ns.map fun z => Value.int .i64 z
 | [], i, o, _, _, hs => ⟨[], rfl, by rw [List.drop_eq_nil_of_le (by simp [sum2] at hs; omega)]; rfl⟩
 | x :: L, i, o, hx, hf, hs => by
   have h0 : fs[i]? = (fs.toList.drop i)[0]? := by simp
   cases hd : fs.toList.drop i with
   | nil => rw [hd] at hf; cases hf
   | cons f l =>
     rw [hd] at hf h0
     simp only [offs, List.map_cons, List.cons.injEq, Prod.mk.injEq] at hf
     obtain ⟨⟨h1, h2⟩, h3⟩ := hf
     obtain ⟨n, y', h4⟩ := kT ht h i f (by rw [h0]; rfl)
     obtain ⟨k2, k1⟩ := hx x (List.mem_cons_self ..)
     rw [h1, h2, k2] at h4
     obtain ⟨ns, h5, h6⟩ := k1 n _ _ h4
     obtain ⟨ms, h7, h8⟩ := IntT.fields ht h L (i + 1) (o + x.2) (fun z hz => hx z (List.mem_cons_of_mem _ hz)) (by
       have e : fs.toList.drop (i + 1) = l := by rw [← List.drop_drop, hd]; rfl
       rw [e, h3]) (by rw [← hs]; show _ = o + (x.2 + sum2 L); omega)
     refine ⟨ns ++ ms, by rw [List.length_append, h5, h7]; rfl, ?_⟩
     rw [List.map_append, ← h6, ← h8, ← List.drop_drop, List.take_append_drop]
theorem IntT.struct {t : TypeId} {n : Nat} {fs : Array Field} (ht : P.underlying t = some (.struct fs)) (hc : P.cellsOf t = n) (L : List (TypeId × Nat)) (hx : ∀ x ∈ L, IntT enc P W base sp held x) (hf : fs.toList.map (fun f => (f.type, f.offset)) = offs L 0) (hn : sum2 L = n) : IntT enc P W base sp held (t, n) := by
 refine ⟨hc, fun fuel cs y h => ?_⟩
 obtain ⟨xs, m, -, -, hl, -, -⟩ := DataW.trod_struct ht h
 obtain ⟨ns, h1, h2⟩ := IntT.fields ht h L 0 0 hx hf (by rw [hl, hc, hn, Nat.zero_add])
 exact ⟨ns, by rw [h1]; exact hn, h2⟩
theorem RdL.ints {ns : List Int} : RdL (fun _ => none) W (ns.map iAV) (ns.map fun z => Value.int .i64 z).toArray := by
 refine ⟨by simp, fun i hi => ?_⟩
 have hi' : i < ns.length := by simpa using hi
 have e1 : (ns.map iAV).getD i .any = iAV ns[i] := by rw [List.getD_eq_getElem?_getD, List.getElem?_map, List.getElem?_eq_getElem hi']; rfl
 have e2 : ((ns.map fun z => Value.int .i64 z).toArray).getD i undef = .int .i64 ns[i] := by simp [Array.getD, hi']
 rw [e1, e2]
 exact .int _ _
theorem fm_get {α : Type} {A : α → List AV} {n : Nat} (hA : ∀ x, (A x).length = n) : ∀ (l : List α) (i j : Nat) (x : α), l[i]? = some x → j < n → (l.flatMap A)[i * n + j]? = (A x)[j]?
 | [], i, j, x, h, _ => by simp at h
 | y :: l, i, j, x, h, hj => by
   rw [List.flatMap_cons]
   cases i with
   | zero =>
     obtain rfl : y = x := by simpa using h
     rw [Nat.zero_mul, Nat.zero_add, List.getElem?_append_left (by rw [hA]; exact hj)]
   | succ i =>
     rw [List.getElem?_append_right (by rw [hA, Nat.add_mul]; omega), hA, show (i + 1) * n + j - n = i * n + j by rw [Nat.add_mul]; omega]
     exact fm_get hA l i j x (by simpa using h) hj
theorem vV {α : Type} {A : α → List AV} {n : Nat} (hn : 0 < n) (hA : ∀ x, (A x).length = n) {u e : TypeId} (hu : P.underlying u = some (.slice e)) (hc : P.cellsOf e = n) (he : ∀ (fuel : Nat) (cs : List Value) (y : DataW H × List MemPlace), DataW.trod enc P W base sp held fuel e cs = some y → ∃ x, RdL (fun _ => none) W (A x) cs.toArray)
   {c : Value} {fuel : Nat} {y : DataW H × List MemPlace} (h : DataW.trod enc P W base sp held fuel u [c] = some y) : ∃ l : List α, Rd (fun _ => none) W (.sl l.length (l.flatMap A)) c := by
 rcases DataW.trod_slice hu h with ⟨h0, -⟩ | ⟨a, len, cap, elems, rest, m, -, h0, -, -, hl, hm, hlen, hel, -⟩
 · obtain rfl := (List.cons.inj h0).1
   exact ⟨[], .slnil⟩
 · obtain rfl := (List.cons.inj h0).1
   by_cases hz : len = 0
   · subst hz
     exact ⟨[], .sle a cap hm⟩
   obtain ⟨b, off, spot⟩ := a
   have hspot : spot = none := by
     have hE := hel 0 (by omega)
     rw [List.getElem?_eq_getElem (by omega)] at hE
     obtain ⟨c1, hc1, -⟩ := Option.bind_eq_some_iff.1 hE
     obtain ⟨-, h4, h5⟩ := World.cells?_some hc1
     rw [hc] at h4 h5
     have h6 := h5 0 hn
     rw [List.getElem?_eq_getElem (by omega)] at h6
     have h7 := World.cell?_spot h6
     simpa [Addr.add] using h7
   subst hspot
   have hadd : ∀ o i, (⟨b, o, none⟩ : Addr).add i = ⟨b, o + i, none⟩ := fun o i => by unfold Addr.add; split <;> simp_all
   obtain ⟨l, h1, h2⟩ := je (fun i x => ∀ j, j < n → ∃ v, W.cell? ⟨b, off + (i * n + j), none⟩ = some v ∧ Rd (fun _ => none) W ((A x).getD j .any) v) len (fun i hi => by
     have hE := hel i hi
     rw [List.getElem?_eq_getElem (by omega)] at hE
     obtain ⟨c1, hc1, hy1⟩ := Option.bind_eq_some_iff.1 hE
     obtain ⟨-, h4, h5⟩ := World.cells?_some hc1
     rw [hc] at h4 h5
     obtain ⟨x, hx⟩ := he m c1 _ hy1
     refine ⟨x, fun j hj => ⟨c1.toArray.getD j undef, ?_, hx.2 j (by rw [hA]; exact hj)⟩⟩
     have h6 := h5 j hj
     rw [hadd, hadd, Nat.add_assoc] at h6
     rw [h6, List.getElem?_eq_getElem (by omega)]
     simp [Array.getD, h4, hj])
   refine ⟨l, ?_⟩
   have key : ∀ k, k < (l.flatMap A).length → ∃ v, W.cell? ⟨b, off + k, none⟩ = some v ∧ Rd (fun _ => none) W ((l.flatMap A).getD k .any) v := fun k hk => by
     rw [qJ hA] at hk
     have hi : k / n < l.length := Nat.div_lt_of_lt_mul (by rw [Nat.mul_comm]; exact hk)
     obtain ⟨v, k1, k2⟩ := h2 (k / n) _ (List.getElem?_eq_getElem hi) (k % n) (Nat.mod_lt _ hn)
     have e : k / n * n + k % n = k := by rw [Nat.mul_comm]; exact Nat.div_add_mod k n
     have h7 := fm_get hA l (k / n) (k % n) _ (List.getElem?_eq_getElem hi) (Nat.mod_lt _ hn)
     rw [e] at k1 h7
     refine ⟨v, k1, ?_⟩
     rw [List.getD_eq_getElem?_getD, h7, ← List.getD_eq_getElem?_getD]
     exact k2
   rw [h1]
   refine .sl len _ b off cap (fun k => (W.cell? ⟨b, off + k, none⟩).getD undef) (fun _ => rfl) hl hm (fun k hk => ?_) (fun k hk => ?_)
   · obtain ⟨v, k1, -⟩ := key k hk
     rw [k1]; rfl
   · obtain ⟨v, k1, k2⟩ := key k hk
     rw [k1]
     exact k2
theorem IntT.rdl {t : TypeId} {n : Nat} (h : IntT enc P W base sp held (t, n)) {α : Type} {A : α → List AV} (hA : ∀ ns : List Int, ns.length = n → ∃ x, A x = ns.map iAV) {fuel : Nat} {cs : List Value} {y : DataW H × List MemPlace} (hc : DataW.trod enc P W base sp held fuel t cs = some y) : ∃ x, RdL (fun _ => none) W (A x) cs.toArray := by
 obtain ⟨ns, h1, rfl⟩ := h.2 fuel cs y hc
 obtain ⟨x, hx⟩ := hA ns h1
 exact ⟨x, by rw [hx]; exact RdL.ints⟩
end
section
variable {H : Type} {enc : TypeId × Value → H} {W : World} {base : Nat} {sp : Nat → Bool} {held : Bool}
theorem intT_int : IntT enc Tryd.prog W base sp held (3, 1) := .int Tryd.underlying3 (by kernel_rfl)
theorem intT_hdr : IntT enc Tryd.prog W base sp held (38, 15) := .struct Tryd.underlying38 (by kernel_rfl) (List.replicate 15 (3, 1)) (fun x hx => by obtain rfl := List.eq_of_mem_replicate hx; exact intT_int) rfl rfl
theorem intT_dyn : IntT enc Tryd.prog W base sp held (52, 2) := .struct Tryd.underlying52 (by kernel_rfl) (List.replicate 2 (3, 1)) (fun x hx => by obtain rfl := List.eq_of_mem_replicate hx; exact intT_int) rfl rfl
end
end Go.Proofs.YtbagbjacmakfhaaDoor
