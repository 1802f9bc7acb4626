/-
  Contracts of the functions that the laws reach.
-/
import Derived.Test.YtbagbjacmakfhaaDoorCr01
import Derived.Test.YtbagbjacmakfhaaDoorCr02
import Derived.Test.YtbagbjacmakfhaaDoorCr03
import Derived.Test.YtbagbjacmakfhaaDoorCr04
import Derived.Test.YtbagbjacmakfhaaDoorCr05
import Derived.Test.YtbagbjacmakfhaaDoorCr06
import Derived.Test.YtbagbjacmakfhaaDoorCr07
import Derived.Test.YtbagbjacmakfhaaDoorCr08
import Derived.Test.YtbagbjacmakfhaaDoorCr09
import Derived.Test.YtbagbjacmakfhaaDoorCr10
import Derived.Test.YtbagbjacmakfhaaDoorCr11
import Derived.Test.YtbagbjacmakfhaaDoorCr12
import Derived.Test.YtbagbjacmakfhaaDoorCr13
import Derived.Test.YtbagbjacmakfhaaDoorCr14
import Derived.Test.YtbagbjacmakfhaaDoorCr15
import Derived.Test.YtbagbjacmakfhaaDoorCr16
set_option maxHeartbeats 8000000
set_option linter.all false
namespace Go.Proofs.YtbagbjacmakfhaaDoor
open Go.RowKit
variable {G : Nat → AV}
theorem shapR_f {m w : Int} (h : ¬ (1 ≤ m ∧ m ≤ 3 ∧ 1 ≤ w ∧ w ≤ 8)) : zO m w = (Co.z, 3) := by
 unfold zO
 rw [if_neg]
 unfold zj
 simpa using h
theorem yP {m w : Int} (h : 1 ≤ m ∧ m ≤ 3 ∧ 1 ≤ w ∧ w ≤ 8) : zO m w = (⟨m, w, List.replicate 16 Sn.z⟩, 0) := by
 unfold zO
 rw [if_pos]
 unfold zj
 exact decide_eq_true h
def zsn : List AV := [.bool false, iAV 0, iAV 0, iAV 0, iAV 0, iAV 0, iAV 0, iAV 0, .nils]
theorem zsn_f {l : LS} {F : List Nm} : LFs l F zsn Sn.z.cs := ⟨.eq rfl, .eq rfl, .eq rfl, .eq rfl, .eq rfl, .eq rfl, .eq rfl, .eq rfl, LF.nils rfl rfl, trivial⟩
theorem RL.coz {e : Int} {l : LS} : RL (fun _ => (.tup [Co.z.av, iAV e], [])) (.tup [.agg [.int .i64 0, .int .i64 0, .nils], .int .i64 e]) l :=
 RL.frz [] (LF.tup (xs := [.agg [.int .i64 0, .int .i64 0, .nils], .int .i64 e]) (ys := [Co.z.av, iAV e]) ⟨LF.agg (xs := [.int .i64 0, .int .i64 0, .nils]) (ys := [iAV 0, iAV 0, snv []]) ⟨LF.eq rfl, LF.eq rfl, LF.nils rfl rfl, trivial⟩, LF.eq rfl, trivial⟩) LB.nil
theorem r9new_c (m w : Int) : LP Tryd.prog G 7 [iAV m, iAV w] [] (fun _ => (.tup [(zO m w).1.av, iAV (zO m w).2], [])) := by
 by_cases h : 1 ≤ m ∧ m ≤ 3 ∧ 1 ≤ w ∧ w ≤ 8
 · rw [yP h]
   refine goW [] Tryd.func7 rfl ?_
   conv => whnf
   repeat' ((first | (show AQ _ _; first | (refine AQ.eq (cs' := (List.replicate 16 ()).flatMap fun _ => zsn) rfl ?_)) | refine T.s ?_ | ((first | apply goB | apply AB.dec | apply AB.gen) <;> intro h <;> try (exfalso; omega)) | refine LQ.mk fun r => ?_ | exact T.z | fail) <;> conv => whnf)
   all_goals (try dsimp only)
   all_goals
     refine RL.frz [r] (LF.tup (xs := [.agg [.int .i64 m, .int .i64 w, .vw r 0 16 9], .int .i64 0]) (ys := [Co.av ⟨m, w, List.replicate 16 Sn.z⟩, iAV 0]) ⟨LF.agg (xs := [.int .i64 m, .int .i64 w, .vw r 0 16 9]) (ys := [iAV m, iAV w, snv (List.replicate 16 Sn.z)]) ⟨LF.eq rfl, LF.eq rfl, LF.rowN InL.here ?_, trivial⟩, LF.eq rfl, trivial⟩) ?_
     · (repeat first | refine goH ?_ | apply LH.here | apply LH.next)
       exact ⟨by decide, by kernel_rfl, by simp, by
         rw [show (List.replicate 16 Sn.z).flatMap Sn.cs = (List.replicate 16 ()).flatMap fun _ => Sn.z.cs by kernel_rfl]
         exact LFs.fm (fun _ => zsn_f) _⟩
     · (repeat first | refine goH ?_ | apply LH.here | apply LH.next)
       exact LB.nil
 · rw [shapR_f h]
   refine goW [] Tryd.func7 rfl ?_
   conv => whnf
   repeat' ((first | (show AQ _ _; first | (refine AQ.eq (cs' := (List.replicate 16 ()).flatMap fun _ => zsn) rfl ?_)) | refine T.s ?_ | ((first | apply goB | apply AB.dec | apply AB.gen) <;> intro h <;> try (exfalso; omega)) | refine LQ.mk fun r => ?_ | exact T.z | fail) <;> conv => whnf)
   all_goals (try dsimp only)
   all_goals first
     | (exfalso; omega)
     | exact RL.coz
     | trace_state
def cpG (c : Co) (i0 : Nat) (q : Nm) (k : Nat) : List AV := if k = i0 then (c.at k).cv (.vw q 0 (c.at k).rf.length 15) else (c.at k).cs
def cpR (c : Co) (i0 : Nat) (q : Nm) (n : Nat) : List AV := (List.range n).flatMap (cpG c i0 q)
theorem cpG_len (c : Co) (i0 : Nat) (q : Nm) (k : Nat) : (cpG c i0 q k).length = 9 := by unfold cpG; split <;> rfl
theorem cpR_succ (c : Co) (i0 : Nat) (q : Nm) (n : Nat) : cpR c i0 q (n + 1) = cpR c i0 q n ++ cpG c i0 q n := by unfold cpR; rw [List.range_succ, List.flatMap_append]; simp
@[simp] theorem cpR_len (c : Co) (i0 : Nat) (q : Nm) (n : Nat) : (cpR c i0 q n).length = n * 9 := by
 induction n with
 | zero => rfl
 | succ n ih => rw [cpR_succ, List.length_append, ih, cpG_len]; omega
theorem hds_one (l : List Hd) : ((l.flatMap Hd.cs).all AV.one) = true := by
 induction l with
 | nil => rfl
 | cons x l ih => rw [List.flatMap_cons, List.all_append, ih]; rfl
def cpP (c : Co) (i0 n : Nat) : List AV := if i0 < n then (c.at i0).rf.flatMap Hd.cs else []
@[reducible] def n0 (q : List Nm) : Nm := q.getD 0 (.b 0)
@[reducible] def n1 (q : List Nm) : Nm := q.getD 1 (.b 0)
theorem qr {c : Co} {i0 j : Nat} (h : j = i0) : (c.at j).rf.flatMap Hd.cs = cpP c i0 (j + 1) := by
 unfold cpP
 rw [if_pos (by omega), h]
theorem qt {c : Co} {i0 j : Nat} (h : ¬ j = i0) : cpP c i0 j = cpP c i0 (j + 1) := by
 unfold cpP
 by_cases h2 : i0 < j
 · rw [if_pos h2, if_pos (by omega)]
 · rw [if_neg h2, if_neg (by omega)]
open Go.RowKit
variable {G : Nat → AV}
theorem vA {l : LS} {F : List Nm} {c : Co} {i0 : Nat} {p : Nm} (hF : InL p F) (hp : LH l p fun cc _ _ => cc.cs = (c.at i0).rf.flatMap Hd.cs) : ∀ n, LFs l F (cpR c i0 p n) ((List.range n).flatMap fun k => (c.at k).cs)
 | 0 => trivial
 | n + 1 => by
   rw [cpR_succ, List.range_succ, List.flatMap_append]
   refine LFs.app (vA hF hp n) ?_
   simp only [List.flatMap_cons, List.flatMap_nil, List.append_nil]
   unfold cpG
   split
   · rename_i h
     subst h
     exact ⟨.eq rfl, .eq rfl, .eq rfl, .eq rfl, .eq rfl, .eq rfl, .eq rfl, .eq rfl, LF.row hF (LH.mono hp fun cc _ _ e => ⟨by decide, by rw [e]; exact qJ Hd.cs_len _, rfl, e.symm⟩), trivial⟩
   · exact LFs.same _
theorem cx_range (c : Co) (n : Nat) (h : n ≤ c.cx.length) : (List.range n).flatMap (fun k => (c.at k).cs) = (c.cx.take n).flatMap Sn.cs := by
 induction n with
 | zero => simp
 | succ n ih =>
   rw [List.range_succ, List.flatMap_append, ih (by omega), List.take_succ_eq_append_getElem (by omega), List.flatMap_append]
   simp [Co.at, List.getD_eq_getElem?_getD, show n < c.cx.length by omega]
theorem zU (c : Co) : (List.range c.cx.length).flatMap (fun k => (c.at k).cs) = c.cx.flatMap Sn.cs := by rw [cx_range c _ (Nat.le_refl _), List.take_length]
theorem LH.wk {p : Nm} {x : Nm × Pl} {Q : Pl → Prop} {l2 : LS} : ∀ {l1 : LS}, (LH (l1 ++ l2) p fun c _ _ => Q c) → LH (l1 ++ x :: l2) p fun c _ _ => Q c
 | [], h => .next h
 | y :: l1, h => by
   obtain ⟨m1, d, m2, e, hq⟩ := h.ex
   cases m1 with
   | nil =>
     injection e with e1 e2
     subst e1
     exact .here hq
   | cons z m1 =>
     injection e with e1 e2
     exact .next (LH.wk ⟨m1, d, m2, e2, hq⟩)
theorem cop_row {c : Co} {i0 : Nat} {R : Nm} {l : LS} (h : LH l R fun cc _ r => ∃ p, cc.cs = cpR c i0 p c.cx.length ∧ LH r p fun cc' _ _ => cc'.cs = (c.at i0).rf.flatMap Hd.cs) : ∃ p, LF l [R, p] (.vw R 0 c.cx.length 9) (snv c.cx) ∧ LEra l [R, p] (LB []) := by
 obtain ⟨l1, cc, l2, rfl, p, h1, h2⟩ := h.ex
 refine ⟨p, LF.rowN InL.here ⟨l1, cc, l2, rfl, by decide, by rw [h1]; exact cpR_len _ _ _ _, rfl, ?_⟩, ⟨l1, cc, l2, rfl, LH.mono h2 fun _ _ _ _ => LB.nil⟩⟩
 rw [h1, ← zU]
 exact vA (InL.next InL.here) (LH.wk h2) _
theorem RL.cop {c : Co} (i0 : Nat) {R : Nm} {x : List UInt8} {e : Int} {l : LS} (h : LH l R fun cc _ r => ∃ p, cc.cs = cpR c i0 p c.cx.length ∧ LH r p fun cc' _ _ => cc'.cs = (c.at i0).rf.flatMap Hd.cs) : RL (fun _ => (.tup [c.av, bv x, iAV e], [])) (.tup [.agg [.int .i64 c.m, .int .i64 c.w, .vw R 0 c.cx.length 9], bv x, .int .i64 e]) l := by
 obtain ⟨p, h1, h2⟩ := cop_row h
 exact RL.frz [R, p] (LF.tup (xs := [.agg [.int .i64 c.m, .int .i64 c.w, .vw R 0 c.cx.length 9], bv x, .int .i64 e]) (ys := [c.av, bv x, iAV e]) ⟨LF.agg (xs := [.int .i64 c.m, .int .i64 c.w, .vw R 0 c.cx.length 9]) (ys := [iAV c.m, iAV c.w, snv c.cx]) ⟨.eq rfl, .eq rfl, h1, trivial⟩, .eq rfl, .eq rfl, trivial⟩) h2
theorem RL.co3 {e : Int} {l : LS} : RL (fun _ => (.tup [Co.z.av, bv [], iAV e], [])) (.tup [.agg [.int .i64 0, .int .i64 0, .nils], .nils, .int .i64 e]) l :=
 RL.frz [] (LF.tup (xs := [.agg [.int .i64 0, .int .i64 0, .nils], .nils, .int .i64 e]) (ys := [Co.z.av, bv [], iAV e]) ⟨LF.agg (xs := [.int .i64 0, .int .i64 0, .nils]) (ys := [iAV 0, iAV 0, snv []]) ⟨LF.eq rfl, LF.eq rfl, LF.nils rfl rfl, trivial⟩, LF.nils rfl rfl, LF.eq rfl, trivial⟩) LB.nil
def cpr (x : (Co × List UInt8) × Int) : AV := .tup [x.1.1.av, bv x.1.2, iAV x.2]
theorem zK {c : Co} (h : c.ok = true) : c.cx.length = 16 := by
 unfold Co.ok at h
 simp only [Bool.and_eq_true, decide_eq_true_eq] at h
 exact h.2.1
theorem co_oks {c : Co} (h : c.ok = true) : c.oks 16 = true := by
 unfold Co.ok at h
 simp only [Bool.and_eq_true] at h
 exact h.2.2
theorem co_sn {c : Co} (h : c.ok = true) (i : Nat) (hi : i < c.cx.length) : (c.at i).ok c.m c.w = true := by
 have h1 := wg (co_oks h) (by rw [zK h] at hi; exact hi)
 simp only [Bool.and_eq_true] at h1
 exact h1.1
theorem sn_rf {m w : Int} {s : Sn} (h : s.ok m w = true) (hw : w ≤ 8) : s.rf.length ≤ 32 := by
 cases ha : s.act with
 | true =>
   have h1 := ((Sn.ok_e ha).1 h).1
   unfold kG xC at h1
   obtain ⟨-, h1, -⟩ := h1
   split at h1 <;> omega
 | false =>
   unfold Sn.ok at h
   rw [if_neg (by rw [ha]; decide)] at h
   simp only [jg, decide_eq_true_eq] at h
   rw [h.2.2.2.2.2.2]
   decide
theorem vB {c : Co} (h : c.ok = true) : 1 ≤ c.m ∧ c.m ≤ 3 ∧ 1 ≤ c.w ∧ c.w ≤ 8 := by
 unfold Co.ok at h
 simp only [Bool.and_eq_true] at h
 have h1 := h.1
 simp only [zj, decide_eq_true_eq] at h1
 exact h1
theorem co_rf {c : Co} (h : c.ok = true) (i : Nat) (hi : i < c.cx.length) : (c.at i).rf.length ≤ 1000 := by
 have := sn_rf (co_sn h i hi) (vB h).2.2.2
 omega
open Go.RowKit
section
variable {m w : Int} {s : Sn} {h : Hd} {x : Sn} {bg : Bool}
theorem csD_y {last : Hd} {had : Bool} (h1 : bg = true ∨ x.ser = (x.rf.length : Int) ∧ (0 < x.full ∨ 0 < x.refr)) : we x last had h = csD last had h (x, bg) := by
 unfold csD
 rw [if_pos h1]
def zd (x : Sn) (h : Hd) (f : Int) : Prop := 1 ≤ f ∧ f ≤ 4 ∧ (2 ≤ f → qO x h 1 = false) ∧ (3 ≤ f → qO x h 2 = false) ∧ (4 ≤ f → qO x h 3 = false)
theorem kf : zd x h 1 := ⟨by decide, by decide, fun h => absurd h (by decide), fun h => absurd h (by decide), fun h => absurd h (by decide)⟩
theorem kc {f : Int} (h1 : zd x h f) (h2 : f ≤ 3) (h3 : qO x h f = false) : zd x h (f + 1) := by
 obtain ⟨a1, a2, a3, a4, a5⟩ := h1
 have : f = 1 ∨ f = 2 ∨ f = 3 := by omega
 rcases this with rfl | rfl | rfl
 · exact ⟨by decide, by decide, fun _ => h3, fun h => absurd h (by decide), fun h => absurd h (by decide)⟩
 · exact ⟨by decide, by decide, fun _ => a3 (by decide), fun _ => h3, fun h => absurd h (by decide)⟩
 · exact ⟨by decide, by decide, fun _ => a3 (by decide), fun _ => a4 (by decide), fun _ => h3⟩
def vu (m : Int) (h : Hd) (s : Sn) (f : Int) : Sn :=
 { s with
   full := if m ≠ 3 ∧ f = 5 then s.full - 1 else s.full
   refr := if m ≠ 3 ∧ f = 4 then s.refr - 1 else s.refr
   sin := if f = 5 then 0 else min (s.sin + 1) 32
   lng := if (f = 2 ∨ f = 3) ∧ h.k = 2 then min (s.lng + 1) 3 else 0 }
end
theorem findR_lt {l : List Sn} {h : Hd} {i : Nat} (e : zu l h = some i) : i < l.length := by
 have key : ∀ {p : Sn → Bool} {j : Nat}, l.findIdx? p = some j → j < l.length := fun {p j} hj => by
   rw [List.findIdx?_eq_some_iff_getElem] at hj
   exact hj.1
 unfold zu at e
 split at e
 · rename_i j hj
   cases e
   exact key hj
 · exact key e
def frs (c : Co) (a n : Nat) : List AV := ((List.range n).drop a).flatMap fun k => (c.at k).cs
theorem xf {α β : Type} {f g : α → List β} : ∀ l : List α, (∀ k ∈ l, f k = g k) → l.flatMap f = l.flatMap g
 | [], _ => rfl
 | x :: l, h => by rw [List.flatMap_cons, List.flatMap_cons, h x (by simp), xf l fun k hk => h k (by simp [hk])]
theorem yG (c : Co) (i0 : Nat) (p : Nm) (n : Nat) (h : i0 < n) : cpR c i0 p n = (List.range i0).flatMap (fun k => (c.at k).cs) ++ ((c.at i0).cv (.vw p 0 (c.at i0).rf.length 15) ++ frs c (i0 + 1) n) := by
 have e : List.range n = List.range i0 ++ (i0 :: (List.range n).drop (i0 + 1)) := by
   have h1 : List.range n = (List.range n).take i0 ++ (List.range n).drop i0 := (List.take_append_drop _ _).symm
   rw [List.take_range, Nat.min_eq_left (by omega), List.drop_eq_getElem_cons (by simpa using h)] at h1
   simpa using h1
 unfold cpR frs
 rw [e, List.flatMap_append, List.flatMap_cons]
 have e1 : (List.range i0).flatMap (cpG c i0 p) = (List.range i0).flatMap fun k => (c.at k).cs := by
   refine xf _ fun k hk => ?_
   unfold cpG
   rw [if_neg (by have := List.mem_range.1 hk; omega)]
 have e2 : ((List.range n).drop (i0 + 1)).flatMap (cpG c i0 p) = ((List.range n).drop (i0 + 1)).flatMap fun k => (c.at k).cs := by
   refine xf _ fun k hk => ?_
   unfold cpG
   rw [if_neg]
   rintro rfl
   obtain ⟨j, hj, hk⟩ := List.mem_iff_getElem.1 hk
   simp at hk
   omega
 rw [e1, e2, ← e]
 congr 2
 unfold cpG
 rw [if_pos rfl]
theorem js (c : Co) (n : Nat) : ((List.range n).flatMap fun k => (c.at k).cs).length = n * 9 := by
 have := qJ (f := fun k => (c.at k).cs) (n := 9) (fun _ => rfl) (List.range n)
 rwa [List.length_range] at this
theorem cpR_at (c : Co) (i0 : Nat) (p : Nm) (n : Nat) (h : i0 < n) : ((cpR c i0 p n).drop (i0 * 9)).take 9 = (c.at i0).cv (.vw p 0 (c.at i0).rf.length 15) := by
 rw [yG c i0 p n h, List.drop_append, js, List.drop_of_length_le (by rw [js]; omega), List.nil_append, Nat.sub_self, List.drop_zero]
 rfl
theorem cpR_set (c : Co) (i0 : Nat) (p : Nm) (n : Nat) (h : i0 < n) (ys : List AV) (hy : ys.length = 9) : qi (cpR c i0 p n) (i0 * 9) ys = (List.range i0).flatMap (fun k => (c.at k).cs) ++ (ys ++ frs c (i0 + 1) n) := by
 rw [yG c i0 p n h]
 unfold qi
 rw [List.take_append, List.take_of_length_le (by rw [js]; omega), js, Nat.sub_self, List.take_zero, List.append_nil, List.drop_append, List.drop_of_length_le (by rw [js]; omega), js, hy, show i0 * 9 + 9 - i0 * 9 = 9 by omega]
 simp
theorem AC.cpA {c : Co} {i0 : Nat} {p : Nm} {n o m : Nat} {K : AV → Prop} (ho : o = i0 * 9) (hm : m = 9) (h : i0 < n) (k : K (.agg ((c.at i0).cv (.vw p 0 (c.at i0).rf.length 15)))) : AC true (((cpR c i0 p n).drop o).take m) K := ⟨by
 subst ho hm
 rw [cpR_at c i0 p n h]
 exact k⟩
theorem AQ.cpS {c : Co} {i0 : Nat} {p : Nm} {n o : Nat} {ys : List AV} {K : List AV → Prop} (ho : o = i0 * 9) (h : i0 < n) (hy : ys.length = 9) (k : K ((List.range i0).flatMap (fun k => (c.at k).cs) ++ (ys ++ frs c (i0 + 1) n))) : AQ (qi (cpR c i0 p n) o ys) K := ⟨by
 subst ho
 rw [cpR_set c i0 p n h ys hy]
 exact k⟩
theorem set_fm (c : Co) (i0 : Nat) (h : i0 < c.cx.length) (s' : Sn) : (c.cx.set i0 s').flatMap Sn.cs = (List.range i0).flatMap (fun k => (c.at k).cs) ++ (s'.cs ++ frs c (i0 + 1) c.cx.length) := by
 have e : frs c (i0 + 1) c.cx.length = (c.cx.drop (i0 + 1)).flatMap Sn.cs := by
   have h1 := zU c
   have h2 := kk (f := fun k => (c.at k).cs) (n := 9) (fun _ => rfl) (List.range c.cx.length) (i0 + 1)
   rw [h1, kk Sn.cs_len] at h2
   exact h2.symm
 rw [e, cx_range c i0 (by omega), List.set_eq_take_append_cons_drop, if_pos h, List.flatMap_append, List.flatMap_cons]
open Go.RowKit
theorem qC {a b : Hd} : qo a b = true ↔ (a.k = b.k ∧ a.fr = b.fr ∧ a.to = b.to ∧ a.fp = b.fp ∧ a.tp = b.tp ∧ a.sr = b.sr) := by unfold qo; rw [decide_eq_true_iff]
theorem jn {a b : Hd} (h : qo a b = true) : qo b a = true := by
 rw [qC] at h ⊢
 exact ⟨h.1.symm, h.2.1.symm, h.2.2.1.symm, h.2.2.2.1.symm, h.2.2.2.2.1.symm, h.2.2.2.2.2.symm⟩
theorem zy {a b c : Hd} (h : qo a b = true) (k : qo b c = true) : qo a c = true := by
 rw [qC] at h k ⊢
 exact ⟨h.1.trans k.1, h.2.1.trans k.2.1, h.2.2.1.trans k.2.2.1, h.2.2.2.1.trans k.2.2.2.1, h.2.2.2.2.1.trans k.2.2.2.2.1, h.2.2.2.2.2.trans k.2.2.2.2.2⟩
theorem sameR_rfl (a : Hd) : qo a a = true := qC.2 ⟨rfl, rfl, rfl, rfl, rfl, rfl⟩
theorem mem_lst {s : Sn} (h : 0 < s.rf.length) : s.lst ∈ s.rf := by
 unfold Sn.lst
 rw [List.getD_eq_getElem?_getD, List.getElem?_eq_getElem (by omega)]
 exact List.getElem_mem _
theorem mem_fst {s : Sn} (h : 0 < s.rf.length) : s.fst ∈ s.rf := by
 unfold Sn.fst
 rw [List.getD_eq_getElem?_getD, List.getElem?_eq_getElem (by omega)]
 exact List.getElem_mem _
theorem jJ : Dy.z.ok = true := by unfold Dy.ok Dy.z inR; decide
theorem kg (a b : Hd) : (qZ a b).ok = true ∧ (a.k = 2 ∨ qZ a b = Dy.z) := by
 unfold qZ
 split
 · rename_i h
   refine ⟨?_, .inl h.2.2.1⟩
   unfold Dy.ok
   simp only [Bool.and_eq_true, decide_eq_true_eq]
   constructor
   · split
     · rename_i h2; exact inR_t ⟨h2.2.2.1, h2.2.2.2⟩
     · exact inR_t ⟨by decide, by decide⟩
   · split
     · exact .inr rfl
     · exact .inl rfl
 · exact ⟨jJ, .inr rfl⟩
structure Mid (m w : Int) (h : Hd) (x : Sn) : Prop where
 act : x.act = true
 full : 0 ≤ x.full ∧ x.full ≤ w
 refr : 0 ≤ x.refr ∧ x.refr ≤ w
 both : ¬ (0 < x.full ∧ 0 < x.refr)
 ser : 0 ≤ x.ser ∧ x.ser ≤ x.rf.length
 sin : 0 ≤ x.sin ∧ x.sin ≤ 32
 lng : 0 ≤ x.lng ∧ x.lng ≤ 3
 dok : x.dy.ok = true
 dz : h.k = 2 ∨ x.dy = Dy.z
 refs : ∀ r ∈ x.rf, r.ok = true ∧ qo r h = true
 len : (m ≠ 3 → (x.rf.length : Int) ≤ w) ∧ (m = 3 → x.rf.length ≤ 32)
section
variable {m w : Int} {s x : Sn} {h : Hd}
theorem sn_refs (hs : s.ok m w = true) (ha : s.act = true) (hh : qo s.fst h = true) : ∀ r ∈ s.rf, r.ok = true ∧ qo r h = true := fun r hr => by
 have h1 := ((Sn.ok_e ha).1 hs).2.2.1
 rw [List.all_eq_true] at h1
 have h2 := h1 r hr
 unfold jU at h2
 rw [Bool.and_eq_true] at h2
 exact ⟨h2.1, zy h2.2 hh⟩
theorem yO (hs : s.ok m w = true) (ha : s.act = false) : s.full = 0 ∧ s.refr = 0 ∧ s.ser = 0 ∧ s.sin = 0 ∧ s.lng = 0 ∧ s.dy = Dy.z ∧ s.rf = [] := by
 unfold Sn.ok at hs
 rw [if_neg (by rw [ha]; decide)] at hs
 unfold jg at hs
 exact of_decide_eq_true hs
theorem mid_of (hs : s.ok m w = true) (ha : s.act = true) (hh : qo s.fst h = true) : Mid m w h s := by
 have h1 := (Sn.ok_e ha).1 hs
 have h2 := h1.1
 unfold kG xC at h2
 have he : wO s = true := h1.2.2.2
 unfold wO at he
 have he := of_decide_eq_true he
 rw [(qC.1 hh).1] at he
 exact ⟨ha, h2.2.2.2.1, h2.2.2.2.2.1, h2.2.2.2.2.2.1, h2.2.2.1, h2.2.2.2.2.2.2.1, h2.2.2.2.2.2.2.2, h1.2.1, he, sn_refs hs ha hh, fun hm => by have := h2.2.1; rw [if_neg hm] at this; exact this, fun hm => by have := h2.2.1; rw [if_pos hm] at this; omega⟩
def Beg (y : Sn × Bool) : Prop := y.2 = true → 0 < y.1.full ∨ 0 < y.1.refr
theorem csA_mid (hw : 1 ≤ w) (hs : s.ok m w = true) (hh : s.act = true → qo s.fst h = true) : Mid m w h (csA w s h).1 ∧ Beg (csA w s h) ∧ (csA w s h).1.rf = s.rf := by
 unfold csA
 cases ha : s.act with
 | false =>
   rw [if_pos rfl]
   obtain ⟨a1, a2, a3, a4, a5, a6, a7⟩ := yO hs ha
   refine ⟨⟨rfl, ⟨by dsimp only; omega, by dsimp only; omega⟩, ⟨by dsimp only; omega, by dsimp only; omega⟩, by dsimp only; omega, ⟨by dsimp only; omega, by dsimp only; omega⟩, ⟨by dsimp only; omega, by dsimp only; omega⟩, ⟨by dsimp only; omega, by dsimp only; omega⟩, by rw [a6]; exact jJ, .inr a6, fun r hr => ?_, ?_⟩, fun _ => .inl (by dsimp only; omega), rfl⟩
   · dsimp only at hr; rw [a7] at hr; cases hr
   · dsimp only; rw [a7]; exact ⟨fun _ => by show (0 : Int) ≤ w; omega, fun _ => by decide⟩
 | true =>
   rw [if_neg (by decide)]
   have h0 := mid_of hs ha (hh ha)
   split
   · split
     · exact ⟨{ h0 with full := ⟨by dsimp only; omega, by dsimp only; omega⟩, both := by have := h0.both; dsimp only; omega, lng := ⟨by dsimp only; omega, by dsimp only; omega⟩, act := rfl }, fun _ => .inl (by dsimp only; omega), rfl⟩
     · exact ⟨{ h0 with refr := ⟨by dsimp only; omega, by dsimp only; omega⟩, both := by have := h0.both; dsimp only; omega, lng := ⟨by dsimp only; omega, by dsimp only; omega⟩, act := rfl }, fun _ => .inr (by dsimp only; omega), rfl⟩
   · exact ⟨h0, fun k => Bool.noConfusion k, rfl⟩
theorem csB_mid (hw : 1 ≤ w) {y : Sn × Bool} (h0 : Mid m w h y.1) (hb : Beg y) : Mid m w h (csB m w y).1 ∧ Beg (csB m w y) ∧ (csB m w y).1.rf = y.1.rf := by
 unfold csB
 split
 · exact ⟨{ h0 with full := ⟨by dsimp only; omega, by dsimp only; omega⟩, refr := ⟨by dsimp only; omega, by dsimp only; omega⟩, both := by dsimp only; omega }, fun _ => .inl (by dsimp only; omega), rfl⟩
 · exact ⟨h0, hb, rfl⟩
theorem csD_mid (hw : 1 ≤ w) {y : Sn × Bool} {n : Nat} {last : Hd} {had : Bool} (hn : n = y.1.rf.length) (h0 : Mid m w h y.1) (hb : Beg y) (hl : had = true → last.k = h.k) :
   Mid m w h (csD last had h (csC m w n y)) ∧ (m = 3 → (csD last had h (csC m w n y)).rf.length < 32) ∧ ((csD last had h (csC m w n y)).rf = y.1.rf ∨ (csD last had h (csC m w n y)).rf = []) := by
 have key : ∀ z : Sn, Mid m w h { z with ser := 0 } → Mid m w h (we z last had h) := fun z hz => by
   unfold we
   refine { hz with ser := ⟨by dsimp only; omega, by dsimp only; omega⟩, dok := ?_, dz := ?_ }
   · dsimp only
     split
     · exact (kg last h).1
     · exact jJ
   · dsimp only
     split
     · rename_i hd
       have := (kg last h).2
       rw [hl hd] at this
       exact this
     · exact .inr rfl
 unfold csC
 split
 · rename_i hc
   have e : csD last had h ({ y.1 with full := w, refr := 0, rf := [] }, true) = we { y.1 with full := w, refr := 0, rf := [] } last had h := (csD_y (.inl rfl)).symm
   rw [e]
   refine ⟨key _ { h0 with full := ⟨by dsimp only; omega, by dsimp only; omega⟩, refr := ⟨by dsimp only; omega, by dsimp only; omega⟩, both := by dsimp only; omega, ser := ⟨by dsimp only; omega, by show (0 : Int) ≤ _; omega⟩, refs := fun r hr => (by cases hr), len := ⟨fun _ => by show (0 : Int) ≤ w; omega, fun _ => by show 0 ≤ 32; decide⟩ }, fun _ => by show 0 < 32; decide, .inr rfl⟩
 · rename_i hc
   have hlt : m = 3 → y.1.rf.length < 32 := fun hm => by have := h0.len.2 hm; rw [hn] at hc; omega
   unfold csD
   split
   · exact ⟨key _ { h0 with ser := ⟨by dsimp only; omega, by dsimp only; omega⟩ }, hlt, .inl rfl⟩
   · exact ⟨h0, hlt, .inl rfl⟩
theorem csE_mid (hw : 1 ≤ w) {u last : Hd} {had : Bool} (h0 : Mid m w h x) (hl : had = true → last.k = h.k) :
   Mid m w h (csE w last had h x).1 ∧ (1 ≤ (csE w last had h x).2 ∧ (csE w last had h x).2 ≤ 5) ∧ ((csE w last had h x).2 = 5 ↔ 0 < (csE w last had h x).1.full) ∧ ((csE w last had h x).2 = 4 ↔ 0 < (csE w last had h x).1.refr) ∧ (csE w last had h x).1.rf = x.rf := by
 have hb := h0.both
 have h1 := h0.full
 have h2 := h0.refr
 unfold csE
 split
 · exact ⟨h0, by dsimp only; omega, ⟨fun _ => by assumption, fun _ => rfl⟩, ⟨fun k => by dsimp only at k; omega, fun k => by dsimp only at k; omega⟩, rfl⟩
 · split
   · exact ⟨h0, by dsimp only; omega, ⟨fun k => by dsimp only at k; omega, fun k => by dsimp only at k; omega⟩, ⟨fun _ => by assumption, fun _ => rfl⟩, rfl⟩
   · split
     · exact ⟨h0, by dsimp only; omega, ⟨fun k => by dsimp only at k; omega, fun k => by dsimp only at k; omega⟩, ⟨fun k => by dsimp only at k; omega, fun k => by dsimp only at k; omega⟩, rfl⟩
     · split
       · exact ⟨h0, by dsimp only; omega, ⟨fun k => by dsimp only at k; omega, fun k => by dsimp only at k; omega⟩, ⟨fun k => by dsimp only at k; omega, fun k => by dsimp only at k; omega⟩, rfl⟩
       · split
         · exact ⟨h0, by dsimp only; omega, ⟨fun k => by dsimp only at k; omega, fun k => by dsimp only at k; omega⟩, ⟨fun k => by dsimp only at k; omega, fun k => by dsimp only at k; omega⟩, rfl⟩
         · unfold we
           refine ⟨{ h0 with ser := ⟨by dsimp only; omega, by dsimp only; omega⟩, dok := ?_, dz := ?_, refr := ⟨by dsimp only; omega, by dsimp only; omega⟩, lng := ⟨by dsimp only; omega, by dsimp only; omega⟩, both := by dsimp only; omega }, by dsimp only; omega, ⟨fun k => by dsimp only at k; omega, fun k => by dsimp only at k; omega⟩, ⟨fun _ => by dsimp only; omega, fun _ => rfl⟩, rfl⟩
           · dsimp only
             split
             · exact (kg last h).1
             · exact jJ
           · dsimp only
             split
             · rename_i hd
               have := (kg last h).2
               rw [hl hd] at this
               exact this
             · exact .inr rfl
theorem lst_k (hs : s.ok m w = true) (hh : s.act = true → qo s.fst h = true) (ha : s.act = true) : s.lst.k = h.k := (qC.1 (sn_refs hs ha (hh ha) _ (mem_lst (kV hs ha))).2).1
theorem vq (hw : 1 ≤ w) (hs : s.ok m w = true) (hh : s.act = true → qo s.fst h = true) :
   Mid m w h (qX m w s h).1 ∧ (1 ≤ (qX m w s h).2 ∧ (qX m w s h).2 ≤ 5) ∧ ((qX m w s h).2 = 5 ↔ 0 < (qX m w s h).1.full) ∧ ((qX m w s h).2 = 4 ↔ 0 < (qX m w s h).1.refr) ∧ (m = 3 → (qX m w s h).1.rf.length < 32) := by
 have hl := lst_k hs hh
 have h1 := csA_mid (m := m) hw hs hh
 have h2 := csB_mid hw h1.1 h1.2.1
 have h3 := csD_mid (n := s.rf.length) (last := s.lst) (had := s.act) hw (by rw [h2.2.2, h1.2.2]) h2.1 h2.2.1 hl
 have h4 := csE_mid (last := s.lst) (had := s.act) (u := h) hw h3.1 hl
 unfold qX
 exact ⟨h4.1, h4.2.1, h4.2.2.1, h4.2.2.2.1, fun hm => by rw [h4.2.2.2.2]; exact h3.2.1 hm⟩
theorem all_of {l : List Hd} {p : Hd → Bool} (k : ∀ r ∈ l, p r = true) : l.all p = true := List.all_eq_true.2 k
theorem sn_ok_of (ha : x.act = true) (hr : kG m w x) (hd : x.dy.ok = true) (hk : x.fst.k = 2 ∨ x.dy = Dy.z) (hrf : ∀ r ∈ x.rf, r.ok = true ∧ qo r x.fst = true) : x.ok m w = true := by
 refine (Sn.ok_e ha).2 ⟨hr, hd, all_of fun r hr => ?_, ?_⟩
 · unfold jU
   rw [(hrf r hr).1, (hrf r hr).2]; rfl
 · unfold wO
   exact decide_eq_true hk
def ks (m w : Int) (x : Sn) : Nat := if m ≠ 3 ∧ w < (x.rf.length : Int) + 1 then ((x.rf.length : Int) + 1 - w).toNat else 0
theorem vt (f : Int) : (csF m w h x f).rf = (x.rf ++ [h]).drop (ks m w x) := by
 unfold csF ks
 dsimp only
 split
 · rfl
 · rw [List.drop_zero]
theorem cutN_le (hw : 1 ≤ w) : ks m w x ≤ x.rf.length := by unfold ks; split <;> omega
theorem csF_len (hw : 1 ≤ w) (f : Int) : (csF m w h x f).rf.length = x.rf.length + 1 - ks m w x := by rw [vt]; simp
theorem csF_ok (hw : 1 ≤ w) (hw8 : w ≤ 8) (h0 : Mid m w h x) (ho : h.ok = true) {f : Int} (h5 : f = 5 → 0 < x.full) (h4 : f = 4 → 0 < x.refr) (h3 : m = 3 → x.rf.length < 32) : (csF m w h x f).ok m w = true ∧ (csF m w h x f).act = true ∧ qo (csF m w h x f).fst h = true := by
 have hl := csF_len (m := m) (h := h) (x := x) hw f
 have hc := cutN_le (m := m) (x := x) hw
 have hpos : 0 < (csF m w h x f).rf.length := by omega
 have hmem : ∀ r ∈ (csF m w h x f).rf, r.ok = true ∧ qo r h = true := fun r hr => by
   rw [vt] at hr
   have := List.mem_of_mem_drop hr
   rw [List.mem_append, List.mem_singleton] at this
   rcases this with k | rfl
   · exact h0.refs r k
   · exact ⟨ho, sameR_rfl _⟩
 have hf := hmem _ (mem_fst hpos)
 have a1 := h0.full
 have a2 := h0.refr
 have a3 := h0.both
 have a4 := h0.ser
 have a5 := h0.sin
 have a6 := h0.lng
 have a7 := h0.len
 refine ⟨sn_ok_of h0.act ?_ h0.dok ?_ fun r hr => ⟨(hmem r hr).1, zy (hmem r hr).2 (jn hf.2)⟩, h0.act, hf.2⟩
 · have e : (csF m w h x f).ser = if m ≠ 3 ∧ w < (x.rf.length : Int) + 1 then max 0 (x.ser - ((x.rf.length : Int) + 1 - w)) else x.ser := rfl
   refine ⟨hpos, ?_, ?_, ?_, ?_, ?_, ?_, ?_⟩
   · rw [hl]
     unfold xC ks
     by_cases hm : m = 3
     · have := h3 hm; rw [if_pos hm, if_neg (by omega)]; omega
     · have := a7.1 hm; rw [if_neg hm]; split <;> omega
   · rw [hl, e]
     unfold ks
     split <;> omega
   · show 0 ≤ (if m ≠ 3 ∧ f = 5 then x.full - 1 else x.full) ∧ (if m ≠ 3 ∧ f = 5 then x.full - 1 else x.full) ≤ w
     split <;> omega
   · show 0 ≤ (if m ≠ 3 ∧ f = 4 then x.refr - 1 else x.refr) ∧ (if m ≠ 3 ∧ f = 4 then x.refr - 1 else x.refr) ≤ w
     split <;> omega
   · show ¬ (0 < (if m ≠ 3 ∧ f = 5 then x.full - 1 else x.full) ∧ 0 < (if m ≠ 3 ∧ f = 4 then x.refr - 1 else x.refr))
     split <;> split <;> omega
   · show 0 ≤ (if f = 5 then 0 else min (x.sin + 1) 32) ∧ (if f = 5 then 0 else min (x.sin + 1) 32) ≤ 32
     split <;> omega
   · show 0 ≤ (if (f = 2 ∨ f = 3) ∧ h.k = 2 then min (x.lng + 1) 3 else 0) ∧ (if (f = 2 ∨ f = 3) ∧ h.k = 2 then min (x.lng + 1) 3 else 0) ≤ 3
     split <;> omega
 · rw [(qC.1 hf.2).1]
   exact h0.dz
end
theorem vC {c : Co} : c.ok = true ↔ (1 ≤ c.m ∧ c.m ≤ 3 ∧ 1 ≤ c.w ∧ c.w ≤ 8) ∧ c.cx.length = 16 ∧ (∀ i, i < 16 → (c.at i).ok c.m c.w = true) ∧ ∀ i k, k < i → i < 16 → qN (c.at i) (c.at k) = false := by
 constructor
 · intro h
   refine ⟨vB h, zK h, fun i hi => co_sn h i (by rw [zK h]; exact hi), fun i k hk hi => ?_⟩
   have h1 := wg (co_oks h) hi
   rw [Bool.and_eq_true] at h1
   have h2 := wg h1.2 hk
   simpa using h2
 · rintro ⟨h1, h2, h3, h4⟩
   refine okc ?_ h2 ?_
   · unfold zj; exact decide_eq_true h1
   · rw [oks_e, List.all_eq_true]
     intro i hi
     have hi := List.mem_range.1 hi
     unfold yc
     rw [h3 i hi, Bool.true_and, List.all_eq_true]
     intro k hk
     rw [h4 i k (List.mem_range.1 hk) hi]; rfl
theorem vI {s t : Sn} : qN s t = true ↔ s.act = true ∧ t.act = true ∧ qo s.fst t.fst = true := by unfold qN; simp
theorem alike_f {s t : Sn} (h : s.act = true → t.act = true → qo s.fst t.fst = true → False) : qN s t = false := by
 cases hc : qN s t with
 | false => rfl
 | true => rw [vI] at hc; exact (h hc.1 hc.2.1 hc.2.2).elim
theorem co_set {c : Co} {i : Nat} {s : Sn} {h : Hd} (hc : c.ok = true) (hi : i < 16) (hs : s.ok c.m c.w = true) (hf : s.act = true → qo s.fst h = true) (ho : ∀ k, k < 16 → k ≠ i → (c.at k).act = true → qo (c.at k).fst h = false) : (c.set i s).ok = true := by
 obtain ⟨h1, h2, h3, h4⟩ := vC.1 hc
 have hat : ∀ k, k < 16 → (c.set i s).at k = if k = i then s else c.at k := fun k hk => by
   unfold Co.set Co.at
   rw [List.getD_eq_getElem?_getD, List.getElem?_set]
   split
   · rename_i e; subst e; rw [if_pos (by omega), if_pos rfl]; rfl
   · rename_i e; rw [if_neg (fun k => e k.symm), List.getD_eq_getElem?_getD]
 refine vC.2 ⟨h1, by show (c.cx.set i s).length = 16; rw [List.length_set]; exact h2, fun k hk => ?_, fun a b hb ha => ?_⟩
 · rw [hat k hk]
   split
   · exact hs
   · exact h3 k hk
 · rw [hat a ha, hat b (by omega)]
   split
   · rename_i e
     rw [if_neg (by omega)]
     refine alike_f fun x1 x2 x3 => ?_
     have := ho b (by omega) (by omega) x2
     rw [zy (jn x3) (hf x1)] at this
     cases this
   · rename_i e
     split
     · refine alike_f fun x1 x2 x3 => ?_
       have := ho a ha e x1
       rw [zy x3 (hf x2)] at this
       cases this
     · exact h4 a b hb ha
theorem xS {c : Co} {h : Hd} {i : Nat} (hc : c.ok = true) (hf : zu c.cx h = some i) : i < 16 ∧ (c.at i).ok c.m c.w = true ∧ ((c.at i).act = true → qo (c.at i).fst h = true) ∧ ∀ k, k < 16 → k ≠ i → (c.at k).act = true → qo (c.at k).fst h = false := by
 have hl := zK hc
 have hi := findR_lt hf
 obtain ⟨h1, h2, h3, h4⟩ := vC.1 hc
 have ga : ∀ k, (hk : k < c.cx.length) → c.at k = c.cx[k] := fun k hk => by unfold Co.at; simp [List.getD_eq_getElem?_getD, hk]
 refine ⟨by omega, h3 i (by omega), ?_⟩
 unfold zu at hf
 split at hf
 · rename_i j hj
   cases hf
   unfold ownI at hj
   rw [List.findIdx?_eq_some_iff_getElem] at hj
   obtain ⟨hx, h5, -⟩ := hj
   rw [← ga i hi, Bool.and_eq_true] at h5
   refine ⟨fun _ => h5.2, fun k hk hne hka => ?_⟩
   cases hs : qo (c.at k).fst h with
   | false => rfl
   | true =>
     have h6 := zy hs (jn h5.2)
     rcases Nat.lt_or_gt_of_ne hne with hlt | hgt
     · have := h4 i k hlt (by omega)
       rw [vI.2 ⟨h5.1, hka, jn h6⟩] at this; cases this
     · have := h4 k i hgt hk
       rw [vI.2 ⟨hka, h5.1, h6⟩] at this; cases this
 · rename_i hj
   unfold ownI at hj
   rw [List.findIdx?_eq_none_iff] at hj
   have h7 : ∀ k, k < 16 → (c.at k).act = true → qo (c.at k).fst h = false := fun k hk hka => by
     have := hj (c.cx[k]) (List.getElem_mem _)
     rw [← ga k (by omega), hka] at this
     simpa using this
   unfold freeI at hf
   rw [List.findIdx?_eq_some_iff_getElem] at hf
   obtain ⟨hx, h5, -⟩ := hf
   rw [← ga i hi] at h5
   refine ⟨fun ha => (by rw [ha] at h5; cases h5), fun k hk _ hka => h7 k hk hka⟩
theorem comp_ok {c : Co} {h : Hd} {pl : List UInt8} {i : Nat} (hc : c.ok = true) (ho : h.ok = true) (hf : zu c.cx h = some i) : (kX c i h pl).1.ok = true := by
 obtain ⟨hi, hs, hh, hoth⟩ := xS hc hf
 obtain ⟨h1, h2, h3, h4⟩ := vB hc
 have hm := vq h3 hs hh
 have h5 := csF_ok h3 h4 hm.1 ho (f := (qX c.m c.w (c.at i) h).2) hm.2.2.1.1 hm.2.2.2.1.1 hm.2.2.2.2
 exact co_set hc hi h5.1 (fun _ => h5.2.2) hoth
theorem jY {b pl : List UInt8} {h : Hd} (hp : qx b = ((h, pl), 0)) : h.ok = true ∧ zC h pl = (b, 0) ∧ b.length ≤ 1500 ∧ b ≠ [] ∧ pl.length ≤ 1500 := by
 unfold qx at hp
 split at hp
 · exact absurd (congrArg Prod.snd hp) (show ¬ (2 : Int) = 0 by decide)
 · rename_i hl
   split at hp
   · rename_i he
     have e1 : xk b = h := congrArg (fun x => x.1.1) hp
     have e2 : b.drop (wa b) = pl := congrArg (fun x => x.1.2) hp
     rw [e1, e2] at he
     refine ⟨?_, he, by omega, fun e => hl (.inl (by rw [e]; decide)), by rw [← e2, List.length_drop]; omega⟩
     cases ho : h.ok with
     | true => rfl
     | false => rw [bldR_n ho] at he; exact absurd (congrArg Prod.snd he) (show ¬ (1 : Int) = 0 by decide)
   · exact absurd (congrArg Prod.snd hp) (show ¬ (4 : Int) = 0 by decide)
open Go.RowKit
variable {G : Nat → AV}
theorem wj (a b : Hd) : LP Tryd.prog G 24 [a.av, b.av] [] (fun _ => (.bool (qo a b), [])) := by
 refine goW [] Tryd.func24 rfl ?_
 conv => whnf
 repeat' ((first | exact Nm.b 0 | (show LC _ _ _ _ _ _; first | refine LC.pure (yB _) ?_ | refine goE ?_) | refine T.s ?_ | ((first | apply goB | apply AB.dec | apply AB.gen) <;> intro h <;> try (exfalso; omega)) | refine LQ.mk fun r => ?_ | (show SQ _ _ _ _ _ _ _; first | refine gX 1 [2, 1] [0, 2, 1, 3, 4, 5] [] ?_) | exact T.z | fail) <;> conv => whnf)
 all_goals (try dsimp only)
 all_goals
   (show RL _ _ _; refine goR ?_)
   refine congrArg AV.bool ?_
   rw [Bool.eq_iff_iff]
   simp [qo, qH, Hd.static]
theorem vo (a b : Hd) : LP Tryd.prog G 71 [a.av, b.av] [] (fun _ => (iAV (xo a b), [])) := by
 refine goW [] Tryd.func71 rfl ?_
 conv => whnf
 repeat' ((first | refine T.s ?_ | ((first | apply goB | apply AB.dec | apply AB.gen) <;> intro h <;> try (exfalso; omega)) | refine LQ.mk fun r => ?_ | (show SQ _ _ _ _ _ _ _; first | refine SQ.times 3 6 (by rfl) ?_ | refine AtL.step tQ [] ?_) | exact T.z | fail) <;> conv => whnf)
 all_goals (try dsimp only)
 all_goals
   (show RL _ _ _; refine goR ?_)
   unfold xo
   (repeat first | rw [if_pos (by first | assumption | omega)] | rw [if_neg (by first | assumption | omega)])
   rfl
open Go.RowKit
variable {G : Nat → AV}
theorem any_idx {α : Type} (l : List α) (P : α → Bool) : decide (0 ≤ wb (l.findIdx? P)) = l.any P := by
 cases h : l.findIdx? P with
 | none =>
   have : l.any P = false := by
     rw [List.findIdx?_eq_none_iff] at h
     rw [Bool.eq_false_iff]
     intro hh
     obtain ⟨x, hx, hb⟩ := List.any_eq_true.1 hh
     rw [h x hx] at hb
     cases hb
   rw [this]; rfl
 | some j =>
   have : l.any P = true := by
     rw [List.findIdx?_eq_some_iff_getElem] at h
     obtain ⟨h1, h2, -⟩ := h
     exact List.any_eq_true.2 ⟨_, List.getElem_mem h1, h2⟩
   rw [this]
   simp [wb]
theorem cbnd_c (x m : Int) : LP Tryd.prog G 43 [iAV x, iAV m] [] (fun _ => (.bool (inR x m), [])) := by
 refine goW [] Tryd.func43 rfl ?_
 conv => whnf
 repeat' ((first | refine T.s ?_ | ((first | apply goB | apply AB.dec | apply AB.gen) <;> intro h <;> try (exfalso; omega)) | refine LQ.mk fun r => ?_ | exact T.z | fail) <;> conv => whnf)
 all_goals (try dsimp only)
 all_goals
   (show RL _ _ _; refine goR ?_)
   simp [inR, ql, *]
theorem vr (m w : Int) : LP Tryd.prog G 21 [iAV m, iAV w] [] (fun _ => (.bool (zj m w), [])) := by
 refine goW [] Tryd.func21 rfl ?_
 conv => whnf
 repeat' ((first | refine T.s ?_ | ((first | apply goB | apply AB.dec | apply AB.gen) <;> intro h <;> try (exfalso; omega)) | refine LQ.mk fun r => ?_ | exact T.z | fail) <;> conv => whnf)
 all_goals (try dsimp only)
 all_goals
   (show RL _ _ _; refine goR ?_)
   unfold zj
   simp [ql, *]
theorem wo (m w : Int) : LP Tryd.prog G 6 [iAV m, iAV w] [] (fun _ => (.tup [(zO m w).1.av, iAV (zO m w).2], [])) := by
 have hs := vr (G := G) m w
 by_cases h : 1 ≤ m ∧ m ≤ 3 ∧ 1 ≤ w ∧ w ≤ 8
 · rw [yP h]
   rw [show zj m w = true from decide_eq_true h] at hs
   refine goW [] Tryd.func6 rfl ?_
   conv => whnf
   repeat' ((first | (show LC _ _ _ _ _ _; first | refine LC.pure (hs) ?_ | refine goE ?_) | (show AQ _ _; first | (refine AQ.eq (cs' := (List.replicate 16 ()).flatMap fun _ => zsn) rfl ?_)) | refine T.s ?_ | ((first | apply goB | apply AB.dec | apply AB.gen) <;> intro h <;> try (exfalso; omega)) | refine LQ.mk fun r => ?_ | exact T.z | fail) <;> conv => whnf)
   all_goals (try dsimp only)
   all_goals
     refine RL.frz [r] (LF.tup (xs := [.agg [.int .i64 m, .int .i64 w, .vw r 0 16 9], .int .i64 0]) (ys := [Co.av ⟨m, w, List.replicate 16 Sn.z⟩, iAV 0]) ⟨LF.agg (xs := [.int .i64 m, .int .i64 w, .vw r 0 16 9]) (ys := [iAV m, iAV w, snv (List.replicate 16 Sn.z)]) ⟨LF.eq rfl, LF.eq rfl, LF.rowN InL.here ?_, trivial⟩, LF.eq rfl, trivial⟩) ?_
     · (repeat first | refine goH ?_ | apply LH.here | apply LH.next)
       exact ⟨by decide, by kernel_rfl, by simp, by
         rw [show (List.replicate 16 Sn.z).flatMap Sn.cs = (List.replicate 16 ()).flatMap fun _ => Sn.z.cs by kernel_rfl]
         exact LFs.fm (fun _ => zsn_f) _⟩
     · (repeat first | refine goH ?_ | apply LH.here | apply LH.next)
       exact LB.nil
 · rw [shapR_f h]
   rw [show zj m w = false from decide_eq_false h] at hs
   refine goW [] Tryd.func6 rfl ?_
   conv => whnf
   repeat' ((first | (show LC _ _ _ _ _ _; first | refine LC.pure (hs) ?_ | refine goE ?_) | refine T.s ?_ | ((first | apply goB | apply AB.dec | apply AB.gen) <;> intro h <;> try (exfalso; omega)) | refine LQ.mk fun r => ?_ | exact T.z | fail) <;> conv => whnf)
   all_goals (try dsimp only)
   all_goals exact RL.coz
theorem hidx_c {P : Hd → Bool} (F : Nat) (p : Nm) (pl : Pl) (hp : ∀ h : Hd, LP Tryd.prog G F [h.av, .ptr p 0] [(p, pl)] (fun _ => (.bool (P h), [(p, pl)]))) (l : List Hd) (hl : l.length ≤ 100000) : LP Tryd.prog G 80 [hdv l, .clo (.func F) [] [.ptr p 0]] [(p, pl)] (fun _ => (iAV (wb (l.findIdx? P)), [(p, pl)])) := by
 refine goW [] Tryd.func80 rfl ?_
 conv => whnf
 repeat' ((first | (refine And.intro ?_ ?_; (focus (first | exact xt Hd.cs_len (by assumption) | exact T.kx | exact T.side))) | (show LC _ _ _ _ _ _; first | (apply LC.upd (hp (l.getD i Hd.z)); (repeat first | refine goH ?_ | apply LH.here | apply LH.next); refine ⟨rfl, ?_⟩) | refine goE ?_) | (show AC _ _ _; first | (refine AC.recd Hd.cs_len i Hd.z rfl rfl ?_ ?_; (focus omega))) | refine T.s ?_ | ((first | apply goB | apply AB.dec | apply AB.gen) <;> intro h <;> try (exfalso; omega)) | refine LQ.mk fun r => ?_ | (show SQ _ _ _ (.loop _) _ _ _; first | (apply goO tQ [] 2 (S := Nat) [0, 1, 7] (fun i => ⟨[(8, .int .i64 i)], [(p, pl)], i ≤ l.length ∧ (l.take i).findIdx? P = none, l.length - i⟩) (0) (by rfl); (focus (all_goals (try exact K7E1); done)); rintro i ⟨hk, hok⟩)) | (show AtL _ _ _ _ _ _ _ _ _ _; first | (apply AtL.mk' (id := 2) (S := Nat) (i + 1); all_goals (try exact K7E1); done) | (apply AtL.mk' (id := 2) (S := Nat) (i + 1); all_goals (try exact K7E1))) | exact T.z | fail) <;> conv => whnf)
 all_goals (try dsimp only)
 all_goals first
   | ((show RL _ _ _; refine goR ?_); rw [wI l i Hd.z (by omega) hok (by assumption)]; rfl)
   | ((show RL _ _ _; refine goR ?_); rw [gidx_e (by omega) hok]; rfl)
   | trace_state
theorem hcont_c {P : Hd → Bool} (F : Nat) (p : Nm) (pl : Pl) (hp : ∀ h : Hd, LP Tryd.prog G F [h.av, .ptr p 0] [(p, pl)] (fun _ => (.bool (P h), [(p, pl)]))) (l : List Hd) (hl : l.length ≤ 100000) : LP Tryd.prog G 47 [hdv l, .clo (.func F) [] [.ptr p 0]] [(p, pl)] (fun _ => (.bool (l.any P), [(p, pl)])) := by
 have e := any_idx l P
 refine goW [] Tryd.func47 rfl ?_
 conv => whnf
 repeat' ((first | (show LC _ _ _ _ _ _; first | (apply LC.upd (hidx_c F p pl hp l hl); (repeat first | refine goH ?_ | apply LH.here | apply LH.next); refine ⟨rfl, ?_⟩) | refine goE ?_) | refine T.s ?_ | ((first | apply goB | apply AB.dec | apply AB.gen) <;> intro h <;> try (exfalso; omega)) | refine LQ.mk fun r => ?_ | exact T.z | fail) <;> conv => whnf)
 all_goals (try dsimp only)
 all_goals
   (show RL _ _ _; refine goR ?_)
   rw [← e]
   rfl
theorem sidx_c {P : Sn → Bool} (F : Nat) (p : Nm) (pl : Pl) (l : List Sn) (n : Nat) (hn : n = l.length) (hp : ∀ i : Nat, i < l.length → LP Tryd.prog G F [(l.getD i Sn.z).av, .ptr p 0] [(p, pl)] (fun _ => (.bool (P (l.getD i Sn.z)), [(p, pl)]))) (hl : l.length ≤ 100000) : LP Tryd.prog G 49 [.sl n (l.flatMap Sn.cs), .clo (.func F) [] [.ptr p 0]] [(p, pl)] (fun _ => (iAV (wb (l.findIdx? P)), [(p, pl)])) := by
 subst hn
 refine goW [] Tryd.func49 rfl ?_
 conv => whnf
 repeat' ((first | (refine And.intro ?_ ?_; (focus (first | exact xt Sn.cs_len (by assumption) | exact T.kx | exact T.side))) | (show LC _ _ _ _ _ _; first | (apply LC.upd (hp i (by omega)); (repeat first | refine goH ?_ | apply LH.here | apply LH.next); refine ⟨rfl, ?_⟩) | refine goE ?_) | (show AC _ _ _; first | (refine AC.recd Sn.cs_len i Sn.z rfl rfl ?_ ?_; (focus omega))) | refine T.s ?_ | ((first | apply goB | apply AB.dec | apply AB.gen) <;> intro h <;> try (exfalso; omega)) | refine LQ.mk fun r => ?_ | (show SQ _ _ _ (.loop _) _ _ _; first | (apply goO tQ [] 2 (S := Nat) [0, 1, 7] (fun i => ⟨[(8, .int .i64 i)], [(p, pl)], i ≤ l.length ∧ (l.take i).findIdx? P = none, l.length - i⟩) (0) (by rfl); (focus (all_goals (try exact KEA7); done)); rintro i ⟨hk, hok⟩)) | (show AtL _ _ _ _ _ _ _ _ _ _; first | (apply AtL.mk' (id := 2) (S := Nat) (i + 1); all_goals (try exact KEA7); done) | (apply AtL.mk' (id := 2) (S := Nat) (i + 1); all_goals (try exact KEA7))) | exact T.z | fail) <;> conv => whnf)
 all_goals (try dsimp only)
 all_goals first
   | ((show RL _ _ _; refine goR ?_); rw [wI l i Sn.z (by omega) hok (by assumption)]; rfl)
   | ((show RL _ _ _; refine goR ?_); rw [gidx_e (by omega) hok]; rfl)
   | trace_state
theorem sidx0_c {P : Sn → Bool} (F : Nat) (hp : ∀ s : Sn, LP Tryd.prog G F [s.av] [] (fun _ => (.bool (P s), []))) (l : List Sn) (n : Nat) (hn : n = l.length) (hl : l.length ≤ 100000) : LP Tryd.prog G 49 [.sl n (l.flatMap Sn.cs), .clo (.func F) [] []] [] (fun _ => (iAV (wb (l.findIdx? P)), [])) := by
 subst hn
 refine goW [] Tryd.func49 rfl ?_
 conv => whnf
 repeat' ((first | (refine And.intro ?_ ?_; (focus (first | exact xt Sn.cs_len (by assumption) | exact T.kx | exact T.side))) | (show LC _ _ _ _ _ _; first | refine LC.pure (hp (l.getD i Sn.z)) ?_ | refine goE ?_) | (show AC _ _ _; first | (refine AC.recd Sn.cs_len i Sn.z rfl rfl ?_ ?_; (focus omega))) | refine T.s ?_ | ((first | apply goB | apply AB.dec | apply AB.gen) <;> intro h <;> try (exfalso; omega)) | refine LQ.mk fun r => ?_ | (show SQ _ _ _ (.loop _) _ _ _; first | (apply goO tQ [] 2 (S := Nat) [0, 1, 7] (fun i => ⟨[(8, .int .i64 i)], [], i ≤ l.length ∧ (l.take i).findIdx? P = none, l.length - i⟩) (0) (by rfl); (focus (all_goals (try exact KEA7); done)); rintro i ⟨hk, hok⟩)) | (show AtL _ _ _ _ _ _ _ _ _ _; first | (apply AtL.mk' (id := 2) (S := Nat) (i + 1); all_goals (try exact KEA7); done) | (apply AtL.mk' (id := 2) (S := Nat) (i + 1); all_goals (try exact KEA7))) | exact T.z | fail) <;> conv => whnf)
 all_goals (try dsimp only)
 all_goals first
   | ((show RL _ _ _; refine goR ?_); rw [wI l i Sn.z (by omega) hok (by assumption)]; rfl)
   | ((show RL _ _ _; refine goR ?_); rw [gidx_e (by omega) hok]; rfl)
   | trace_state
theorem scont_c {P : Sn → Bool} (F : Nat) (p : Nm) (pl : Pl) (l : List Sn) (n : Nat) (hn : n = l.length) (hp : ∀ i : Nat, i < l.length → LP Tryd.prog G F [(l.getD i Sn.z).av, .ptr p 0] [(p, pl)] (fun _ => (.bool (P (l.getD i Sn.z)), [(p, pl)]))) (hl : l.length ≤ 100000) : LP Tryd.prog G 25 [.sl n (l.flatMap Sn.cs), .clo (.func F) [] [.ptr p 0]] [(p, pl)] (fun _ => (.bool (l.any P), [(p, pl)])) := by
 have e := any_idx l P
 refine goW [] Tryd.func25 rfl ?_
 conv => whnf
 repeat' ((first | (show LC _ _ _ _ _ _; first | (apply LC.upd (sidx_c F p pl l n hn hp hl); (repeat first | refine goH ?_ | apply LH.here | apply LH.next); refine ⟨rfl, ?_⟩) | refine goE ?_) | refine T.s ?_ | ((first | apply goB | apply AB.dec | apply AB.gen) <;> intro h <;> try (exfalso; omega)) | refine LQ.mk fun r => ?_ | exact T.z | fail) <;> conv => whnf)
 all_goals (try dsimp only)
 all_goals
   (show RL _ _ _; refine goR ?_)
   rw [← e]
   rfl
open Go.RowKit
variable {G : Nat → AV}
theorem hclone_c (l : List Hd) (hl : l.length ≤ 100000) : LP Tryd.prog G 54 [hdv l] [] (fun _ => (hdv l, [])) := by
 by_cases h : 0 < l.length
 · refine goW [] Tryd.func54 rfl ?_
   conv => whnf
   repeat' ((first | (refine And.intro ?_ ?_; (focus (first | exact qJ Hd.cs_len _ | exact hds_one _ | (rw [qJ Hd.cs_len]; omega) | omega | exact T.kx | exact T.side))) | refine T.s ?_ | ((first | apply goB | apply AB.dec | apply AB.gen) <;> intro h <;> try (exfalso; omega)) | refine LQ.mk fun r => ?_ | exact T.z | fail) <;> conv => whnf)
   all_goals (try dsimp only)
   all_goals
     refine RL.frz [r] (LF.row InL.here ?_) ?_
     · (repeat first | refine goH ?_ | apply LH.here | apply LH.next)
       exact ⟨by decide, by simp [qJ Hd.cs_len], by simp, by simp⟩
     · (repeat first | refine goH ?_ | apply LH.here | apply LH.next)
       exact LB.nil
 · obtain rfl : l = [] := List.eq_nil_of_length_eq_zero (by omega)
   refine LP.empty ?_ fun a0 cap hc => ?_
   · refine goW [] Tryd.func54 rfl ?_
     conv => whnf
     repeat' ((first | refine T.s ?_ | ((first | apply goB | apply AB.dec | apply AB.gen) <;> intro h <;> try (exfalso; omega)) | refine LQ.mk fun r => ?_ | exact T.z | fail) <;> conv => whnf)
     all_goals (try dsimp only)
     exact RL.frz [] (LF.nils rfl rfl) LB.nil
   · refine goW [] Tryd.func54 rfl ?_
     conv => whnf
     repeat' ((first | refine T.s ?_ | ((first | apply goB | apply AB.dec | apply AB.gen) <;> intro h <;> try (exfalso; omega)) | refine LQ.mk fun r => ?_ | exact T.z | fail) <;> conv => whnf)
     all_goals (try dsimp only)
     refine RL.frz [r] (LF.row InL.here ?_) ?_
     · (repeat first | refine goH ?_ | apply LH.here | apply LH.next)
       exact ⟨by decide, rfl, rfl, rfl⟩
     · (repeat first | refine goH ?_ | apply LH.here | apply LH.next)
       exact LB.nil
section
variable {P : Program}
theorem LP.adopt {f : FuncId} {args : List AV} (t : TypeId) (sz : Nat) (h : LP P G f args [] (fun _ => (.nils, []))) : LP P G f args [] (fun q => (.vw q 0 0 sz, [(q, ⟨t, []⟩)])) := by
 unfold LP at h ⊢
 refine ⟨h.1, fun q => ⟨by simp, by simp⟩, fun τ w vs h1 h2 h3 h4 h5 => (h.2.2 τ w vs h1 h2 h3 h4 h5).mono ?_⟩
 rintro e w' ⟨v, q, k1, -, -, k4, k5, k6⟩
 have k4 : Rd τ w' .nils v := k4
 have k5 : Mem τ w' := k5
 have k6 : Stp τ w τ w' := k6
 obtain ⟨B, hB⟩ := k5.fin
 have hk := hB B (Nat.le_refl _)
 have hst : Stp τ w' (Go.Proofs.YtbagbjacmakfhaaDoor.upd τ (.v B) ⟨t, []⟩) w' := Stp.forget _ _ w' fun b hb => by rw [qg _ _ (by simp)]; exact hb
 refine ⟨v, .v B, k1, hk, by simp, ?_, ?_, k6.trans hst⟩
 · cases k4
   exact .vwnil _ _
 · show Mem (Go.Proofs.YtbagbjacmakfhaaDoor.upd τ (.v B) ⟨t, []⟩) w'
   refine ⟨fun q c hq => ?_, fun m c hm => ?_, xT k5.fin _ _⟩
   · rw [qg _ _ (by simp)] at hq
     obtain ⟨cur, k1, k2, k3⟩ := k5.pl q c hq
     exact ⟨cur, k1, k2, fun i hi => (k3 i hi).mono hst⟩
   · by_cases hmk : m = B
     · subst hmk; rw [qp] at hm; cases hm; rfl
     · rw [qg _ _ (by simp; exact hmk)] at hm
       exact k5.vl m c hm
end
theorem hclone_o (l : List Hd) (hl : l.length ≤ 100000) : LP Tryd.prog G 54 [hdv l] [] (fun q => (.vw q 0 l.length 15, [(q, ⟨38, l.flatMap Hd.cs⟩)])) := by
 by_cases h : 0 < l.length
 · refine goW [] Tryd.func54 rfl ?_
   conv => whnf
   repeat' ((first | (refine And.intro ?_ ?_; (focus (first | exact qJ Hd.cs_len _ | exact hds_one _ | (rw [qJ Hd.cs_len]; omega) | omega | exact T.kx | exact T.side))) | refine T.s ?_ | ((first | apply goB | apply AB.dec | apply AB.gen) <;> intro h <;> try (exfalso; omega)) | refine LQ.mk fun r => ?_ | exact T.z | fail) <;> conv => whnf)
   all_goals (try dsimp only)
   all_goals
     refine RL.own r ?_ ?_ ?_
     · rw [Nat.zero_add]
     · (repeat first | refine goH ?_ | apply LH.here | apply LH.next); trivial
     · (repeat' first | exact LB.nil | (with_reducible exact LB.refl) | (apply LB.cons; (repeat first | refine goH ?_ | apply LH.here | apply LH.next); refine And.intro ?_ ?_; (focus (try (first | (with_reducible rfl) | (refine congrArg (Pl.mk _) ?_; (first | rfl | (simp; done))) | rfl | (with_reducible refine congrArg (Pl.mk _) ?_))))))
 · obtain rfl : l = [] := List.eq_nil_of_length_eq_zero (by omega)
   refine LP.empty ?_ fun a0 cap hc => ?_
   · refine LP.adopt 38 15 ?_
     refine goW [] Tryd.func54 rfl ?_
     conv => whnf
     repeat' ((first | refine T.s ?_ | ((first | apply goB | apply AB.dec | apply AB.gen) <;> intro h <;> try (exfalso; omega)) | refine LQ.mk fun r => ?_ | exact T.z | fail) <;> conv => whnf)
     all_goals (try dsimp only)
     exact RL.val rfl LB.nil
   · refine goW [] Tryd.func54 rfl ?_
     conv => whnf
     repeat' ((first | refine T.s ?_ | ((first | apply goB | apply AB.dec | apply AB.gen) <;> intro h <;> try (exfalso; omega)) | refine LQ.mk fun r => ?_ | exact T.z | fail) <;> conv => whnf)
     all_goals (try dsimp only)
     refine RL.own r ?_ ?_ ?_
     · rfl
     · (repeat first | refine goH ?_ | apply LH.here | apply LH.next); trivial
     · (repeat' first | exact LB.nil | (with_reducible exact LB.refl) | (apply LB.cons; (repeat first | refine goH ?_ | apply LH.here | apply LH.next); refine And.intro ?_ ?_; (focus (try (first | (with_reducible rfl) | (refine congrArg (Pl.mk _) ?_; (first | rfl | (simp; done))) | rfl | (with_reducible refine congrArg (Pl.mk _) ?_))))))
theorem sns_one (l : List Sn) : ((l.flatMap Sn.cs).all AV.one) = true := by
 induction l with
 | nil => rfl
 | cons x l ih => rw [List.flatMap_cons, List.all_append, ih]; rfl
theorem sclone_c (l : List Sn) (h : 0 < l.length) (hl : l.length ≤ 100000) : LP Tryd.prog G 53 [snv l] [] (fun q => (.vw q 0 l.length 9, [(q, ⟨55, l.flatMap Sn.cs⟩)])) := by
 refine goW [] Tryd.func53 rfl ?_
 conv => whnf
 repeat' ((first | (refine And.intro ?_ ?_; (focus (first | exact qJ Sn.cs_len _ | exact sns_one _ | (rw [qJ Sn.cs_len]; omega) | omega | exact T.kx | exact T.side))) | refine T.s ?_ | ((first | apply goB | apply AB.dec | apply AB.gen) <;> intro h <;> try (exfalso; omega)) | refine LQ.mk fun r => ?_ | exact T.z | fail) <;> conv => whnf)
 all_goals (try dsimp only)
 all_goals
   refine RL.own r ?_ ?_ ?_
   · rw [Nat.zero_add]
   · (repeat first | refine goH ?_ | apply LH.here | apply LH.next); trivial
   · (repeat' first | exact LB.nil | (with_reducible exact LB.refl) | (apply LB.cons; (repeat first | refine goH ?_ | apply LH.here | apply LH.next); refine And.intro ?_ ?_; (focus (try (first | (with_reducible rfl) | (refine congrArg (Pl.mk _) ?_; (first | rfl | (simp; done))) | rfl | (with_reducible refine congrArg (Pl.mk _) ?_))))))
def wrgB (a : Hd) (h : Hd) : Bool := !(h.ok && qo h a)
theorem cwrg_c (p : Nm) (a h : Hd) : LP Tryd.prog G 44 [h.av, .ptr p 0] [(p, ⟨38, a.cs⟩)] (fun _ => (.bool (wrgB a h), [(p, ⟨38, a.cs⟩)])) := by
 refine goW [] Tryd.func44 rfl ?_
 conv => whnf
 repeat' ((first | (show LC _ _ _ _ _ _; first | refine LC.pure (zt h) ?_ | refine LC.pure (wj _ _) ?_ | refine goE ?_) | refine T.s ?_ | ((first | apply goB | apply AB.dec | apply AB.gen) <;> intro h <;> try (exfalso; omega)) | refine LQ.mk fun r => ?_ | exact T.z | fail) <;> conv => whnf)
 all_goals (try dsimp only)
 all_goals
   (show RL _ _ _; refine goR ?_)
   simp [wrgB, *]
theorem cempty_c (s : Sn) : LP Tryd.prog G 42 [s.av] [] (fun _ => (.bool (jg s), [])) := by
 rw [emptyR_e, Dy.eqz]
 refine goW [] Tryd.func42 rfl ?_
 conv => whnf
 repeat' ((first | refine T.s ?_ | ((first | apply goB | apply AB.dec | apply AB.gen) <;> intro h <;> try (exfalso; omega)) | refine LQ.mk fun r => ?_ | exact T.z | fail) <;> conv => whnf)
 all_goals (try dsimp only)
 all_goals
   (show RL _ _ _; refine goR ?_)
   refine congrArg AV.bool ?_
   simp_all [ql]
   try (rw [Bool.eq_iff_iff]; simp)
theorem rfs_all (s : Sn) : (s.rf.all fun r => r.ok && qo r s.fst) = !(s.rf.any (wrgB (s.rf.getD 0 Hd.z))) := by
 rw [List.any_eq_not_all_not]
 simp [wrgB, Sn.fst]
theorem ok_prog {m w : Int} {s : Sn} (h : s.act = true) : s.ok m w = (!decide ((s.rf.length : Int) < 1) && (!decide (xC m w < (s.rf.length : Int)) && (inR s.ser s.rf.length && (inR s.full w && (inR s.refr w && (!(decide (0 < s.full) && decide (0 < s.refr)) &&
     (inR s.sin 32 && (inR s.lng 3 && (s.dy.ok && ((decide ((s.rf.getD 0 Hd.z).k = 2) || qH [(s.dy.st, 0), (s.dy.fo, 0)]) && !(s.rf.any (wrgB (s.rf.getD 0 Hd.z))))))))))))) := by
 unfold Sn.ok
 rw [if_pos h, rfs_all, ← Dy.eqz]
 have e1 : decide (1 ≤ s.rf.length ∧ (s.rf.length : Int) ≤ xC m w) = (!decide ((s.rf.length : Int) < 1) && !decide (xC m w < (s.rf.length : Int))) := by
   rw [Bool.eq_iff_iff]; simp; omega
 have e2 : decide (¬ (0 < s.full ∧ 0 < s.refr)) = !(decide (0 < s.full) && decide (0 < s.refr)) := by
   rw [Bool.eq_iff_iff]; simp
 rw [e1, e2, Bool.decide_or, Bool.and_assoc]
 rfl
theorem cctx_c (s : Sn) (m w : Int) (hw : w ≤ 8) : LP Tryd.prog G 22 [s.av, iAV m, iAV w] [] (fun _ => (.bool (s.ok m w), [])) := by
 cases h0 : s.act with
 | false =>
   rw [show s.ok m w = jg s by unfold Sn.ok; rw [if_neg (by rw [h0]; decide)]]
   refine goW [] Tryd.func22 rfl ?_
   conv => whnf
   repeat' ((first | (show LC _ _ _ _ _ _; first | refine LC.pure (cempty_c s) ?_ | refine goE ?_) | refine T.s ?_ | ((first | apply goB | apply AB.dec | apply AB.gen) <;> intro h <;> try (exfalso; omega)) | refine LQ.mk fun r => ?_ | exact T.z | fail) <;> conv => whnf)
   all_goals (try dsimp only)
   all_goals
     (show RL _ _ _; refine goR ?_)
     rfl
 | true =>
   have hM : (m = 3 → xC m w = 32) ∧ (¬ m = 3 → xC m w = w) := ⟨fun e => if_pos e, fun e => if_neg e⟩
   rw [ok_prog h0]
   generalize xC m w = M at hM ⊢
   refine goW [] Tryd.func22 rfl ?_
   conv => whnf
   repeat' ((first | (refine And.intro ?_ ?_; (focus (first | exact xP (by omega) | exact T.kx | exact T.side))) | (show LC _ _ _ _ _ _; first | refine LC.pure (cbnd_c _ _) ?_ | refine LC.pure (xD s.dy) ?_ | (apply LC.upd (hcont_c 44 _ ⟨38, (s.rf.getD 0 Hd.z).cs⟩ (fun h => cwrg_c _ _ h) s.rf (by omega)); (repeat first | refine goH ?_ | apply LH.here | apply LH.next); refine ⟨rfl, ?_⟩) | refine goE ?_) | (show AC _ _ _; first | (refine AC.recd Hd.cs_len 0 Hd.z rfl rfl ?_ ?_; (focus omega))) | refine T.s ?_ | ((first | apply goB | apply AB.dec | apply AB.gen) <;> intro h) | refine LQ.mk fun r => ?_ | exact T.z | fail) <;> conv => whnf)
   all_goals (try dsimp only)
   all_goals
     (show RL _ _ _; refine goR ?_)
     refine congrArg AV.bool ?_
     generalize s.rf.getD 0 Hd.z = X at *
     generalize s.rf.any (wrgB X) = Z at *
     first
       | (have e3 : m = 3 := (by assumption); rw [hM.1 e3]; simp [*]; done)
       | (have e3 : ¬ m = 3 := (by assumption); rw [hM.2 e3]; simp [*]; done)
       | trace_state
open Go.RowKit
variable {G : Nat → AV}
attribute [local irreducible] qo
theorem cali_c (p : Nm) (s t : Sn) (hs : s.act = true → 0 < s.rf.length) (ht : t.act = true → 0 < t.rf.length) : LP Tryd.prog G 23 [t.av, .ptr p 0] [(p, ⟨55, s.cs⟩)] (fun _ => (.bool (qN s t), [(p, ⟨55, s.cs⟩)])) := by
 have hsm : LP Tryd.prog G 24 [(s.rf.getD 0 Hd.z).av, (t.rf.getD 0 Hd.z).av] [] (fun _ => (.bool (qo s.fst t.fst), [])) := wj _ _
 refine goW [] Tryd.func23 rfl ?_
 conv => whnf
 repeat' ((first | exact Nm.b 0 | (refine And.intro ?_ ?_; (focus (first | exact xP (hs (by assumption)) | exact xP (ht (by assumption)) | exact Int.ofNat_lt.2 (hs (by assumption)) | exact Int.ofNat_lt.2 (ht (by assumption)) | exact T.kx | exact T.side))) | (show LC _ _ _ _ _ _; first | refine LC.pure (hsm) ?_ | refine goE ?_) | (show AC _ _ _; first | (refine AC.recd Hd.cs_len 0 Hd.z rfl rfl (hs (by assumption)) ?_) | (refine AC.recd Hd.cs_len 0 Hd.z rfl rfl (ht (by assumption)) ?_)) | refine T.s ?_ | ((first | apply goB | apply AB.dec | apply AB.gen) <;> intro h <;> try (exfalso; omega)) | refine LQ.mk fun r => ?_ | (show SQ _ _ _ _ _ _ _; first | refine gX 1 [] [0, 1, 2, 3, 4, 5, 6, 7, 8, 9, 10, 11, 12, 13, 14, 15, 16, 17] [] ?_) | exact T.z | fail) <;> conv => whnf)
 all_goals (try dsimp only)
 all_goals
   (show RL _ _ _; refine goR ?_)
   simp [qN, *]
theorem ali_all (c : Co) (i : Nat) (hi : i ≤ c.cx.length) : ((List.range i).all fun k => !qN (c.at i) (c.at k)) = !((c.cx.take i).any (qN (c.at i))) := by
 rw [List.any_eq_not_all_not, Bool.not_not]
 have e : c.cx.take i = (List.range i).map fun k => c.at k := by
   apply List.ext_getElem
   · simp; omega
   · intro n h1 h2
     simp at h1 h2
     simp [Co.at, List.getD_eq_getElem?_getD, show n < c.cx.length by omega]
 rw [e, List.all_map]
 rfl
theorem oks_nxt {c : Co} {i : Nat} (h1 : c.oks i = true) (h2 : (c.at i).ok c.m c.w = true) (hi : i ≤ c.cx.length) (h3 : (c.cx.take i).any (qN (c.at i)) = false) : c.oks (i + 1) = true := by
 rw [oks_e, j3, ← oks_e, h1]
 unfold yc
 rw [h2, ali_all c i hi, h3]
 rfl
theorem oksG_3 {c : Co} {i : Nat} (hi : i ≤ c.cx.length) (h3 : (c.cx.take i).any (qN (c.at i)) = true) : yc c i = false := by
 unfold yc
 rw [ali_all c i hi, h3]
 simp
theorem take_at {c : Co} {i k : Nat} (hk : k < (c.cx.take i).length) : (c.cx.take i).getD k Sn.z = c.at k := by
 have : k < i := by simp at hk; omega
 simp [Co.at, List.getD_eq_getElem?_getD, List.getElem?_take, this]
theorem cali_i (c : Co) (i : Nat) (p : Nm) (h1 : c.oks i = true) (h2 : (c.at i).ok c.m c.w = true) (k : Nat) (hk : k < (c.cx.take i).length) : LP Tryd.prog G 23 [((c.cx.take i).getD k Sn.z).av, .ptr p 0] [(p, ⟨55, (c.at i).cs⟩)] (fun _ => (.bool (qN (c.at i) ((c.cx.take i).getD k Sn.z)), [(p, ⟨55, (c.at i).cs⟩)])) := by
 rw [take_at hk]
 have hk2 : k < i := by simp at hk; omega
 exact cali_c p _ _ (fun ha => kV h2 ha) (fun ha => oks_rf h1 k hk2 ha)
theorem pre_e {c : Co} {i n : Nat} (hn : n = i) (hi : i ≤ c.cx.length) : ((c.cx.flatMap Sn.cs).drop 0).take (n * 9) = (c.cx.take i).flatMap Sn.cs := by
 subst hn
 rw [List.drop_zero, vk Sn.cs_len]
theorem cpvalid_t (c : Co) (hs : zj c.m c.w = true) (h16 : c.cx.length = 16) : LP Tryd.prog G 10 [c.av] [] (fun _ => (.bool c.ok, [])) := by
 have hsh := vr (G := G) c.m c.w
 rw [hs] at hsh
 have hs2 := hs
 simp only [zj, decide_eq_true_eq] at hs2
 have hctx : ∀ i : Nat, (i : Int) < (c.cx.length : Int) → LP Tryd.prog G 22 [(c.cx.getD i Sn.z).av, iAV c.m, iAV c.w] [] (fun _ => (.bool ((c.at i).ok c.m c.w), [])) := fun i hi => cctx_c _ _ _ hs2.2.2.2
 refine goW [] Tryd.func10 rfl ?_
 conv => whnf
 repeat' ((first | (refine And.intro ?_ ?_; (focus (first | exact xt Sn.cs_len (by assumption) | exact Nat.le_of_eq (qJ Sn.cs_len _).symm | exact T.kx | exact T.side))) | (show LC _ _ _ _ _ _; first | refine LC.pure (hsh) ?_ | refine LC.pure (hctx i (by assumption)) ?_ | (apply LC.upd (scont_c 23 _ ⟨55, (c.at i).cs⟩ (c.cx.take i) _ (by simp; omega) (cali_i c i _ (by assumption) (by assumption)) (by simp; omega)); (repeat first | refine goH ?_ | apply LH.here | apply LH.next); refine ⟨rfl, ?_⟩) | refine goE ?_) | (show AC _ _ _; first | (refine AC.recd Sn.cs_len i Sn.z rfl rfl ?_ ?_; (focus omega))) | (show AQ _ _; first | (refine AQ.eq (pre_e (c := c) (i := i) (by simp) (by omega)) ?_)) | refine T.s ?_ | ((first | apply goB | apply AB.dec | apply AB.gen) <;> intro h <;> try (exfalso; omega)) | refine LQ.mk fun r => ?_ | (show SQ _ _ _ (.loop _) _ _ _; first | (apply goO tQ [] 4 (S := Nat × Nm) [19, 20] (fun (i, a) => ⟨[(21, .int .i64 i), (1, .ptr a 0)], [(a, ⟨24, [iAV c.m, iAV c.w, snv c.cx]⟩)], i ≤ 16 ∧ c.oks i = true, 16 - i⟩) ((0, _)) (by rfl); (focus (all_goals (try exact K42B); done)); rintro ⟨i, a⟩ ⟨hk, hok⟩)) | (show AtL _ _ _ _ _ _ _ _ _ _; first | (apply AtL.mk' (id := 4) (S := Nat × Nm) ((i + 1, _)); all_goals (try exact K42B); done) | (apply AtL.mk' (id := 4) (S := Nat × Nm) ((i + 1, _)); all_goals (try exact K42B))) | (show (_ → _) ∧ (¬ _ → _); first | refine T.y ?_ | refine qE (fun h => ?_) (fun h => ?_)) | exact T.z | fail) <;> conv => whnf)
 all_goals (try dsimp only)
 all_goals first
   | ((show RL _ _ _; refine goR ?_); rw [okc_n (jT i (by omega) (oksG_1 (by assumption)))])
   | ((show RL _ _ _; refine goR ?_); rw [okc_n (jT i (by omega) (oksG_3 (by omega) (by assumption)))])
   | ((show RL _ _ _; refine goR ?_); obtain rfl : i = 16 := (by omega); rw [okc hs h16 (by assumption)])
   | trace_state
theorem z9 (c : Co) : LP Tryd.prog G 10 [c.av] [] (fun _ => (.bool c.ok, [])) := by
 by_cases hs : zj c.m c.w = true ∧ c.cx.length = 16
 · exact cpvalid_t c hs.1 hs.2
 · have hsh := vr (G := G) c.m c.w
   have hf : c.ok = false := by
     unfold Co.ok
     cases h : zj c.m c.w with
     | false => rfl
     | true => rw [decide_eq_false (fun e => hs ⟨h, e⟩)]; rfl
   rw [hf]
   cases hsp : zj c.m c.w with
   | false =>
     rw [hsp] at hsh
     refine goW [] Tryd.func10 rfl ?_
     conv => whnf
     repeat' ((first | (show LC _ _ _ _ _ _; first | refine LC.pure (hsh) ?_ | refine goE ?_) | refine T.s ?_ | ((first | apply goB | apply AB.dec | apply AB.gen) <;> intro h <;> try (exfalso; omega)) | refine LQ.mk fun r => ?_ | (show (_ → _) ∧ (¬ _ → _); first | refine T.y ?_ | refine qE (fun h => ?_) (fun h => ?_)) | exact T.z | fail) <;> conv => whnf)
     all_goals (try dsimp only)
     all_goals ((show RL _ _ _; refine goR ?_); rfl)
   | true =>
     rw [hsp] at hsh
     have hne : ¬ (c.cx.length : Int) = 16 := fun e => hs ⟨hsp, by omega⟩
     refine goW [] Tryd.func10 rfl ?_
     conv => whnf
     repeat' ((first | ((with_reducible show AB (ql .neq _ 16) _ _); refine AB.neqT hne ?_) | (show LC _ _ _ _ _ _; first | refine LC.pure (hsh) ?_ | refine goE ?_) | refine T.s ?_ | ((first | apply goB | apply AB.dec | apply AB.gen) <;> intro h <;> try (exfalso; omega)) | refine LQ.mk fun r => ?_ | (show (_ → _) ∧ (¬ _ → _); first | refine T.y ?_ | refine qE (fun h => ?_) (fun h => ?_)) | exact T.z | fail) <;> conv => whnf)
     all_goals (try dsimp only)
     all_goals ((show RL _ _ _; refine goR ?_); rfl)
def cpH (c : Co) (i0 : Nat) (p : Nm) (j k : Nat) : List AV := if k = i0 ∧ i0 < j then (c.at k).cv (.vw p 0 (c.at k).rf.length 15) else (c.at k).cs
theorem wn (c : Co) (i0 : Nat) (p : Nm) (j k : Nat) : (cpH c i0 p j k).length = 9 := by unfold cpH; split <;> rfl
def cpX (c : Co) (i0 : Nat) (p : Nm) (j : Nat) : List AV := (List.range c.cx.length).flatMap (cpH c i0 p j)
theorem qR (c : Co) (i0 : Nat) (p : Nm) : c.cx.flatMap Sn.cs = cpX c i0 p 0 := by
 unfold cpX
 rw [← zU]
 exact xf _ fun k _ => by unfold cpH; rw [if_neg (by omega)]
theorem cpX_e (c : Co) (i0 : Nat) (p : Nm) (h : i0 < c.cx.length) : cpX c i0 p c.cx.length = cpR c i0 p c.cx.length := by
 unfold cpX cpR
 refine xf _ fun k _ => ?_
 unfold cpH cpG
 by_cases hk : k = i0
 · rw [if_pos ⟨hk, h⟩, if_pos hk]
 · rw [if_neg (fun q => hk q.1), if_neg hk]
theorem rg_at (n i : Nat) (h : i < n) : (List.range n).getD i 0 = i := by simp [List.getD_eq_getElem?_getD, h]
theorem yo {g g' : Nat → List AV} {n sz i k : Nat} {xs : List AV} (hg : ∀ x, (g x).length = sz) (h : i < n) (hk : k + xs.length ≤ sz) (he : ∀ x, x ≠ i → g' x = g x) (hy : g' i = qi (g i) k xs) : qi ((List.range n).flatMap g) (i * sz + k) xs = (List.range n).flatMap g' := by
 have hl : i < (List.range n).length := by simpa using h
 have h1 : ((List.range n).flatMap g).take (i * sz + k) = ((List.range n).take i).flatMap g ++ (g i).take k := by
   rw [List.take_add, vk hg, fm_at hg (List.range n) i 0 hl, rg_at n i h, List.take_append_of_le_length (by rw [hg]; omega)]
 have h2 : ((List.range n).flatMap g).drop (i * sz + k + xs.length) = (g i).drop (k + xs.length) ++ ((List.range n).drop (i + 1)).flatMap g := by
   rw [Nat.add_assoc, ← List.drop_drop, fm_at hg (List.range n) i 0 hl, rg_at n i h, List.drop_append_of_le_length (by rw [hg]; omega)]
 have h3 : (List.range n).flatMap g' = ((List.range n).take i).flatMap g' ++ (g' i ++ ((List.range n).drop (i + 1)).flatMap g') := by
   conv => lhs; rw [← List.take_append_drop i (List.range n), yD _ i 0 hl, rg_at n i h, List.flatMap_append, List.flatMap_cons]
 have h4 : ((List.range n).take i).flatMap g' = ((List.range n).take i).flatMap g := xf _ fun x hx => he x (by
   rw [List.take_range] at hx
   have := List.mem_range.1 hx
   omega)
 have h5 : ((List.range n).drop (i + 1)).flatMap g' = ((List.range n).drop (i + 1)).flatMap g := xf _ fun x hx => he x (by
   obtain ⟨y, hy, rfl⟩ := List.getElem_of_mem hx
   simp
   omega)
 unfold qi at hy ⊢
 rw [h1, h2, h3, h4, h5, hy]
 simp [List.append_assoc]
theorem cpX_own {c : Co} {i0 j : Nat} (h : j = i0) (p q : Nm) (hj : (j : Int) < (c.cx.length : Int)) {o n : Nat} (ho : o = j * 9 + 8) (hn : n = (c.at j).rf.length) : qi (cpX c i0 p j) o [.vw q 0 n 15] = cpX c i0 q (j + 1) := by
 subst ho hn
 unfold cpX
 refine yo (wn c i0 p j) (by omega) (by simp) (fun x hx => ?_) ?_
 · unfold cpH; rw [if_neg (by omega), if_neg (by omega)]
 · unfold cpH; rw [if_pos (by omega), if_neg (by omega)]; rfl
theorem cpX_oth {c : Co} {i0 j : Nat} (h : ¬ j = i0) (p : Nm) (hj : (j : Int) < (c.cx.length : Int)) {o : Nat} (ho : o = j * 9 + 8) : qi (cpX c i0 p j) o [hdv (c.cx.getD j Sn.z).rf] = cpX c i0 p (j + 1) := by
 subst ho
 unfold cpX
 refine yo (wn c i0 p j) (by omega) (by simp) (fun x hx => ?_) ?_
 · unfold cpH
   by_cases hx2 : x = i0 ∧ i0 < j
   · rw [if_pos ⟨hx2.1, by omega⟩, if_pos hx2]
   · rw [if_neg (by omega), if_neg hx2]
 · unfold cpH; rw [if_neg (by omega), if_neg (by omega)]; rfl
theorem cpX_cell {c : Co} {i0 j : Nat} {p : Nm} {o : Nat} {K : AV → Prop} (hj : (j : Int) < (c.cx.length : Int)) (ho : o = j * 9 + 8) (k : K (hdv (c.cx.getD j Sn.z).rf)) : AC false (((cpX c i0 p j).drop o).take 1) K := by
 unfold cpX
 refine AC.fld (wn c i0 p j) j 8 0 _ ho (by decide) (by simp; omega) ?_ k
 rw [rg_at _ _ (by omega)]
 unfold cpH
 rw [if_neg (by omega)]
 rfl
theorem cpX_len (c : Co) (i0 : Nat) (p : Nm) (j : Nat) : (cpX c i0 p j).length = c.cx.length * 9 := by
 unfold cpX
 rw [qJ (wn c i0 p j)]
 simp
theorem cclone_c (c : Co) (i0 : Nat) (hi : i0 < c.cx.length) (hl : c.cx.length ≤ 100) (hr : ∀ i, i < c.cx.length → (c.at i).rf.length ≤ 1000) : LSpecN Tryd.prog G 30 [c.av] [] 2 (fun q => (.agg [iAV c.m, iAV c.w, .vw (n0 q) 0 c.cx.length 9], [(n0 q, ⟨55, cpR c i0 (n1 q) c.cx.length⟩), (n1 q, ⟨38, (c.at i0).rf.flatMap Hd.cs⟩)])) := by
 have hc : ∀ i : Nat, (i : Int) < (c.cx.length : Int) → LP Tryd.prog G 54 [hdv (c.cx.getD i Sn.z).rf] [] (fun _ => (hdv (c.cx.getD i Sn.z).rf, [])) := fun i hi => hclone_c _ (Nat.le_trans (hr i (by omega)) (by decide))
 have ho : ∀ i : Nat, (i : Int) < (c.cx.length : Int) → LP Tryd.prog G 54 [hdv (c.cx.getD i Sn.z).rf] [] (fun q => (.vw q 0 (c.cx.getD i Sn.z).rf.length 15, [(q, ⟨38, (c.cx.getD i Sn.z).rf.flatMap Hd.cs⟩)])) := fun i hi => hclone_o _ (Nat.le_trans (hr i (by omega)) (by decide))
 refine LSpecN.introL tQ Tryd.func30 rfl (by kernel_rfl) (by simp) (fun qs hq => by obtain ⟨x, y, rfl⟩ : ∃ x y, qs = [x, y] := (match qs, hq with | [x, y], _ => ⟨x, y, rfl⟩); exact ⟨by simp, by intro h1 h2; simp at h1 h2 ⊢; simp_all [eq_comm]⟩) ?_
 refine AWpL.sound tQ [] _ _ _ _ ?_
 conv => whnf
 repeat' ((first | (show LC _ _ 54 _ _ _; refine (Decidable.em (j = i0)).elim (fun hji => LC.own (ho j (by assumption)) ?_) (fun hji => LC.pure (hc j (by assumption)) ?_)) | exact Nm.b 0 | (refine And.intro ?_ ?_; (focus (first | (show (_ : Nat) ≤ _; dsimp only; rw [cpX_len]; omega) | exact T.kx | exact T.side))) | (show LC _ _ _ _ _ _; first | refine LC.own (sclone_c c.cx (by omega) (by omega)) ?_ | refine goE ?_) | (show AC _ _ _; first | (refine cpX_cell (by assumption) (by rw [Nat.zero_add]; rfl) ?_)) | (show AQ _ _; first | (refine AQ.eq (cpX_own hji _ _ (by assumption) (by rw [Nat.zero_add]; rfl) rfl) ?_) | (refine AQ.eq (cpX_oth hji _ (by assumption) (by rw [Nat.zero_add]; rfl)) ?_)) | refine T.s ?_ | ((first | apply goB | apply AB.dec | apply AB.gen) <;> intro h <;> try (exfalso; omega)) | refine LQ.mk fun r => ?_ | (show SQ _ _ _ (.loop _) _ _ _; first | (apply goO tQ [] 3 (S := Nat × Nm × Nm × Nm × Nm) [10] (fun (j, a, z, q, p) => ⟨[(11, .int .i64 j), (1, .ptr a 0), (2, .ptr z 0)], [(a, ⟨24, [iAV c.m, iAV c.w, .vw q 0 c.cx.length 9]⟩), (z, ⟨24, [iAV 0, iAV 0, .nils]⟩), (q, ⟨55, cpX c i0 p j⟩), (p, ⟨38, cpP c i0 j⟩)], j ≤ c.cx.length, c.cx.length - j⟩) ((0, _, _, _, p)) (by rfl); (focus ((repeat' first | exact trivial | (refine And.intro ?_ ?_) | exact LB.nil | (with_reducible exact LB.refl) | (apply LB.cons; (repeat first | refine goH ?_ | apply LH.here | apply LH.next); refine And.intro ?_ ?_; (focus (try (first | (with_reducible rfl) | (refine congrArg (Pl.mk _) ?_; (first | (with_reducible rfl) | exact qr hji | exact qt hji | exact qR c i0 _ | rfl)) | rfl | (with_reducible refine congrArg (Pl.mk _) ?_))))) | assumption | (first | (focus (apply Eq.trans; (conv => lhs; whnf); (conv => rhs; whnf); done)) | rfl | ((conv => lhs; whnf); first | rfl | (refine congrArg (AV.int _) ?_; (exact T.num)) | (refine congrArg AV.bool ?_; (exact T.num)) | (refine vwc ?_; first | (exact T.num) | (first | (with_reducible rfl) | exact qr hji | exact qt hji | exact qR c i0 _ | rfl)) | (refine qe ?_ ?_ <;> first | (exact T.num) | (first | (with_reducible rfl) | exact qr hji | exact qt hji | exact qR c i0 _ | rfl)) | (first | (with_reducible rfl) | exact qr hji | exact qt hji | exact qR c i0 _ | rfl))) | (exact T.num) | (dsimp only; (exact T.num)) | (first | (with_reducible rfl) | exact qr hji | exact qt hji | exact qR c i0 _ | rfl)); done)); rintro ⟨j, a, z, q, p⟩ hok; (try dsimp only at hok))) | (show SQ _ _ _ _ _ _ _; first | (show SQ _ _ _ (.loop _) _ _ _; refine SQ.dummy 38 fun p => ?_) | (refine goD tQ qf 5 [1, 9] [0, 1, 2, 3, 4, 5, 6, 7, 8, 9, 10, 11, 12] [a] (by kernel_rfl) ?_)) | (show AtL _ _ _ _ _ _ _ _ _ _; first | (by_cases hji : j = i0; (focus (rename_i pa pb pc; refine AtL.mk' (id := 3) (j + 1, a, z, q, pa) ?_; (repeat' first | exact trivial | (refine And.intro ?_ ?_) | exact LB.nil | (with_reducible exact LB.refl) | (apply LB.cons; (repeat first | refine goH ?_ | apply LH.here | apply LH.next); refine And.intro ?_ ?_; (focus (try (first | (with_reducible rfl) | (refine congrArg (Pl.mk _) ?_; (first | (with_reducible rfl) | exact qr hji | exact qt hji | exact qR c i0 _ | rfl)) | rfl | (with_reducible refine congrArg (Pl.mk _) ?_))))) | assumption | (first | (focus (apply Eq.trans; (conv => lhs; whnf); (conv => rhs; whnf); done)) | rfl | ((conv => lhs; whnf); first | rfl | (refine congrArg (AV.int _) ?_; (exact T.num)) | (refine congrArg AV.bool ?_; (exact T.num)) | (refine vwc ?_; first | (exact T.num) | (first | (with_reducible rfl) | exact qr hji | exact qt hji | exact qR c i0 _ | rfl)) | (refine qe ?_ ?_ <;> first | (exact T.num) | (first | (with_reducible rfl) | exact qr hji | exact qt hji | exact qR c i0 _ | rfl)) | (first | (with_reducible rfl) | exact qr hji | exact qt hji | exact qR c i0 _ | rfl))) | (exact T.num) | (dsimp only; (exact T.num)) | (first | (with_reducible rfl) | exact qr hji | exact qt hji | exact qR c i0 _ | rfl)))); (focus (refine AtL.mk' (id := 3) (j + 1, a, z, q, p) ?_; (repeat' first | exact trivial | (refine And.intro ?_ ?_) | exact LB.nil | (with_reducible exact LB.refl) | (apply LB.cons; (repeat first | refine goH ?_ | apply LH.here | apply LH.next); refine And.intro ?_ ?_; (focus (try (first | (with_reducible rfl) | (refine congrArg (Pl.mk _) ?_; (first | (with_reducible rfl) | exact qr hji | exact qt hji | exact qR c i0 _ | rfl)) | rfl | (with_reducible refine congrArg (Pl.mk _) ?_))))) | assumption | (first | (focus (apply Eq.trans; (conv => lhs; whnf); (conv => rhs; whnf); done)) | rfl | ((conv => lhs; whnf); first | rfl | (refine congrArg (AV.int _) ?_; (exact T.num)) | (refine congrArg AV.bool ?_; (exact T.num)) | (refine vwc ?_; first | (exact T.num) | (first | (with_reducible rfl) | exact qr hji | exact qt hji | exact qR c i0 _ | rfl)) | (refine qe ?_ ?_ <;> first | (exact T.num) | (first | (with_reducible rfl) | exact qr hji | exact qt hji | exact qR c i0 _ | rfl)) | (first | (with_reducible rfl) | exact qr hji | exact qt hji | exact qR c i0 _ | rfl))) | (exact T.num) | (dsimp only; (exact T.num)) | (first | (with_reducible rfl) | exact qr hji | exact qt hji | exact qR c i0 _ | rfl))))) | (apply AtL.mk' (id := 3) (S := Nat × Nm × Nm × Nm × Nm) ((j + 1, _, _, _, _)); (repeat' first | exact trivial | (refine And.intro ?_ ?_) | exact LB.nil | (with_reducible exact LB.refl) | (apply LB.cons; (repeat first | refine goH ?_ | apply LH.here | apply LH.next); refine And.intro ?_ ?_; (focus (try (first | (with_reducible rfl) | (refine congrArg (Pl.mk _) ?_; (first | (with_reducible rfl) | exact qr hji | exact qt hji | exact qR c i0 _ | rfl)) | rfl | (with_reducible refine congrArg (Pl.mk _) ?_))))) | assumption | (first | (focus (apply Eq.trans; (conv => lhs; whnf); (conv => rhs; whnf); done)) | rfl | ((conv => lhs; whnf); first | rfl | (refine congrArg (AV.int _) ?_; (exact T.num)) | (refine congrArg AV.bool ?_; (exact T.num)) | (refine vwc ?_; first | (exact T.num) | (first | (with_reducible rfl) | exact qr hji | exact qt hji | exact qR c i0 _ | rfl)) | (refine qe ?_ ?_ <;> first | (exact T.num) | (first | (with_reducible rfl) | exact qr hji | exact qt hji | exact qR c i0 _ | rfl)) | (first | (with_reducible rfl) | exact qr hji | exact qt hji | exact qR c i0 _ | rfl))) | (exact T.num) | (dsimp only; (exact T.num)) | (first | (with_reducible rfl) | exact qr hji | exact qt hji | exact qR c i0 _ | rfl)); done) | (apply AtL.mk' (id := 3) (S := Nat × Nm × Nm × Nm × Nm) ((j + 1, _, _, _, _)); (repeat' first | exact trivial | (refine And.intro ?_ ?_) | exact LB.nil | (with_reducible exact LB.refl) | (apply LB.cons; (repeat first | refine goH ?_ | apply LH.here | apply LH.next); refine And.intro ?_ ?_; (focus (try (first | (with_reducible rfl) | (refine congrArg (Pl.mk _) ?_; (first | (with_reducible rfl) | exact qr hji | exact qt hji | exact qR c i0 _ | rfl)) | rfl | (with_reducible refine congrArg (Pl.mk _) ?_))))) | assumption | (first | (focus (apply Eq.trans; (conv => lhs; whnf); (conv => rhs; whnf); done)) | rfl | ((conv => lhs; whnf); first | rfl | (refine congrArg (AV.int _) ?_; (exact T.num)) | (refine congrArg AV.bool ?_; (exact T.num)) | (refine vwc ?_; first | (exact T.num) | (first | (with_reducible rfl) | exact qr hji | exact qt hji | exact qR c i0 _ | rfl)) | (refine qe ?_ ?_ <;> first | (exact T.num) | (first | (with_reducible rfl) | exact qr hji | exact qt hji | exact qR c i0 _ | rfl)) | (first | (with_reducible rfl) | exact qr hji | exact qt hji | exact qR c i0 _ | rfl))) | (exact T.num) | (dsimp only; (exact T.num)) | (first | (with_reducible rfl) | exact qr hji | exact qt hji | exact qR c i0 _ | rfl)))) | exact T.z | fail) <;> conv => whnf)
 all_goals (try dsimp only)
 obtain rfl : j = c.cx.length := by omega
 rw [cpX_e c i0 p hi, show cpP c i0 c.cx.length = (c.at i0).rf.flatMap Hd.cs from if_pos hi]
 apply RetLN.val [q, p] rfl
 · show LH _ _ _
   exact .next (.next (.here (.next (.next (.here trivial)))))
 · rfl
 · exact LB.cons (.next (.next (.here ⟨rfl, LB.cons (.next (.next (.here ⟨rfl, LB.nil⟩)))⟩)))
theorem cfnd1_c (p : Nm) (s : Sn) (h : Hd) (hs : s.act = true → 0 < s.rf.length) : LP Tryd.prog G 65 [s.av, .ptr p 0] [(p, ⟨38, h.cs⟩)] (fun _ => (.bool (ownP h s), [(p, ⟨38, h.cs⟩)])) := by
 have hsm : LP Tryd.prog G 24 [(s.rf.getD 0 Hd.z).av, h.av] [] (fun _ => (.bool (qo s.fst h), [])) := wj _ _
 refine goW [] Tryd.func65 rfl ?_
 conv => whnf
 repeat' ((first | exact Nm.b 0 | (refine And.intro ?_ ?_; (focus (first | exact xP (hs (by assumption)) | exact Int.ofNat_lt.2 (hs (by assumption)) | exact T.kx | exact T.side))) | (show LC _ _ _ _ _ _; first | refine LC.pure (hsm) ?_ | refine goE ?_) | (show AC _ _ _; first | (refine AC.recd Hd.cs_len 0 Hd.z rfl rfl (hs (by assumption)) ?_)) | refine T.s ?_ | ((first | apply goB | apply AB.dec | apply AB.gen) <;> intro h <;> try (exfalso; omega)) | refine LQ.mk fun r => ?_ | (show SQ _ _ _ _ _ _ _; first | refine gX 1 [] [0, 1, 2, 3, 4, 5, 6, 7, 8, 9, 10] [] ?_) | exact T.z | fail) <;> conv => whnf)
 all_goals (try dsimp only)
 all_goals
   (show RL _ _ _; refine goR ?_)
   simp [ownP, *]
theorem cfnd2_c (s : Sn) : LP Tryd.prog G 66 [s.av] [] (fun _ => (.bool (!s.act), [])) := by
 refine goW [] Tryd.func66 rfl ?_
 conv => whnf
 repeat' ((first | refine T.s ?_ | ((first | apply goB | apply AB.dec | apply AB.gen) <;> intro h <;> try (exfalso; omega)) | refine LQ.mk fun r => ?_ | exact T.z | fail) <;> conv => whnf)
 all_goals (try dsimp only)
 all_goals
   (show RL _ _ _; refine goR ?_)
   rfl
theorem fndR_e (l : List Sn) (h : Hd) : zu l h = (if wb (l.findIdx? (ownP h)) < 0 then freeI l else l.findIdx? (ownP h)) := by
 unfold zu ownI
 show (match l.findIdx? (ownP h) with | some i => some i | none => freeI l) = _
 cases l.findIdx? (ownP h) with
 | none => rfl
 | some i => rw [if_neg (by simp [wb])]
theorem sidx0_l {P : Sn → Bool} (F : Nat) (hp : ∀ s : Sn, LP Tryd.prog G F [s.av] [] (fun _ => (.bool (P s), []))) (l : List Sn) (n : Nat) (hn : n = l.length) (hl : l.length ≤ 100000) : LP Tryd.prog G 49 [.sl n (l.flatMap Sn.cs), .lit (.func (.func F) #[] #[])] [] (fun _ => (iAV (wb (l.findIdx? P)), [])) :=
 (sidx0_c (G := G) F hp l n hn hl).warg fun σ w vs h => ⟨h.1, fun i hi => match i, hi with
   | 0, hi => h.2 0 hi
   | 1, hi => by
     have h1 : Rd σ w (.lit (.func (.func F) #[] #[])) (vs.getD 1 undef) := h.2 1 hi
     show Rd σ w (.clo (.func F) [] []) (vs.getD 1 undef)
     generalize vs.getD 1 undef = v at h1
     cases h1
     exact .clo _ _ _ _ _ rfl rfl (fun i hi => absurd hi (Nat.not_lt_zero _)) (fun i hi => absurd hi (Nat.not_lt_zero _))⟩
theorem cfind_c (c : Co) (h : Hd) (hl : c.cx.length ≤ 100000) (ha : ∀ i, i < c.cx.length → (c.at i).act = true → 0 < (c.at i).rf.length) : LP Tryd.prog G 33 [c.av, h.av] [] (fun _ => (wL (zu c.cx h), [])) := by
 rw [fndR_e]
 refine goW [] Tryd.func33 rfl ?_
 conv => whnf
 repeat' ((first | (show LC _ _ _ _ _ _; first | (apply LC.upd (sidx_c 65 _ ⟨38, h.cs⟩ c.cx _ rfl (fun i hi => cfnd1_c _ _ h (ha i hi)) hl); (repeat first | refine goH ?_ | apply LH.here | apply LH.next); refine ⟨rfl, ?_⟩) | refine LC.pure (sidx0_l 66 cfnd2_c c.cx _ rfl hl) ?_ | refine goE ?_) | refine T.s ?_ | ((first | apply goB | apply AB.dec | apply AB.gen) <;> intro h <;> try (exfalso; omega)) | refine LQ.mk fun r => ?_ | exact T.z | fail) <;> conv => whnf)
 all_goals (try dsimp only)
 all_goals first
   | ((show RL _ _ _; refine goR ?_); rw [if_pos (by assumption)]; exact fndV_e _)
   | ((show RL _ _ _; refine goR ?_); rw [if_neg (by assumption)]; exact fndV_e _)
   | trace_state
end Go.Proofs.YtbagbjacmakfhaaDoor
