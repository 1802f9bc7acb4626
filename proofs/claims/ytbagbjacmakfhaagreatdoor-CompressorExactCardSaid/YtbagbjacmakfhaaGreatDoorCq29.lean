/-
  Contracts of the functions that the laws reach.
-/
import Derived.Test.YtbagbjacmakfhaaGreatDoorCq01
import Derived.Test.YtbagbjacmakfhaaGreatDoorCq02
import Derived.Test.YtbagbjacmakfhaaGreatDoorCq03
import Derived.Test.YtbagbjacmakfhaaGreatDoorCq04
import Derived.Test.YtbagbjacmakfhaaGreatDoorCq05
import Derived.Test.YtbagbjacmakfhaaGreatDoorCq06
import Derived.Test.YtbagbjacmakfhaaGreatDoorCq09
import Derived.Test.YtbagbjacmakfhaaGreatDoorCq10
import Derived.Test.YtbagbjacmakfhaaGreatDoorCq13
import Derived.Test.YtbagbjacmakfhaaGreatDoorCq14
import Derived.Test.YtbagbjacmakfhaaGreatDoorCq15
import Derived.Test.YtbagbjacmakfhaaGreatDoorCq16
import Derived.Test.YtbagbjacmakfhaaGreatDoorCq17
import Derived.Test.YtbagbjacmakfhaaGreatDoorCq18
import Derived.Test.YtbagbjacmakfhaaGreatDoorCq20
import Derived.Test.YtbagbjacmakfhaaGreatDoorCq22
import Derived.Test.YtbagbjacmakfhaaGreatDoorCq23
import Derived.Test.YtbagbjacmakfhaaGreatDoorCq24
import Derived.Test.YtbagbjacmakfhaaGreatDoorCq25
import Derived.Test.YtbagbjacmakfhaaGreatDoorCq26
import Derived.Test.YtbagbjacmakfhaaGreatDoorCq27
set_option maxHeartbeats 16000000
set_option linter.all false
namespace Go.Proofs.YtbagbjacmakfhaaGreatDoor
open Go.RowKit
theorem lng_ok {m w : Int} {s : Sn} {h : Hd} (hs : 0 ≤ s.lng ∧ s.lng ≤ 3) : 0 ≤ (j9 m w s h).1.lng ∧ (j9 m w s h).1.lng ≤ 3 := by
 have hS : ∀ (x : Sn) (f : Int), (0 ≤ x.lng ∧ x.lng ≤ 3) → 0 ≤ (zo w x f).lng ∧ (zo w x f).lng ≤ 3 := fun x f hx => by
   unfold zo; split
   · exact hx
   · exact ⟨Int.le_refl 0, (show (0 : Int) ≤ 3 by decide)⟩
 have hA : 0 ≤ (chA w s h (chb s)).1.lng ∧ (chA w s h (chb s)).1.lng ≤ 3 := by
   unfold chA; split
   · exact hS _ _ hs
   · exact hs
 unfold j9
 generalize chA w s h (chb s) = X at hA
 have hB : 0 ≤ (chB m w X).1.lng ∧ (chB m w X).1.lng ≤ 3 := by
   unfold chB; split
   · exact hS _ _ hA
   · exact hA
 generalize chB m w X = Y at hB
 have hC : 0 ≤ (chC m w Y).1.lng ∧ (chC m w Y).1.lng ≤ 3 := by
   unfold chC; split
   · exact hS _ _ hB
   · exact hB
 generalize chC m w Y = Z at hC
 have hD : 0 ≤ (chD s.lst h Z).lng ∧ (chD s.lst h Z).lng ≤ 3 := by
   unfold chD; split
   · exact hC
   · exact hC
 generalize chD s.lst h Z = U at hD
 unfold chE
 (repeat' split) <;> first | exact hD | exact hS _ _ hD
theorem rf_cho {m w : Int} {s : Sn} {h : Hd} (h32 : ¬ (m = 3 ∧ s.rf.length = 32)) : (j9 m w s h).1.rf = s.rf := by
 have hE : ∀ U : Sn, (chE w s.lst h U).1.rf = U.rf := fun U => by
   unfold chE
   (repeat' split) <;> first | rfl | exact vr
 unfold j9
 rw [hE, chC_i (by rw [chB_rf, yC]; exact h32)]
 exact chD_rf.trans (chB_rf.trans yC)
structure Cho (c : Co) (i0 : Nat) (hd : Hd) (pl : List UInt8) (v : Sn) (f : Int) : Prop where
 sin : 0 ≤ v.sin ∧ v.sin ≤ 32
 lng : 0 ≤ v.lng ∧ v.lng ≤ 3
 full : f = 5 → 0 < v.full ∧ v.full ≤ 8
 refr : f = 4 → 0 < v.refr ∧ v.refr ≤ 8
 ser : 0 ≤ v.ser ∧ v.ser ≤ 1000
 frm : 1 ≤ f ∧ f ≤ 5
 enc : (zd (qz v.dy i0 f hd pl)).2 = 0
 eq : qS c i0 hd pl = (c.set i0 (csF c.m c.w hd v f), (zd (qz v.dy i0 f hd pl)).1)
theorem cho_of {c : Co} {i0 : Nat} {b : List UInt8} {hd : Hd} {pl : List UInt8} (hc : c.ok = true) (hp : qg b = ((hd, pl), 0)) (hf : qP c.cx hd = some i0) {v : Sn} {f : Int} (he : j9 c.m c.w (ja c.w (c.at i0)) hd = (v, f)) : Cho c i0 hd pl v f := by
 obtain ⟨hi, hsn, hsm, -⟩ := zA hc hf
 have hW := wc hc
 obtain ⟨h1, h2, h3⟩ := cho_eq (m := c.m) (h := hd) hW.2.2.1 hsn
 obtain ⟨hM, hf5, hF, hR, -⟩ := ctx_mid (m := c.m) hW.2.2.1 hsn hsm
 have hl : 0 ≤ v.lng ∧ v.lng ≤ 3 := by
   have := lng_ok (m := c.m) (w := c.w) (s := ja c.w (c.at i0)) (h := hd) (by
     unfold ja
     split
     · rename_i ha
       have := ((Sn.ok_e ha).1 hsn).1
       exact this.2.2.2.2.2.2.2
     · have := ye hsn (by simpa using ‹¬ (c.at i0).act = true›)
       dsimp only
       rw [this.2.2.2.2.1]
       exact ⟨by decide, by decide⟩)
   rw [he] at this
   exact this
 rw [he] at h1 h2 h3
 obtain ⟨ho, -, -, -, hpl⟩ := je hp
 have hPok := parts_ok (c := (i0 : Int)) (pl := pl) ho hM.dok hM.dz ⟨by omega, by omega⟩ hf5 hpl
 dsimp only at h1 h2 h3
 rw [← h1, ← h2.dy] at hPok
 have hfr := hM.full
 have hrr := hM.refr
 have hss := hM.ser
 have hln := hM.len
 rw [← h2.ser, ← h2.rf] at hss
 rw [← h2.rf] at hln
 rw [← h1] at hf5 hF hR
 rw [← h2.full] at hF hfr
 rw [← h2.refr] at hR hrr
 refine ⟨by rw [h2.sin]; exact hM.sin, hl, fun e => ⟨hF.1 e, by omega⟩, fun e => ⟨hR.1 e, by omega⟩, ⟨hss.1, ?_⟩, hf5, by rw [enc_ok hPok], ?_⟩
 · by_cases hm : c.m = 3
   · have := hln.2 hm; omega
   · have := hln.1 hm; omega
 · unfold qS
   rw [← h1, ← h2.dy, Lk.csF h2 h3]
theorem rk_rows {c : Co} {i0 : Nat} (h : i0 < c.cx.length) (s' : Sn) (ys : List AV) (hy : ys.length = 9) : ((List.range i0).flatMap (fun k => (c.at k).cs) ++ (ys ++ frs c (i0 + 1) c.cx.length)).length = c.cx.length * 9 := by
 have h1 := congrArg List.length (set_fm c i0 h s')
 rw [qr Sn.cs_len, List.length_set] at h1
 rw [h1]
 simp only [List.length_append, hy]
 rfl
theorem RL.cmp {c : Co} {i0 : Nat} {s' : Sn} {R r : Nm} {n : Nat} {y : List UInt8} {ys : List AV} {l : LS} (hi : i0 < c.cx.length) (hn : n = s'.rf.length) (hy : ys = s'.cv (.vw r 0 n 15)) (hr : LH l r fun cc _ _ => cc.cs = s'.rf.flatMap Hd.cs) (h : LH l R fun cc _ rest => cc.cs = (List.range i0).flatMap (fun k => (c.at k).cs) ++ (ys ++ frs c (i0 + 1) c.cx.length) ∧ LH rest r fun _ _ _ => True) : RL (fun _ => (.tup [(c.set i0 s').av, bv y, iAV 0], [])) (.tup [.agg [.int .i64 c.m, .int .i64 c.w, .vw R 0 c.cx.length 9], bv y, .int .i64 0]) l := by
 subst hn hy
 have hrow : LF l [R, r] (.vw R 0 c.cx.length 9) (snv (c.cx.set i0 s')) := LF.rowN (m := (c.cx.set i0 s').length) (ds := (c.cx.set i0 s').flatMap Sn.cs) InL.here (LH.mono h fun cc _ _ hh => ⟨by decide, by rw [hh.1]; exact rk_rows hi s' _ rfl, by simp, by
   rw [hh.1, set_fm c i0 hi s']
   exact LFs.app (LFs.same _) (LFs.app ⟨.eq rfl, .eq rfl, .eq rfl, .eq rfl, .eq rfl, .eq rfl, .eq rfl, .eq rfl, LF.row (InL.next InL.here) (LH.mono hr fun c _ _ e => ⟨by decide, by rw [e]; exact qr Hd.cs_len _, rfl, e.symm⟩), trivial⟩ (LFs.same _))⟩)
 refine RL.frz [R, r] (LF.tup (xs := [.agg [.int .i64 c.m, .int .i64 c.w, .vw R 0 c.cx.length 9], bv y, .int .i64 0]) (ys := [(c.set i0 s').av, bv y, iAV 0]) ⟨LF.agg (xs := [.int .i64 c.m, .int .i64 c.w, .vw R 0 c.cx.length 9]) (ys := [iAV c.m, iAV c.w, snv (c.cx.set i0 s')]) ⟨.eq rfl, .eq rfl, hrow, trivial⟩, .eq rfl, .eq rfl, trivial⟩) ?_
 exact LH.mono h fun _ _ _ hh => LH.mono hh.2 fun _ _ _ _ => LB.nil
theorem comprR_g {c : Co} {b : List UInt8} {hd : Hd} {pl : List UInt8} {i : Nat} (hc : c.ok = true) (hb : ¬ (b = [] ∨ 1500 < b.length)) (hp : qg b = ((hd, pl), 0)) (hf : qP c.cx hd = some i) (ho : ¬ ((c.at i).act = true ∧ c.m = 3 ∧ (sg 16 (c.at i).lst.num hd.num < 1 ∨ 255 < sg 16 (c.at i).lst.num hd.num))) : qf c b = (qS c i hd pl, 0) := by
 unfold qf
 rw [if_pos hc, if_neg hb, hp]
 dsimp only
 rw [if_pos rfl, hf]
 dsimp only
 rw [if_neg ho]
theorem ECpg13_1 {p : Prop} (h : p := by (repeat' first | exact trivial | (refine And.intro ?_ ?_) | exact LB.nil | (with_reducible exact LB.refl) | (apply LB.cons; (repeat first | refine goH ?_ | apply LH.here | apply LH.next); refine And.intro ?_ ?_; (focus (try (first | (with_reducible rfl) | (refine congrArg (Pl.mk _) ?_; (first | rfl | (simp; done))) | rfl | (with_reducible refine congrArg (Pl.mk _) ?_))))) | (with_reducible assumption) | fail | (show (_ : AV) = _; (first | (focus (apply Eq.trans; (conv => lhs; whnf); (conv => rhs; whnf); done)) | rfl | ((conv => lhs; whnf); first | rfl | (refine congrArg (AV.int _) ?_; (exact T.num)) | (refine congrArg AV.bool ?_; (exact T.num)) | (refine vwc ?_; first | (exact T.num) | (first | rfl | (simp; done))) | (refine qc ?_ ?_ <;> first | (exact T.num) | (first | rfl | (simp; done))) | (first | rfl | (simp; done))))) | ((with_reducible first | (show (_ : Int) ≤ _) | (show (_ : Int) < _) | (show (_ : Nat) ≤ _) | (show (_ : Nat) < _) | (show (_ : Int) = _) | (show (_ : Nat) = _)); (exact T.num)) | (first | rfl | (simp; done))); first | done | fail) : p := h
theorem ccomp_v (c : Co) (b : List UInt8) (hd : Hd) (pl : List UInt8) (i0 : Nat) (hc : c.ok = true) (hb : ¬ (b = [] ∨ 1500 < b.length)) (hp : qg b = ((hd, pl), 0)) (hf : qP c.cx hd = some i0) (ha : (c.at i0).act = true) (h32 : ¬ (c.m = 3 ∧ (c.at i0).rf.length = 32)) (ho : c.m = 3 → ¬ sg 16 (c.at i0).lst.num hd.num < 1 ∧ ¬ 255 < sg 16 (c.at i0).lst.num hd.num) : LP Tryz.prog gm 18 [c.av, bv b] [] (fun _ => (cpr (qf c b), [])) := by
 have hv := zl (G := gm) c
 rw [hc] at hv
 have hb2 : ¬ (b.length : Int) = 0 := fun h => hb (.inl (List.eq_nil_of_length_eq_zero (by omega)))
 have hb3 : ¬ 1500 < (b.length : Int) := fun h => hb (.inr (by omega))
 obtain ⟨hi, hsn, hsm, -⟩ := zA hc hf
 have h16 := qY hc
 have hW := wc hc
 have hcp := jH (G := gm) c hc i0 (by omega)
 have hi : i0 < c.cx.length := by omega
 have hpr : LP Tryz.prog gm 46 [bv b] [] (fun _ => (.tup [hd.av, bv pl, iAV 0], [])) := by
   have h1 := jv (G := gm) b (by omega)
   rwa [hp] at h1
 have hfd := kU (G := gm) c hc hd
 have ko := (je hp).1
 have hact : ja c.w (c.at i0) = (c.at i0) := if_pos ha
 have hn0 := jf hsn ha
 have hn1 := yH hsn hW.2.2.2
 have h0 : 0 < (c.at i0).rf.length := hn0
 obtain ⟨⟨v, f⟩, he⟩ : ∃ y, j9 c.m c.w (c.at i0) hd = y := ⟨_, rfl⟩
 have hC : Cho c i0 hd pl v f := cho_of hc hp hf (by rw [hact]; exact he)
 have hch := fun (wk p : Nm) (hne : wk ≠ p) => wchoose_v (G := gm) wk p hne (c.at i0) c.m c.w hd (by omega) (by omega)
 rw [he] at hch
 have hvr : v.rf = (c.at i0).rf := by
   have h9 := rf_cho (m := c.m) (w := c.w) (s := (c.at i0)) (h := hd) (by omega)
   rw [he] at h9
   exact h9
 have hct := fun (wk p : Nm) (hne : wk ≠ p) => wcount_v (G := gm) wk p hne v c.m c.w hd f hC.sin hC.lng hC.full hC.refr hC.ser hW.2.2 hC.frm (by rw [hvr]; omega)
 rw [hvr] at hct
 have hPt := fun (wk : Nm) (R : AV) => vp wk v R c.m c.w hd ko i0 f pl hC.frm
 have hEn := zH (G := gm) (qz v.dy i0 f hd pl)
 have hz := hC.enc
 rw [comprR_g hc hb hp hf (fun q => q.2.2.elim (ho q.2.1).1 (ho q.2.1).2), hC.eq]
 obtain ⟨NS, hNS⟩ : ∃ NS, csF c.m c.w hd v f = NS := ⟨_, rfl⟩
 rw [hNS] at hct ⊢
 generalize qz v.dy i0 f hd pl = PR at hPt hEn hz ⊢
 generalize zd PR = Y at hEn hz ⊢
 obtain ⟨Y, ey⟩ := Y
 dsimp only at hz
 subst hz
 clear hb hp hC hsm hNS
 rcases (show (c.m = 3 ∧ ¬ sg 16 (c.at i0).lst.num hd.num < 1 ∧ ¬ 255 < sg 16 (c.at i0).lst.num hd.num) ∨ ¬ c.m = 3 by by_cases hm : c.m = 3; exact .inl ⟨hm, ho hm⟩; exact .inr hm) with ⟨hm, ho1, ho2⟩ | hm
 all_goals
   refine goW [12] Tryz.func18 rfl ?_
   conv => whnf
   repeat' ((first | (show LFreshN _ _; refine LFreshN.two fun R p => ?_; dsimp only [yq, yp, List.cons_append, List.nil_append]; conv => whnf) | (show LC _ _ 47 _ _ _; refine LC.cofL (c := c) (hd := hd) i0 hfd ?_ ?_; (focus ((repeat first | refine goH ?_ | apply LH.here | apply LH.next); refine ⟨_, rfl, ?_⟩; (repeat first | refine goH ?_ | apply LH.here | apply LH.next); rfl)); rw [hf, show j3 (some i0) = AV.tup [.int .i64 (i0 : Int), .bool true] from rfl]; conv => whnf) | ((with_reducible show AB (decide (0 < (c.at i0).rf.length)) _ _); first | refine goT ?_ h0 | refine goF ?_ h0) | ((with_reducible show AB (c.at i0).act _ _); first | refine goT' ?_ ha | refine goF' ?_ ha) | (show LC _ _ 53 _ _ _; apply LC.many (fun hn => hct wk p (by simpa using hn))) | exact Nm.b 0 | (refine And.intro ?_ ?_; (focus (first | exact InL.here | exact InL.next InL.here | exact T.kx | exact T.side))) | (show LC _ _ _ _ _ _; first | refine LC.pure (hv) ?_ | refine LC.mkN (hcp) [] (LFs.refl _) ?_ | refine LC.pure (zH (xy b)) ?_ | refine LC.pure (hpr) ?_ | (apply LC.twoK (fun hne => jK _ p hne (c.at i0) c.m c.w hd (by omega)); (repeat first | refine goH ?_ | apply LH.here | apply LH.next); refine ⟨rfl, ?_⟩; (repeat first | refine goH ?_ | apply LH.here | apply LH.next); refine ⟨rfl, ?_⟩; (repeat first | refine goH ?_ | apply LH.here | apply LH.next)) | refine LC.pure (kt _) ?_ | refine LC.pure (xl 16 _ _ (by decide) (by decide)) ?_ | (apply LC.twoK (fun hne => hch wk p hne); (repeat first | refine goH ?_ | apply LH.here | apply LH.next); refine ⟨rfl, ?_⟩; (repeat first | refine goH ?_ | apply LH.here | apply LH.next); refine ⟨rfl, ?_⟩; (repeat first | refine goH ?_ | apply LH.here | apply LH.next)) | (apply LC.upd (hPt wk _); (repeat first | refine goH ?_ | apply LH.here | apply LH.next); refine ⟨rfl, ?_⟩) | refine LC.pure (hEn) ?_ | refine goE ?_) | (show AC _ _ _; first | (refine AC.cpA (Nat.zero_add _) rfl hi ?_)) | (show AQ _ _; first | ((with_reducible show AQ (ql (cpR _ _ _ _) _ _) _); refine AQ.cpS (i0 := i0) (Nat.zero_add _) hi rfl ?_)) | refine T.s ?_ | ((first | apply goB | apply AB.dec | apply AB.gen) <;> intro h) | refine LQ.mk fun r => ?_ | refine LFreshN.two fun r r2 => ?_ | refine LFreshN.three fun r r2 r3 => ?_ | (show SQ _ _ _ _ _ _ _; first | refine gX 11 [] [0, 1, 2, 3, 4, 5, 6, 7, 8, 9, 10, 11, 12] [] ?_ | refine gX 14 [2, 1] [0, 2, 1, 3, 4, 5] [] ?_ | (refine goD tQ qd 18 [3, 7] [0, 1, 2, 3, 4, 5, 6, 7, 8, 9, 10, 11] [a] (by kernel_rfl) ?_) | (refine goD tQ qd 22 [] [0, 1, 2, 3, 4, 5, 6, 7, 8] [o, wk] (by kernel_rfl) ?_)) | (show CutL _ _ _ _ _ _ _ _; first | (refine goK tQ [12] 12 (S := Nm × Nm × Nm × Nm × Nm × Nm) [8, 11, 13] (fun (a, z, o, hh, wk, e) => ⟨[(2, .ptr a 0), (4, .ptr z 0), (7, .ptr o 0), (10, .ptr hh 0), (15, .ptr wk 0), (16, .ptr e 0), (17, .bool (decide (0 < (c.at i0).rf.length)))], [(a, ⟨34, [iAV c.m, iAV c.w, snv c.cx]⟩), (z, ⟨34, [iAV 0, iAV 0, .nils]⟩), (o, ⟨34, [iAV c.m, iAV c.w, .vw R 0 c.cx.length 9]⟩), (hh, ⟨50, hd.cs⟩), (wk, ⟨86, wrV (c.at i0) (.vw p 0 (c.at i0).rf.length 15) c.m c.w hd⟩), (e, ⟨50, (c.at i0).lst.cs⟩), (R, ⟨61, cpR c i0 p c.cx.length⟩), (p, ⟨50, (c.at i0).rf.flatMap Hd.cs⟩)], True, 0⟩) ?_ ?_; (rintro ⟨a, z, o, hh, wk, e⟩ -); rotate_left) | refine CutL.go tQ [12] ?_) | (show AtC 12 _ _ _ _ _ _ _; first | (apply AtC.mk' (id := 12) (S := Nm × Nm × Nm × Nm × Nm × Nm) ((_, _, _, _, _, _)); focus (refine T.a4 ?_ ?_ ?_ <;> exact ECpg13_1))) | exact T.z | fail) <;> conv => whnf)
   all_goals (try dsimp only)
   all_goals first
     | (refine RL.cmp (c := c) (i0 := i0) (s' := NS) (r := r) hi rfl rfl ?_ ?_; (focus ((repeat first | refine goH ?_ | apply LH.here | apply LH.next); rfl)); (repeat first | refine goH ?_ | apply LH.here | apply LH.next); refine And.intro rfl ?_; (repeat first | refine goH ?_ | apply LH.here | apply LH.next); trivial)
     | trace_state
theorem ECpg13_2 {p : Prop} (h : p := by (repeat' first | exact trivial | (refine And.intro ?_ ?_) | exact LB.nil | (with_reducible exact LB.refl) | (apply LB.cons; (repeat first | refine goH ?_ | apply LH.here | apply LH.next); refine And.intro ?_ ?_; (focus (try (first | (with_reducible rfl) | (refine congrArg (Pl.mk _) ?_; (first | rfl | (simp; done))) | rfl | (with_reducible refine congrArg (Pl.mk _) ?_))))) | (with_reducible assumption) | fail | (show (_ : AV) = _; (first | (focus (apply Eq.trans; (conv => lhs; whnf); (conv => rhs; whnf); done)) | rfl | ((conv => lhs; whnf); first | rfl | (refine congrArg (AV.int _) ?_; (exact T.num)) | (refine congrArg AV.bool ?_; (exact T.num)) | (refine vwc ?_; first | (exact T.num) | (first | rfl | (simp; done))) | (refine qc ?_ ?_ <;> first | (exact T.num) | (first | rfl | (simp; done))) | (first | rfl | (simp; done))))) | ((with_reducible first | (show (_ : Int) ≤ _) | (show (_ : Int) < _) | (show (_ : Nat) ≤ _) | (show (_ : Nat) < _) | (show (_ : Int) = _) | (show (_ : Nat) = _)); (exact T.num)) | (first | rfl | (simp; done))); first | done | fail) : p := h
theorem ccomp_n (c : Co) (b : List UInt8) (hd : Hd) (pl : List UInt8) (i0 : Nat) (hc : c.ok = true) (hb : ¬ (b = [] ∨ 1500 < b.length)) (hp : qg b = ((hd, pl), 0)) (hf : qP c.cx hd = some i0) (ha : (c.at i0).act = false) : LP Tryz.prog gm 18 [c.av, bv b] [] (fun _ => (cpr (qf c b), [])) := by
 have hv := zl (G := gm) c
 rw [hc] at hv
 have hb2 : ¬ (b.length : Int) = 0 := fun h => hb (.inl (List.eq_nil_of_length_eq_zero (by omega)))
 have hb3 : ¬ 1500 < (b.length : Int) := fun h => hb (.inr (by omega))
 obtain ⟨hi, hsn, hsm, -⟩ := zA hc hf
 have h16 := qY hc
 have hW := wc hc
 have hcp := jH (G := gm) c hc i0 (by omega)
 have hi : i0 < c.cx.length := by omega
 have hpr : LP Tryz.prog gm 46 [bv b] [] (fun _ => (.tup [hd.av, bv pl, iAV 0], [])) := by
   have h1 := jv (G := gm) b (by omega)
   rwa [hp] at h1
 have hfd := kU (G := gm) c hc hd
 have ko := (je hp).1
 have hact : ja c.w (c.at i0) = { (c.at i0) with act := true, full := c.w } := if_neg (by rw [ha]; decide)
 have hn1 : (c.at i0).rf = [] := (ye hsn ha).2.2.2.2.2.2
 have h0 : ¬ 0 < (c.at i0).rf.length := by rw [hn1]; decide
 obtain ⟨⟨v, f⟩, he⟩ : ∃ y, j9 c.m c.w { (c.at i0) with act := true, full := c.w } hd = y := ⟨_, rfl⟩
 have hC : Cho c i0 hd pl v f := cho_of hc hp hf (by rw [hact]; exact he)
 have hch := fun (wk p : Nm) (hne : wk ≠ p) => wchoose_v (G := gm) wk p hne { (c.at i0) with act := true, full := c.w } c.m c.w hd (by dsimp only; rw [hn1]; decide) (by dsimp only; rw [hn1]; simp)
 rw [he] at hch
 have hvr : v.rf = (c.at i0).rf := by
   have h9 := rf_cho (m := c.m) (w := c.w) (s := { (c.at i0) with act := true, full := c.w }) (h := hd) (by dsimp only; rw [hn1]; simp)
   rw [he] at h9
   exact h9
 have hct := fun (wk p : Nm) (hne : wk ≠ p) => wcount_v (G := gm) wk p hne v c.m c.w hd f hC.sin hC.lng hC.full hC.refr hC.ser hW.2.2 hC.frm (by rw [hvr, hn1]; decide)
 rw [hvr] at hct
 have hPt := fun (wk : Nm) (R : AV) => vp wk v R c.m c.w hd ko i0 f pl hC.frm
 have hEn := zH (G := gm) (qz v.dy i0 f hd pl)
 have hz := hC.enc
 rw [comprR_g hc hb hp hf (fun q => by rw [ha] at q; cases q.1), hC.eq]
 obtain ⟨NS, hNS⟩ : ∃ NS, csF c.m c.w hd v f = NS := ⟨_, rfl⟩
 rw [hNS] at hct ⊢
 generalize qz v.dy i0 f hd pl = PR at hPt hEn hz ⊢
 generalize zd PR = Y at hEn hz ⊢
 obtain ⟨Y, ey⟩ := Y
 dsimp only at hz
 subst hz
 clear hb hp hC hsm hNS
 have hx : True := trivial
 all_goals
   refine goW [12] Tryz.func18 rfl ?_
   conv => whnf
   repeat' ((first | (show LFreshN _ _; refine LFreshN.two fun R p => ?_; dsimp only [yq, yp, List.cons_append, List.nil_append]; conv => whnf) | (show LC _ _ 47 _ _ _; refine LC.cofL (c := c) (hd := hd) i0 hfd ?_ ?_; (focus ((repeat first | refine goH ?_ | apply LH.here | apply LH.next); refine ⟨_, rfl, ?_⟩; (repeat first | refine goH ?_ | apply LH.here | apply LH.next); rfl)); rw [hf, show j3 (some i0) = AV.tup [.int .i64 (i0 : Int), .bool true] from rfl]; conv => whnf) | ((with_reducible show AB (decide (0 < (c.at i0).rf.length)) _ _); first | refine goT ?_ h0 | refine goF ?_ h0) | ((with_reducible show AB (c.at i0).act _ _); first | refine goT' ?_ ha | refine goF' ?_ ha) | (show LC _ _ 53 _ _ _; apply LC.many (fun hn => hct wk p (by simpa using hn))) | exact Nm.b 0 | (refine And.intro ?_ ?_; (focus (first | exact InL.here | exact InL.next InL.here | exact T.kx | exact T.side))) | (show LC _ _ _ _ _ _; first | refine LC.pure (hv) ?_ | refine LC.mkN (hcp) [] (LFs.refl _) ?_ | refine LC.pure (zH (xy b)) ?_ | refine LC.pure (hpr) ?_ | (apply LC.twoK (fun hne => jK _ p hne (c.at i0) c.m c.w hd (by rw [hn1]; decide)); (repeat first | refine goH ?_ | apply LH.here | apply LH.next); refine ⟨rfl, ?_⟩; (repeat first | refine goH ?_ | apply LH.here | apply LH.next); refine ⟨rfl, ?_⟩; (repeat first | refine goH ?_ | apply LH.here | apply LH.next)) | refine LC.pure (kt _) ?_ | refine LC.pure (xl 16 _ _ (by decide) (by decide)) ?_ | (apply LC.twoK (fun hne => hch wk p hne); (repeat first | refine goH ?_ | apply LH.here | apply LH.next); refine ⟨rfl, ?_⟩; (repeat first | refine goH ?_ | apply LH.here | apply LH.next); refine ⟨rfl, ?_⟩; (repeat first | refine goH ?_ | apply LH.here | apply LH.next)) | (apply LC.upd (hPt wk _); (repeat first | refine goH ?_ | apply LH.here | apply LH.next); refine ⟨rfl, ?_⟩) | refine LC.pure (hEn) ?_ | refine goE ?_) | (show AC _ _ _; first | (refine AC.cpA (Nat.zero_add _) rfl hi ?_)) | (show AQ _ _; first | ((with_reducible show AQ (ql (cpR _ _ _ _) _ _) _); refine AQ.cpS (i0 := i0) (Nat.zero_add _) hi rfl ?_)) | refine T.s ?_ | ((first | apply goB | apply AB.dec | apply AB.gen) <;> intro h) | refine LQ.mk fun r => ?_ | refine LFreshN.two fun r r2 => ?_ | refine LFreshN.three fun r r2 r3 => ?_ | (show SQ _ _ _ _ _ _ _; first | refine gX 11 [] [0, 1, 2, 3, 4, 5, 6, 7, 8, 9, 10, 11, 12] [] ?_ | refine gX 14 [2, 1] [0, 2, 1, 3, 4, 5] [] ?_ | (refine goD tQ qd 18 [3, 7] [0, 1, 2, 3, 4, 5, 6, 7, 8, 9, 10, 11] [a] (by kernel_rfl) ?_) | (refine goD tQ qd 22 [] [0, 1, 2, 3, 4, 5, 6, 7, 8] [o, wk] (by kernel_rfl) ?_)) | (show CutL _ _ _ _ _ _ _ _; first | (refine goK tQ [12] 12 (S := Nm × Nm × Nm × Nm × Nm × Nm) [8, 11, 13] (fun (a, z, o, hh, wk, e) => ⟨[(2, .ptr a 0), (4, .ptr z 0), (7, .ptr o 0), (10, .ptr hh 0), (15, .ptr wk 0), (16, .ptr e 0), (17, .bool (decide (0 < (c.at i0).rf.length)))], [(a, ⟨34, [iAV c.m, iAV c.w, snv c.cx]⟩), (z, ⟨34, [iAV 0, iAV 0, .nils]⟩), (o, ⟨34, [iAV c.m, iAV c.w, .vw R 0 c.cx.length 9]⟩), (hh, ⟨50, hd.cs⟩), (wk, ⟨86, wrV (c.at i0) (.vw p 0 (c.at i0).rf.length 15) c.m c.w hd⟩), (e, ⟨50, (c.at i0).lst.cs⟩), (R, ⟨61, cpR c i0 p c.cx.length⟩), (p, ⟨50, (c.at i0).rf.flatMap Hd.cs⟩)], True, 0⟩) ?_ ?_; (rintro ⟨a, z, o, hh, wk, e⟩ -); rotate_left) | refine CutL.go tQ [12] ?_) | (show AtC 12 _ _ _ _ _ _ _; first | (apply AtC.mk' (id := 12) (S := Nm × Nm × Nm × Nm × Nm × Nm) ((_, _, _, _, _, _)); focus (refine T.a4 ?_ ?_ ?_ <;> exact ECpg13_2))) | exact T.z | fail) <;> conv => whnf)
   all_goals (try dsimp only)
   all_goals first
     | (refine RL.cmp (c := c) (i0 := i0) (s' := NS) (r := r) hi rfl rfl ?_ ?_; (focus ((repeat first | refine goH ?_ | apply LH.here | apply LH.next); rfl)); (repeat first | refine goH ?_ | apply LH.here | apply LH.next); refine And.intro rfl ?_; (repeat first | refine goH ?_ | apply LH.here | apply LH.next); trivial)
     | trace_state
theorem ECpg13_3 {p : Prop} (h : p := by (repeat' first | exact trivial | (refine And.intro ?_ ?_) | exact LB.nil | (with_reducible exact LB.refl) | (apply LB.cons; (repeat first | refine goH ?_ | apply LH.here | apply LH.next); refine And.intro ?_ ?_; (focus (try (first | (with_reducible rfl) | (refine congrArg (Pl.mk _) ?_; (first | rfl | (simp; done))) | rfl | (with_reducible refine congrArg (Pl.mk _) ?_))))) | (with_reducible assumption) | fail | (show (_ : AV) = _; (first | (focus (apply Eq.trans; (conv => lhs; whnf); (conv => rhs; whnf); done)) | rfl | ((conv => lhs; whnf); first | rfl | (refine congrArg (AV.int _) ?_; (exact T.num)) | (refine congrArg AV.bool ?_; (exact T.num)) | (refine vwc ?_; first | (exact T.num) | (first | rfl | (simp; done))) | (refine qc ?_ ?_ <;> first | (exact T.num) | (first | rfl | (simp; done))) | (first | rfl | (simp; done))))) | ((with_reducible first | (show (_ : Int) ≤ _) | (show (_ : Int) < _) | (show (_ : Nat) ≤ _) | (show (_ : Nat) < _) | (show (_ : Int) = _) | (show (_ : Nat) = _)); (exact T.num)) | (first | rfl | (simp; done))); first | done | fail) : p := h
theorem ccomp_32 (c : Co) (b : List UInt8) (hd : Hd) (pl : List UInt8) (i0 : Nat) (hc : c.ok = true) (hb : ¬ (b = [] ∨ 1500 < b.length)) (hp : qg b = ((hd, pl), 0)) (hf : qP c.cx hd = some i0) (ha : (c.at i0).act = true) (hm : c.m = 3) (h32 : (c.at i0).rf.length = 32) (ho : c.m = 3 → ¬ sg 16 (c.at i0).lst.num hd.num < 1 ∧ ¬ 255 < sg 16 (c.at i0).lst.num hd.num) : LP Tryz.prog gm 18 [c.av, bv b] [] (fun _ => (cpr (qf c b), [])) := by
 have hv := zl (G := gm) c
 rw [hc] at hv
 have hb2 : ¬ (b.length : Int) = 0 := fun h => hb (.inl (List.eq_nil_of_length_eq_zero (by omega)))
 have hb3 : ¬ 1500 < (b.length : Int) := fun h => hb (.inr (by omega))
 obtain ⟨hi, hsn, hsm, -⟩ := zA hc hf
 have h16 := qY hc
 have hW := wc hc
 have hcp := jH (G := gm) c hc i0 (by omega)
 have hi : i0 < c.cx.length := by omega
 have hpr : LP Tryz.prog gm 46 [bv b] [] (fun _ => (.tup [hd.av, bv pl, iAV 0], [])) := by
   have h1 := jv (G := gm) b (by omega)
   rwa [hp] at h1
 have hfd := kU (G := gm) c hc hd
 have ko := (je hp).1
 have hact : ja c.w (c.at i0) = (c.at i0) := if_pos ha
 have h0 : 0 < (c.at i0).rf.length := by omega
 obtain ⟨⟨v, f⟩, he⟩ : ∃ y, j9 c.m c.w (c.at i0) hd = y := ⟨_, rfl⟩
 have hC : Cho c i0 hd pl v f := cho_of hc hp hf (by rw [hact]; exact he)
 have hch := fun (wk p : Nm) (hne : wk ≠ p) => wchoose_32 (G := gm) wk p hne (c.at i0) c.m c.w hd hW.2.2.1 hm h32
 rw [he] at hch
 have hf5 : f = 5 ∧ v.rf = [] := by
   obtain ⟨x, bh, hx⟩ : ∃ x bh, (x, bh) = chA c.w (c.at i0) hd (chb (c.at i0)) := ⟨_, _, rfl⟩
   have h9 := cho_32 (hd := hd) hW.2.2.1 hm h32 hx
   rw [he] at h9
   injection h9 with h8 h9
   exact ⟨h9, by rw [h8]; rfl⟩
 have hct := fun (wk : Nm) => wcount_n (G := gm) wk v c.m c.w hd f hC.sin hC.lng hC.full hC.refr hC.ser hW.2.2 hC.frm hm hf5.2
 rw [← hf5.1] at hch
 have hPt := fun (wk : Nm) (R : AV) => vp wk v R c.m c.w hd ko i0 f pl hC.frm
 have hEn := zH (G := gm) (qz v.dy i0 f hd pl)
 have hz := hC.enc
 rw [comprR_g hc hb hp hf (fun q => q.2.2.elim (ho hm).1 (ho hm).2), hC.eq]
 obtain ⟨NS, hNS⟩ : ∃ NS, csF c.m c.w hd v f = NS := ⟨_, rfl⟩
 rw [hNS] at hct ⊢
 generalize qz v.dy i0 f hd pl = PR at hPt hEn hz ⊢
 generalize zd PR = Y at hEn hz ⊢
 obtain ⟨Y, ey⟩ := Y
 dsimp only at hz
 subst hz
 clear hb hp hC hsm hNS
 obtain ⟨ho1, ho2⟩ := ho hm
 all_goals
   refine goW [12] Tryz.func18 rfl ?_
   conv => whnf
   repeat' ((first | (show LFreshN _ _; refine LFreshN.two fun R p => ?_; dsimp only [yq, yp, List.cons_append, List.nil_append]; conv => whnf) | (show LC _ _ 47 _ _ _; refine LC.cofL (c := c) (hd := hd) i0 hfd ?_ ?_; (focus ((repeat first | refine goH ?_ | apply LH.here | apply LH.next); refine ⟨_, rfl, ?_⟩; (repeat first | refine goH ?_ | apply LH.here | apply LH.next); rfl)); rw [hf, show j3 (some i0) = AV.tup [.int .i64 (i0 : Int), .bool true] from rfl]; conv => whnf) | ((with_reducible show AB (decide (0 < (c.at i0).rf.length)) _ _); first | refine goT ?_ h0 | refine goF ?_ h0) | ((with_reducible show AB (c.at i0).act _ _); first | refine goT' ?_ ha | refine goF' ?_ ha) | (show LC _ _ 53 _ _ _; apply LC.many (fun hn => hct wk)) | exact Nm.b 0 | (refine And.intro ?_ ?_; (focus (first | exact InL.here | exact InL.next InL.here | exact T.kx | exact T.side))) | (show LC _ _ _ _ _ _; first | refine LC.pure (hv) ?_ | refine LC.mkN (hcp) [] (LFs.refl _) ?_ | refine LC.pure (zH (xy b)) ?_ | refine LC.pure (hpr) ?_ | (apply LC.twoK (fun hne => jK _ p hne (c.at i0) c.m c.w hd (by omega)); (repeat first | refine goH ?_ | apply LH.here | apply LH.next); refine ⟨rfl, ?_⟩; (repeat first | refine goH ?_ | apply LH.here | apply LH.next); refine ⟨rfl, ?_⟩; (repeat first | refine goH ?_ | apply LH.here | apply LH.next)) | refine LC.pure (kt _) ?_ | refine LC.pure (xl 16 _ _ (by decide) (by decide)) ?_ | (apply LC.twoK (fun hne => hch wk p hne); (repeat first | refine goH ?_ | apply LH.here | apply LH.next); refine ⟨rfl, ?_⟩; (repeat first | refine goH ?_ | apply LH.here | apply LH.next); refine ⟨rfl, ?_⟩; (repeat first | refine goH ?_ | apply LH.here | apply LH.next)) | (apply LC.upd (hPt wk _); (repeat first | refine goH ?_ | apply LH.here | apply LH.next); refine ⟨rfl, ?_⟩) | refine LC.pure (hEn) ?_ | refine goE ?_) | (show AC _ _ _; first | (refine AC.cpA (Nat.zero_add _) rfl hi ?_)) | (show AQ _ _; first | ((with_reducible show AQ (ql (cpR _ _ _ _) _ _) _); refine AQ.cpS (i0 := i0) (Nat.zero_add _) hi rfl ?_)) | refine T.s ?_ | ((first | apply goB | apply AB.dec | apply AB.gen) <;> intro h) | refine LQ.mk fun r => ?_ | refine LFreshN.two fun r r2 => ?_ | refine LFreshN.three fun r r2 r3 => ?_ | (show SQ _ _ _ _ _ _ _; first | refine gX 11 [] [0, 1, 2, 3, 4, 5, 6, 7, 8, 9, 10, 11, 12] [] ?_ | refine gX 14 [2, 1] [0, 2, 1, 3, 4, 5] [] ?_ | (refine goD tQ qd 18 [3, 7] [0, 1, 2, 3, 4, 5, 6, 7, 8, 9, 10, 11] [a] (by kernel_rfl) ?_) | (refine goD tQ qd 22 [] [0, 1, 2, 3, 4, 5, 6, 7, 8] [o, wk] (by kernel_rfl) ?_)) | (show CutL _ _ _ _ _ _ _ _; first | (refine goK tQ [12] 12 (S := Nm × Nm × Nm × Nm × Nm × Nm) [8, 11, 13] (fun (a, z, o, hh, wk, e) => ⟨[(2, .ptr a 0), (4, .ptr z 0), (7, .ptr o 0), (10, .ptr hh 0), (15, .ptr wk 0), (16, .ptr e 0), (17, .bool (decide (0 < (c.at i0).rf.length)))], [(a, ⟨34, [iAV c.m, iAV c.w, snv c.cx]⟩), (z, ⟨34, [iAV 0, iAV 0, .nils]⟩), (o, ⟨34, [iAV c.m, iAV c.w, .vw R 0 c.cx.length 9]⟩), (hh, ⟨50, hd.cs⟩), (wk, ⟨86, wrV (c.at i0) (.vw p 0 (c.at i0).rf.length 15) c.m c.w hd⟩), (e, ⟨50, (c.at i0).lst.cs⟩), (R, ⟨61, cpR c i0 p c.cx.length⟩), (p, ⟨50, (c.at i0).rf.flatMap Hd.cs⟩)], True, 0⟩) ?_ ?_; (rintro ⟨a, z, o, hh, wk, e⟩ -); rotate_left) | refine CutL.go tQ [12] ?_) | (show AtC 12 _ _ _ _ _ _ _; first | (apply AtC.mk' (id := 12) (S := Nm × Nm × Nm × Nm × Nm × Nm) ((_, _, _, _, _, _)); focus (refine T.a4 ?_ ?_ ?_ <;> exact ECpg13_3))) | exact T.z | fail) <;> conv => whnf)
   all_goals (try dsimp only)
   all_goals first
     | (refine RL.cmp (c := c) (i0 := i0) (s' := NS) (r := r) hi rfl rfl ?_ ?_; (focus ((repeat first | refine goH ?_ | apply LH.here | apply LH.next); rfl)); (repeat first | refine goH ?_ | apply LH.here | apply LH.next); refine And.intro rfl ?_; (repeat first | refine goH ?_ | apply LH.here | apply LH.next); trivial)
     | trace_state
theorem ccomp_raw (c : Co) (b : List UInt8) (hd : Hd) (pl : List UInt8) (i0 : Nat) (hc : c.ok = true) (hb : ¬ (b = [] ∨ 1500 < b.length)) (hp : qg b = ((hd, pl), 0)) (hf : qP c.cx hd = some i0) (ha : (c.at i0).act = true) (hm : c.m = 3) (hcr : qf c b = ((c, (zd (xy b)).1), 0)) (ho : sg 16 (c.at i0).lst.num hd.num < 1 ∨ ¬ sg 16 (c.at i0).lst.num hd.num < 1 ∧ 255 < sg 16 (c.at i0).lst.num hd.num) : LP Tryz.prog gm 18 [c.av, bv b] [] (fun _ => (cpr (qf c b), [])) := by
 have hv := zl (G := gm) c
 rw [hc] at hv
 have hb2 : ¬ (b.length : Int) = 0 := fun h => hb (.inl (List.eq_nil_of_length_eq_zero (by omega)))
 have hb3 : ¬ 1500 < (b.length : Int) := fun h => hb (.inr (by omega))
 obtain ⟨hi, hsn, hsm, -⟩ := zA hc hf
 have h16 := qY hc
 have hW := wc hc
 have hcp := jH (G := gm) c hc i0 (by omega)
 have hi : i0 < c.cx.length := by omega
 have hpr : LP Tryz.prog gm 46 [bv b] [] (fun _ => (.tup [hd.av, bv pl, iAV 0], [])) := by
   have h1 := jv (G := gm) b (by omega)
   rwa [hp] at h1
 have hfd := kU (G := gm) c hc hd
 have ko := (je hp).1
 have hact : ja c.w (c.at i0) = (c.at i0) := if_pos ha
 have hn0 := jf hsn ha
 have hn1 := yH hsn hW.2.2.2
 have h0 : 0 < (c.at i0).rf.length := hn0
 rw [show qf c b = ((c, (zd (xy b)).1), 0) from hcr]
 rcases ho with ho1 | ⟨ho1, ho2⟩
 all_goals
   refine goW [] Tryz.func18 rfl ?_
   conv => whnf
   repeat' ((first | (show LFreshN _ _; refine LFreshN.two fun R p => ?_; dsimp only [yq, yp, List.cons_append, List.nil_append]; conv => whnf) | (show LC _ _ 47 _ _ _; refine LC.cofL (c := c) (hd := hd) i0 hfd ?_ ?_; (focus ((repeat first | refine goH ?_ | apply LH.here | apply LH.next); refine ⟨_, rfl, ?_⟩; (repeat first | refine goH ?_ | apply LH.here | apply LH.next); rfl)); rw [hf, show j3 (some i0) = AV.tup [.int .i64 (i0 : Int), .bool true] from rfl]; conv => whnf) | ((with_reducible show AB (decide (0 < (c.at i0).rf.length)) _ _); first | refine goT ?_ h0 | refine goF ?_ h0) | ((with_reducible show AB (c.at i0).act _ _); first | refine goT' ?_ ha | refine goF' ?_ ha) | exact Nm.b 0 | (show LC _ _ _ _ _ _; first | refine LC.pure (hv) ?_ | refine LC.mkN (hcp) [] (LFs.refl _) ?_ | refine LC.pure (zH (xy b)) ?_ | refine LC.pure (hpr) ?_ | (apply LC.twoK (fun hne => jK _ p hne (c.at i0) c.m c.w hd (by omega)); (repeat first | refine goH ?_ | apply LH.here | apply LH.next); refine ⟨rfl, ?_⟩; (repeat first | refine goH ?_ | apply LH.here | apply LH.next); refine ⟨rfl, ?_⟩; (repeat first | refine goH ?_ | apply LH.here | apply LH.next)) | refine LC.pure (kt _) ?_ | refine LC.pure (xl 16 _ _ (by decide) (by decide)) ?_ | refine goE ?_) | (show AC _ _ _; first | (refine AC.cpA (Nat.zero_add _) rfl hi ?_)) | refine T.s ?_ | ((first | apply goB | apply AB.dec | apply AB.gen) <;> intro h) | refine LQ.mk fun r => ?_ | refine LFreshN.two fun r r2 => ?_ | refine LFreshN.three fun r r2 r3 => ?_ | (show SQ _ _ _ _ _ _ _; first | refine gX 11 [] [0, 1, 2, 3, 4, 5, 6, 7, 8, 9, 10, 11, 12] [] ?_ | refine gX 14 [2, 1] [0, 2, 1, 3, 4, 5] [] ?_ | refine gX 18 [3, 7] [0, 1, 2, 3, 4, 5, 6, 7, 8, 9, 10, 11] [] ?_ | refine gX 22 [] [0, 1, 2, 3, 4, 5, 6, 7, 8] [] ?_) | exact T.z | fail) <;> conv => whnf)
   all_goals (try dsimp only)
   all_goals first
     | (refine RL.cop (c := c) i0 (x := (zd (xy b)).1) (e := 0) ?_; (repeat first | refine goH ?_ | apply LH.here | apply LH.next); refine ⟨_, rfl, ?_⟩; (repeat first | refine goH ?_ | apply LH.here | apply LH.next); rfl)
     | trace_state
theorem jS (c : Co) (b : List UInt8) : LP Tryz.prog gm 18 [c.av, bv b] [] (fun _ => (cpr (qf c b), [])) := by
 cases hc : c.ok with
 | false => exact ccomp_inv c b hc
 | true =>
   by_cases hb : b = [] ∨ 1500 < b.length
   · exact ccomp_size c b hc hb
   · by_cases hp : (qg b).2 = 0
     · cases hf : qP c.cx (qg b).1.1 with
       | none => exact ccomp_none c b hc hb hp hf
       | some i =>
         have he : qg b = (((qg b).1.1, (qg b).1.2), 0) := by rw [← hp]
         by_cases ha : (c.at i).act = true
         · by_cases ho : c.m = 3 ∧ (sg 16 (c.at i).lst.num (qg b).1.1.num < 1 ∨ 255 < sg 16 (c.at i).lst.num (qg b).1.1.num)
           · refine ccomp_raw c b _ _ i hc hb he hf ha ho.1 ?_ ?_
             · unfold qf
               rw [if_pos hc, if_neg hb, if_pos hp, hf]
               dsimp only
               rw [if_pos ⟨ha, ho⟩]
             · by_cases h1 : sg 16 (c.at i).lst.num (qg b).1.1.num < 1
               · exact .inl h1
               · exact .inr ⟨h1, ho.2.resolve_left h1⟩
           · have ho2 : c.m = 3 → ¬ sg 16 (c.at i).lst.num (qg b).1.1.num < 1 ∧ ¬ 255 < sg 16 (c.at i).lst.num (qg b).1.1.num := fun hm => ⟨fun h => ho ⟨hm, .inl h⟩, fun h => ho ⟨hm, .inr h⟩⟩
             by_cases h32 : c.m = 3 ∧ (c.at i).rf.length = 32
             · exact ccomp_32 c b _ _ i hc hb he hf ha h32.1 h32.2 ho2
             · exact ccomp_v c b _ _ i hc hb he hf ha h32 ho2
         · exact ccomp_n c b _ _ i hc hb he hf (by simpa using ha)
     · exact ccomp_perr c b hc hb hp
end Go.Proofs.YtbagbjacmakfhaaGreatDoor
