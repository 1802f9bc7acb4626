/-
  Contracts of the functions that the laws reach.
-/
import Derived.Test.YtbagbjacmakfhaaGreatDoorCq01
import Derived.Test.YtbagbjacmakfhaaGreatDoorCq02
import Derived.Test.YtbagbjacmakfhaaGreatDoorCq03
import Derived.Test.YtbagbjacmakfhaaGreatDoorCq04
import Derived.Test.YtbagbjacmakfhaaGreatDoorCq05
import Derived.Test.YtbagbjacmakfhaaGreatDoorCq06
import Derived.Test.YtbagbjacmakfhaaGreatDoorCq08
import Derived.Test.YtbagbjacmakfhaaGreatDoorCq09
import Derived.Test.YtbagbjacmakfhaaGreatDoorCq10
import Derived.Test.YtbagbjacmakfhaaGreatDoorCq12
import Derived.Test.YtbagbjacmakfhaaGreatDoorCq13
import Derived.Test.YtbagbjacmakfhaaGreatDoorCq14
import Derived.Test.YtbagbjacmakfhaaGreatDoorCq15
import Derived.Test.YtbagbjacmakfhaaGreatDoorCq16
import Derived.Test.YtbagbjacmakfhaaGreatDoorCq18
import Derived.Test.YtbagbjacmakfhaaGreatDoorCq22
import Derived.Test.YtbagbjacmakfhaaGreatDoorCq23
import Derived.Test.YtbagbjacmakfhaaGreatDoorCq24
import Derived.Test.YtbagbjacmakfhaaGreatDoorCq28
import Derived.Test.YtbagbjacmakfhaaGreatDoorCq29
import Derived.Test.YtbagbjacmakfhaaGreatDoorCq34
import Derived.Test.YtbagbjacmakfhaaGreatDoorCq36
set_option maxHeartbeats 8000000
set_option linter.all false
namespace Go.Proofs.YtbagbjacmakfhaaGreatDoor
open Go.RowKit
def Co.rst (c : Co) (k : Nat) : Co := c.set k { c.at k with full := 0, refr := 0 }
theorem rst_ok {c : Co} {j : Nat} (hj : j < 16) (hc : c.ok = true) : (c.rst j).ok = true := by
 obtain ⟨h1, h2, h3, h4⟩ := yB.1 hc
 have hat : ∀ k, (c.rst j).at k = if k = j then { c.at j with full := 0, refr := 0 } else c.at k := fun k => co_at h2 hj
 have hal : ∀ i k, qW ((c.rst j).at i) ((c.rst j).at k) = qW (c.at i) (c.at k) := fun i k => by
   rw [hat, hat]
   split <;> split <;> (try subst_vars) <;> rfl
 refine yB.2 ⟨h1, by show (c.cx.set _ _).length = 16; rw [List.length_set]; exact h2, fun i hi => ?_, fun i k hk hi => by rw [hal]; exact h4 i k hk hi⟩
 rw [hat]
 show Sn.ok c.m c.w _ = true
 split
 · have h0 := h3 j hj
   generalize c.at j = s at h0
   obtain ⟨act, full, refr, ser, sin, lng, dy, rf⟩ := s
   unfold Sn.ok at h0 ⊢
   dsimp only at h0 ⊢
   cases act with
   | true =>
     simp only [if_true, Bool.and_eq_true] at h0 ⊢
     obtain ⟨k1, k2, k3, k4, k5, k6⟩ := h0
     have hz : inR 0 c.w = true := by unfold inR; exact decide_eq_true (by omega)
     exact ⟨k1, k2, hz, hz, rfl, k6⟩
   | false =>
     simp only [Bool.false_eq_true, if_false] at h0 ⊢
     unfold jQ at h0 ⊢
     dsimp only at h0 ⊢
     have h0 := of_decide_eq_true h0
     exact decide_eq_true ⟨rfl, rfl, h0.2.2⟩
 · exact h3 i hi
def aftK (t : List Int) (a : Nat) : Nat := (qi t (qe t a) 2).toNat
def yE (t : List Int) (m : Int) (x : Co × Nat) (b : List UInt8) : Co × Nat :=
 if m = 1 then ((qf x.1 b).1.1, x.2)
 else if zG t x.2 5 = true then (if ((qf x.1 b).1.1.at (aftK t x.2)).act = true then (qf x.1 b).1.1.rst (aftK t x.2) else (qf x.1 b).1.1, qe t (qe t x.2))
 else ((qf x.1 b).1.1, qe t x.2)
def aftR (t : List Int) (m w : Int) (a : Nat) (L : List (List UInt8)) : Co × Nat := L.foldl (yE t m) (⟨m, w, List.replicate 16 Sn.z⟩, a)
section
variable {t : List Int} {m : Int} {c : Co} {a : Nat} {b : List UInt8}
theorem aft_1 (h : m = 1) : ((qf c b).1.1, a) = yE t m (c, a) b := by unfold yE; rw [if_pos h]
theorem aft_2 (h : ¬ m = 1) (h2 : zG t a 5 = false) : ((qf c b).1.1, qe t a) = yE t m (c, a) b := by unfold yE; rw [if_neg h, if_neg (by dsimp only; rw [h2]; decide)]
theorem aft_3 (h : ¬ m = 1) (h2 : zG t a 5 = true) (h3 : ((qf c b).1.1.cx.getD (qi t (qe t a) 2).toNat Sn.z).act = false) : ((qf c b).1.1, qe t (qe t a)) = yE t m (c, a) b := by
 unfold yE
 rw [if_neg h, if_pos h2, if_neg (by intro q; have q : ((qf c b).1.1.cx.getD (qi t (qe t a) 2).toNat Sn.z).act = true := q; rw [h3] at q; cases q)]
theorem aft_4 (h : ¬ m = 1) (h2 : zG t a 5 = true) (h3 : ((qf c b).1.1.cx.getD (qi t (qe t a) 2).toNat Sn.z).act = true) : ((qf c b).1.1.rst (qi t (qe t a) 2).toNat, qe t (qe t a)) = yE t m (c, a) b := by
 unfold yE
 rw [if_neg h, if_pos h2, if_pos (show ((qf c b).1.1.at (aftK t a)).act = true from h3)]
 rfl
end
theorem fold_next {α β : Type} {f : α → β → α} {x0 x : α} {l : List β} {i : Nat} (d : β) (h : i < l.length) (e : x = (l.take i).foldl f x0) : f x (l.getD i d) = (l.take (i + 1)).foldl f x0 := by
 rw [List.take_succ_eq_append_getElem h, List.foldl_append, ← e]
 simp [List.getD_eq_getElem?_getD, h]
theorem next2 (t : List Int) (a : Nat) : (qi t a 2).toNat < 16 := by have := qQ t a 2 (by decide) (by decide); omega
theorem compo9_c (c : Co) (b : List UInt8) (hc : c.ok = true) (hb : zt b) : LP Tryz.prog gm 19 [c.av, bv b] [] (fun q => (.tup [.agg [iAV (qf c b).1.1.m, iAV (qf c b).1.1.w, .vw q 0 (qf c b).1.1.cx.length 9], bv (qf c b).1.2, iAV 0], [(q, ⟨61, (qf c b).1.1.cx.flatMap Sn.cs⟩)])) := comp_own c b hc (sz_ne hb)
theorem LTo.co9 {c : Co} {pc q : Nm} {n : Nat} {m l : LS} (hn : n = c.cx.length) (hq : LH l q fun cc _ _ => cc.cs = c.cx.flatMap Sn.cs) (h : LH l pc fun cc s _ => cc.cs = [iAV c.m, iAV c.w, .vw q 0 n 9] ∧ LEra (s ⟨cc.ty, [iAV c.m, iAV c.w, snv c.cx]⟩) [q] (LB m)) : LTo m l := by
 subst hn
 refine LTo.frz pc [q] [iAV c.m, iAV c.w, snv c.cx] (LH.mono h fun cc s _ hh => ⟨?_, hh.2⟩)
 rw [hh.1]
 exact ⟨.eq rfl, .eq rfl, LF.row InL.here (LH.mono hq fun cc _ _ h1 => ⟨by decide, by rw [h1, qr Sn.cs_len], rfl, h1.symm⟩), trivial⟩
attribute [local irreducible] qf Co.ok yE zG
theorem zI {p : Prop} (h : p := by (repeat' first | exact trivial | (refine And.intro ?_ ?_) | exact LB.nil | (with_reducible exact LB.refl) | (apply LB.cons; (repeat first | refine goH ?_ | apply LH.here | apply LH.next); refine And.intro ?_ ?_; (focus (try (first | (with_reducible rfl) | (refine congrArg (Pl.mk _) ?_; (first | rfl | (simp; done))) | rfl | (with_reducible refine congrArg (Pl.mk _) ?_))))) | (with_reducible assumption) | (exact rst_ok (next2 t _) (by assumption)) | ((with_reducible show (_, _) = List.foldl _ _ _); refine Eq.trans ?_ (fold_next [] (by omega) (by assumption)); first | exact aft_1 (by assumption) | exact aft_2 (by assumption) (by assumption) | exact aft_3 (by assumption) (by assumption) (by assumption) | exact aft_4 (by assumption) (by assumption) (by assumption)) | ((with_reducible show (_, _) = List.foldl _ _ _); rfl) | (show (_ : AV) = _; (first | (focus (apply Eq.trans; (conv => lhs; whnf); (conv => rhs; whnf); done)) | rfl | ((conv => lhs; whnf); first | rfl | (refine congrArg (AV.int _) ?_; (exact T.num)) | (refine congrArg AV.bool ?_; (exact T.num)) | (refine vwc ?_; first | (exact T.num) | (first | rfl | (simp; done))) | (refine qc ?_ ?_ <;> first | (exact T.num) | (first | rfl | (simp; done))) | (first | rfl | (simp; done))))) | ((with_reducible first | (show (_ : Int) ≤ _) | (show (_ : Int) < _) | (show (_ : Nat) ≤ _) | (show (_ : Nat) < _) | (show (_ : Int) = _) | (show (_ : Nat) = _)); (exact T.num)) | (first | rfl | (simp; done))); first | done | fail) : p := h
theorem after_c (t : List Int) (a0 : Nat) (ht : t.length ≤ 400) (m w : Int) (hm2 : 1 ≤ m ∧ m ≤ 3) (hw2 : 1 ≤ w ∧ w ≤ 8) (L : List (List UInt8)) (hZ : ∀ b ∈ L, zt b) (hY : L.length ≤ 202) (d : Nm) : LP Tryz.prog gm 13 [.ptr d 0, iAV m, iAV w, bbv L] [(d, z4 t a0)] (fun _ => ((aftR t m w a0 L).1.av, [(d, z4 t (aftR t m w a0 L).2)])) := by
 have hM := r9new_c (G := gm) m w
 rw [wi ⟨hm2.1, hm2.2, hw2.1, hw2.2⟩] at hM
 have hI := vn hm2 hw2
 obtain ⟨R, hR⟩ : ∃ R, aftR t m w a0 L = R := ⟨_, rfl⟩
 unfold aftR at hR
 unfold aftR
 rw [hR]
 have nx : ∀ b, 0 ≤ qi t b 2 ∧ qi t b 2 < 2 := fun b => qQ t b 2 (by decide) (by decide)
 refine goW [] Tryz.func13 rfl ?_
 conv => whnf
 repeat' ((first | (show LC _ _ 19 _ _ _; have hs := xw hZ (by assumption); have hok1 := yz (by assumption) hs; have h16 := qY hok1; have hk := nx (qe t a); refine LC.own (compo9_c c (L.getD i []) (by assumption) hs) ?_) | ((with_reducible show AB (qo .neq _ _) _ _); first | refine AB.neqT (by assumption) ?_ | refine AB.neqF (by assumption) ?_) | (show AtL 3 _ _ _ _ _ _ _ _ _; first | (refine AtL.mkF (id := 3) (S := Nat × Co × Nat × Nm × Nm) (i + 1, (qf c (L.getD i [])).1.1, a, pc, pz) (And.intro ?_ (And.intro ?_ (And.intro ?_ (And.intro ?_ ?_)))); (focus exact zI); (focus (exact T.sm)); (focus (dsimp only; refine LTo.co9 (c := (qf c (L.getD i [])).1.1) (n := (qf c (L.getD i [])).1.1.cx.length) (q := r) (pc := pc) rfl ?_ ?_; (focus ((repeat first | refine goH ?_ | apply LH.here | apply LH.next); rfl)); (repeat first | refine goH ?_ | apply LH.here | apply LH.next); refine And.intro rfl ?_; (repeat first | refine goH ?_ | apply LH.here | apply LH.next); (repeat' first | exact LB.nil | (with_reducible exact LB.refl) | (apply LB.cons; (repeat first | refine goH ?_ | apply LH.here | apply LH.next); refine And.intro ?_ ?_; (focus (try (first | (with_reducible rfl) | (refine congrArg (Pl.mk _) ?_; (first | rfl | (simp; done))) | rfl | (with_reducible refine congrArg (Pl.mk _) ?_)))))))); (focus exact zI); (focus exact zI)) | (refine AtL.mkF (id := 3) (S := Nat × Co × Nat × Nm × Nm) (i + 1, (qf c (L.getD i [])).1.1, qe t a, pc, pz) (And.intro ?_ (And.intro ?_ (And.intro ?_ (And.intro ?_ ?_)))); (focus exact zI); (focus (exact T.sm)); (focus (dsimp only; refine LTo.co9 (c := (qf c (L.getD i [])).1.1) (n := (qf c (L.getD i [])).1.1.cx.length) (q := r) (pc := pc) rfl ?_ ?_; (focus ((repeat first | refine goH ?_ | apply LH.here | apply LH.next); rfl)); (repeat first | refine goH ?_ | apply LH.here | apply LH.next); refine And.intro rfl ?_; (repeat first | refine goH ?_ | apply LH.here | apply LH.next); (repeat' first | exact LB.nil | (with_reducible exact LB.refl) | (apply LB.cons; (repeat first | refine goH ?_ | apply LH.here | apply LH.next); refine And.intro ?_ ?_; (focus (try (first | (with_reducible rfl) | (refine congrArg (Pl.mk _) ?_; (first | rfl | (simp; done))) | rfl | (with_reducible refine congrArg (Pl.mk _) ?_)))))))); (focus exact zI); (focus exact zI)) | (refine AtL.mkF (id := 3) (S := Nat × Co × Nat × Nm × Nm) (i + 1, (qf c (L.getD i [])).1.1, qe t (qe t a), pc, pz) (And.intro ?_ (And.intro ?_ (And.intro ?_ (And.intro ?_ ?_)))); (focus exact zI); (focus (exact T.sm)); (focus (dsimp only; refine LTo.co9 (c := (qf c (L.getD i [])).1.1) (n := (qf c (L.getD i [])).1.1.cx.length) (q := r) (pc := pc) rfl ?_ ?_; (focus ((repeat first | refine goH ?_ | apply LH.here | apply LH.next); rfl)); (repeat first | refine goH ?_ | apply LH.here | apply LH.next); refine And.intro rfl ?_; (repeat first | refine goH ?_ | apply LH.here | apply LH.next); (repeat' first | exact LB.nil | (with_reducible exact LB.refl) | (apply LB.cons; (repeat first | refine goH ?_ | apply LH.here | apply LH.next); refine And.intro ?_ ?_; (focus (try (first | (with_reducible rfl) | (refine congrArg (Pl.mk _) ?_; (first | rfl | (simp; done))) | rfl | (with_reducible refine congrArg (Pl.mk _) ?_)))))))); (focus exact zI); (focus exact zI)) | (refine AtL.mkF (id := 3) (S := Nat × Co × Nat × Nm × Nm) (i + 1, (qf c (L.getD i [])).1.1.rst (qi t (qe t a) 2).toNat, qe t (qe t a), pc, pz) (And.intro ?_ (And.intro ?_ (And.intro ?_ (And.intro ?_ ?_)))); (focus exact zI); (focus (exact T.sm)); (focus (dsimp only; refine LTo.co9 (c := ((qf c (L.getD i [])).1.1).rst (qi t (qe t a) 2).toNat) (n := (qf c (L.getD i [])).1.1.cx.length) (q := r) (pc := pc) (List.length_set ..).symm ?_ ?_; (focus ((repeat first | refine goH ?_ | apply LH.here | apply LH.next); rfl)); (repeat first | refine goH ?_ | apply LH.here | apply LH.next); refine And.intro rfl ?_; (repeat first | refine goH ?_ | apply LH.here | apply LH.next); (repeat' first | exact LB.nil | (with_reducible exact LB.refl) | (apply LB.cons; (repeat first | refine goH ?_ | apply LH.here | apply LH.next); refine And.intro ?_ ?_; (focus (try (first | (with_reducible rfl) | (refine congrArg (Pl.mk _) ?_; (first | rfl | (simp; done))) | rfl | (with_reducible refine congrArg (Pl.mk _) ?_)))))))); (focus exact zI); (focus exact zI))) | exact Nm.b 0 | (refine And.intro ?_ ?_; (focus (first | (show _ ≤ (List.flatMap Sn.cs _).length; rw [qr Sn.cs_len]; (try rw [List.length_set]); (try dsimp only); omega) | ((try dsimp only); omega) | exact T.kx | exact T.side))) | (show LC _ _ _ _ _ _; first | refine LC.pure (hM) ?_ | (apply LC.upd (zZ t _ _ ht _); (repeat first | refine goH ?_ | apply LH.here | apply LH.next); refine ⟨rfl, ?_⟩) | (apply LC.upd (vH t _ _ ht _); (repeat first | refine goH ?_ | apply LH.here | apply LH.next); refine ⟨rfl, ?_⟩) | refine goE ?_) | (show AC _ _ _; first | (refine AC.idx (f := bv) (l := L) i [] (by (try dsimp only); omega) ?_ ?_; (focus (have : (i : Int) < (L.length : Int) := (by assumption); omega))) | (refine AC.fld Sn.cs_len (qi t (qe t a) 2).toNat 0 Sn.z _ (by rw [Nat.zero_add]) (by decide) (by omega) rfl ?_)) | (show AQ _ _; first | (refine AQ.fset Sn.cs_len (qi t (qe t a) 2).toNat 1 Sn.z ({ (qf c (L.getD i [])).1.1.at (qi t (qe t a) 2).toNat with full := 0 }) (by omega) (by rw [Nat.zero_add]) (by decide) rfl ?_) | (refine AQ.rset Sn.cs_len 2 ({ (qf c (L.getD i [])).1.1.at (qi t (qe t a) 2).toNat with full := 0, refr := 0 }) (by omega) (by rw [Nat.zero_add]) (by decide) rfl ?_)) | refine T.s ?_ | ((first | apply goB | apply AB.dec | apply AB.gen) <;> intro h) | refine LQ.mk fun r => ?_ | (show SQ _ _ _ (.loop _) _ _ _; first | (apply goO tQ [] 3 (S := Nat × Co × Nat × Nm × Nm) [1, 3] (fun (i, c, a, pc, pz) => ⟨[(11, .int .i64 i), (0, .ptr d 0), (9, .ptr pc 0), (8, .ptr pz 0)], [(d, z4 t a), (pc, ⟨34, [iAV c.m, iAV c.w, snv c.cx]⟩), (pz, ⟨34, [iAV 0, iAV 0, .nils]⟩)], i ≤ L.length ∧ c.ok = true ∧ (c, a) = (L.take i).foldl (yE t m) (⟨m, w, List.replicate 16 Sn.z⟩, a0), L.length - i⟩) ((0, ⟨m, w, List.replicate 16 Sn.z⟩, a0, _, _)) (by rfl); (focus (all_goals (try exact K6F0); done)); rintro ⟨i, c, a, pc, pz⟩ ⟨hk, hk, hok⟩)) | (show SQ _ _ _ _ _ _ _; first | refine gX 5 [] [0, 1, 2, 3, 4, 5, 6, 7, 8, 9, 10] [pc] ?_) | (show AtL 3 _ _ _ _ _ _ _ _ _; first | (apply AtL.mk' (id := 3) (S := Nat × Co × Nat × Nm × Nm) ((i + 1, c, a, _, _)); focus (refine T.a5 ?_ ?_ ?_ ?_ <;> exact zI))) | exact T.z | fail) <;> conv => whnf)
 all_goals (try dsimp only)
 all_goals first
   | (obtain rfl : i = L.length := (by omega); rw [List.take_length, hR] at hok; subst hok; (show RL _ _ _; refine goR ?_); rfl)
   | trace_state
end Go.Proofs.YtbagbjacmakfhaaGreatDoor
namespace Go.Proofs.YtbagbjacmakfhaaGreatDoor
open Go.RowKit
section
variable {P : Program} {G : Nat → AV}
theorem LSpecN.frz1 {f : FuncId} {args : List AV} {v : Nm → AV} {t : TypeId} {cs : List Nm → List AV} {d : List Nm → Pl} {cs' : List AV} (h : LSpecN P G f args [] 2 (fun q => (v (n0 q), [(n0 q, ⟨t, cs q⟩), (n1 q, d q)]))) (hf : ∀ q, LFs [(n0 q, ⟨t, cs q⟩), (n1 q, d q)] [n1 q] (cs q) cs') : LP P G f args [] (fun q => (v q, [(q, ⟨t, cs'⟩)])) := by
 unfold LSpecN at h
 unfold LP
 refine ⟨h.1, fun q => ⟨by simp, by simp⟩, fun τ w vs h1 h2 h3 h4 h5 => (h.2.2 τ w vs h1 h2 h3 h4 h5).mono ?_⟩
 rintro e w' ⟨u, qs, k1, k2, k3, k4, k5, k6, k7, k8⟩
 obtain ⟨x, y, rfl⟩ : ∃ x y, qs = [x, y] := match qs, k2 with | [x, y], _ => ⟨x, y, rfl⟩
 have hx : τ x = none := k4 x (by simp)
 have hy : τ y = none := k4 y (by simp)
 have hne : x ≠ y := by simpa using k3
 have k6 : Rd (pQ τ [(x, ⟨t, cs [x, y]⟩), (y, d [x, y])]) w' (v x) u := k6
 have k7 : Mem (pQ τ [(x, ⟨t, cs [x, y]⟩), (y, d [x, y])]) w' := k7
 have k8 : Stp τ w (pQ τ [(x, ⟨t, cs [x, y]⟩), (y, d [x, y])]) w' := k8
 have hs : Sep τ [(x, ⟨t, cs [x, y]⟩), (y, d [x, y])] := ⟨by simpa using hne, fun z hz => by
   simp only [List.mem_cons, List.not_mem_nil, or_false] at hz
   rcases hz with rfl | rfl
   · exact hx
   · exact hy⟩
 have hz := (hf [x, y]).frz hs
 have hg : pQ τ [(x, ⟨t, cs [x, y]⟩), (y, d [x, y])] x = some ⟨t, cs [x, y]⟩ := Sep.get (l1 := []) hs
 have e1 : eraN (Go.Proofs.YtbagbjacmakfhaaGreatDoor.upd (pQ τ [(x, ⟨t, cs [x, y]⟩), (y, d [x, y])]) x ⟨t, cs'⟩) [y] = pQ τ [(x, ⟨t, cs'⟩)] := by
   have e0 : Go.Proofs.YtbagbjacmakfhaaGreatDoor.upd (pQ τ [(x, ⟨t, cs [x, y]⟩), (y, d [x, y])]) x ⟨t, cs'⟩ = pQ τ [(x, ⟨t, cs'⟩), (y, d [x, y])] := Sep.set' (l1 := []) hs _
   rw [e0]
   have hs2 : Sep τ ([(x, ⟨t, cs'⟩)] ++ (y, d [x, y]) :: []) := Sep.set (l1 := []) hs
   exact hs2.era'
 have m1 := Mem.frzP [y] k7 hg hz
 have a1 : Stp (pQ τ [(x, ⟨t, cs [x, y]⟩), (y, d [x, y])]) w' (pQ τ [(x, ⟨t, cs'⟩)]) w' := Stp.forget _ _ w' fun b hb => by
   rw [← e1]
   refine qE _ [y] ?_
   rw [qk _ _ (fun e => by subst e; rw [hg] at hb; cases hb)]
   exact hb
 rw [e1] at m1
 exact ⟨u, x, k1, hx, by simp, k6.mono a1, m1, k8.trans a1⟩
end
theorem r9copy_1 {G : Nat → AV} (c : Co) (hc : c.ok = true) : LP Tryz.prog G 36 [c.av] [] (fun q => (.agg [iAV c.m, iAV c.w, .vw q 0 c.cx.length 9], [(q, ⟨61, c.cx.flatMap Sn.cs⟩)])) :=
 LSpecN.frz1 (v := fun q => .agg [iAV c.m, iAV c.w, .vw q 0 c.cx.length 9]) (zQ c hc 0 (by decide)) fun q => by
   rw [← xc c]
   exact vj InL.here (.next (.here rfl)) _
def od1 (c : Co) (k : Nat) (s : Sn) (a : Nat) : Co × Nat := (c.set k s, a)
def kX (t : List Int) (a : Nat) : Nat := (qi t a 2).toNat
def vI (t : List Int) (a : Nat) (c : Co) : Co × Nat :=
 if qi t (qe t a) 9 = 0 then (⟨qi t (qe t (qe t a)) 5, c.w, c.cx⟩, qe t (qe t (qe t a)))
 else if qi t (qe t a) 9 = 1 then (⟨c.m, qi t (qe t (qe t a)) 10, c.cx⟩, qe t (qe t (qe t a)))
 else if qi t (qe t a) 9 = 2 then (⟨c.m, c.w, c.cx.take (qi t (qe t (qe t a)) 16).toNat⟩, qe t (qe t (qe t a)))
 else if qi t (qe t a) 9 = 3 then od1 c (kX t a) { c.at (kX t a) with act := !(c.at (kX t a)).act } (qe t (qe t a))
 else if qi t (qe t a) 9 = 4 then od1 c (kX t a) { c.at (kX t a) with full := q7 .sub .i64 (qi t (qe t (qe t a)) 10) 1 } (qe t (qe t (qe t a)))
 else if qi t (qe t a) 9 = 5 then od1 c (kX t a) { c.at (kX t a) with refr := q7 .sub .i64 (qi t (qe t (qe t a)) 10) 1 } (qe t (qe t (qe t a)))
 else if qi t (qe t a) 9 = 6 then od1 c (kX t a) { c.at (kX t a) with ser := q7 .sub .i64 (qi t (qe t (qe t a)) 10) 1 } (qe t (qe t (qe t a)))
 else if qi t (qe t a) 9 = 7 then od1 c (kX t a) { c.at (kX t a) with sin := [-1, 32, 33].getD (0 + (qi t (qe t (qe t a)) 3).toNat * 1) 0 } (qe t (qe t (qe t a)))
 else od1 c (kX t a) { c.at (kX t a) with rf := (c.at (kX t a)).rf ++ [yv t (qe t (qe t (qe t a))) (qi t (qe t (qe t a)) 3)] } (vN t (qe t (qe t (qe t a))) (qi t (qe t (qe t a)) 3))
theorem RL.coR {c : Co} {R d : Nm} {n : Nat} {pl : Pl} {l : LS} (h : LH l R fun cc _ r => n * 9 ≤ cc.cs.length ∧ n = c.cx.length ∧ c.cx.flatMap Sn.cs = (cc.cs.drop 0).take (n * 9) ∧ LB [(d, pl)] r) : RL (fun _ => (c.av, [(d, pl)])) (.agg [.int .i64 c.m, .int .i64 c.w, .vw R 0 n 9]) l := by
 refine RL.frz [R] (LF.agg (xs := [.int .i64 c.m, .int .i64 c.w, .vw R 0 n 9]) (ys := [iAV c.m, iAV c.w, snv c.cx]) ⟨.eq rfl, .eq rfl, LF.part InL.here (LH.mono h fun cc _ _ hh => ⟨by decide, by omega, hh.2.1.symm, hh.2.2.1⟩), trivial⟩) ?_
 exact LH.mono h fun _ _ _ hh => hh.2.2.2
theorem RL.coW {c : Co} {R d : Nm} {n : Nat} {pl : Pl} {l : LS} (hn : n = c.cx.length) (h : LH l R fun cc _ r => cc.cs = c.cx.flatMap Sn.cs ∧ LB [(d, pl)] r) : RL (fun _ => (c.av, [(d, pl)])) (.agg [.int .i64 c.m, .int .i64 c.w, .vw R 0 n 9]) l :=
 RL.coR (LH.mono h fun cc _ r hh => ⟨by rw [hh.1, qr Sn.cs_len, hn]; exact Nat.le_refl _, hn, by rw [hh.1, List.drop_zero, List.take_of_length_le (by rw [qr Sn.cs_len, hn]; exact Nat.le_refl _)], hh.2⟩)
attribute [local irreducible] Co.ok
theorem odd9_a (t : List Int) (a : Nat) (ht : t.length ≤ 400) (c : Co) (hc : c.ok = true) (h8 : ¬ qi t (qe t a) 9 = 8) (d : Nm) : LP Tryz.prog gm 15 [.ptr d 0, c.av] [(d, z4 t a)] (fun _ => ((vI t a c).1.av, [(d, z4 t (vI t a c).2)])) := by
 have hcp := r9copy_1 (G := gm) c hc
 have h16 := qY hc
 have n2 := qQ t a 2 (by decide) (by decide)
 have n9 := qQ t (qe t a) 9 (by decide) (by decide)
 have n16 := qQ t (qe t (qe t a)) 16 (by decide) (by decide)
 have n3 := qQ t (qe t (qe t a)) 3 (by decide) (by decide)
 have hoK : kX t a = (qi t a 2).toNat := rfl
 obtain ⟨k, hk⟩ : ∃ k, (qi t a 2).toNat = k := ⟨_, rfl⟩
 have hk2 : k < c.cx.length := by omega
 have hko : ∀ j, 0 + (qi t a 2).toNat * 9 + j = k * 9 + j := fun j => by rw [hk, Nat.zero_add]
 unfold vI
 rw [hoK, hk]
 refine goW [] Tryz.func15 rfl ?_
 conv => whnf
 repeat' ((first | exact Nm.b 0 | (refine And.intro ?_ ?_; (focus (first | exact InL.here | (show (_ : Nat) ≤ _; (try dsimp only); rw [qr Sn.cs_len, hk]; omega) | ((try dsimp only); omega) | exact T.kx | exact T.side))) | (show LC _ _ _ _ _ _; first | refine LC.own (hcp) ?_ | (apply LC.upd (zZ t _ _ ht _); (repeat first | refine goH ?_ | apply LH.here | apply LH.next); refine ⟨rfl, ?_⟩) | refine goE ?_) | (show AC _ _ _; first | (refine AC.fld Sn.cs_len k 0 Sn.z _ (by rw [hk, Nat.zero_add]) (by decide) hk2 rfl ?_) | (refine AC.elem (l := [-1, 32, 33]) (f := iAV) 0 ?_ ?_; (focus exact T.side))) | (show AQ _ _; first | ((with_reducible show AQ (ql (List.flatMap _ _) _ [.bool _]) _); refine AQ.fset Sn.cs_len k 0 Sn.z { c.at k with act := !(c.at k).act } hk2 (hko 0) (Nat.le_of_ble_eq_true rfl) rfl ?_) | (refine AQ.fset Sn.cs_len k 1 Sn.z { c.at k with full := q7 .sub .i64 (qi t (qe t (qe t a)) 10) 1 } hk2 (hko 1) (Nat.le_of_ble_eq_true rfl) rfl ?_) | (refine AQ.fset Sn.cs_len k 2 Sn.z { c.at k with refr := q7 .sub .i64 (qi t (qe t (qe t a)) 10) 1 } hk2 (hko 2) (Nat.le_of_ble_eq_true rfl) rfl ?_) | (refine AQ.fset Sn.cs_len k 3 Sn.z { c.at k with ser := q7 .sub .i64 (qi t (qe t (qe t a)) 10) 1 } hk2 (hko 3) (Nat.le_of_ble_eq_true rfl) rfl ?_) | (refine AQ.fset Sn.cs_len k 4 Sn.z { c.at k with sin := [-1, 32, 33].getD (0 + (qi t (qe t (qe t a)) 3).toNat * 1) 0 } hk2 (hko 4) (Nat.le_of_ble_eq_true rfl) rfl ?_)) | refine T.s ?_ | ((first | apply goB | apply AB.dec | apply AB.gen) <;> intro h <;> try (exfalso; omega)) | refine LQ.mk fun r => ?_ | (show SQ _ _ _ _ _ _ _; first | (apply goD tQ qd 2 [1, 3] [0, 1, 2, 3, 4, 5] [_] (by kernel_rfl)) | (apply goD tQ qd 10 [1, 3] [0, 1, 2, 3, 4, 5, 6] [_] (by kernel_rfl)) | (refine goD tQ qd 4 [4, 7, 8] [0, 1, 2, 3, 4, 5, 6, 7, 8, 9, 10, 11, 12, 13] [] (by kernel_rfl) ?_)) | (show (_ → _) ∧ (¬ _ → _); first | refine T.y ?_ | refine qm (fun h => ?_) (fun h => ?_)) | exact T.z | fail) <;> try (show (_ : Prop); conv => whnf))
 all_goals (try dsimp only)
 all_goals
   (repeat first | rw [if_pos (by first | assumption | omega)] | rw [if_neg (by first | assumption | omega)])
   (try unfold od1)
   dsimp only
   first
     | (refine RL.coW (List.length_set ..).symm ?_; (repeat first | refine goH ?_ | apply LH.here | apply LH.next); exact ⟨rfl, by (repeat' first | exact LB.nil | (with_reducible exact LB.refl) | (apply LB.cons; (repeat first | refine goH ?_ | apply LH.here | apply LH.next); refine And.intro ?_ ?_; (focus (try (first | (with_reducible rfl) | (refine congrArg (Pl.mk _) ?_; (first | rfl | (simp; done))) | rfl | (with_reducible refine congrArg (Pl.mk _) ?_))))))⟩)
     | (refine RL.coW rfl ?_; (repeat first | refine goH ?_ | apply LH.here | apply LH.next); exact ⟨rfl, by (repeat' first | exact LB.nil | (with_reducible exact LB.refl) | (apply LB.cons; (repeat first | refine goH ?_ | apply LH.here | apply LH.next); refine And.intro ?_ ?_; (focus (try (first | (with_reducible rfl) | (refine congrArg (Pl.mk _) ?_; (first | rfl | (simp; done))) | rfl | (with_reducible refine congrArg (Pl.mk _) ?_))))))⟩)
     | (refine RL.coR ?_; (repeat first | refine goH ?_ | apply LH.here | apply LH.next); refine ⟨?_, ?_, ?_, ?_⟩; (focus (rw [qr Sn.cs_len]; simp; omega)); (focus (simp; omega)); (focus (rw [List.drop_zero]; simp only [Nat.sub_zero]; rw [wS Sn.cs_len]; simp)); (focus (repeat' first | exact LB.nil | (with_reducible exact LB.refl) | (apply LB.cons; (repeat first | refine goH ?_ | apply LH.here | apply LH.next); refine And.intro ?_ ?_; (focus (try (first | (with_reducible rfl) | (refine congrArg (Pl.mk _) ?_; (first | rfl | (simp; done))) | rfl | (with_reducible refine congrArg (Pl.mk _) ?_))))))))
     | (exfalso; omega)
     | trace_state
theorem RL.coA {c : Co} {i0 : Nat} {s' : Sn} {R r d : Nm} {n : Nat} {pl : Pl} {ys : List AV} {l : LS} (hi : i0 < c.cx.length) (hn : n = s'.rf.length) (hy : ys = s'.cv (.vw r 0 n 15)) (hr : LH l r fun cc _ _ => cc.cs = s'.rf.flatMap Hd.cs) (h : LH l R fun cc _ rest => cc.cs = (List.range i0).flatMap (fun k => (c.at k).cs) ++ (ys ++ frs c (i0 + 1) c.cx.length) ∧ LH rest r fun _ _ q => LB [(d, pl)] q) : RL (fun _ => ((c.set i0 s').av, [(d, pl)])) (.agg [.int .i64 c.m, .int .i64 c.w, .vw R 0 c.cx.length 9]) l := by
 subst hn hy
 have hrow : LF l [R, r] (.vw R 0 c.cx.length 9) (snv (c.cx.set i0 s')) := LF.rowN (m := (c.cx.set i0 s').length) (ds := (c.cx.set i0 s').flatMap Sn.cs) InL.here (LH.mono h fun cc _ _ hh => ⟨by decide, by rw [hh.1]; exact rk_rows hi s' _ rfl, by simp, by
   rw [hh.1, set_fm c i0 hi s']
   exact LFs.app (LFs.same _) (LFs.app ⟨.eq rfl, .eq rfl, .eq rfl, .eq rfl, .eq rfl, .eq rfl, .eq rfl, .eq rfl, LF.row (InL.next InL.here) (LH.mono hr fun c _ _ e => ⟨by decide, by rw [e]; exact qr Hd.cs_len _, rfl, e.symm⟩), trivial⟩ (LFs.same _))⟩)
 refine RL.frz [R, r] (LF.agg (xs := [.int .i64 c.m, .int .i64 c.w, .vw R 0 c.cx.length 9]) (ys := [iAV c.m, iAV c.w, snv (c.cx.set i0 s')]) ⟨.eq rfl, .eq rfl, hrow, trivial⟩) ?_
 exact LH.mono h fun _ _ _ hh => hh.2
theorem AQ.cpF {c : Co} {i0 j : Nat} {p : Nm} {n o : Nat} {xs : List AV} {K : List AV → Prop} (ho : o = i0 * 9 + j) (h : i0 < n) (hj : j + xs.length ≤ 9) (k : K ((List.range i0).flatMap (fun k => (c.at k).cs) ++ (ql ((c.at i0).cv (.vw p 0 (c.at i0).rf.length 15)) j xs ++ frs c (i0 + 1) n))) : AQ (ql (cpR c i0 p n) o xs) K := ⟨by
 subst ho
 have e : ql (cpR c i0 p n) (i0 * 9 + j) xs = (List.range i0).flatMap (fun k => (c.at k).cs) ++ (ql ((c.at i0).cv (.vw p 0 (c.at i0).rf.length 15)) j xs ++ frs c (i0 + 1) n) := by
   rw [kS c i0 p n h]
   have h1 : i0 * 9 = ((List.range i0).flatMap fun k => (c.at k).cs).length := (ji c i0).symm
   rw [kY h1]
   congr 1
   unfold ql
   have h2 : ((c.at i0).cv (.vw p 0 (c.at i0).rf.length 15)).length = 9 := rfl
   rw [List.take_append_of_le_length (by rw [h2]; omega), List.drop_append_of_le_length (by rw [h2]; omega)]
   simp [List.append_assoc]
 rw [e]; exact k⟩
theorem AC.cpF {c : Co} {i0 j : Nat} {p : Nm} {n o : Nat} {K : AV → Prop} (v : AV) (ho : o = i0 * 9 + j) (h : i0 < n) (hj : j < 9) (hv : mkv false ((((c.at i0).cv (.vw p 0 (c.at i0).rf.length 15)).drop j).take 1) = v) (k : K v) : AC false (((cpR c i0 p n).drop o).take 1) K := ⟨by
 subst ho hv
 have e : ((cpR c i0 p n).drop (i0 * 9 + j)).take 1 = (((c.at i0).cv (.vw p 0 (c.at i0).rf.length 15)).drop j).take 1 := by
   rw [kS c i0 p n h, yN (ji c i0).symm]
   have h2 : ((c.at i0).cv (.vw p 0 (c.at i0).rf.length 15)).length = 9 := rfl
   rw [List.drop_append_of_le_length (by rw [h2]; omega), List.take_append_of_le_length (by rw [List.length_drop, h2]; omega)]
 rw [e]; exact k⟩
theorem odd9_b (t : List Int) (a : Nat) (ht : t.length ≤ 400) (c : Co) (hc : c.ok = true) (h8 : qi t (qe t a) 9 = 8) (d : Nm) : LP Tryz.prog gm 15 [.ptr d 0, c.av] [(d, z4 t a)] (fun _ => ((vI t a c).1.av, [(d, z4 t (vI t a c).2)])) := by
 have h16 := qY hc
 have n2 := qQ t a 2 (by decide) (by decide)
 obtain ⟨k, hk⟩ : ∃ k, (qi t a 2).toNat = k := ⟨_, rfl⟩
 have hk2 : k < c.cx.length := by omega
 have hcp := zQ (G := gm) c hc k (by omega)
 have hrf := co_rf hc k hk2
 have hoK : kX t a = k := hk
 have hko : ∀ j, 0 + (qi t a 2).toNat * 9 + j = k * 9 + j := fun j => by rw [hk, Nat.zero_add]
 have hq : vI t a c = od1 c k { c.at k with rf := (c.at k).rf ++ [yv t (qe t (qe t (qe t a))) (qi t (qe t (qe t a)) 3)] } (vN t (qe t (qe t (qe t a))) (qi t (qe t (qe t a)) 3)) := by
   unfold vI
   rw [h8, hoK, if_neg (by decide), if_neg (by decide), if_neg (by decide), if_neg (by decide), if_neg (by decide), if_neg (by decide), if_neg (by decide), if_neg (by decide)]
 rw [hq]
 unfold od1
 generalize hH : yv t (qe t (qe t (qe t a))) (qi t (qe t (qe t a)) 3) = H
 generalize hA : vN t (qe t (qe t (qe t a))) (qi t (qe t (qe t a)) 3) = A
 have hdh : ∀ p : Nm, LP Tryz.prog gm 28 [.ptr p 0, iAV (qi t (qe t (qe t a)) 3)] [(p, z4 t (qe t (qe t (qe t a))))] (fun _ => (H.av, [(p, z4 t A)])) := fun p => by
   rw [← hH, ← hA]
   exact yy t _ _ ht p
 refine goW [] Tryz.func15 rfl ?_
 conv => whnf
 repeat' ((first | (show LFreshN _ _; refine LFreshN.two fun R p => ?_; dsimp only [yq, yp, List.cons_append, List.nil_append]; conv => whnf) | exact Nm.b 0 | (refine And.intro ?_ ?_; (focus (first | exact InL.here | (show (_ : Nat) ≤ _; (try dsimp only); rw [cpR_len, hk]; omega) | ((try dsimp only); omega) | (with_reducible exact kI _) | exact T.kx | exact T.side))) | (show LC _ _ _ _ _ _; first | refine LC.mkN (hcp) [] (LFs.refl _) ?_ | (apply LC.upd (zZ t _ _ ht _); (repeat first | refine goH ?_ | apply LH.here | apply LH.next); refine ⟨rfl, ?_⟩) | (apply LC.upd (hdh _); (repeat first | refine goH ?_ | apply LH.here | apply LH.next); refine ⟨rfl, ?_⟩) | refine goE ?_) | (show AC _ _ _; first | (refine AC.cpF _ (hko 7) hk2 (by decide) rfl ?_) | (refine AC.cpF _ (hko 8) hk2 (by decide) rfl ?_)) | (show AQ _ _; first | ((with_reducible show AQ (_ ++ _) _); refine AQ.eq (vt (c.at k).rf H rfl) ?_) | (refine AQ.cpF (hko 8) hk2 (Nat.le_of_ble_eq_true rfl) ?_)) | refine T.s ?_ | ((first | apply goB | apply AB.dec | apply AB.gen) <;> intro h <;> try (exfalso; omega)) | refine LQ.mk fun r => ?_ | refine LFreshN.two fun r r2 => ?_ | refine LFreshN.three fun r r2 r3 => ?_ | (show SQ _ _ _ _ _ _ _; first | (apply goD tQ qd 2 [1, 3] [0, 1, 2, 3, 4, 5] [_] (by kernel_rfl)) | (refine goD tQ qd 10 [1, 3] [0, 1, 2, 3, 4, 5, 6] [] (by kernel_rfl) ?_) | (refine goD tQ qd 4 [4, 7, 8] [0, 1, 2, 3, 4, 5, 6, 7, 8, 9, 10, 11, 12, 13] [R] (by kernel_rfl) ?_)) | (show (_ → _) ∧ (¬ _ → _); first | refine T.y ?_ | refine qm (fun h => ?_) (fun h => ?_)) | exact T.z | fail) <;> try (show (_ : Prop); conv => whnf))
 all_goals (try dsimp only)
 all_goals
   refine RL.coA (c := c) (i0 := k) (s' := { c.at k with rf := (c.at k).rf ++ [H] }) (R := R) (r := r) (n := (c.at k).rf.length + 1) hk2 (by simp) rfl ?_ ?_
   · (repeat first | refine goH ?_ | apply LH.here | apply LH.next)
     rfl
   · (repeat first | refine goH ?_ | apply LH.here | apply LH.next)
     refine And.intro rfl ?_
     (repeat first | refine goH ?_ | apply LH.here | apply LH.next)
     (repeat' first | exact LB.nil | (with_reducible exact LB.refl) | (apply LB.cons; (repeat first | refine goH ?_ | apply LH.here | apply LH.next); refine And.intro ?_ ?_; (focus (try (first | (with_reducible rfl) | (refine congrArg (Pl.mk _) ?_; (first | rfl | (simp; done))) | rfl | (with_reducible refine congrArg (Pl.mk _) ?_))))))
theorem odd9_c (t : List Int) (a : Nat) (ht : t.length ≤ 400) (c : Co) (hc : c.ok = true) (d : Nm) : LP Tryz.prog gm 15 [.ptr d 0, c.av] [(d, z4 t a)] (fun _ => ((vI t a c).1.av, [(d, z4 t (vI t a c).2)])) := by
 by_cases h8 : qi t (qe t a) 9 = 8
 · exact odd9_b t a ht c hc h8 d
 · exact odd9_a t a ht c hc h8 d
end Go.Proofs.YtbagbjacmakfhaaGreatDoor
namespace Go.Proofs.YtbagbjacmakfhaaGreatDoor
open Go.RowKit
theorem compr_sz (c : Co) (b : List UInt8) : (qf c b).1.1.cx.length ≤ 100000 ∧ ∀ i : Nat, i < (qf c b).1.1.cx.length → ((qf c b).1.1.cx.getD i Sn.z).rf.length ≤ 100000 := by
 cases hc : c.ok with
 | false =>
   have e : qf c b = ((Co.z, []), 1) := by unfold qf; rw [if_neg (by rw [hc]; decide)]
   rw [e]
   exact ⟨by decide, fun i hi => absurd hi (Nat.not_lt_zero _)⟩
 | true =>
   by_cases hb : b = [] ∨ 1500 < b.length
   · have e : qf c b = ((Co.z, []), 2) := by unfold qf; rw [if_pos hc, if_pos hb]
     rw [e]
     exact ⟨by decide, fun i hi => absurd hi (Nat.not_lt_zero _)⟩
   · have h := (kz hc hb).1
     exact ⟨by rw [qY h]; decide, fun i hi => Nat.le_trans (co_rf h i hi) (by decide)⟩
theorem same9_r (c : Co) (b : List UInt8) : LP Tryz.prog gm 21 [(qf c b).1.1.av, (qf c b).1.1.av] [] (fun _ => (.bool true, [])) := r9same_c _ (compr_sz c b).1 (compr_sz c b).2
theorem cpt9_c (c : Co) (b : List UInt8) : LP Tryz.prog gm 18 [c.av, bv b] [] (fun _ => (.tup [(qf c b).1.1.av, bv (qf c b).1.2, iAV (qf c b).2], [])) := jS c b
theorem rpt9_c (c : Co) (b : List UInt8) : LP Tryz.prog gm 19 [c.av, bv b] [] (fun _ => (.tup [(qf c b).1.1.av, bv (qf c b).1.2, iAV (qf c b).2], [])) := comp_dat c b
theorem aft_ok {t : List Int} {m w : Int} {a : Nat} {L : List (List UInt8)} (hm2 : 1 ≤ m ∧ m ≤ 3) (hw2 : 1 ≤ w ∧ w ≤ 8) (hZ : ∀ b ∈ L, zt b) : (aftR t m w a L).1.ok = true := by
 unfold aftR
 have key : ∀ (l : List (List UInt8)) (x : Co × Nat), (∀ b ∈ l, zt b) → x.1.ok = true → (l.foldl (yE t m) x).1.ok = true := by
   intro l
   induction l with
   | nil => exact fun x _ h => h
   | cons b l ih =>
     intro x hl hx
     refine ih _ (fun c hc => hl c (by simp [hc])) ?_
     have h1 := yz hx (hl b (by simp))
     unfold yE
     split
     · exact h1
     · split
       · dsimp only
         split
         · exact rst_ok (next2 t _) h1
         · exact h1
       · exact h1
 exact key L _ hZ (vn hm2 hw2)
attribute [local irreducible] qf Co.ok zG aftR vI
theorem y9 {p : Prop} (h : p := by (repeat' first | exact trivial | (refine And.intro ?_ ?_) | exact LB.nil | (with_reducible exact LB.refl) | (apply LB.cons; (repeat first | refine goH ?_ | apply LH.here | apply LH.next); refine And.intro ?_ ?_; (focus (try (first | (with_reducible rfl) | (refine congrArg (Pl.mk _) ?_; (first | rfl | (simp; done))) | rfl | (with_reducible refine congrArg (Pl.mk _) ?_))))) | (with_reducible assumption) | fail | (show (_ : AV) = _; (first | (focus (apply Eq.trans; (conv => lhs; whnf); (conv => rhs; whnf); done)) | rfl | ((conv => lhs; whnf); first | rfl | (refine congrArg (AV.int _) ?_; (exact T.num)) | (refine congrArg AV.bool ?_; (exact T.num)) | (refine vwc ?_; first | (exact T.num) | (first | rfl | (simp; done))) | (refine qc ?_ ?_ <;> first | (exact T.num) | (first | rfl | (simp; done))) | (first | rfl | (simp; done))))) | ((with_reducible first | (show (_ : Int) ≤ _) | (show (_ : Int) < _) | (show (_ : Nat) ≤ _) | (show (_ : Nat) < _) | (show (_ : Int) = _) | (show (_ : Nat) = _)); (exact T.num)) | (first | rfl | (simp; done))); first | done | fail) : p := h
theorem exact9_t (t : List Int) (raw : List UInt8) (ht : t.length ≤ 400) : LP Tryz.prog gm 3 [iv t, bv raw] [] (fun _ => (.bool true, [])) := by
 have hl := kN (G := gm) t
 rw [decide_eq_true ht] at hl
 have m1 := qQ t 0 3 (by decide) (by decide)
 have m2 := qQ t (qe t 0) 4 (by decide) (by decide)
 obtain ⟨m, hm⟩ : ∃ m, q7 .add .i64 1 (qi t 0 3) = m := ⟨_, rfl⟩
 obtain ⟨w, hw⟩ : ∃ w, q7 .add .i64 1 (qi t (qe t 0) 4) = w := ⟨_, rfl⟩
 have hm2 : 1 ≤ m ∧ m ≤ 3 := by rw [← hm]; (exact T.num)
 have hw2 : 1 ≤ w ∧ w ≤ 8 := by rw [← hw]; (exact T.num)
 have hP := fun p => kK (G := gm) t (qe t (qe t (qe t 0))) 3 30 (zG t (qe t (qe t 0)) 3) (by decide) (by decide) (by decide) (by decide) ht p
 have hZ := ym t (qe t (qe t (qe t 0))) (3 : Int).toNat 30 (zG t (qe t (qe t 0)) 3)
 have hY := v9 t (qe t (qe t (qe t 0))) (3 : Int).toNat 30 (zG t (qe t (qe t 0)) 3) (by decide) (by decide)
 generalize (jw t (qe t (qe t (qe t 0))) (3 : Int).toNat 30 (zG t (qe t (qe t 0)) 3)) = K at hP hZ hY
 obtain ⟨Kh, L, Ka⟩ := K
 dsimp only at hP hZ hY
 have hAf := fun d => after_c t Ka ht m w hm2 hw2 L hZ hY d
 have hc0 := aft_ok (t := t) (a := Ka) hm2 hw2 hZ
 obtain ⟨⟨c0, a2⟩, hR⟩ : ∃ R, aftR t m w Ka L = R := ⟨_, rfl⟩
 rw [hR] at hAf hc0
 dsimp only at hAf hc0
 have hSm := fun p => dsome_c (G := gm) t a2 40 (by decide) (by decide) ht p
 generalize jU t a2 40 = SM at hSm
 generalize yG t a2 40 = a3 at hSm
 have hP2 := fun p => kK (G := gm) t (qe t a3) 3 6 (zG t a3 2) (by decide) (by decide) (by decide) (by decide) ht p
 have hY2 := v9 t (qe t a3) (3 : Int).toNat 6 (zG t a3 2) (by decide) (by decide)
 generalize (jw t (qe t a3) (3 : Int).toNat 6 (zG t a3 2)) = K2 at hP2 hY2
 obtain ⟨Kh2, L2, a4⟩ := K2
 dsimp only at hP2 hY2
 obtain ⟨⟨c1, a5⟩, hO⟩ : ∃ R, vI t (qe t a4) c0 = R := ⟨_, rfl⟩
 have hOd := fun d => odd9_c t (qe t a4) ht c0 hc0 d
 rw [hO] at hOd
 dsimp only at hOd
 refine goW [8, 11] Tryz.func3 rfl ?_
 conv => whnf
 repeat' ((first | (show LC _ _ 13 _ _ _; (try rw [hm, hw]); apply LC.upd (hAf _); (repeat first | refine goH ?_ | apply LH.here | apply LH.next); refine ⟨rfl, ?_⟩) | ((with_reducible show AB (qo .neq _ _) _ _); with_reducible refine AB.neqF rfl ?_) | exact Nm.b 0 | (refine And.intro ?_ ?_; (focus (first | exact InL.here | exact InL.next InL.here | exact T.kx | exact T.side))) | (show LC _ _ _ _ _ _; first | refine LC.pure (hl) ?_ | refine LC.pure (jI) ?_ | refine LC.own (roll_c t) ?_ | (apply LC.upd (zZ t _ _ ht _); (repeat first | refine goH ?_ | apply LH.here | apply LH.next); refine ⟨rfl, ?_⟩) | (apply LC.upd (vH t _ _ ht _); (repeat first | refine goH ?_ | apply LH.here | apply LH.next); refine ⟨rfl, ?_⟩) | (apply LC.upd (hP _); (repeat first | refine goH ?_ | apply LH.here | apply LH.next); refine ⟨rfl, ?_⟩) | (apply LC.upd (hP2 _); (repeat first | refine goH ?_ | apply LH.here | apply LH.next); refine ⟨rfl, ?_⟩) | (apply LC.upd (hSm _); (repeat first | refine goH ?_ | apply LH.here | apply LH.next); refine ⟨rfl, ?_⟩) | (apply LC.upd (hOd _); (repeat first | refine goH ?_ | apply LH.here | apply LH.next); refine ⟨rfl, ?_⟩) | refine LC.pure (hv) ?_ | refine LC.pure (hr) ?_ | refine LC.pure (cpt9_c c (N.getD i [])) ?_ | refine LC.pure (rpt9_c c (N.getD i [])) ?_ | refine LC.pure (sameT_c (qf c (N.getD i [])).1.2) ?_ | refine LC.pure (same9_r c (N.getD i [])) ?_ | refine goE ?_) | (show AC _ _ _; first | (refine AC.idx (f := bv) (l := L) (L.length - 1) [] ?_ ?_ ?_; (focus ((exact T.num); done)); (focus ((exact T.num); done))) | (refine AC.idx (f := bv) (l := N) i [] (by (try dsimp only); omega) ?_ ?_; (focus (have : (i : Int) < (N.length : Int) := (by assumption); omega)))) | refine T.s ?_ | ((first | apply goB | apply AB.dec | apply AB.gen) <;> intro h) | refine LQ.mk fun r => ?_ | (show SQ _ _ _ (.loop _) _ _ _; first | (refine goL tQ [8, 11] 16 (S := Nat × Nm × Nm) [] (fun (i, q, pc) => ⟨[(11, .int .i64 i), (10, .vw q 0 N.length 1), (9, .ptr pc 0)], [(q, ⟨23, N.map bv⟩), (pc, ⟨34, [iAV c.m, iAV c.w, snv c.cx]⟩)], i ≤ N.length, N.length - i⟩) ((0, _, _)) ?_; rintro ⟨i, q, pc⟩ hok; (try dsimp only at hok))) | (show SQ _ _ _ _ _ _ _; first | refine gX 13 [2, 1] [0, 2, 1, 3, 4] [] ?_ | (refine goD tQ qd 18 [] [0, 1, 2, 3, 4, 5, 6, 7, 8, 9, 10, 11, 12, 13] [pc, q] (by kernel_rfl) ?_) | (refine goD tQ qd 19 [] [0, 1, 2, 3, 4, 5, 6, 7, 8, 9, 10, 11, 12, 13] [pc, q] (by kernel_rfl) ?_)) | (show AtL 16 _ _ _ _ _ _ _ _ _; first | (apply AtL.mk' (id := 16) (S := Nat × Nm × Nm) ((i + 1, _, _)); focus (refine T.a5 ?_ ?_ ?_ ?_ <;> exact y9))) | (show CutL _ _ _ _ _ _ _ _; first | (refine goK tQ [8, 11] 8 (S := (List (List UInt8)) × Nm × Nm × Nm) [] (fun (M, q, d, pc) => ⟨[(10, .vw q 0 M.length 1), (5, .ptr d 0), (9, .ptr pc 0)], [(q, ⟨23, M.map bv⟩), (d, z4 t a3), (pc, ⟨34, [iAV c0.m, iAV c0.w, snv c0.cx]⟩)], M.length ≤ 3, 0⟩) ?_ ?_; (rintro ⟨M, q, d, pc⟩ hok; (try dsimp only at hok)); rotate_left) | (refine goK tQ [8, 11] 11 (S := (List (List UInt8)) × Co × Nm × Nm) [] (fun (N, c, q, pc) => ⟨[(10, .vw q 0 N.length 1), (9, .ptr pc 0)], [(q, ⟨23, N.map bv⟩), (pc, ⟨34, [iAV c.m, iAV c.w, snv c.cx]⟩)], N.length ≤ 300, 0⟩) ?_ ?_; (rintro ⟨N, c, q, pc⟩ hok; (try dsimp only at hok); (have hv := zl (G := gm) c; have hr := zf (G := gm) c; generalize c.ok = B at hv hr; cases B)); rotate_left) | refine CutL.go tQ [8, 11] ?_) | (show AtC 8 _ _ _ _ _ _ _; first | (apply AtC.mk' (id := 8) (S := (List (List UInt8)) × Nm × Nm × Nm) (([raw, SM], _, _, _)); focus (refine T.a4 ?_ ?_ ?_ <;> exact y9)) | (apply AtC.mk' (id := 8) (S := (List (List UInt8)) × Nm × Nm × Nm) (([raw, SM, L.getD (L.length - 1) []], _, _, _)); focus (refine T.a4 ?_ ?_ ?_ <;> exact y9))) | (show AtC 11 _ _ _ _ _ _ _; first | (apply AtC.mk' (id := 11) (S := (List (List UInt8)) × Co × Nm × Nm) ((M ++ L2, c0, _, _)); focus (refine T.a4 ?_ ?_ ?_ <;> exact y9)) | (apply AtC.mk' (id := 11) (S := (List (List UInt8)) × Co × Nm × Nm) ((M ++ L2, c1, _, _)); focus (refine T.a4 ?_ ?_ ?_ <;> exact y9))) | exact T.z | fail) <;> conv => whnf)
 all_goals (try dsimp only)
 all_goals first
   | ((show RL _ _ _; refine goR ?_); rfl)
   | trace_state
theorem exact9_c (t : List Int) (raw : List UInt8) : LP Tryz.prog gm 3 [iv t, bv raw] [] (fun _ => (.bool true, [])) := by
 by_cases ht : t.length ≤ 400
 · exact exact9_t t raw ht
 · have hl := kN (G := gm) t
   rw [decide_eq_false ht] at hl
   refine goW [] Tryz.func3 rfl ?_
   conv => whnf
   repeat' ((first | exact Nm.b 0 | (show LC _ _ _ _ _ _; first | refine LC.pure (hl) ?_ | refine LC.pure (jI) ?_ | refine goE ?_) | refine T.s ?_ | ((first | apply goB | apply AB.dec | apply AB.gen) <;> intro h <;> try (exfalso; omega)) | refine LQ.mk fun r => ?_ | (show SQ _ _ _ _ _ _ _; first | (refine goD tQ qd 13 [2, 1] [0, 2, 1, 3, 4] [] (by kernel_rfl) ?_) | (refine goD tQ qd 18 [] [0, 1, 2, 3, 4, 5, 6, 7, 8, 9, 10, 11, 12, 13] [] (by kernel_rfl) ?_) | (refine goD tQ qd 19 [] [0, 1, 2, 3, 4, 5, 6, 7, 8, 9, 10, 11, 12, 13] [] (by kernel_rfl) ?_)) | exact T.z | fail) <;> conv => whnf)
   all_goals (try dsimp only)
   all_goals first | ((show RL _ _ _; refine goR ?_); rfl) | ((show RL _ _ _; refine goR ?_); simp; done) | (exfalso; simp_all; done) | trace_state
end Go.Proofs.YtbagbjacmakfhaaGreatDoor
