import Derived.Test.YtkfpgdckdmlhkaaGreatDoorDp33
import Derived.Test.YtkfpgdckdmlhkaaGreatDoorDp18
import Derived.Test.YtkfpgdckdmlhkaaGreatDoorDp29
import Derived.Test.YtkfpgdckdmlhkaaGreatDoorDp30
import Derived.Test.YtkfpgdckdmlhkaaGreatDoorDp05
set_option maxHeartbeats 4000000
namespace Go.Proofs.YtkfpgdckdmlhkaaGreatDoor
open Go.RowKit
set_option linter.all false
inductive NB : AV → List UInt8 → Prop where
 | b (p : List UInt8) : NB (bv p) p
 | n : NB .nils []
inductive NF : AV → List Fb → Prop where
 | b (p : List Fb) : NF (fbv p) p
 | n : NF .nils []
theorem NB.lf {v : AV} {p : List UInt8} {l : LS} {F : List Nm} (h : NB v p) : LF l F v (bv p) := by
 cases h
 · exact LF.eq rfl
 · exact LF.nils rfl rfl
theorem NF.lf {v : AV} {p : List Fb} {l : LS} {F : List Nm} (h : NF v p) : LF l F v (fbv p) := by
 cases h
 · exact LF.eq rfl
 · exact LF.nils rfl rfl
theorem RL.dre {m : Int} {cx : List Rc} {n : Nat} {p : List UInt8} {fb : List Fb} {e : Int} {v1 v2 : AV} {q : Nm} {l : LS} (h1 : NB v1 p) (h2 : NF v2 fb) (hn : n = cx.length) (hq : LH l q fun c _ _ => c.cs = cx.flatMap Rc.cs) :
   RL (fun _ => (Go.Proofs.YtkfpgdckdmlhkaaGreatDoor.dre ⟨⟨m, cx⟩, p, fb, e⟩, [])) (.tup [.agg [.int .i64 m, .vw q 0 n 19], v1, v2, .int .i64 e]) l := by
 subst hn
 obtain ⟨l1, c, l2, rfl, h3⟩ := hq.ex
 exact RL.frz [q] (LF.tup (xs := [.agg [.int .i64 m, .vw q 0 cx.length 19], v1, v2, .int .i64 e]) (ys := [De.av ⟨m, cx⟩, bv p, fbv fb, iAV e])
   ⟨LF.agg (xs := [.int .i64 m, .vw q 0 cx.length 19]) (ys := [iAV m, rcv cx]) ⟨LF.eq rfl, LF.row InL.here ⟨l1, c, l2, rfl, by decide, by rw [h3, fm_len Rc.cs_len], rfl, h3.symm⟩, trivial⟩, h1.lf, h2.lf, LF.eq rfl, trivial⟩) ⟨l1, c, l2, rfl, LB.nil⟩
theorem RL.dre0 {e : Int} {l : LS} : RL (fun _ => (Go.Proofs.YtkfpgdckdmlhkaaGreatDoor.dre ⟨De.z, [], [], e⟩, [])) (.tup [.agg [.int .i64 0, .nils], .nils, .nils, .int .i64 e]) l :=
 RL.frz [] (LF.tup (xs := [.agg [.int .i64 0, .nils], .nils, .nils, .int .i64 e]) (ys := [De.z.av, bv [], fbv [], iAV e]) ⟨LF.agg (xs := [.int .i64 0, .nils]) (ys := [iAV 0, rcv []]) ⟨LF.eq rfl, LF.nils rfl rfl, trivial⟩, LF.nils rfl rfl, LF.nils rfl rfl, LF.eq rfl, trivial⟩) LB.nil
theorem rcclone_c {G : Nat → AV} (l : List Rc) (h0 : 0 < l.length) (hl : l.length ≤ 1000) : LP Tryz.prog G 60 [rcv l] [] (fun q => (.vw q 0 l.length 19, [(q, ⟨71, l.flatMap Rc.cs⟩)])) := by
 refine goW [] Tryz.func60 rfl ?_
 conv => whnf
 repeat' ((first
   | (refine And.intro ?_ ?_; (focus (first | exact fm_len Rc.cs_len _ | exact rcs_one _ | exact Nat.le_trans (Nat.mul_le_mul_right _ hl) (by decide) | exact Nat.le_trans hl (by decide) | exact T.kx | exact T.side)))
   | refine T.s ?_
   | ((first | refine goB (fun h => ?_) (fun h => ?_) | refine AB.dec (fun h => ?_) (fun h => ?_) | refine AB.gen (fun h => ?_) (fun h => ?_)) <;> try (exfalso; omega))
   | refine LFresh.mk fun r => ?_
   | exact T.z
   | fail) <;> conv => whnf)
 all_goals (try dsimp only)
 all_goals first
   | (refine RL.own r (by simp) ?_ ?_; (focus ((repeat first | refine goH ?_ | apply LH.here | apply LH.next); trivial)); exact LB.cons (.here ⟨by simp, LB.nil⟩))
   | trace_state
theorem neq_ck (x : Int) : icmp .neq x 0 = decide (x ≠ 0) := by
 by_cases h : x = 0 <;> simp [icmp, h]
theorem ix19 (i : Nat) : 0 + (i : Int).toNat * 19 = i * 19 := by omega
@[reducible] def wz : Sm := ⟨0, 0, 0, 0, 0, 0, 0, ⟨0, 0, 0, 0, 0, 0, 0, 0, 0, 0, 0, 0, 0, 0, 0⟩, ⟨0, 0⟩, 0, []⟩
section
variable (d : De) (b : List UInt8) (hb : b.length ≤ 140737488355328)
theorem dcmp_n (h : d.ok = false) : LP Tryz.prog gm 25 [d.av, bv b] [] (fun _ => (dre (decompR d b hb), [])) := by
 rw [dcp_n h]
 have hv := dvalid_c (G := gm) d
 rw [h] at hv
 refine goW [] Tryz.func25 rfl ?_
 conv => whnf
 repeat' ((first
   | exact Nm.b 0
   | (show LC _ _ _ _ _ _; first | refine LC.pure (hv) ?_ | refine goE ?_)
   | refine T.s ?_
   | ((first | refine goB (fun h => ?_) (fun h => ?_) | refine AB.dec (fun h => ?_) (fun h => ?_) | refine AB.gen (fun h => ?_) (fun h => ?_)) <;> try (exfalso; omega))
   | refine LFresh.mk fun r => ?_
   | (show SQ _ _ _ _ _ _ _; first | refine gX 12 [2, 3] [0, 1, 2, 3, 4, 5, 6] [] ?_ | refine gX 13 [] [0, 1, 2, 3, 4, 5, 6, 7, 8, 9] [] ?_ | refine gX 14 [3, 6, 8] [0, 1, 2, 3, 4, 5, 6, 7, 8, 9] [] ?_ | refine gX 15 [0, 2] [0, 1, 2, 3, 4, 5, 6] [] ?_ | refine gX 16 [] [0, 1, 2, 3, 4, 5, 6, 7, 8, 9, 10, 11, 12, 13, 14, 15, 16, 17, 18, 19, 20, 21, 22, 23, 24, 25, 26] [] ?_ | refine gX 22 [0, 2] [0, 1, 2, 3, 4, 5, 6] [] ?_ | refine gX 23 [] [0, 1, 2, 3, 4, 5, 6, 7, 8, 9, 10, 11] [] ?_ | refine gX 26 [0, 4] [0, 1, 2, 3, 4, 5, 6, 7, 8] [] ?_)
   | exact T.z
   | fail) <;> conv => whnf)
 all_goals (try dsimp only)
 all_goals exact RL.dre0
theorem dcmp_e (h : d.ok = true) (hl : d.cx.length = 16) (c f e : Int) (hp : peekR b = (c, f, e)) (he : e ≠ 0) : LP Tryz.prog gm 25 [d.av, bv b] [] (fun _ => (dre (decompR d b hb), [])) := by
 rw [dcp_e h hp he]
 have hv := dvalid_c (G := gm) d
 rw [h] at hv
 have hq := fpeek_c (G := gm) b
 rw [hp] at hq
 dsimp only [pe] at hq
 refine goW [] Tryz.func25 rfl ?_
 conv => whnf
 repeat' ((first
   | exact Nm.b 0
   | (show LC _ _ _ _ _ _; first | refine LC.pure (hv) ?_ | refine LC.own (rcclone_c d.cx (by omega) (by omega)) ?_ | refine LC.pure (hq) ?_ | refine goE ?_)
   | refine T.s ?_
   | ((first | refine goB (fun h => ?_) (fun h => ?_) | refine AB.dec (fun h => ?_) (fun h => ?_) | refine AB.gen (fun h => ?_) (fun h => ?_)) <;> try (exfalso; omega))
   | refine LFresh.mk fun r => ?_
   | (show SQ _ _ _ _ _ _ _; first | refine gX 12 [2, 3] [0, 1, 2, 3, 4, 5, 6] [] ?_ | refine gX 13 [] [0, 1, 2, 3, 4, 5, 6, 7, 8, 9] [] ?_ | refine gX 14 [3, 6, 8] [0, 1, 2, 3, 4, 5, 6, 7, 8, 9] [] ?_ | refine gX 15 [0, 2] [0, 1, 2, 3, 4, 5, 6] [] ?_ | refine gX 16 [] [0, 1, 2, 3, 4, 5, 6, 7, 8, 9, 10, 11, 12, 13, 14, 15, 16, 17, 18, 19, 20, 21, 22, 23, 24, 25, 26] [] ?_ | refine gX 22 [0, 2] [0, 1, 2, 3, 4, 5, 6] [] ?_ | refine gX 23 [] [0, 1, 2, 3, 4, 5, 6, 7, 8, 9, 10, 11] [] ?_ | refine gX 26 [0, 4] [0, 1, 2, 3, 4, 5, 6, 7, 8] [] ?_)
   | exact T.z
   | fail) <;> conv => whnf)
 all_goals (try dsimp only)
 all_goals
   refine RL.dre .n .n rfl ?_
   (repeat first | refine goH ?_ | apply LH.here | apply LH.next)
   rfl
theorem dcmp_6 (h : d.ok = true) (hl : d.cx.length = 16) (hp : peekR b = (0, 6, 0)) : LP Tryz.prog gm 25 [d.av, bv b] [] (fun _ => (dre (decompR d b hb), [])) := by
 have hv := dvalid_c (G := gm) d
 rw [h] at hv
 have hq := fpeek_c (G := gm) b
 rw [hp] at hq
 dsimp only [pe] at hq
 have hd := fdecode_d (G := gm) b hb 0 false
 have k1 := fun h6 => dcp_6y (hb := hb) h hp h6
 have k2 := fun h6 => dcp_6n (hb := hb) h hp h6
 generalize dse (decR b hb 0 false) = E at hd k1 k2
 generalize dsm (decR b hb 0 false) = S at hd k1 k2
 refine goW [] Tryz.func25 rfl ?_
 conv => whnf
 repeat' ((first
   | exact Nm.b 0
   | (show LC _ _ _ _ _ _; first | refine LC.pure (hv) ?_ | refine LC.own (rcclone_c d.cx (by omega) (by omega)) ?_ | refine LC.pure (hq) ?_ | refine LC.pure (hd) ?_ | refine goE ?_)
   | refine T.s ?_
   | ((first | refine goB (fun h => ?_) (fun h => ?_) | refine AB.dec (fun h => ?_) (fun h => ?_) | refine AB.gen (fun h => ?_) (fun h => ?_)) <;> try (exfalso; omega))
   | refine LFresh.mk fun r => ?_
   | (show SQ _ _ _ _ _ _ _; first | refine gX 12 [2, 3] [0, 1, 2, 3, 4, 5, 6] [] ?_ | refine gX 13 [] [0, 1, 2, 3, 4, 5, 6, 7, 8, 9] [] ?_ | refine gX 14 [3, 6, 8] [0, 1, 2, 3, 4, 5, 6, 7, 8, 9] [] ?_ | refine gX 15 [0, 2] [0, 1, 2, 3, 4, 5, 6] [] ?_ | refine gX 16 [] [0, 1, 2, 3, 4, 5, 6, 7, 8, 9, 10, 11, 12, 13, 14, 15, 16, 17, 18, 19, 20, 21, 22, 23, 24, 25, 26] [] ?_ | refine gX 22 [0, 2] [0, 1, 2, 3, 4, 5, 6] [] ?_ | refine gX 23 [] [0, 1, 2, 3, 4, 5, 6, 7, 8, 9, 10, 11] [] ?_ | refine gX 26 [0, 4] [0, 1, 2, 3, 4, 5, 6, 7, 8] [] ?_)
   | exact T.z
   | fail) <;> conv => whnf)
 all_goals (try dsimp only)
 all_goals first
   | (rw [k1 ⟨by assumption, fun e => h (by rw [e]; rfl)⟩]; refine RL.dre (.b _) .n rfl ?_; (repeat first | refine goH ?_ | apply LH.here | apply LH.next); rfl)
   | (rw [k2 (fun e => absurd e.1 (by assumption))]; refine RL.dre .n .n rfl ?_; (repeat first | refine goH ?_ | apply LH.here | apply LH.next); rfl)
   | (rw [k2 (fun e => e.2 (List.eq_nil_of_length_eq_zero (by omega)))]; refine RL.dre .n .n rfl ?_; (repeat first | refine goH ?_ | apply LH.here | apply LH.next); rfl)
   | trace_state
theorem dcmp_c (h : d.ok = true) (hl : d.cx.length = 16) (i : Nat) (f : Int) (hp : peekR b = ((i : Int), f, 0)) (hi : i < d.cx.length) (h6 : f ≠ 6) (hs : (d.cx.getD i Rc.z).st < needR f) : LP Tryz.prog gm 25 [d.av, bv b] [] (fun _ => (dre (decompR d b hb), [])) := by
 rw [dcp_c (r := d.cx.getD i Rc.z) h hp h6 rfl hs]
 have hv := dvalid_c (G := gm) d
 rw [h] at hv
 have hq := fpeek_c (G := gm) b
 rw [hp] at hq
 dsimp only [pe] at hq
 refine goW [] Tryz.func25 rfl ?_
 conv => whnf
 repeat' ((first
   | (show LFresh _; rw [ix19 i]; refine LFresh.mk fun r => ?_)
   | exact Nm.b 0
   | (refine And.intro ?_ ?_; (focus (first | (show KeepX _ _ _; exact KeepX.refl) | (show _ ≤ (List.flatMap Rc.cs _).length; rw [fm_len Rc.cs_len]; (try dsimp only); omega) | exact T.kx | exact T.side)))
   | (show LC _ _ _ _ _ _; first | refine LC.pure (hv) ?_ | refine LC.own (rcclone_c d.cx (by omega) (by omega)) ?_ | refine LC.pure (hq) ?_ | refine LC.pure (needed_c _) ?_ | (apply LC.twoK (fun hne => wcomp_c _ _ hne d.cx i hi _ _ wz .nils); (repeat first | refine goH ?_ | apply LH.here | apply LH.next); refine ⟨rfl, ?_⟩; (repeat first | refine goH ?_ | apply LH.here | apply LH.next); refine ⟨rfl, ?_⟩; (repeat first | refine goH ?_ | apply LH.here | apply LH.next)) | refine goE ?_)
   | (show AC _ _ _; first | (refine AC.sub Rc.cs_len i 0 Rc.z _ ?_ (by decide) hi rfl ?_; focus omega))
   | refine T.s ?_
   | ((first | refine goB (fun h => ?_) (fun h => ?_) | refine AB.dec (fun h => ?_) (fun h => ?_) | refine AB.gen (fun h => ?_) (fun h => ?_)) <;> try (exfalso; omega))
   | refine LFresh.mk fun r => ?_
   | (show SQ _ _ _ _ _ _ _; first | refine gX 12 [2, 3] [0, 1, 2, 3, 4, 5, 6] [] ?_ | refine gX 13 [] [0, 1, 2, 3, 4, 5, 6, 7, 8, 9] [] ?_ | refine gX 14 [3, 6, 8] [0, 1, 2, 3, 4, 5, 6, 7, 8, 9] [] ?_ | refine gX 15 [0, 2] [0, 1, 2, 3, 4, 5, 6] [] ?_ | refine gX 16 [] [0, 1, 2, 3, 4, 5, 6, 7, 8, 9, 10, 11, 12, 13, 14, 15, 16, 17, 18, 19, 20, 21, 22, 23, 24, 25, 26] [] ?_ | refine gX 22 [0, 2] [0, 1, 2, 3, 4, 5, 6] [] ?_ | refine gX 23 [] [0, 1, 2, 3, 4, 5, 6, 7, 8, 9, 10, 11] [] ?_ | refine gX 26 [0, 4] [0, 1, 2, 3, 4, 5, 6, 7, 8] [] ?_)
   | exact T.z
   | fail) <;> conv => whnf)
 all_goals (try dsimp only)
 all_goals
   refine RL.dre .n (.b _) rfl ?_
   (repeat first | refine goH ?_ | apply LH.here | apply LH.next)
   rfl
end
open Go.RowKit
variable {G : Nat → AV}
theorem LF.rcv {cx : List Rc} {n : Nat} {q : Nm} {l : LS} {F : List Nm} (hF : InL q F) (hn : n = cx.length) (hq : LH l q fun c _ _ => c.cs = cx.flatMap Rc.cs) : LF l F (.vw q 0 n 19) (Go.Proofs.YtkfpgdckdmlhkaaGreatDoor.rcv cx) := by
 subst hn
 obtain ⟨l1, c, l2, rfl, h3⟩ := hq.ex
 exact LF.row hF ⟨l1, c, l2, rfl, by decide, by rw [h3, fm_len Rc.cs_len], rfl, h3.symm⟩
theorem AQ.rsetW {α : Type} {f : α → List AV} {n : Nat} (hf : ∀ x, (f x).length = n) {l : List α} {o : Nat} {xs : List AV} {K : List AV → Prop} {i : Nat} (d y : α) (h : i < l.length) (ho : o = i * n) (hy : f y = xs) (k : K ((l.set i y).flatMap f)) : AQ (splice (l.flatMap f) o xs) K := ⟨by
 subst ho hy
 have h1 := splice_fm hf l i 0 d y (f y) h (by rw [hf]; omega) (by
   unfold splice
   rw [List.take_zero, List.drop_of_length_le (by simp [hf])]
   simp)
 rw [Nat.add_zero] at h1
 rw [h1]
 exact k⟩
open Go.RowKit
variable {G : Nat → AV}
def hdsR (t : List Int) (a : Nat) : Nat → List Hd × Nat
 | 0 => ([], a)
 | n + 1 => ((hdsR t a n).1 ++ [hdrR t (hdsR t a n).2 n], hdrA t (hdsR t a n).2 n)
theorem hds_len (t : List Int) (a : Nat) : ∀ n, (hdsR t a n).1.length = n
 | 0 => rfl
 | n + 1 => by simp [hdsR, hds_len t a n]
def kindR (h : Hd) : Prop := h.k = 1 ∨ h.k = 2
theorem hdr_kind (t : List Int) (a : Nat) (fl : Int) : kindR (hdrR t a fl) := hkd_12 fl
theorem hds_kind (t : List Int) (a : Nat) : ∀ n, ∀ h ∈ (hdsR t a n).1, kindR h
 | 0, h, hh => by cases hh
 | n + 1, h, hh => by
   simp only [hdsR, List.mem_append, List.mem_singleton] at hh
   rcases hh with hh | rfl
   · exact hds_kind t a n h hh
   · exact hdr_kind _ _ _
theorem fol_k (t : List Int) (a : Nat) (h : Hd) (reg : Bool) : (folR t a h reg).1.k = h.k := by
 have e1 : ∀ s, (foI h s).k = h.k := fun s => rfl
 have e2 : ∀ a x, (foB t a x).1.k = x.k := fun a x => by unfold foB; split <;> rfl
 have e3 : ∀ s x, (foT s x).k = x.k := fun s x => by unfold foT; split <;> rfl
 have e4 : ∀ a x, (foX t a x).1.k = x.k := fun a x => by unfold foX; (repeat' split) <;> rfl
 unfold folR
 split
 · dsimp only; rw [e3, e2, e1]
 · rw [e4, e3, e2, e1]
structure Pq where
 hs : List Hd
 bs : List (List UInt8)
 a : Nat
def pqK (t : List Int) (fl : Int) (x : Pq) : Nat := (nextR t x.a fl).toNat
def pqP (t : List Int) (x : Pq) : List UInt8 := bytesL t (nextA t (nextA t x.a)) (manyR t (nextA t x.a) 6)
def pqA (t : List Int) (x : Pq) : Nat := adv t (nextA t (nextA t x.a)) (manyR t (nextA t x.a) 6)
def pqH (t : List Int) (fl : Int) (x : Pq) : Hd := x.hs.getD (pqK t fl x) Hd.z
def pqF (t : List Int) (fl : Int) (reg : Bool) (x : Pq) : Hd × Nat := folR t (pqA t x) (pqH t fl x) reg
def pqS (t : List Int) (fl : Int) (reg : Bool) (x : Pq) : Pq :=
 if reg = true then ⟨x.hs.set (pqK t fl x) (pqF t fl reg x).1, x.bs ++ [pktL (pqH t fl x) (pqP t x)], (pqF t fl reg x).2⟩
 else if oneR t (pqF t fl reg x).2 15 = true then ⟨x.hs.set (pqK t fl x) (pqF t fl reg x).1, x.bs ++ [pktL (pqH t fl x) (pqP t x)] ++ [someR t (nextA t (pqF t fl reg x).2) 40], someA t (nextA t (pqF t fl reg x).2) 40⟩
 else ⟨x.hs.set (pqK t fl x) (pqF t fl reg x).1, x.bs ++ [pktL (pqH t fl x) (pqP t x)], nextA t (pqF t fl reg x).2⟩
def pqI (t : List Int) (fl : Int) (reg : Bool) : Nat → Pq → Pq
 | 0, x => x
 | n + 1, x => pqI t fl reg n (pqS t fl reg x)
def pksN (t : List Int) (a : Nat) (fl : Nat) (cnt : Int) : Nat := (nextR t (hdsR t a fl).2 (iarith .add .i64 cnt 1)).toNat
def pksR (t : List Int) (a : Nat) (fl : Nat) (cnt : Int) (reg : Bool) : Pq := pqI t fl reg (pksN t a fl cnt) ⟨(hdsR t a fl).1, [], nextA t (hdsR t a fl).2⟩
def bbv (l : List (List UInt8)) : AV := .sl l.length (l.map bv)
attribute [local irreducible] hdrR hdrA folR pktL bytesL someR someA manyR nextR nextA
theorem hds_app (t : List Int) (a n : Nat) : (hdsR t a n).1.flatMap Hd.cs ++ (hdrR t (hdsR t a n).2 n).cs = (hdsR t a (n + 1)).1.flatMap Hd.cs := by simp [hdsR]
theorem pq_f {t : List Int} {fl : Int} {x : Pq} {n : Nat} {R : Pq} (h : pqI t fl false (n + 1) x = R) (k : oneR t (pqF t fl false x).2 15 = false) : pqI t fl false n ⟨x.hs.set (pqK t fl x) (pqF t fl false x).1, x.bs ++ [pktL (pqH t fl x) (pqP t x)], nextA t (pqF t fl false x).2⟩ = R := by
 rw [← h]
 show _ = pqI t fl false n (pqS t fl false x)
 unfold pqS
 rw [if_neg (by decide), if_neg (by rw [k]; decide)]
theorem pq_g {t : List Int} {fl : Int} {x : Pq} {n : Nat} {R : Pq} (h : pqI t fl false (n + 1) x = R) (k : oneR t (pqF t fl false x).2 15 = true) : pqI t fl false n ⟨x.hs.set (pqK t fl x) (pqF t fl false x).1, x.bs ++ [pktL (pqH t fl x) (pqP t x)] ++ [someR t (nextA t (pqF t fl false x).2) 40], someA t (nextA t (pqF t fl false x).2) 40⟩ = R := by
 rw [← h]
 show _ = pqI t fl false n (pqS t fl false x)
 unfold pqS
 rw [if_neg (by decide), if_pos k]
theorem pq_kind {t : List Int} {fl : Int} {reg : Bool} {x : Pq} (h : ∀ y ∈ x.hs, kindR y) (hk : pqK t fl x < x.hs.length) : ∀ y ∈ x.hs.set (pqK t fl x) (pqF t fl reg x).1, kindR y := fun y hy => by
 rcases List.mem_or_eq_of_mem_set hy with hy | rfl
 · exact h y hy
 · unfold kindR pqF
   rw [fol_k]
   refine h _ ?_
   unfold pqH
   rw [List.getD_eq_getElem?_getD, List.getElem?_eq_getElem hk]
   exact List.getElem_mem _
theorem RL.rowBB {t : List Int} {a : Nat} {L : List (List UInt8)} {n : Nat} {q p : Nm} {l : LS} (h : LH l q fun c _ r => c.cs = L.map bv ∧ n = L.length ∧ LB [(p, dice t a)] r) : RL (fun _ => (bbv L, [(p, dice t a)])) (.vw q 0 n 1) l := by
 obtain ⟨l1, c, l2, rfl, h1, rfl, h2⟩ := h.ex
 exact RL.frz [q] (LF.row InL.here ⟨l1, c, l2, rfl, by decide, by simp [h1], rfl, h1.symm⟩) ⟨l1, c, l2, rfl, h2⟩
theorem pq_k {t : List Int} {fl : Nat} {x : Pq} (h0 : 1 ≤ fl) (h1 : fl ≤ 10) : 0 ≤ nextR t x.a fl ∧ nextR t x.a fl < fl ∧ pqK t fl x < fl := by
 have := nextR_lt t x.a fl (by omega) (by omega)
 unfold pqK
 omega
theorem pq_next {t : List Int} {fl : Int} {reg : Bool} {x : Pq} {n : Nat} {R : Pq} (h0 : (0 : Int) < (n : Int)) (h : pqI t fl reg n x = R) : pqI t fl reg (n - 1) (pqS t fl reg x) = R := by
 obtain ⟨m, rfl⟩ : ∃ m, n = m + 1 := ⟨n - 1, by omega⟩
 exact h
theorem pq_nf {t : List Int} {fl : Int} {x : Pq} {n : Nat} {R : Pq} (h0 : (0 : Int) < (n : Int)) (h : pqI t fl false n x = R) (k : oneR t (pqF t fl false x).2 15 = false) : pqI t fl false (n - 1) ⟨x.hs.set (pqK t fl x) (pqF t fl false x).1, x.bs ++ [pktL (pqH t fl x) (pqP t x)], nextA t (pqF t fl false x).2⟩ = R := by
 obtain ⟨m, rfl⟩ : ∃ m, n = m + 1 := ⟨n - 1, by omega⟩
 exact pq_f h k
theorem pq_ng {t : List Int} {fl : Int} {x : Pq} {n : Nat} {R : Pq} (h0 : (0 : Int) < (n : Int)) (h : pqI t fl false n x = R) (k : oneR t (pqF t fl false x).2 15 = true) : pqI t fl false (n - 1) ⟨x.hs.set (pqK t fl x) (pqF t fl false x).1, x.bs ++ [pktL (pqH t fl x) (pqP t x)] ++ [someR t (nextA t (pqF t fl false x).2) 40], someA t (nextA t (pqF t fl false x).2) 40⟩ = R := by
 obtain ⟨m, rfl⟩ : ∃ m, n = m + 1 := ⟨n - 1, by omega⟩
 exact pq_g h k
theorem pq_nt {t : List Int} {fl : Int} {x : Pq} {n : Nat} {R : Pq} (h0 : (0 : Int) < (n : Int)) (h : pqI t fl true n x = R) : pqI t fl true (n - 1) ⟨x.hs.set (pqK t fl x) (pqF t fl true x).1, x.bs ++ [pktL (pqH t fl x) (pqP t x)], (pqF t fl true x).2⟩ = R := pq_next h0 h
theorem pq_0 {t : List Int} {fl : Int} {reg : Bool} {x : Pq} {n : Nat} {R : Pq} (h0 : ¬ (0 : Int) < (n : Int)) (h : pqI t fl reg n x = R) : x = R := by
 obtain rfl : n = 0 := by omega
 exact h
theorem pq_hk {fl : Nat} {t : List Int} {x : Pq} (h : ∀ y ∈ x.hs, kindR y) (hl : x.hs.length = fl) (h0 : 1 ≤ fl) (h1 : fl ≤ 10) : (pqH t fl x).k = 1 ∨ (pqH t fl x).k = 2 := by
 have := (pq_k (t := t) (x := x) h0 h1).2.2
 refine h _ ?_
 unfold pqH
 rw [List.getD_eq_getElem?_getD, List.getElem?_eq_getElem (by omega)]
 exact List.getElem_mem _
theorem pq_pl (t : List Int) (x : Pq) : (pqP t x).length ≤ 100000 := by
 have := nextR_lt t (nextA t x.a) (iarith .add .i64 6 1) (by decide) (by decide)
 have e : iarith .add .i64 6 1 = 7 := rfl
 unfold pqP manyR
 rw [bytesL_len]
 omega
theorem hds_le (t : List Int) (a i : Nat) : 0 + i * 15 ≤ ((hdsR t a i).1.flatMap Hd.cs).length := by rw [fm_len Hd.cs_len, hds_len]; omega
theorem hds_ge (t : List Int) (a i : Nat) : ((hdsR t a i).1.flatMap Hd.cs).length ≤ i * 15 := by rw [fm_len Hd.cs_len, hds_len]; exact Nat.le_refl _
theorem bs_app (l : List (List UInt8)) (b : List UInt8) : l.map bv ++ [bv b] = (l ++ [b]).map bv := by rw [List.map_append]; rfl
theorem bs_app2 (l : List (List UInt8)) (b c : List UInt8) : l.map bv ++ [bv b] ++ [bv c] = (l ++ [b] ++ [c]).map bv := by rw [bs_app, bs_app]
theorem one_t {t : List Int} {a : Nat} (h : nextR t a 15 = iarith .sub .i64 15 1) : oneR t a 15 = true := (oneR_iff _ _ _).2 h
theorem one_f {t : List Int} {a : Nat} (h : ¬ nextR t a 15 = iarith .sub .i64 15 1) : oneR t a 15 = false := Bool.eq_false_iff.2 fun k => h ((oneR_iff _ _ _).1 k)
theorem pq_ix {t : List Int} {fl : Int} {x : Pq} : 0 + (nextR t x.a fl).toNat * 15 = pqK t fl x * 15 := Nat.zero_add _
theorem pq_le {t : List Int} {fl : Nat} {x : Pq} (hl : x.hs.length = fl) (h0 : 1 ≤ fl) (h1 : fl ≤ 10) : 0 + (nextR t x.a fl).toNat * 15 + 15 ≤ (x.hs.flatMap Hd.cs).length := by
 rw [pq_ix, fm_len Hd.cs_len]
 have := (pq_k (t := t) (x := x) h0 h1).2.2
 omega
theorem packets_t (t : List Int) (a : Nat) (fl : Nat) (cnt : Int) (h0 : 1 ≤ fl) (h1 : fl ≤ 10) (h2 : 0 ≤ cnt) (h3 : cnt ≤ 100) (ht : t.length ≤ 400) (p : Nm) : LP Tryz.prog G 19 [.ptr p 0, iAV fl, iAV cnt, .bool true] [(p, dice t a)] (fun _ => (bbv (pksR t a fl cnt true).bs, [(p, dice t (pksR t a fl cnt true).a)])) := by
 have hm : iarith .add .i64 cnt 1 = cnt + 1 := by (exact T.num)
 have hb := nextR_lt t (hdsR t a fl).2 (iarith .add .i64 cnt 1) (by omega) (by omega)
 have hN : nextR t (hdsR t a fl).2 (iarith .add .i64 cnt 1) = (pksN t a fl cnt : Int) := by unfold pksN; omega
 have hNb : pksN t a fl cnt ≤ 101 := by unfold pksN; omega
 have hq := fun x => (pq_k (t := t) (fl := fl) (x := x) h0 h1).1
 have hq2 := fun x => (pq_k (t := t) (fl := fl) (x := x) h0 h1).2.1
 have hq3 := fun x => (pq_k (t := t) (fl := fl) (x := x) h0 h1).2.2
 refine goW [] Tryz.func19 rfl ?_
 conv => whnf
 repeat' ((first
   | (show SQ _ _ _ (.loop _) _ _ _; have hi : fl = i := (by omega); subst hi)
   | exact Nm.b 0
   | (refine And.intro ?_ ?_; (focus (first | exact hds_le _ _ _ | exact pq_le (by assumption) h0 h1 | exact T.kx | exact T.side)))
   | (show LC _ _ _ _ _ _; first | (apply LC.upd (dheader_c t _ _ ht _); (repeat first | refine goH ?_ | apply LH.here | apply LH.next); refine ⟨rfl, ?_⟩) | (apply LC.upd (dbytes_c t _ 6 (by decide) (by decide) ht _); (repeat first | refine goH ?_ | apply LH.here | apply LH.next); refine ⟨rfl, ?_⟩) | (apply LC.upd (next_c t _ _ ht _); (repeat first | refine goH ?_ | apply LH.here | apply LH.next); refine ⟨rfl, ?_⟩) | refine LC.pure (mpacket_c (pqH t fl x) (pqP t x) (pq_hk (by assumption) (by assumption) h0 h1) (pq_pl t x)) ?_ | (apply LC.upd (follow_c t (pqA t x) (pqH t fl x) true ht _); (repeat first | refine goH ?_ | apply LH.here | apply LH.next); refine ⟨rfl, ?_⟩) | refine goE ?_)
   | (show AC _ _ _; first | (refine AC.recd Hd.cs_len (pqK t fl x) Hd.z pq_ix rfl ?_ ?_; (focus (have := hq3 x; omega))))
   | (show AQ _ _; first | (refine AQ.full ?_ ?_; (focus exact hds_ge _ _ _)) | (refine AQ.rsetW Hd.cs_len (i := pqK t fl x) Hd.z (pqF t fl true x).1 ?_ ?_ ?_ ?_; (focus (have := hq3 x; omega)); (focus (exact pq_ix)); (focus rfl)))
   | refine T.s ?_
   | ((first | refine goB (fun h => ?_) (fun h => ?_) | refine AB.dec (fun h => ?_) (fun h => ?_) | refine AB.gen (fun h => ?_) (fun h => ?_)) <;> try (exfalso; omega))
   | refine LFresh.mk fun r => ?_
   | (show SQ _ _ _ (.loop _) _ _ _; first | (apply goO tQ [] 3 (S := Nat × Nm) [0, 1, 2, 3] (fun (i, q) => ⟨[(9, .vw q 0 i 15), (10, .int .i64 i)], [(p, dice t (hdsR t a i).2), (q, ⟨65, (hdsR t a i).1.flatMap Hd.cs⟩)], i ≤ fl, fl - i⟩) ((0, _)) (by rfl); (focus ((repeat' first | exact trivial | (refine And.intro ?_ ?_) | exact LB.nil | (with_reducible exact LB.refl) | (apply LB.cons; (repeat first | refine goH ?_ | apply LH.here | apply LH.next); refine And.intro ?_ ?_; (focus (try (first | (with_reducible rfl) | (refine congrArg (Pl.mk _) ?_; (first | (with_reducible rfl) | exact hds_app _ _ _ | exact bs_app _ _ | rfl)) | rfl | (with_reducible refine congrArg (Pl.mk _) ?_))))) | assumption | (exact pq_nt (by assumption) (by assumption)) | (exact pq_kind (by assumption) (by have := hq3 x; omega)) | (exact hds_kind _ _ _) | (exact hds_len _ _ _) | (rw [List.length_set]; assumption) | (exact hq _) | (exact hq2 _) | (first | (focus (apply Eq.trans; (conv => lhs; whnf); (conv => rhs; whnf); done)) | rfl | ((conv => lhs; whnf); first | rfl | (refine congrArg (AV.int _) ?_; (exact T.num)) | (refine congrArg AV.bool ?_; (exact T.num)) | (refine vwc ?_; first | (exact T.num) | (first | (with_reducible rfl) | exact hds_app _ _ _ | exact bs_app _ _ | rfl)) | (refine sl_congr ?_ ?_ <;> first | (exact T.num) | (first | (with_reducible rfl) | exact hds_app _ _ _ | exact bs_app _ _ | rfl)) | (first | (with_reducible rfl) | exact hds_app _ _ _ | exact bs_app _ _ | rfl))) | (exact T.num) | (dsimp only; (exact T.num)) | (first | (with_reducible rfl) | exact hds_app _ _ _ | exact bs_app _ _ | rfl)); done)); rintro ⟨i, q⟩ hok; (try dsimp only at hok); (repeat (have hk := And.left hok; replace hok := And.right hok))) | (apply goO tQ [] 8 (S := Nat × Pq × Nm × Nm) [0, 1, 3] (fun (n, x, q, r) => ⟨[(9, .vw q 0 fl 15), (11, .vw r 0 x.bs.length 1), (12, .int .i64 n)], [(p, dice t x.a), (q, ⟨65, x.hs.flatMap Hd.cs⟩), (r, ⟨33, x.bs.map bv⟩)], n ≤ 101 ∧ x.hs.length = fl ∧ (∀ y ∈ x.hs, kindR y) ∧ (0 ≤ nextR t x.a fl) ∧ nextR t x.a fl < fl ∧ x.bs.length ≤ 1000 - n ∧ pqI t fl true n x = pksR t a fl cnt true, n⟩) ((pksN t a fl cnt, ⟨(hdsR t a fl).1, [], nextA t (hdsR t a fl).2⟩, _, _)) (by rfl); (focus ((repeat' first | exact trivial | (refine And.intro ?_ ?_) | exact LB.nil | (with_reducible exact LB.refl) | (apply LB.cons; (repeat first | refine goH ?_ | apply LH.here | apply LH.next); refine And.intro ?_ ?_; (focus (try (first | (with_reducible rfl) | (refine congrArg (Pl.mk _) ?_; (first | (with_reducible rfl) | exact hds_app _ _ _ | exact bs_app _ _ | rfl)) | rfl | (with_reducible refine congrArg (Pl.mk _) ?_))))) | assumption | (exact pq_nt (by assumption) (by assumption)) | (exact pq_kind (by assumption) (by have := hq3 x; omega)) | (exact hds_kind _ _ _) | (exact hds_len _ _ _) | (rw [List.length_set]; assumption) | (exact hq _) | (exact hq2 _) | (first | (focus (apply Eq.trans; (conv => lhs; whnf); (conv => rhs; whnf); done)) | rfl | ((conv => lhs; whnf); first | rfl | (refine congrArg (AV.int _) ?_; (exact T.num)) | (refine congrArg AV.bool ?_; (exact T.num)) | (refine vwc ?_; first | (exact T.num) | (first | (with_reducible rfl) | exact hds_app _ _ _ | exact bs_app _ _ | rfl)) | (refine sl_congr ?_ ?_ <;> first | (exact T.num) | (first | (with_reducible rfl) | exact hds_app _ _ _ | exact bs_app _ _ | rfl)) | (first | (with_reducible rfl) | exact hds_app _ _ _ | exact bs_app _ _ | rfl))) | (exact T.num) | (dsimp only; (exact T.num)) | (first | (with_reducible rfl) | exact hds_app _ _ _ | exact bs_app _ _ | rfl)); done)); rintro ⟨n, x, q, r⟩ hok; (try dsimp only at hok); (repeat (have hk := And.left hok; replace hok := And.right hok))))
   | (show SQ _ _ _ _ _ _ _; first | refine SQ.adopt 9 15 65 (by rfl) fun q => ?_ | refine SQ.adopt 11 1 33 (by rfl) fun q => ?_ | refine gX 11 [4, 6] [0, 1, 2, 3, 4, 5, 6, 7, 8, 9, 10] [p] ?_)
   | (show AtL _ _ _ _ _ _ _ _ _ _; first | (apply AtL.mk' (id := 3) (S := Nat × Nm) ((i + 1, _)); (repeat' first | exact trivial | (refine And.intro ?_ ?_) | exact LB.nil | (with_reducible exact LB.refl) | (apply LB.cons; (repeat first | refine goH ?_ | apply LH.here | apply LH.next); refine And.intro ?_ ?_; (focus (try (first | (with_reducible rfl) | (refine congrArg (Pl.mk _) ?_; (first | (with_reducible rfl) | exact hds_app _ _ _ | exact bs_app _ _ | rfl)) | rfl | (with_reducible refine congrArg (Pl.mk _) ?_))))) | assumption | (exact pq_nt (by assumption) (by assumption)) | (exact pq_kind (by assumption) (by have := hq3 x; omega)) | (exact hds_kind _ _ _) | (exact hds_len _ _ _) | (rw [List.length_set]; assumption) | (exact hq _) | (exact hq2 _) | (first | (focus (apply Eq.trans; (conv => lhs; whnf); (conv => rhs; whnf); done)) | rfl | ((conv => lhs; whnf); first | rfl | (refine congrArg (AV.int _) ?_; (exact T.num)) | (refine congrArg AV.bool ?_; (exact T.num)) | (refine vwc ?_; first | (exact T.num) | (first | (with_reducible rfl) | exact hds_app _ _ _ | exact bs_app _ _ | rfl)) | (refine sl_congr ?_ ?_ <;> first | (exact T.num) | (first | (with_reducible rfl) | exact hds_app _ _ _ | exact bs_app _ _ | rfl)) | (first | (with_reducible rfl) | exact hds_app _ _ _ | exact bs_app _ _ | rfl))) | (exact T.num) | (dsimp only; (exact T.num)) | (first | (with_reducible rfl) | exact hds_app _ _ _ | exact bs_app _ _ | rfl)); done) | (apply AtL.mk' (id := 8) (S := Nat × Pq × Nm × Nm) ((n - 1, ⟨x.hs.set (pqK t fl x) (pqF t fl true x).1, x.bs ++ [pktL (pqH t fl x) (pqP t x)], (pqF t fl true x).2⟩, _, _)); (repeat' first | exact trivial | (refine And.intro ?_ ?_) | exact LB.nil | (with_reducible exact LB.refl) | (apply LB.cons; (repeat first | refine goH ?_ | apply LH.here | apply LH.next); refine And.intro ?_ ?_; (focus (try (first | (with_reducible rfl) | (refine congrArg (Pl.mk _) ?_; (first | (with_reducible rfl) | exact hds_app _ _ _ | exact bs_app _ _ | rfl)) | rfl | (with_reducible refine congrArg (Pl.mk _) ?_))))) | assumption | (exact pq_nt (by assumption) (by assumption)) | (exact pq_kind (by assumption) (by have := hq3 x; omega)) | (exact hds_kind _ _ _) | (exact hds_len _ _ _) | (rw [List.length_set]; assumption) | (exact hq _) | (exact hq2 _) | (first | (focus (apply Eq.trans; (conv => lhs; whnf); (conv => rhs; whnf); done)) | rfl | ((conv => lhs; whnf); first | rfl | (refine congrArg (AV.int _) ?_; (exact T.num)) | (refine congrArg AV.bool ?_; (exact T.num)) | (refine vwc ?_; first | (exact T.num) | (first | (with_reducible rfl) | exact hds_app _ _ _ | exact bs_app _ _ | rfl)) | (refine sl_congr ?_ ?_ <;> first | (exact T.num) | (first | (with_reducible rfl) | exact hds_app _ _ _ | exact bs_app _ _ | rfl)) | (first | (with_reducible rfl) | exact hds_app _ _ _ | exact bs_app _ _ | rfl))) | (exact T.num) | (dsimp only; (exact T.num)) | (first | (with_reducible rfl) | exact hds_app _ _ _ | exact bs_app _ _ | rfl)); done) | (apply AtL.mk' (id := 3) (S := Nat × Nm) ((i + 1, _)); (repeat' first | exact trivial | (refine And.intro ?_ ?_) | exact LB.nil | (with_reducible exact LB.refl) | (apply LB.cons; (repeat first | refine goH ?_ | apply LH.here | apply LH.next); refine And.intro ?_ ?_; (focus (try (first | (with_reducible rfl) | (refine congrArg (Pl.mk _) ?_; (first | (with_reducible rfl) | exact hds_app _ _ _ | exact bs_app _ _ | rfl)) | rfl | (with_reducible refine congrArg (Pl.mk _) ?_))))) | assumption | (exact pq_nt (by assumption) (by assumption)) | (exact pq_kind (by assumption) (by have := hq3 x; omega)) | (exact hds_kind _ _ _) | (exact hds_len _ _ _) | (rw [List.length_set]; assumption) | (exact hq _) | (exact hq2 _) | (first | (focus (apply Eq.trans; (conv => lhs; whnf); (conv => rhs; whnf); done)) | rfl | ((conv => lhs; whnf); first | rfl | (refine congrArg (AV.int _) ?_; (exact T.num)) | (refine congrArg AV.bool ?_; (exact T.num)) | (refine vwc ?_; first | (exact T.num) | (first | (with_reducible rfl) | exact hds_app _ _ _ | exact bs_app _ _ | rfl)) | (refine sl_congr ?_ ?_ <;> first | (exact T.num) | (first | (with_reducible rfl) | exact hds_app _ _ _ | exact bs_app _ _ | rfl)) | (first | (with_reducible rfl) | exact hds_app _ _ _ | exact bs_app _ _ | rfl))) | (exact T.num) | (dsimp only; (exact T.num)) | (first | (with_reducible rfl) | exact hds_app _ _ _ | exact bs_app _ _ | rfl))) | (apply AtL.mk' (id := 8) (S := Nat × Pq × Nm × Nm) ((n - 1, ⟨x.hs.set (pqK t fl x) (pqF t fl true x).1, x.bs ++ [pktL (pqH t fl x) (pqP t x)], (pqF t fl true x).2⟩, _, _)); (repeat' first | exact trivial | (refine And.intro ?_ ?_) | exact LB.nil | (with_reducible exact LB.refl) | (apply LB.cons; (repeat first | refine goH ?_ | apply LH.here | apply LH.next); refine And.intro ?_ ?_; (focus (try (first | (with_reducible rfl) | (refine congrArg (Pl.mk _) ?_; (first | (with_reducible rfl) | exact hds_app _ _ _ | exact bs_app _ _ | rfl)) | rfl | (with_reducible refine congrArg (Pl.mk _) ?_))))) | assumption | (exact pq_nt (by assumption) (by assumption)) | (exact pq_kind (by assumption) (by have := hq3 x; omega)) | (exact hds_kind _ _ _) | (exact hds_len _ _ _) | (rw [List.length_set]; assumption) | (exact hq _) | (exact hq2 _) | (first | (focus (apply Eq.trans; (conv => lhs; whnf); (conv => rhs; whnf); done)) | rfl | ((conv => lhs; whnf); first | rfl | (refine congrArg (AV.int _) ?_; (exact T.num)) | (refine congrArg AV.bool ?_; (exact T.num)) | (refine vwc ?_; first | (exact T.num) | (first | (with_reducible rfl) | exact hds_app _ _ _ | exact bs_app _ _ | rfl)) | (refine sl_congr ?_ ?_ <;> first | (exact T.num) | (first | (with_reducible rfl) | exact hds_app _ _ _ | exact bs_app _ _ | rfl)) | (first | (with_reducible rfl) | exact hds_app _ _ _ | exact bs_app _ _ | rfl))) | (exact T.num) | (dsimp only; (exact T.num)) | (first | (with_reducible rfl) | exact hds_app _ _ _ | exact bs_app _ _ | rfl))))
   | exact T.z
   | fail) <;> conv => whnf)
 all_goals (try dsimp only)
 all_goals
   rw [← pq_0 (x := x) (n := n) (fl := (fl : Int)) (reg := true) (t := t) (R := pksR t a fl cnt true) (by assumption) (by assumption)]
   refine RL.rowBB ?_
   (repeat first | refine goH ?_ | apply LH.here | apply LH.next)
   refine ⟨rfl, rfl, ?_⟩
   (repeat' first | exact LB.nil | (with_reducible exact LB.refl) | (apply LB.cons; (repeat first | refine goH ?_ | apply LH.here | apply LH.next); refine And.intro ?_ ?_; (focus (try (first | (with_reducible rfl) | (refine congrArg (Pl.mk _) ?_; (first | rfl | (simp; done))) | rfl | (with_reducible refine congrArg (Pl.mk _) ?_))))))
theorem packets_f (t : List Int) (a : Nat) (fl : Nat) (cnt : Int) (h0 : 1 ≤ fl) (h1 : fl ≤ 10) (h2 : 0 ≤ cnt) (h3 : cnt ≤ 100) (ht : t.length ≤ 400) (p : Nm) : LP Tryz.prog G 19 [.ptr p 0, iAV fl, iAV cnt, .bool false] [(p, dice t a)] (fun _ => (bbv (pksR t a fl cnt false).bs, [(p, dice t (pksR t a fl cnt false).a)])) := by
 have hm : iarith .add .i64 cnt 1 = cnt + 1 := by (exact T.num)
 have hb := nextR_lt t (hdsR t a fl).2 (iarith .add .i64 cnt 1) (by omega) (by omega)
 have hN : nextR t (hdsR t a fl).2 (iarith .add .i64 cnt 1) = (pksN t a fl cnt : Int) := by unfold pksN; omega
 have hNb : pksN t a fl cnt ≤ 101 := by unfold pksN; omega
 have hq := fun x => (pq_k (t := t) (fl := fl) (x := x) h0 h1).1
 have hq2 := fun x => (pq_k (t := t) (fl := fl) (x := x) h0 h1).2.1
 have hq3 := fun x => (pq_k (t := t) (fl := fl) (x := x) h0 h1).2.2
 refine goW [] Tryz.func19 rfl ?_
 conv => whnf
 repeat' ((first
   | (show SQ _ _ _ (.loop _) _ _ _; have hi : fl = i := (by omega); subst hi)
   | exact Nm.b 0
   | (refine And.intro ?_ ?_; (focus (first | exact hds_le _ _ _ | exact pq_le (by assumption) h0 h1 | exact T.kx | exact T.side)))
   | (show LC _ _ _ _ _ _; first | (apply LC.upd (dheader_c t _ _ ht _); (repeat first | refine goH ?_ | apply LH.here | apply LH.next); refine ⟨rfl, ?_⟩) | (apply LC.upd (dbytes_c t _ 6 (by decide) (by decide) ht _); (repeat first | refine goH ?_ | apply LH.here | apply LH.next); refine ⟨rfl, ?_⟩) | (apply LC.upd (dsome_c t _ 40 (by decide) (by decide) ht _); (repeat first | refine goH ?_ | apply LH.here | apply LH.next); refine ⟨rfl, ?_⟩) | (apply LC.upd (next_c t _ _ ht _); (repeat first | refine goH ?_ | apply LH.here | apply LH.next); refine ⟨rfl, ?_⟩) | (apply LC.upd (one_c t _ _ ht _); (repeat first | refine goH ?_ | apply LH.here | apply LH.next); refine ⟨rfl, ?_⟩) | refine LC.pure (mpacket_c (pqH t fl x) (pqP t x) (pq_hk (by assumption) (by assumption) h0 h1) (pq_pl t x)) ?_ | (apply LC.upd (follow_c t (pqA t x) (pqH t fl x) false ht _); (repeat first | refine goH ?_ | apply LH.here | apply LH.next); refine ⟨rfl, ?_⟩) | refine goE ?_)
   | (show AC _ _ _; first | (refine AC.recd Hd.cs_len (pqK t fl x) Hd.z pq_ix rfl ?_ ?_; (focus (have := hq3 x; omega))))
   | (show AQ _ _; first | (refine AQ.full ?_ ?_; (focus exact hds_ge _ _ _)) | (refine AQ.rsetW Hd.cs_len (i := pqK t fl x) Hd.z (pqF t fl false x).1 ?_ ?_ ?_ ?_; (focus (have := hq3 x; omega)); (focus (exact pq_ix)); (focus rfl)))
   | refine T.s ?_
   | ((first | refine goB (fun h => ?_) (fun h => ?_) | refine AB.dec (fun h => ?_) (fun h => ?_) | refine AB.gen (fun h => ?_) (fun h => ?_)) <;> try (exfalso; omega))
   | refine LFresh.mk fun r => ?_
   | (show SQ _ _ _ (.loop _) _ _ _; first | (apply goO tQ [] 3 (S := Nat × Nm) [0, 1, 2, 3] (fun (i, q) => ⟨[(9, .vw q 0 i 15), (10, .int .i64 i)], [(p, dice t (hdsR t a i).2), (q, ⟨65, (hdsR t a i).1.flatMap Hd.cs⟩)], i ≤ fl, fl - i⟩) ((0, _)) (by rfl); (focus ((repeat' first | exact trivial | (refine And.intro ?_ ?_) | exact LB.nil | (with_reducible exact LB.refl) | (apply LB.cons; (repeat first | refine goH ?_ | apply LH.here | apply LH.next); refine And.intro ?_ ?_; (focus (try (first | (with_reducible rfl) | (refine congrArg (Pl.mk _) ?_; (first | (with_reducible rfl) | exact hds_app _ _ _ | exact bs_app2 _ _ _ | exact bs_app _ _ | rfl)) | rfl | (with_reducible refine congrArg (Pl.mk _) ?_))))) | assumption | (exact pq_nf (by assumption) (by assumption) (one_f (by assumption))) | (exact pq_ng (by assumption) (by assumption) (one_t (by assumption))) | (exact pq_kind (by assumption) (by have := hq3 x; omega)) | (exact hds_kind _ _ _) | (exact hds_len _ _ _) | (rw [List.length_set]; assumption) | (exact hq _) | (exact hq2 _) | (first | (focus (apply Eq.trans; (conv => lhs; whnf); (conv => rhs; whnf); done)) | rfl | ((conv => lhs; whnf); first | rfl | (refine congrArg (AV.int _) ?_; (exact T.num)) | (refine congrArg AV.bool ?_; (exact T.num)) | (refine vwc ?_; first | (exact T.num) | (first | (with_reducible rfl) | exact hds_app _ _ _ | exact bs_app2 _ _ _ | exact bs_app _ _ | rfl)) | (refine sl_congr ?_ ?_ <;> first | (exact T.num) | (first | (with_reducible rfl) | exact hds_app _ _ _ | exact bs_app2 _ _ _ | exact bs_app _ _ | rfl)) | (first | (with_reducible rfl) | exact hds_app _ _ _ | exact bs_app2 _ _ _ | exact bs_app _ _ | rfl))) | (exact T.num) | (dsimp only; (exact T.num)) | (first | (with_reducible rfl) | exact hds_app _ _ _ | exact bs_app2 _ _ _ | exact bs_app _ _ | rfl)); done)); rintro ⟨i, q⟩ hok; (try dsimp only at hok); (repeat (have hk := And.left hok; replace hok := And.right hok))) | (apply goO tQ [] 8 (S := Nat × Pq × Nm × Nm) [0, 1, 3] (fun (n, x, q, r) => ⟨[(9, .vw q 0 fl 15), (11, .vw r 0 x.bs.length 1), (12, .int .i64 n)], [(p, dice t x.a), (q, ⟨65, x.hs.flatMap Hd.cs⟩), (r, ⟨33, x.bs.map bv⟩)], n ≤ 101 ∧ x.hs.length = fl ∧ (∀ y ∈ x.hs, kindR y) ∧ (0 ≤ nextR t x.a fl) ∧ nextR t x.a fl < fl ∧ x.bs.length ≤ 1000 - 2 * n ∧ pqI t fl false n x = pksR t a fl cnt false, n⟩) ((pksN t a fl cnt, ⟨(hdsR t a fl).1, [], nextA t (hdsR t a fl).2⟩, _, _)) (by rfl); (focus ((repeat' first | exact trivial | (refine And.intro ?_ ?_) | exact LB.nil | (with_reducible exact LB.refl) | (apply LB.cons; (repeat first | refine goH ?_ | apply LH.here | apply LH.next); refine And.intro ?_ ?_; (focus (try (first | (with_reducible rfl) | (refine congrArg (Pl.mk _) ?_; (first | (with_reducible rfl) | exact hds_app _ _ _ | exact bs_app2 _ _ _ | exact bs_app _ _ | rfl)) | rfl | (with_reducible refine congrArg (Pl.mk _) ?_))))) | assumption | (exact pq_nf (by assumption) (by assumption) (one_f (by assumption))) | (exact pq_ng (by assumption) (by assumption) (one_t (by assumption))) | (exact pq_kind (by assumption) (by have := hq3 x; omega)) | (exact hds_kind _ _ _) | (exact hds_len _ _ _) | (rw [List.length_set]; assumption) | (exact hq _) | (exact hq2 _) | (first | (focus (apply Eq.trans; (conv => lhs; whnf); (conv => rhs; whnf); done)) | rfl | ((conv => lhs; whnf); first | rfl | (refine congrArg (AV.int _) ?_; (exact T.num)) | (refine congrArg AV.bool ?_; (exact T.num)) | (refine vwc ?_; first | (exact T.num) | (first | (with_reducible rfl) | exact hds_app _ _ _ | exact bs_app2 _ _ _ | exact bs_app _ _ | rfl)) | (refine sl_congr ?_ ?_ <;> first | (exact T.num) | (first | (with_reducible rfl) | exact hds_app _ _ _ | exact bs_app2 _ _ _ | exact bs_app _ _ | rfl)) | (first | (with_reducible rfl) | exact hds_app _ _ _ | exact bs_app2 _ _ _ | exact bs_app _ _ | rfl))) | (exact T.num) | (dsimp only; (exact T.num)) | (first | (with_reducible rfl) | exact hds_app _ _ _ | exact bs_app2 _ _ _ | exact bs_app _ _ | rfl)); done)); rintro ⟨n, x, q, r⟩ hok; (try dsimp only at hok); (repeat (have hk := And.left hok; replace hok := And.right hok))))
   | (show SQ _ _ _ _ _ _ _; first | refine SQ.adopt 9 15 65 (by rfl) fun q => ?_ | refine SQ.adopt 11 1 33 (by rfl) fun q => ?_ | refine gX 11 [4, 6] [0, 1, 2, 3, 4, 5, 6, 7, 8, 9, 10] [p] ?_)
   | (show AtL _ _ _ _ _ _ _ _ _ _; first | (apply AtL.mk' (id := 3) (S := Nat × Nm) ((i + 1, _)); (repeat' first | exact trivial | (refine And.intro ?_ ?_) | exact LB.nil | (with_reducible exact LB.refl) | (apply LB.cons; (repeat first | refine goH ?_ | apply LH.here | apply LH.next); refine And.intro ?_ ?_; (focus (try (first | (with_reducible rfl) | (refine congrArg (Pl.mk _) ?_; (first | (with_reducible rfl) | exact hds_app _ _ _ | exact bs_app2 _ _ _ | exact bs_app _ _ | rfl)) | rfl | (with_reducible refine congrArg (Pl.mk _) ?_))))) | assumption | (exact pq_nf (by assumption) (by assumption) (one_f (by assumption))) | (exact pq_ng (by assumption) (by assumption) (one_t (by assumption))) | (exact pq_kind (by assumption) (by have := hq3 x; omega)) | (exact hds_kind _ _ _) | (exact hds_len _ _ _) | (rw [List.length_set]; assumption) | (exact hq _) | (exact hq2 _) | (first | (focus (apply Eq.trans; (conv => lhs; whnf); (conv => rhs; whnf); done)) | rfl | ((conv => lhs; whnf); first | rfl | (refine congrArg (AV.int _) ?_; (exact T.num)) | (refine congrArg AV.bool ?_; (exact T.num)) | (refine vwc ?_; first | (exact T.num) | (first | (with_reducible rfl) | exact hds_app _ _ _ | exact bs_app2 _ _ _ | exact bs_app _ _ | rfl)) | (refine sl_congr ?_ ?_ <;> first | (exact T.num) | (first | (with_reducible rfl) | exact hds_app _ _ _ | exact bs_app2 _ _ _ | exact bs_app _ _ | rfl)) | (first | (with_reducible rfl) | exact hds_app _ _ _ | exact bs_app2 _ _ _ | exact bs_app _ _ | rfl))) | (exact T.num) | (dsimp only; (exact T.num)) | (first | (with_reducible rfl) | exact hds_app _ _ _ | exact bs_app2 _ _ _ | exact bs_app _ _ | rfl)); done) | (apply AtL.mk' (id := 8) (S := Nat × Pq × Nm × Nm) ((n - 1, ⟨x.hs.set (pqK t fl x) (pqF t fl false x).1, x.bs ++ [pktL (pqH t fl x) (pqP t x)] ++ [someR t (nextA t (pqF t fl false x).2) 40], someA t (nextA t (pqF t fl false x).2) 40⟩, _, _)); (repeat' first | exact trivial | (refine And.intro ?_ ?_) | exact LB.nil | (with_reducible exact LB.refl) | (apply LB.cons; (repeat first | refine goH ?_ | apply LH.here | apply LH.next); refine And.intro ?_ ?_; (focus (try (first | (with_reducible rfl) | (refine congrArg (Pl.mk _) ?_; (first | (with_reducible rfl) | exact hds_app _ _ _ | exact bs_app2 _ _ _ | exact bs_app _ _ | rfl)) | rfl | (with_reducible refine congrArg (Pl.mk _) ?_))))) | assumption | (exact pq_nf (by assumption) (by assumption) (one_f (by assumption))) | (exact pq_ng (by assumption) (by assumption) (one_t (by assumption))) | (exact pq_kind (by assumption) (by have := hq3 x; omega)) | (exact hds_kind _ _ _) | (exact hds_len _ _ _) | (rw [List.length_set]; assumption) | (exact hq _) | (exact hq2 _) | (first | (focus (apply Eq.trans; (conv => lhs; whnf); (conv => rhs; whnf); done)) | rfl | ((conv => lhs; whnf); first | rfl | (refine congrArg (AV.int _) ?_; (exact T.num)) | (refine congrArg AV.bool ?_; (exact T.num)) | (refine vwc ?_; first | (exact T.num) | (first | (with_reducible rfl) | exact hds_app _ _ _ | exact bs_app2 _ _ _ | exact bs_app _ _ | rfl)) | (refine sl_congr ?_ ?_ <;> first | (exact T.num) | (first | (with_reducible rfl) | exact hds_app _ _ _ | exact bs_app2 _ _ _ | exact bs_app _ _ | rfl)) | (first | (with_reducible rfl) | exact hds_app _ _ _ | exact bs_app2 _ _ _ | exact bs_app _ _ | rfl))) | (exact T.num) | (dsimp only; (exact T.num)) | (first | (with_reducible rfl) | exact hds_app _ _ _ | exact bs_app2 _ _ _ | exact bs_app _ _ | rfl)); done) | (apply AtL.mk' (id := 8) (S := Nat × Pq × Nm × Nm) ((n - 1, ⟨x.hs.set (pqK t fl x) (pqF t fl false x).1, x.bs ++ [pktL (pqH t fl x) (pqP t x)], nextA t (pqF t fl false x).2⟩, _, _)); (repeat' first | exact trivial | (refine And.intro ?_ ?_) | exact LB.nil | (with_reducible exact LB.refl) | (apply LB.cons; (repeat first | refine goH ?_ | apply LH.here | apply LH.next); refine And.intro ?_ ?_; (focus (try (first | (with_reducible rfl) | (refine congrArg (Pl.mk _) ?_; (first | (with_reducible rfl) | exact hds_app _ _ _ | exact bs_app2 _ _ _ | exact bs_app _ _ | rfl)) | rfl | (with_reducible refine congrArg (Pl.mk _) ?_))))) | assumption | (exact pq_nf (by assumption) (by assumption) (one_f (by assumption))) | (exact pq_ng (by assumption) (by assumption) (one_t (by assumption))) | (exact pq_kind (by assumption) (by have := hq3 x; omega)) | (exact hds_kind _ _ _) | (exact hds_len _ _ _) | (rw [List.length_set]; assumption) | (exact hq _) | (exact hq2 _) | (first | (focus (apply Eq.trans; (conv => lhs; whnf); (conv => rhs; whnf); done)) | rfl | ((conv => lhs; whnf); first | rfl | (refine congrArg (AV.int _) ?_; (exact T.num)) | (refine congrArg AV.bool ?_; (exact T.num)) | (refine vwc ?_; first | (exact T.num) | (first | (with_reducible rfl) | exact hds_app _ _ _ | exact bs_app2 _ _ _ | exact bs_app _ _ | rfl)) | (refine sl_congr ?_ ?_ <;> first | (exact T.num) | (first | (with_reducible rfl) | exact hds_app _ _ _ | exact bs_app2 _ _ _ | exact bs_app _ _ | rfl)) | (first | (with_reducible rfl) | exact hds_app _ _ _ | exact bs_app2 _ _ _ | exact bs_app _ _ | rfl))) | (exact T.num) | (dsimp only; (exact T.num)) | (first | (with_reducible rfl) | exact hds_app _ _ _ | exact bs_app2 _ _ _ | exact bs_app _ _ | rfl)); done) | (apply AtL.mk' (id := 3) (S := Nat × Nm) ((i + 1, _)); (repeat' first | exact trivial | (refine And.intro ?_ ?_) | exact LB.nil | (with_reducible exact LB.refl) | (apply LB.cons; (repeat first | refine goH ?_ | apply LH.here | apply LH.next); refine And.intro ?_ ?_; (focus (try (first | (with_reducible rfl) | (refine congrArg (Pl.mk _) ?_; (first | (with_reducible rfl) | exact hds_app _ _ _ | exact bs_app2 _ _ _ | exact bs_app _ _ | rfl)) | rfl | (with_reducible refine congrArg (Pl.mk _) ?_))))) | assumption | (exact pq_nf (by assumption) (by assumption) (one_f (by assumption))) | (exact pq_ng (by assumption) (by assumption) (one_t (by assumption))) | (exact pq_kind (by assumption) (by have := hq3 x; omega)) | (exact hds_kind _ _ _) | (exact hds_len _ _ _) | (rw [List.length_set]; assumption) | (exact hq _) | (exact hq2 _) | (first | (focus (apply Eq.trans; (conv => lhs; whnf); (conv => rhs; whnf); done)) | rfl | ((conv => lhs; whnf); first | rfl | (refine congrArg (AV.int _) ?_; (exact T.num)) | (refine congrArg AV.bool ?_; (exact T.num)) | (refine vwc ?_; first | (exact T.num) | (first | (with_reducible rfl) | exact hds_app _ _ _ | exact bs_app2 _ _ _ | exact bs_app _ _ | rfl)) | (refine sl_congr ?_ ?_ <;> first | (exact T.num) | (first | (with_reducible rfl) | exact hds_app _ _ _ | exact bs_app2 _ _ _ | exact bs_app _ _ | rfl)) | (first | (with_reducible rfl) | exact hds_app _ _ _ | exact bs_app2 _ _ _ | exact bs_app _ _ | rfl))) | (exact T.num) | (dsimp only; (exact T.num)) | (first | (with_reducible rfl) | exact hds_app _ _ _ | exact bs_app2 _ _ _ | exact bs_app _ _ | rfl))) | (apply AtL.mk' (id := 8) (S := Nat × Pq × Nm × Nm) ((n - 1, ⟨x.hs.set (pqK t fl x) (pqF t fl false x).1, x.bs ++ [pktL (pqH t fl x) (pqP t x)] ++ [someR t (nextA t (pqF t fl false x).2) 40], someA t (nextA t (pqF t fl false x).2) 40⟩, _, _)); (repeat' first | exact trivial | (refine And.intro ?_ ?_) | exact LB.nil | (with_reducible exact LB.refl) | (apply LB.cons; (repeat first | refine goH ?_ | apply LH.here | apply LH.next); refine And.intro ?_ ?_; (focus (try (first | (with_reducible rfl) | (refine congrArg (Pl.mk _) ?_; (first | (with_reducible rfl) | exact hds_app _ _ _ | exact bs_app2 _ _ _ | exact bs_app _ _ | rfl)) | rfl | (with_reducible refine congrArg (Pl.mk _) ?_))))) | assumption | (exact pq_nf (by assumption) (by assumption) (one_f (by assumption))) | (exact pq_ng (by assumption) (by assumption) (one_t (by assumption))) | (exact pq_kind (by assumption) (by have := hq3 x; omega)) | (exact hds_kind _ _ _) | (exact hds_len _ _ _) | (rw [List.length_set]; assumption) | (exact hq _) | (exact hq2 _) | (first | (focus (apply Eq.trans; (conv => lhs; whnf); (conv => rhs; whnf); done)) | rfl | ((conv => lhs; whnf); first | rfl | (refine congrArg (AV.int _) ?_; (exact T.num)) | (refine congrArg AV.bool ?_; (exact T.num)) | (refine vwc ?_; first | (exact T.num) | (first | (with_reducible rfl) | exact hds_app _ _ _ | exact bs_app2 _ _ _ | exact bs_app _ _ | rfl)) | (refine sl_congr ?_ ?_ <;> first | (exact T.num) | (first | (with_reducible rfl) | exact hds_app _ _ _ | exact bs_app2 _ _ _ | exact bs_app _ _ | rfl)) | (first | (with_reducible rfl) | exact hds_app _ _ _ | exact bs_app2 _ _ _ | exact bs_app _ _ | rfl))) | (exact T.num) | (dsimp only; (exact T.num)) | (first | (with_reducible rfl) | exact hds_app _ _ _ | exact bs_app2 _ _ _ | exact bs_app _ _ | rfl))) | (apply AtL.mk' (id := 8) (S := Nat × Pq × Nm × Nm) ((n - 1, ⟨x.hs.set (pqK t fl x) (pqF t fl false x).1, x.bs ++ [pktL (pqH t fl x) (pqP t x)], nextA t (pqF t fl false x).2⟩, _, _)); (repeat' first | exact trivial | (refine And.intro ?_ ?_) | exact LB.nil | (with_reducible exact LB.refl) | (apply LB.cons; (repeat first | refine goH ?_ | apply LH.here | apply LH.next); refine And.intro ?_ ?_; (focus (try (first | (with_reducible rfl) | (refine congrArg (Pl.mk _) ?_; (first | (with_reducible rfl) | exact hds_app _ _ _ | exact bs_app2 _ _ _ | exact bs_app _ _ | rfl)) | rfl | (with_reducible refine congrArg (Pl.mk _) ?_))))) | assumption | (exact pq_nf (by assumption) (by assumption) (one_f (by assumption))) | (exact pq_ng (by assumption) (by assumption) (one_t (by assumption))) | (exact pq_kind (by assumption) (by have := hq3 x; omega)) | (exact hds_kind _ _ _) | (exact hds_len _ _ _) | (rw [List.length_set]; assumption) | (exact hq _) | (exact hq2 _) | (first | (focus (apply Eq.trans; (conv => lhs; whnf); (conv => rhs; whnf); done)) | rfl | ((conv => lhs; whnf); first | rfl | (refine congrArg (AV.int _) ?_; (exact T.num)) | (refine congrArg AV.bool ?_; (exact T.num)) | (refine vwc ?_; first | (exact T.num) | (first | (with_reducible rfl) | exact hds_app _ _ _ | exact bs_app2 _ _ _ | exact bs_app _ _ | rfl)) | (refine sl_congr ?_ ?_ <;> first | (exact T.num) | (first | (with_reducible rfl) | exact hds_app _ _ _ | exact bs_app2 _ _ _ | exact bs_app _ _ | rfl)) | (first | (with_reducible rfl) | exact hds_app _ _ _ | exact bs_app2 _ _ _ | exact bs_app _ _ | rfl))) | (exact T.num) | (dsimp only; (exact T.num)) | (first | (with_reducible rfl) | exact hds_app _ _ _ | exact bs_app2 _ _ _ | exact bs_app _ _ | rfl))))
   | exact T.z
   | fail) <;> conv => whnf)
 all_goals (try dsimp only)
 all_goals first
   | (rw [← pq_0 (x := x) (n := n) (fl := (fl : Int)) (reg := false) (t := t) (R := pksR t a fl cnt false) (by assumption) (by assumption)]; refine RL.rowBB ?_; (repeat first | refine goH ?_ | apply LH.here | apply LH.next); refine ⟨rfl, rfl, ?_⟩; (repeat' first | exact LB.nil | (with_reducible exact LB.refl) | (apply LB.cons; (repeat first | refine goH ?_ | apply LH.here | apply LH.next); refine And.intro ?_ ?_; (focus (try (first | (with_reducible rfl) | (refine congrArg (Pl.mk _) ?_; (first | rfl | (simp; done))) | rfl | (with_reducible refine congrArg (Pl.mk _) ?_)))))))
   | trace_state
theorem packets_c (t : List Int) (a : Nat) (fl : Nat) (cnt : Int) (reg : Bool) (h0 : 1 ≤ fl) (h1 : fl ≤ 10) (h2 : 0 ≤ cnt) (h3 : cnt ≤ 100) (ht : t.length ≤ 400) (p : Nm) : LP Tryz.prog G 19 [.ptr p 0, iAV fl, iAV cnt, .bool reg] [(p, dice t a)] (fun _ => (bbv (pksR t a fl cnt reg).bs, [(p, dice t (pksR t a fl cnt reg).a)])) := by
 cases reg
 · exact packets_f t a fl cnt h0 h1 h2 h3 ht p
 · exact packets_t t a fl cnt h0 h1 h2 h3 ht p
theorem pkt_len (h : Hd) (p : List UInt8) : 28 ≤ (pktL h p).length ∧ (pktL h p).length ≤ 40 + p.length := by
 have h1 : (pkT h).length = 0 ∨ (pkT h).length = 12 := by unfold pkT; split <;> simp
 unfold pktL
 simp only [List.length_append, st2_len, pk20_len, putBlen]
 omega
def sizedP (b : List UInt8) : Prop := b ≠ [] ∧ b.length ≤ 1500
theorem pqS_sized (t : List Int) (fl : Int) (reg : Bool) (x : Pq) (h : ∀ b ∈ x.bs, sizedP b) : ∀ b ∈ (pqS t fl reg x).bs, sizedP b := by
 have h1 : sizedP (pktL (pqH t fl x) (pqP t x)) := by
   have := pkt_len (pqH t fl x) (pqP t x)
   have h2 := nextR_lt t (nextA t x.a) (iarith .add .i64 6 1) (by decide) (by decide)
   have e : iarith .add .i64 6 1 = 7 := rfl
   have h3 : (pqP t x).length ≤ 6 := by unfold pqP manyR; rw [bytesL_len]; omega
   exact ⟨fun e => by rw [e] at this; simp at this, by omega⟩
 have h2 : ∀ a, sizedP (someR t a 40) := fun a => by
   have h2 := nextR_lt t (adv t a 1) (iarith .add .i64 (iarith .sub .i64 40 1) 1) (by decide) (by decide)
   have e : iarith .add .i64 (iarith .sub .i64 40 1) 1 = 40 := rfl
   unfold someR
   refine ⟨fun e => (by cases e), ?_⟩
   rw [List.length_cons, bytesL_len]
   unfold manyR
   omega
 unfold pqS
 (repeat' split) <;> intro b hb <;> simp only [List.mem_append, List.mem_singleton] at hb
 · rcases hb with hb | rfl
   · exact h b hb
   · exact h1
 · rcases hb with (hb | rfl) | rfl
   · exact h b hb
   · exact h1
   · exact h2 _
 · rcases hb with hb | rfl
   · exact h b hb
   · exact h1
theorem pqI_sized (t : List Int) (fl : Int) (reg : Bool) : ∀ (n : Nat) (x : Pq), (∀ b ∈ x.bs, sizedP b) → ∀ b ∈ (pqI t fl reg n x).bs, sizedP b
 | 0, _, h => h
 | n + 1, x, h => pqI_sized t fl reg n _ (pqS_sized t fl reg x h)
theorem pks_sized (t : List Int) (a fl : Nat) (cnt : Int) (reg : Bool) : ∀ b ∈ (pksR t a fl cnt reg).bs, sizedP b := pqI_sized t fl reg _ _ fun b hb => by cases hb
theorem pqI_len (t : List Int) (fl : Int) (reg : Bool) : ∀ (n : Nat) (x : Pq), (pqI t fl reg n x).bs.length ≤ x.bs.length + 2 * n
 | 0, _ => by simp [pqI]
 | n + 1, x => by
   have h1 := pqI_len t fl reg n (pqS t fl reg x)
   have h2 : (pqS t fl reg x).bs.length ≤ x.bs.length + 2 := by unfold pqS; (repeat' split) <;> simp
   show (pqI t fl reg n (pqS t fl reg x)).bs.length ≤ _
   omega
theorem pks_len (t : List Int) (a fl : Nat) (cnt : Int) (reg : Bool) (h2 : 0 ≤ cnt) (h3 : cnt ≤ 100) : (pksR t a fl cnt reg).bs.length ≤ 202 := by
 have h1 := pqI_len t fl reg (pksN t a fl cnt) ⟨(hdsR t a fl).1, [], nextA t (hdsR t a fl).2⟩
 have hm : iarith .add .i64 cnt 1 = cnt + 1 := by (exact T.num)
 have hb := nextR_lt t (hdsR t a fl).2 (iarith .add .i64 cnt 1) (by omega) (by omega)
 have hN : pksN t a fl cnt ≤ 101 := by unfold pksN; omega
 unfold pksR
 simp only [List.length_nil] at h1
 omega
attribute [irreducible] pksR
end Go.Proofs.YtkfpgdckdmlhkaaGreatDoor
