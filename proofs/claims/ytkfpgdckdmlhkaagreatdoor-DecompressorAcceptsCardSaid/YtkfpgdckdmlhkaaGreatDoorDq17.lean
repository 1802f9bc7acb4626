/-
  Contracts of the functions that the laws reach.
-/
import Derived.Test.YtkfpgdckdmlhkaaGreatDoorDq01
import Derived.Test.YtkfpgdckdmlhkaaGreatDoorDq02
import Derived.Test.YtkfpgdckdmlhkaaGreatDoorDq03
import Derived.Test.YtkfpgdckdmlhkaaGreatDoorDq04
import Derived.Test.YtkfpgdckdmlhkaaGreatDoorDq05
import Derived.Test.YtkfpgdckdmlhkaaGreatDoorDq06
import Derived.Test.YtkfpgdckdmlhkaaGreatDoorDq07
import Derived.Test.YtkfpgdckdmlhkaaGreatDoorDq08
import Derived.Test.YtkfpgdckdmlhkaaGreatDoorDq10
import Derived.Test.YtkfpgdckdmlhkaaGreatDoorDq14
import Derived.Test.YtkfpgdckdmlhkaaGreatDoorDq15
import Derived.Test.YtkfpgdckdmlhkaaGreatDoorDq16
set_option maxHeartbeats 8000000
set_option linter.all false
namespace Go.Proofs.YtkfpgdckdmlhkaaGreatDoor
open Go.RowKit
variable {G : Nat → AV}
def vG (m w : Int) (s : Sn) : Prop := 1 ≤ s.rf.length ∧ (s.rf.length : Int) ≤ vz m w ∧ (0 ≤ s.ser ∧ s.ser ≤ s.rf.length) ∧ (0 ≤ s.full ∧ s.full ≤ w) ∧ (0 ≤ s.refr ∧ s.refr ≤ w) ∧ ¬ (0 < s.full ∧ 0 < s.refr) ∧ (0 ≤ s.sin ∧ s.sin ≤ 32) ∧ (0 ≤ s.lng ∧ s.lng ≤ 3)
def wV (s : Sn) (r : Hd) : Bool := r.ok && qA r s.fst
def endR (s : Sn) : Bool := decide (s.fst.k = 2 ∨ s.dy = Dy.z)
theorem inR_iff {n m : Int} : inR n m = true ↔ 0 ≤ n ∧ n ≤ m := in_iff n m
theorem Sn.ok_e {m w : Int} {s : Sn} (h : s.act = true) : s.ok m w = true ↔ vG m w s ∧ s.dy.ok = true ∧ s.rf.all (wV s) = true ∧ endR s = true := by
 unfold Sn.ok vG wV endR
 rw [if_pos h]
 simp only [Bool.and_eq_true, decide_eq_true_eq, inR_iff]
 constructor
 · rintro ⟨⟨a1, a2⟩, a3, a4, a5, a6, a7, a8, a9, a10, a11⟩
   exact ⟨⟨a1, a2, a3, a4, a5, a6, a7, a8⟩, a9, a11, a10⟩
 · rintro ⟨⟨a1, a2, a3, a4, a5, a6, a7, a8⟩, a9, a11, a10⟩
   exact ⟨⟨a1, a2⟩, a3, a4, a5, a6, a7, a8, a9, a10, a11⟩
theorem Sn.ok_f {m w : Int} {s : Sn} (h : s.act = true) (hn : ¬ (vG m w s ∧ s.dy.ok = true ∧ s.rf.all (wV s) = true ∧ endR s = true)) : s.ok m w = false := by
 rw [← Sn.ok_e h] at hn
 simpa using hn
theorem Dy.eqs (a b : Dy) : qU [(a.st, b.st), (a.fo, b.fo)] = decide (a = b) := by
 obtain ⟨a1, a2⟩ := a
 obtain ⟨b1, b2⟩ := b
 rw [Bool.eq_iff_iff]
 simp [qU]
theorem emptyR_e (s : Sn) : wJ s = (decide (s.full = 0) && (decide (s.refr = 0) && (decide (s.ser = 0) && (decide (s.sin = 0) && (decide (s.lng = 0) && (decide (s.dy = Dy.z) && decide ((s.rf.length : Int) = 0))))))) := by
 rw [Bool.eq_iff_iff]
 simp [wJ]
theorem Dy.eqz (d : Dy) : decide (d = Dy.z) = qU [(d.st, 0), (d.fo, 0)] := (Dy.eqs d Dy.z).symm
theorem r9ctx_n (c : Co) (s : Sn) (h0 : s.act = false) : LP Tryz.prog G 83 [c.av, s.av] [] (fun _ => (.bool (s.ok c.m c.w), [])) := by
 rw [show s.ok c.m c.w = wJ s by unfold Sn.ok; rw [if_neg (by rw [h0]; decide)], emptyR_e, Dy.eqz]
 refine goW [] Tryz.func83 rfl ?_
 conv => whnf
 repeat' ((first | exact Nm.b 0 | refine T.s ?_ | ((first | apply goB | apply AB.dec | apply AB.gen) <;> intro h <;> try (exfalso; omega)) | refine LQ.mk fun r => ?_ | (show SQ _ _ _ _ _ _ _; first | refine gX 9 [] [0, 1, 2, 3, 4, 5, 6, 7, 8, 9, 10, 11, 12, 13, 14, 15, 16, 17, 18, 19] [] ?_) | exact T.z | fail) <;> conv => whnf)
 all_goals (try dsimp only)
 all_goals
   (show RL _ _ _; refine goR ?_)
   refine congrArg AV.bool ?_
   simp_all [qu]
   try (rw [Bool.eq_iff_iff]; simp)
attribute [local irreducible] qA
theorem refG_y {s : Sn} {r : Hd} (h1 : r.ok = true) (h2 : qA r s.fst = true) : wV s r = true := by unfold wV; rw [h1, h2]; rfl
theorem refG_n1 {s : Sn} {r : Hd} (h1 : r.ok = false) : wV s r = false := by unfold wV; rw [h1]; rfl
theorem refG_n2 {s : Sn} {r : Hd} (h2 : qA r s.fst = false) : wV s r = false := by unfold wV; rw [h2]; simp
theorem ok_bad {m w : Int} {s : Sn} (h : s.act = true) (i : Nat) (hi : i < s.rf.length) (hb : wV s (s.rf.getD i Hd.z) = false) : s.ok m w = false :=
 Sn.ok_f h fun hh => by rw [zE s.rf i Hd.z hi hb] at hh; exact Bool.noConfusion hh.2.2.1
theorem ok_rng {m w : Int} {s : Sn} (h : s.act = true) (hr : ¬ vG m w s) : s.ok m w = false := Sn.ok_f h fun hh => hr hh.1
theorem ok_dy {m w : Int} {s : Sn} (h : s.act = true) (hr : s.dy.ok = false) : s.ok m w = false := Sn.ok_f h fun hh => by rw [hr] at hh; exact Bool.noConfusion hh.2.1
theorem ok_end {m w : Int} {s : Sn} (h : s.act = true) (h1 : vG m w s) (h2 : s.dy.ok = true) (h3 : s.rf.all (wV s) = true) : s.ok m w = endR s := by
 cases he : endR s with
 | true => exact (Sn.ok_e h).2 ⟨h1, h2, h3, he⟩
 | false => exact Sn.ok_f h fun hh => by rw [he] at hh; exact Bool.noConfusion hh.2.2.2
theorem endR_y {s : Sn} (h : s.fst.k = 2) : endR s = true := decide_eq_true (.inl h)
theorem endR_n {s : Sn} (h : ¬ s.fst.k = 2) : endR s = qU [(s.dy.st, 0), (s.dy.fo, 0)] := by
 rw [← Dy.eqz]
 unfold endR
 rw [Bool.eq_iff_iff]
 simp [h]
theorem fld0_le {l : List Hd} (h : 0 < l.length) : 1 ≤ (List.drop 0 (List.drop (Int.toNat 0 * 15) (l.flatMap Hd.cs))).length := fld_le (i := 0) (j := 0) Hd.cs_len (by omega) (by decide)
theorem r9ctx_t (c : Co) (s : Sn) (h0 : s.act = true) (hW : 1 ≤ c.w ∧ c.w ≤ 8) (hR : vG c.m c.w s) (hD : s.dy.ok = true) : LP Tryz.prog G 83 [c.av, s.av] [] (fun _ => (.bool (s.ok c.m c.w), [])) := by
 have hv := xS (G := G) s.dy
 rw [hD] at hv
 have hR2 := hR
 unfold vG vz at hR2
 obtain ⟨a1, a2, a3, a4, a5, a6, a7, a8⟩ := hR2
 have hl : s.rf.length ≤ 100 := by split at a2 <;> omega
 have a2' : c.m = 3 ∧ (s.rf.length : Int) ≤ 32 ∨ ¬ c.m = 3 ∧ (s.rf.length : Int) ≤ c.w := by split at a2 <;> omega
 clear a2
 have hz : ∀ i : Nat, LP Tryz.prog G 31 [(s.rf.getD i Hd.z).av, (s.rf.getD 0 Hd.z).av] [] (fun _ => (.bool (qA (s.rf.getD i Hd.z) s.fst), [])) := fun i => kG _ _
 refine goW [] Tryz.func83 rfl ?_
 conv => whnf
 repeat' ((first | exact Nm.b 0 | (refine And.intro ?_ ?_; (focus (first | exact xn Hd.cs_len (by assumption) | exact rec0_le (by omega) | exact fld0_le (by omega) | exact T.kx | exact T.side))) | (show LC _ _ _ _ _ _; first | refine LC.pure (hv) ?_ | refine LC.pure (zn (s.rf.getD i Hd.z)) ?_ | refine LC.pure (hz i) ?_ | refine goE ?_) | (show AC _ _ _; first | (refine AC.recd Hd.cs_len i Hd.z rfl rfl ?_ ?_; (focus omega)) | (refine AC.recd Hd.cs_len 0 Hd.z rfl rfl ?_ ?_; (focus omega)) | (refine AC.fld2 Hd.cs_len 0 0 Hd.z _ rfl (by decide) (by omega) rfl ?_)) | refine T.s ?_ | ((first | apply goB | apply AB.dec | apply AB.gen) <;> intro h <;> try (exfalso; omega)) | refine LQ.mk fun r => ?_ | (show SQ _ _ _ (.loop _) _ _ _; first | (apply goO tQ [] 7 (S := Nat × Nm × Nm) [5] (fun (i, a, b) => ⟨[(6, .int .i64 i), (2, .ptr a 0), (3, .ptr b 0)], [(a, ⟨41, [iAV c.m, iAV c.w, snv c.cx]⟩), (b, ⟨59, s.cs⟩)], i ≤ s.rf.length ∧ (s.rf.take i).all (wV s) = true, s.rf.length - i⟩) ((0, _, _)) (by rfl); (focus (all_goals (try exact KFF0); done)); rintro ⟨i, a, b⟩ ⟨hk, hok⟩)) | (show SQ _ _ _ _ _ _ _; first | refine gX 9 [] [0, 1, 2, 3, 4, 5, 6, 7, 8, 9, 10, 11, 12, 13, 14, 15, 16, 17, 18, 19] [] ?_) | (show AtL _ _ _ _ _ _ _ _ _ _; first | (apply AtL.mk' (id := 7) (S := Nat × Nm × Nm) ((i + 1, _, _)); all_goals (try exact KFF0); done) | (apply AtL.mk' (id := 7) (S := Nat × Nm × Nm) ((i + 1, _, _)); all_goals (try exact KFF0))) | exact T.z | fail) <;> conv => whnf)
 all_goals (try dsimp only)
 all_goals first
   | ((show RL _ _ _; refine goR ?_); rw [ok_bad h0 i (by omega) (refG_n1 (by assumption))])
   | ((show RL _ _ _; refine goR ?_); rw [ok_bad h0 i (by omega) (refG_n2 (by assumption))])
   | ((show RL _ _ _; refine goR ?_); rw [ok_end h0 hR hD (xt (by omega) hok), endR_y (by assumption)])
   | ((show RL _ _ _; refine goR ?_); rw [ok_end h0 hR hD (xt (by omega) hok), endR_n (by assumption)])
   | trace_state
theorem r9ctx_d (c : Co) (s : Sn) (h0 : s.act = true) (hD : s.dy.ok = false) : LP Tryz.prog G 83 [c.av, s.av] [] (fun _ => (.bool (s.ok c.m c.w), [])) := by
 have hv := xS (G := G) s.dy
 rw [hD] at hv
 rw [ok_dy h0 hD]
 refine goW [] Tryz.func83 rfl ?_
 conv => whnf
 repeat' ((first | exact Nm.b 0 | (show LC _ _ _ _ _ _; first | refine LC.pure (hv) ?_ | refine goE ?_) | refine T.s ?_ | ((first | apply goB | apply AB.dec | apply AB.gen) <;> intro h <;> try (exfalso; omega)) | refine LQ.mk fun r => ?_ | (show SQ _ _ _ _ _ _ _; first | refine gX 9 [] [0, 1, 2, 3, 4, 5, 6, 7, 8, 9, 10, 11, 12, 13, 14, 15, 16, 17, 18, 19] [] ?_) | exact T.z | fail) <;> conv => whnf)
 all_goals (try dsimp only)
 all_goals
   (show RL _ _ _; refine goR ?_)
   rfl
theorem r9ctx_r (c : Co) (s : Sn) (h0 : s.act = true) (hW : 1 ≤ c.w ∧ c.w ≤ 8) (hR : ¬ vG c.m c.w s) (hD : s.dy.ok = true) : LP Tryz.prog G 83 [c.av, s.av] [] (fun _ => (.bool (s.ok c.m c.w), [])) := by
 have hv := xS (G := G) s.dy
 rw [hD] at hv
 rw [ok_rng h0 hR]
 have hR2 : ¬ (1 ≤ s.rf.length ∧ (c.m = 3 ∧ (s.rf.length : Int) ≤ 32 ∨ ¬ c.m = 3 ∧ (s.rf.length : Int) ≤ c.w) ∧ (0 ≤ s.ser ∧ s.ser ≤ s.rf.length) ∧ (0 ≤ s.full ∧ s.full ≤ c.w) ∧ (0 ≤ s.refr ∧ s.refr ≤ c.w) ∧ ¬ (0 < s.full ∧ 0 < s.refr) ∧ (0 ≤ s.sin ∧ s.sin ≤ 32) ∧ (0 ≤ s.lng ∧ s.lng ≤ 3)) := by
   intro hh
   refine hR ⟨hh.1, ?_, hh.2.2⟩
   unfold vz
   split <;> omega
 clear hR
 refine goW [] Tryz.func83 rfl ?_
 conv => whnf
 repeat' ((first | exact Nm.b 0 | (show LC _ _ _ _ _ _; first | refine LC.pure (hv) ?_ | refine goE ?_) | refine T.s ?_ | ((first | apply goB | apply AB.dec | apply AB.gen) <;> intro h <;> try (exfalso; omega)) | refine LQ.mk fun r => ?_ | (show SQ _ _ _ (.loop _) _ _ _; first | (refine goL tQ [] 7 (S := Nat) [3, 5] (fun i => ⟨[(6, .int .i64 i)], [], False, s.rf.length - i⟩) (0) ?_; rintro i hok; (try dsimp only at hok))) | (show SQ _ _ _ _ _ _ _; first | refine gX 9 [] [0, 1, 2, 3, 4, 5, 6, 7, 8, 9, 10, 11, 12, 13, 14, 15, 16, 17, 18, 19] [] ?_) | (show AtL _ _ _ _ _ _ _ _ _ _; first | (show AtL 7 _ _ _ _ _ _ _ _ _; exact goN 7 (S := Nat) (i + 1)) | (apply AtL.mk' (id := 7) (S := Nat) (i + 1); all_goals (try exact KC12))) | exact T.z | fail) <;> conv => whnf)
 all_goals (try dsimp only)
 all_goals first
   | ((show RL _ _ _; refine goR ?_); rfl)
   | (exfalso; omega)
   | trace_state
theorem r9ctx_c (c : Co) (s : Sn) (hW : 1 ≤ c.w ∧ c.w ≤ 8) : LP Tryz.prog G 83 [c.av, s.av] [] (fun _ => (.bool (s.ok c.m c.w), [])) := by
 cases h0 : s.act with
 | false => exact r9ctx_n c s h0
 | true =>
   cases hD : s.dy.ok with
   | false => exact r9ctx_d c s h0 hD
   | true =>
     by_cases hR : vG c.m c.w s
     · exact r9ctx_t c s h0 hW hR hD
     · exact r9ctx_r c s h0 hW hR hD
end Go.Proofs.YtkfpgdckdmlhkaaGreatDoor
namespace Go.Proofs.YtkfpgdckdmlhkaaGreatDoor
open Go.RowKit
variable {G : Nat → AV}
def oksG (c : Co) (i : Nat) : Bool := (c.at i).ok c.m c.w && (List.range i).all fun k => !zF (c.at i) (c.at k)
theorem oks_e (c : Co) (n : Nat) : c.oks n = (List.range n).all (oksG c) := rfl
theorem wU {g : Nat → Bool} (n : Nat) : (List.range (n + 1)).all g = ((List.range n).all g && g n) := by rw [List.range_succ, List.all_append]; simp
theorem rng_bad {g : Nat → Bool} {n : Nat} (i : Nat) (hi : i < n) (hb : g i = false) : (List.range n).all g = false := by
 cases hc : (List.range n).all g with
 | false => rfl
 | true =>
   rw [List.all_eq_true] at hc
   have := hc i (List.mem_range.2 hi)
   rw [hb] at this; cases this
theorem rng_get {g : Nat → Bool} {n i : Nat} (h : (List.range n).all g = true) (hi : i < n) : g i = true := List.all_eq_true.1 h i (List.mem_range.2 hi)
theorem yh {m w : Int} {s : Sn} (h : s.ok m w = true) (ha : s.act = true) : 0 < s.rf.length := by
 have := ((Sn.ok_e ha).1 h).1.1
 omega
theorem oks_rf {c : Co} {n : Nat} (h : c.oks n = true) (j : Nat) (hj : j < n) (ha : (c.cx.getD j Sn.z).act = true) : 0 < (c.cx.getD j Sn.z).rf.length := by
 have h1 := rng_get h hj
 simp only [Bool.and_eq_true] at h1
 exact yh h1.1 ha
theorem okc {c : Co} (h1 : jP c.m c.w = true) (h2 : c.cx.length = 16) (h3 : c.oks 16 = true) : c.ok = true := by unfold Co.ok; rw [h1, h3, decide_eq_true h2]; rfl
theorem okc_n {c : Co} (h3 : c.oks 16 = false) : c.ok = false := by unfold Co.ok; rw [h3]; simp
theorem alike_y {s t : Sn} (h1 : s.act = true) (h2 : t.act = true) (h3 : qA s.fst t.fst = true) : zF s t = true := by unfold zF; rw [h1, h2, h3]; rfl
theorem alike_n1 {s t : Sn} (h1 : s.act = false) : zF s t = false := by unfold zF; rw [h1]; rfl
theorem alike_n2 {s t : Sn} (h1 : t.act = false) : zF s t = false := by unfold zF; rw [h1]; simp
theorem alike_n3 {s t : Sn} (h1 : qA s.fst t.fst = false) : zF s t = false := by unfold zF; rw [h1]; simp
theorem rf_i (c : Co) (i : Nat) (h : (c.at i).ok c.m c.w = true) (ha : (c.cx.getD i Sn.z).act = true) : 0 < (c.cx.getD i Sn.z).rf.length := yh h ha
theorem rf_k (c : Co) (i k : Nat) (h : c.oks i = true) (hk : (k : Int) < (i : Int)) (ha : (c.cx.getD k Sn.z).act = true) : 0 < (c.cx.getD k Sn.z).rf.length := oks_rf h k (by omega) ha
theorem oks_next {c : Co} {i k : Nat} (h1 : c.oks i = true) (h2 : (c.at i).ok c.m c.w = true) (h3 : ((List.range k).all fun k => !zF (c.at i) (c.at k)) = true) (h4 : ¬ (k : Int) < (i : Int)) (h5 : k ≤ i) : c.oks (i + 1) = true := by
 obtain rfl : k = i := by omega
 rw [oks_e, wU, ← oks_e, h1]
 unfold oksG
 rw [h2, h3]
 rfl
theorem oksG_1 {c : Co} {i : Nat} (h : (c.at i).ok c.m c.w = false) : oksG c i = false := by unfold oksG; rw [h]; rfl
theorem oksG_2 {c : Co} {i k : Nat} (hk : (k : Int) < (i : Int)) (h : zF (c.at i) (c.at k) = true) : oksG c i = false := by
 unfold oksG
 rw [rng_bad k (by omega) (by rw [h]; rfl), Bool.and_false]
attribute [local irreducible] qA
theorem r9valid_t (c : Co) (hs : jP c.m c.w = true) (hl : c.cx.length = 16) : LP Tryz.prog G 43 [c.av] [] (fun _ => (.bool c.ok, [])) := by
 have hs2 := hs
 simp only [jP, decide_eq_true_eq] at hs2
 have hW : 1 ≤ c.w ∧ c.w ≤ 8 := ⟨hs2.2.2.1, hs2.2.2.2⟩
 have hctx : ∀ i : Nat, LP Tryz.prog G 83 [c.av, (c.cx.getD i Sn.z).av] [] (fun _ => (.bool ((c.at i).ok c.m c.w), [])) := fun i => r9ctx_c c _ hW
 have hsm : ∀ i k : Nat, LP Tryz.prog G 31 [((c.cx.getD i Sn.z).rf.getD 0 Hd.z).av, ((c.cx.getD k Sn.z).rf.getD 0 Hd.z).av] [] (fun _ => (.bool (qA (c.at i).fst (c.at k).fst), [])) := fun i k => kG _ _
 refine goW [] Tryz.func43 rfl ?_
 conv => whnf
 repeat' ((first | exact Nm.b 0 | (refine And.intro ?_ ?_; (focus (first | exact xn Sn.cs_len (by assumption) | exact fld_le Sn.cs_len (by assumption) (by decide) | exact fld_le Sn.cs_len (by omega) (by decide) | exact rec0_le (rf_i c i (by assumption) (by assumption)) | exact rec0_le (rf_k c i k (by assumption) (by assumption) (by assumption)) | exact Int.ofNat_lt.2 (rf_i c i (by assumption) (by assumption)) | exact Int.ofNat_lt.2 (rf_k c i k (by assumption) (by assumption) (by assumption)) | exact T.kx | exact T.side))) | (show LC _ _ _ _ _ _; first | refine LC.pure (hctx i) ?_ | refine LC.pure (hsm i k) ?_ | refine goE ?_) | (show AC _ _ _; first | (refine AC.recd Sn.cs_len i Sn.z rfl rfl ?_ ?_; (focus omega)) | (refine AC.fld Sn.cs_len i 0 Sn.z _ rfl (by decide) (by omega) rfl ?_) | (refine AC.fld Sn.cs_len k 0 Sn.z _ rfl (by decide) (by omega) rfl ?_) | (refine AC.fld2 Sn.cs_len i 8 Sn.z _ rfl (by decide) (by omega) rfl ?_) | (refine AC.fld2 Sn.cs_len k 8 Sn.z _ rfl (by decide) (by omega) rfl ?_) | (refine AC.recd Hd.cs_len 0 Hd.z rfl rfl (rf_i c i (by assumption) (by assumption)) ?_) | (refine AC.recd Hd.cs_len 0 Hd.z rfl rfl (rf_k c i k (by assumption) (by assumption) (by assumption)) ?_)) | refine T.s ?_ | ((first | apply goB | apply AB.dec | apply AB.gen) <;> intro h <;> try (exfalso; omega)) | refine LQ.mk fun r => ?_ | (show SQ _ _ _ (.loop _) _ _ _; first | (apply goO tQ [] 4 (S := Nat × Nm) [] (fun (i, a) => ⟨[(3, .int .i64 i), (1, .ptr a 0)], [(a, ⟨41, [iAV c.m, iAV c.w, snv c.cx]⟩)], i ≤ 16 ∧ c.oks i = true, 16 - i⟩) ((0, _)) (by rfl); (focus (all_goals (try exact KBE0); done)); rintro ⟨i, a⟩ ⟨hk, hok⟩) | (apply goO tQ [] 9 (S := Nat × Nm) [3] (fun (k, a) => ⟨[(4, .int .i64 k), (1, .ptr a 0)], [(a, ⟨41, [iAV c.m, iAV c.w, snv c.cx]⟩)], k ≤ i ∧ ((List.range k).all fun k => !zF (c.at i) (c.at k)) = true, i - k⟩) ((0, _)) (by rfl); (focus (all_goals (try exact KBE0); done)); rintro ⟨k, a⟩ ⟨hk, hok⟩)) | (show SQ _ _ _ _ _ _ _; first | refine gX 6 [] [0, 1, 2, 3, 4, 5, 6, 7] [] ?_ | refine gX 11 [] [0, 1, 2, 3, 4, 5, 6, 7, 8, 9, 10, 11, 12, 13, 14, 15, 16, 17, 18, 19, 20, 21, 22, 23, 24, 25, 26, 27, 28, 29, 30, 31, 32] [] ?_) | (show AtL _ _ _ _ _ _ _ _ _ _; first | (apply AtL.mk' (id := 4) (S := Nat × Nm) ((i + 1, _)); all_goals (try exact KBE0); done) | (apply AtL.mk' (id := 9) (S := Nat × Nm) ((k + 1, _)); all_goals (try exact KBE0); done) | (apply AtL.mk' (id := 4) (S := Nat × Nm) ((i + 1, _)); all_goals (try exact KBE0)) | (apply AtL.mk' (id := 9) (S := Nat × Nm) ((k + 1, _)); all_goals (try exact KBE0))) | exact T.z | fail) <;> conv => whnf)
 all_goals (try dsimp only)
 all_goals first
   | ((show RL _ _ _; refine goR ?_); rw [okc_n (rng_bad i (by omega) (oksG_1 (by assumption)))])
   | ((show RL _ _ _; refine goR ?_); rw [okc_n (rng_bad i (by omega) (oksG_2 (k := k) (by assumption) (alike_y (by assumption) (by assumption) (by assumption))))])
   | ((show RL _ _ _; refine goR ?_); obtain rfl : i = 16 := (by omega); rw [okc hs hl (by assumption)])
   | trace_state
theorem r9valid_n (c : Co) (hs : ¬ (jP c.m c.w = true ∧ c.cx.length = 16)) : LP Tryz.prog G 43 [c.av] [] (fun _ => (.bool c.ok, [])) := by
 have hf : c.ok = false := by
   unfold Co.ok
   cases h : jP c.m c.w with
   | false => rfl
   | true => rw [decide_eq_false (fun e => hs ⟨h, e⟩)]; rfl
 rw [hf]
 simp only [jP, decide_eq_true_eq] at hs
 refine goW [] Tryz.func43 rfl ?_
 conv => whnf
 repeat' ((first | exact Nm.b 0 | refine T.s ?_ | ((first | apply goB | apply AB.dec | apply AB.gen) <;> intro h <;> try (exfalso; omega)) | refine LQ.mk fun r => ?_ | (show SQ _ _ _ (.loop _) _ _ _; first | (refine goL tQ [] 4 (S := Nat) [1] (fun i => ⟨[(3, .int .i64 i)], [], False, 16 - i⟩) (0) ?_; rintro i hok; (try dsimp only at hok))) | (show SQ _ _ _ _ _ _ _; first | refine gX 6 [] [0, 1, 2, 3, 4, 5, 6, 7] [] ?_ | refine gX 11 [] [0, 1, 2, 3, 4, 5, 6, 7, 8, 9, 10, 11, 12, 13, 14, 15, 16, 17, 18, 19, 20, 21, 22, 23, 24, 25, 26, 27, 28, 29, 30, 31, 32] [] ?_) | (show AtL _ _ _ _ _ _ _ _ _ _; first | (show AtL 4 _ _ _ _ _ _ _ _ _; exact goN 4 (S := Nat) (i + 1)) | (apply AtL.mk' (id := 4) (S := Nat) (i + 1); all_goals (try exact KC12))) | exact T.z | fail) <;> conv => whnf)
 all_goals (try dsimp only)
 all_goals first
   | ((show RL _ _ _; refine goR ?_); rfl)
   | (exfalso; omega)
   | trace_state
theorem zO (c : Co) : LP Tryz.prog G 43 [c.av] [] (fun _ => (.bool c.ok, [])) := by
 by_cases hs : jP c.m c.w = true ∧ c.cx.length = 16
 · exact r9valid_t c hs.1 hs.2
 · exact r9valid_n c hs
end Go.Proofs.YtkfpgdckdmlhkaaGreatDoor
namespace Go.Proofs.YtkfpgdckdmlhkaaGreatDoor
open Go.RowKit
section
variable {P : Program} {G : Nat → AV} {N : Nat} {e : Env} {l : LS} {σ σ0 : q9} {w0 w : World} {a : Act}
theorem Rel.dummy (t : TypeId) (h : Rel G N e σ σ0 w0 a w) {k : Nat} (hk : σ (.v k) = none) : Rel G N e (upd σ (.v k) ⟨t, []⟩) σ0 w0 a w := by
 have hst : Stp σ w (upd σ (.v k) ⟨t, []⟩) w := Stp.forget _ _ w fun b hb => by rw [qj _ _ (by simp)]; exact hb
 refine ⟨h.n, h.d, fun x => (h.env x).mono hst, ⟨fun q c hq => ?_, fun m c hm => ?_, jH h.mem.fin _ _⟩, h.st.trans hst, h.glob.mono hst⟩
 · rw [qj _ _ (by simp)] at hq
   obtain ⟨cur, k1, k2, k3⟩ := h.mem.pl q c hq
   exact ⟨cur, k1, k2, fun i hi => (k3 i hi).mono hst⟩
 · by_cases hmk : m = k
   · subst hmk; rw [qE] at hm; cases hm; rfl
   · rw [qj _ _ (by simp; exact hmk)] at hm
     exact h.mem.vl m c hm
theorem SQ.dummy (t : TypeId) {c : Code} {Q : Exit → Env → LS → Prop} (h : ∀ q, SQ P G N c Q e ((q, ⟨t, []⟩) :: l)) : SQ P G N c Q e l := by
 refine ⟨fun φ hs => ⟨fun σ0 w0 a w hr => ?_⟩⟩
 obtain ⟨B, hB⟩ := hr.mem.fin
 have hk := hB B (Nat.le_refl _)
 exact ((h (.v B)).run φ (hs.new hk _)).run σ0 w0 a w (hr.dummy t hk)
theorem LFs.fm {α : Type} {F : List Nm} {f g : α → List AV} (h : ∀ x, LFs l F (f x) (g x)) : ∀ xs : List α, LFs l F (xs.flatMap f) (xs.flatMap g)
 | [] => trivial
 | x :: xs => by rw [List.flatMap_cons, List.flatMap_cons]; exact LFs.app (h x) (LFs.fm h xs)
theorem LFs.same {F : List Nm} : ∀ xs : List AV, LFs l F xs xs
 | [] => trivial
 | _ :: xs => ⟨.eq rfl, LFs.same xs⟩
end
open Go.RowKit
variable {G : Nat → AV}
theorem shapR_f {m w : Int} (h : ¬ (1 ≤ m ∧ m ≤ 3 ∧ 1 ≤ w ∧ w ≤ 8)) : cnewR m w = (Co.z, 3) := by
 unfold cnewR
 rw [if_neg]
 unfold jP
 simpa using h
theorem vL {m w : Int} (h : 1 ≤ m ∧ m ≤ 3 ∧ 1 ≤ w ∧ w ≤ 8) : cnewR m w = (⟨m, w, List.replicate 16 Sn.z⟩, 0) := by
 unfold cnewR
 rw [if_pos]
 unfold jP
 exact decide_eq_true h
def zsn : List AV := [.bool false, iAV 0, iAV 0, iAV 0, iAV 0, iAV 0, iAV 0, iAV 0, .nils]
theorem zsn_f {l : LS} {F : List Nm} : LFs l F zsn Sn.z.cs := ⟨.eq rfl, .eq rfl, .eq rfl, .eq rfl, .eq rfl, .eq rfl, .eq rfl, .eq rfl, LF.nils rfl rfl, trivial⟩
theorem RL.coz {e : Int} {l : LS} : RL (fun _ => (.tup [Co.z.av, iAV e], [])) (.tup [.agg [.int .i64 0, .int .i64 0, .nils], .int .i64 e]) l :=
 RL.frz [] (LF.tup (xs := [.agg [.int .i64 0, .int .i64 0, .nils], .int .i64 e]) (ys := [Co.z.av, iAV e]) ⟨LF.agg (xs := [.int .i64 0, .int .i64 0, .nils]) (ys := [iAV 0, iAV 0, snv []]) ⟨LF.eq rfl, LF.eq rfl, LF.nils rfl rfl, trivial⟩, LF.eq rfl, trivial⟩) LB.nil
theorem r9new_c (m w : Int) : LP Tryz.prog G 18 [iAV m, iAV w] [] (fun _ => (.tup [(cnewR m w).1.av, iAV (cnewR m w).2], [])) := by
 by_cases h : 1 ≤ m ∧ m ≤ 3 ∧ 1 ≤ w ∧ w ≤ 8
 · rw [vL h]
   refine goW [] Tryz.func18 rfl ?_
   conv => whnf
   repeat' ((first | (show AQ _ _; first | (refine AQ.eq (cs' := (List.replicate 16 ()).flatMap fun _ => zsn) rfl ?_)) | refine T.s ?_ | ((first | apply goB | apply AB.dec | apply AB.gen) <;> intro h <;> try (exfalso; omega)) | refine LQ.mk fun r => ?_ | exact T.z | fail) <;> conv => whnf)
   all_goals (try dsimp only)
   all_goals
     refine RL.frz [r] (LF.tup (xs := [.agg [.int .i64 m, .int .i64 w, .vw r 0 16 9], .int .i64 0]) (ys := [Co.av ⟨m, w, List.replicate 16 Sn.z⟩, iAV 0]) ⟨LF.agg (xs := [.int .i64 m, .int .i64 w, .vw r 0 16 9]) (ys := [iAV m, iAV w, snv (List.replicate 16 Sn.z)]) ⟨LF.eq rfl, LF.eq rfl, LF.rowN InL.here ?_, trivial⟩, LF.eq rfl, trivial⟩) ?_
     · (repeat first | refine goH ?_ | apply LH.here | apply LH.next)
       exact ⟨by decide, by kernel_rfl, by simp, by
         rw [show (List.replicate 16 Sn.z).flatMap Sn.cs = (List.replicate 16 ()).flatMap fun _ => Sn.z.cs by kernel_rfl]
         exact LFs.fm (fun _ => zsn_f) _⟩
     · (repeat first | refine goH ?_ | apply LH.here | apply LH.next)
       exact LB.nil
 · rw [shapR_f h]
   refine goW [] Tryz.func18 rfl ?_
   conv => whnf
   repeat' ((first | (show AQ _ _; first | (refine AQ.eq (cs' := (List.replicate 16 ()).flatMap fun _ => zsn) rfl ?_)) | refine T.s ?_ | ((first | apply goB | apply AB.dec | apply AB.gen) <;> intro h <;> try (exfalso; omega)) | refine LQ.mk fun r => ?_ | exact T.z | fail) <;> conv => whnf)
   all_goals (try dsimp only)
   all_goals first
     | (exfalso; omega)
     | exact RL.coz
     | trace_state
def cpG (c : Co) (i0 : Nat) (q : Nm) (k : Nat) : List AV := if k = i0 then (c.at k).cv (.vw q 0 (c.at k).rf.length 15) else (c.at k).cs
def cpR (c : Co) (i0 : Nat) (q : Nm) (n : Nat) : List AV := (List.range n).flatMap (cpG c i0 q)
theorem cpG_len (c : Co) (i0 : Nat) (q : Nm) (k : Nat) : (cpG c i0 q k).length = 9 := by unfold cpG; split <;> rfl
theorem k9 (c : Co) (i0 : Nat) (q : Nm) (n : Nat) : cpR c i0 q (n + 1) = cpR c i0 q n ++ cpG c i0 q n := by unfold cpR; rw [List.range_succ, List.flatMap_append]; simp
theorem cpR_irr (c : Co) {i0 n : Nat} (h : n ≤ i0) (q q' : Nm) : cpR c i0 q n = cpR c i0 q' n := by
 induction n with
 | zero => rfl
 | succ n ih =>
   rw [k9, k9, ih (by omega)]
   unfold cpG
   rw [if_neg (by omega), if_neg (by omega)]
@[simp] theorem cpR_len (c : Co) (i0 : Nat) (q : Nm) (n : Nat) : (cpR c i0 q n).length = n * 9 := by
 induction n with
 | zero => rfl
 | succ n ih => rw [k9, List.length_append, ih, cpG_len]; omega
theorem hds_one (l : List Hd) : ((l.flatMap Hd.cs).all AV.one) = true := by
 induction l with
 | nil => rfl
 | cons x l ih => rw [List.flatMap_cons, List.all_append, ih]; rfl
def cpP (c : Co) (i0 n : Nat) : List AV := if i0 < n then (c.at i0).rf.flatMap Hd.cs else []
@[reducible] def n0 (q : List Nm) : Nm := q.getD 0 (.b 0)
@[reducible] def n1 (q : List Nm) : Nm := q.getD 1 (.b 0)
theorem yD {c : Co} {i0 j : Nat} (h : j = i0) (p q : Nm) : cpR c i0 p j ++ (c.at j).cv (.vw q 0 (c.at j).rf.length 15) = cpR c i0 q (j + 1) := by
 rw [k9, cpR_irr c (Nat.le_of_eq h) p q]
 unfold cpG
 rw [if_pos h]
theorem yF {c : Co} {i0 j : Nat} (h : j = i0) : (c.at j).rf.flatMap Hd.cs = cpP c i0 (j + 1) := by
 unfold cpP
 rw [if_pos (by omega), h]
theorem yE {c : Co} {i0 j : Nat} (h : ¬ j = i0) (p : Nm) : cpR c i0 p j ++ (c.at j).cs = cpR c i0 p (j + 1) := by
 rw [k9]
 unfold cpG
 rw [if_neg h]
theorem yG {c : Co} {i0 j : Nat} (h : ¬ j = i0) : cpP c i0 j = cpP c i0 (j + 1) := by
 unfold cpP
 by_cases h2 : i0 < j
 · rw [if_pos h2, if_pos (by omega)]
 · rw [if_neg h2, if_neg (by omega)]
theorem r9copy_c (c : Co) (i0 : Nat) (hi : i0 < c.cx.length) (hl : c.cx.length ≤ 100) (hr : ∀ i, i < c.cx.length → (c.at i).rf.length ≤ 1000) : LSpecN Tryz.prog G 44 [c.av] [] 2 (fun q => (.agg [iAV c.m, iAV c.w, .vw (n0 q) 0 c.cx.length 9], [(n0 q, ⟨59, cpR c i0 (n1 q) c.cx.length⟩), (n1 q, ⟨65, (c.at i0).rf.flatMap Hd.cs⟩)])) := by
 have hb : ∀ j : Nat, (j : Int) < (c.cx.length : Int) → (c.cx.getD j Sn.z).rf.length ≤ 1000 := fun j h => hr j (by omega)
 refine LSpecN.introL tQ Tryz.func44 rfl (by kernel_rfl) (by simp) (fun qs hq => by obtain ⟨x, y, rfl⟩ : ∃ x y, qs = [x, y] := (match qs, hq with | [x, y], _ => ⟨x, y, rfl⟩); exact ⟨by simp, by intro h1 h2; simp at h1 h2 ⊢; simp_all [eq_comm]⟩) ?_
 refine AWpL.sound tQ [] _ _ _ _ ?_
 conv => whnf
 repeat' ((first | (refine And.intro ?_ ?_; (focus (first | exact xn Sn.cs_len (by assumption) | exact qy Hd.cs_len _ | exact hds_one _ | exact Nat.le_trans (Nat.mul_le_mul_right _ (hb j (by assumption))) (by decide) | exact Nat.le_trans (hb j (by assumption)) (by decide) | exact T.kx | exact T.side))) | (show AC _ _ _; first | (refine AC.recd Sn.cs_len j Sn.z rfl rfl ?_ ?_; (focus omega))) | refine T.s ?_ | ((first | apply goB | apply AB.dec | apply AB.gen) <;> intro h <;> try (exfalso; omega)) | refine LQ.mk fun r => ?_ | (show SQ _ _ _ (.loop _) _ _ _; first | (apply goO tQ [] 4 (S := Nat × Nm × Nm × Nm × Nm × Nm) [] (fun (j, a, z, o, q, p) => ⟨[(4, .int .i64 j), (1, .ptr a 0), (2, .ptr z 0), (3, .ptr o 0)], [(a, ⟨41, [iAV c.m, iAV c.w, snv c.cx]⟩), (z, ⟨41, [iAV 0, iAV 0, .nils]⟩), (o, ⟨41, [iAV c.m, iAV c.w, .vw q 0 j 9]⟩), (q, ⟨59, cpR c i0 p j⟩), (p, ⟨65, cpP c i0 j⟩)], j ≤ c.cx.length, c.cx.length - j⟩) ((0, _, _, _, _, _)) (by rfl); (focus (all_goals (try exact K99A); done)); rintro ⟨j, a, z, o, q, p⟩ hok; (try dsimp only at hok))) | (show SQ _ _ _ _ _ _ _; first | (refine SQ.dummy 65 fun p => ?_; refine SQ.adoptP r 2 9 59 ?_; (repeat first | refine goH ?_ | apply LH.here | apply LH.next); refine ⟨show 2 < 3 from by decide, rfl, fun q => ?_⟩)) | (show AtL _ _ _ _ _ _ _ _ _ _; first | (by_cases hji : j = i0; (focus (rename_i pa pb pc; refine AtL.mk' (id := 4) (j + 1, a, z, o, r, pb) ?_; all_goals (try exact K99A))); (focus (rename_i pa pb pc; refine AtL.mkF (id := 4) (j + 1, a, z, o, r, p) ⟨?_, ?_, LTo.frz r [pb] (cpR c i0 p j ++ (c.at j).cs) ?_, ?_⟩; rotate_left; rotate_left; (focus ((repeat first | refine goH ?_ | apply LH.here | apply LH.next); refine ⟨LFs.app (LFs.same _) ⟨.eq rfl, .eq rfl, .eq rfl, .eq rfl, .eq rfl, .eq rfl, .eq rfl, .eq rfl, LF.row InL.here ?_, trivial⟩, ?_⟩; (focus ((repeat first | refine goH ?_ | apply LH.here | apply LH.next); exact ⟨by decide, qy Hd.cs_len _, rfl, rfl⟩)); (repeat first | refine goH ?_ | apply LH.here | apply LH.next); all_goals (try exact K99A))); all_goals all_goals (try exact K99A)))) | (apply AtL.mk' (id := 4) (S := Nat × Nm × Nm × Nm × Nm × Nm) ((j + 1, _, _, _, _, _)); all_goals (try exact K99A); done) | (apply AtL.mk' (id := 4) (S := Nat × Nm × Nm × Nm × Nm × Nm) ((j + 1, _, _, _, _, _)); all_goals (try exact K99A))) | exact T.z | fail) <;> conv => whnf)
 all_goals (try dsimp only)
 obtain rfl : j = c.cx.length := by omega
 have e : cpP c i0 c.cx.length = (c.at i0).rf.flatMap Hd.cs := if_pos hi
 rw [e]
 apply RetLN.val [q, p] rfl
 · show LH _ _ _
   exact .next (.next (.next (.here (.next (.next (.next (.here trivial)))))))
 · rfl
 · exact LB.cons (.next (.next (.next (.here ⟨rfl, LB.cons (.next (.next (.next (.here ⟨rfl, LB.nil⟩))))⟩))))
open Go.RowKit
variable {G : Nat → AV}
theorem cpR_frz {l : LS} {F : List Nm} {c : Co} {i0 : Nat} {p : Nm} (hF : InL p F) (hp : LH l p fun cc _ _ => cc.cs = (c.at i0).rf.flatMap Hd.cs) : ∀ n, LFs l F (cpR c i0 p n) ((List.range n).flatMap fun k => (c.at k).cs)
 | 0 => trivial
 | n + 1 => by
   rw [k9, List.range_succ, List.flatMap_append]
   refine LFs.app (cpR_frz hF hp n) ?_
   simp only [List.flatMap_cons, List.flatMap_nil, List.append_nil]
   unfold cpG
   split
   · rename_i h
     subst h
     exact ⟨.eq rfl, .eq rfl, .eq rfl, .eq rfl, .eq rfl, .eq rfl, .eq rfl, .eq rfl, LF.row hF (LH.mono hp fun cc _ _ e => ⟨by decide, by rw [e]; exact qy Hd.cs_len _, rfl, e.symm⟩), trivial⟩
   · exact LFs.same _
theorem cx_range (c : Co) (n : Nat) (h : n ≤ c.cx.length) : (List.range n).flatMap (fun k => (c.at k).cs) = (c.cx.take n).flatMap Sn.cs := by
 induction n with
 | zero => simp
 | succ n ih =>
   rw [List.range_succ, List.flatMap_append, ih (by omega), List.take_succ_eq_append_getElem (by omega), List.flatMap_append]
   simp [Co.at, List.getD_eq_getElem?_getD, show n < c.cx.length by omega]
theorem kj (c : Co) : (List.range c.cx.length).flatMap (fun k => (c.at k).cs) = c.cx.flatMap Sn.cs := by rw [cx_range c _ (Nat.le_refl _), List.take_length]
theorem LH.wk {p : Nm} {x : Nm × Pl} {Q : Pl → Prop} {l2 : LS} : ∀ {l1 : LS}, (LH (l1 ++ l2) p fun c _ _ => Q c) → LH (l1 ++ x :: l2) p fun c _ _ => Q c
 | [], h => .next h
 | y :: l1, h => by
   obtain ⟨m1, d, m2, e, hq⟩ := h.ex
   cases m1 with
   | nil =>
     injection e with e1 e2
     subst e1
     exact .here hq
   | cons z m1 =>
     injection e with e1 e2
     exact .next (LH.wk ⟨m1, d, m2, e2, hq⟩)
theorem cop_row {c : Co} {i0 : Nat} {R : Nm} {l : LS} (h : LH l R fun cc _ r => ∃ p, cc.cs = cpR c i0 p c.cx.length ∧ LH r p fun cc' _ _ => cc'.cs = (c.at i0).rf.flatMap Hd.cs) : ∃ p, LF l [R, p] (.vw R 0 c.cx.length 9) (snv c.cx) ∧ LEra l [R, p] (LB []) := by
 obtain ⟨l1, cc, l2, rfl, p, h1, h2⟩ := h.ex
 refine ⟨p, LF.rowN InL.here ⟨l1, cc, l2, rfl, by decide, by rw [h1]; exact cpR_len _ _ _ _, rfl, ?_⟩, ⟨l1, cc, l2, rfl, LH.mono h2 fun _ _ _ _ => LB.nil⟩⟩
 rw [h1, ← kj]
 exact cpR_frz (InL.next InL.here) (LH.wk h2) _
theorem RL.cop {c : Co} (i0 : Nat) {R : Nm} {x : List UInt8} {e : Int} {l : LS} (h : LH l R fun cc _ r => ∃ p, cc.cs = cpR c i0 p c.cx.length ∧ LH r p fun cc' _ _ => cc'.cs = (c.at i0).rf.flatMap Hd.cs) : RL (fun _ => (.tup [c.av, bv x, iAV e], [])) (.tup [.agg [.int .i64 c.m, .int .i64 c.w, .vw R 0 c.cx.length 9], bv x, .int .i64 e]) l := by
 obtain ⟨p, h1, h2⟩ := cop_row h
 exact RL.frz [R, p] (LF.tup (xs := [.agg [.int .i64 c.m, .int .i64 c.w, .vw R 0 c.cx.length 9], bv x, .int .i64 e]) (ys := [c.av, bv x, iAV e]) ⟨LF.agg (xs := [.int .i64 c.m, .int .i64 c.w, .vw R 0 c.cx.length 9]) (ys := [iAV c.m, iAV c.w, snv c.cx]) ⟨.eq rfl, .eq rfl, h1, trivial⟩, .eq rfl, .eq rfl, trivial⟩) h2
theorem RL.co3 {e : Int} {l : LS} : RL (fun _ => (.tup [Co.z.av, bv [], iAV e], [])) (.tup [.agg [.int .i64 0, .int .i64 0, .nils], .nils, .int .i64 e]) l :=
 RL.frz [] (LF.tup (xs := [.agg [.int .i64 0, .int .i64 0, .nils], .nils, .int .i64 e]) (ys := [Co.z.av, bv [], iAV e]) ⟨LF.agg (xs := [.int .i64 0, .int .i64 0, .nils]) (ys := [iAV 0, iAV 0, snv []]) ⟨LF.eq rfl, LF.eq rfl, LF.nils rfl rfl, trivial⟩, LF.nils rfl rfl, LF.eq rfl, trivial⟩) LB.nil
def cpr (x : (Co × List UInt8) × Int) : AV := .tup [x.1.1.av, bv x.1.2, iAV x.2]
theorem r9comp_inv (c : Co) (b : List UInt8) (hc : c.ok = false) : LP Tryz.prog G 21 [c.av, bv b] [] (fun _ => (cpr (qe c b), [])) := by
 have hv := zO (G := G) c
 rw [hc] at hv
 rw [show qe c b = ((Co.z, []), 1) by unfold qe; rw [if_neg (by rw [hc]; decide)]]
 refine goW [] Tryz.func21 rfl ?_
 conv => whnf
 repeat' ((first | exact Nm.b 0 | (show LC _ _ _ _ _ _; first | refine LC.pure (hv) ?_ | refine goE ?_) | refine T.s ?_ | ((first | apply goB | apply AB.dec | apply AB.gen) <;> intro h <;> try (exfalso; omega)) | refine LQ.mk fun r => ?_ | (show SQ _ _ _ (.loop _) _ _ _; first | (refine goL tQ [] 39 (S := Nat) [2, 4, 7, 8, 9, 11, 13, 16, 18] (fun f => ⟨[(19, .int .i64 f)], [], False, 4 - f⟩) (0) ?_; rintro f hok; (try dsimp only at hok))) | (show SQ _ _ _ _ _ _ _; first | (refine goD tQ qb 8 [0, 2] [0, 1, 2, 3, 4, 5] [] (by kernel_rfl) ?_) | (refine goD tQ qb 11 [0, 2] [0, 1, 2, 3, 4, 5] [] (by kernel_rfl) ?_) | (refine goD tQ qb 19 [2, 1] [0, 2, 1, 3, 4, 5] [] (by kernel_rfl) ?_) | (refine goD tQ qb 21 [0, 2] [0, 1, 2, 3, 4, 5] [] (by kernel_rfl) ?_) | (refine goD tQ qb 24 [1, 3] [0, 1, 2, 3, 4, 5, 6] [] (by kernel_rfl) ?_) | (refine goD tQ qb 25 [15, 13] [0, 1, 2, 3, 4, 5, 6, 7, 8, 9, 10, 11, 12, 14, 15, 13, 16, 17, 18, 19] [] (by kernel_rfl) ?_)) | (show AtL _ _ _ _ _ _ _ _ _ _; first | (show AtL 39 _ _ _ _ _ _ _ _ _; exact goN 39 (S := Nat) (f + 1)) | (apply AtL.mk' (id := 39) (S := Nat) (f + 1); all_goals (try exact KC12))) | (show (_ → _) ∧ (¬ _ → _); first | refine T.y ?_ | refine qn (fun h => ?_) (fun h => ?_)) | exact T.z | fail) <;> conv => whnf)
 all_goals (try dsimp only)
 all_goals exact RL.co3
theorem r9comp_size (c : Co) (b : List UInt8) (hc : c.ok = true) (hb : b = [] ∨ 1500 < b.length) : LP Tryz.prog G 21 [c.av, bv b] [] (fun _ => (cpr (qe c b), [])) := by
 have hv := zO (G := G) c
 rw [hc] at hv
 rw [show qe c b = ((Co.z, []), 2) by unfold qe; rw [if_pos hc, if_pos hb]]
 have hb2 : b.length = 0 ∨ 1500 < b.length := by
   rcases hb with rfl | hb
   · exact .inl rfl
   · exact .inr hb
 clear hb
 refine goW [] Tryz.func21 rfl ?_
 conv => whnf
 repeat' ((first | exact Nm.b 0 | (show LC _ _ _ _ _ _; first | refine LC.pure (hv) ?_ | refine goE ?_) | refine T.s ?_ | ((first | apply goB | apply AB.dec | apply AB.gen) <;> intro h <;> try (exfalso; omega)) | refine LQ.mk fun r => ?_ | (show SQ _ _ _ (.loop _) _ _ _; first | (refine goL tQ [] 39 (S := Nat) [2, 4, 7, 8, 9, 11, 13, 16, 18] (fun f => ⟨[(19, .int .i64 f)], [], False, 4 - f⟩) (0) ?_; rintro f hok; (try dsimp only at hok))) | (show SQ _ _ _ _ _ _ _; first | (refine goD tQ qb 8 [0, 2] [0, 1, 2, 3, 4, 5] [] (by kernel_rfl) ?_) | (refine goD tQ qb 11 [0, 2] [0, 1, 2, 3, 4, 5] [] (by kernel_rfl) ?_) | (refine goD tQ qb 19 [2, 1] [0, 2, 1, 3, 4, 5] [] (by kernel_rfl) ?_) | (refine goD tQ qb 21 [0, 2] [0, 1, 2, 3, 4, 5] [] (by kernel_rfl) ?_) | (refine goD tQ qb 24 [1, 3] [0, 1, 2, 3, 4, 5, 6] [] (by kernel_rfl) ?_) | (refine goD tQ qb 25 [15, 13] [0, 1, 2, 3, 4, 5, 6, 7, 8, 9, 10, 11, 12, 14, 15, 13, 16, 17, 18, 19] [] (by kernel_rfl) ?_)) | (show AtL _ _ _ _ _ _ _ _ _ _; first | (show AtL 39 _ _ _ _ _ _ _ _ _; exact goN 39 (S := Nat) (f + 1)) | (apply AtL.mk' (id := 39) (S := Nat) (f + 1); all_goals (try exact KC12))) | (show (_ → _) ∧ (¬ _ → _); first | refine T.y ?_ | refine qn (fun h => ?_) (fun h => ?_)) | exact T.z | fail) <;> conv => whnf)
 all_goals (try dsimp only)
 all_goals first
   | exact RL.co3
   | trace_state
theorem zS {c : Co} (h : c.ok = true) : c.cx.length = 16 := by
 unfold Co.ok at h
 simp only [Bool.and_eq_true, decide_eq_true_eq] at h
 exact h.2.1
theorem co_oks {c : Co} (h : c.ok = true) : c.oks 16 = true := by
 unfold Co.ok at h
 simp only [Bool.and_eq_true] at h
 exact h.2.2
theorem co_sn {c : Co} (h : c.ok = true) (i : Nat) (hi : i < c.cx.length) : (c.at i).ok c.m c.w = true := by
 have h1 := rng_get (co_oks h) (by rw [zS h] at hi; exact hi)
 simp only [Bool.and_eq_true] at h1
 exact h1.1
theorem sn_rf {m w : Int} {s : Sn} (h : s.ok m w = true) (hw : w ≤ 8) : s.rf.length ≤ 32 := by
 cases ha : s.act with
 | true =>
   have h1 := ((Sn.ok_e ha).1 h).1
   unfold vG vz at h1
   obtain ⟨-, h1, -⟩ := h1
   split at h1 <;> omega
 | false =>
   unfold Sn.ok at h
   rw [if_neg (by rw [ha]; decide)] at h
   simp only [wJ, decide_eq_true_eq] at h
   rw [h.2.2.2.2.2.2]
   decide
theorem co_w {c : Co} (h : c.ok = true) : 1 ≤ c.m ∧ c.m ≤ 3 ∧ 1 ≤ c.w ∧ c.w ≤ 8 := by
 unfold Co.ok at h
 simp only [Bool.and_eq_true] at h
 have h1 := h.1
 simp only [jP, decide_eq_true_eq] at h1
 exact h1
theorem co_rf {c : Co} (h : c.ok = true) (i : Nat) (hi : i < c.cx.length) : (c.at i).rf.length ≤ 1000 := by
 have := sn_rf (co_sn h i hi) (co_w h).2.2.2
 omega
theorem j4 (c : Co) (hc : c.ok = true) (i0 : Nat) (hi : i0 < 16) : LSpecN Tryz.prog G 44 [c.av] [] 2 (fun q => (.agg [iAV c.m, iAV c.w, .vw (n0 q) 0 c.cx.length 9], [(n0 q, ⟨59, cpR c i0 (n1 q) c.cx.length⟩), (n1 q, ⟨65, (c.at i0).rf.flatMap Hd.cs⟩)])) :=
 r9copy_c c i0 (by rw [zS hc]; exact hi) (by rw [zS hc]; decide) (co_rf hc)
theorem j3 (c : Co) (hc : c.ok = true) (hd : Hd) : LP Tryz.prog G 47 [c.av, hd.av] [] (fun _ => (yx (zD c.cx hd), [])) :=
 r9find_c c hd (by rw [zS hc]; decide) fun i hi ha => yh (co_sn hc i hi) ha
theorem LC.findL {c : Co} {hd : Hd} (i0 : Nat) {R : Nm} {l : LS} {K : AV → LS → Prop} (hs : LP Tryz.prog G 47 [c.av, hd.av] [] (fun _ => (yx (zD c.cx hd), []))) (h : LH l R fun cc _ r => ∃ p, cc.cs = cpR c i0 p c.cx.length ∧ LH r p fun cc' _ _ => cc'.cs = (c.at i0).rf.flatMap Hd.cs) (k : K (yx (zD c.cx hd)) l) :
   LC Tryz.prog G 47 [.agg [.int .i64 c.m, .int .i64 c.w, .vw R 0 c.cx.length 9], hd.av] l K := by
 obtain ⟨p, h1, -⟩ := cop_row h
 exact LC.lend hs [R, p] ⟨LF.agg (xs := [.int .i64 c.m, .int .i64 c.w, .vw R 0 c.cx.length 9]) (ys := [iAV c.m, iAV c.w, snv c.cx]) ⟨.eq rfl, .eq rfl, h1, trivial⟩, .eq rfl, trivial⟩ (Flat.tup (Flat.cons (Flat.int _ _) (Flat.cons (Flat.bool _) Flat.nil))) k
open Go.RowKit
section
variable {m w : Int} {s : Sn} {h : Hd} {x : Sn} {bg : Bool}
theorem csA_k (ha : s.act = true) (h1 : vo s.lst h = 0) (h2 : ¬ (s.lng = 3 ∧ zR s.lst h ≠ s.dy)) : (s, false) = csA w s h := by
 unfold csA
 rw [if_neg (by rw [ha]; decide), if_neg (by rintro (h3 | h3); exact h3 h1; exact h2 h3)]
theorem csA_f (ha : s.act = true) (h1 : vo s.lst h ≠ 0 ∨ s.lng = 3 ∧ zR s.lst h ≠ s.dy) (h2 : 0 < s.full) : ({ s with lng := 0, full := w }, true) = csA w s h := by
 unfold csA
 rw [if_neg (by rw [ha]; decide), if_pos h1, if_pos h2]
theorem csA_r (ha : s.act = true) (h1 : vo s.lst h ≠ 0 ∨ s.lng = 3 ∧ zR s.lst h ≠ s.dy) (h2 : ¬ 0 < s.full) : ({ s with lng := 0, refr := w }, true) = csA w s h := by
 unfold csA
 rw [if_neg (by rw [ha]; decide), if_pos h1, if_neg h2]
theorem csB_y (h1 : m = 1) (h2 : x.sin = 32) (h3 : x.full = 0) : ({ x with full := w, refr := 0 }, true) = csB m w (x, bg) := by
 unfold csB
 rw [if_pos ⟨h1, h2, h3⟩]
theorem csB_n (h1 : ¬ (m = 1 ∧ x.sin = 32 ∧ x.full = 0)) : (x, bg) = csB m w (x, bg) := by
 unfold csB
 rw [if_neg h1]
theorem csD_y {last : Hd} {had : Bool} (h1 : bg = true ∨ x.ser = (x.rf.length : Int) ∧ (0 < x.full ∨ 0 < x.refr)) : begR x last had h = csD last had h (x, bg) := by
 unfold csD
 rw [if_pos h1]
theorem csD_n {last : Hd} {had : Bool} (h1 : ¬ (bg = true ∨ x.ser = (x.rf.length : Int) ∧ (0 < x.full ∨ 0 < x.refr))) : x = csD last had h (x, bg) := by
 unfold csD
 rw [if_neg h1]
theorem csE_5 {last : Hd} {had : Bool} (h1 : 0 < x.full) : (x, (5 : Int)) = csE w last had h x := by
 unfold csE
 rw [if_pos h1]
theorem csE_4 {last : Hd} {had : Bool} (h1 : ¬ 0 < x.full) (h2 : 0 < x.refr) : (x, (4 : Int)) = csE w last had h x := by
 unfold csE
 rw [if_neg h1, if_pos h2]
def zJ (x : Sn) (h : Hd) (f : Int) : Prop := 1 ≤ f ∧ f ≤ 4 ∧ (2 ≤ f → zT x h 1 = false) ∧ (3 ≤ f → zT x h 2 = false) ∧ (4 ≤ f → zT x h 3 = false)
theorem leastF_1 : zJ x h 1 := ⟨by decide, by decide, fun h => absurd h (by decide), fun h => absurd h (by decide), fun h => absurd h (by decide)⟩
theorem leastF_s {f : Int} (h1 : zJ x h f) (h2 : f ≤ 3) (h3 : zT x h f = false) : zJ x h (f + 1) := by
 obtain ⟨a1, a2, a3, a4, a5⟩ := h1
 have : f = 1 ∨ f = 2 ∨ f = 3 := by omega
 rcases this with rfl | rfl | rfl
 · exact ⟨by decide, by decide, fun _ => h3, fun h => absurd h (by decide), fun h => absurd h (by decide)⟩
 · exact ⟨by decide, by decide, fun _ => a3 (by decide), fun _ => h3, fun h => absurd h (by decide)⟩
 · exact ⟨by decide, by decide, fun _ => a3 (by decide), fun _ => a4 (by decide), fun _ => h3⟩
theorem csE_f {last : Hd} {had : Bool} {f : Int} (h1 : ¬ 0 < x.full) (h2 : ¬ 0 < x.refr) (h3 : zJ x h f) (h4 : f ≤ 3) (h5 : zT x h f = true) : (x, f) = csE w last had h x := by
 obtain ⟨a1, a2, a3, a4, a5⟩ := h3
 unfold csE
 rw [if_neg h1, if_neg h2]
 have : f = 1 ∨ f = 2 ∨ f = 3 := by omega
 rcases this with rfl | rfl | rfl
 · rw [if_pos h5]
 · rw [if_neg (by rw [a3 (by decide)]; decide), if_pos h5]
 · rw [if_neg (by rw [a3 (by decide)]; decide), if_neg (by rw [a4 (by decide)]; decide), if_pos h5]
theorem csE_r {last : Hd} {had : Bool} {f : Int} (h1 : ¬ 0 < x.full) (h2 : ¬ 0 < x.refr) (h3 : zJ x h f) (h4 : ¬ f ≤ 3) : (begR { x with refr := w, lng := 0 } last had h, (4 : Int)) = csE w last had h x := by
 obtain ⟨a1, a2, a3, a4, a5⟩ := h3
 unfold csE
 rw [if_neg h1, if_neg h2, if_neg (by rw [a3 (by omega)]; decide), if_neg (by rw [a4 (by omega)]; decide), if_neg (by rw [a5 (by omega)]; decide)]
def csF1 (m : Int) (h : Hd) (s : Sn) (f : Int) : Sn :=
 { s with
   full := if m ≠ 3 ∧ f = 5 then s.full - 1 else s.full
   refr := if m ≠ 3 ∧ f = 4 then s.refr - 1 else s.refr
   sin := if f = 5 then 0 else min (s.sin + 1) 32
   lng := if (f = 2 ∨ f = 3) ∧ h.k = 2 then min (s.lng + 1) 3 else 0 }
end
theorem findR_lt {l : List Sn} {h : Hd} {i : Nat} (e : zD l h = some i) : i < l.length := by
 have key : ∀ {p : Sn → Bool} {j : Nat}, l.findIdx? p = some j → j < l.length := fun {p j} hj => by
   rw [List.findIdx?_eq_some_iff_getElem] at hj
   exact hj.1
 unfold zD at e
 split at e
 · rename_i j hj
   cases e
   exact key hj
 · exact key e
def frs (c : Co) (a n : Nat) : List AV := ((List.range n).drop a).flatMap fun k => (c.at k).cs
theorem fm_congr {α β : Type} {f g : α → List β} : ∀ l : List α, (∀ k ∈ l, f k = g k) → l.flatMap f = l.flatMap g
 | [], _ => rfl
 | x :: l, h => by rw [List.flatMap_cons, List.flatMap_cons, h x (by simp), fm_congr l fun k hk => h k (by simp [hk])]
theorem cpR_split (c : Co) (i0 : Nat) (p : Nm) (n : Nat) (h : i0 < n) : cpR c i0 p n = (List.range i0).flatMap (fun k => (c.at k).cs) ++ ((c.at i0).cv (.vw p 0 (c.at i0).rf.length 15) ++ frs c (i0 + 1) n) := by
 have e : List.range n = List.range i0 ++ (i0 :: (List.range n).drop (i0 + 1)) := by
   have h1 : List.range n = (List.range n).take i0 ++ (List.range n).drop i0 := (List.take_append_drop _ _).symm
   rw [List.take_range, Nat.min_eq_left (by omega), List.drop_eq_getElem_cons (by simpa using h)] at h1
   simpa using h1
 unfold cpR frs
 rw [e, List.flatMap_append, List.flatMap_cons]
 have e1 : (List.range i0).flatMap (cpG c i0 p) = (List.range i0).flatMap fun k => (c.at k).cs := by
   refine fm_congr _ fun k hk => ?_
   unfold cpG
   rw [if_neg (by have := List.mem_range.1 hk; omega)]
 have e2 : ((List.range n).drop (i0 + 1)).flatMap (cpG c i0 p) = ((List.range n).drop (i0 + 1)).flatMap fun k => (c.at k).cs := by
   refine fm_congr _ fun k hk => ?_
   unfold cpG
   rw [if_neg]
   rintro rfl
   obtain ⟨j, hj, hk⟩ := List.mem_iff_getElem.1 hk
   simp at hk
   omega
 rw [e1, e2, ← e]
 congr 2
 unfold cpG
 rw [if_pos rfl]
theorem wj (c : Co) (n : Nat) : ((List.range n).flatMap fun k => (c.at k).cs).length = n * 9 := by
 have := qy (f := fun k => (c.at k).cs) (n := 9) (fun _ => rfl) (List.range n)
 rwa [List.length_range] at this
theorem cpR_at (c : Co) (i0 : Nat) (p : Nm) (n : Nat) (h : i0 < n) : ((cpR c i0 p n).drop (i0 * 9)).take 9 = (c.at i0).cv (.vw p 0 (c.at i0).rf.length 15) := by
 rw [cpR_split c i0 p n h, List.drop_append, wj, List.drop_of_length_le (by rw [wj]; omega), List.nil_append, Nat.sub_self, List.drop_zero]
 rfl
theorem cpR_set (c : Co) (i0 : Nat) (p : Nm) (n : Nat) (h : i0 < n) (ys : List AV) (hy : ys.length = 9) : qo (cpR c i0 p n) (i0 * 9) ys = (List.range i0).flatMap (fun k => (c.at k).cs) ++ (ys ++ frs c (i0 + 1) n) := by
 rw [cpR_split c i0 p n h]
 unfold qo
 rw [List.take_append, List.take_of_length_le (by rw [wj]; omega), wj, Nat.sub_self, List.take_zero, List.append_nil, List.drop_append, List.drop_of_length_le (by rw [wj]; omega), wj, hy, show i0 * 9 + 9 - i0 * 9 = 9 by omega]
 simp
theorem AC.cpA {c : Co} {i0 : Nat} {p : Nm} {n o m : Nat} {K : AV → Prop} (ho : o = i0 * 9) (hm : m = 9) (h : i0 < n) (k : K (.agg ((c.at i0).cv (.vw p 0 (c.at i0).rf.length 15)))) : AC true (((cpR c i0 p n).drop o).take m) K := ⟨by
 subst ho hm
 rw [cpR_at c i0 p n h]
 exact k⟩
theorem AQ.cpS {c : Co} {i0 : Nat} {p : Nm} {n o : Nat} {ys : List AV} {K : List AV → Prop} (ho : o = i0 * 9) (h : i0 < n) (hy : ys.length = 9) (k : K ((List.range i0).flatMap (fun k => (c.at k).cs) ++ (ys ++ frs c (i0 + 1) n))) : AQ (qo (cpR c i0 p n) o ys) K := ⟨by
 subst ho
 rw [cpR_set c i0 p n h ys hy]
 exact k⟩
theorem set_fm (c : Co) (i0 : Nat) (h : i0 < c.cx.length) (s' : Sn) : (c.cx.set i0 s').flatMap Sn.cs = (List.range i0).flatMap (fun k => (c.at k).cs) ++ (s'.cs ++ frs c (i0 + 1) c.cx.length) := by
 have e : frs c (i0 + 1) c.cx.length = (c.cx.drop (i0 + 1)).flatMap Sn.cs := by
   have h1 := kj c
   have h2 := yy (f := fun k => (c.at k).cs) (n := 9) (fun _ => rfl) (List.range c.cx.length) (i0 + 1)
   rw [h1, yy Sn.cs_len] at h2
   exact h2.symm
 rw [e, cx_range c i0 (by omega), List.set_eq_take_append_cons_drop, if_pos h, List.flatMap_append, List.flatMap_cons]
end Go.Proofs.YtkfpgdckdmlhkaaGreatDoor
