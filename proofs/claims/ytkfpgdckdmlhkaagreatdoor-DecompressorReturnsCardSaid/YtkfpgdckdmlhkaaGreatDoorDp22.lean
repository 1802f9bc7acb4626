import Derived.Test.YtkfpgdckdmlhkaaGreatDoorDp21
import Derived.Test.YtkfpgdckdmlhkaaGreatDoorDp20
set_option maxHeartbeats 8000000
namespace Go.Proofs.YtkfpgdckdmlhkaaGreatDoor
open Go.RowKit
set_option linter.all false
variable {G : Nat → AV}
def rngP (m w : Int) (s : Sn) : Prop := 1 ≤ s.rf.length ∧ (s.rf.length : Int) ≤ mostR m w ∧ (0 ≤ s.ser ∧ s.ser ≤ s.rf.length) ∧ (0 ≤ s.full ∧ s.full ≤ w) ∧ (0 ≤ s.refr ∧ s.refr ≤ w) ∧ ¬ (0 < s.full ∧ 0 < s.refr) ∧ (0 ≤ s.sin ∧ s.sin ≤ 32) ∧ (0 ≤ s.lng ∧ s.lng ≤ 3)
def refG (s : Sn) (r : Hd) : Bool := r.ok && sameR r s.fst
def endR (s : Sn) : Bool := decide (s.fst.k = 2 ∨ s.dy = Dy.z)
theorem inR_iff {n m : Int} : inR n m = true ↔ 0 ≤ n ∧ n ≤ m := in_iff n m
theorem Sn.ok_e {m w : Int} {s : Sn} (h : s.act = true) : s.ok m w = true ↔ rngP m w s ∧ s.dy.ok = true ∧ s.rf.all (refG s) = true ∧ endR s = true := by
 unfold Sn.ok rngP refG endR
 rw [if_pos h]
 simp only [Bool.and_eq_true, decide_eq_true_eq, inR_iff]
 constructor
 · rintro ⟨⟨a1, a2⟩, a3, a4, a5, a6, a7, a8, a9, a10, a11⟩
   exact ⟨⟨a1, a2, a3, a4, a5, a6, a7, a8⟩, a9, a11, a10⟩
 · rintro ⟨⟨a1, a2, a3, a4, a5, a6, a7, a8⟩, a9, a11, a10⟩
   exact ⟨⟨a1, a2⟩, a3, a4, a5, a6, a7, a8, a9, a10, a11⟩
theorem Sn.ok_f {m w : Int} {s : Sn} (h : s.act = true) (hn : ¬ (rngP m w s ∧ s.dy.ok = true ∧ s.rf.all (refG s) = true ∧ endR s = true)) : s.ok m w = false := by
 rw [← Sn.ok_e h] at hn
 simpa using hn
theorem Dy.eqs (a b : Dy) : alleq [(a.st, b.st), (a.fo, b.fo)] = decide (a = b) := by
 obtain ⟨a1, a2⟩ := a
 obtain ⟨b1, b2⟩ := b
 rw [Bool.eq_iff_iff]
 simp [alleq]
theorem emptyR_e (s : Sn) : emptyR s = (decide (s.full = 0) && (decide (s.refr = 0) && (decide (s.ser = 0) && (decide (s.sin = 0) && (decide (s.lng = 0) && (decide (s.dy = Dy.z) && decide ((s.rf.length : Int) = 0))))))) := by
 rw [Bool.eq_iff_iff]
 simp [emptyR]
theorem Dy.eqz (d : Dy) : decide (d = Dy.z) = alleq [(d.st, 0), (d.fo, 0)] := (Dy.eqs d Dy.z).symm
theorem r9ctx_n (c : Co) (s : Sn) (h0 : s.act = false) : LP Tryz.prog G 83 [c.av, s.av] [] (fun _ => (.bool (s.ok c.m c.w), [])) := by
 rw [show s.ok c.m c.w = emptyR s by unfold Sn.ok; rw [if_neg (by rw [h0]; decide)], emptyR_e, Dy.eqz]
 refine goW [] Tryz.func83 rfl ?_
 conv => whnf
 repeat' ((first
   | exact Nm.b 0
   | refine T.s ?_
   | ((first | refine goB (fun h => ?_) (fun h => ?_) | refine AB.dec (fun h => ?_) (fun h => ?_) | refine AB.gen (fun h => ?_) (fun h => ?_)) <;> try (exfalso; omega))
   | refine LFresh.mk fun r => ?_
   | (show SQ _ _ _ _ _ _ _; first | refine gX 9 [] [0, 1, 2, 3, 4, 5, 6, 7, 8, 9, 10, 11, 12, 13, 14, 15, 16, 17, 18, 19] [] ?_)
   | exact T.z
   | fail) <;> conv => whnf)
 all_goals (try dsimp only)
 all_goals
   (show RL _ _ _; refine goR ?_)
   refine congrArg AV.bool ?_
   simp_all [icmp]
   try (rw [Bool.eq_iff_iff]; simp)
attribute [local irreducible] sameR
theorem refG_y {s : Sn} {r : Hd} (h1 : r.ok = true) (h2 : sameR r s.fst = true) : refG s r = true := by unfold refG; rw [h1, h2]; rfl
theorem refG_n1 {s : Sn} {r : Hd} (h1 : r.ok = false) : refG s r = false := by unfold refG; rw [h1]; rfl
theorem refG_n2 {s : Sn} {r : Hd} (h2 : sameR r s.fst = false) : refG s r = false := by unfold refG; rw [h2]; simp
theorem ok_bad {m w : Int} {s : Sn} (h : s.act = true) (i : Nat) (hi : i < s.rf.length) (hb : refG s (s.rf.getD i Hd.z) = false) : s.ok m w = false :=
 Sn.ok_f h fun hh => by rw [allg_bad s.rf i Hd.z hi hb] at hh; exact Bool.noConfusion hh.2.2.1
theorem ok_rng {m w : Int} {s : Sn} (h : s.act = true) (hr : ¬ rngP m w s) : s.ok m w = false := Sn.ok_f h fun hh => hr hh.1
theorem ok_dy {m w : Int} {s : Sn} (h : s.act = true) (hr : s.dy.ok = false) : s.ok m w = false := Sn.ok_f h fun hh => by rw [hr] at hh; exact Bool.noConfusion hh.2.1
theorem ok_end {m w : Int} {s : Sn} (h : s.act = true) (h1 : rngP m w s) (h2 : s.dy.ok = true) (h3 : s.rf.all (refG s) = true) : s.ok m w = endR s := by
 cases he : endR s with
 | true => exact (Sn.ok_e h).2 ⟨h1, h2, h3, he⟩
 | false => exact Sn.ok_f h fun hh => by rw [he] at hh; exact Bool.noConfusion hh.2.2.2
theorem endR_y {s : Sn} (h : s.fst.k = 2) : endR s = true := decide_eq_true (.inl h)
theorem endR_n {s : Sn} (h : ¬ s.fst.k = 2) : endR s = alleq [(s.dy.st, 0), (s.dy.fo, 0)] := by
 rw [← Dy.eqz]
 unfold endR
 rw [Bool.eq_iff_iff]
 simp [h]
theorem fld0_le {l : List Hd} (h : 0 < l.length) : 1 ≤ (List.drop 0 (List.drop (Int.toNat 0 * 15) (l.flatMap Hd.cs))).length := fld_le (i := 0) (j := 0) Hd.cs_len (by omega) (by decide)
theorem r9ctx_t (c : Co) (s : Sn) (h0 : s.act = true) (hW : 1 ≤ c.w ∧ c.w ≤ 8) (hR : rngP c.m c.w s) (hD : s.dy.ok = true) : LP Tryz.prog G 83 [c.av, s.av] [] (fun _ => (.bool (s.ok c.m c.w), [])) := by
 have hv := r6valid_c (G := G) s.dy
 rw [hD] at hv
 have hR2 := hR
 unfold rngP mostR at hR2
 obtain ⟨a1, a2, a3, a4, a5, a6, a7, a8⟩ := hR2
 have hl : s.rf.length ≤ 100 := by split at a2 <;> omega
 have a2' : c.m = 3 ∧ (s.rf.length : Int) ≤ 32 ∨ ¬ c.m = 3 ∧ (s.rf.length : Int) ≤ c.w := by split at a2 <;> omega
 clear a2
 have hz : ∀ i : Nat, LP Tryz.prog G 31 [(s.rf.getD i Hd.z).av, (s.rf.getD 0 Hd.z).av] [] (fun _ => (.bool (sameR (s.rf.getD i Hd.z) s.fst), [])) := fun i => r6same_c _ _
 refine goW [] Tryz.func83 rfl ?_
 conv => whnf
 repeat' ((first
   | exact Nm.b 0
   | (refine And.intro ?_ ?_; (focus (first | exact rec_le Hd.cs_len (by assumption) | exact rec0_le (by omega) | exact fld0_le (by omega) | exact T.kx | exact T.side)))
   | (show LC _ _ _ _ _ _; first | refine LC.pure (hv) ?_ | refine LC.pure (r5valid_c (s.rf.getD i Hd.z)) ?_ | refine LC.pure (hz i) ?_ | refine goE ?_)
   | (show AC _ _ _; first | (refine AC.recd Hd.cs_len i Hd.z rfl rfl ?_ ?_; (focus omega)) | (refine AC.recd Hd.cs_len 0 Hd.z rfl rfl ?_ ?_; (focus omega)) | (refine AC.fld2 Hd.cs_len 0 0 Hd.z _ rfl (by decide) (by omega) rfl ?_))
   | refine T.s ?_
   | ((first | refine goB (fun h => ?_) (fun h => ?_) | refine AB.dec (fun h => ?_) (fun h => ?_) | refine AB.gen (fun h => ?_) (fun h => ?_)) <;> try (exfalso; omega))
   | refine LFresh.mk fun r => ?_
   | (show SQ _ _ _ (.loop _) _ _ _; first | (apply goO tQ [] 7 (S := Nat × Nm × Nm) [5] (fun (i, a, b) => ⟨[(6, .int .i64 i), (2, .ptr a 0), (3, .ptr b 0)], [(a, ⟨41, [iAV c.m, iAV c.w, snv c.cx]⟩), (b, ⟨59, s.cs⟩)], i ≤ s.rf.length ∧ (s.rf.take i).all (refG s) = true, s.rf.length - i⟩) ((0, _, _)) (by rfl); (focus (all_goals (try exact KFF0); done)); rintro ⟨i, a, b⟩ hok; (try dsimp only at hok); (repeat (have hk := And.left hok; replace hok := And.right hok))))
   | (show SQ _ _ _ _ _ _ _; first | refine gX 9 [] [0, 1, 2, 3, 4, 5, 6, 7, 8, 9, 10, 11, 12, 13, 14, 15, 16, 17, 18, 19] [] ?_)
   | (show AtL _ _ _ _ _ _ _ _ _ _; first | (apply AtL.mk' (id := 7) (S := Nat × Nm × Nm) ((i + 1, _, _)); all_goals (try exact KFF0); done) | (apply AtL.mk' (id := 7) (S := Nat × Nm × Nm) ((i + 1, _, _)); all_goals (try exact KFF0)))
   | exact T.z
   | fail) <;> conv => whnf)
 all_goals (try dsimp only)
 all_goals first
   | ((show RL _ _ _; refine goR ?_); rw [ok_bad h0 i (by omega) (refG_n1 (by assumption))])
   | ((show RL _ _ _; refine goR ?_); rw [ok_bad h0 i (by omega) (refG_n2 (by assumption))])
   | ((show RL _ _ _; refine goR ?_); rw [ok_end h0 hR hD (allg_end (by omega) hok), endR_y (by assumption)])
   | ((show RL _ _ _; refine goR ?_); rw [ok_end h0 hR hD (allg_end (by omega) hok), endR_n (by assumption)])
   | trace_state
theorem r9ctx_d (c : Co) (s : Sn) (h0 : s.act = true) (hD : s.dy.ok = false) : LP Tryz.prog G 83 [c.av, s.av] [] (fun _ => (.bool (s.ok c.m c.w), [])) := by
 have hv := r6valid_c (G := G) s.dy
 rw [hD] at hv
 rw [ok_dy h0 hD]
 refine goW [] Tryz.func83 rfl ?_
 conv => whnf
 repeat' ((first
   | exact Nm.b 0
   | (show LC _ _ _ _ _ _; first | refine LC.pure (hv) ?_ | refine goE ?_)
   | refine T.s ?_
   | ((first | refine goB (fun h => ?_) (fun h => ?_) | refine AB.dec (fun h => ?_) (fun h => ?_) | refine AB.gen (fun h => ?_) (fun h => ?_)) <;> try (exfalso; omega))
   | refine LFresh.mk fun r => ?_
   | (show SQ _ _ _ _ _ _ _; first | refine gX 9 [] [0, 1, 2, 3, 4, 5, 6, 7, 8, 9, 10, 11, 12, 13, 14, 15, 16, 17, 18, 19] [] ?_)
   | exact T.z
   | fail) <;> conv => whnf)
 all_goals (try dsimp only)
 all_goals
   (show RL _ _ _; refine goR ?_)
   rfl
theorem r9ctx_r (c : Co) (s : Sn) (h0 : s.act = true) (hW : 1 ≤ c.w ∧ c.w ≤ 8) (hR : ¬ rngP c.m c.w s) (hD : s.dy.ok = true) : LP Tryz.prog G 83 [c.av, s.av] [] (fun _ => (.bool (s.ok c.m c.w), [])) := by
 have hv := r6valid_c (G := G) s.dy
 rw [hD] at hv
 rw [ok_rng h0 hR]
 have hR2 : ¬ (1 ≤ s.rf.length ∧ (c.m = 3 ∧ (s.rf.length : Int) ≤ 32 ∨ ¬ c.m = 3 ∧ (s.rf.length : Int) ≤ c.w) ∧ (0 ≤ s.ser ∧ s.ser ≤ s.rf.length) ∧ (0 ≤ s.full ∧ s.full ≤ c.w) ∧ (0 ≤ s.refr ∧ s.refr ≤ c.w) ∧ ¬ (0 < s.full ∧ 0 < s.refr) ∧ (0 ≤ s.sin ∧ s.sin ≤ 32) ∧ (0 ≤ s.lng ∧ s.lng ≤ 3)) := by
   intro hh
   refine hR ⟨hh.1, ?_, hh.2.2⟩
   unfold mostR
   split <;> omega
 clear hR
 refine goW [] Tryz.func83 rfl ?_
 conv => whnf
 repeat' ((first
   | exact Nm.b 0
   | (show LC _ _ _ _ _ _; first | refine LC.pure (hv) ?_ | refine goE ?_)
   | refine T.s ?_
   | ((first | refine goB (fun h => ?_) (fun h => ?_) | refine AB.dec (fun h => ?_) (fun h => ?_) | refine AB.gen (fun h => ?_) (fun h => ?_)) <;> try (exfalso; omega))
   | refine LFresh.mk fun r => ?_
   | (show SQ _ _ _ (.loop _) _ _ _; first | (refine goL tQ [] 7 (S := Nat) [3, 5] (fun i => ⟨[(6, .int .i64 i)], [], False, s.rf.length - i⟩) (0) ?_; rintro i hok; (try dsimp only at hok); (repeat (have hk := And.left hok; replace hok := And.right hok))))
   | (show SQ _ _ _ _ _ _ _; first | refine gX 9 [] [0, 1, 2, 3, 4, 5, 6, 7, 8, 9, 10, 11, 12, 13, 14, 15, 16, 17, 18, 19] [] ?_)
   | (show AtL _ _ _ _ _ _ _ _ _ _; first | (show AtL 7 _ _ _ _ _ _ _ _ _; exact goN 7 (S := Nat) (i + 1)) | (apply AtL.mk' (id := 7) (S := Nat) (i + 1); all_goals (try exact KC12)))
   | exact T.z
   | fail) <;> conv => whnf)
 all_goals (try dsimp only)
 all_goals first
   | ((show RL _ _ _; refine goR ?_); rfl)
   | (exfalso; omega)
   | trace_state
theorem r9ctx_c (c : Co) (s : Sn) (hW : 1 ≤ c.w ∧ c.w ≤ 8) : LP Tryz.prog G 83 [c.av, s.av] [] (fun _ => (.bool (s.ok c.m c.w), [])) := by
 cases h0 : s.act with
 | false => exact r9ctx_n c s h0
 | true =>
   cases hD : s.dy.ok with
   | false => exact r9ctx_d c s h0 hD
   | true =>
     by_cases hR : rngP c.m c.w s
     · exact r9ctx_t c s h0 hW hR hD
     · exact r9ctx_r c s h0 hW hR hD
end Go.Proofs.YtkfpgdckdmlhkaaGreatDoor
namespace Go.Proofs.YtkfpgdckdmlhkaaGreatDoor
open Go.RowKit
variable {G : Nat → AV}
def oksG (c : Co) (i : Nat) : Bool := (c.at i).ok c.m c.w && (List.range i).all fun k => !alikeR (c.at i) (c.at k)
theorem oks_e (c : Co) (n : Nat) : c.oks n = (List.range n).all (oksG c) := rfl
theorem rng_succ {g : Nat → Bool} (n : Nat) : (List.range (n + 1)).all g = ((List.range n).all g && g n) := by rw [List.range_succ, List.all_append]; simp
theorem rng_bad {g : Nat → Bool} {n : Nat} (i : Nat) (hi : i < n) (hb : g i = false) : (List.range n).all g = false := by
 cases hc : (List.range n).all g with
 | false => rfl
 | true =>
   rw [List.all_eq_true] at hc
   have := hc i (List.mem_range.2 hi)
   rw [hb] at this; cases this
theorem rng_get {g : Nat → Bool} {n i : Nat} (h : (List.range n).all g = true) (hi : i < n) : g i = true := List.all_eq_true.1 h i (List.mem_range.2 hi)
theorem ok_rf {m w : Int} {s : Sn} (h : s.ok m w = true) (ha : s.act = true) : 0 < s.rf.length := by
 have := ((Sn.ok_e ha).1 h).1.1
 omega
theorem oks_rf {c : Co} {n : Nat} (h : c.oks n = true) (j : Nat) (hj : j < n) (ha : (c.cx.getD j Sn.z).act = true) : 0 < (c.cx.getD j Sn.z).rf.length := by
 have h1 := rng_get h hj
 simp only [Bool.and_eq_true] at h1
 exact ok_rf h1.1 ha
theorem okc {c : Co} (h1 : shapR c.m c.w = true) (h2 : c.cx.length = 16) (h3 : c.oks 16 = true) : c.ok = true := by unfold Co.ok; rw [h1, h3, decide_eq_true h2]; rfl
theorem okc_n {c : Co} (h3 : c.oks 16 = false) : c.ok = false := by unfold Co.ok; rw [h3]; simp
theorem alike_y {s t : Sn} (h1 : s.act = true) (h2 : t.act = true) (h3 : sameR s.fst t.fst = true) : alikeR s t = true := by unfold alikeR; rw [h1, h2, h3]; rfl
theorem alike_n1 {s t : Sn} (h1 : s.act = false) : alikeR s t = false := by unfold alikeR; rw [h1]; rfl
theorem alike_n2 {s t : Sn} (h1 : t.act = false) : alikeR s t = false := by unfold alikeR; rw [h1]; simp
theorem alike_n3 {s t : Sn} (h1 : sameR s.fst t.fst = false) : alikeR s t = false := by unfold alikeR; rw [h1]; simp
theorem rf_i (c : Co) (i : Nat) (h : (c.at i).ok c.m c.w = true) (ha : (c.cx.getD i Sn.z).act = true) : 0 < (c.cx.getD i Sn.z).rf.length := ok_rf h ha
theorem rf_k (c : Co) (i k : Nat) (h : c.oks i = true) (hk : (k : Int) < (i : Int)) (ha : (c.cx.getD k Sn.z).act = true) : 0 < (c.cx.getD k Sn.z).rf.length := oks_rf h k (by omega) ha
theorem oks_next {c : Co} {i k : Nat} (h1 : c.oks i = true) (h2 : (c.at i).ok c.m c.w = true) (h3 : ((List.range k).all fun k => !alikeR (c.at i) (c.at k)) = true) (h4 : ¬ (k : Int) < (i : Int)) (h5 : k ≤ i) : c.oks (i + 1) = true := by
 obtain rfl : k = i := by omega
 rw [oks_e, rng_succ, ← oks_e, h1]
 unfold oksG
 rw [h2, h3]
 rfl
theorem oksG_1 {c : Co} {i : Nat} (h : (c.at i).ok c.m c.w = false) : oksG c i = false := by unfold oksG; rw [h]; rfl
theorem oksG_2 {c : Co} {i k : Nat} (hk : (k : Int) < (i : Int)) (h : alikeR (c.at i) (c.at k) = true) : oksG c i = false := by
 unfold oksG
 rw [rng_bad k (by omega) (by rw [h]; rfl), Bool.and_false]
attribute [local irreducible] sameR
theorem r9valid_t (c : Co) (hs : shapR c.m c.w = true) (hl : c.cx.length = 16) : LP Tryz.prog G 43 [c.av] [] (fun _ => (.bool c.ok, [])) := by
 have hs2 := hs
 simp only [shapR, decide_eq_true_eq] at hs2
 have hW : 1 ≤ c.w ∧ c.w ≤ 8 := ⟨hs2.2.2.1, hs2.2.2.2⟩
 have hctx : ∀ i : Nat, LP Tryz.prog G 83 [c.av, (c.cx.getD i Sn.z).av] [] (fun _ => (.bool ((c.at i).ok c.m c.w), [])) := fun i => r9ctx_c c _ hW
 have hsm : ∀ i k : Nat, LP Tryz.prog G 31 [((c.cx.getD i Sn.z).rf.getD 0 Hd.z).av, ((c.cx.getD k Sn.z).rf.getD 0 Hd.z).av] [] (fun _ => (.bool (sameR (c.at i).fst (c.at k).fst), [])) := fun i k => r6same_c _ _
 refine goW [] Tryz.func43 rfl ?_
 conv => whnf
 repeat' ((first
   | exact Nm.b 0
   | (refine And.intro ?_ ?_; (focus (first | exact rec_le Sn.cs_len (by assumption) | exact fld_le Sn.cs_len (by assumption) (by decide) | exact fld_le Sn.cs_len (by omega) (by decide) | exact rec0_le (rf_i c i (by assumption) (by assumption)) | exact rec0_le (rf_k c i k (by assumption) (by assumption) (by assumption)) | exact Int.ofNat_lt.2 (rf_i c i (by assumption) (by assumption)) | exact Int.ofNat_lt.2 (rf_k c i k (by assumption) (by assumption) (by assumption)) | exact T.kx | exact T.side)))
   | (show LC _ _ _ _ _ _; first | refine LC.pure (hctx i) ?_ | refine LC.pure (hsm i k) ?_ | refine goE ?_)
   | (show AC _ _ _; first | (refine AC.recd Sn.cs_len i Sn.z rfl rfl ?_ ?_; (focus omega)) | (refine AC.fld Sn.cs_len i 0 Sn.z _ rfl (by decide) (by omega) rfl ?_) | (refine AC.fld Sn.cs_len k 0 Sn.z _ rfl (by decide) (by omega) rfl ?_) | (refine AC.fld2 Sn.cs_len i 8 Sn.z _ rfl (by decide) (by omega) rfl ?_) | (refine AC.fld2 Sn.cs_len k 8 Sn.z _ rfl (by decide) (by omega) rfl ?_) | (refine AC.recd Hd.cs_len 0 Hd.z rfl rfl (rf_i c i (by assumption) (by assumption)) ?_) | (refine AC.recd Hd.cs_len 0 Hd.z rfl rfl (rf_k c i k (by assumption) (by assumption) (by assumption)) ?_))
   | refine T.s ?_
   | ((first | refine goB (fun h => ?_) (fun h => ?_) | refine AB.dec (fun h => ?_) (fun h => ?_) | refine AB.gen (fun h => ?_) (fun h => ?_)) <;> try (exfalso; omega))
   | refine LFresh.mk fun r => ?_
   | (show SQ _ _ _ (.loop _) _ _ _; first | (apply goO tQ [] 4 (S := Nat × Nm) [] (fun (i, a) => ⟨[(3, .int .i64 i), (1, .ptr a 0)], [(a, ⟨41, [iAV c.m, iAV c.w, snv c.cx]⟩)], i ≤ 16 ∧ c.oks i = true, 16 - i⟩) ((0, _)) (by rfl); (focus (all_goals (try exact KBE0); done)); rintro ⟨i, a⟩ hok; (try dsimp only at hok); (repeat (have hk := And.left hok; replace hok := And.right hok))) | (apply goO tQ [] 9 (S := Nat × Nm) [3] (fun (k, a) => ⟨[(4, .int .i64 k), (1, .ptr a 0)], [(a, ⟨41, [iAV c.m, iAV c.w, snv c.cx]⟩)], k ≤ i ∧ ((List.range k).all fun k => !alikeR (c.at i) (c.at k)) = true, i - k⟩) ((0, _)) (by rfl); (focus (all_goals (try exact KBE0); done)); rintro ⟨k, a⟩ hok; (try dsimp only at hok); (repeat (have hk := And.left hok; replace hok := And.right hok))))
   | (show SQ _ _ _ _ _ _ _; first | refine gX 6 [] [0, 1, 2, 3, 4, 5, 6, 7] [] ?_ | refine gX 11 [] [0, 1, 2, 3, 4, 5, 6, 7, 8, 9, 10, 11, 12, 13, 14, 15, 16, 17, 18, 19, 20, 21, 22, 23, 24, 25, 26, 27, 28, 29, 30, 31, 32] [] ?_)
   | (show AtL _ _ _ _ _ _ _ _ _ _; first | (apply AtL.mk' (id := 4) (S := Nat × Nm) ((i + 1, _)); all_goals (try exact KBE0); done) | (apply AtL.mk' (id := 9) (S := Nat × Nm) ((k + 1, _)); all_goals (try exact KBE0); done) | (apply AtL.mk' (id := 4) (S := Nat × Nm) ((i + 1, _)); all_goals (try exact KBE0)) | (apply AtL.mk' (id := 9) (S := Nat × Nm) ((k + 1, _)); all_goals (try exact KBE0)))
   | exact T.z
   | fail) <;> conv => whnf)
 all_goals (try dsimp only)
 all_goals first
   | ((show RL _ _ _; refine goR ?_); rw [okc_n (rng_bad i (by omega) (oksG_1 (by assumption)))])
   | ((show RL _ _ _; refine goR ?_); rw [okc_n (rng_bad i (by omega) (oksG_2 (k := k) (by assumption) (alike_y (by assumption) (by assumption) (by assumption))))])
   | ((show RL _ _ _; refine goR ?_); obtain rfl : i = 16 := (by omega); rw [okc hs hl (by assumption)])
   | trace_state
theorem r9valid_n (c : Co) (hs : ¬ (shapR c.m c.w = true ∧ c.cx.length = 16)) : LP Tryz.prog G 43 [c.av] [] (fun _ => (.bool c.ok, [])) := by
 have hf : c.ok = false := by
   unfold Co.ok
   cases h : shapR c.m c.w with
   | false => rfl
   | true => rw [decide_eq_false (fun e => hs ⟨h, e⟩)]; rfl
 rw [hf]
 simp only [shapR, decide_eq_true_eq] at hs
 refine goW [] Tryz.func43 rfl ?_
 conv => whnf
 repeat' ((first
   | exact Nm.b 0
   | refine T.s ?_
   | ((first | refine goB (fun h => ?_) (fun h => ?_) | refine AB.dec (fun h => ?_) (fun h => ?_) | refine AB.gen (fun h => ?_) (fun h => ?_)) <;> try (exfalso; omega))
   | refine LFresh.mk fun r => ?_
   | (show SQ _ _ _ (.loop _) _ _ _; first | (refine goL tQ [] 4 (S := Nat) [1] (fun i => ⟨[(3, .int .i64 i)], [], False, 16 - i⟩) (0) ?_; rintro i hok; (try dsimp only at hok); (repeat (have hk := And.left hok; replace hok := And.right hok))))
   | (show SQ _ _ _ _ _ _ _; first | refine gX 6 [] [0, 1, 2, 3, 4, 5, 6, 7] [] ?_ | refine gX 11 [] [0, 1, 2, 3, 4, 5, 6, 7, 8, 9, 10, 11, 12, 13, 14, 15, 16, 17, 18, 19, 20, 21, 22, 23, 24, 25, 26, 27, 28, 29, 30, 31, 32] [] ?_)
   | (show AtL _ _ _ _ _ _ _ _ _ _; first | (show AtL 4 _ _ _ _ _ _ _ _ _; exact goN 4 (S := Nat) (i + 1)) | (apply AtL.mk' (id := 4) (S := Nat) (i + 1); all_goals (try exact KC12)))
   | exact T.z
   | fail) <;> conv => whnf)
 all_goals (try dsimp only)
 all_goals first
   | ((show RL _ _ _; refine goR ?_); rfl)
   | (exfalso; omega)
   | trace_state
theorem r9valid_c (c : Co) : LP Tryz.prog G 43 [c.av] [] (fun _ => (.bool c.ok, [])) := by
 by_cases hs : shapR c.m c.w = true ∧ c.cx.length = 16
 · exact r9valid_t c hs.1 hs.2
 · exact r9valid_n c hs
end Go.Proofs.YtkfpgdckdmlhkaaGreatDoor
namespace Go.Proofs.YtkfpgdckdmlhkaaGreatDoor
open Go.RowKit
section
variable {P : Program} {G : Nat → AV} {N : Nat} {e : Env} {l : LS} {σ σ0 : Store} {w0 w : World} {a : Act}
theorem Rel.dummy (t : TypeId) (h : Rel G N e σ σ0 w0 a w) {k : Nat} (hk : σ (.v k) = none) : Rel G N e (upd σ (.v k) ⟨t, []⟩) σ0 w0 a w := by
 have hst : Stp σ w (upd σ (.v k) ⟨t, []⟩) w := Stp.forget _ _ w fun b hb => by rw [upd_ne _ _ (by simp)]; exact hb
 refine ⟨h.n, h.d, fun x => (h.env x).mono hst, ⟨fun q c hq => ?_, fun m c hm => ?_, fin_upd h.mem.fin _ _⟩, h.st.trans hst, h.glob.mono hst⟩
 · rw [upd_ne _ _ (by simp)] at hq
   obtain ⟨cur, k1, k2, k3⟩ := h.mem.pl q c hq
   exact ⟨cur, k1, k2, fun i hi => (k3 i hi).mono hst⟩
 · by_cases hmk : m = k
   · subst hmk; rw [upd_same] at hm; cases hm; rfl
   · rw [upd_ne _ _ (by simp; exact hmk)] at hm
     exact h.mem.vl m c hm
theorem SQ.dummy (t : TypeId) {c : Code} {Q : Exit → Env → LS → Prop} (h : ∀ q, SQ P G N c Q e ((q, ⟨t, []⟩) :: l)) : SQ P G N c Q e l := by
 refine ⟨fun φ hs => ⟨fun σ0 w0 a w hr => ?_⟩⟩
 obtain ⟨B, hB⟩ := hr.mem.fin
 have hk := hB B (Nat.le_refl _)
 exact ((h (.v B)).run φ (hs.new hk _)).run σ0 w0 a w (hr.dummy t hk)
theorem LFs.fm {α : Type} {F : List Nm} {f g : α → List AV} (h : ∀ x, LFs l F (f x) (g x)) : ∀ xs : List α, LFs l F (xs.flatMap f) (xs.flatMap g)
 | [] => trivial
 | x :: xs => by rw [List.flatMap_cons, List.flatMap_cons]; exact LFs.app (h x) (LFs.fm h xs)
theorem LFs.same {F : List Nm} : ∀ xs : List AV, LFs l F xs xs
 | [] => trivial
 | _ :: xs => ⟨.eq rfl, LFs.same xs⟩
end
end Go.Proofs.YtkfpgdckdmlhkaaGreatDoor
