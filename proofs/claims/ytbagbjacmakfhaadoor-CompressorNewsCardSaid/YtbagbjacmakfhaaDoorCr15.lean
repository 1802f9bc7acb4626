/-
  Contracts of the functions that the laws reach.
-/
import Derived.Test.YtbagbjacmakfhaaDoorCr01
import Derived.Test.YtbagbjacmakfhaaDoorCr02
import Derived.Test.YtbagbjacmakfhaaDoorCr03
import Derived.Test.YtbagbjacmakfhaaDoorCr04
import Derived.Test.YtbagbjacmakfhaaDoorCr05
import Derived.Test.YtbagbjacmakfhaaDoorCr06
import Derived.Test.YtbagbjacmakfhaaDoorCr07
import Derived.Test.YtbagbjacmakfhaaDoorCr08
import Derived.Test.YtbagbjacmakfhaaDoorCr09
import Derived.Test.YtbagbjacmakfhaaDoorCr11
import Derived.Test.YtbagbjacmakfhaaDoorCr12
import Derived.Test.YtbagbjacmakfhaaDoorCr13
import Derived.Test.YtbagbjacmakfhaaDoorCr14
set_option maxHeartbeats 8000000
set_option linter.all false
namespace Go.Proofs.YtbagbjacmakfhaaDoor
open Go.RowKit
variable {G : Nat → AV}
def kG (m w : Int) (s : Sn) : Prop := 1 ≤ s.rf.length ∧ (s.rf.length : Int) ≤ xC m w ∧ (0 ≤ s.ser ∧ s.ser ≤ s.rf.length) ∧ (0 ≤ s.full ∧ s.full ≤ w) ∧ (0 ≤ s.refr ∧ s.refr ≤ w) ∧ ¬ (0 < s.full ∧ 0 < s.refr) ∧ (0 ≤ s.sin ∧ s.sin ≤ 32) ∧ (0 ≤ s.lng ∧ s.lng ≤ 3)
def jU (s : Sn) (r : Hd) : Bool := r.ok && qo r s.fst
def wO (s : Sn) : Bool := decide (s.fst.k = 2 ∨ s.dy = Dy.z)
theorem inR_iff {n m : Int} : inR n m = true ↔ 0 ≤ n ∧ n ≤ m := xe n m
theorem Sn.ok_e {m w : Int} {s : Sn} (h : s.act = true) : s.ok m w = true ↔ kG m w s ∧ s.dy.ok = true ∧ s.rf.all (jU s) = true ∧ wO s = true := by
 unfold Sn.ok kG jU wO
 rw [if_pos h]
 simp only [Bool.and_eq_true, decide_eq_true_eq, inR_iff]
 constructor
 · rintro ⟨⟨a1, a2⟩, a3, a4, a5, a6, a7, a8, a9, a10, a11⟩
   exact ⟨⟨a1, a2, a3, a4, a5, a6, a7, a8⟩, a9, a11, a10⟩
 · rintro ⟨⟨a1, a2, a3, a4, a5, a6, a7, a8⟩, a9, a11, a10⟩
   exact ⟨⟨a1, a2⟩, a3, a4, a5, a6, a7, a8, a9, a10, a11⟩
theorem Sn.ok_f {m w : Int} {s : Sn} (h : s.act = true) (hn : ¬ (kG m w s ∧ s.dy.ok = true ∧ s.rf.all (jU s) = true ∧ wO s = true)) : s.ok m w = false := by
 rw [← Sn.ok_e h] at hn
 simpa using hn
theorem Dy.eqs (a b : Dy) : qH [(a.st, b.st), (a.fo, b.fo)] = decide (a = b) := by
 obtain ⟨a1, a2⟩ := a
 obtain ⟨b1, b2⟩ := b
 rw [Bool.eq_iff_iff]
 simp [qH]
theorem emptyR_e (s : Sn) : jg s = (decide (s.full = 0) && (decide (s.refr = 0) && (decide (s.ser = 0) && (decide (s.sin = 0) && (decide (s.lng = 0) && (decide (s.dy = Dy.z) && decide ((s.rf.length : Int) = 0))))))) := by
 rw [Bool.eq_iff_iff]
 simp [jg]
theorem Dy.eqz (d : Dy) : decide (d = Dy.z) = qH [(d.st, 0), (d.fo, 0)] := (Dy.eqs d Dy.z).symm
theorem r9ctx_n (c : Co) (s : Sn) (h0 : s.act = false) : LP Tryd.prog G 26 [c.av, s.av] [] (fun _ => (.bool (s.ok c.m c.w), [])) := by
 rw [show s.ok c.m c.w = jg s by unfold Sn.ok; rw [if_neg (by rw [h0]; decide)], emptyR_e, Dy.eqz]
 refine goW [] Tryd.func26 rfl ?_
 conv => whnf
 repeat' ((first | exact Nm.b 0 | refine T.s ?_ | ((first | apply goB | apply AB.dec | apply AB.gen) <;> intro h <;> try (exfalso; omega)) | refine LQ.mk fun r => ?_ | (show SQ _ _ _ _ _ _ _; first | refine gX 9 [] [0, 1, 2, 3, 4, 5, 6, 7, 8, 9, 10, 11, 12, 13, 14, 15, 16, 17, 18, 19] [] ?_) | exact T.z | fail) <;> conv => whnf)
 all_goals (try dsimp only)
 all_goals
   (show RL _ _ _; refine goR ?_)
   refine congrArg AV.bool ?_
   simp_all [ql]
   try (rw [Bool.eq_iff_iff]; simp)
attribute [local irreducible] qo
theorem refG_y {s : Sn} {r : Hd} (h1 : r.ok = true) (h2 : qo r s.fst = true) : jU s r = true := by unfold jU; rw [h1, h2]; rfl
theorem refG_n1 {s : Sn} {r : Hd} (h1 : r.ok = false) : jU s r = false := by unfold jU; rw [h1]; rfl
theorem refG_n2 {s : Sn} {r : Hd} (h2 : qo r s.fst = false) : jU s r = false := by unfold jU; rw [h2]; simp
theorem ok_bad {m w : Int} {s : Sn} (h : s.act = true) (i : Nat) (hi : i < s.rf.length) (hb : jU s (s.rf.getD i Hd.z) = false) : s.ok m w = false :=
 Sn.ok_f h fun hh => by rw [kw s.rf i Hd.z hi hb] at hh; exact Bool.noConfusion hh.2.2.1
theorem ok_rng {m w : Int} {s : Sn} (h : s.act = true) (hr : ¬ kG m w s) : s.ok m w = false := Sn.ok_f h fun hh => hr hh.1
theorem ok_dy {m w : Int} {s : Sn} (h : s.act = true) (hr : s.dy.ok = false) : s.ok m w = false := Sn.ok_f h fun hh => by rw [hr] at hh; exact Bool.noConfusion hh.2.1
theorem ok_end {m w : Int} {s : Sn} (h : s.act = true) (h1 : kG m w s) (h2 : s.dy.ok = true) (h3 : s.rf.all (jU s) = true) : s.ok m w = wO s := by
 cases he : wO s with
 | true => exact (Sn.ok_e h).2 ⟨h1, h2, h3, he⟩
 | false => exact Sn.ok_f h fun hh => by rw [he] at hh; exact Bool.noConfusion hh.2.2.2
theorem endR_y {s : Sn} (h : s.fst.k = 2) : wO s = true := decide_eq_true (.inl h)
theorem endR_n {s : Sn} (h : ¬ s.fst.k = 2) : wO s = qH [(s.dy.st, 0), (s.dy.fo, 0)] := by
 rw [← Dy.eqz]
 unfold wO
 rw [Bool.eq_iff_iff]
 simp [h]
theorem fld0_le {l : List Hd} (h : 0 < l.length) : 1 ≤ (List.drop 0 (List.drop (Int.toNat 0 * 15) (l.flatMap Hd.cs))).length := fld_le (i := 0) (j := 0) Hd.cs_len (by omega) (by decide)
theorem r9ctx_t (c : Co) (s : Sn) (h0 : s.act = true) (hW : 1 ≤ c.w ∧ c.w ≤ 8) (hR : kG c.m c.w s) (hD : s.dy.ok = true) : LP Tryd.prog G 26 [c.av, s.av] [] (fun _ => (.bool (s.ok c.m c.w), [])) := by
 have hv := kH (G := G) s.dy
 rw [hD] at hv
 have hR2 := hR
 unfold kG xC at hR2
 obtain ⟨a1, a2, a3, a4, a5, a6, a7, a8⟩ := hR2
 have hl : s.rf.length ≤ 100 := by split at a2 <;> omega
 have a2' : c.m = 3 ∧ (s.rf.length : Int) ≤ 32 ∨ ¬ c.m = 3 ∧ (s.rf.length : Int) ≤ c.w := by split at a2 <;> omega
 clear a2
 have hz : ∀ i : Nat, LP Tryd.prog G 27 [(s.rf.getD i Hd.z).av, (s.rf.getD 0 Hd.z).av] [] (fun _ => (.bool (qo (s.rf.getD i Hd.z) s.fst), [])) := fun i => vX _ _
 refine goW [] Tryd.func26 rfl ?_
 conv => whnf
 repeat' ((first | exact Nm.b 0 | (refine And.intro ?_ ?_; (focus (first | exact xt Hd.cs_len (by assumption) | exact xP (by omega) | exact fld0_le (by omega) | exact T.kx | exact T.side))) | (show LC _ _ _ _ _ _; first | refine LC.pure (hv) ?_ | refine LC.pure (r5valid_c (s.rf.getD i Hd.z)) ?_ | refine LC.pure (hz i) ?_ | refine goE ?_) | (show AC _ _ _; first | (refine AC.recd Hd.cs_len i Hd.z rfl rfl ?_ ?_; (focus omega)) | (refine AC.recd Hd.cs_len 0 Hd.z rfl rfl ?_ ?_; (focus omega)) | (refine AC.fld2 Hd.cs_len 0 0 Hd.z _ rfl (by decide) (by omega) rfl ?_)) | refine T.s ?_ | ((first | apply goB | apply AB.dec | apply AB.gen) <;> intro h <;> try (exfalso; omega)) | refine LQ.mk fun r => ?_ | (show SQ _ _ _ (.loop _) _ _ _; first | (apply goO tQ [] 7 (S := Nat × Nm × Nm) [5] (fun (i, a, b) => ⟨[(6, .int .i64 i), (2, .ptr a 0), (3, .ptr b 0)], [(a, ⟨24, [iAV c.m, iAV c.w, snv c.cx]⟩), (b, ⟨55, s.cs⟩)], i ≤ s.rf.length ∧ (s.rf.take i).all (jU s) = true, s.rf.length - i⟩) ((0, _, _)) (by rfl); (focus (all_goals (try exact KFF0); done)); rintro ⟨i, a, b⟩ ⟨hk, hok⟩)) | (show SQ _ _ _ _ _ _ _; first | refine gX 9 [] [0, 1, 2, 3, 4, 5, 6, 7, 8, 9, 10, 11, 12, 13, 14, 15, 16, 17, 18, 19] [] ?_) | (show AtL _ _ _ _ _ _ _ _ _ _; first | (apply AtL.mk' (id := 7) (S := Nat × Nm × Nm) ((i + 1, _, _)); all_goals (try exact KFF0); done) | (apply AtL.mk' (id := 7) (S := Nat × Nm × Nm) ((i + 1, _, _)); all_goals (try exact KFF0))) | exact T.z | fail) <;> conv => whnf)
 all_goals (try dsimp only)
 all_goals first
   | ((show RL _ _ _; refine goR ?_); rw [ok_bad h0 i (by omega) (refG_n1 (by assumption))])
   | ((show RL _ _ _; refine goR ?_); rw [ok_bad h0 i (by omega) (refG_n2 (by assumption))])
   | ((show RL _ _ _; refine goR ?_); rw [ok_end h0 hR hD (xK (by omega) hok), endR_y (by assumption)])
   | ((show RL _ _ _; refine goR ?_); rw [ok_end h0 hR hD (xK (by omega) hok), endR_n (by assumption)])
   | trace_state
theorem r9ctx_d (c : Co) (s : Sn) (h0 : s.act = true) (hD : s.dy.ok = false) : LP Tryd.prog G 26 [c.av, s.av] [] (fun _ => (.bool (s.ok c.m c.w), [])) := by
 have hv := kH (G := G) s.dy
 rw [hD] at hv
 rw [ok_dy h0 hD]
 refine goW [] Tryd.func26 rfl ?_
 conv => whnf
 repeat' ((first | exact Nm.b 0 | (show LC _ _ _ _ _ _; first | refine LC.pure (hv) ?_ | refine goE ?_) | refine T.s ?_ | ((first | apply goB | apply AB.dec | apply AB.gen) <;> intro h <;> try (exfalso; omega)) | refine LQ.mk fun r => ?_ | (show SQ _ _ _ _ _ _ _; first | refine gX 9 [] [0, 1, 2, 3, 4, 5, 6, 7, 8, 9, 10, 11, 12, 13, 14, 15, 16, 17, 18, 19] [] ?_) | exact T.z | fail) <;> conv => whnf)
 all_goals (try dsimp only)
 all_goals
   (show RL _ _ _; refine goR ?_)
   rfl
theorem r9ctx_r (c : Co) (s : Sn) (h0 : s.act = true) (hW : 1 ≤ c.w ∧ c.w ≤ 8) (hR : ¬ kG c.m c.w s) (hD : s.dy.ok = true) : LP Tryd.prog G 26 [c.av, s.av] [] (fun _ => (.bool (s.ok c.m c.w), [])) := by
 have hv := kH (G := G) s.dy
 rw [hD] at hv
 rw [ok_rng h0 hR]
 have hR2 : ¬ (1 ≤ s.rf.length ∧ (c.m = 3 ∧ (s.rf.length : Int) ≤ 32 ∨ ¬ c.m = 3 ∧ (s.rf.length : Int) ≤ c.w) ∧ (0 ≤ s.ser ∧ s.ser ≤ s.rf.length) ∧ (0 ≤ s.full ∧ s.full ≤ c.w) ∧ (0 ≤ s.refr ∧ s.refr ≤ c.w) ∧ ¬ (0 < s.full ∧ 0 < s.refr) ∧ (0 ≤ s.sin ∧ s.sin ≤ 32) ∧ (0 ≤ s.lng ∧ s.lng ≤ 3)) := by
   intro hh
   refine hR ⟨hh.1, ?_, hh.2.2⟩
   unfold xC
   split <;> omega
 clear hR
 refine goW [] Tryd.func26 rfl ?_
 conv => whnf
 repeat' ((first | exact Nm.b 0 | (show LC _ _ _ _ _ _; first | refine LC.pure (hv) ?_ | refine goE ?_) | refine T.s ?_ | ((first | apply goB | apply AB.dec | apply AB.gen) <;> intro h <;> try (exfalso; omega)) | refine LQ.mk fun r => ?_ | (show SQ _ _ _ (.loop _) _ _ _; first | (refine goL tQ [] 7 (S := Nat) [3, 5] (fun i => ⟨[(6, .int .i64 i)], [], False, s.rf.length - i⟩) (0) ?_; rintro i hok; (try dsimp only at hok))) | (show SQ _ _ _ _ _ _ _; first | refine gX 9 [] [0, 1, 2, 3, 4, 5, 6, 7, 8, 9, 10, 11, 12, 13, 14, 15, 16, 17, 18, 19] [] ?_) | (show AtL _ _ _ _ _ _ _ _ _ _; first | (show AtL 7 _ _ _ _ _ _ _ _ _; exact goN 7 (S := Nat) (i + 1)) | (apply AtL.mk' (id := 7) (S := Nat) (i + 1); all_goals (try exact KC12))) | exact T.z | fail) <;> conv => whnf)
 all_goals (try dsimp only)
 all_goals first
   | ((show RL _ _ _; refine goR ?_); rfl)
   | (exfalso; omega)
   | trace_state
theorem r9ctx_c (c : Co) (s : Sn) (hW : 1 ≤ c.w ∧ c.w ≤ 8) : LP Tryd.prog G 26 [c.av, s.av] [] (fun _ => (.bool (s.ok c.m c.w), [])) := by
 cases h0 : s.act with
 | false => exact r9ctx_n c s h0
 | true =>
   cases hD : s.dy.ok with
   | false => exact r9ctx_d c s h0 hD
   | true =>
     by_cases hR : kG c.m c.w s
     · exact r9ctx_t c s h0 hW hR hD
     · exact r9ctx_r c s h0 hW hR hD
end Go.Proofs.YtbagbjacmakfhaaDoor
