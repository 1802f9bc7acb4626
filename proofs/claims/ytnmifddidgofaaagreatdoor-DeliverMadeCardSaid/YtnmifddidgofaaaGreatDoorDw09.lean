/-
  Contracts of the functions that the laws reach.
-/
import Derived.Test.YtnmifddidgofaaaGreatDoorDw01
import Derived.Test.YtnmifddidgofaaaGreatDoorDw02
import Derived.Test.YtnmifddidgofaaaGreatDoorDw03
import Derived.Test.YtnmifddidgofaaaGreatDoorDw04
import Derived.Test.YtnmifddidgofaaaGreatDoorDw05
import Derived.Test.YtnmifddidgofaaaGreatDoorDw06
import Derived.Test.YtnmifddidgofaaaGreatDoorDw07
import Derived.Test.YtnmifddidgofaaaGreatDoorDw08
set_option maxHeartbeats 16000000
set_option linter.all false
namespace Go.Proofs.YtnmifddidgofaaaGreatDoor
open Go.RowKit
variable {G : Nat → AV}
def rnAV (x : In × Int) : AV := .tup [x.1.av, iAV x.2]
def newI (b t : Int) (k : Ky) : In × Int := if bitsOk b = true ∧ 0 ≤ t ∧ t ≤ 1000 then (if k.ok = true then (⟨b, k, 0, 0, 0, 0, t, []⟩, 0) else (inZ, 9)) else (inZ, 3)
def rkyI (i : In) (k : Ky) : In × Int := if i.ok = true then (if k.ok = true ∧ ¬ k.n = i.k.n then ({ i with k := k }, 0) else (inZ, 9)) else (inZ, 1)
def rstI (i : In) (k : Ky) : In × List (List UInt8) × Int := if (rkyI i k).2 = 0 then (⟨i.b, k, 0, 0, 0, 0, i.t, []⟩, i.h.map (·.d), 0) else (inZ, [], (rkyI i k).2)
theorem ret_zero2 {e : Int} {l : LS} : RetL (fun _ => (rnAV (inZ, e), [])) (.tup [.agg zIn, iAV e]) l :=
 RetL.frz [] (LF.tup ⟨LF.agg ⟨LF.eq rfl, LF.nils rfl rfl, LF.nils rfl rfl, LF.eq rfl, LF.eq rfl, LF.eq rfl, LF.eq rfl, LF.eq rfl, LF.eq rfl, LF.eq rfl, LF.eq rfl, LF.nils rfl rfl, trivial⟩, LF.eq rfl, trivial⟩) LSub.nil
theorem ret_new {b t : Int} {k : Ky} {e : Int} {l : LS} : RetL (fun _ => (rnAV (⟨b, k, 0, 0, 0, 0, t, []⟩, e), [])) (.tup [.agg (inC ⟨b, k, 0, 0, 0, 0, t, []⟩ .nils), iAV e]) l :=
 RetL.frz [] (LF.tup ⟨LF.agg ⟨LF.eq rfl, LF.eq rfl, LF.eq rfl, LF.eq rfl, LF.eq rfl, LF.eq rfl, LF.eq rfl, LF.eq rfl, LF.eq rfl, LF.eq rfl, LF.eq rfl, LF.nils rfl rfl, trivial⟩, LF.eq rfl, trivial⟩) LSub.nil
theorem ret_in {x : In} {q : Nm} {e : Int} {l : LS} {n : Nat} (hn : n = x.h.length) (h : LHas l q fun c _ _ => c.cs = x.h.flatMap Hl.cs) :
   RetL (fun _ => (rnAV (x, e), [])) (.tup [.agg (inC x (.vw q 0 n 2)), iAV e]) l := by
 subst hn
 have h3 : LEra l [q] (LSub []) := LHas.mono h fun _ _ _ _ => LSub.nil
 exact RetL.frz [q] (LF.tup ⟨LF.agg ⟨LF.eq rfl, LF.eq rfl, LF.eq rfl, LF.eq rfl, LF.eq rfl, LF.eq rfl, LF.eq rfl, LF.eq rfl, LF.eq rfl, LF.eq rfl, LF.eq rfl, LF.row InL.here (LHas.mono h fun c _ _ hc => ⟨by decide, by rw [hc]; exact hls_len _, rfl, hc.symm⟩), trivial⟩, LF.eq rfl, trivial⟩) h3
theorem ret_out {x : In} {n : Nat} {o : Nm} {outs : List (List UInt8)} {e : Int} {l : LS} (hn : n = outs.length) (h : LHas l o fun c' _ _ => c'.cs = outC outs) : RetL (fun _ => (rAV (x, outs, e), [])) (.tup [x.av, .vw o 0 n 1, iAV e]) l := by
 have h2 : LHas l o fun c _ _ => c.cs = outs.map bv ∧ n = outs.length := LHas.mono h fun _ _ _ h => ⟨h, hn⟩
 have h3 : LEra l [o] (LSub []) := LHas.mono h fun _ _ r h => LSub.nil
 exact RetL.frz [o] (LF.tup ⟨LF.eq rfl, LF.rowF InL.here h2, LF.eq rfl, trivial⟩) h3
theorem dnew_c (b t : Int) (k : Ky) : LSpec Tryz.prog G 18 [iAV b, iAV t, k.av] [] (fun _ => (rnAV (newI b t k), [])) := by
 have hb := cbits_c (G := G) b
 have hv := cvalid_c (G := G) k
 have hp := pclone_c (G := G) k
 unfold newI
 by_cases hc : bitsOk b = true ∧ 0 ≤ t ∧ t ≤ 1000
 · obtain ⟨c1, c2, c3⟩ := hc
   rw [if_pos ⟨c1, c2, c3⟩]
   rw [c1] at hb
   cases h2 : k.ok
   · rw [h2] at hv
     rw [if_neg (by decide)]
     refine goW [] Tryz.func18 rfl ?_
     conv => whnf
     repeat' ((first | (show LCall _ _ _ _ _ _; first | refine LCall.pure (hb) ?_ | refine LCall.pure (hv) ?_ | refine goE ?_) | refine T.s ?_ | ((first | apply goB | apply ABr.dec | apply ABr.gen) <;> intro h <;> try (exfalso; omega)) | refine LFresh.mk fun r => ?_ | exact T.z | fail) <;> conv => whnf)
     all_goals (try dsimp only)
     all_goals exact ret_zero2
   · rw [h2] at hv
     rw [if_pos rfl]
     refine goW [] Tryz.func18 rfl ?_
     conv => whnf
     repeat' ((first | (show LCall _ _ _ _ _ _; first | refine LCall.pure (hb) ?_ | refine LCall.pure (hv) ?_ | refine LCall.pure (hp h2) ?_ | refine goE ?_) | refine T.s ?_ | ((first | apply goB | apply ABr.dec | apply ABr.gen) <;> intro h <;> try (exfalso; omega)) | refine LFresh.mk fun r => ?_ | exact T.z | fail) <;> conv => whnf)
     all_goals (try dsimp only)
     all_goals exact ret_new
 · rw [if_neg hc]
   cases h1 : bitsOk b
   · rw [h1] at hb
     refine goW [] Tryz.func18 rfl ?_
     conv => whnf
     repeat' ((first | (show LCall _ _ _ _ _ _; first | refine LCall.pure (hb) ?_ | refine goE ?_) | refine T.s ?_ | ((first | apply goB | apply ABr.dec | apply ABr.gen) <;> intro h <;> try (exfalso; omega)) | refine LFresh.mk fun r => ?_ | exact T.z | fail) <;> conv => whnf)
     all_goals (try dsimp only)
     all_goals exact ret_zero2
   · rw [h1] at hb hc
     have hc2 : ¬ t < 0 → ¬ 1000 < t → False := fun h3 h4 => hc ⟨rfl, by omega, by omega⟩
     refine goW [] Tryz.func18 rfl ?_
     conv => whnf
     repeat' ((first | (show LCall _ _ _ _ _ _; first | refine LCall.pure (hb) ?_ | refine LCall.pure (hv) ?_ | refine goE ?_) | refine T.s ?_ | ((first | apply goB | apply ABr.dec | apply ABr.gen) <;> intro h <;> try (exfalso; omega)) | refine LFresh.mk fun r => ?_ | exact T.z | fail) <;> conv => whnf)
     all_goals (try dsimp only)
     all_goals first
       | exact ret_zero2
       | exact (hc2 (by assumption) (by assumption)).elim
theorem drekey_c (i : In) (k : Ky) (hl : i.h.length ≤ 100000) : LSpec Tryz.prog G 11 [i.av, k.av] [] (fun _ => (rnAV (rkyI i k), [])) := by
 have hv := dvalid_c (G := G) i hl
 have hk := cvalid_c (G := G) k
 unfold rkyI
 cases h1 : i.ok with
 | false =>
   rw [h1] at hv
   rw [if_neg (by decide)]
   refine goW [] Tryz.func11 rfl ?_
   conv => whnf
   repeat' ((first | (show LCall _ _ _ _ _ _; first | refine LCall.pure (hv) ?_ | refine goE ?_) | refine T.s ?_ | ((first | apply goB | apply ABr.dec | apply ABr.gen) <;> intro h <;> try (exfalso; omega)) | refine LFresh.mk fun r => ?_ | exact T.z | fail) <;> conv => whnf)
   all_goals (try dsimp only)
   all_goals exact ret_zero2
 | true =>
   have v := Vf.of h1
   rw [h1] at hv
   rw [if_pos rfl]
   have hc := dclone_o (G := G) i v.k hl (fun k hk => by have := (v.h k hk).2.2.2; omega)
   have hp := pclone_c (G := G) k
   by_cases hkn : k.ok = true ∧ ¬ k.n = i.k.n
   · rw [if_pos hkn]
     obtain ⟨h2, h3⟩ := hkn
     rw [h2] at hk
     refine goW [] Tryz.func11 rfl ?_
     conv => whnf
     repeat' ((first | (show LCall _ _ _ _ _ _; first | refine LCall.pure (hv) ?_ | refine LCall.pure (hk) ?_ | refine LCall.own (hc) ?_ | refine LCall.pure (hp h2) ?_ | refine goE ?_) | refine T.s ?_ | ((first | apply goB | apply ABr.dec | apply ABr.gen) <;> intro h <;> try (exfalso; omega)) | refine LFresh.mk fun r => ?_ | exact T.z | fail) <;> conv => whnf)
     all_goals (try dsimp only)
     all_goals exact ret_in rfl (by (repeat first | refine goH ?_ | apply LHas.here | apply LHas.next); rfl)
   · rw [if_neg hkn]
     cases h2 : k.ok
     · rw [h2] at hk
       refine goW [] Tryz.func11 rfl ?_
       conv => whnf
       repeat' ((first | (show LCall _ _ _ _ _ _; first | refine LCall.pure (hv) ?_ | refine LCall.pure (hk) ?_ | refine goE ?_) | refine T.s ?_ | ((first | apply goB | apply ABr.dec | apply ABr.gen) <;> intro h <;> try (exfalso; omega)) | refine LFresh.mk fun r => ?_ | exact T.z | fail) <;> conv => whnf)
       all_goals (try dsimp only)
       all_goals exact ret_zero2
     · rw [h2] at hk hkn
       have h3 : k.n = i.k.n := Classical.byContradiction fun h => hkn ⟨rfl, h⟩
       refine goW [] Tryz.func11 rfl ?_
       conv => whnf
       repeat' ((first | (show LCall _ _ _ _ _ _; first | refine LCall.pure (hv) ?_ | refine LCall.pure (hk) ?_ | refine goE ?_) | refine T.s ?_ | ((first | apply goB | apply ABr.dec | apply ABr.gen) <;> intro h <;> try (exfalso; omega)) | refine LFresh.mk fun r => ?_ | exact T.z | fail) <;> conv => whnf)
       all_goals (try dsimp only)
       all_goals exact ret_zero2
theorem drestart_c (i : In) (k : Ky) (hl : i.h.length ≤ 100000) : LSpec Tryz.prog G 16 [i.av, k.av] [] (fun _ => (rAV (rstI i k), [])) := by
 have hr := drekey_c (G := G) i k hl
 unfold rstI
 by_cases he : (rkyI i k).2 = 0
 · rw [if_pos he]
   have h1 : i.ok = true ∧ k.ok = true ∧ rkyI i k = ({ i with k := k }, 0) := by
     unfold rkyI at he ⊢
     by_cases h1 : i.ok = true
     · rw [if_pos h1] at he ⊢
       by_cases h2 : k.ok = true ∧ ¬ k.n = i.k.n
       · rw [if_pos h2]; exact ⟨h1, h2.1, rfl⟩
       · rw [if_neg h2] at he; exact absurd he (by decide)
     · rw [if_neg h1] at he; exact absurd he (by decide)
   obtain ⟨h1, h2, h3⟩ := h1
   have v := Vf.of h1
   rw [h3] at hr
   have hr : LSpec Tryz.prog G 11 [i.av, k.av] [] (fun _ => (.tup [.agg (inC { i with k := k } (.sl i.h.length (i.h.flatMap Hl.cs))), iAV 0], [])) := hr
   have hn := dnew_c (G := G) i.b i.t k
   rw [show newI i.b i.t k = (⟨i.b, k, 0, 0, 0, 0, i.t, []⟩, 0) by unfold newI; rw [if_pos ⟨v.b, v.t⟩, if_pos h2]] at hn
   refine goW [] Tryz.func16 rfl ?_
   conv => whnf
   repeat' ((first | (refine And.intro ?_ ?_; (focus (first | (show _ ≤ (List.drop _ (List.flatMap Hl.cs _)).length; rw [List.length_drop, hls_len]; (try dsimp only); omega) | exact T.kx | exact T.side))) | (show LCall _ _ _ _ _ _; first | refine LCall.pure (hr) ?_ | refine LCall.pure (hn) ?_ | refine goE ?_) | (show ACell _ _ _; first | (refine ACell.recd Hl.cs_len j Hl.z rfl rfl ?_ ?_; (focus omega))) | refine T.s ?_ | ((first | apply goB | apply ABr.dec | apply ABr.gen) <;> intro h <;> try (exfalso; omega)) | refine LFresh.mk fun r => ?_ | (show SWpL _ _ _ (.loop _) _ _ _; first | (apply goO tyOk [] 6 (S := Nat × Nm × Nm × Nm × Nm) [24, 25] (fun (j, b2, b3, b4, o) => ⟨[(2, .ptr b2 0), (3, .ptr b3 0), (4, .ptr b4 0), (9, .vw o 0 j 1), (26, .int .i64 j)], [(o, ⟨27, outC ((i.h.take j).map (·.d))⟩), (b2, ⟨32, i.cs⟩), (b3, ⟨29, [bv k.s, bv k.g, iAV k.n, iAV k.b, iAV k.d]⟩), (b4, ⟨32, zIn⟩)], j ≤ i.h.length, i.h.length - j⟩) ((0, _, _, _, _)) (by rfl); (focus ((repeat' first | exact trivial | (refine And.intro ?_ ?_) | exact LSub.nil | (with_reducible exact LSub.refl) | (apply LSub.cons; (repeat first | refine goH ?_ | apply LHas.here | apply LHas.next); refine And.intro ?_ ?_; (focus (try (first | (with_reducible rfl) | (refine congrArg (Pl.mk _) ?_; (first | rfl | (simp; done))) | rfl | (with_reducible refine congrArg (Pl.mk _) ?_))))) | assumption | (exact (out_succ [] i.h j (by omega)).symm) | (first | (focus (apply Eq.trans; (conv => lhs; whnf); (conv => rhs; whnf); done)) | rfl | ((conv => lhs; whnf); first | rfl | (refine congrArg (AV.int _) ?_; (exact T.num)) | (refine congrArg AV.bool ?_; (exact T.num)) | (refine vw_congr ?_; first | (exact T.num) | (first | rfl | (simp; done))) | (refine sl_congr ?_ ?_ <;> first | (exact T.num) | (first | rfl | (simp; done))) | (first | rfl | (simp; done)))) | (exact T.num) | (dsimp only; (exact T.num)) | (first | rfl | (simp; done))); done)); rintro ⟨j, b2, b3, b4, o⟩ hok; (try dsimp only at hok))) | (show SWpL _ _ _ _ _ _ _; first | refine SWpL.adopt 9 1 27 (by rfl) fun q => ?_) | (show AtL _ _ _ _ _ _ _ _ _ _; first | (apply AtL.mk' (id := 6) (S := Nat × Nm × Nm × Nm × Nm) ((j + 1, b2, b3, b4, _)); (repeat' first | exact trivial | (refine And.intro ?_ ?_) | exact LSub.nil | (with_reducible exact LSub.refl) | (apply LSub.cons; (repeat first | refine goH ?_ | apply LHas.here | apply LHas.next); refine And.intro ?_ ?_; (focus (try (first | (with_reducible rfl) | (refine congrArg (Pl.mk _) ?_; (first | rfl | (simp; done))) | rfl | (with_reducible refine congrArg (Pl.mk _) ?_))))) | assumption | (exact (out_succ [] i.h j (by omega)).symm) | (first | (focus (apply Eq.trans; (conv => lhs; whnf); (conv => rhs; whnf); done)) | rfl | ((conv => lhs; whnf); first | rfl | (refine congrArg (AV.int _) ?_; (exact T.num)) | (refine congrArg AV.bool ?_; (exact T.num)) | (refine vw_congr ?_; first | (exact T.num) | (first | rfl | (simp; done))) | (refine sl_congr ?_ ?_ <;> first | (exact T.num) | (first | rfl | (simp; done))) | (first | rfl | (simp; done)))) | (exact T.num) | (dsimp only; (exact T.num)) | (first | rfl | (simp; done))); done) | (apply AtL.mk' (id := 6) (S := Nat × Nm × Nm × Nm × Nm) ((j + 1, b2, b3, b4, _)); (repeat' first | exact trivial | (refine And.intro ?_ ?_) | exact LSub.nil | (with_reducible exact LSub.refl) | (apply LSub.cons; (repeat first | refine goH ?_ | apply LHas.here | apply LHas.next); refine And.intro ?_ ?_; (focus (try (first | (with_reducible rfl) | (refine congrArg (Pl.mk _) ?_; (first | rfl | (simp; done))) | rfl | (with_reducible refine congrArg (Pl.mk _) ?_))))) | assumption | (exact (out_succ [] i.h j (by omega)).symm) | (first | (focus (apply Eq.trans; (conv => lhs; whnf); (conv => rhs; whnf); done)) | rfl | ((conv => lhs; whnf); first | rfl | (refine congrArg (AV.int _) ?_; (exact T.num)) | (refine congrArg AV.bool ?_; (exact T.num)) | (refine vw_congr ?_; first | (exact T.num) | (first | rfl | (simp; done))) | (refine sl_congr ?_ ?_ <;> first | (exact T.num) | (first | rfl | (simp; done))) | (first | rfl | (simp; done)))) | (exact T.num) | (dsimp only; (exact T.num)) | (first | rfl | (simp; done))))) | exact T.z | fail) <;> conv => whnf)
   all_goals (try dsimp only)
   have e : j = i.h.length := by omega
   subst e
   refine ret_out (by simp) ?_
   (repeat first | refine goH ?_ | apply LHas.here | apply LHas.next)
   rw [List.take_length]
 · rw [if_neg he]
   have h3 : (rkyI i k).1 = inZ := by
     unfold rkyI at he ⊢
     split
     · split
       · rename_i h1 h2; rw [if_pos h1, if_pos h2] at he; exact absurd rfl he
       · rfl
     · rfl
   generalize rkyI i k = R at *
   obtain ⟨R, e⟩ := R
   simp only at h3 he ⊢
   subst h3
   refine goW [] Tryz.func16 rfl ?_
   conv => whnf
   repeat' ((first | (show LCall _ _ _ _ _ _; first | refine LCall.pure (hr) ?_ | refine goE ?_) | refine T.s ?_ | ((first | apply goB | apply ABr.dec | apply ABr.gen) <;> intro h <;> try (exfalso; omega)) | refine LFresh.mk fun r => ?_ | exact T.z | fail) <;> conv => whnf)
   all_goals (try dsimp only)
   all_goals first | exact ret_zero | trace_state
open Go.RowKit
variable {G : Nat → AV}
theorem Vf.to {i : In} (v : Vf i) : i.ok = true := by
 have hb := v.b
 have hf := v.f
 have hn := v.n
 have ht := v.t
 have hl := v.l
 have hm := v.m
 have hw := v.w
 have hh : heldOk i = true := by
   unfold heldOk
   rw [Bool.and_eq_true]
   refine ⟨?_, ?_⟩
   · unfold hldTo
     rw [List.all_eq_true]
     intro j hj
     have := v.h j (List.mem_range.1 hj)
     simpa [hlOk] using this
   · rcases v.e with ⟨h1, h2, h3⟩ | ⟨h1, h2⟩
     · rw [if_pos h1]
       have : iarith .sub .i64 i.n 1 = i.n - 1 := by (exact T.num)
       rw [this]
       exact decide_eq_true ⟨h2, h3⟩
     · rw [if_neg (by omega), h2]; rfl
 unfold In.ok
 rw [hb, v.k, hh, decide_eq_true (show 0 ≤ i.f ∧ i.f ≤ 1048576 ∧ i.f ≤ i.n ∧ i.n ≤ iarith .add .i64 i.f (winR i.b) ∧ i.n ≤ 1048576 ∧ 0 ≤ i.t ∧ i.t ≤ 1000 ∧ 0 ≤ i.l ∧ i.l ≤ i.t from ⟨hf.1, hf.2, hn.1, hw, hn.2, ht.1, ht.2, hl.1, hl.2⟩)]
 rcases hm with ⟨h1, h2⟩ | ⟨h1, h2, h3⟩
 · rw [if_neg (by omega), decide_eq_true h2]; rfl
 · rw [if_pos h1, decide_eq_true (show i.f < i.m ∧ i.m ≤ i.n from ⟨h2, h3⟩)]; rfl
def upTo (i : In) (k : Nat) : Prop := ∀ j, j < k → lastC i.f i.h j < (i.h.getD j Hl.z).c ∧ 1 ≤ (i.h.getD j Hl.z).d.length ∧ (i.h.getD j Hl.z).d.length ≤ 2048
theorem upTo_0 (i : In) : upTo i 0 := fun j h => by omega
theorem upTo_s {i : In} {k : Nat} (h : upTo i k) (h1 : ¬ (i.h.getD k Hl.z).c ≤ lastC i.f i.h k) (h2 : ¬ ((i.h.getD k Hl.z).d.length : Int) < 1) (h3 : ¬ 2048 < ((i.h.getD k Hl.z).d.length : Int)) : upTo i (k + 1) := fun j hj => by
 by_cases e : j = k
 · subst e; exact ⟨by omega, by omega, by omega⟩
 · exact h j (by omega)
theorem lastC_s (b : Int) (l : List Hl) (k : Nat) : lastC b l (k + 1) = (l.getD k Hl.z).c := rfl
theorem upTo_last {i : In} {k : Nat} (h : upTo i k) : ∀ j, j ≤ k → lastC i.f i.h j ≤ lastC i.f i.h k ∧ i.f ≤ lastC i.f i.h j := by
 induction k with
 | zero =>
   intro j hj
   have e : j = 0 := by omega
   subst e
   exact ⟨Int.le_refl _, Int.le_refl _⟩
 | succ k ih =>
   intro j hj
   have h1 := (h k (by omega)).1
   have ih := ih fun j hj => h j (by omega)
   have h3 := ih k (Nat.le_refl _)
   by_cases e : j = k + 1
   · subst e
     rw [lastC_s]
     omega
   · have := ih j (by omega)
     rw [lastC_s]
     omega
attribute [local irreducible] upTo
theorem upTo_at {i : In} {k : Nat} (h : upTo i k) : ∀ j, j < k → lastC i.f i.h j < (i.h.getD j Hl.z).c ∧ 1 ≤ (i.h.getD j Hl.z).d.length ∧ (i.h.getD j Hl.z).d.length ≤ 2048 := by with_unfolding_all exact h
theorem Vf.mk1 {i : In} (hb : bitsOk i.b = true) (hk : i.k.ok = true) (hf : 0 ≤ i.f ∧ i.f ≤ 1048576) (hn : i.f ≤ i.n ∧ i.n ≤ 1048576) (ht : 0 ≤ i.t ∧ i.t ≤ 1000) (hl : 0 ≤ i.l ∧ i.l ≤ i.t) (hm : (i.l = 0 ∧ i.m = 0) ∨ (0 < i.l ∧ i.f < i.m ∧ i.m ≤ i.n)) (hw : i.n ≤ iarith .add .i64 i.f (winR i.b))
   (hu : upTo i i.h.length) (he : (0 < i.h.length ∧ lastC i.f i.h i.h.length = i.n - 1) ∨ (i.h.length = 0 ∧ i.f = i.n)) : Vf i := by
 have hll := upTo_last hu
 have hup := upTo_at hu
 refine ⟨hb, hk, hf, hn, ht, hl, hm, hw, fun j hj => ?_, ?_⟩
 · obtain ⟨h1, h2, h3⟩ := hup j hj
   have h4 := (hll (j + 1) (by omega)).1
   rw [lastC_s] at h4
   rcases he with ⟨e1, e2⟩ | ⟨e1, e2⟩
   · exact ⟨h1, by rw [e2] at h4; omega, h2, h3⟩
   · omega
 · rcases he with ⟨e1, e2⟩ | ⟨e1, e2⟩
   · refine .inl ⟨?_, e2, e1⟩
     have h1 := (hup 0 e1).1
     have h2 := (hll 1 (by omega)).1
     rw [lastC_s, e2] at h2
     have h3 : lastC i.f i.h 0 = i.f := rfl
     omega
   · exact .inr ⟨e2, List.eq_nil_of_length_eq_zero e1⟩
theorem Vf.up {i : In} (v : Vf i) (k : Nat) (hk : k ≤ i.h.length) : upTo i k := by
 have : ∀ j, j < k → lastC i.f i.h j < (i.h.getD j Hl.z).c ∧ 1 ≤ (i.h.getD j Hl.z).d.length ∧ (i.h.getD j Hl.z).d.length ≤ 2048 := fun j hj => by
   obtain ⟨h1, h2, h3, h4⟩ := v.h j (by omega); exact ⟨h1, h3, h4⟩
 with_unfolding_all exact this
theorem win_e {b : Int} (hb : bitsOk b = true) : IntKind.i64.wrap (1 * 2 ^ min (IntKind.u64.wrap (iarith .sub .i64 b 1)).toNat IntKind.i64.bits) = winR b := by
 unfold winR
 congr 3
 rcases bits_cases hb with rfl | rfl | rfl | rfl | rfl <;> rfl
theorem sub1 {n : Int} (h : 0 ≤ n ∧ n ≤ 1048576) : iarith .sub .i64 n 1 = n - 1 := by (exact T.num)
theorem rvalid17_c (i : In) (hl : i.h.length ≤ 100000) : LSpec Tryz.prog G 45 [i.av] [] (fun _ => (.bool i.ok, [])) := by
 have hb := rbits_c (G := G) i.b
 have hk := rvalid_c (G := G) i.k
 cases h1 : bitsOk i.b with
 | false =>
   rw [h1] at hb
   rw [show i.ok = false from Bool.eq_false_iff.2 fun h => by have := (Vf.of h).b; rw [h1] at this; cases this]
   refine goW [] Tryz.func45 rfl ?_
   conv => whnf
   repeat' ((first | (show LCall _ _ _ _ _ _; first | refine LCall.pure (hb) ?_ | refine goE ?_) | refine T.s ?_ | ((first | apply goB | apply ABr.dec | apply ABr.gen) <;> intro h <;> try (exfalso; omega)) | refine LFresh.mk fun r => ?_ | exact T.z | refine ⟨_, rfl, rfl, ?_⟩ | fail) <;> conv => whnf)
   all_goals (try dsimp only)
   all_goals ((show RetL _ _ _; refine goR ?_); rfl)
 | true =>
   rw [h1] at hb
   cases h2 : i.k.ok with
   | false =>
     rw [h2] at hk
     rw [show i.ok = false from Bool.eq_false_iff.2 fun h => by have := (Vf.of h).k; rw [h2] at this; cases this]
     refine goW [] Tryz.func45 rfl ?_
     conv => whnf
     repeat' ((first | (show LCall _ _ _ _ _ _; first | refine LCall.pure (hb) ?_ | refine LCall.pure (hk) ?_ | refine goE ?_) | refine T.s ?_ | ((first | apply goB | apply ABr.dec | apply ABr.gen) <;> intro h <;> try (exfalso; omega)) | refine LFresh.mk fun r => ?_ | exact T.z | refine ⟨_, rfl, rfl, ?_⟩ | fail) <;> conv => whnf)
     all_goals (try dsimp only)
     all_goals ((show RetL _ _ _; refine goR ?_); rfl)
   | true =>
     rw [h2] at hk
     have hW := win_e h1
     have hN : i.ok = true → Vf i := Vf.of
     have h0 := upTo_0 i
     refine goW [] Tryz.func45 rfl ?_
     conv => whnf
     repeat' ((first | (refine And.intro ?_ ?_; (focus (first | (show _ ≤ (List.drop _ (List.flatMap Hl.cs _)).length; rw [List.length_drop, hls_len]; (try dsimp only); omega) | exact T.kx | exact T.side))) | (show LCall _ _ _ _ _ _; first | refine LCall.pure (hb) ?_ | refine LCall.pure (hk) ?_ | refine goE ?_) | (show ACell _ _ _; first | (refine ACell.recd Hl.cs_len k Hl.z rfl rfl ?_ ?_; (focus omega))) | refine T.s ?_ | ((first | apply goB | apply ABr.dec | apply ABr.gen) <;> intro h) | refine LFresh.mk fun r => ?_ | (show SWpL _ _ _ (.loop _) _ _ _; first | (apply goO tyOk [] 7 (S := Nat × Nm) [] (fun (k, q) => ⟨[(1, .ptr q 0), (3, .int .i64 (lastC i.f i.h k)), (4, .int .i64 k)], [(q, ⟨32, i.cs⟩)], k ≤ i.h.length ∧ upTo i k, i.h.length - k⟩) ((0, _)) (by rfl); (focus ((repeat' first | exact trivial | (refine And.intro ?_ ?_) | exact LSub.nil | (with_reducible exact LSub.refl) | (apply LSub.cons; (repeat first | refine goH ?_ | apply LHas.here | apply LHas.next); refine And.intro ?_ ?_; (focus (try (first | (with_reducible rfl) | (refine congrArg (Pl.mk _) ?_; (first | rfl | (simp; done))) | rfl | (with_reducible refine congrArg (Pl.mk _) ?_))))) | assumption | (exact h0) | (exact upTo_s (by assumption) (by assumption) (by assumption) (by assumption)) | (first | (focus (apply Eq.trans; (conv => lhs; whnf); (conv => rhs; whnf); done)) | rfl | ((conv => lhs; whnf); first | rfl | (refine congrArg (AV.int _) ?_; (exact T.num)) | (refine congrArg AV.bool ?_; (exact T.num)) | (refine vw_congr ?_; first | (exact T.num) | (first | rfl | (simp; done))) | (refine sl_congr ?_ ?_ <;> first | (exact T.num) | (first | rfl | (simp; done))) | (first | rfl | (simp; done)))) | (exact T.num) | (dsimp only; (exact T.num)) | (first | rfl | (simp; done))); done)); rintro ⟨k, q⟩ ⟨hk, hok⟩)) | (show AtL _ _ _ _ _ _ _ _ _ _; first | (apply AtL.mk' (id := 7) (S := Nat × Nm) ((k + 1, _)); (repeat' first | exact trivial | (refine And.intro ?_ ?_) | exact LSub.nil | (with_reducible exact LSub.refl) | (apply LSub.cons; (repeat first | refine goH ?_ | apply LHas.here | apply LHas.next); refine And.intro ?_ ?_; (focus (try (first | (with_reducible rfl) | (refine congrArg (Pl.mk _) ?_; (first | rfl | (simp; done))) | rfl | (with_reducible refine congrArg (Pl.mk _) ?_))))) | assumption | (exact h0) | (exact upTo_s (by assumption) (by assumption) (by assumption) (by assumption)) | (first | (focus (apply Eq.trans; (conv => lhs; whnf); (conv => rhs; whnf); done)) | rfl | ((conv => lhs; whnf); first | rfl | (refine congrArg (AV.int _) ?_; (exact T.num)) | (refine congrArg AV.bool ?_; (exact T.num)) | (refine vw_congr ?_; first | (exact T.num) | (first | rfl | (simp; done))) | (refine sl_congr ?_ ?_ <;> first | (exact T.num) | (first | rfl | (simp; done))) | (first | rfl | (simp; done)))) | (exact T.num) | (dsimp only; (exact T.num)) | (first | rfl | (simp; done))); done) | (apply AtL.mk' (id := 7) (S := Nat × Nm) ((k + 1, _)); (repeat' first | exact trivial | (refine And.intro ?_ ?_) | exact LSub.nil | (with_reducible exact LSub.refl) | (apply LSub.cons; (repeat first | refine goH ?_ | apply LHas.here | apply LHas.next); refine And.intro ?_ ?_; (focus (try (first | (with_reducible rfl) | (refine congrArg (Pl.mk _) ?_; (first | rfl | (simp; done))) | rfl | (with_reducible refine congrArg (Pl.mk _) ?_))))) | assumption | (exact h0) | (exact upTo_s (by assumption) (by assumption) (by assumption) (by assumption)) | (first | (focus (apply Eq.trans; (conv => lhs; whnf); (conv => rhs; whnf); done)) | rfl | ((conv => lhs; whnf); first | rfl | (refine congrArg (AV.int _) ?_; (exact T.num)) | (refine congrArg AV.bool ?_; (exact T.num)) | (refine vw_congr ?_; first | (exact T.num) | (first | rfl | (simp; done))) | (refine sl_congr ?_ ?_ <;> first | (exact T.num) | (first | rfl | (simp; done))) | (first | rfl | (simp; done)))) | (exact T.num) | (dsimp only; (exact T.num)) | (first | rfl | (simp; done))))) | exact T.z | refine ⟨_, rfl, rfl, ?_⟩ | fail) <;> conv => whnf)
     all_goals (try dsimp only)
     all_goals
       (show RetL _ _ _; refine goR ?_)
       refine congrArg AV.bool ?_
       (try simp only [Bool.false_eq_true, if_false] at *)
       first
         | (refine (Bool.eq_false_iff.2 fun hx => ?_).symm
            have v := hN hx
            clear hN
            have q1 := v.f
            have q2 := v.n
            have q3 := v.t
            have q4 := v.l
            have q5 := v.m
            have q6 := v.w
            rw [← hW] at q6
            first
              | omega
              | (have q7 := v.h k (by omega); omega))
         | (have hsub := sub1 (n := i.n) (by omega)
            have hkl : k = i.h.length := (by omega)
            subst hkl
            rw [Bool.eq_iff_iff]
            constructor
            · intro hx
              simp only [icmp, beq_iff_eq, decide_eq_true_eq] at hx
              exact Vf.to (Vf.mk1 h1 h2 (by omega) (by omega) (by omega) (by omega) (by omega) (by rw [← hW]; omega) (by assumption) (by omega))
            · intro hx
              have q := (hN hx).e
              simp only [icmp, beq_iff_eq, decide_eq_true_eq]
              rcases q with ⟨g1, g2, g3⟩ | ⟨g1, g2⟩
              · omega
              · have g3 : i.h.length = 0 := (by rw [g2]; rfl)
                omega)
         | trace_state
end Go.Proofs.YtnmifddidgofaaaGreatDoor
namespace Go.Proofs.YtnmifddidgofaaaGreatDoor
open Go.RowKit
variable {G : Nat → AV}
theorem rnew17_c (b t : Int) (k : Ky) : LSpec Tryz.prog G 19 [iAV b, iAV t, k.av] [] (fun _ => (rnAV (newI b t k), [])) := by
 have hb := rbits_c (G := G) b
 have hv := rvalid_c (G := G) k
 have hp := rcopy_c (G := G) k
 unfold newI
 by_cases hc : bitsOk b = true ∧ 0 ≤ t ∧ t ≤ 1000
 · obtain ⟨c1, c2, c3⟩ := hc
   rw [if_pos ⟨c1, c2, c3⟩]
   rw [c1] at hb
   cases h2 : k.ok
   · rw [h2] at hv
     rw [if_neg (by decide)]
     refine goW [] Tryz.func19 rfl ?_
     conv => whnf
     repeat' ((first | (show LCall _ _ _ _ _ _; first | refine LCall.pure (hb) ?_ | refine LCall.pure (hv) ?_ | refine goE ?_) | refine T.s ?_ | ((first | apply goB | apply ABr.dec | apply ABr.gen) <;> intro h <;> try (exfalso; omega)) | refine LFresh.mk fun r => ?_ | exact T.z | fail) <;> conv => whnf)
     all_goals (try dsimp only)
     all_goals exact ret_zero2
   · rw [h2] at hv
     rw [if_pos rfl]
     refine goW [] Tryz.func19 rfl ?_
     conv => whnf
     repeat' ((first | (show LCall _ _ _ _ _ _; first | refine LCall.pure (hb) ?_ | refine LCall.pure (hv) ?_ | refine LCall.pure (hp h2) ?_ | refine goE ?_) | refine T.s ?_ | ((first | apply goB | apply ABr.dec | apply ABr.gen) <;> intro h <;> try (exfalso; omega)) | refine LFresh.mk fun r => ?_ | exact T.z | fail) <;> conv => whnf)
     all_goals (try dsimp only)
     all_goals exact ret_new
 · rw [if_neg hc]
   cases h1 : bitsOk b
   · rw [h1] at hb
     refine goW [] Tryz.func19 rfl ?_
     conv => whnf
     repeat' ((first | (show LCall _ _ _ _ _ _; first | refine LCall.pure (hb) ?_ | refine goE ?_) | refine T.s ?_ | ((first | apply goB | apply ABr.dec | apply ABr.gen) <;> intro h <;> try (exfalso; omega)) | refine LFresh.mk fun r => ?_ | exact T.z | fail) <;> conv => whnf)
     all_goals (try dsimp only)
     all_goals exact ret_zero2
   · rw [h1] at hb hc
     have hc2 : ¬ t < 0 → ¬ 1000 < t → False := fun h3 h4 => hc ⟨rfl, by omega, by omega⟩
     refine goW [] Tryz.func19 rfl ?_
     conv => whnf
     repeat' ((first | (show LCall _ _ _ _ _ _; first | refine LCall.pure (hb) ?_ | refine LCall.pure (hv) ?_ | refine goE ?_) | refine T.s ?_ | ((first | apply goB | apply ABr.dec | apply ABr.gen) <;> intro h <;> try (exfalso; omega)) | refine LFresh.mk fun r => ?_ | exact T.z | fail) <;> conv => whnf)
     all_goals (try dsimp only)
     all_goals first
       | exact ret_zero2
       | exact (hc2 (by assumption) (by assumption)).elim
theorem hcs_succ (l : List Hl) (j : Nat) (h : j < l.length) : (l.take j).flatMap Hl.cs ++ (l.getD j Hl.z).cs = (l.take (j + 1)).flatMap Hl.cs := by
 have e : l.take (j + 1) = l.take j ++ [l.getD j Hl.z] := by
   rw [List.take_succ, List.getD_eq_getElem?_getD, List.getElem?_eq_getElem h]; rfl
 rw [e, List.flatMap_append]
 simp
theorem ACell.fldn {α : Type} {f : α → List AV} {n : Nat} {l : List α} {o m : Nat} {K : AV → Prop} (hf : ∀ x, (f x).length = n) (i j : Nat) (d : α) (v : AV) (ho : o = i * n) (hj : j + m ≤ n) (h : i < l.length) (hv : mkv false (((f (l.getD i d)).drop j).take m) = v) (k : K v) : ACell false ((List.drop j (List.drop o (l.flatMap f))).take m) K := by
 rw [List.drop_drop, ho]
 exact ACell.fld hf i j d v rfl hj h hv k
theorem r17copy_o (i : In) (hk : i.k.ok = true) (hl : i.h.length ≤ 100000) (hd : ∀ k, k < i.h.length → (i.h.getD k Hl.z).d.length ≤ 100000) : LSpec Tryz.prog G 46 [i.av] [] (fun q => (.agg (inC i (.vw q 0 i.h.length 2)), [(q, ⟨56, i.h.flatMap Hl.cs⟩)])) := by
 have hb : ∀ j : Nat, (j : Int) < (i.h.length : Int) → (i.h.getD j Hl.z).d.length ≤ 100000 := fun j h => hd j (by omega)
 refine goW [] Tryz.func46 rfl ?_
 conv => whnf
 repeat' ((first | exact Nm.b 0 | (refine And.intro ?_ ?_; (focus (first | ((try dsimp only); rw [List.length_drop, List.length_drop, hls_len]; omega) | ((try dsimp only); rw [hls_len, List.length_take]; omega) | exact hls_one _ | exact Nat.le_trans (Nat.mul_le_mul_right _ (hb j (by assumption))) (by decide) | exact Nat.le_trans (hb j (by assumption)) (by decide) | exact T.kx | exact T.side))) | (show LCall _ _ _ _ _ _; first | refine LCall.pure (rcopy_c _ hk) ?_ | refine goE ?_) | (show ACell _ _ _; first | (refine ACell.fldn Hl.cs_len j 0 Hl.z (iAV (i.h.getD j Hl.z).c) ?_ (by decide) ?_ rfl ?_; (focus ((try dsimp only); omega)); (focus omega)) | (refine ACell.fldn Hl.cs_len j 1 Hl.z (bv (i.h.getD j Hl.z).d) ?_ (by decide) ?_ rfl ?_; (focus ((try dsimp only); omega)); (focus omega))) | (show AList _ _; first | ((with_reducible show AList (List.take _ (List.drop 0 (List.flatMap _ _)) ++ _) _); refine AList.full ?_ ?_; (focus ((try dsimp only); rw [hls_len, List.length_take]; omega)))) | refine T.s ?_ | ((first | apply goB | apply ABr.dec | apply ABr.gen) <;> intro h <;> try (exfalso; omega)) | refine LFresh.mk fun r => ?_ | (show SWpL _ _ _ (.loop _) _ _ _; first | (refine goL tyOk [] 5 (S := Nat × Nm × Nm × Nm × Nm) [] (fun (j, a, z, o, q) => ⟨[(4, .int .i64 j), (1, .ptr a 0), (2, .ptr z 0), (3, .ptr o 0)], [(a, ⟨32, i.cs⟩), (z, ⟨32, zIn⟩), (o, ⟨32, inC i (.vw q 0 j 2)⟩), (q, ⟨56, (i.h.take j).flatMap Hl.cs⟩)], j ≤ i.h.length, i.h.length - j⟩) ((0, _, _, _, _)) ?_; rintro ⟨j, a, z, o, q⟩ hok; (try dsimp only at hok))) | (show SWpL _ _ _ _ _ _ _; first | (refine SWpL.adoptP r 11 2 56 ?_; (repeat first | refine goH ?_ | apply LHas.here | apply LHas.next); refine ⟨Nat.le_of_ble_eq_true rfl, rfl, fun q => ?_⟩) | (refine goD tyOk mixed 7 [1, 3, 7, 14] [0, 1, 2, 3, 4, 5, 6, 7, 8, 9, 10, 11, 12, 13, 14, 15, 16, 17, 18, 19] [a, o] (by kernel_rfl) ?_)) | (show AtL _ _ _ _ _ _ _ _ _ _; first | (rename_i pb pc; refine AtL.mkF (id := 5) (j + 1, a, z, o, r) ⟨?_, ?_, LTo.frz r [pb] ((i.h.take j).flatMap Hl.cs ++ (i.h.getD j Hl.z).cs) ?_, ?_⟩; rotate_left; rotate_left; (focus ((repeat first | refine goH ?_ | apply LHas.here | apply LHas.next); refine ⟨LFs.app (LFs.same _) ⟨.eq rfl, LF.rowF InL.here ?_, trivial⟩, ?_⟩; (focus ((repeat first | refine goH ?_ | apply LHas.here | apply LHas.next); exact ⟨rfl, rfl⟩)); (repeat first | refine goH ?_ | apply LHas.here | apply LHas.next); rw [hcs_succ i.h j (by omega)]; (repeat' first | exact trivial | (refine And.intro ?_ ?_) | exact LSub.nil | (with_reducible exact LSub.refl) | (apply LSub.cons; (repeat first | refine goH ?_ | apply LHas.here | apply LHas.next); refine And.intro ?_ ?_; (focus (try (first | (with_reducible rfl) | (refine congrArg (Pl.mk _) ?_; (first | rfl | (simp; done))) | rfl | (with_reducible refine congrArg (Pl.mk _) ?_))))) | assumption | (first | (focus (apply Eq.trans; (conv => lhs; whnf); (conv => rhs; whnf); done)) | rfl | ((conv => lhs; whnf); first | rfl | (refine congrArg (AV.int _) ?_; (exact T.num)) | (refine congrArg AV.bool ?_; (exact T.num)) | (refine vw_congr ?_; first | (exact T.num) | (first | rfl | (simp; done))) | (refine sl_congr ?_ ?_ <;> first | (exact T.num) | (first | rfl | (simp; done))) | (first | rfl | (simp; done)))) | (exact T.num) | (dsimp only; (exact T.num)) | (first | rfl | (simp; done))))); all_goals (repeat' first | exact trivial | (refine And.intro ?_ ?_) | exact LSub.nil | (with_reducible exact LSub.refl) | (apply LSub.cons; (repeat first | refine goH ?_ | apply LHas.here | apply LHas.next); refine And.intro ?_ ?_; (focus (try (first | (with_reducible rfl) | (refine congrArg (Pl.mk _) ?_; (first | rfl | (simp; done))) | rfl | (with_reducible refine congrArg (Pl.mk _) ?_))))) | assumption | (first | (focus (apply Eq.trans; (conv => lhs; whnf); (conv => rhs; whnf); done)) | rfl | ((conv => lhs; whnf); first | rfl | (refine congrArg (AV.int _) ?_; (exact T.num)) | (refine congrArg AV.bool ?_; (exact T.num)) | (refine vw_congr ?_; first | (exact T.num) | (first | rfl | (simp; done))) | (refine sl_congr ?_ ?_ <;> first | (exact T.num) | (first | rfl | (simp; done))) | (first | rfl | (simp; done)))) | (exact T.num) | (dsimp only; (exact T.num)) | (first | rfl | (simp; done)))) | (show AtL 5 _ _ _ _ _ _ _ _ _; exact goN 5 (S := Nat × Nm × Nm × Nm × Nm) ((j + 1, _, _, _, _))) | (apply AtL.mk' (id := 5) (S := Nat × Nm × Nm × Nm × Nm) ((j + 1, _, _, _, _)); (repeat' first | exact trivial | (refine And.intro ?_ ?_) | exact LSub.nil | (with_reducible exact LSub.refl) | (apply LSub.cons; (repeat first | refine goH ?_ | apply LHas.here | apply LHas.next); refine And.intro ?_ ?_; (focus (try (first | (with_reducible rfl) | (refine congrArg (Pl.mk _) ?_; (first | rfl | (simp; done))) | rfl | (with_reducible refine congrArg (Pl.mk _) ?_))))) | assumption | (first | (focus (apply Eq.trans; (conv => lhs; whnf); (conv => rhs; whnf); done)) | rfl | ((conv => lhs; whnf); first | rfl | (refine congrArg (AV.int _) ?_; (exact T.num)) | (refine congrArg AV.bool ?_; (exact T.num)) | (refine vw_congr ?_; first | (exact T.num) | (first | rfl | (simp; done))) | (refine sl_congr ?_ ?_ <;> first | (exact T.num) | (first | rfl | (simp; done))) | (first | rfl | (simp; done)))) | (exact T.num) | (dsimp only; (exact T.num)) | (first | rfl | (simp; done))))) | exact T.z | fail) <;> conv => whnf)
 all_goals (try dsimp only)
 all_goals
   have e : j = i.h.length := by omega
   subst e
   refine RetL.own q rfl ?_ ?_
   · (repeat first | refine goH ?_ | apply LHas.here | apply LHas.next); trivial
   · rw [List.take_length]
     (repeat' first | exact LSub.nil | (with_reducible exact LSub.refl) | (apply LSub.cons; (repeat first | refine goH ?_ | apply LHas.here | apply LHas.next); refine And.intro ?_ ?_; (focus (try (first | (with_reducible rfl) | (refine congrArg (Pl.mk _) ?_; (first | rfl | (simp; done))) | rfl | (with_reducible refine congrArg (Pl.mk _) ?_))))))
open Go.RowKit
variable {G : Nat → AV}
theorem r17rekey_c (i : In) (k : Ky) (hl : i.h.length ≤ 100000) : LSpec Tryz.prog G 20 [i.av, k.av] [] (fun _ => (rnAV (rkyI i k), [])) := by
 have hv := rvalid17_c (G := G) i hl
 have hk := rvalid_c (G := G) k
 unfold rkyI
 cases h1 : i.ok with
 | false =>
   rw [h1] at hv
   rw [if_neg (by decide)]
   refine goW [] Tryz.func20 rfl ?_
   conv => whnf
   repeat' ((first | (show LCall _ _ _ _ _ _; first | refine LCall.pure (hv) ?_ | refine goE ?_) | refine T.s ?_ | ((first | apply goB | apply ABr.dec | apply ABr.gen) <;> intro h <;> try (exfalso; omega)) | refine LFresh.mk fun r => ?_ | exact T.z | fail) <;> conv => whnf)
   all_goals (try dsimp only)
   all_goals exact ret_zero2
 | true =>
   have v := Vf.of h1
   rw [h1] at hv
   rw [if_pos rfl]
   have hc := r17copy_o (G := G) i v.k hl (fun k hk => by have := (v.h k hk).2.2.2; omega)
   have hp := rcopy_c (G := G) k
   by_cases hkn : k.ok = true ∧ ¬ k.n = i.k.n
   · rw [if_pos hkn]
     obtain ⟨h2, h3⟩ := hkn
     rw [h2] at hk
     refine goW [] Tryz.func20 rfl ?_
     conv => whnf
     repeat' ((first | (show LCall _ _ _ _ _ _; first | refine LCall.pure (hv) ?_ | refine LCall.pure (hk) ?_ | refine LCall.own (hc) ?_ | refine LCall.pure (hp h2) ?_ | refine goE ?_) | refine T.s ?_ | ((first | apply goB | apply ABr.dec | apply ABr.gen) <;> intro h <;> try (exfalso; omega)) | refine LFresh.mk fun r => ?_ | exact T.z | fail) <;> conv => whnf)
     all_goals (try dsimp only)
     all_goals exact ret_in rfl (by (repeat first | refine goH ?_ | apply LHas.here | apply LHas.next); rfl)
   · rw [if_neg hkn]
     cases h2 : k.ok
     · rw [h2] at hk
       refine goW [] Tryz.func20 rfl ?_
       conv => whnf
       repeat' ((first | (show LCall _ _ _ _ _ _; first | refine LCall.pure (hv) ?_ | refine LCall.pure (hk) ?_ | refine goE ?_) | refine T.s ?_ | ((first | apply goB | apply ABr.dec | apply ABr.gen) <;> intro h <;> try (exfalso; omega)) | refine LFresh.mk fun r => ?_ | exact T.z | fail) <;> conv => whnf)
       all_goals (try dsimp only)
       all_goals exact ret_zero2
     · rw [h2] at hk hkn
       have h3 : k.n = i.k.n := Classical.byContradiction fun h => hkn ⟨rfl, h⟩
       refine goW [] Tryz.func20 rfl ?_
       conv => whnf
       repeat' ((first | (show LCall _ _ _ _ _ _; first | refine LCall.pure (hv) ?_ | refine LCall.pure (hk) ?_ | refine goE ?_) | refine T.s ?_ | ((first | apply goB | apply ABr.dec | apply ABr.gen) <;> intro h <;> try (exfalso; omega)) | refine LFresh.mk fun r => ?_ | exact T.z | fail) <;> conv => whnf)
       all_goals (try dsimp only)
       all_goals exact ret_zero2
theorem rky_ok {i : In} {k : Ky} (he : (rkyI i k).2 = 0) : i.ok = true ∧ k.ok = true ∧ rkyI i k = ({ i with k := k }, 0) := by
 unfold rkyI at he ⊢
 by_cases h1 : i.ok = true
 · rw [if_pos h1] at he ⊢
   by_cases h2 : k.ok = true ∧ ¬ k.n = i.k.n
   · rw [if_pos h2]; exact ⟨h1, h2.1, rfl⟩
   · rw [if_neg h2] at he; exact absurd he (by decide)
 · rw [if_neg h1] at he; exact absurd he (by decide)
theorem rky_no {i : In} {k : Ky} (he : ¬ (rkyI i k).2 = 0) : (rkyI i k).1 = inZ := by
 unfold rkyI at he ⊢
 split
 · split
   · rename_i h1 h2; rw [if_pos h1, if_pos h2] at he; exact absurd rfl he
   · rfl
 · rfl
theorem ret_rst {b t : Int} {k : Ky} {n : Nat} {o : Nm} {outs : List (List UInt8)} {e : Int} {l : LS} (hn : n = outs.length) (h : LHas l o fun c' _ _ => c'.cs = outC outs) : RetL (fun _ => (rAV (⟨b, k, 0, 0, 0, 0, t, []⟩, outs, e), [])) (.tup [.agg (inC ⟨b, k, 0, 0, 0, 0, t, []⟩ .nils), .vw o 0 n 1, iAV e]) l := by
 have h2 : LHas l o fun c _ _ => c.cs = outs.map bv ∧ n = outs.length := LHas.mono h fun _ _ _ h => ⟨h, hn⟩
 have h3 : LEra l [o] (LSub []) := LHas.mono h fun _ _ r h => LSub.nil
 exact RetL.frz [o] (LF.tup ⟨LF.agg ⟨LF.eq rfl, LF.eq rfl, LF.eq rfl, LF.eq rfl, LF.eq rfl, LF.eq rfl, LF.eq rfl, LF.eq rfl, LF.eq rfl, LF.eq rfl, LF.eq rfl, LF.nils rfl rfl, trivial⟩, LF.rowF InL.here h2, LF.eq rfl, trivial⟩) h3
theorem r17restart_c (i : In) (k : Ky) (hl : i.h.length ≤ 100000) : LSpec Tryz.prog G 21 [i.av, k.av] [] (fun _ => (rAV (rstI i k), [])) := by
 have hr := r17rekey_c (G := G) i k hl
 unfold rstI
 by_cases he : (rkyI i k).2 = 0
 · rw [if_pos he]
   obtain ⟨h1, h2, h3⟩ := rky_ok he
   have v := Vf.of h1
   rw [h3] at hr
   have hr : LSpec Tryz.prog G 20 [i.av, k.av] [] (fun _ => (.tup [.agg (inC { i with k := k } (.sl i.h.length (i.h.flatMap Hl.cs))), iAV 0], [])) := hr
   refine goW [] Tryz.func21 rfl ?_
   conv => whnf
   repeat' ((first | (refine And.intro ?_ ?_; (focus (first | ((try dsimp only); rw [List.length_drop, List.length_drop, hls_len]; omega) | exact T.kx | exact T.side))) | (show LCall _ _ _ _ _ _; first | refine LCall.pure (hr) ?_ | refine goE ?_) | (show ACell _ _ _; first | (refine ACell.fldn Hl.cs_len j 1 Hl.z (bv (i.h.getD j Hl.z).d) ?_ (by decide) ?_ rfl ?_; (focus ((try dsimp only); omega)); (focus omega))) | refine T.s ?_ | ((first | apply goB | apply ABr.dec | apply ABr.gen) <;> intro h <;> try (exfalso; omega)) | refine LFresh.mk fun r => ?_ | (show SWpL _ _ _ (.loop _) _ _ _; first | (apply goO tyOk [] 6 (S := Nat × Nm × Nm × Nm) [] (fun (j, b4, b7, o) => ⟨[(4, .ptr b4 0), (7, .ptr b7 0), (9, .vw o 0 j 1), (10, .int .i64 j)], [(o, ⟨27, outC ((i.h.take j).map (·.d))⟩), (b7, ⟨32, inC { i with k := k } (.sl i.h.length (i.h.flatMap Hl.cs))⟩), (b4, ⟨32, zIn⟩)], j ≤ i.h.length, i.h.length - j⟩) ((0, _, _, _)) (by rfl); (focus ((repeat' first | exact trivial | (refine And.intro ?_ ?_) | exact LSub.nil | (with_reducible exact LSub.refl) | (apply LSub.cons; (repeat first | refine goH ?_ | apply LHas.here | apply LHas.next); refine And.intro ?_ ?_; (focus (try (first | (with_reducible rfl) | (refine congrArg (Pl.mk _) ?_; (first | rfl | (simp; done))) | rfl | (with_reducible refine congrArg (Pl.mk _) ?_))))) | assumption | (exact (out_succ [] i.h j (by omega)).symm) | (first | (focus (apply Eq.trans; (conv => lhs; whnf); (conv => rhs; whnf); done)) | rfl | ((conv => lhs; whnf); first | rfl | (refine congrArg (AV.int _) ?_; (exact T.num)) | (refine congrArg AV.bool ?_; (exact T.num)) | (refine vw_congr ?_; first | (exact T.num) | (first | rfl | (simp; done))) | (refine sl_congr ?_ ?_ <;> first | (exact T.num) | (first | rfl | (simp; done))) | (first | rfl | (simp; done)))) | (exact T.num) | (dsimp only; (exact T.num)) | (first | rfl | (simp; done))); done)); rintro ⟨j, b4, b7, o⟩ hok; (try dsimp only at hok))) | (show SWpL _ _ _ _ _ _ _; first | refine SWpL.adopt 9 1 27 (by rfl) fun q => ?_) | (show AtL _ _ _ _ _ _ _ _ _ _; first | (apply AtL.mk' (id := 6) (S := Nat × Nm × Nm × Nm) ((j + 1, b4, b7, _)); (repeat' first | exact trivial | (refine And.intro ?_ ?_) | exact LSub.nil | (with_reducible exact LSub.refl) | (apply LSub.cons; (repeat first | refine goH ?_ | apply LHas.here | apply LHas.next); refine And.intro ?_ ?_; (focus (try (first | (with_reducible rfl) | (refine congrArg (Pl.mk _) ?_; (first | rfl | (simp; done))) | rfl | (with_reducible refine congrArg (Pl.mk _) ?_))))) | assumption | (exact (out_succ [] i.h j (by omega)).symm) | (first | (focus (apply Eq.trans; (conv => lhs; whnf); (conv => rhs; whnf); done)) | rfl | ((conv => lhs; whnf); first | rfl | (refine congrArg (AV.int _) ?_; (exact T.num)) | (refine congrArg AV.bool ?_; (exact T.num)) | (refine vw_congr ?_; first | (exact T.num) | (first | rfl | (simp; done))) | (refine sl_congr ?_ ?_ <;> first | (exact T.num) | (first | rfl | (simp; done))) | (first | rfl | (simp; done)))) | (exact T.num) | (dsimp only; (exact T.num)) | (first | rfl | (simp; done))); done) | (apply AtL.mk' (id := 6) (S := Nat × Nm × Nm × Nm) ((j + 1, b4, b7, _)); (repeat' first | exact trivial | (refine And.intro ?_ ?_) | exact LSub.nil | (with_reducible exact LSub.refl) | (apply LSub.cons; (repeat first | refine goH ?_ | apply LHas.here | apply LHas.next); refine And.intro ?_ ?_; (focus (try (first | (with_reducible rfl) | (refine congrArg (Pl.mk _) ?_; (first | rfl | (simp; done))) | rfl | (with_reducible refine congrArg (Pl.mk _) ?_))))) | assumption | (exact (out_succ [] i.h j (by omega)).symm) | (first | (focus (apply Eq.trans; (conv => lhs; whnf); (conv => rhs; whnf); done)) | rfl | ((conv => lhs; whnf); first | rfl | (refine congrArg (AV.int _) ?_; (exact T.num)) | (refine congrArg AV.bool ?_; (exact T.num)) | (refine vw_congr ?_; first | (exact T.num) | (first | rfl | (simp; done))) | (refine sl_congr ?_ ?_ <;> first | (exact T.num) | (first | rfl | (simp; done))) | (first | rfl | (simp; done)))) | (exact T.num) | (dsimp only; (exact T.num)) | (first | rfl | (simp; done))))) | exact T.z | fail) <;> conv => whnf)
   all_goals (try dsimp only)
   have e : j = i.h.length := by omega
   subst e
   refine ret_rst (by simp) ?_
   (repeat first | refine goH ?_ | apply LHas.here | apply LHas.next)
   rw [List.take_length]
 · rw [if_neg he]
   have h3 := rky_no he
   generalize rkyI i k = R at *
   obtain ⟨R, e⟩ := R
   simp only at h3 he ⊢
   subst h3
   refine goW [] Tryz.func21 rfl ?_
   conv => whnf
   repeat' ((first | (show LCall _ _ _ _ _ _; first | refine LCall.pure (hr) ?_ | refine goE ?_) | refine T.s ?_ | ((first | apply goB | apply ABr.dec | apply ABr.gen) <;> intro h <;> try (exfalso; omega)) | refine LFresh.mk fun r => ?_ | exact T.z | fail) <;> conv => whnf)
   all_goals (try dsimp only)
   all_goals first | exact ret_zero | trace_state
theorem all_no {α : Type} [DecidableEq α] {a b : List α} {d : α} {k : Nat} (h : ¬ a.getD k d = b.getD k d) : ¬ a = b := fun e => h (by rw [e])
theorem all_yes {α : Type} {a b : List α} {d : α} (hl : a.length = b.length) (h : ∀ j, j < a.length → a.getD j d = b.getD j d) : a = b := by
 refine List.ext_getElem hl fun j h1 h2 => ?_
 have := h j h1
 simpa [List.getD_eq_getElem?_getD, h1, h2] using this
def eqTo (a b : List (List UInt8)) (k : Nat) : Prop := ∀ j, j < k → a.getD j [] = b.getD j []
theorem eqTo_0 (a b : List (List UInt8)) : eqTo a b 0 := fun j h => by omega
theorem eqTo_s {a b : List (List UInt8)} {k : Nat} (h : eqTo a b k) (h1 : a.getD k [] = b.getD k []) : eqTo a b (k + 1) := fun j hj => by
 by_cases e : j = k
 · subst e; exact h1
 · exact h j (by omega)
theorem eqTo_end {a b : List (List UInt8)} {k : Nat} (h : eqTo a b k) (hk : ¬ (k : Int) < (a.length : Int)) (hl : (a.length : Int) = (b.length : Int)) : a = b := all_yes (d := []) (by omega) fun j hj => h j (by omega)
attribute [local irreducible] eqTo
theorem sameall_c (a b : List (List UInt8)) (ha : a.length ≤ 1000000) : LSpec Tryz.prog G 24 [bsv a, bsv b] [] (fun _ => (.bool (decide (a = b)), [])) := by
 have h0 := eqTo_0 a b
 refine goW [] Tryz.func24 rfl ?_
 conv => whnf
 repeat' ((first | exact Nm.b 0 | (show LCall _ _ _ _ _ _; first | refine LCall.pure (same_c _ _) ?_ | refine goE ?_) | (show ACell _ _ _; first | (refine ACell.idx k ([] : List UInt8) ?_ ?_ ?_; (focus (first | exact rfl | (simp; done) | (simp; omega))); (focus (first | omega | exact T.side)))) | refine T.s ?_ | ((first | apply goB | apply ABr.dec | apply ABr.gen) <;> intro h <;> try (exfalso; omega)) | refine LFresh.mk fun r => ?_ | (show SWpL _ _ _ (.loop _) _ _ _; first | (apply goO tyOk [] 4 (S := Nat) [0, 1] (fun k => ⟨[(5, .int .i64 k)], [], k ≤ a.length ∧ eqTo a b k, a.length - k⟩) (0) (by rfl); (focus ((repeat' first | exact trivial | (refine And.intro ?_ ?_) | exact LSub.nil | (with_reducible exact LSub.refl) | (apply LSub.cons; (repeat first | refine goH ?_ | apply LHas.here | apply LHas.next); refine And.intro ?_ ?_; (focus (try (first | (with_reducible rfl) | (refine congrArg (Pl.mk _) ?_; (first | rfl | (simp; done))) | rfl | (with_reducible refine congrArg (Pl.mk _) ?_))))) | assumption | (exact h0) | (exact eqTo_s (by assumption) (by assumption)) | (first | (focus (apply Eq.trans; (conv => lhs; whnf); (conv => rhs; whnf); done)) | rfl | ((conv => lhs; whnf); first | rfl | (refine congrArg (AV.int _) ?_; (exact T.num)) | (refine congrArg AV.bool ?_; (exact T.num)) | (refine vw_congr ?_; first | (exact T.num) | (first | rfl | (simp; done))) | (refine sl_congr ?_ ?_ <;> first | (exact T.num) | (first | rfl | (simp; done))) | (first | rfl | (simp; done)))) | (exact T.num) | (dsimp only; (exact T.num)) | (first | rfl | (simp; done))); done)); rintro k ⟨hk, hok⟩)) | (show SWpL _ _ _ _ _ _ _; first | refine gX 6 [] [0, 1, 2, 3, 4, 5, 6, 7, 8, 9] [] ?_) | (show AtL _ _ _ _ _ _ _ _ _ _; first | (apply AtL.mk' (id := 4) (S := Nat) (k + 1); (repeat' first | exact trivial | (refine And.intro ?_ ?_) | exact LSub.nil | (with_reducible exact LSub.refl) | (apply LSub.cons; (repeat first | refine goH ?_ | apply LHas.here | apply LHas.next); refine And.intro ?_ ?_; (focus (try (first | (with_reducible rfl) | (refine congrArg (Pl.mk _) ?_; (first | rfl | (simp; done))) | rfl | (with_reducible refine congrArg (Pl.mk _) ?_))))) | assumption | (exact h0) | (exact eqTo_s (by assumption) (by assumption)) | (first | (focus (apply Eq.trans; (conv => lhs; whnf); (conv => rhs; whnf); done)) | rfl | ((conv => lhs; whnf); first | rfl | (refine congrArg (AV.int _) ?_; (exact T.num)) | (refine congrArg AV.bool ?_; (exact T.num)) | (refine vw_congr ?_; first | (exact T.num) | (first | rfl | (simp; done))) | (refine sl_congr ?_ ?_ <;> first | (exact T.num) | (first | rfl | (simp; done))) | (first | rfl | (simp; done)))) | (exact T.num) | (dsimp only; (exact T.num)) | (first | rfl | (simp; done))); done) | (apply AtL.mk' (id := 4) (S := Nat) (k + 1); (repeat' first | exact trivial | (refine And.intro ?_ ?_) | exact LSub.nil | (with_reducible exact LSub.refl) | (apply LSub.cons; (repeat first | refine goH ?_ | apply LHas.here | apply LHas.next); refine And.intro ?_ ?_; (focus (try (first | (with_reducible rfl) | (refine congrArg (Pl.mk _) ?_; (first | rfl | (simp; done))) | rfl | (with_reducible refine congrArg (Pl.mk _) ?_))))) | assumption | (exact h0) | (exact eqTo_s (by assumption) (by assumption)) | (first | (focus (apply Eq.trans; (conv => lhs; whnf); (conv => rhs; whnf); done)) | rfl | ((conv => lhs; whnf); first | rfl | (refine congrArg (AV.int _) ?_; (exact T.num)) | (refine congrArg AV.bool ?_; (exact T.num)) | (refine vw_congr ?_; first | (exact T.num) | (first | rfl | (simp; done))) | (refine sl_congr ?_ ?_ <;> first | (exact T.num) | (first | rfl | (simp; done))) | (first | rfl | (simp; done)))) | (exact T.num) | (dsimp only; (exact T.num)) | (first | rfl | (simp; done))))) | exact T.z | fail) <;> conv => whnf)
 all_goals (try dsimp only)
 · (show RetL _ _ _; refine goR ?_)
   exact congrArg AV.bool (decide_eq_false (all_no (by assumption))).symm
 · (show RetL _ _ _; refine goR ?_)
   exact congrArg AV.bool (decide_eq_true (eqTo_end hok (by assumption) (by assumption))).symm
 · (show RetL _ _ _; refine goR ?_)
   refine congrArg AV.bool (decide_eq_false (fun e => ?_)).symm
   subst e
   omega
theorem same_r (a : List UInt8) : LSpec Tryz.prog G 17 [bv a, bv a] [] (fun _ => (.bool true, [])) := by
 have h := same_c (G := G) a a
 rwa [decide_eq_true rfl] at h
theorem samekey_r (k : Ky) : LSpec Tryz.prog G 61 [k.av, k.av] [] (fun _ => (.bool true, [])) := by
 have h := samekey_c (G := G) k k
 rwa [show sameK k k = true by simp [sameK]] at h
theorem r17same_c (i : In) (hl : i.h.length ≤ 100000) : LSpec Tryz.prog G 23 [i.av, i.av] [] (fun _ => (.bool true, [])) := by
 refine goW [] Tryz.func23 rfl ?_
 conv => whnf
 repeat' ((first | exact Nm.b 0 | (refine And.intro ?_ ?_; (focus (first | ((try dsimp only); rw [List.length_drop, List.length_drop, hls_len]; omega) | exact T.kx | exact T.side))) | (show LCall _ _ _ _ _ _; first | refine LCall.pure (same_r _) ?_ | refine LCall.pure (samekey_r _) ?_ | refine goE ?_) | (show ACell _ _ _; first | (refine ACell.fldn Hl.cs_len k 0 Hl.z (iAV (i.h.getD k Hl.z).c) ?_ (by decide) ?_ rfl ?_; (focus ((try dsimp only); omega)); (focus omega)) | (refine ACell.fldn Hl.cs_len k 1 Hl.z (bv (i.h.getD k Hl.z).d) ?_ (by decide) ?_ rfl ?_; (focus ((try dsimp only); omega)); (focus omega))) | refine T.s ?_ | ((first | apply goB | apply ABr.dec | apply ABr.gen) <;> intro h <;> try (exfalso; omega)) | refine LFresh.mk fun r => ?_ | (show SWpL _ _ _ (.loop _) _ _ _; first | (refine goL tyOk [] 4 (S := Nat × Nm × Nm) [] (fun (k, b2, b3) => ⟨[(2, .ptr b2 0), (3, .ptr b3 0), (5, .int .i64 k)], [(b2, ⟨32, i.cs⟩), (b3, ⟨32, i.cs⟩)], k ≤ i.h.length, i.h.length - k⟩) ((0, _, _)) ?_; rintro ⟨k, b2, b3⟩ hok; (try dsimp only at hok))) | (show SWpL _ _ _ _ _ _ _; first | refine gX 6 [] [0, 1, 2, 3, 4, 5, 6, 7, 8, 9, 10, 11, 12, 13, 14, 15, 16, 17, 18, 19, 20, 21, 22, 23, 24, 25, 26, 27, 28] [] ?_) | (show AtL _ _ _ _ _ _ _ _ _ _; first | (show AtL 4 _ _ _ _ _ _ _ _ _; exact goN 4 (S := Nat × Nm × Nm) ((k + 1, b2, b3))) | (apply AtL.mk' (id := 4) (S := Nat × Nm × Nm) ((k + 1, b2, b3)); (repeat' first | exact trivial | (refine And.intro ?_ ?_) | exact LSub.nil | (with_reducible exact LSub.refl) | (apply LSub.cons; (repeat first | refine goH ?_ | apply LHas.here | apply LHas.next); refine And.intro ?_ ?_; (focus (try (first | (with_reducible rfl) | (refine congrArg (Pl.mk _) ?_; (first | rfl | (simp; done))) | rfl | (with_reducible refine congrArg (Pl.mk _) ?_))))) | assumption | (first | (focus (apply Eq.trans; (conv => lhs; whnf); (conv => rhs; whnf); done)) | rfl | ((conv => lhs; whnf); first | rfl | (refine congrArg (AV.int _) ?_; (exact T.num)) | (refine congrArg AV.bool ?_; (exact T.num)) | (refine vw_congr ?_; first | (exact T.num) | (first | rfl | (simp; done))) | (refine sl_congr ?_ ?_ <;> first | (exact T.num) | (first | rfl | (simp; done))) | (first | rfl | (simp; done)))) | (exact T.num) | (dsimp only; (exact T.num)) | (first | rfl | (simp; done))))) | exact T.z | fail) <;> conv => whnf)
 all_goals (try dsimp only)
 (show RetL _ _ _; refine goR ?_)
 rfl
end Go.Proofs.YtnmifddidgofaaaGreatDoor
namespace Go.Proofs.YtnmifddidgofaaaGreatDoor
open Go.RowKit
variable {G : Nat → AV}
theorem wan_cases {q : Nm} {i : In} {j0 j N : Nat} {l : List Hl} {hv : AV} (he : hv = hvA q j l.length) (h0 : j0 ≤ j) (hj : j ≤ N) (hjl : j0 ≤ l.length) (hN : N = j0 + runN i.f (l.drop j0)) :
   (j < N ∧ j < l.length ∧ hv = .vw q (j * 2) (l.length - j) 2 ∧ (l.getD j Hl.z).c = (stpI i (j - j0)).f) ∨ (j = N ∧ j < l.length ∧ hv = .vw q (j * 2) (l.length - j) 2 ∧ ¬ (l.getD j Hl.z).c = (stpI i (j - j0)).f) ∨ (j = N ∧ j = l.length ∧ hv = .vw q (j * 2) (l.length - j) 2) := by
 have hr := runN_le (l.drop j0) i.f
 rw [List.length_drop] at hr
 have hT : j < N → decide ((l.getD j Hl.z).c = (stpI i (j - j0)).f) = true := fun h2 => by
   have := runN_yes (l.drop j0) i.f (j - j0) (by omega)
   rw [hl_drop, show j0 + (j - j0) = j by omega] at this
   rw [this]; simp [stpI]
 have hF : N < l.length → decide ((l.getD N Hl.z).c = (stpI i (N - j0)).f) = false := fun h => by
   have := runN_no (l.drop j0) i.f (by rw [List.length_drop]; omega)
   rw [hl_drop, show j0 + runN i.f (l.drop j0) = N by omega] at this
   rw [decide_eq_false_iff_not]
   intro e
   refine this (e.trans ?_)
   show i.f + ((N - j0 : Nat) : Int) = _
   congr 2; omega
 have := hv_cases (W := fun j c => decide (c = (stpI i (j - j0)).f)) he hj (by omega) hT hF
 simpa only [decide_eq_true_eq, decide_eq_false_iff_not] using this
theorem ron_c (i : In) (l : List Hl) (j0 N : Nat) (outs : List (List UInt8)) (q o : Nm) (hl : l.length ≤ 100000) (hf : 0 ≤ i.f ∧ i.f ≤ 4000000) (hN : N = j0 + runN i.f (l.drop j0)) (hj : j0 ≤ l.length) (ho : outs.length ≤ 100000) (hn : [q, o].Nodup) {hv0 : AV} (hv1 : hv0 = hvA q j0 l.length) :
   LSpec Tryz.prog G 50 [.agg (inC i hv0), .vw o 0 (outs.length + j0) 1] [(q, ⟨56, l.flatMap Hl.cs⟩), (o, ⟨27, outC (outs ++ (l.take j0).map (·.d))⟩)]
     (fun o' => (.tup [.agg (inC (onI (stpI i (N - j0))) (hvA q N l.length)), .vw o' 0 (outs.length + N) 1], [(o', ⟨27, outC (outs ++ (l.take N).map (·.d))⟩), (q, ⟨56, l.flatMap Hl.cs⟩)])) := by
 subst hv1
 have hst : ∀ j, (stpI i (j - j0)).f = i.f + ((j - j0 : Nat) : Int) := fun j => rfl
 have h0 : inC i (hvA q j0 l.length) = inC (stpI i (j0 - j0)) (hvA q j0 l.length) := by rw [Nat.sub_self]; simp [inC, stpI]
 rw [h0]
 have hNl : N ≤ l.length := by have := runN_le (l.drop j0) i.f; rw [List.length_drop] at this; omega
 all_goals
  rw [hvA_e]
  refine goW [] Tryz.func50 rfl ?_
  conv => whnf
  repeat' ((first | exact Nm.b 0 | (refine And.intro ?_ ?_; (focus (first | ((try dsimp only); rw [hls_len]; omega) | exact T.kx | exact T.side))) | (show ACell _ _ _; first | (refine ACell.fld Hl.cs_len j 0 Hl.z (iAV (l.getD j Hl.z).c) ?_ (by decide) ?_ rfl ?_; (focus ((try dsimp only); omega)); (focus omega)) | (refine ACell.fld Hl.cs_len j 1 Hl.z (bv (l.getD j Hl.z).d) ?_ (by decide) ?_ rfl ?_; (focus ((try dsimp only); omega)); (focus omega))) | refine T.s ?_ | ((first | apply goB | apply ABr.dec | apply ABr.gen) <;> intro h <;> try (exfalso; omega)) | refine LFresh.mk fun r => ?_ | (show SWpL _ _ _ (.loop _) _ _ _; first | (apply goO tyOk [] 1 (S := Nat × AV × Nm × Nm × Nm) [] (fun (j, hv, b2, b4, o) => ⟨[(1, .vw o 0 (outs.length + j) 1), (2, .ptr b2 0), (4, .ptr b4 0)], [(b2, ⟨32, inC (stpI i (j - j0)) hv⟩), (b4, ⟨32, zIn⟩), (q, ⟨56, l.flatMap Hl.cs⟩), (o, ⟨27, outC (outs ++ (l.take j).map (·.d))⟩)], hv = hvA q j l.length ∧ j0 ≤ j ∧ j ≤ N, N - j⟩) ((j0, _, _, _, o)) (by rfl); (focus ((repeat' first | exact trivial | (refine And.intro ?_ ?_) | exact LSub.nil | (with_reducible exact LSub.refl) | (apply LSub.cons; (repeat first | refine goH ?_ | apply LHas.here | apply LHas.next); refine And.intro ?_ ?_; (focus (try (first | (with_reducible rfl) | (refine congrArg (Pl.mk _) ?_; (first | rfl | (simp; done))) | rfl | (with_reducible refine congrArg (Pl.mk _) ?_))))) | assumption | (exact hvA_e.symm) | (exact hvA_next (by omega) (by omega)) | (exact (out_succ outs l j (by omega)).symm) | (first | (focus (apply Eq.trans; (conv => lhs; whnf); (conv => rhs; whnf); done)) | rfl | ((conv => lhs; whnf); first | rfl | (refine congrArg (AV.int _) ?_; (exact T.num)) | (refine congrArg AV.bool ?_; (exact T.num)) | (refine vw_congr ?_; first | (exact T.num) | (first | rfl | (simp; done))) | (refine sl_congr ?_ ?_ <;> first | (exact T.num) | (first | rfl | (simp; done))) | (first | rfl | (simp; done)))) | (exact T.num) | (dsimp only; (exact T.num)) | (first | rfl | (simp; done))); done)); rintro ⟨j, hv, b2, b4, o⟩ ⟨hk, hk, hok⟩; (rcases wan_cases (by assumption) (by assumption) hok hj hN with ⟨hj1, hj2, rfl, hw⟩ | ⟨hj1, hj2, rfl, hw⟩ | ⟨hj1, hj2, rfl⟩))) | (show SWpL _ _ _ _ _ _ _; first | refine gX 1 [] [0, 1, 2, 3, 4, 5, 6, 7, 8, 9, 10, 11, 12, 13] [] ?_) | (show AtL _ _ _ _ _ _ _ _ _ _; first | (apply AtL.mk' (id := 1) (S := Nat × AV × Nm × Nm × Nm) ((j + 1, _, b2, b4, _)); (repeat' first | exact trivial | (refine And.intro ?_ ?_) | exact LSub.nil | (with_reducible exact LSub.refl) | (apply LSub.cons; (repeat first | refine goH ?_ | apply LHas.here | apply LHas.next); refine And.intro ?_ ?_; (focus (try (first | (with_reducible rfl) | (refine congrArg (Pl.mk _) ?_; (first | rfl | (simp; done))) | rfl | (with_reducible refine congrArg (Pl.mk _) ?_))))) | assumption | (exact hvA_e.symm) | (exact hvA_next (by omega) (by omega)) | (exact (out_succ outs l j (by omega)).symm) | (first | (focus (apply Eq.trans; (conv => lhs; whnf); (conv => rhs; whnf); done)) | rfl | ((conv => lhs; whnf); first | rfl | (refine congrArg (AV.int _) ?_; (exact T.num)) | (refine congrArg AV.bool ?_; (exact T.num)) | (refine vw_congr ?_; first | (exact T.num) | (first | rfl | (simp; done))) | (refine sl_congr ?_ ?_ <;> first | (exact T.num) | (first | rfl | (simp; done))) | (first | rfl | (simp; done)))) | (exact T.num) | (dsimp only; (exact T.num)) | (first | rfl | (simp; done))); done) | (apply AtL.mk' (id := 1) (S := Nat × AV × Nm × Nm × Nm) ((j + 1, _, b2, b4, _)); (repeat' first | exact trivial | (refine And.intro ?_ ?_) | exact LSub.nil | (with_reducible exact LSub.refl) | (apply LSub.cons; (repeat first | refine goH ?_ | apply LHas.here | apply LHas.next); refine And.intro ?_ ?_; (focus (try (first | (with_reducible rfl) | (refine congrArg (Pl.mk _) ?_; (first | rfl | (simp; done))) | rfl | (with_reducible refine congrArg (Pl.mk _) ?_))))) | assumption | (exact hvA_e.symm) | (exact hvA_next (by omega) (by omega)) | (exact (out_succ outs l j (by omega)).symm) | (first | (focus (apply Eq.trans; (conv => lhs; whnf); (conv => rhs; whnf); done)) | rfl | ((conv => lhs; whnf); first | rfl | (refine congrArg (AV.int _) ?_; (exact T.num)) | (refine congrArg AV.bool ?_; (exact T.num)) | (refine vw_congr ?_; first | (exact T.num) | (first | rfl | (simp; done))) | (refine sl_congr ?_ ?_ <;> first | (exact T.num) | (first | rfl | (simp; done))) | (first | rfl | (simp; done)))) | (exact T.num) | (dsimp only; (exact T.num)) | (first | rfl | (simp; done))))) | (show (_ → _) ∧ (¬ _ → _); first | refine T.y ?_ | refine dec_both (fun h => ?_) (fun h => ?_)) | exact T.z | fail) <;> conv => whnf)
  all_goals (try dsimp only)
  all_goals first
    | (subst hj1
       refine RetL.own o ?_ ?_ ?_
       · first
          | rw [onI_a (by assumption) (by assumption) (by assumption) (by assumption)]
          | rw [onI_b (by assumption) (by assumption) (fun h => by first | exact absurd h.1 (by assumption) | exact absurd h.2 (by assumption))]
          | rw [onI_c (fun h => by first | exact absurd h.1 (by assumption) | exact absurd h.2 (by assumption)) (by assumption) (by assumption) (by assumption)]
          | rw [onI_d (fun h => by first | exact absurd h.1 (by assumption) | exact absurd h.2 (by assumption)) (fun h => by first | exact absurd h.1 (by assumption) | exact absurd h.2.1 (by assumption) | exact absurd h.2.2 (by assumption))]
         rw [← hk]
         rfl
       · (repeat first | refine goH ?_ | apply LHas.here | apply LHas.next); trivial
       · (repeat' first | exact LSub.nil | (with_reducible exact LSub.refl) | (apply LSub.cons; (repeat first | refine goH ?_ | apply LHas.here | apply LHas.next); refine And.intro ?_ ?_; (focus (try (first | (with_reducible rfl) | (refine congrArg (Pl.mk _) ?_; (first | rfl | (simp; done))) | rfl | (with_reducible refine congrArg (Pl.mk _) ?_)))))))
    | (rw [stp_succ i (by assumption) (by omega) hf]; rfl)
    | (rw [stp_succ i (by assumption) (by omega) hf]
       refine congrArg (inC { stpI i (j - j0) with f := iarith .add .i64 (stpI i (j - j0)).f 1 }) (vw_congr2 (p := q) (z := 2) ?_ ?_) <;> omega)
    | trace_state
open Go.RowKit
variable {G : Nat → AV}
section
variable {P : Program}
theorem fresh_v (l : List Nm) : ∃ n, ∀ m, n ≤ m → Nm.v m ∉ l := by
 induction l with
 | nil => exact ⟨0, fun _ _ h => by cases h⟩
 | cons x l ih =>
   obtain ⟨n, hn⟩ := ih
   cases x with
   | b k => exact ⟨n, fun m hm h => by
       rcases List.mem_cons.1 h with h | h
       · cases h
       · exact hn m hm h⟩
   | v k => exact ⟨n + k + 1, fun m hm h => by
       rcases List.mem_cons.1 h with h | h
       · injection h with h; omega
       · exact hn m (by omega) h⟩
theorem LSpec.adoptA {f : FuncId} {args : List AV} {ps : LS} {post : Nm → AV × LS} (t : TypeId) (sz : Nat) (hpost : ∀ q, (∀ x ∈ (post q).2, x.1 = q ∨ x.1 ∈ ps.map (·.1)) ∧ (q ∉ ps.map (·.1) → ((post q).2.map (·.1)).Nodup))
   (h : ∀ o, o ∉ ps.map (·.1) → LSpec P G f (args ++ [.vw o 0 0 sz]) (ps ++ [(o, ⟨t, []⟩)]) post) : LSpec P G f (args ++ [.nils]) ps post := by
 obtain ⟨n0, hn0⟩ := fresh_v (ps.map (·.1))
 have h00 := h (.v n0) (hn0 n0 (Nat.le_refl _))
 unfold LSpec at h h00 ⊢
 refine ⟨h00.1, hpost, fun τ w vs h1 h2 h3 h4 h5 => ?_⟩
 obtain ⟨B, hB⟩ := h1.fin
 have hk := hB B (Nat.le_refl _)
 have hno : Nm.v B ∉ ps.map (·.1) := fun hm => by
   obtain ⟨x, hx, e⟩ := List.mem_map.1 hm
   have := h3 x hx
   rw [e, hk] at this; cases this
 have hst : Stp τ w (upd τ (.v B) ⟨t, []⟩) w := Stp.forget _ _ w fun b hb => by rw [upd_ne _ _ (by simp)]; exact hb
 have hm2 : Mem (upd τ (.v B) ⟨t, []⟩) w := by
   refine ⟨fun q c hq => ?_, fun k c hk2 => ?_, fin_upd h1.fin _ _⟩
   · rw [upd_ne _ _ (by simp)] at hq
     obtain ⟨cur, k1, k2, k3⟩ := h1.pl q c hq
     exact ⟨cur, k1, k2, fun i hi => (k3 i hi).mono hst⟩
   · by_cases e : k = B
     · subst e; rw [upd_same] at hk2; cases hk2; rfl
     · rw [upd_ne _ _ (by simp; exact e)] at hk2
       exact h1.vl k c hk2
 have hsz : vs.size = args.length + 1 := by have := h5.1; simp at this; omega
 have hC := (h (.v B) hno).2.2 _ w vs hm2 (h2.mono hst) (fun x hx => by
     rcases List.mem_append.1 hx with hx | hx
     · rw [upd_ne _ _ (fun e => by rw [← e] at hno; exact hno (List.mem_map.2 ⟨x, hx, rfl⟩))]
       exact h3 x hx
     · simp only [List.mem_singleton] at hx
       subst hx
       exact upd_same _ _ _) (by
       rw [List.map_append, List.nodup_append]
       exact ⟨h4, by simp, fun a ha b hb => by simp at hb; subst hb; intro e; subst e; exact hno ha⟩) ⟨by simp; omega, fun i hi => by
     have hi2 : i < args.length + 1 := by simpa using hi
     have h6 := h5.2 i (by simpa using hi)
     by_cases hlt : i < args.length
     · have e1 : (args ++ [AV.vw (.v B) 0 0 sz]).getD i .any = args.getD i .any := by simp only [List.getD_eq_getElem?_getD]; rw [List.getElem?_append_left hlt]
       have e2 : (args ++ [AV.nils]).getD i .any = args.getD i .any := by simp only [List.getD_eq_getElem?_getD]; rw [List.getElem?_append_left hlt]
       rw [e1]; rw [e2] at h6; exact h6.mono hst
     · obtain rfl : i = args.length := by omega
       have e1 : (args ++ [AV.vw (.v B) 0 0 sz]).getD args.length .any = .vw (.v B) 0 0 sz := by simp
       have e2 : (args ++ [AV.nils]).getD args.length .any = .nils := by simp
       rw [e1]; rw [e2] at h6
       generalize vs.getD args.length undef = u at h6
       cases h6
       exact .vwnil _ _⟩
 have he : eraN (upd τ (.v B) ⟨t, []⟩) ((ps ++ [(Nm.v B, (⟨t, []⟩ : Pl))]).map (·.1)) = eraN τ (ps.map (·.1)) := by
   rw [eraN_upd_in τ (.v B) _ _ (by simp)]
   funext x
   by_cases hx : x ∈ ps.map (·.1)
   · rw [eraN_none _ _ hx, eraN_none _ _ (by rw [List.map_append]; exact List.mem_append_left _ hx)]
   · rw [eraN_other _ _ hx]
     by_cases hb : x = .v B
     · subst hb
       rw [hk, eraN_none _ _ (by simp)]
     · rw [eraN_other _ _ (by rw [List.map_append, List.mem_append]; simp only [List.map_cons, List.map_nil, List.mem_singleton]; exact fun h => h.elim hx hb)]
 rw [he] at hC
 refine hC.mono ?_
 rintro e w' ⟨v, q, g1, g2, g3, g4, g5, g6⟩
 exact ⟨v, q, g1, g2, g3, g4, g5, hst.trans g6⟩
end
theorem ron_b (i : In) (j0 : Nat) (outs : List (List UInt8)) (q o : Nm) (hl : i.h.length ≤ 100000) (hf : 0 ≤ i.f ∧ i.f ≤ 4000000) (hj : j0 ≤ i.h.length) (ho : outs.length ≤ 100000) (hn : [q, o].Nodup) {hv0 : AV} (hv1 : hv0 = hvA q j0 i.h.length) :
   LSpec Tryz.prog G 50 [.agg (inC i hv0), .vw o 0 (outs.length + j0) 1] [(q, ⟨56, i.h.flatMap Hl.cs⟩), (o, ⟨27, outC (outs ++ (i.h.take j0).map (·.d))⟩)]
     (fun o' => (.tup [.agg (inC (behI i j0) (hvA q (j0 + runN i.f (i.h.drop j0)) i.h.length)), .vw o' 0 (outs.length + (j0 + runN i.f (i.h.drop j0))) 1], [(o', ⟨27, outC (outs ++ behO i j0)⟩), (q, ⟨56, i.h.flatMap Hl.cs⟩)])) := by
 have h := ron_c (G := G) i i.h j0 (j0 + runN i.f (i.h.drop j0)) outs q o hl hf rfl hj ho hn hv1
 rw [Nat.add_sub_cancel_left] at h
 exact h
theorem ron_n (i : In) (q : Nm) (hl : i.h.length ≤ 100000) (hf : 0 ≤ i.f ∧ i.f ≤ 4000000) :
   LSpec Tryz.prog G 50 [.agg (inC i (.vw q 0 i.h.length 2)), .nils] [(q, ⟨56, i.h.flatMap Hl.cs⟩)]
     (fun o' => (.tup [.agg (inC (behI i 0) (hvA q (0 + runN i.f (i.h.drop 0)) i.h.length)), .vw o' 0 (0 + (0 + runN i.f (i.h.drop 0))) 1], [(o', ⟨27, outC (behO i 0)⟩), (q, ⟨56, i.h.flatMap Hl.cs⟩)])) := by
 refine LSpec.adoptA (args := [_]) 27 1 (fun x => ⟨by simp, by simp⟩) fun o ho => ?_
 have h := ron_b (G := G) i 0 [] q o hl hf (Nat.zero_le _) (Nat.zero_le _) (by simp at ho ⊢; exact fun e => ho e.symm) (hvA_0 q i.h.length)
 exact h
theorem ron_e (i : In) (j0 : Nat) (q o : Nm) (hl : i.h.length ≤ 100000) (hf : 0 ≤ i.f ∧ i.f ≤ 4000000) (hj : j0 ≤ i.h.length) (hn : [q, o].Nodup) {hv0 : AV} (hv1 : hv0 = hvA q j0 i.h.length) :
   LSpec Tryz.prog G 50 [.agg (inC i hv0), .vw o 0 j0 1] [(q, ⟨56, i.h.flatMap Hl.cs⟩), (o, ⟨27, outC ((i.h.take j0).map (·.d))⟩)]
     (fun o' => (.tup [.agg (inC (behI i j0) (hvA q (j0 + runN i.f (i.h.drop j0)) i.h.length)), .vw o' 0 (j0 + runN i.f (i.h.drop j0)) 1], [(o', ⟨27, outC (behO i j0)⟩), (q, ⟨56, i.h.flatMap Hl.cs⟩)])) := by
 have h := ron_b (G := G) i j0 [] q o hl hf hj (Nat.zero_le _) hn hv1
 simp only [List.length_nil, Nat.zero_add, List.nil_append] at h
 exact h
theorem out_succ0 (l : List Hl) (j : Nat) (h : j < l.length) : outC ((l.take (j + 1)).map (·.d)) = outC ((l.take j).map (·.d)) ++ [bv (l.getD j Hl.z).d] := out_succ [] l j h
theorem r17tick_c (i : In) (hl : i.h.length ≤ 100000) : LSpec Tryz.prog G 33 [i.av] [] (fun _ => (rAV (tickR i), [])) := by
 have hv := rvalid17_c (G := G) i hl
 cases hki : i.ok with
 | false =>
   rw [show tickR i = (inZ, [], 1) by unfold tickR; rw [if_neg (by rw [hki]; decide)]]
   rw [hki] at hv
   refine goW [] Tryz.func33 rfl ?_
   conv => whnf
   repeat' ((first | exact Nm.b 0 | (show LCall _ _ _ _ _ _; first | refine LCall.pure (hv) ?_ | refine goE ?_) | refine T.s ?_ | ((first | apply goB | apply ABr.dec | apply ABr.gen) <;> intro h <;> try (exfalso; omega)) | refine LFresh.mk fun r => ?_ | (show SWpL _ _ _ _ _ _ _; first | (refine goD tyOk mixed 10 [] [0, 1, 2, 3, 4, 5, 6, 7, 8, 9, 10, 11, 12, 13] [] (by kernel_rfl) ?_)) | (show (_ → _) ∧ (¬ _ → _); first | refine T.y ?_ | refine dec_both (fun h => ?_) (fun h => ?_)) | exact T.z | fail) <;> conv => whnf)
   all_goals (try dsimp only)
   exact ret_zero
 | true =>
   have v := Vf.of hki
   rw [hki] at hv
   have hc := r17copy_o (G := G) i v.k hl (fun k hk => by have := (v.h k hk).2.2.2; omega)
   have hN1 := pos_le i.h i.m
   generalize hp : posR i.h i.m = N1 at *
   have hT : ∀ j, j < N1 → decide ((i.h.getD j Hl.z).c < i.m) = true := fun j h => decide_eq_true (pos_lt i.h i.m j (by omega))
   have hF : N1 < i.h.length → decide ((i.h.getD N1 Hl.z).c < i.m) = false := fun h => by
     have := pos_ge i.h i.m (by omega)
     rw [hp] at this
     exact decide_eq_false (by omega)
   have hsub : iarith .sub .i64 i.l 1 = i.l - 1 := by have h1 := v.l; have h2 := v.t; (exact T.num)
   have hl0 := v.l
   all_goals
    refine goW [3] Tryz.func33 rfl ?_
    conv => whnf
    repeat' ((first | (rw [hvA_e]) | (show LCall _ _ _ [.agg _, .vw _ _ _ _] _ _; apply LCall.manyD (fun hnd => ron_e (hv0 := _) { i with l := iarith .sub .i64 i.l 1, f := i.m, m := 0 } j qh _ hl (by dsimp only; have h1 := v.n; have h2 := v.m; have h3 := v.f; omega) hN1 (by exact hnd) hk)) | exact Nm.b 0 | (refine And.intro ?_ ?_; (focus (first | ((try dsimp only); rw [hls_len]; omega) | exact T.kx | exact T.side))) | (show LCall _ _ _ _ _ _; first | refine LCall.pure (hv) ?_ | refine LCall.own (hc) ?_ | refine goE ?_) | (show ACell _ _ _; first | (refine ACell.fld Hl.cs_len j 0 Hl.z (iAV (i.h.getD j Hl.z).c) ?_ (by decide) ?_ rfl ?_; (focus ((try dsimp only); omega)); (focus omega)) | (refine ACell.fld Hl.cs_len j 1 Hl.z (bv (i.h.getD j Hl.z).d) ?_ (by decide) ?_ rfl ?_; (focus ((try dsimp only); omega)); (focus omega))) | refine T.s ?_ | ((first | apply goB | apply ABr.dec | apply ABr.gen) <;> intro h <;> try (exfalso; omega)) | refine LFresh.mk fun r => ?_ | (show SWpL _ _ _ (.loop _) _ _ _; first | (apply goO tyOk [3] 10 (S := Nat × AV × Nm) [2, 5] (fun (j, hv, o) => ⟨[(6, .vw o 0 j 1)], [(b5, ⟨32, inC { i with l := iarith .sub .i64 i.l 1 } hv⟩), (b2, ⟨32, zIn⟩), (qh, ⟨56, i.h.flatMap Hl.cs⟩), (o, ⟨27, outC ((i.h.take j).map (·.d))⟩)], hv = hvA qh j i.h.length ∧ j ≤ N1, N1 - j⟩) ((0, _, _)) (by rfl); (focus ((repeat' first | exact trivial | (refine And.intro ?_ ?_) | exact LSub.nil | (with_reducible exact LSub.refl) | (apply LSub.cons; (repeat first | refine goH ?_ | apply LHas.here | apply LHas.next); refine And.intro ?_ ?_; (focus (try (first | (with_reducible rfl) | (refine congrArg (Pl.mk _) ?_; (first | rfl | (simp; done))) | rfl | (with_reducible refine congrArg (Pl.mk _) ?_))))) | assumption | (exact hvA_0 _ _) | (exact hvA_next (by omega) (by omega)) | (exact (out_succ0 i.h j (by omega)).symm) | (first | (focus (apply Eq.trans; (conv => lhs; whnf); (conv => rhs; whnf); done)) | rfl | ((conv => lhs; whnf); first | rfl | (refine congrArg (AV.int _) ?_; (exact T.num)) | (refine congrArg AV.bool ?_; (exact T.num)) | (refine vw_congr ?_; first | (exact T.num) | (first | rfl | (simp; done))) | (refine sl_congr ?_ ?_ <;> first | (exact T.num) | (first | rfl | (simp; done))) | (first | rfl | (simp; done)))) | (exact T.num) | (dsimp only; (exact T.num)) | (first | rfl | (simp; done))); done)); rintro ⟨j, hv, o⟩ ⟨hk, hok⟩; (rcases hv_cases (W := fun _ c => decide (c < i.m)) hk hok hN1 (hT j) hF with ⟨hj1, hj2, rfl, hw⟩ | ⟨hj1, hj2, rfl, hw⟩ | ⟨hj1, hj2, rfl⟩ <;> (try subst hj1) <;> first | have hw2 : (i.h.getD j Hl.z).c < In.m { i with l := iarith .sub .i64 i.l 1 } := of_decide_eq_true hw | have hw2 : ¬ (i.h.getD j Hl.z).c < In.m { i with l := iarith .sub .i64 i.l 1 } := of_decide_eq_false hw | skip))) | (show SWpL _ _ _ _ _ _ _; first | refine SWpL.adopt 6 1 27 (by rfl) fun q => ?_ | refine gX 10 [] [0, 1, 2, 3, 4, 5, 6, 7, 8, 9, 10, 11, 12, 13] [] ?_) | (show AtL _ _ _ _ _ _ _ _ _ _; first | (apply AtL.mk' (id := 10) (S := Nat × AV × Nm) ((j + 1, _, _)); (repeat' first | exact trivial | (refine And.intro ?_ ?_) | exact LSub.nil | (with_reducible exact LSub.refl) | (apply LSub.cons; (repeat first | refine goH ?_ | apply LHas.here | apply LHas.next); refine And.intro ?_ ?_; (focus (try (first | (with_reducible rfl) | (refine congrArg (Pl.mk _) ?_; (first | rfl | (simp; done))) | rfl | (with_reducible refine congrArg (Pl.mk _) ?_))))) | assumption | (exact hvA_0 _ _) | (exact hvA_next (by omega) (by omega)) | (exact (out_succ0 i.h j (by omega)).symm) | (first | (focus (apply Eq.trans; (conv => lhs; whnf); (conv => rhs; whnf); done)) | rfl | ((conv => lhs; whnf); first | rfl | (refine congrArg (AV.int _) ?_; (exact T.num)) | (refine congrArg AV.bool ?_; (exact T.num)) | (refine vw_congr ?_; first | (exact T.num) | (first | rfl | (simp; done))) | (refine sl_congr ?_ ?_ <;> first | (exact T.num) | (first | rfl | (simp; done))) | (first | rfl | (simp; done)))) | (exact T.num) | (dsimp only; (exact T.num)) | (first | rfl | (simp; done))); done) | (apply AtL.mk' (id := 10) (S := Nat × AV × Nm) ((j + 1, _, _)); (repeat' first | exact trivial | (refine And.intro ?_ ?_) | exact LSub.nil | (with_reducible exact LSub.refl) | (apply LSub.cons; (repeat first | refine goH ?_ | apply LHas.here | apply LHas.next); refine And.intro ?_ ?_; (focus (try (first | (with_reducible rfl) | (refine congrArg (Pl.mk _) ?_; (first | rfl | (simp; done))) | rfl | (with_reducible refine congrArg (Pl.mk _) ?_))))) | assumption | (exact hvA_0 _ _) | (exact hvA_next (by omega) (by omega)) | (exact (out_succ0 i.h j (by omega)).symm) | (first | (focus (apply Eq.trans; (conv => lhs; whnf); (conv => rhs; whnf); done)) | rfl | ((conv => lhs; whnf); first | rfl | (refine congrArg (AV.int _) ?_; (exact T.num)) | (refine congrArg AV.bool ?_; (exact T.num)) | (refine vw_congr ?_; first | (exact T.num) | (first | rfl | (simp; done))) | (refine sl_congr ?_ ?_ <;> first | (exact T.num) | (first | rfl | (simp; done))) | (first | rfl | (simp; done)))) | (exact T.num) | (dsimp only; (exact T.num)) | (first | rfl | (simp; done))))) | (show CutL _ _ _ _ _ _ _ _; first | (refine goK tyOk [3] 3 (S := Nm × Nm × Nm) [] (fun (b2, b5, qh) => ⟨[(2, .ptr b2 0), (5, .ptr b5 0)], [(b5, ⟨32, inC i (.vw qh 0 i.h.length 2)⟩), (b2, ⟨32, zIn⟩), (qh, ⟨56, i.h.flatMap Hl.cs⟩)], True, 0⟩) ?_ ?_; (rintro ⟨b2, b5, qh⟩ -); rotate_left) | refine CutL.go tyOk [3] ?_) | (show AtC _ _ _ _ _ _ _ _; first | (apply AtC.mk' (id := 3) (S := Nm × Nm × Nm) ((_, _, _)); (repeat' first | exact trivial | (refine And.intro ?_ ?_) | exact LSub.nil | (with_reducible exact LSub.refl) | (apply LSub.cons; (repeat first | refine goH ?_ | apply LHas.here | apply LHas.next); refine And.intro ?_ ?_; (focus (try (first | (with_reducible rfl) | (refine congrArg (Pl.mk _) ?_; (first | rfl | (simp; done))) | rfl | (with_reducible refine congrArg (Pl.mk _) ?_))))) | assumption | (exact hvA_0 _ _) | (exact hvA_next (by omega) (by omega)) | (exact (out_succ0 i.h j (by omega)).symm) | (first | (focus (apply Eq.trans; (conv => lhs; whnf); (conv => rhs; whnf); done)) | rfl | ((conv => lhs; whnf); first | rfl | (refine congrArg (AV.int _) ?_; (exact T.num)) | (refine congrArg AV.bool ?_; (exact T.num)) | (refine vw_congr ?_; first | (exact T.num) | (first | rfl | (simp; done))) | (refine sl_congr ?_ ?_ <;> first | (exact T.num) | (first | rfl | (simp; done))) | (first | rfl | (simp; done)))) | (exact T.num) | (dsimp only; (exact T.num)) | (first | rfl | (simp; done))); done) | (apply AtC.mk' (id := 3) (S := Nm × Nm × Nm) ((_, _, _)); (repeat' first | exact trivial | (refine And.intro ?_ ?_) | exact LSub.nil | (with_reducible exact LSub.refl) | (apply LSub.cons; (repeat first | refine goH ?_ | apply LHas.here | apply LHas.next); refine And.intro ?_ ?_; (focus (try (first | (with_reducible rfl) | (refine congrArg (Pl.mk _) ?_; (first | rfl | (simp; done))) | rfl | (with_reducible refine congrArg (Pl.mk _) ?_))))) | assumption | (exact hvA_0 _ _) | (exact hvA_next (by omega) (by omega)) | (exact (out_succ0 i.h j (by omega)).symm) | (first | (focus (apply Eq.trans; (conv => lhs; whnf); (conv => rhs; whnf); done)) | rfl | ((conv => lhs; whnf); first | rfl | (refine congrArg (AV.int _) ?_; (exact T.num)) | (refine congrArg AV.bool ?_; (exact T.num)) | (refine vw_congr ?_; first | (exact T.num) | (first | rfl | (simp; done))) | (refine sl_congr ?_ ?_ <;> first | (exact T.num) | (first | rfl | (simp; done))) | (first | rfl | (simp; done)))) | (exact T.num) | (dsimp only; (exact T.num)) | (first | rfl | (simp; done))))) | (show (_ → _) ∧ (¬ _ → _); first | refine T.y ?_ | refine dec_both (fun h => ?_) (fun h => ?_)) | exact T.z | fail) <;> conv => whnf)
    all_goals (try dsimp only)
    · rw [show tickR i = (i, [], 0) by unfold tickR; rw [if_pos hki, if_pos (by assumption)]]
      exact ret_held rfl (by (repeat first | refine goH ?_ | apply LHas.here | apply LHas.next); rfl)
    · have e2 : ({ i with l := i.l - 1 } : In) = { i with l := iarith .sub .i64 i.l 1 } := by rw [hsub]
      rw [show tickR i = ({ i with l := i.l - 1 }, [], 0) by unfold tickR; rw [if_pos hki, if_neg (by assumption), if_neg (by omega)], e2]
      exact ret_held rfl (by (repeat first | refine goH ?_ | apply LHas.here | apply LHas.next); rfl)
    all_goals
      have e1 : i.l = 1 := by omega
      have e2 : ({ i with l := 0, f := i.m, m := 0 } : In) = { i with l := iarith .sub .i64 i.l 1, f := i.m, m := 0 } := by rw [hsub, e1]; rfl
      rw [show tickR i = (behI { i with l := 0, f := i.m, m := 0 } j, behO { i with l := 0, f := i.m, m := 0 } j, 0) by unfold tickR; rw [if_pos hki, if_neg (by assumption), if_pos e1, hp], e2]
      first
        | (refine ret_side (x := behI { i with l := iarith .sub .i64 i.l 1, f := i.m, m := 0 } j) hvA_e.symm (l0 := i.h) (N := j + runN i.m (i.h.drop j)) rfl (run_le { i with l := iarith .sub .i64 i.l 1, f := i.m, m := 0 } hN1) ?_ ?_
           · rw [behO_len { i with l := iarith .sub .i64 i.l 1, f := i.m, m := 0 } hN1]
           · (repeat first | refine goH ?_ | apply LHas.here | apply LHas.next)
             refine ⟨rfl, ?_⟩
             (repeat first | refine goH ?_ | apply LHas.here | apply LHas.next)
             refine ⟨rfl, ?_⟩
             (repeat first | refine goH ?_ | apply LHas.here | apply LHas.next)
             trivial)
        | trace_state
open Go.RowKit
def lowTo (l : List Hl) (c : Int) (k : Nat) : Prop := ∀ j, j < k → (l.getD j Hl.z).c < c
theorem lowTo_0 (l : List Hl) (c : Int) : lowTo l c 0 := fun j h => by omega
theorem lowTo_s {l : List Hl} {c : Int} {k : Nat} (h : lowTo l c k) (h1 : (l.getD k Hl.z).c < c) : lowTo l c (k + 1) := fun j hj => by
 by_cases e : j = k
 · subst e; exact h1
 · exact h j (by omega)
theorem lowTo_end {l : List Hl} (hs : ascH l) {c : Int} {k : Nat} (h : lowTo l c k) (hk : k ≤ l.length) (h1 : k < l.length → c ≤ (l.getD k Hl.z).c) : k = posR l c := pos_eq hs hk h fun j h2 h3 => by
 by_cases e : j = k
 · subst e; exact h1 h3
 · have := hs k j (by omega) h3
   have := h1 (by omega)
   omega
theorem cut_ins (l : List Hl) (k m a : Nat) (x : Hl) (xs : List AV) (hk : k ≤ l.length) (hm : m = k * 2) (ha : xs = x.cs ++ (l.drop k).flatMap Hl.cs) : List.take m (List.drop 0 (l.flatMap Hl.cs)) ++ xs = (insL l k x).flatMap Hl.cs := by
 subst hm ha
 rw [List.drop_zero, fm_take Hl.cs_len]
 unfold insL
 rw [List.flatMap_append, List.flatMap_cons]
theorem hls1 (x : Hl) (l : List Hl) : ((x.cs ++ l.flatMap Hl.cs).all AV.one) = true := by rw [List.all_append, hls_one]; rfl
theorem app_tail (x : Hl) (l : List Hl) (k o m : Nat) (a : List AV) (hk : k ≤ l.length) (ha : a = x.cs) (ho : o = k * 2) (hm : m = (l.length - k) * 2) : a ++ List.take m (List.drop o (l.flatMap Hl.cs)) = x.cs ++ (l.drop k).flatMap Hl.cs := by
 subst ha ho hm
 rw [fm_drop Hl.cs_len, List.take_of_length_le (by rw [hls_len, List.length_drop]; omega)]
theorem ins_at (l : List Hl) (k m o : Nat) (x : Hl) (xs : List AV) (hk : k ≤ l.length) (hm : m = k * 2) (ho : o = 0) (ha : xs = x.cs ++ (l.drop k).flatMap Hl.cs) : List.take m (List.drop o (l.flatMap Hl.cs)) ++ xs = (insL l k x).flatMap Hl.cs := by
 subst ho; exact cut_ins l k m 0 x xs hk hm ha
theorem hl_all (l : List Hl) (k : Nat) (x : Hl) (m : Nat) (hk : k ≤ l.length) (hm : (1 + (l.length - k)) * 2 ≤ m) : List.take m (List.drop 0 (x.cs ++ (l.drop k).flatMap Hl.cs)) = x.cs ++ (l.drop k).flatMap Hl.cs := by
 rw [List.drop_zero, List.take_of_length_le]
 rw [List.length_append, hls_len, List.length_drop, Hl.cs_len]; omega
theorem hl_non (l : List Hl) (k : Nat) (x : Hl) (hk : l.length ≤ k) : x.cs = x.cs ++ (l.drop k).flatMap Hl.cs := by
 rw [List.drop_eq_nil_of_le hk]; rfl
theorem hl_tail (l : List Hl) (k o m : Nat) (hk : k ≤ l.length) (ho : o = k * 2) (hm : m = (l.length - k) * 2) : List.take m (List.drop o (l.flatMap Hl.cs)) = (l.drop k).flatMap Hl.cs := by
 subst ho hm
 rw [fm_drop Hl.cs_len, List.take_of_length_le (by rw [hls_len, List.length_drop]; omega)]
attribute [local irreducible] lowTo
theorem r17receive_c (i : In) (u : List UInt8) (hl : i.h.length ≤ 99999) : LSpec Tryz.prog gl 14 [i.av, bv u] [] (fun _ => (rAV (rcvR i u), [])) := by
 have hv := rvalid17_c (G := gl) i (by omega)
 cases hki : i.ok with
 | false =>
   rw [show rcvR i u = (inZ, [], 1) by unfold rcvR; rw [if_neg (by rw [hki]; decide)]]
   rw [hki] at hv
   refine goW [] Tryz.func14 rfl ?_
   conv => whnf
   repeat' ((first | exact Nm.b 0 | (show LCall _ _ _ _ _ _; first | refine LCall.pure (hv) ?_ | refine goE ?_) | refine T.s ?_ | ((first | apply goB | apply ABr.dec | apply ABr.gen) <;> intro h <;> try (exfalso; omega)) | refine LFresh.mk fun r => ?_ | (show SWpL _ _ _ _ _ _ _; first | (refine goD tyOk mixed 24 [1, 12] [0, 1, 2, 3, 4, 5, 6, 8, 9, 10, 11, 7, 12, 13, 14, 15] [] (by kernel_rfl) ?_)) | (show (_ → _) ∧ (¬ _ → _); first | refine T.y ?_ | refine dec_both (fun h => ?_) (fun h => ?_)) | exact T.z | fail) <;> conv => whnf)
   all_goals (try dsimp only)
   exact ret_zero
 | true =>
   have v := Vf.of hki
   rw [hki] at hv
   have hc := r17copy_o (G := gl) i v.k (by omega) (fun k hk => by have := (v.h k hk).2.2.2; omega)
   have hnum := rnumber_c i.b u
   have hinf := rinfer_c (G := gl) i.b i.f (numR i.b u).1
   have hopen := ropen_c i.k i.b (infR i.b i.f (numR i.b u).1).1 u
   have hC := inf_ok (b := i.b) (f := i.f) (x := (numR i.b u).1)
   unfold rcvR
   rw [if_pos hki]
   generalize openR i.k i.b (infR i.b i.f (numR i.b u).1).1 u = D at *
   generalize infR i.b i.f (numR i.b u).1 = C at *
   generalize numR i.b u = S at *
   obtain ⟨C, ce⟩ := C
   obtain ⟨D, de⟩ := D
   obtain ⟨S, se⟩ := S
   dsimp only at *
   have e1 : iarith .add .i64 i.f 1 = i.f + 1 := by have h1 := v.f; (exact T.num)
   have hlow := lowTo_0 i.h C
   have hPl := pos_le i.h C
   have hlen := hls_len i.h
   refine goW [3, 16] Tryz.func14 rfl ?_
   conv => whnf
   repeat' ((first | (show LCall _ _ _ [.agg _, .vw _ _ _ _] _ _; apply LCall.manyD (fun hnd => ron_b (hv0 := .vw q 0 i.h.length 2) { i with f := iarith .add .i64 i.f 1 } 0 [D] q _ (by dsimp only; omega) (by dsimp only; have := v.f; omega) (Nat.zero_le _) (Nat.le_of_ble_eq_true rfl) (by exact hnd) (hvA_0 q i.h.length))) | (show LCall _ _ _ [.agg _, .nils] _ _; refine LCall.eq (args' := [.agg (inC (putJ i (iarith .add .i64 C 1) C D) (.vw r 0 (putJ i (iarith .add .i64 C 1) C D).h.length 2)), .nils]) ?_ ?_; (focus (refine congrArg (fun z => [AV.agg (inC (putJ i (iarith .add .i64 C 1) C D) (.vw r 0 z 2)), AV.nils]) ?_; show _ = (insL _ _ _).length; rw [insL_len]; (try dsimp only); omega)); apply LCall.manyD (fun hnd => ron_n (putJ i (iarith .add .i64 C 1) C D) r (by show (insL _ _ _).length ≤ _; rw [insL_len]; omega) (by show 0 ≤ i.f ∧ i.f ≤ _; have := v.f; omega))) | (rw [hvA_e]) | exact Nm.b 0 | (refine And.intro ?_ ?_; (focus (first | ((try dsimp only); rw [hls_len]; omega) | ((try dsimp only); rw [List.length_append, hls_len, List.length_drop, Hl.cs_len]; omega) | exact hls1 ⟨C, D⟩ _ | exact all_take _ (all_drop _ (hls1 ⟨C, D⟩ _)) | exact all_take _ (all_drop _ (hls_one _)) | exact hls_one _ | exact T.kx | exact T.side))) | (show LCall _ _ _ _ _ _; first | refine LCall.pure (hv) ?_ | refine LCall.own (hc) ?_ | refine LCall.pure (hnum) ?_ | refine LCall.pure (hinf) ?_ | refine LCall.pure (hopen) ?_ | refine goE ?_) | (show ACell _ _ _; first | (refine ACell.fld Hl.cs_len (posR i.h C) 0 Hl.z (iAV (i.h.getD (posR i.h C) Hl.z).c) ?_ (by decide) ?_ rfl ?_; (focus ((try dsimp only); omega)); (focus omega)) | (refine ACell.fld Hl.cs_len k 0 Hl.z (iAV (i.h.getD k Hl.z).c) ?_ (by decide) ?_ rfl ?_; (focus ((try dsimp only); omega)); (focus omega))) | (show AList _ _; first | ((with_reducible show AList (_ ++ List.take _ (List.drop _ (List.flatMap _ _))) _); refine AList.eq (app_tail ⟨C, D⟩ i.h (posR i.h C) _ _ _ hPl ?_ ?_ ?_) ?_; (focus exact rfl); (focus ((try dsimp only); omega)); (focus ((try dsimp only); omega))) | ((with_reducible show AList (List.take _ (List.drop 0 (_ ++ List.flatMap _ _))) _); refine AList.eq (hl_all i.h (posR i.h C) ⟨C, D⟩ _ hPl ?_) ?_; (focus ((try dsimp only); omega))) | ((with_reducible show AList (List.take _ (List.drop _ (List.flatMap _ _)) ++ _) _); refine AList.eq (ins_at i.h (posR i.h C) _ _ ⟨C, D⟩ _ hPl ?_ ?_ ?_) ?_; (focus ((try dsimp only); omega)); (focus ((try dsimp only); omega)); (focus (first | exact rfl | (refine hl_all i.h (posR i.h C) ⟨C, D⟩ _ hPl ?_; (try dsimp only); omega) | (refine hl_non i.h (posR i.h C) ⟨C, D⟩ ?_; omega))))) | refine T.s ?_ | ((first | apply goB | apply ABr.dec | apply ABr.gen) <;> intro h <;> try (exfalso; omega)) | refine LFresh.mk fun r => ?_ | (show SWpL _ _ _ (.loop _) _ _ _; first | (apply goO tyOk [3, 16] 16 (S := Nat) [2, 4, 7, 10, 11] (fun k => ⟨[(12, .int .i64 k)], [(b7, ⟨32, inC i (.vw q 0 i.h.length 2)⟩), (q, ⟨56, i.h.flatMap Hl.cs⟩), (b4, ⟨32, zIn⟩), (b2, ⟨32, i.cs⟩)], k ≤ i.h.length ∧ lowTo i.h C k, i.h.length - k⟩) (0) (by rfl); (focus ((repeat' first | exact trivial | (refine And.intro ?_ ?_) | exact LSub.nil | (with_reducible exact LSub.refl) | (apply LSub.cons; (repeat first | refine goH ?_ | apply LHas.here | apply LHas.next); refine And.intro ?_ ?_; (focus (try (first | (with_reducible rfl) | (refine congrArg (Pl.mk _) ?_; (first | rfl | (simp; done))) | rfl | (with_reducible refine congrArg (Pl.mk _) ?_))))) | assumption | (exact congrArg (fun n : Nat => AV.int .i64 n) (lowTo_end v.asc hok (by omega) (fun h => by omega))) | (exact hlow) | (exact lowTo_s (by assumption) (by assumption)) | (first | (focus (apply Eq.trans; (conv => lhs; whnf); (conv => rhs; whnf); done)) | rfl | ((conv => lhs; whnf); first | rfl | (refine congrArg (AV.int _) ?_; (exact T.num)) | (refine congrArg AV.bool ?_; (exact T.num)) | (refine vw_congr ?_; first | (exact T.num) | (first | rfl | (simp; done))) | (refine sl_congr ?_ ?_ <;> first | (exact T.num) | (first | rfl | (simp; done))) | (first | rfl | (simp; done)))) | (exact T.num) | (dsimp only; (exact T.num)) | (first | rfl | (simp; done))); done)); rintro k ⟨hk, hok⟩)) | (show SWpL _ _ _ _ _ _ _; first | (refine goD tyOk mixed 24 [1, 12] [0, 1, 2, 3, 4, 5, 6, 8, 9, 10, 11, 7, 12, 13, 14, 15] [b7] (by kernel_rfl) ?_)) | (show AtL _ _ _ _ _ _ _ _ _ _; first | (apply AtL.mk' (id := 16) (S := Nat) (k + 1); (repeat' first | exact trivial | (refine And.intro ?_ ?_) | exact LSub.nil | (with_reducible exact LSub.refl) | (apply LSub.cons; (repeat first | refine goH ?_ | apply LHas.here | apply LHas.next); refine And.intro ?_ ?_; (focus (try (first | (with_reducible rfl) | (refine congrArg (Pl.mk _) ?_; (first | rfl | (simp; done))) | rfl | (with_reducible refine congrArg (Pl.mk _) ?_))))) | assumption | (exact congrArg (fun n : Nat => AV.int .i64 n) (lowTo_end v.asc hok (by omega) (fun h => by omega))) | (exact hlow) | (exact lowTo_s (by assumption) (by assumption)) | (first | (focus (apply Eq.trans; (conv => lhs; whnf); (conv => rhs; whnf); done)) | rfl | ((conv => lhs; whnf); first | rfl | (refine congrArg (AV.int _) ?_; (exact T.num)) | (refine congrArg AV.bool ?_; (exact T.num)) | (refine vw_congr ?_; first | (exact T.num) | (first | rfl | (simp; done))) | (refine sl_congr ?_ ?_ <;> first | (exact T.num) | (first | rfl | (simp; done))) | (first | rfl | (simp; done)))) | (exact T.num) | (dsimp only; (exact T.num)) | (first | rfl | (simp; done))); done) | (apply AtL.mk' (id := 16) (S := Nat) (k + 1); (repeat' first | exact trivial | (refine And.intro ?_ ?_) | exact LSub.nil | (with_reducible exact LSub.refl) | (apply LSub.cons; (repeat first | refine goH ?_ | apply LHas.here | apply LHas.next); refine And.intro ?_ ?_; (focus (try (first | (with_reducible rfl) | (refine congrArg (Pl.mk _) ?_; (first | rfl | (simp; done))) | rfl | (with_reducible refine congrArg (Pl.mk _) ?_))))) | assumption | (exact congrArg (fun n : Nat => AV.int .i64 n) (lowTo_end v.asc hok (by omega) (fun h => by omega))) | (exact hlow) | (exact lowTo_s (by assumption) (by assumption)) | (first | (focus (apply Eq.trans; (conv => lhs; whnf); (conv => rhs; whnf); done)) | rfl | ((conv => lhs; whnf); first | rfl | (refine congrArg (AV.int _) ?_; (exact T.num)) | (refine congrArg AV.bool ?_; (exact T.num)) | (refine vw_congr ?_; first | (exact T.num) | (first | rfl | (simp; done))) | (refine sl_congr ?_ ?_ <;> first | (exact T.num) | (first | rfl | (simp; done))) | (first | rfl | (simp; done)))) | (exact T.num) | (dsimp only; (exact T.num)) | (first | rfl | (simp; done))))) | (show CutL _ _ _ _ _ _ _ _; first | (refine goK tyOk [3, 16] 3 (S := Nm × Nm × Nm × Nm) [1] (fun (b2, b4, b7, q) => ⟨[(2, .ptr b2 0), (4, .ptr b4 0), (7, .ptr b7 0)], [(b7, ⟨32, inC i (.vw q 0 i.h.length 2)⟩), (q, ⟨56, i.h.flatMap Hl.cs⟩), (b4, ⟨32, zIn⟩), (b2, ⟨32, i.cs⟩)], True, 0⟩) ?_ ?_; (rintro ⟨b2, b4, b7, q⟩ -); rotate_left) | (refine goK tyOk [3, 16] 16 (S := Unit) [2, 4, 7, 10, 11] (fun _ => ⟨[(12, .int .i64 (posR i.h C))], [(b7, ⟨32, inC i (.vw q 0 i.h.length 2)⟩), (q, ⟨56, i.h.flatMap Hl.cs⟩), (b4, ⟨32, zIn⟩), (b2, ⟨32, i.cs⟩)], True, 0⟩) ?_ ?_; (rintro _ -); rotate_left) | refine CutL.go tyOk [3, 16] ?_) | (show AtC _ _ _ _ _ _ _ _; first | (apply AtC.mk' (id := 3) (S := Nm × Nm × Nm × Nm) ((_, _, _, _)); (repeat' first | exact trivial | (refine And.intro ?_ ?_) | exact LSub.nil | (with_reducible exact LSub.refl) | (apply LSub.cons; (repeat first | refine goH ?_ | apply LHas.here | apply LHas.next); refine And.intro ?_ ?_; (focus (try (first | (with_reducible rfl) | (refine congrArg (Pl.mk _) ?_; (first | rfl | (simp; done))) | rfl | (with_reducible refine congrArg (Pl.mk _) ?_))))) | assumption | (exact congrArg (fun n : Nat => AV.int .i64 n) (lowTo_end v.asc hok (by omega) (fun h => by omega))) | (exact hlow) | (exact lowTo_s (by assumption) (by assumption)) | (first | (focus (apply Eq.trans; (conv => lhs; whnf); (conv => rhs; whnf); done)) | rfl | ((conv => lhs; whnf); first | rfl | (refine congrArg (AV.int _) ?_; (exact T.num)) | (refine congrArg AV.bool ?_; (exact T.num)) | (refine vw_congr ?_; first | (exact T.num) | (first | rfl | (simp; done))) | (refine sl_congr ?_ ?_ <;> first | (exact T.num) | (first | rfl | (simp; done))) | (first | rfl | (simp; done)))) | (exact T.num) | (dsimp only; (exact T.num)) | (first | rfl | (simp; done))); done) | (apply AtC.mk' (id := 16) (S := Unit) (()); (repeat' first | exact trivial | (refine And.intro ?_ ?_) | exact LSub.nil | (with_reducible exact LSub.refl) | (apply LSub.cons; (repeat first | refine goH ?_ | apply LHas.here | apply LHas.next); refine And.intro ?_ ?_; (focus (try (first | (with_reducible rfl) | (refine congrArg (Pl.mk _) ?_; (first | rfl | (simp; done))) | rfl | (with_reducible refine congrArg (Pl.mk _) ?_))))) | assumption | (exact congrArg (fun n : Nat => AV.int .i64 n) (lowTo_end v.asc hok (by omega) (fun h => by omega))) | (exact hlow) | (exact lowTo_s (by assumption) (by assumption)) | (first | (focus (apply Eq.trans; (conv => lhs; whnf); (conv => rhs; whnf); done)) | rfl | ((conv => lhs; whnf); first | rfl | (refine congrArg (AV.int _) ?_; (exact T.num)) | (refine congrArg AV.bool ?_; (exact T.num)) | (refine vw_congr ?_; first | (exact T.num) | (first | rfl | (simp; done))) | (refine sl_congr ?_ ?_ <;> first | (exact T.num) | (first | rfl | (simp; done))) | (first | rfl | (simp; done)))) | (exact T.num) | (dsimp only; (exact T.num)) | (first | rfl | (simp; done))); done) | (apply AtC.mk' (id := 3) (S := Nm × Nm × Nm × Nm) ((_, _, _, _)); (repeat' first | exact trivial | (refine And.intro ?_ ?_) | exact LSub.nil | (with_reducible exact LSub.refl) | (apply LSub.cons; (repeat first | refine goH ?_ | apply LHas.here | apply LHas.next); refine And.intro ?_ ?_; (focus (try (first | (with_reducible rfl) | (refine congrArg (Pl.mk _) ?_; (first | rfl | (simp; done))) | rfl | (with_reducible refine congrArg (Pl.mk _) ?_))))) | assumption | (exact congrArg (fun n : Nat => AV.int .i64 n) (lowTo_end v.asc hok (by omega) (fun h => by omega))) | (exact hlow) | (exact lowTo_s (by assumption) (by assumption)) | (first | (focus (apply Eq.trans; (conv => lhs; whnf); (conv => rhs; whnf); done)) | rfl | ((conv => lhs; whnf); first | rfl | (refine congrArg (AV.int _) ?_; (exact T.num)) | (refine congrArg AV.bool ?_; (exact T.num)) | (refine vw_congr ?_; first | (exact T.num) | (first | rfl | (simp; done))) | (refine sl_congr ?_ ?_ <;> first | (exact T.num) | (first | rfl | (simp; done))) | (first | rfl | (simp; done)))) | (exact T.num) | (dsimp only; (exact T.num)) | (first | rfl | (simp; done)))) | (apply AtC.mk' (id := 16) (S := Unit) (()); (repeat' first | exact trivial | (refine And.intro ?_ ?_) | exact LSub.nil | (with_reducible exact LSub.refl) | (apply LSub.cons; (repeat first | refine goH ?_ | apply LHas.here | apply LHas.next); refine And.intro ?_ ?_; (focus (try (first | (with_reducible rfl) | (refine congrArg (Pl.mk _) ?_; (first | rfl | (simp; done))) | rfl | (with_reducible refine congrArg (Pl.mk _) ?_))))) | assumption | (exact congrArg (fun n : Nat => AV.int .i64 n) (lowTo_end v.asc hok (by omega) (fun h => by omega))) | (exact hlow) | (exact lowTo_s (by assumption) (by assumption)) | (first | (focus (apply Eq.trans; (conv => lhs; whnf); (conv => rhs; whnf); done)) | rfl | ((conv => lhs; whnf); first | rfl | (refine congrArg (AV.int _) ?_; (exact T.num)) | (refine congrArg AV.bool ?_; (exact T.num)) | (refine vw_congr ?_; first | (exact T.num) | (first | rfl | (simp; done))) | (refine sl_congr ?_ ?_ <;> first | (exact T.num) | (first | rfl | (simp; done))) | (first | rfl | (simp; done)))) | (exact T.num) | (dsimp only; (exact T.num)) | (first | rfl | (simp; done))))) | (show (_ → _) ∧ (¬ _ → _); first | refine T.y ?_ | refine dec_both (fun h => ?_) (fun h => ?_)) | exact T.z | fail) <;> conv => whnf)
   all_goals (try dsimp only)
   all_goals first
     | (rw [if_neg (by assumption)]; exact ret_held rfl (by (repeat first | refine goH ?_ | apply LHas.here | apply LHas.next); rfl))
     | (rw [if_pos (by assumption), if_neg (by assumption)]; exact ret_held rfl (by (repeat first | refine goH ?_ | apply LHas.here | apply LHas.next); rfl))
     | (rw [if_pos (by assumption), if_pos (by assumption), if_neg (by assumption)]; exact ret_held rfl (by (repeat first | refine goH ?_ | apply LHas.here | apply LHas.next); rfl))
     | (rw [if_pos (by assumption), if_pos (by assumption), if_pos (by assumption), show takeR i C D = (i, [], 11) from if_pos (by assumption)]; exact ret_held rfl (by (repeat first | refine goH ?_ | apply LHas.here | apply LHas.next); rfl))
     | (rw [if_pos (by assumption), if_pos (by assumption), if_pos (by assumption), show takeR i C D = (i, [], 12) from (if_neg (by assumption)).trans (if_pos (decide_eq_true ⟨by omega, by assumption⟩))]; exact ret_held rfl (by (repeat first | refine goH ?_ | apply LHas.here | apply LHas.next); rfl))
     | (have e2 : iarith .add .i64 C 1 = C + 1 := (by have h1 := hC (by assumption); (exact T.num))
        have hit : hitR i.h C = false := (decide_eq_false fun h => by first | exact absurd h.2 (by assumption) | (have := h.1; omega))
        rw [if_pos (by assumption), if_pos (by assumption), if_pos (by assumption)]
        first
          | (rw [show takeR i C D = (behI { i with f := i.f + 1 } 0, [D] ++ behO { i with f := i.f + 1 } 0, 0) from (if_neg (by assumption)).trans ((if_neg (by rw [hit]; decide)).trans (if_pos (by assumption))), ← e1]
             refine ret_side (q := q) hvA_e.symm (x := behI { i with f := iarith .add .i64 i.f 1 } 0) (l0 := i.h) (N := 0 + runN (iarith .add .i64 i.f 1) (i.h.drop 0)) rfl (run_le { i with f := iarith .add .i64 i.f 1 } (Nat.zero_le _)) ?_ ?_
             · rw [List.length_append, behO_len { i with f := iarith .add .i64 i.f 1 } (Nat.zero_le _)]
             · (repeat first | refine goH ?_ | apply LHas.here | apply LHas.next)
               refine ⟨rfl, ?_⟩
               (repeat first | refine goH ?_ | apply LHas.here | apply LHas.next)
               refine ⟨rfl, ?_⟩
               (repeat first | refine goH ?_ | apply LHas.here | apply LHas.next)
               trivial)
          | (rw [show takeR i C D = (behI (putI i C D) 0, behO (putI i C D) 0, 0) from (if_neg (by assumption)).trans ((if_neg (by rw [hit]; decide)).trans (if_neg (by assumption)))]
             rw [show putI i C D = putJ i (iarith .add .i64 C 1) C D by rw [e2]; rfl]
             first
               | (refine ret_side hvA_e.symm (x := behI (putJ i (iarith .add .i64 C 1) C D) 0) (l0 := (putJ i (iarith .add .i64 C 1) C D).h) (N := 0 + runN (putJ i (iarith .add .i64 C 1) C D).f ((putJ i (iarith .add .i64 C 1) C D).h.drop 0)) rfl (run_le (putJ i (iarith .add .i64 C 1) C D) (Nat.zero_le _)) ?_ ?_
                  · rw [behO_len (putJ i (iarith .add .i64 C 1) C D) (Nat.zero_le _)]; exact Nat.zero_add _
                  · (repeat first | refine goH ?_ | apply LHas.here | apply LHas.next)
                    refine ⟨rfl, ?_⟩
                    (repeat first | refine goH ?_ | apply LHas.here | apply LHas.next)
                    refine ⟨rfl, ?_⟩
                    (repeat first | refine goH ?_ | apply LHas.here | apply LHas.next)
                    trivial)))
     | trace_state
end Go.Proofs.YtnmifddidgofaaaGreatDoor
namespace Go.Proofs.YtnmifddidgofaaaGreatDoor
open Go.RowKit
variable {G : Nat → AV}
theorem put3n_c (n : Int) : LSpec Tryz.prog G 44 [.nils, iAV 3, iAV n] [] (fun q => (.vw q 0 3 1, [(q, ⟨5, (putB n 3).map bAV⟩)])) := by
 refine goW [] Tryz.func44 rfl ?_
 conv => whnf
 repeat' ((first | refine T.s ?_ | ((first | apply goB | apply ABr.dec | apply ABr.gen) <;> intro h <;> try (exfalso; omega)) | refine LFresh.mk fun r => ?_ | (show SWpL _ _ _ _ _ _ _; first | refine SWpL.times 2 4 (by rfl) ?_ | refine AtL.step tyOk [] ?_) | exact T.z | refine ⟨_, rfl, rfl, ?_⟩ | fail) <;> conv => whnf)
 all_goals (try dsimp only)
 refine RetL.own r rfl ?_ ?_
 · (repeat first | refine goH ?_ | apply LHas.here | apply LHas.next); trivial
 · apply LSub.cons
   (repeat first | refine goH ?_ | apply LHas.here | apply LHas.next)
   refine And.intro (congrArg (Pl.mk _) ?_) LSub.nil
   simp only [putB, List.map_append, List.map_cons, List.map_nil, bAV_b8, List.append_assoc, List.cons_append, List.nil_append]
   rfl
theorem key17_c : LSpec Tryz.prog G 10 [] [] (fun _ => (awK.av, [])) := by
 refine goW [] Tryz.func10 rfl ?_
 conv => whnf
 repeat' ((first | (show LCall _ _ _ _ _ _; first | refine LCall.pure (filled_c _ _ (by decide)) ?_ | refine goE ?_) | refine T.s ?_ | ((first | apply goB | apply ABr.dec | apply ABr.gen) <;> intro h <;> try (exfalso; omega)) | refine LFresh.mk fun r => ?_ | exact T.z | fail) <;> conv => whnf)
 all_goals (try dsimp only)
 (show RetL _ _ _; refine goR ?_)
 rfl
def sealB (b c : Int) : List UInt8 := (sealR awK b c (putB c 3)).1
theorem seal17_c (b c : Int) : LSpec Tryz.prog gl 13 [iAV b, iAV c] [] (fun _ => (bv (sealB b c), [])) := by
 have hs := rseal_c awK b c (putB c 3)
 unfold sealB
 generalize sealR awK b c (putB c 3) = s at *
 refine goW [] Tryz.func13 rfl ?_
 conv => whnf
 repeat' ((first | (show LEra _ _ _; conv => whnf) | (show LCall _ _ _ _ _ _; first | refine LCall.pure (key17_c) ?_ | refine LCall.own (put3n_c c) ?_ | refine LCall.mk' (hs) [_] ⟨LF.eq rfl, LF.eq rfl, LF.eq rfl, LF.row InL.here ?_, trivial⟩ ?_ | refine goE ?_) | refine T.s ?_ | ((first | apply goB | apply ABr.dec | apply ABr.gen) <;> intro h <;> try (exfalso; omega)) | refine LFresh.mk fun r => ?_ | exact T.z | fail) <;> conv => whnf)
 all_goals (try dsimp only)
 all_goals first | contradiction | ((show RetL _ _ _; refine goR ?_); rfl) | trace_state
def aw0 : In := ⟨5, awK, 0, 0, 0, 0, 0, []⟩
def aw1 : In := ⟨5, awK, 0, 2, 0, 0, 0, [⟨1, [0, 0, 1]⟩]⟩
def aw2 : In := ⟨5, awK, 2, 2, 0, 0, 0, []⟩
theorem aw_new : newI 5 0 awK = (aw0, 0) := by
 unfold newI
 rw [if_pos (by decide +kernel), if_pos awK_ok]
 rfl
theorem aw_sealB (c : Int) (hc : countOk c = true) : sealB 5 c = sealL awK 5 c (putB c 3) := by
 unfold sealB
 rw [sealR_ok awK_ok (by rw [hc]; decide +kernel) rfl]
theorem aw_1 : rcvR aw0 (sealB 5 1) = (aw1, [], 0) := by
 rw [aw_sealB 1 (by decide +kernel)]
 unfold rcvR
 rw [if_pos (by decide +kernel : aw0.ok = true), show aw0.b = 5 from rfl, num_seal awK 5 1 _ awK_ok (by decide +kernel) (by decide +kernel) rfl]
 rw [if_pos rfl, show infR 5 aw0.f (lowR 5 1) = (1, 0) by decide +kernel, if_pos rfl, show aw0.k = awK from rfl, open_seal awK 5 1 _ awK_ok (by decide +kernel) (by decide +kernel) rfl, if_pos rfl]
 with_unfolding_all rfl
theorem aw_2 : rcvR aw1 (sealB 5 0) = (aw2, [[0, 0, 0], [0, 0, 1]], 0) := by
 rw [aw_sealB 0 (by decide +kernel)]
 unfold rcvR
 rw [if_pos (by decide +kernel : aw1.ok = true), show aw1.b = 5 from rfl, num_seal awK 5 0 _ awK_ok (by decide +kernel) (by decide +kernel) rfl]
 rw [if_pos rfl, show infR 5 aw1.f (lowR 5 0) = (0, 0) by decide +kernel, if_pos rfl, show aw1.k = awK from rfl, open_seal awK 5 0 _ awK_ok (by decide +kernel) (by decide +kernel) rfl, if_pos rfl]
 with_unfolding_all rfl
theorem aw_ok : aw2.ok = true := by decide +kernel
theorem awake17_c : LSpec Tryz.prog gl 7 [] [] (fun _ => (.bool true, [])) := by
 have h0 := dnew_c (G := gl) 5 0 awK
 rw [aw_new] at h0
 have h1 := dreceive_c aw0 (sealB 5 1) (by decide)
 rw [aw_1] at h1
 have h2 := dreceive_c aw1 (sealB 5 0) (by decide)
 rw [aw_2] at h2
 have h3 := dvalid_c (G := gl) aw2 (by decide)
 rw [aw_ok] at h3
 have s1 := seal17_c 5 1
 have s0 := seal17_c 5 0
 generalize sealB 5 1 = u1 at *
 generalize sealB 5 0 = u0 at *
 refine goW [] Tryz.func7 rfl ?_
 conv => whnf
 repeat' ((first | exact Nm.b 0 | (show LCall _ _ _ _ _ _; first | refine LCall.pure (key17_c) ?_ | refine LCall.pure (h0) ?_ | refine LCall.pure (s1) ?_ | refine LCall.pure (s0) ?_ | refine LCall.pure (h1) ?_ | refine LCall.pure (h2) ?_ | refine LCall.pure (h3) ?_ | refine goE ?_) | refine T.s ?_ | ((first | apply goB | apply ABr.dec | apply ABr.gen) <;> intro h <;> try (exfalso; omega)) | refine LFresh.mk fun r => ?_ | (show SWpL _ _ _ _ _ _ _; first | refine gX 2 [0, 1] [0, 1, 2, 3, 4, 5, 6, 7, 8, 9] [] ?_ | refine gX 3 [0, 1] [0, 1, 2, 3, 4, 5, 6, 7, 8, 9] [] ?_) | exact T.z | fail) <;> conv => whnf)
 all_goals (try dsimp only)
 all_goals first | contradiction | ((show RetL _ _ _; refine goR ?_); rfl) | trace_state
theorem beh_len (i : In) : (behI i 0).h.length ≤ i.h.length ∧ (behO i 0).length ≤ i.h.length := by
 refine ⟨?_, ?_⟩
 · show (i.h.drop _).length ≤ _
   rw [List.length_drop]; omega
 · show ((i.h.take _).map _).length ≤ _
   rw [List.length_map, List.length_take]; omega
theorem behj_len (i : In) (j : Nat) : (behI i j).h.length ≤ i.h.length ∧ (behO i j).length ≤ i.h.length := by
 refine ⟨?_, ?_⟩
 · show (i.h.drop _).length ≤ _
   rw [List.length_drop]; omega
 · show ((i.h.take _).map _).length ≤ _
   rw [List.length_map, List.length_take]; omega
theorem rcv_len (i : In) (u : List UInt8) : (rcvR i u).1.h.length ≤ i.h.length + 1 ∧ (rcvR i u).2.1.length ≤ i.h.length + 1 := by
 have hz : inZ.h.length = 0 := rfl
 unfold rcvR
 split
 · split
   · split
     · split
       · unfold takeR
         split
         · exact ⟨Nat.le_succ _, Nat.zero_le _⟩
         · split
           · exact ⟨Nat.le_succ _, Nat.zero_le _⟩
           · split
             · have h := beh_len { i with f := i.f + 1 }
               dsimp only at h ⊢
               rw [List.length_append, List.length_singleton]
               omega
             · have h := beh_len (putI i (infR i.b i.f (numR i.b u).1).1 (openR i.k i.b (infR i.b i.f (numR i.b u).1).1 u).1)
               have e : (putI i (infR i.b i.f (numR i.b u).1).1 (openR i.k i.b (infR i.b i.f (numR i.b u).1).1 u).1).h.length = i.h.length + 1 := insL_len _ _ _
               rw [e] at h
               exact h
       · exact ⟨Nat.le_succ _, Nat.zero_le _⟩
     · exact ⟨Nat.le_succ _, Nat.zero_le _⟩
   · exact ⟨Nat.le_succ _, Nat.zero_le _⟩
 · exact ⟨by rw [hz]; omega, Nat.zero_le _⟩
theorem tick_len (i : In) : (tickR i).1.h.length ≤ i.h.length ∧ (tickR i).2.1.length ≤ i.h.length := by
 have hz : inZ.h.length = 0 := rfl
 unfold tickR
 split
 · split
   · exact ⟨Nat.le_refl _, Nat.zero_le _⟩
   · split
     · exact behj_len { i with l := 0, f := i.m, m := 0 } _
     · exact ⟨Nat.le_refl _, Nat.zero_le _⟩
 · exact ⟨by rw [hz]; omega, Nat.zero_le _⟩
theorem rst_len (i : In) (k : Ky) : (rstI i k).1.h.length ≤ i.h.length ∧ (rstI i k).2.1.length ≤ i.h.length := by
 unfold rstI
 split
 · exact ⟨Nat.zero_le _, by rw [List.length_map]; exact Nat.le_refl _⟩
 · exact ⟨Nat.zero_le _, Nat.zero_le _⟩
theorem rky_len (i : In) (k : Ky) : (rkyI i k).1.h.length ≤ i.h.length := by
 unfold rkyI
 split
 · split
   · exact Nat.le_refl _
   · exact Nat.zero_le _
 · exact Nat.zero_le _
theorem new_len (b t : Int) (k : Ky) : (newI b t k).1.h.length = 0 := by
 unfold newI
 split
 · split <;> rfl
 · rfl
theorem sameall_r (a : List (List UInt8)) (ha : a.length ≤ 1000000) : LSpec Tryz.prog G 24 [bsv a, bsv a] [] (fun _ => (.bool true, [])) := by
 have h := sameall_c (G := G) a a ha
 rwa [decide_eq_true rfl] at h
theorem agree_c (i : In) (u : List UInt8) (hl : i.h.length ≤ 50000) : LSpec Tryz.prog gl 22 [i.av, bv u] [] (fun _ => (.bool true, [])) := by
 have h1 := dreceive_c i u (by omega)
 have h2 := r17receive_c i u (by omega)
 have h3 := dtick_c gl_yl i (by omega)
 have h4 := r17tick_c (G := gl) i (by omega)
 have h5 := dvalid_c (G := gl) i (by omega)
 have h6 := rvalid17_c (G := gl) i (by omega)
 have l1 := rcv_len i u
 have l2 := tick_len i
 generalize rcvR i u = R at *
 generalize tickR i = Z at *
 generalize i.ok = o at *
 obtain ⟨R, y, e⟩ := R
 obtain ⟨Z, z, f⟩ := Z
 dsimp only at l1 l2
 have sy := sameall_r (G := gl) y (by omega)
 have sz := sameall_r (G := gl) z (by omega)
 have sR := r17same_c (G := gl) R (by omega)
 have sT := r17same_c (G := gl) Z (by omega)
 refine goW [] Tryz.func22 rfl ?_
 conv => whnf
 repeat' ((first | exact Nm.b 0 | (show LCall _ _ _ _ _ _; first | refine LCall.pure (h1) ?_ | refine LCall.pure (h2) ?_ | refine LCall.pure (h3) ?_ | refine LCall.pure (h4) ?_ | refine LCall.pure (h5) ?_ | refine LCall.pure (h6) ?_ | refine LCall.pure (sy) ?_ | refine LCall.pure (sz) ?_ | refine LCall.pure (sR) ?_ | refine LCall.pure (sT) ?_ | refine goE ?_) | refine T.s ?_ | ((first | apply goB | apply ABr.dec | apply ABr.gen) <;> intro h <;> try (exfalso; omega)) | refine LFresh.mk fun r => ?_ | (show SWpL _ _ _ _ _ _ _; first | refine gX 5 [2, 1] [0, 2, 1, 3, 4, 5, 6, 7, 8, 9, 10, 11, 12, 13, 14, 15, 16, 17, 18, 19, 20, 21, 22, 23, 24, 25, 26, 27, 28, 29, 30, 31, 32, 33, 34, 35] [] ?_) | exact T.z | fail) <;> conv => whnf)
 all_goals (try dsimp only)
 all_goals first | contradiction | ((show RetL _ _ _; refine goR ?_); rfl) | trace_state
theorem exact17_c (i : In) (u : List UInt8) (k : Ky) : LSpec Tryz.prog gl 4 [i.av, bv u, k.av] [] (fun _ => (.bool true, [])) := by
 by_cases hl : i.h.length ≤ 300 ∧ u.length ≤ 3000
 · have ha := agree_c i u (by omega)
   have h1 := dnew_c (G := gl) i.b i.t k
   have h2 := rnew17_c (G := gl) i.b i.t k
   have h3 := drekey_c (G := gl) i k (by omega)
   have h4 := r17rekey_c (G := gl) i k (by omega)
   have h5 := drestart_c (G := gl) i k (by omega)
   have h6 := r17restart_c (G := gl) i k (by omega)
   have l1 := new_len i.b i.t k
   have l2 := rky_len i k
   have l3 := rst_len i k
   generalize newI i.b i.t k = A at *
   generalize rkyI i k = B at *
   generalize rstI i k = C at *
   obtain ⟨A, ae⟩ := A
   obtain ⟨B, be⟩ := B
   obtain ⟨C, y, ce⟩ := C
   dsimp only at l1 l2 l3
   have sy := sameall_r (G := gl) y (by omega)
   have sA := r17same_c (G := gl) A (by omega)
   have sB := r17same_c (G := gl) B (by omega)
   have sC := r17same_c (G := gl) C (by omega)
   refine goW [] Tryz.func4 rfl ?_
   conv => whnf
   repeat' ((first | (show LCall _ _ _ _ _ _; first | refine LCall.pure (awake17_c) ?_ | refine LCall.pure (ha) ?_ | refine LCall.pure (h1) ?_ | refine LCall.pure (h2) ?_ | refine LCall.pure (h3) ?_ | refine LCall.pure (h4) ?_ | refine LCall.pure (h5) ?_ | refine LCall.pure (h6) ?_ | refine LCall.pure (sy) ?_ | refine LCall.pure (sA) ?_ | refine LCall.pure (sB) ?_ | refine LCall.pure (sC) ?_ | refine goE ?_) | refine T.s ?_ | ((first | apply goB | apply ABr.dec | apply ABr.gen) <;> intro h <;> try (exfalso; omega)) | refine LFresh.mk fun r => ?_ | exact T.z | fail) <;> conv => whnf)
   all_goals (try dsimp only)
   all_goals first | contradiction | ((show RetL _ _ _; refine goR ?_); rfl) | trace_state
 · refine goW [] Tryz.func4 rfl ?_
   conv => whnf
   repeat' ((first | (show LCall _ _ _ _ _ _; first | refine LCall.pure (awake17_c) ?_ | refine goE ?_) | refine T.s ?_ | ((first | apply goB | apply ABr.dec | apply ABr.gen) <;> intro h <;> try (exfalso; omega)) | refine LFresh.mk fun r => ?_ | exact T.z | fail) <;> conv => whnf)
   all_goals (try dsimp only)
   all_goals first | contradiction | ((show RetL _ _ _; refine goR ?_); rfl) | trace_state
open Go.RowKit
theorem onI_k (x : In) : (onI x).b = x.b ∧ (onI x).k = x.k ∧ (onI x).f = x.f ∧ (onI x).t = x.t ∧ (onI x).n = nxV x ∧ (((onI x).l = 0 ∧ (onI x).m = 0 ∧ (x.l = 0 → x.m = 0)) ∨ ((onI x).l = x.t ∧ (onI x).m = nxV x ∧ 0 < x.t ∧ x.f < nxV x) ∨ ((onI x).l = x.l ∧ (onI x).m = x.m ∧ ¬ (0 < x.l ∧ x.m ≤ x.f))) := by
 by_cases h1 : 0 < x.l ∧ x.m ≤ x.f
 · by_cases h2 : 0 < x.t ∧ x.f < nxV x
   · rw [onI_a h1.1 h1.2 h2.1 h2.2]; exact ⟨rfl, rfl, rfl, rfl, rfl, .inr (.inl ⟨rfl, rfl, h2⟩)⟩
   · rw [onI_b h1.1 h1.2 h2]; exact ⟨rfl, rfl, rfl, rfl, rfl, .inl ⟨rfl, rfl, fun h => by omega⟩⟩
 · by_cases h2 : x.l = 0 ∧ 0 < x.t ∧ x.f < nxV x
   · rw [onI_c h1 h2.1 h2.2.1 h2.2.2]; exact ⟨rfl, rfl, rfl, rfl, rfl, .inr (.inl ⟨rfl, rfl, h2.2⟩)⟩
   · rw [onI_d h1 h2]; exact ⟨rfl, rfl, rfl, rfl, rfl, .inr (.inr ⟨rfl, rfl, h1⟩)⟩
theorem win_pow {b : Int} (h : bitsOk b = true) : winR b = 2 ^ (b - 1).toNat ∧ 16 ≤ winR b ∧ winR b ≤ 256 := by
 rcases bits_cases h with rfl | rfl | rfl | rfl | rfl <;> decide +kernel
theorem hd_drop (l : List Hl) (n j : Nat) : (l.drop n).getD j Hl.z = l.getD (n + j) Hl.z := hl_drop l n j
theorem beh_ok {x : In} {h : List Hl} (hb : bitsOk x.b = true) (hk : x.k.ok = true) (hf : 0 ≤ x.f ∧ x.f ≤ 1048576) (hn : x.n ≤ 1048576) (ht : 0 ≤ x.t ∧ x.t ≤ 1000) (hm : (x.l = 0 ∧ x.m = 0) ∨ (0 < x.l ∧ x.l ≤ x.t ∧ x.m ≤ x.n)) (hw : x.n ≤ x.f + winR x.b)
   (ha : ascH h) (hr : ∀ j, j < h.length → x.f ≤ (h.getD j Hl.z).c ∧ (h.getD j Hl.z).c < x.n ∧ 1 ≤ (h.getD j Hl.z).d.length ∧ (h.getD j Hl.z).d.length ≤ 2048) (he : (h.length = 0 ∧ x.n ≤ x.f) ∨ (0 < h.length ∧ (h.getD (h.length - 1) Hl.z).c = x.n - 1)) :
   Vf { onI (stpI x (runN x.f h)) with h := h.drop (runN x.f h) } := by
 have hwp := win_pow hb
 have hN := runN_le h x.f
 have hyes := runN_yes h x.f
 have hno := runN_no h x.f
 generalize runN x.f h = N at *
 have h1 := onI_k (stpI x N)
 generalize onI (stpI x N) = y at *
 obtain ⟨e1, e2, e3, e4, e5, e6⟩ := h1
 have s1 : (stpI x N).b = x.b := rfl
 have s2 : (stpI x N).k = x.k := rfl
 have s3 : (stpI x N).f = x.f + N := rfl
 have s4 : (stpI x N).t = x.t := rfl
 have s5 : (stpI x N).n = x.n := rfl
 have s6 : (stpI x N).l = x.l := rfl
 have s7 : (stpI x N).m = x.m := rfl
 have sx : nxV (stpI x N) = if x.n < x.f + N then x.f + N else x.n := rfl
 rw [sx] at e5 e6
 rw [s1] at e1
 rw [s2] at e2
 rw [s3] at e3 e6
 rw [s4] at e4 e6
 rw [s6, s7] at e6
 -- where the run ends
 have hup : x.f + N ≤ 1048576 ∧ (0 < N → x.f + N ≤ x.n) := by
   by_cases h0 : N = 0
   · subst h0; exact ⟨by simpa using hf.2, fun h => by omega⟩
   · have h2 := hyes (N - 1) (by omega)
     have h3 := (hr (N - 1) (by omega)).2.1
     rw [h2] at h3
     exact ⟨by omega, fun _ => by omega⟩
 have hgt : ∀ j, N ≤ j → j < h.length → x.f + N < (h.getD j Hl.z).c := fun j h2 h3 => by
   have h4 : x.f + N < (h.getD N Hl.z).c := by
     have h5 := hno (by omega)
     by_cases h0 : N = 0
     · subst h0
       have := (hr 0 (by omega)).1
       omega
     · have h6 := hyes (N - 1) (by omega)
       have h7 := ha (N - 1) N (by omega) (by omega)
       omega
   by_cases h6 : N = j
   · subst h6; exact h4
   · have := ha N j (by omega) h3; omega
 have hlast : (N < h.length ∧ x.f + N < x.n ∧ (h.getD (h.length - 1) Hl.z).c = x.n - 1) ∨ (N = h.length ∧ x.n ≤ x.f + N) := by
   rcases he with ⟨h2, h3⟩ | ⟨h2, h3⟩
   · exact .inr ⟨by omega, by omega⟩
   · by_cases h4 : N < h.length
     · have := hgt (h.length - 1) (by omega) (by omega)
       exact .inl ⟨h4, by omega, h3⟩
     · have h5 := hyes (N - 1) (by omega)
       rw [show N - 1 = h.length - 1 by omega, h3] at h5
       exact .inr ⟨by omega, by omega⟩
 have e5' : y.n = if x.n < x.f + N then x.f + N else x.n := e5
 refine Vf.mk1 (by show bitsOk y.b = true; rw [e1]; exact hb) (by show y.k.ok = true; rw [e2]; exact hk) (by show 0 ≤ y.f ∧ y.f ≤ _; rw [e3]; omega) (by show y.f ≤ y.n ∧ y.n ≤ _; rw [e3, e5]; split <;> omega) (by show 0 ≤ y.t ∧ y.t ≤ _; rw [e4]; exact ht) ?_ ?_ ?_ ?_ ?_
 · show 0 ≤ y.l ∧ y.l ≤ y.t
   rw [e4]
   rcases e6 with h2 | h2 | h2 <;> omega
 · show (y.l = 0 ∧ y.m = 0) ∨ (0 < y.l ∧ y.f < y.m ∧ y.m ≤ y.n)
   rw [e3, e5]
   rcases e6 with h2 | h2 | h2
   · exact .inl ⟨h2.1, h2.2.1⟩
   · refine .inr ?_; omega
   · rcases hm with h3 | h3
     · exact .inl (by omega)
     · refine .inr ⟨by omega, by omega, ?_⟩
       split <;> omega
 · show y.n ≤ iarith .add .i64 y.f (winR y.b)
   rw [e3, e5, e1, iadd_in _ _ (by omega) (by omega)]
   split <;> omega
 · have hu : ∀ j, j < (h.drop N).length → lastC (x.f + N) (h.drop N) j < ((h.drop N).getD j Hl.z).c ∧ 1 ≤ ((h.drop N).getD j Hl.z).d.length ∧ ((h.drop N).getD j Hl.z).d.length ≤ 2048 := fun j hj => by
     rw [List.length_drop] at hj
     rw [hd_drop]
     refine ⟨?_, (hr (N + j) (by omega)).2.2⟩
     cases j with
     | zero => exact hgt N (by omega) (by omega)
     | succ j =>
       show ((h.drop N).getD j Hl.z).c < _
       rw [hd_drop]
       exact ha _ _ (by omega) (by omega)
   have hu' : ∀ j, j < (h.drop N).length → lastC y.f (h.drop N) j < ((h.drop N).getD j Hl.z).c ∧ 1 ≤ ((h.drop N).getD j Hl.z).d.length ∧ ((h.drop N).getD j Hl.z).d.length ≤ 2048 := by rw [e3]; exact hu
   with_unfolding_all exact hu'
 · show (0 < (h.drop N).length ∧ lastC y.f (h.drop N) (h.drop N).length = y.n - 1) ∨ ((h.drop N).length = 0 ∧ y.f = y.n)
   rw [e3, e5, List.length_drop]
   rcases hlast with ⟨h2, h3, h4⟩ | ⟨h2, h3⟩
   · refine .inl ⟨by omega, ?_⟩
     obtain ⟨m, hm'⟩ : ∃ m, h.length - N = m + 1 := ⟨h.length - N - 1, by omega⟩
     rw [hm', if_neg (by omega)]
     show ((h.drop N).getD m Hl.z).c = _
     rw [hd_drop, show N + m = h.length - 1 by omega, h4]
   · refine .inr ⟨by omega, ?_⟩
     split <;> omega
theorem ins_get {l : List Hl} {i : Nat} (x : Hl) (j : Nat) (hi : i ≤ l.length) : (insL l i x).getD j Hl.z = if j < i then l.getD j Hl.z else if j = i then x else l.getD (j - 1) Hl.z := by
 unfold insL
 simp only [List.getD_eq_getElem?_getD]
 by_cases h : j < i
 · rw [if_pos h, List.getElem?_append_left (by rw [List.length_take]; omega), List.getElem?_take, if_pos h]
 · rw [if_neg h, List.getElem?_append_right (by rw [List.length_take]; omega), List.length_take, Nat.min_eq_left hi]
   by_cases h2 : j = i
   · subst h2; rw [if_pos rfl, Nat.sub_self]; rfl
   · rw [if_neg h2]
     obtain ⟨k, rfl⟩ : ∃ k, j = i + k + 1 := ⟨j - i - 1, by omega⟩
     rw [show i + k + 1 - i = k + 1 by omega, List.getElem?_cons_succ, List.getElem?_drop]
     congr 2
theorem vf_last {i : In} (v : Vf i) (h : 0 < i.h.length) : (i.h.getD (i.h.length - 1) Hl.z).c = i.n - 1 := by
 rcases v.e with ⟨-, h2, -⟩ | ⟨-, h2⟩
 · obtain ⟨m, hm⟩ : ∃ m, i.h.length = m + 1 := ⟨i.h.length - 1, by omega⟩
   rw [hm] at h2 ⊢
   exact h2
 · rw [h2] at h; exact absurd h (by decide)
theorem vf_win {i : In} (v : Vf i) : i.n ≤ i.f + winR i.b := by
 have h1 := v.w
 have h2 := win_pow v.b
 have h3 := v.f
 rwa [iadd_in _ _ (by omega) (by omega)] at h1
theorem beh_next {i : In} (v : Vf i) (hf : i.f < 1048576) : Vf (behI { i with f := i.f + 1 } 0) := by
 have h1 := vf_win v
 have h2 := v.f
 have h3 := v.n
 have h4 := win_pow v.b
 have e : behI { i with f := i.f + 1 } 0 = { onI (stpI { i with f := i.f + 1 } (runN (i.f + 1) i.h)) with h := i.h.drop (runN (i.f + 1) i.h) } := by
   unfold behI; simp only [List.drop_zero, Nat.zero_add]
 rw [e]
 refine beh_ok (x := { i with f := i.f + 1 }) v.b v.k (by show 0 ≤ i.f + 1 ∧ i.f + 1 ≤ _; omega) h3.2 v.t ?_ (by show i.n ≤ i.f + 1 + winR i.b; omega) v.asc ?_ ?_
 · have := v.m; have := v.l; show (i.l = 0 ∧ i.m = 0) ∨ (0 < i.l ∧ i.l ≤ i.t ∧ i.m ≤ i.n); omega
 · intro j hj
   have h5 := v.lo j hj
   have h6 := v.h j hj
   exact ⟨by show i.f + 1 ≤ _; omega, h6.2⟩
 · by_cases h0 : 0 < i.h.length
   · exact .inr ⟨h0, vf_last v h0⟩
   · refine .inl ⟨by show i.h.length = 0; omega, ?_⟩
     show i.n ≤ i.f + 1
     rcases v.e with h5 | h5 <;> omega
theorem beh_put {i : In} (v : Vf i) {c : Int} {d : List UInt8} (hc : i.f < c) (hc2 : c < 1048576) (hcw : c + 1 ≤ i.f + winR i.b) (hh : hitR i.h c = false) (hd : 1 ≤ d.length ∧ d.length ≤ 2048) : Vf (behI (putI i c d) 0) := by
 have h1 := vf_win v
 have h2 := v.f
 have h3 := v.n
 have h4 := win_pow v.b
 have hP := pos_le i.h c
 have hlt := pos_lt i.h c
 have hge : posR i.h c < i.h.length → c < (i.h.getD (posR i.h c) Hl.z).c := fun h => by
   have h5 := pos_ge i.h c h
   have h6 : ¬ (posR i.h c < i.h.length ∧ (i.h.getD (posR i.h c) Hl.z).c = c) := of_decide_eq_false hh
   have : ¬ (i.h.getD (posR i.h c) Hl.z).c = c := fun h7 => h6 ⟨h, h7⟩
   omega
 have e : behI (putI i c d) 0 = { onI (stpI (putI i c d) (runN (putI i c d).f (putI i c d).h)) with h := (putI i c d).h.drop (runN (putI i c d).f (putI i c d).h) } := by
   unfold behI; simp only [List.drop_zero, Nat.zero_add]
 rw [e]
 have eh : (putI i c d).h = insL i.h (posR i.h c) ⟨c, d⟩ := rfl
 have en : (putI i c d).n = if i.n < c + 1 then c + 1 else i.n := rfl
 have ef : (putI i c d).f = i.f := rfl
 have eb : (putI i c d).b = i.b := rfl
 have ek : (putI i c d).k = i.k := rfl
 have et : (putI i c d).t = i.t := rfl
 have el : (putI i c d).l = i.l := rfl
 have em : (putI i c d).m = i.m := rfl
 generalize putI i c d = x at *
 have hasc := v.asc
 have hlen := insL_len i.h (posR i.h c) ⟨c, d⟩
 have hg : ∀ j, x.h.getD j Hl.z = if j < posR i.h c then i.h.getD j Hl.z else if j = posR i.h c then ⟨c, d⟩ else i.h.getD (j - 1) Hl.z := fun j => by rw [eh]; exact ins_get _ j hP
 rw [← eh] at hlen
 have hge' : ∀ j, posR i.h c ≤ j → j < i.h.length → c < (i.h.getD j Hl.z).c := fun j h5 h6 => by
   have h7 := hge (by omega)
   by_cases h8 : posR i.h c = j
   · rw [← h8]; exact h7
   · have := hasc (posR i.h c) j (by omega) h6; omega
 refine beh_ok (by rw [eb]; exact v.b) (by rw [ek]; exact v.k) (by rw [ef]; exact h2) (by rw [en]; split <;> omega) (by rw [et]; exact v.t) ?_ (by rw [en, ef, eb]; split <;> omega) ?_ ?_ ?_
 · rw [el, em, et, en]
   rcases v.m with h5 | h5
   · exact .inl h5
   · have := v.l
     refine .inr ⟨h5.1, this.2, ?_⟩
     split <;> omega
 · intro a b hab hb
   rw [hg, hg]
   rw [hlen] at hb
   by_cases c1 : b < posR i.h c
   · rw [if_pos (by omega), if_pos c1]; exact hasc a b hab (by omega)
   · rw [if_neg c1]
     by_cases c2 : b = posR i.h c
     · rw [if_pos c2, if_pos (by omega)]; exact hlt a (by omega)
     · rw [if_neg c2]
       by_cases c3 : a < posR i.h c
       · rw [if_pos c3]
         exact hasc a (b - 1) (by omega) (by omega)
       · rw [if_neg c3]
         by_cases c4 : a = posR i.h c
         · rw [if_pos c4]; exact hge' (b - 1) (by omega) (by omega)
         · rw [if_neg c4]; exact hasc (a - 1) (b - 1) (by omega) (by omega)
 · intro j hj
   rw [hlen] at hj
   rw [hg, ef, en]
   by_cases c1 : j < posR i.h c
   · rw [if_pos c1]
     have h5 := v.lo j (by omega)
     have h6 := v.h j (by omega)
     exact ⟨by omega, by split <;> omega, h6.2.2⟩
   · rw [if_neg c1]
     by_cases c2 : j = posR i.h c
     · rw [if_pos c2]; exact ⟨by show _ ≤ c; omega, by show c < _; split <;> omega, hd⟩
     · rw [if_neg c2]
       have h5 := v.lo (j - 1) (by omega)
       have h6 := v.h (j - 1) (by omega)
       exact ⟨by omega, by split <;> omega, h6.2.2⟩
 · refine .inr ⟨by omega, ?_⟩
   rw [hlen, hg, en]
   rw [show i.h.length + 1 - 1 = i.h.length by omega, if_neg (by omega)]
   by_cases c1 : i.h.length = posR i.h c
   · rw [if_pos c1]
     show c = _
     by_cases h0 : 0 < i.h.length
     · have h5 := vf_last v h0
       have h6 := hlt (i.h.length - 1) (by omega)
       rw [if_pos (by omega)]; omega
     · rcases v.e with h5 | h5
       · omega
       · rw [if_pos (by omega)]; omega
   · rw [if_neg c1]
     have h5 := vf_last v (by omega)
     have h6 := hge' (i.h.length - 1) (by omega) (by omega)
     rw [h5] at h6 ⊢
     rw [if_neg (by omega)]
theorem beh_out {i : In} (v : Vf i) (hl : 0 < i.l) : Vf (behI { i with l := 0, f := i.m, m := 0 } (posR i.h i.m)) := by
 have h1 := vf_win v
 have h2 := v.f
 have h3 := v.n
 have h4 := win_pow v.b
 have hP := pos_le i.h i.m
 have hm : i.f < i.m ∧ i.m ≤ i.n := by have := v.m; omega
 have e : behI { i with l := 0, f := i.m, m := 0 } (posR i.h i.m) = { onI (stpI { i with l := 0, f := i.m, m := 0 } (runN i.m (i.h.drop (posR i.h i.m)))) with h := (i.h.drop (posR i.h i.m)).drop (runN i.m (i.h.drop (posR i.h i.m))) } := by
   unfold behI; rw [List.drop_drop]
 rw [e]
 have hge : ∀ j, posR i.h i.m ≤ j → j < i.h.length → i.m ≤ (i.h.getD j Hl.z).c := fun j h5 h6 => by
   have h7 := pos_ge i.h i.m (by omega)
   by_cases h8 : posR i.h i.m = j
   · rw [← h8]; exact h7
   · have := v.asc (posR i.h i.m) j (by omega) h6; omega
 refine beh_ok (x := { i with l := 0, f := i.m, m := 0 }) v.b v.k (by show 0 ≤ i.m ∧ i.m ≤ _; omega) h3.2 v.t (.inl ⟨rfl, rfl⟩) (by show i.n ≤ i.m + winR i.b; omega) ?_ ?_ ?_
 · intro a b hab hb
   rw [List.length_drop] at hb
   rw [hd_drop, hd_drop]
   exact v.asc _ _ (by omega) (by omega)
 · intro j hj
   rw [List.length_drop] at hj
   rw [hd_drop]
   exact ⟨hge _ (by omega) (by omega), (v.h _ (by omega)).2⟩
 · rw [List.length_drop]
   have h0 : 0 < i.h.length := by rcases v.e with h5 | h5 <;> omega
   have h5 := vf_last v h0
   by_cases c1 : posR i.h i.m < i.h.length
   · refine .inr ⟨by omega, ?_⟩
     rw [hd_drop, show posR i.h i.m + (i.h.length - posR i.h i.m - 1) = i.h.length - 1 by omega]
     exact h5
   · refine .inl ⟨by omega, ?_⟩
     have h6 := pos_lt i.h i.m (i.h.length - 1) (by omega)
     show i.n ≤ i.m
     omega
theorem sg_top {b f x : Int} (h : bitsOk b = true) : sg b f x + 1 ≤ winR b ∧ - winR b ≤ sg b f x := by
 have h1 := lw_rng b (x - f)
 rw [(win_pow h).1]
 unfold sg
 rcases bits_cases h with rfl | rfl | rfl | rfl | rfl <;> (simp only [show ∀ n : Nat, (OfNat.ofNat n : Int).toNat = n from fun n => rfl] at *; split <;> (simp at *; omega))
theorem inf_win {b f x : Int} (h : (infR b f x).2 = 0) : bitsOk b = true ∧ (infR b f x).1 + 1 ≤ f + winR b ∧ 0 ≤ (infR b f x).1 ∧ (infR b f x).1 < 1048576 := by
 have h0 := inf_ok h
 unfold infR at *
 split at h
 · rename_i hc
   rw [if_pos hc] at h0 ⊢
   have := sg_top (f := f) (x := x) hc.1
   split at h
   · simp at h
   · rename_i h1
     rw [if_neg h1] at h0 ⊢
     split at h
     · rename_i h2
       rw [if_pos h2] at h0 ⊢
       exact ⟨hc.1, by dsimp only; omega, h0.1, h0.2⟩
     · simp at h
 · simp at h
theorem open_len {k : Ky} {b n : Int} {u : List UInt8} (h : (openR k b n u).2 = 0) : 1 ≤ (openR k b n u).1.length ∧ (openR k b n u).1.length ≤ 2048 := by
 by_cases h1 : k.ok = true
 · by_cases h2 : (bitsOk b && countOk n) = true
   · by_cases h3 : (numR b u).2 = 0
     · by_cases h4 : (numR b u).1 = lowR b n
       · have h5 := numR_ok h3
         rw [openR_ok h1 h2 h3 h4] at h ⊢
         split at h
         · rename_i h6
           rw [if_pos h6]
           show 1 ≤ (List.take _ _).length ∧ (List.take _ _).length ≤ 2048
           rw [List.length_take, xorL_len, List.length_drop]
           omega
         · simp at h
       · rw [openR_sn h1 h2 h3 h4] at h; simp at h
     · rw [openR_err h1 h2 h3] at h; exact absurd h h3
   · rw [openR_num u h1 (by simpa using h2)] at h; simp at h
 · rw [openR_key b n u (by simpa using h1)] at h; simp at h
theorem beh_kb (i : In) (j : Nat) : (behI i j).b = i.b ∧ (behI i j).k = i.k ∧ i.f ≤ (behI i j).f ∧ (behI i j).t = i.t := by
 have h := onI_k (stpI i (runN i.f (i.h.drop j)))
 refine ⟨h.1, h.2.1, ?_, h.2.2.2.1⟩
 show _ ≤ (onI _).f
 rw [h.2.2.1]
 show i.f ≤ i.f + _
 omega
theorem rcv_ok {i : In} (u : List UInt8) (v : Vf i) : Vf (rcvR i u).1 ∧ (rcvR i u).1.b = i.b ∧ (rcvR i u).1.k = i.k ∧ (rcvR i u).1.t = i.t ∧ i.f ≤ (rcvR i u).1.f := by
 have hb := inf_win (b := i.b) (f := i.f) (x := (numR i.b u).1)
 have hd := open_len (k := i.k) (b := i.b) (n := (infR i.b i.f (numR i.b u).1).1) (u := u)
 have hself : Vf i ∧ i.b = i.b ∧ i.k = i.k ∧ i.t = i.t ∧ i.f ≤ i.f := ⟨v, rfl, rfl, rfl, Int.le_refl _⟩
 unfold rcvR
 rw [if_pos v.to]
 split
 · split
   · rename_i h1 h2
     split
     · rename_i h3
       obtain ⟨-, hb1, hb2, hb3⟩ := hb h2
       have hd1 := hd h3
       generalize (openR i.k i.b (infR i.b i.f (numR i.b u).1).1 u).1 = d at *
       generalize (infR i.b i.f (numR i.b u).1).1 = c at *
       unfold takeR
       split
       · exact hself
       · split
         · exact hself
         · split
           · have h5 := beh_kb { i with f := i.f + 1 } 0
             refine ⟨beh_next v (by omega), h5.1, h5.2.1, h5.2.2.2, ?_⟩
             have := h5.2.2.1
             dsimp only at this ⊢
             omega
           · have h5 := beh_kb (putI i c d) 0
             refine ⟨beh_put v (by omega) hb3 hb1 (by simpa using ‹¬ hitR i.h c = true›) hd1, h5.1, h5.2.1, h5.2.2.2, h5.2.2.1⟩
     · exact hself
   · exact hself
 · exact hself
theorem tick_ok {i : In} (v : Vf i) : Vf (tickR i).1 ∧ (tickR i).1.b = i.b ∧ (tickR i).1.k = i.k ∧ (tickR i).1.t = i.t := by
 unfold tickR
 rw [if_pos v.to]
 split
 · exact ⟨v, rfl, rfl, rfl⟩
 · split
   · have h5 := beh_kb { i with l := 0, f := i.m, m := 0 } (posR i.h i.m)
     exact ⟨beh_out v (by omega), h5.1, h5.2.1, h5.2.2.2⟩
   · have h1 := v.l
     refine ⟨⟨v.b, v.k, v.f, v.n, v.t, ?_, ?_, v.w, v.h, v.e⟩, rfl, rfl, rfl⟩
     · show 0 ≤ i.l - 1 ∧ i.l - 1 ≤ i.t; omega
     · show (i.l - 1 = 0 ∧ i.m = 0) ∨ (0 < i.l - 1 ∧ i.f < i.m ∧ i.m ≤ i.n)
       have := v.m
       omega
open Go.RowKit
def rdm0 (t : List Int) : In × Nat :=
 if oneR t (nextA t (nextA t 0)) 4 = true then
   (⟨bitsR t 0, awK, iarith .sub .i64 1048576 (nextR t (nextA t (nextA t (nextA t 0))) 20), iarith .sub .i64 1048576 (nextR t (nextA t (nextA t (nextA t 0))) 20), 0, 0, nextR t (nextA t 0) 6, []⟩, nextA t (nextA t (nextA t (nextA t 0))))
 else (⟨bitsR t 0, awK, 0, 0, 0, 0, nextR t (nextA t 0) 6, []⟩, nextA t (nextA t (nextA t 0)))
def rdmN (t : List Int) : Nat := (nextR t (rdm0 t).2 25).toNat
structure RndOk (b0 : Int) (n0 : Nat) (i : In) : Prop where
 v : Vf i
 b : i.b = b0
 k : i.k = awK
 h : i.h.length ≤ n0
theorem new_vf {b t f : Int} (hb : bitsOk b = true) (ht : 0 ≤ t ∧ t ≤ 1000) (hf : 0 ≤ f ∧ f ≤ 1048576) : Vf ⟨b, awK, f, f, 0, 0, t, []⟩ := by
 have h2 := win_pow hb
 refine ⟨hb, awK_ok, hf, ⟨Int.le_refl _, hf.2⟩, ht, ⟨Int.le_refl _, ht.1⟩, .inl ⟨rfl, rfl⟩, ?_, fun j hj => absurd hj (by simp), .inr ⟨rfl, rfl⟩⟩
 show f ≤ iarith .add .i64 f (winR b)
 rw [iadd_in _ _ (by omega) (by omega)]
 omega
theorem rdm0_ok (t : List Int) : RndOk (bitsR t 0) 0 (rdm0 t).1 := by
 have hb := bitsR_ok t 0
 have h1 := nextR_lt t (nextA t 0) 6 (by decide) (by decide)
 have h2 := nextR_lt t (nextA t (nextA t (nextA t 0))) 20 (by decide) (by decide)
 have h3 : iarith .sub .i64 1048576 (nextR t (nextA t (nextA t (nextA t 0))) 20) = 1048576 - nextR t (nextA t (nextA t (nextA t 0))) 20 := by (exact T.num)
 unfold rdm0
 split
 · exact ⟨new_vf hb (by omega) (by rw [h3]; omega), rfl, rfl, Nat.le_refl _⟩
 · exact ⟨new_vf hb (by omega) (by omega), rfl, rfl, Nat.le_refl _⟩
theorem rdmN_lt (t : List Int) : rdmN t ≤ 24 ∧ nextR t (rdm0 t).2 25 = (rdmN t : Int) := by
 have h := nextR_lt t (rdm0 t).2 25 (by decide) (by decide)
 unfold rdmN
 omega
open Go.RowKit
variable {G : Nat → AV}
theorem ret_sideW {x : In} {l0 : List Hl} {N n : Nat} {q o : Nm} {outs : List (List UInt8)} {e : Int} {l : LS} {hv : AV} (he : hv = .vw q (N * 2) (l0.length - N) 2) (hn : n = outs.length) (h : LHas l o fun c' _ r => c'.cs = outC outs ∧ LSub [(q, ⟨56, l0.flatMap Hl.cs⟩)] r) (hq : LHas l q fun _ _ _ => True) :
   RetL (fun q => (.tup [.agg (inC x (.vw q (N * 2) (l0.length - N) 2)), bsv outs, iAV e], [(q, ⟨56, l0.flatMap Hl.cs⟩)])) (.tup [.agg (inC x hv), .vw o 0 n 1, iAV e]) l := by
 subst he
 have h2 : LHas l o fun c _ _ => c.cs = outs.map bv ∧ n = outs.length := LHas.mono h fun _ _ _ h => ⟨h.1, hn⟩
 exact RetL.ownF [o] q (LF.tup ⟨LF.eq rfl, LF.rowF InL.here h2, LF.eq rfl, trivial⟩) hq (LHas.mono h fun _ _ _ h => h.2)
theorem ret_heldW {x : In} {q : Nm} {e : Int} {l : LS} {n : Nat} (hn : n = x.h.length) (h : LSub [(q, ⟨56, x.h.flatMap Hl.cs⟩)] l) (hq : LHas l q fun _ _ _ => True) :
   RetL (fun q => (.tup [.agg (inC x (.vw q (0 * 2) (x.h.length - 0) 2)), bsv [], iAV e], [(q, ⟨56, x.h.flatMap Hl.cs⟩)])) (.tup [.agg (inC x (.vw q 0 n 2)), .nils, iAV e]) l := by
 subst hn
 exact RetL.ownF [] q (LF.tup ⟨LF.eq (by rw [Nat.zero_mul, Nat.sub_zero]), LF.nils rfl rfl, LF.eq rfl, trivial⟩) hq h
def tickJ (i : In) : Nat := if i.l = 1 then posR i.h i.m + runN i.m (i.h.drop (posR i.h i.m)) else 0
theorem tickJ_ok (i : In) (v : Vf i) : (tickR i).1.h = i.h.drop (tickJ i) ∧ tickJ i ≤ i.h.length := by
 have h1 := pos_le i.h i.m
 have h2 := runN_le (i.h.drop (posR i.h i.m)) i.m
 rw [List.length_drop] at h2
 unfold tickR tickJ
 rw [if_pos v.to]
 by_cases h0 : i.l = 0
 · rw [if_pos h0, if_neg (by omega)]
   exact ⟨rfl, Nat.zero_le _⟩
 · rw [if_neg h0]
   by_cases h3 : i.l = 1
   · rw [if_pos h3, if_pos h3]
     exact ⟨rfl, by omega⟩
   · rw [if_neg h3, if_neg h3]
     exact ⟨rfl, Nat.zero_le _⟩
def takeW (i : In) (c : Int) (d : List UInt8) : (In × List (List UInt8) × Int) × List Hl × Nat :=
 if c < i.f then ((i, [], 11), i.h, 0) else if hitR i.h c = true then ((i, [], 12), i.h, 0) else if c = i.f then ((behI { i with f := i.f + 1 } 0, [d] ++ behO { i with f := i.f + 1 } 0, 0), i.h, 0 + runN (i.f + 1) (i.h.drop 0)) else ((behI (putI i c d) 0, behO (putI i c d) 0, 0), (putI i c d).h, 0 + runN (putI i c d).f ((putI i c d).h.drop 0))
def rcvW (i : In) (u : List UInt8) : (In × List (List UInt8) × Int) × List Hl × Nat :=
 if (numR i.b u).2 = 0 then (if (infR i.b i.f (numR i.b u).1).2 = 0 then (if (openR i.k i.b (infR i.b i.f (numR i.b u).1).1 u).2 = 0 then
   takeW i (infR i.b i.f (numR i.b u).1).1 (openR i.k i.b (infR i.b i.f (numR i.b u).1).1 u).1
   else ((i, [], (openR i.k i.b (infR i.b i.f (numR i.b u).1).1 u).2), i.h, 0)) else ((i, [], (infR i.b i.f (numR i.b u).1).2), i.h, 0)) else ((i, [], (numR i.b u).2), i.h, 0)
theorem takeW_1 (i : In) (c : Int) (d : List UInt8) : (takeW i c d).1 = takeR i c d := by
 unfold takeW takeR
 split
 · rfl
 · split
   · rfl
   · split <;> rfl
theorem rcvW_1 (i : In) (u : List UInt8) (v : Vf i) : (rcvW i u).1 = rcvR i u := by
 unfold rcvW rcvR
 rw [if_pos v.to]
 split
 · split
   · split
     · exact takeW_1 _ _ _
     · rfl
   · rfl
 · rfl
theorem takeW_ok (i : In) (c : Int) (d : List UInt8) : (takeW i c d).1.1.h = (takeW i c d).2.1.drop (takeW i c d).2.2 ∧ (takeW i c d).2.2 ≤ (takeW i c d).2.1.length ∧ (takeW i c d).2.1.length ≤ i.h.length + 1 := by
 unfold takeW
 split
 · exact ⟨rfl, Nat.zero_le _, Nat.le_succ _⟩
 · split
   · exact ⟨rfl, Nat.zero_le _, Nat.le_succ _⟩
   · split
     · exact ⟨rfl, run_le { i with f := i.f + 1 } (Nat.zero_le _), Nat.le_succ _⟩
     · exact ⟨rfl, run_le (putI i c d) (Nat.zero_le _), Nat.le_of_eq (insL_len _ _ _)⟩
theorem rcvW_ok (i : In) (u : List UInt8) : (rcvW i u).1.1.h = (rcvW i u).2.1.drop (rcvW i u).2.2 ∧ (rcvW i u).2.2 ≤ (rcvW i u).2.1.length ∧ (rcvW i u).2.1.length ≤ i.h.length + 1 := by
 unfold rcvW
 split
 · split
   · split
     · exact takeW_ok _ _ _
     · exact ⟨rfl, Nat.zero_le _, Nat.le_succ _⟩
   · exact ⟨rfl, Nat.zero_le _, Nat.le_succ _⟩
 · exact ⟨rfl, Nat.zero_le _, Nat.le_succ _⟩
theorem r17tick_w (i : In) (v : Vf i) (hl : i.h.length ≤ 100000) : LSpec Tryz.prog G 33 [i.av] [] (fun q => (.tup [.agg (inC (tickR i).1 (.vw q (tickJ i * 2) (i.h.length - tickJ i) 2)), bsv (tickR i).2.1, iAV (tickR i).2.2], [(q, ⟨56, i.h.flatMap Hl.cs⟩)])) := by
 have hv := rvalid17_c (G := G) i hl
 have hki := v.to
 rw [hki] at hv
 have hc := r17copy_o (G := G) i v.k hl (fun k hk => by have := (v.h k hk).2.2.2; omega)
 have hN1 := pos_le i.h i.m
 generalize hp : posR i.h i.m = N1 at *
 have hT : ∀ j, j < N1 → decide ((i.h.getD j Hl.z).c < i.m) = true := fun j h => decide_eq_true (pos_lt i.h i.m j (by omega))
 have hF : N1 < i.h.length → decide ((i.h.getD N1 Hl.z).c < i.m) = false := fun h => by
   have := pos_ge i.h i.m (by omega)
   rw [hp] at this
   exact decide_eq_false (by omega)
 have hsub : iarith .sub .i64 i.l 1 = i.l - 1 := by have h1 := v.l; have h2 := v.t; (exact T.num)
 have hl0 := v.l
 all_goals
  refine goW [3] Tryz.func33 rfl ?_
  conv => whnf
  repeat' ((first | (rw [hvA_e]) | (show LCall _ _ _ [.agg _, .vw _ _ _ _] _ _; apply LCall.manyD (fun hnd => ron_e (hv0 := _) { i with l := iarith .sub .i64 i.l 1, f := i.m, m := 0 } j qh _ hl (by dsimp only; have h1 := v.n; have h2 := v.m; have h3 := v.f; omega) hN1 (by exact hnd) hk)) | exact Nm.b 0 | (refine And.intro ?_ ?_; (focus (first | ((try dsimp only); rw [hls_len]; omega) | exact T.kx | exact T.side))) | (show LCall _ _ _ _ _ _; first | refine LCall.pure (hv) ?_ | refine LCall.own (hc) ?_ | refine goE ?_) | (show ACell _ _ _; first | (refine ACell.fld Hl.cs_len j 0 Hl.z (iAV (i.h.getD j Hl.z).c) ?_ (by decide) ?_ rfl ?_; (focus ((try dsimp only); omega)); (focus omega)) | (refine ACell.fld Hl.cs_len j 1 Hl.z (bv (i.h.getD j Hl.z).d) ?_ (by decide) ?_ rfl ?_; (focus ((try dsimp only); omega)); (focus omega))) | refine T.s ?_ | ((first | apply goB | apply ABr.dec | apply ABr.gen) <;> intro h <;> try (exfalso; omega)) | refine LFresh.mk fun r => ?_ | (show SWpL _ _ _ (.loop _) _ _ _; first | (apply goO tyOk [3] 10 (S := Nat × AV × Nm) [2, 5] (fun (j, hv, o) => ⟨[(6, .vw o 0 j 1)], [(b5, ⟨32, inC { i with l := iarith .sub .i64 i.l 1 } hv⟩), (b2, ⟨32, zIn⟩), (qh, ⟨56, i.h.flatMap Hl.cs⟩), (o, ⟨27, outC ((i.h.take j).map (·.d))⟩)], hv = hvA qh j i.h.length ∧ j ≤ N1, N1 - j⟩) ((0, _, _)) (by rfl); (focus ((repeat' first | exact trivial | (refine And.intro ?_ ?_) | exact LSub.nil | (with_reducible exact LSub.refl) | (apply LSub.cons; (repeat first | refine goH ?_ | apply LHas.here | apply LHas.next); refine And.intro ?_ ?_; (focus (try (first | (with_reducible rfl) | (refine congrArg (Pl.mk _) ?_; (first | rfl | (simp; done))) | rfl | (with_reducible refine congrArg (Pl.mk _) ?_))))) | assumption | (exact hvA_0 _ _) | (exact hvA_next (by omega) (by omega)) | (exact (out_succ0 i.h j (by omega)).symm) | (first | (focus (apply Eq.trans; (conv => lhs; whnf); (conv => rhs; whnf); done)) | rfl | ((conv => lhs; whnf); first | rfl | (refine congrArg (AV.int _) ?_; (exact T.num)) | (refine congrArg AV.bool ?_; (exact T.num)) | (refine vw_congr ?_; first | (exact T.num) | (first | rfl | (simp; done))) | (refine sl_congr ?_ ?_ <;> first | (exact T.num) | (first | rfl | (simp; done))) | (first | rfl | (simp; done)))) | (exact T.num) | (dsimp only; (exact T.num)) | (first | rfl | (simp; done))); done)); rintro ⟨j, hv, o⟩ ⟨hk, hok⟩; (rcases hv_cases (W := fun _ c => decide (c < i.m)) hk hok hN1 (hT j) hF with ⟨hj1, hj2, rfl, hw⟩ | ⟨hj1, hj2, rfl, hw⟩ | ⟨hj1, hj2, rfl⟩ <;> (try subst hj1) <;> first | have hw2 : (i.h.getD j Hl.z).c < In.m { i with l := iarith .sub .i64 i.l 1 } := of_decide_eq_true hw | have hw2 : ¬ (i.h.getD j Hl.z).c < In.m { i with l := iarith .sub .i64 i.l 1 } := of_decide_eq_false hw | skip))) | (show SWpL _ _ _ _ _ _ _; first | refine SWpL.adopt 6 1 27 (by rfl) fun q => ?_ | refine gX 10 [] [0, 1, 2, 3, 4, 5, 6, 7, 8, 9, 10, 11, 12, 13] [] ?_) | (show AtL _ _ _ _ _ _ _ _ _ _; first | (apply AtL.mk' (id := 10) (S := Nat × AV × Nm) ((j + 1, _, _)); (repeat' first | exact trivial | (refine And.intro ?_ ?_) | exact LSub.nil | (with_reducible exact LSub.refl) | (apply LSub.cons; (repeat first | refine goH ?_ | apply LHas.here | apply LHas.next); refine And.intro ?_ ?_; (focus (try (first | (with_reducible rfl) | (refine congrArg (Pl.mk _) ?_; (first | rfl | (simp; done))) | rfl | (with_reducible refine congrArg (Pl.mk _) ?_))))) | assumption | (exact hvA_0 _ _) | (exact hvA_next (by omega) (by omega)) | (exact (out_succ0 i.h j (by omega)).symm) | (first | (focus (apply Eq.trans; (conv => lhs; whnf); (conv => rhs; whnf); done)) | rfl | ((conv => lhs; whnf); first | rfl | (refine congrArg (AV.int _) ?_; (exact T.num)) | (refine congrArg AV.bool ?_; (exact T.num)) | (refine vw_congr ?_; first | (exact T.num) | (first | rfl | (simp; done))) | (refine sl_congr ?_ ?_ <;> first | (exact T.num) | (first | rfl | (simp; done))) | (first | rfl | (simp; done)))) | (exact T.num) | (dsimp only; (exact T.num)) | (first | rfl | (simp; done))); done) | (apply AtL.mk' (id := 10) (S := Nat × AV × Nm) ((j + 1, _, _)); (repeat' first | exact trivial | (refine And.intro ?_ ?_) | exact LSub.nil | (with_reducible exact LSub.refl) | (apply LSub.cons; (repeat first | refine goH ?_ | apply LHas.here | apply LHas.next); refine And.intro ?_ ?_; (focus (try (first | (with_reducible rfl) | (refine congrArg (Pl.mk _) ?_; (first | rfl | (simp; done))) | rfl | (with_reducible refine congrArg (Pl.mk _) ?_))))) | assumption | (exact hvA_0 _ _) | (exact hvA_next (by omega) (by omega)) | (exact (out_succ0 i.h j (by omega)).symm) | (first | (focus (apply Eq.trans; (conv => lhs; whnf); (conv => rhs; whnf); done)) | rfl | ((conv => lhs; whnf); first | rfl | (refine congrArg (AV.int _) ?_; (exact T.num)) | (refine congrArg AV.bool ?_; (exact T.num)) | (refine vw_congr ?_; first | (exact T.num) | (first | rfl | (simp; done))) | (refine sl_congr ?_ ?_ <;> first | (exact T.num) | (first | rfl | (simp; done))) | (first | rfl | (simp; done)))) | (exact T.num) | (dsimp only; (exact T.num)) | (first | rfl | (simp; done))))) | (show CutL _ _ _ _ _ _ _ _; first | (refine goK tyOk [3] 3 (S := Nm × Nm × Nm) [] (fun (b2, b5, qh) => ⟨[(2, .ptr b2 0), (5, .ptr b5 0)], [(b5, ⟨32, inC i (.vw qh 0 i.h.length 2)⟩), (b2, ⟨32, zIn⟩), (qh, ⟨56, i.h.flatMap Hl.cs⟩)], True, 0⟩) ?_ ?_; (rintro ⟨b2, b5, qh⟩ -); rotate_left) | refine CutL.go tyOk [3] ?_) | (show AtC _ _ _ _ _ _ _ _; first | (apply AtC.mk' (id := 3) (S := Nm × Nm × Nm) ((_, _, _)); (repeat' first | exact trivial | (refine And.intro ?_ ?_) | exact LSub.nil | (with_reducible exact LSub.refl) | (apply LSub.cons; (repeat first | refine goH ?_ | apply LHas.here | apply LHas.next); refine And.intro ?_ ?_; (focus (try (first | (with_reducible rfl) | (refine congrArg (Pl.mk _) ?_; (first | rfl | (simp; done))) | rfl | (with_reducible refine congrArg (Pl.mk _) ?_))))) | assumption | (exact hvA_0 _ _) | (exact hvA_next (by omega) (by omega)) | (exact (out_succ0 i.h j (by omega)).symm) | (first | (focus (apply Eq.trans; (conv => lhs; whnf); (conv => rhs; whnf); done)) | rfl | ((conv => lhs; whnf); first | rfl | (refine congrArg (AV.int _) ?_; (exact T.num)) | (refine congrArg AV.bool ?_; (exact T.num)) | (refine vw_congr ?_; first | (exact T.num) | (first | rfl | (simp; done))) | (refine sl_congr ?_ ?_ <;> first | (exact T.num) | (first | rfl | (simp; done))) | (first | rfl | (simp; done)))) | (exact T.num) | (dsimp only; (exact T.num)) | (first | rfl | (simp; done))); done) | (apply AtC.mk' (id := 3) (S := Nm × Nm × Nm) ((_, _, _)); (repeat' first | exact trivial | (refine And.intro ?_ ?_) | exact LSub.nil | (with_reducible exact LSub.refl) | (apply LSub.cons; (repeat first | refine goH ?_ | apply LHas.here | apply LHas.next); refine And.intro ?_ ?_; (focus (try (first | (with_reducible rfl) | (refine congrArg (Pl.mk _) ?_; (first | rfl | (simp; done))) | rfl | (with_reducible refine congrArg (Pl.mk _) ?_))))) | assumption | (exact hvA_0 _ _) | (exact hvA_next (by omega) (by omega)) | (exact (out_succ0 i.h j (by omega)).symm) | (first | (focus (apply Eq.trans; (conv => lhs; whnf); (conv => rhs; whnf); done)) | rfl | ((conv => lhs; whnf); first | rfl | (refine congrArg (AV.int _) ?_; (exact T.num)) | (refine congrArg AV.bool ?_; (exact T.num)) | (refine vw_congr ?_; first | (exact T.num) | (first | rfl | (simp; done))) | (refine sl_congr ?_ ?_ <;> first | (exact T.num) | (first | rfl | (simp; done))) | (first | rfl | (simp; done)))) | (exact T.num) | (dsimp only; (exact T.num)) | (first | rfl | (simp; done))))) | (show (_ → _) ∧ (¬ _ → _); first | refine T.y ?_ | refine dec_both (fun h => ?_) (fun h => ?_)) | exact T.z | fail) <;> conv => whnf)
  all_goals (try dsimp only)
  · rw [show tickR i = (i, [], 0) by unfold tickR; rw [if_pos hki, if_pos (by assumption)], show tickJ i = 0 from if_neg (by omega)]
    exact ret_heldW (q := qh) rfl (by (repeat' first | exact LSub.nil | (with_reducible exact LSub.refl) | (apply LSub.cons; (repeat first | refine goH ?_ | apply LHas.here | apply LHas.next); refine And.intro ?_ ?_; (focus (try (first | (with_reducible rfl) | (refine congrArg (Pl.mk _) ?_; (first | rfl | (simp; done))) | rfl | (with_reducible refine congrArg (Pl.mk _) ?_))))))) (by (repeat first | refine goH ?_ | apply LHas.here | apply LHas.next); trivial)
  · have e2 : ({ i with l := i.l - 1 } : In) = { i with l := iarith .sub .i64 i.l 1 } := by rw [hsub]
    rw [show tickR i = ({ i with l := i.l - 1 }, [], 0) by unfold tickR; rw [if_pos hki, if_neg (by assumption), if_neg (by omega)], e2, show tickJ i = 0 from if_neg (by omega)]
    exact ret_heldW (q := qh) rfl (by (repeat' first | exact LSub.nil | (with_reducible exact LSub.refl) | (apply LSub.cons; (repeat first | refine goH ?_ | apply LHas.here | apply LHas.next); refine And.intro ?_ ?_; (focus (try (first | (with_reducible rfl) | (refine congrArg (Pl.mk _) ?_; (first | rfl | (simp; done))) | rfl | (with_reducible refine congrArg (Pl.mk _) ?_))))))) (by (repeat first | refine goH ?_ | apply LHas.here | apply LHas.next); trivial)
  all_goals
    have e1 : i.l = 1 := by omega
    have e2 : ({ i with l := 0, f := i.m, m := 0 } : In) = { i with l := iarith .sub .i64 i.l 1, f := i.m, m := 0 } := by rw [hsub, e1]; rfl
    rw [show tickR i = (behI { i with l := 0, f := i.m, m := 0 } j, behO { i with l := 0, f := i.m, m := 0 } j, 0) by unfold tickR; rw [if_pos hki, if_neg (by assumption), if_pos e1, hp], e2, show tickJ i = j + runN i.m (i.h.drop j) from (if_pos e1).trans (by rw [hp])]
    refine ret_sideW (q := qh) rfl ?_ ?_ (by (repeat first | refine goH ?_ | apply LHas.here | apply LHas.next); trivial)
    · rw [behO_len { i with l := iarith .sub .i64 i.l 1, f := i.m, m := 0 } hN1]
    · (repeat first | refine goH ?_ | apply LHas.here | apply LHas.next)
      refine ⟨rfl, ?_⟩
      (repeat' first | exact LSub.nil | (with_reducible exact LSub.refl) | (apply LSub.cons; (repeat first | refine goH ?_ | apply LHas.here | apply LHas.next); refine And.intro ?_ ?_; (focus (try (first | (with_reducible rfl) | (refine congrArg (Pl.mk _) ?_; (first | rfl | (simp; done))) | rfl | (with_reducible refine congrArg (Pl.mk _) ?_))))))
attribute [local irreducible] lowTo
theorem r17receive_w (i : In) (u : List UInt8) (v : Vf i) (hl : i.h.length ≤ 99999) : LSpec Tryz.prog gl 14 [i.av, bv u] [] (fun q => (.tup [.agg (inC (rcvW i u).1.1 (.vw q ((rcvW i u).2.2 * 2) ((rcvW i u).2.1.length - (rcvW i u).2.2) 2)), bsv (rcvW i u).1.2.1, iAV (rcvW i u).1.2.2], [(q, ⟨56, (rcvW i u).2.1.flatMap Hl.cs⟩)])) := by
 have hv := rvalid17_c (G := gl) i (by omega)
 have hki := v.to
 rw [hki] at hv
 have hc := r17copy_o (G := gl) i v.k (by omega) (fun k hk => by have := (v.h k hk).2.2.2; omega)
 have hnum := rnumber_c i.b u
 have hinf := rinfer_c (G := gl) i.b i.f (numR i.b u).1
 have hopen := ropen_c i.k i.b (infR i.b i.f (numR i.b u).1).1 u
 have hC := inf_ok (b := i.b) (f := i.f) (x := (numR i.b u).1)
 unfold rcvW
 generalize openR i.k i.b (infR i.b i.f (numR i.b u).1).1 u = D at *
 generalize infR i.b i.f (numR i.b u).1 = C at *
 generalize numR i.b u = S at *
 obtain ⟨C, ce⟩ := C
 obtain ⟨D, de⟩ := D
 obtain ⟨S, se⟩ := S
 dsimp only at *
 have e1 : iarith .add .i64 i.f 1 = i.f + 1 := by have h1 := v.f; (exact T.num)
 have hlow := lowTo_0 i.h C
 have hPl := pos_le i.h C
 have hlen := hls_len i.h
 refine goW [3, 16] Tryz.func14 rfl ?_
 conv => whnf
 repeat' ((first | (show LCall _ _ _ [.agg _, .vw _ _ _ _] _ _; apply LCall.manyD (fun hnd => ron_b (hv0 := .vw q 0 i.h.length 2) { i with f := iarith .add .i64 i.f 1 } 0 [D] q _ (by dsimp only; omega) (by dsimp only; have := v.f; omega) (Nat.zero_le _) (Nat.le_of_ble_eq_true rfl) (by exact hnd) (hvA_0 q i.h.length))) | (show LCall _ _ _ [.agg _, .nils] _ _; refine LCall.eq (args' := [.agg (inC (putJ i (iarith .add .i64 C 1) C D) (.vw r 0 (putJ i (iarith .add .i64 C 1) C D).h.length 2)), .nils]) ?_ ?_; (focus (refine congrArg (fun z => [AV.agg (inC (putJ i (iarith .add .i64 C 1) C D) (.vw r 0 z 2)), AV.nils]) ?_; show _ = (insL _ _ _).length; rw [insL_len]; (try dsimp only); omega)); apply LCall.manyD (fun hnd => ron_n (putJ i (iarith .add .i64 C 1) C D) r (by show (insL _ _ _).length ≤ _; rw [insL_len]; omega) (by show 0 ≤ i.f ∧ i.f ≤ _; have := v.f; omega))) | (rw [hvA_e]) | exact Nm.b 0 | (refine And.intro ?_ ?_; (focus (first | ((try dsimp only); rw [hls_len]; omega) | ((try dsimp only); rw [List.length_append, hls_len, List.length_drop, Hl.cs_len]; omega) | exact hls1 ⟨C, D⟩ _ | exact all_take _ (all_drop _ (hls1 ⟨C, D⟩ _)) | exact all_take _ (all_drop _ (hls_one _)) | exact hls_one _ | exact T.kx | exact T.side))) | (show LCall _ _ _ _ _ _; first | refine LCall.pure (hv) ?_ | refine LCall.own (hc) ?_ | refine LCall.pure (hnum) ?_ | refine LCall.pure (hinf) ?_ | refine LCall.pure (hopen) ?_ | refine goE ?_) | (show ACell _ _ _; first | (refine ACell.fld Hl.cs_len (posR i.h C) 0 Hl.z (iAV (i.h.getD (posR i.h C) Hl.z).c) ?_ (by decide) ?_ rfl ?_; (focus ((try dsimp only); omega)); (focus omega)) | (refine ACell.fld Hl.cs_len k 0 Hl.z (iAV (i.h.getD k Hl.z).c) ?_ (by decide) ?_ rfl ?_; (focus ((try dsimp only); omega)); (focus omega))) | (show AList _ _; first | ((with_reducible show AList (_ ++ List.take _ (List.drop _ (List.flatMap _ _))) _); refine AList.eq (app_tail ⟨C, D⟩ i.h (posR i.h C) _ _ _ hPl ?_ ?_ ?_) ?_; (focus exact rfl); (focus ((try dsimp only); omega)); (focus ((try dsimp only); omega))) | ((with_reducible show AList (List.take _ (List.drop 0 (_ ++ List.flatMap _ _))) _); refine AList.eq (hl_all i.h (posR i.h C) ⟨C, D⟩ _ hPl ?_) ?_; (focus ((try dsimp only); omega))) | ((with_reducible show AList (List.take _ (List.drop _ (List.flatMap _ _)) ++ _) _); refine AList.eq (ins_at i.h (posR i.h C) _ _ ⟨C, D⟩ _ hPl ?_ ?_ ?_) ?_; (focus ((try dsimp only); omega)); (focus ((try dsimp only); omega)); (focus (first | exact rfl | (refine hl_all i.h (posR i.h C) ⟨C, D⟩ _ hPl ?_; (try dsimp only); omega) | (refine hl_non i.h (posR i.h C) ⟨C, D⟩ ?_; omega))))) | refine T.s ?_ | ((first | apply goB | apply ABr.dec | apply ABr.gen) <;> intro h <;> try (exfalso; omega)) | refine LFresh.mk fun r => ?_ | (show SWpL _ _ _ (.loop _) _ _ _; first | (apply goO tyOk [3, 16] 16 (S := Nat) [2, 4, 7, 10, 11] (fun k => ⟨[(12, .int .i64 k)], [(b7, ⟨32, inC i (.vw q 0 i.h.length 2)⟩), (q, ⟨56, i.h.flatMap Hl.cs⟩), (b4, ⟨32, zIn⟩), (b2, ⟨32, i.cs⟩)], k ≤ i.h.length ∧ lowTo i.h C k, i.h.length - k⟩) (0) (by rfl); (focus ((repeat' first | exact trivial | (refine And.intro ?_ ?_) | exact LSub.nil | (with_reducible exact LSub.refl) | (apply LSub.cons; (repeat first | refine goH ?_ | apply LHas.here | apply LHas.next); refine And.intro ?_ ?_; (focus (try (first | (with_reducible rfl) | (refine congrArg (Pl.mk _) ?_; (first | rfl | (simp; done))) | rfl | (with_reducible refine congrArg (Pl.mk _) ?_))))) | assumption | (exact congrArg (fun n : Nat => AV.int .i64 n) (lowTo_end v.asc hok (by omega) (fun h => by omega))) | (exact hlow) | (exact lowTo_s (by assumption) (by assumption)) | (first | (focus (apply Eq.trans; (conv => lhs; whnf); (conv => rhs; whnf); done)) | rfl | ((conv => lhs; whnf); first | rfl | (refine congrArg (AV.int _) ?_; (exact T.num)) | (refine congrArg AV.bool ?_; (exact T.num)) | (refine vw_congr ?_; first | (exact T.num) | (first | rfl | (simp; done))) | (refine sl_congr ?_ ?_ <;> first | (exact T.num) | (first | rfl | (simp; done))) | (first | rfl | (simp; done)))) | (exact T.num) | (dsimp only; (exact T.num)) | (first | rfl | (simp; done))); done)); rintro k ⟨hk, hok⟩)) | (show SWpL _ _ _ _ _ _ _; first | (refine goD tyOk mixed 24 [1, 12] [0, 1, 2, 3, 4, 5, 6, 8, 9, 10, 11, 7, 12, 13, 14, 15] [b7] (by kernel_rfl) ?_)) | (show AtL _ _ _ _ _ _ _ _ _ _; first | (apply AtL.mk' (id := 16) (S := Nat) (k + 1); (repeat' first | exact trivial | (refine And.intro ?_ ?_) | exact LSub.nil | (with_reducible exact LSub.refl) | (apply LSub.cons; (repeat first | refine goH ?_ | apply LHas.here | apply LHas.next); refine And.intro ?_ ?_; (focus (try (first | (with_reducible rfl) | (refine congrArg (Pl.mk _) ?_; (first | rfl | (simp; done))) | rfl | (with_reducible refine congrArg (Pl.mk _) ?_))))) | assumption | (exact congrArg (fun n : Nat => AV.int .i64 n) (lowTo_end v.asc hok (by omega) (fun h => by omega))) | (exact hlow) | (exact lowTo_s (by assumption) (by assumption)) | (first | (focus (apply Eq.trans; (conv => lhs; whnf); (conv => rhs; whnf); done)) | rfl | ((conv => lhs; whnf); first | rfl | (refine congrArg (AV.int _) ?_; (exact T.num)) | (refine congrArg AV.bool ?_; (exact T.num)) | (refine vw_congr ?_; first | (exact T.num) | (first | rfl | (simp; done))) | (refine sl_congr ?_ ?_ <;> first | (exact T.num) | (first | rfl | (simp; done))) | (first | rfl | (simp; done)))) | (exact T.num) | (dsimp only; (exact T.num)) | (first | rfl | (simp; done))); done) | (apply AtL.mk' (id := 16) (S := Nat) (k + 1); (repeat' first | exact trivial | (refine And.intro ?_ ?_) | exact LSub.nil | (with_reducible exact LSub.refl) | (apply LSub.cons; (repeat first | refine goH ?_ | apply LHas.here | apply LHas.next); refine And.intro ?_ ?_; (focus (try (first | (with_reducible rfl) | (refine congrArg (Pl.mk _) ?_; (first | rfl | (simp; done))) | rfl | (with_reducible refine congrArg (Pl.mk _) ?_))))) | assumption | (exact congrArg (fun n : Nat => AV.int .i64 n) (lowTo_end v.asc hok (by omega) (fun h => by omega))) | (exact hlow) | (exact lowTo_s (by assumption) (by assumption)) | (first | (focus (apply Eq.trans; (conv => lhs; whnf); (conv => rhs; whnf); done)) | rfl | ((conv => lhs; whnf); first | rfl | (refine congrArg (AV.int _) ?_; (exact T.num)) | (refine congrArg AV.bool ?_; (exact T.num)) | (refine vw_congr ?_; first | (exact T.num) | (first | rfl | (simp; done))) | (refine sl_congr ?_ ?_ <;> first | (exact T.num) | (first | rfl | (simp; done))) | (first | rfl | (simp; done)))) | (exact T.num) | (dsimp only; (exact T.num)) | (first | rfl | (simp; done))))) | (show CutL _ _ _ _ _ _ _ _; first | (refine goK tyOk [3, 16] 3 (S := Nm × Nm × Nm × Nm) [1] (fun (b2, b4, b7, q) => ⟨[(2, .ptr b2 0), (4, .ptr b4 0), (7, .ptr b7 0)], [(b7, ⟨32, inC i (.vw q 0 i.h.length 2)⟩), (q, ⟨56, i.h.flatMap Hl.cs⟩), (b4, ⟨32, zIn⟩), (b2, ⟨32, i.cs⟩)], True, 0⟩) ?_ ?_; (rintro ⟨b2, b4, b7, q⟩ -); rotate_left) | (refine goK tyOk [3, 16] 16 (S := Unit) [2, 4, 7, 10, 11] (fun _ => ⟨[(12, .int .i64 (posR i.h C))], [(b7, ⟨32, inC i (.vw q 0 i.h.length 2)⟩), (q, ⟨56, i.h.flatMap Hl.cs⟩), (b4, ⟨32, zIn⟩), (b2, ⟨32, i.cs⟩)], True, 0⟩) ?_ ?_; (rintro _ -); rotate_left) | refine CutL.go tyOk [3, 16] ?_) | (show AtC _ _ _ _ _ _ _ _; first | (apply AtC.mk' (id := 3) (S := Nm × Nm × Nm × Nm) ((_, _, _, _)); (repeat' first | exact trivial | (refine And.intro ?_ ?_) | exact LSub.nil | (with_reducible exact LSub.refl) | (apply LSub.cons; (repeat first | refine goH ?_ | apply LHas.here | apply LHas.next); refine And.intro ?_ ?_; (focus (try (first | (with_reducible rfl) | (refine congrArg (Pl.mk _) ?_; (first | rfl | (simp; done))) | rfl | (with_reducible refine congrArg (Pl.mk _) ?_))))) | assumption | (exact congrArg (fun n : Nat => AV.int .i64 n) (lowTo_end v.asc hok (by omega) (fun h => by omega))) | (exact hlow) | (exact lowTo_s (by assumption) (by assumption)) | (first | (focus (apply Eq.trans; (conv => lhs; whnf); (conv => rhs; whnf); done)) | rfl | ((conv => lhs; whnf); first | rfl | (refine congrArg (AV.int _) ?_; (exact T.num)) | (refine congrArg AV.bool ?_; (exact T.num)) | (refine vw_congr ?_; first | (exact T.num) | (first | rfl | (simp; done))) | (refine sl_congr ?_ ?_ <;> first | (exact T.num) | (first | rfl | (simp; done))) | (first | rfl | (simp; done)))) | (exact T.num) | (dsimp only; (exact T.num)) | (first | rfl | (simp; done))); done) | (apply AtC.mk' (id := 16) (S := Unit) (()); (repeat' first | exact trivial | (refine And.intro ?_ ?_) | exact LSub.nil | (with_reducible exact LSub.refl) | (apply LSub.cons; (repeat first | refine goH ?_ | apply LHas.here | apply LHas.next); refine And.intro ?_ ?_; (focus (try (first | (with_reducible rfl) | (refine congrArg (Pl.mk _) ?_; (first | rfl | (simp; done))) | rfl | (with_reducible refine congrArg (Pl.mk _) ?_))))) | assumption | (exact congrArg (fun n : Nat => AV.int .i64 n) (lowTo_end v.asc hok (by omega) (fun h => by omega))) | (exact hlow) | (exact lowTo_s (by assumption) (by assumption)) | (first | (focus (apply Eq.trans; (conv => lhs; whnf); (conv => rhs; whnf); done)) | rfl | ((conv => lhs; whnf); first | rfl | (refine congrArg (AV.int _) ?_; (exact T.num)) | (refine congrArg AV.bool ?_; (exact T.num)) | (refine vw_congr ?_; first | (exact T.num) | (first | rfl | (simp; done))) | (refine sl_congr ?_ ?_ <;> first | (exact T.num) | (first | rfl | (simp; done))) | (first | rfl | (simp; done)))) | (exact T.num) | (dsimp only; (exact T.num)) | (first | rfl | (simp; done))); done) | (apply AtC.mk' (id := 3) (S := Nm × Nm × Nm × Nm) ((_, _, _, _)); (repeat' first | exact trivial | (refine And.intro ?_ ?_) | exact LSub.nil | (with_reducible exact LSub.refl) | (apply LSub.cons; (repeat first | refine goH ?_ | apply LHas.here | apply LHas.next); refine And.intro ?_ ?_; (focus (try (first | (with_reducible rfl) | (refine congrArg (Pl.mk _) ?_; (first | rfl | (simp; done))) | rfl | (with_reducible refine congrArg (Pl.mk _) ?_))))) | assumption | (exact congrArg (fun n : Nat => AV.int .i64 n) (lowTo_end v.asc hok (by omega) (fun h => by omega))) | (exact hlow) | (exact lowTo_s (by assumption) (by assumption)) | (first | (focus (apply Eq.trans; (conv => lhs; whnf); (conv => rhs; whnf); done)) | rfl | ((conv => lhs; whnf); first | rfl | (refine congrArg (AV.int _) ?_; (exact T.num)) | (refine congrArg AV.bool ?_; (exact T.num)) | (refine vw_congr ?_; first | (exact T.num) | (first | rfl | (simp; done))) | (refine sl_congr ?_ ?_ <;> first | (exact T.num) | (first | rfl | (simp; done))) | (first | rfl | (simp; done)))) | (exact T.num) | (dsimp only; (exact T.num)) | (first | rfl | (simp; done)))) | (apply AtC.mk' (id := 16) (S := Unit) (()); (repeat' first | exact trivial | (refine And.intro ?_ ?_) | exact LSub.nil | (with_reducible exact LSub.refl) | (apply LSub.cons; (repeat first | refine goH ?_ | apply LHas.here | apply LHas.next); refine And.intro ?_ ?_; (focus (try (first | (with_reducible rfl) | (refine congrArg (Pl.mk _) ?_; (first | rfl | (simp; done))) | rfl | (with_reducible refine congrArg (Pl.mk _) ?_))))) | assumption | (exact congrArg (fun n : Nat => AV.int .i64 n) (lowTo_end v.asc hok (by omega) (fun h => by omega))) | (exact hlow) | (exact lowTo_s (by assumption) (by assumption)) | (first | (focus (apply Eq.trans; (conv => lhs; whnf); (conv => rhs; whnf); done)) | rfl | ((conv => lhs; whnf); first | rfl | (refine congrArg (AV.int _) ?_; (exact T.num)) | (refine congrArg AV.bool ?_; (exact T.num)) | (refine vw_congr ?_; first | (exact T.num) | (first | rfl | (simp; done))) | (refine sl_congr ?_ ?_ <;> first | (exact T.num) | (first | rfl | (simp; done))) | (first | rfl | (simp; done)))) | (exact T.num) | (dsimp only; (exact T.num)) | (first | rfl | (simp; done))))) | (show (_ → _) ∧ (¬ _ → _); first | refine T.y ?_ | refine dec_both (fun h => ?_) (fun h => ?_)) | exact T.z | fail) <;> conv => whnf)
 all_goals (try dsimp only)
 all_goals first
   | (rw [if_neg (by assumption)]; exact ret_heldW (q := q) rfl (by (repeat' first | exact LSub.nil | (with_reducible exact LSub.refl) | (apply LSub.cons; (repeat first | refine goH ?_ | apply LHas.here | apply LHas.next); refine And.intro ?_ ?_; (focus (try (first | (with_reducible rfl) | (refine congrArg (Pl.mk _) ?_; (first | rfl | (simp; done))) | rfl | (with_reducible refine congrArg (Pl.mk _) ?_))))))) (by (repeat first | refine goH ?_ | apply LHas.here | apply LHas.next); trivial))
   | (rw [if_pos (by assumption), if_neg (by assumption)]; exact ret_heldW (q := q) rfl (by (repeat' first | exact LSub.nil | (with_reducible exact LSub.refl) | (apply LSub.cons; (repeat first | refine goH ?_ | apply LHas.here | apply LHas.next); refine And.intro ?_ ?_; (focus (try (first | (with_reducible rfl) | (refine congrArg (Pl.mk _) ?_; (first | rfl | (simp; done))) | rfl | (with_reducible refine congrArg (Pl.mk _) ?_))))))) (by (repeat first | refine goH ?_ | apply LHas.here | apply LHas.next); trivial))
   | (rw [if_pos (by assumption), if_pos (by assumption), if_neg (by assumption)]; exact ret_heldW (q := q) rfl (by (repeat' first | exact LSub.nil | (with_reducible exact LSub.refl) | (apply LSub.cons; (repeat first | refine goH ?_ | apply LHas.here | apply LHas.next); refine And.intro ?_ ?_; (focus (try (first | (with_reducible rfl) | (refine congrArg (Pl.mk _) ?_; (first | rfl | (simp; done))) | rfl | (with_reducible refine congrArg (Pl.mk _) ?_))))))) (by (repeat first | refine goH ?_ | apply LHas.here | apply LHas.next); trivial))
   | (rw [if_pos (by assumption), if_pos (by assumption), if_pos (by assumption), show takeW i C D = ((i, [], 11), i.h, 0) from if_pos (by assumption)]; exact ret_heldW (q := q) rfl (by (repeat' first | exact LSub.nil | (with_reducible exact LSub.refl) | (apply LSub.cons; (repeat first | refine goH ?_ | apply LHas.here | apply LHas.next); refine And.intro ?_ ?_; (focus (try (first | (with_reducible rfl) | (refine congrArg (Pl.mk _) ?_; (first | rfl | (simp; done))) | rfl | (with_reducible refine congrArg (Pl.mk _) ?_))))))) (by (repeat first | refine goH ?_ | apply LHas.here | apply LHas.next); trivial))
   | (rw [if_pos (by assumption), if_pos (by assumption), if_pos (by assumption), show takeW i C D = ((i, [], 12), i.h, 0) from (if_neg (by assumption)).trans (if_pos (decide_eq_true ⟨by omega, by assumption⟩))]; exact ret_heldW (q := q) rfl (by (repeat' first | exact LSub.nil | (with_reducible exact LSub.refl) | (apply LSub.cons; (repeat first | refine goH ?_ | apply LHas.here | apply LHas.next); refine And.intro ?_ ?_; (focus (try (first | (with_reducible rfl) | (refine congrArg (Pl.mk _) ?_; (first | rfl | (simp; done))) | rfl | (with_reducible refine congrArg (Pl.mk _) ?_))))))) (by (repeat first | refine goH ?_ | apply LHas.here | apply LHas.next); trivial))
   | (have e2 : iarith .add .i64 C 1 = C + 1 := (by have h1 := hC (by assumption); (exact T.num))
      have hit : hitR i.h C = false := (decide_eq_false fun h => by first | exact absurd h.2 (by assumption) | (have := h.1; omega))
      rw [if_pos (by assumption), if_pos (by assumption), if_pos (by assumption)]
      first
        | (rw [show takeW i C D = ((behI { i with f := i.f + 1 } 0, [D] ++ behO { i with f := i.f + 1 } 0, 0), i.h, 0 + runN (i.f + 1) (i.h.drop 0)) from (if_neg (by assumption)).trans ((if_neg (by rw [hit]; decide)).trans (if_pos (by assumption))), ← e1]
           refine ret_sideW (q := q) rfl ?_ ?_ (by (repeat first | refine goH ?_ | apply LHas.here | apply LHas.next); trivial)
           · rw [List.length_append, behO_len { i with f := iarith .add .i64 i.f 1 } (Nat.zero_le _)]
           · (repeat first | refine goH ?_ | apply LHas.here | apply LHas.next)
             refine ⟨rfl, ?_⟩
             (repeat' first | exact LSub.nil | (with_reducible exact LSub.refl) | (apply LSub.cons; (repeat first | refine goH ?_ | apply LHas.here | apply LHas.next); refine And.intro ?_ ?_; (focus (try (first | (with_reducible rfl) | (refine congrArg (Pl.mk _) ?_; (first | rfl | (simp; done))) | rfl | (with_reducible refine congrArg (Pl.mk _) ?_)))))))
        | (rw [show takeW i C D = ((behI (putI i C D) 0, behO (putI i C D) 0, 0), (putI i C D).h, 0 + runN (putI i C D).f ((putI i C D).h.drop 0)) from (if_neg (by assumption)).trans ((if_neg (by rw [hit]; decide)).trans (if_neg (by assumption)))]
           rw [show putI i C D = putJ i (iarith .add .i64 C 1) C D by rw [e2]; rfl]
           refine ret_sideW rfl ?_ ?_ (by (repeat first | refine goH ?_ | apply LHas.here | apply LHas.next); trivial)
           · rw [behO_len (putJ i (iarith .add .i64 C 1) C D) (Nat.zero_le _)]; exact Nat.zero_add _
           · (repeat first | refine goH ?_ | apply LHas.here | apply LHas.next)
             refine ⟨rfl, ?_⟩
             (repeat' first | exact LSub.nil | (with_reducible exact LSub.refl) | (apply LSub.cons; (repeat first | refine goH ?_ | apply LHas.here | apply LHas.next); refine And.intro ?_ ?_; (focus (try (first | (with_reducible rfl) | (refine congrArg (Pl.mk _) ?_; (first | rfl | (simp; done))) | rfl | (with_reducible refine congrArg (Pl.mk _) ?_))))))))
   | trace_state
end Go.Proofs.YtnmifddidgofaaaGreatDoor
namespace Go.Proofs.YtnmifddidgofaaaGreatDoor
open Go.RowKit
variable {G : Nat → AV}
theorem rnew17_n (b t : Int) (k : Ky) (c1 : bitsOk b = true) (c2 : 0 ≤ t ∧ t ≤ 1000) (h2 : k.ok = true) : LSpec Tryz.prog G 19 [iAV b, iAV t, k.av] [] (fun _ => (.tup [.agg (inC ⟨b, k, 0, 0, 0, 0, t, []⟩ .nils), iAV 0], [])) := by
 have hb := rbits_c (G := G) b
 rw [c1] at hb
 have hv := rvalid_c (G := G) k
 rw [h2] at hv
 have hp := rcopy_c (G := G) k
 refine goW [] Tryz.func19 rfl ?_
 conv => whnf
 repeat' ((first | (show LCall _ _ _ _ _ _; first | refine LCall.pure (hb) ?_ | refine LCall.pure (hv) ?_ | refine LCall.pure (hp h2) ?_ | refine goE ?_) | refine T.s ?_ | ((first | apply goB | apply ABr.dec | apply ABr.gen) <;> intro h <;> try (exfalso; omega)) | refine LFresh.mk fun r => ?_ | exact T.z | fail) <;> conv => whnf)
 all_goals (try dsimp only)
 all_goals first | (exfalso; omega) | ((show RetL _ _ _; refine goR ?_); rfl) | trace_state
abbrev InW := (In × Nat) × List Hl × Nat
def rdwStp (t : List Int) (b : Int) (x : InW) : InW :=
 if nextR t x.1.2 3 = iarith .sub .i64 3 1 then (((tickR x.1.1).1, nextA t x.1.2), x.1.1.h, tickJ x.1.1)
 else if iarith .add .i64 x.1.1.f (nextR t (nextA t x.1.2) 12) < 1048576 then (((rcvW x.1.1 (sealB b (iarith .add .i64 x.1.1.f (nextR t (nextA t x.1.2) 12)))).1.1, nextA t (nextA t x.1.2)), (rcvW x.1.1 (sealB b (iarith .add .i64 x.1.1.f (nextR t (nextA t x.1.2) 12)))).2)
 else ((x.1.1, nextA t (nextA t x.1.2)), x.2)
def rdwK (t : List Int) (b : Int) (x : InW) : Nat → InW
 | 0 => x
 | k + 1 => rdwStp t b (rdwK t b x k)
def rdw0 (t : List Int) : InW := (((rdm0 t).1, nextA t (rdm0 t).2), [], 0)
def rdwE (t : List Int) : InW := rdwK t (bitsR t 0) (rdw0 t) (rdmN t)
structure RwOk (b0 : Int) (n0 : Nat) (x : InW) : Prop where
 r : RndOk b0 n0 x.1.1
 h : x.1.1.h = x.2.1.drop x.2.2
 le : x.2.2 ≤ x.2.1.length
 n : x.2.1.length ≤ n0
theorem rdw0_ok (t : List Int) : RwOk (bitsR t 0) 0 (rdw0 t) := by
 refine ⟨rdm0_ok t, ?_, Nat.le_refl _, Nat.le_refl _⟩
 show (rdm0 t).1.h = []
 exact List.eq_nil_of_length_eq_zero (Nat.le_zero.1 (rdm0_ok t).h)
theorem rdwK_ok (t : List Int) {b : Int} {x : InW} (h : RwOk b 0 x) : ∀ k, RwOk b k (rdwK t b x k)
 | 0 => h
 | k + 1 => by
   have ih := rdwK_ok t h k
   show RwOk b (k + 1) (rdwStp t b (rdwK t b x k))
   generalize rdwK t b x k = y at *
   obtain ⟨⟨v, hb, hk, hh⟩, h1, h2, h3⟩ := ih
   unfold rdwStp
   split
   · have g1 := tick_ok v
     have g2 := tick_len y.1.1
     have g3 := tickJ_ok y.1.1 v
     exact ⟨⟨g1.1, g1.2.1.trans hb, g1.2.2.1.trans hk, by dsimp only; omega⟩, g3.1, g3.2, by dsimp only; omega⟩
   · split
     · generalize sealB b (iarith .add .i64 y.1.1.f (nextR t (nextA t y.1.2) 12)) = u
       have g1 := rcv_ok u v
       have g2 := rcv_len y.1.1 u
       have g3 := rcvW_ok y.1.1 u
       rw [← rcvW_1 y.1.1 u v] at g1 g2
       exact ⟨⟨g1.1, g1.2.1.trans hb, g1.2.2.1.trans hk, by dsimp only; omega⟩, g3.1, g3.2.1, by dsimp only; omega⟩
     · exact ⟨⟨v, hb, hk, by dsimp only; omega⟩, h1, h2, by dsimp only; omega⟩
theorem rdwE_ok (t : List Int) : RwOk (bitsR t 0) 24 (rdwE t) := by
 have h := rdwK_ok t (rdw0_ok t) (rdmN t)
 have h2 := (rdmN_lt t).1
 exact ⟨⟨h.r.v, h.r.b, h.r.k, by have := h.r.h; unfold rdwE; omega⟩, h.h, h.le, by have := h.n; unfold rdwE; omega⟩
theorem LF.in_ {l : LS} {F : List Nm} {i : In} {q : Nm} {N : Nat} {l0 : List Hl} (hF : InL q F) (hh : i.h = l0.drop N) (hN : N ≤ l0.length) (h : LHas l q fun c _ _ => c.cs = l0.flatMap Hl.cs) : LF l F (.agg (inC i (.vw q (N * 2) (l0.length - N) 2))) i.av := by
 have h1 : LF l F (.vw q (N * 2) (l0.length - N) 2) (hlv i.h) := by rw [hh, ← hvA_e]; exact LF.hv hF hN h
 exact LF.agg ⟨LF.eq rfl, LF.eq rfl, LF.eq rfl, LF.eq rfl, LF.eq rfl, LF.eq rfl, LF.eq rfl, LF.eq rfl, LF.eq rfl, LF.eq rfl, LF.eq rfl, h1, trivial⟩
theorem random_w (t : List Int) (ht : t.length ≤ 400) (p : Nm) : LSpec Tryz.prog gl 9 [.ptr p 0] [(p, dice t 0)] (fun q => (.agg (inC (rdwE t).1.1 (.vw q ((rdwE t).2.2 * 2) ((rdwE t).2.1.length - (rdwE t).2.2) 2)), [(q, ⟨56, (rdwE t).2.1.flatMap Hl.cs⟩), (p, dice t (rdwE t).1.2)])) := by
 have hb := bitsR_ok t 0
 have h1 := nextR_lt t (nextA t 0) 6 (by decide) (by decide)
 have hnew := rnew17_n (G := gl) (bitsR t 0) (nextR t (nextA t 0) 6) awK hb (by omega) awK_ok
 have hXk := fun k => rdwK_ok t (rdw0_ok t) k
 have hT : ∀ k, k ≤ 25 → LSpec Tryz.prog gl 33 [(rdwK t (bitsR t 0) (rdw0 t) k).1.1.av] [] (fun q => (.tup [.agg (inC (tickR (rdwK t (bitsR t 0) (rdw0 t) k).1.1).1 (.vw q (tickJ (rdwK t (bitsR t 0) (rdw0 t) k).1.1 * 2) ((rdwK t (bitsR t 0) (rdw0 t) k).1.1.h.length - tickJ (rdwK t (bitsR t 0) (rdw0 t) k).1.1) 2)), bsv (tickR (rdwK t (bitsR t 0) (rdw0 t) k).1.1).2.1, iAV (tickR (rdwK t (bitsR t 0) (rdw0 t) k).1.1).2.2], [(q, ⟨56, (rdwK t (bitsR t 0) (rdw0 t) k).1.1.h.flatMap Hl.cs⟩)])) := fun k hk => r17tick_w _ (hXk k).r.v (by have := (hXk k).r.h; omega)
 have hR : ∀ k c, k ≤ 25 → LSpec Tryz.prog gl 14 [(rdwK t (bitsR t 0) (rdw0 t) k).1.1.av, bv (sealB (bitsR t 0) c)] [] (fun q => (.tup [.agg (inC (rcvW (rdwK t (bitsR t 0) (rdw0 t) k).1.1 (sealB (bitsR t 0) c)).1.1 (.vw q ((rcvW (rdwK t (bitsR t 0) (rdw0 t) k).1.1 (sealB (bitsR t 0) c)).2.2 * 2) ((rcvW (rdwK t (bitsR t 0) (rdw0 t) k).1.1 (sealB (bitsR t 0) c)).2.1.length - (rcvW (rdwK t (bitsR t 0) (rdw0 t) k).1.1 (sealB (bitsR t 0) c)).2.2) 2)), bsv (rcvW (rdwK t (bitsR t 0) (rdw0 t) k).1.1 (sealB (bitsR t 0) c)).1.2.1, iAV (rcvW (rdwK t (bitsR t 0) (rdw0 t) k).1.1 (sealB (bitsR t 0) c)).1.2.2], [(q, ⟨56, (rcvW (rdwK t (bitsR t 0) (rdw0 t) k).1.1 (sealB (bitsR t 0) c)).2.1.flatMap Hl.cs⟩)])) := fun k c hk => r17receive_w _ _ (hXk k).r.v (by have := (hXk k).r.h; omega)
 have hS := fun c => seal17_c (bitsR t 0) c
 have hone := fun a n p => one_c (G := gl) t a n ht p
 have hN := rdmN_lt t
 unfold rdwE
 have s1 : ∀ k, nextR t (rdwK t (bitsR t 0) (rdw0 t) k).1.2 3 = iarith .sub .i64 3 1 → rdwK t (bitsR t 0) (rdw0 t) (k + 1) = (((tickR (rdwK t (bitsR t 0) (rdw0 t) k).1.1).1, nextA t (rdwK t (bitsR t 0) (rdw0 t) k).1.2), (rdwK t (bitsR t 0) (rdw0 t) k).1.1.h, tickJ (rdwK t (bitsR t 0) (rdw0 t) k).1.1) := fun k h => if_pos h
 have s2 : ∀ k, ¬ nextR t (rdwK t (bitsR t 0) (rdw0 t) k).1.2 3 = iarith .sub .i64 3 1 → iarith .add .i64 (rdwK t (bitsR t 0) (rdw0 t) k).1.1.f (nextR t (nextA t (rdwK t (bitsR t 0) (rdw0 t) k).1.2) 12) < 1048576 → rdwK t (bitsR t 0) (rdw0 t) (k + 1) = (((rcvW (rdwK t (bitsR t 0) (rdw0 t) k).1.1 (sealB (bitsR t 0) (iarith .add .i64 (rdwK t (bitsR t 0) (rdw0 t) k).1.1.f (nextR t (nextA t (rdwK t (bitsR t 0) (rdw0 t) k).1.2) 12)))).1.1, nextA t (nextA t (rdwK t (bitsR t 0) (rdw0 t) k).1.2)), (rcvW (rdwK t (bitsR t 0) (rdw0 t) k).1.1 (sealB (bitsR t 0) (iarith .add .i64 (rdwK t (bitsR t 0) (rdw0 t) k).1.1.f (nextR t (nextA t (rdwK t (bitsR t 0) (rdw0 t) k).1.2) 12)))).2) := fun k h h2 => (if_neg h).trans (if_pos h2)
 have s3 : ∀ k, ¬ nextR t (rdwK t (bitsR t 0) (rdw0 t) k).1.2 3 = iarith .sub .i64 3 1 → ¬ iarith .add .i64 (rdwK t (bitsR t 0) (rdw0 t) k).1.1.f (nextR t (nextA t (rdwK t (bitsR t 0) (rdw0 t) k).1.2) 12) < 1048576 → rdwK t (bitsR t 0) (rdw0 t) (k + 1) = (((rdwK t (bitsR t 0) (rdw0 t) k).1.1, nextA t (nextA t (rdwK t (bitsR t 0) (rdw0 t) k).1.2)), (rdwK t (bitsR t 0) (rdw0 t) k).2) := fun k h h2 => (if_neg h).trans (if_neg h2)
 have s0 : rdwK t (bitsR t 0) (rdw0 t) 0 = rdw0 t := rfl
 generalize rdmN t = N at *
 generalize rdwK t (bitsR t 0) (rdw0 t) = X at *
 unfold rdw0 at s0
 generalize hM : rdm0 t = M at *
 obtain ⟨m, am⟩ := M
 by_cases h4 : oneR t (nextA t (nextA t 0)) 4 = true
 all_goals
  have hone4 := fun p => hone (nextA t (nextA t 0)) 4 p
  first | (rw [show rdm0 t = _ from if_pos h4] at hM; rw [h4] at hone4) | (rw [show rdm0 t = _ from if_neg h4] at hM; rw [Bool.eq_false_iff.2 h4] at hone4)
  have hMa := congrArg Prod.fst hM
  have hMb := congrArg Prod.snd hM
  clear hM
  dsimp only at s0 hN hMa hMb
  refine goW [3, 6] Tryz.func9 rfl ?_
  conv => whnf
  repeat' ((first | (show LEra _ _ _; conv => whnf) | (show CutL _ _ _ (.seq (.region 6 _ _) _) _ _ _ _; refine CutL.adoptP tyOk [3, 6] b4 11 2 56 ?_; (repeat first | refine goH ?_ | apply LHas.here | apply LHas.next); refine ⟨Nat.le_of_ble_eq_true rfl, rfl, fun q0 => ?_⟩; (try dsimp only)) | exact Nm.b 0 | (show LCall _ _ _ _ _ _; first | (apply LCall.upd (dbits_c t _ ht _); (repeat first | refine goH ?_ | apply LHas.here | apply LHas.next); refine ⟨rfl, ?_⟩) | (apply LCall.upd (hone4 _); (repeat first | refine goH ?_ | apply LHas.here | apply LHas.next); refine ⟨rfl, ?_⟩) | (apply LCall.upd (hone _ _ _); (repeat first | refine goH ?_ | apply LHas.here | apply LHas.next); refine ⟨rfl, ?_⟩) | (apply LCall.upd (next_c t _ _ ht _); (repeat first | refine goH ?_ | apply LHas.here | apply LHas.next); refine ⟨rfl, ?_⟩) | refine LCall.pure (key17_c) ?_ | refine LCall.pure (hnew) ?_ | refine LCall.pure (hS _) ?_ | refine LCall.mk' (hT k (by omega)) [q] ⟨LF.in_ InL.here (hXk k).h (hXk k).le ?_, trivial⟩ ?_ | refine LCall.mk' (hR k _ (by omega)) [q] ⟨LF.in_ InL.here (hXk k).h (hXk k).le ?_, LF.eq rfl, trivial⟩ ?_ | refine goE ?_) | refine T.s ?_ | ((first | apply goB | apply ABr.dec | apply ABr.gen) <;> intro h <;> try (exfalso; omega)) | refine LFresh.mk fun r => ?_ | (show SWpL _ _ _ (.loop _) _ _ _; first | (apply goO tyOk [3, 6] 7 (S := Nat × Nm × Nm × Nm) [0, 3] (fun (k, b2, b4, q) => ⟨[(2, .ptr b2 0), (4, .ptr b4 0), (6, .int .i64 ((N : Int) - (k : Int)))], [(p, dice t (X k).1.2), (b4, ⟨32, inC (X k).1.1 (.vw q ((X k).2.2 * 2) ((X k).2.1.length - (X k).2.2) 2)⟩), (q, ⟨56, (X k).2.1.flatMap Hl.cs⟩), (b2, ⟨32, zIn⟩)], k ≤ N, N - k⟩) ((0, _, _, q0)) (by rfl); (focus ((repeat' first | exact trivial | (refine And.intro ?_ ?_) | exact LSub.nil | (with_reducible exact LSub.refl) | (apply LSub.cons; (repeat first | refine goH ?_ | apply LHas.here | apply LHas.next); refine And.intro ?_ ?_; (focus (try (first | (with_reducible rfl) | (refine congrArg (Pl.mk _) ?_; (first | rfl | (simp; done))) | rfl | (with_reducible refine congrArg (Pl.mk _) ?_))))) | assumption | (rw [← hMa] <;> rfl) | (rw [← hMb] <;> rfl) | (rw [s0] <;> rfl) | (rw [s1 k] <;> first | assumption | rfl) | (rw [s2 k] <;> first | assumption | rfl) | (rw [s3 k] <;> first | assumption | rfl) | (first | (focus (apply Eq.trans; (conv => lhs; whnf); (conv => rhs; whnf); done)) | rfl | ((conv => lhs; whnf); first | rfl | (refine congrArg (AV.int _) ?_; (exact T.num)) | (refine congrArg AV.bool ?_; (exact T.num)) | (refine vw_congr ?_; first | (exact T.num) | (first | rfl | (simp; done))) | (refine sl_congr ?_ ?_ <;> first | (exact T.num) | (first | rfl | (simp; done))) | (first | rfl | (simp; done)))) | (exact T.num) | (dsimp only; (exact T.num)) | (first | rfl | (simp; done))); done)); rintro ⟨k, b2, b4, q⟩ hok; (try dsimp only at hok))) | (show SWpL _ _ _ _ _ _ _; first | refine gX 11 [1, 3] [0, 1, 2, 3, 4, 5] [p] ?_ | refine gX 13 [0, 3] [0, 1, 2, 3, 4, 5, 6, 7, 8, 9] [p] ?_) | (show AtL _ _ _ _ _ _ _ _ _ _; first | (apply AtL.mk' (id := 7) (S := Nat × Nm × Nm × Nm) ((k + 1, b2, b4, _)); (repeat' first | exact trivial | (refine And.intro ?_ ?_) | exact LSub.nil | (with_reducible exact LSub.refl) | (apply LSub.cons; (repeat first | refine goH ?_ | apply LHas.here | apply LHas.next); refine And.intro ?_ ?_; (focus (try (first | (with_reducible rfl) | (refine congrArg (Pl.mk _) ?_; (first | rfl | (simp; done))) | rfl | (with_reducible refine congrArg (Pl.mk _) ?_))))) | assumption | (rw [← hMa] <;> rfl) | (rw [← hMb] <;> rfl) | (rw [s0] <;> rfl) | (rw [s1 k] <;> first | assumption | rfl) | (rw [s2 k] <;> first | assumption | rfl) | (rw [s3 k] <;> first | assumption | rfl) | (first | (focus (apply Eq.trans; (conv => lhs; whnf); (conv => rhs; whnf); done)) | rfl | ((conv => lhs; whnf); first | rfl | (refine congrArg (AV.int _) ?_; (exact T.num)) | (refine congrArg AV.bool ?_; (exact T.num)) | (refine vw_congr ?_; first | (exact T.num) | (first | rfl | (simp; done))) | (refine sl_congr ?_ ?_ <;> first | (exact T.num) | (first | rfl | (simp; done))) | (first | rfl | (simp; done)))) | (exact T.num) | (dsimp only; (exact T.num)) | (first | rfl | (simp; done))); done) | (apply AtL.mk' (id := 7) (S := Nat × Nm × Nm × Nm) ((k + 1, b2, b4, _)); (repeat' first | exact trivial | (refine And.intro ?_ ?_) | exact LSub.nil | (with_reducible exact LSub.refl) | (apply LSub.cons; (repeat first | refine goH ?_ | apply LHas.here | apply LHas.next); refine And.intro ?_ ?_; (focus (try (first | (with_reducible rfl) | (refine congrArg (Pl.mk _) ?_; (first | rfl | (simp; done))) | rfl | (with_reducible refine congrArg (Pl.mk _) ?_))))) | assumption | (rw [← hMa] <;> rfl) | (rw [← hMb] <;> rfl) | (rw [s0] <;> rfl) | (rw [s1 k] <;> first | assumption | rfl) | (rw [s2 k] <;> first | assumption | rfl) | (rw [s3 k] <;> first | assumption | rfl) | (first | (focus (apply Eq.trans; (conv => lhs; whnf); (conv => rhs; whnf); done)) | rfl | ((conv => lhs; whnf); first | rfl | (refine congrArg (AV.int _) ?_; (exact T.num)) | (refine congrArg AV.bool ?_; (exact T.num)) | (refine vw_congr ?_; first | (exact T.num) | (first | rfl | (simp; done))) | (refine sl_congr ?_ ?_ <;> first | (exact T.num) | (first | rfl | (simp; done))) | (first | rfl | (simp; done)))) | (exact T.num) | (dsimp only; (exact T.num)) | (first | rfl | (simp; done))))) | (show CutL _ _ _ _ _ _ _ _; first | (refine goK tyOk [3, 6] 3 (S := Nm × Nm) [0] (fun (b2, b4) => ⟨[(2, .ptr b2 0), (3, iAV (bitsR t 0)), (4, .ptr b4 0)], [(p, dice t am), (b4, ⟨32, inC m .nils⟩), (b2, ⟨32, zIn⟩)], True, 0⟩) ?_ ?_; (rintro ⟨b2, b4⟩ -); rotate_left) | refine CutL.go tyOk [3, 6] ?_) | (show AtC _ _ _ _ _ _ _ _; first | (apply AtC.mk' (id := 3) (S := Nm × Nm) ((_, _)); (repeat' first | exact trivial | (refine And.intro ?_ ?_) | exact LSub.nil | (with_reducible exact LSub.refl) | (apply LSub.cons; (repeat first | refine goH ?_ | apply LHas.here | apply LHas.next); refine And.intro ?_ ?_; (focus (try (first | (with_reducible rfl) | (refine congrArg (Pl.mk _) ?_; (first | rfl | (simp; done))) | rfl | (with_reducible refine congrArg (Pl.mk _) ?_))))) | assumption | (rw [← hMa] <;> rfl) | (rw [← hMb] <;> rfl) | (rw [s0] <;> rfl) | (rw [s1 k] <;> first | assumption | rfl) | (rw [s2 k] <;> first | assumption | rfl) | (rw [s3 k] <;> first | assumption | rfl) | (first | (focus (apply Eq.trans; (conv => lhs; whnf); (conv => rhs; whnf); done)) | rfl | ((conv => lhs; whnf); first | rfl | (refine congrArg (AV.int _) ?_; (exact T.num)) | (refine congrArg AV.bool ?_; (exact T.num)) | (refine vw_congr ?_; first | (exact T.num) | (first | rfl | (simp; done))) | (refine sl_congr ?_ ?_ <;> first | (exact T.num) | (first | rfl | (simp; done))) | (first | rfl | (simp; done)))) | (exact T.num) | (dsimp only; (exact T.num)) | (first | rfl | (simp; done))); done) | (apply AtC.mk' (id := 3) (S := Nm × Nm) ((_, _)); (repeat' first | exact trivial | (refine And.intro ?_ ?_) | exact LSub.nil | (with_reducible exact LSub.refl) | (apply LSub.cons; (repeat first | refine goH ?_ | apply LHas.here | apply LHas.next); refine And.intro ?_ ?_; (focus (try (first | (with_reducible rfl) | (refine congrArg (Pl.mk _) ?_; (first | rfl | (simp; done))) | rfl | (with_reducible refine congrArg (Pl.mk _) ?_))))) | assumption | (rw [← hMa] <;> rfl) | (rw [← hMb] <;> rfl) | (rw [s0] <;> rfl) | (rw [s1 k] <;> first | assumption | rfl) | (rw [s2 k] <;> first | assumption | rfl) | (rw [s3 k] <;> first | assumption | rfl) | (first | (focus (apply Eq.trans; (conv => lhs; whnf); (conv => rhs; whnf); done)) | rfl | ((conv => lhs; whnf); first | rfl | (refine congrArg (AV.int _) ?_; (exact T.num)) | (refine congrArg AV.bool ?_; (exact T.num)) | (refine vw_congr ?_; first | (exact T.num) | (first | rfl | (simp; done))) | (refine sl_congr ?_ ?_ <;> first | (exact T.num) | (first | rfl | (simp; done))) | (first | rfl | (simp; done)))) | (exact T.num) | (dsimp only; (exact T.num)) | (first | rfl | (simp; done))))) | exact T.z | fail) <;> conv => whnf)
  all_goals (try dsimp only)
  all_goals first
   | (obtain rfl : N = k := by omega
      refine RetL.own q rfl ?_ ?_
      · (repeat first | refine goH ?_ | apply LHas.here | apply LHas.next); trivial
      · (repeat' first | exact LSub.nil | (with_reducible exact LSub.refl) | (apply LSub.cons; (repeat first | refine goH ?_ | apply LHas.here | apply LHas.next); refine And.intro ?_ ?_; (focus (try (first | (with_reducible rfl) | (refine congrArg (Pl.mk _) ?_; (first | rfl | (simp; done))) | rfl | (with_reducible refine congrArg (Pl.mk _) ?_)))))))
   | trace_state
end Go.Proofs.YtnmifddidgofaaaGreatDoor
