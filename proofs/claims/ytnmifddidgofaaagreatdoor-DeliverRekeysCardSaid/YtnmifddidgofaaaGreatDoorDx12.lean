/-
  Contracts of the functions that the laws reach.
-/
import Derived.ProofKit
import Derived.OpenShut
import Derived.LaidMore
import Derived.Stop.Joined
import Derived.Test.YtnmifddidgofaaaGreatDoorRows
import Derived.Test.YtnmifddidgofaaaGreatDoorDx01
import Derived.Test.YtnmifddidgofaaaGreatDoorDx02
import Derived.Test.YtnmifddidgofaaaGreatDoorDx03
import Derived.Test.YtnmifddidgofaaaGreatDoorDx04
import Derived.Test.YtnmifddidgofaaaGreatDoorDx05
import Derived.Test.YtnmifddidgofaaaGreatDoorDx06
import Derived.Test.YtnmifddidgofaaaGreatDoorDx07
import Derived.Test.YtnmifddidgofaaaGreatDoorDx08
import Derived.Test.YtnmifddidgofaaaGreatDoorDx09
import Derived.Test.YtnmifddidgofaaaGreatDoorDx11
set_option maxHeartbeats 16000000
set_option linter.all false
namespace Go.Proofs.YtnmifddidgofaaaGreatDoor
open Go.RowKit
variable {G : Nat → AV}
theorem wan_cases {q : Nm} {i : In} {j0 j N : Nat} {l : List Hl} {hv : AV} (he : hv = hvA q j l.length) (h0 : j0 ≤ j) (hj : j ≤ N) (hjl : j0 ≤ l.length) (hN : N = j0 + runN i.f (l.drop j0)) :
   (j < N ∧ j < l.length ∧ hv = .vw q (j * 2) (l.length - j) 2 ∧ (l.getD j Hl.z).c = (stpI i (j - j0)).f) ∨ (j = N ∧ j < l.length ∧ hv = .vw q (j * 2) (l.length - j) 2 ∧ ¬ (l.getD j Hl.z).c = (stpI i (j - j0)).f) ∨ (j = N ∧ j = l.length ∧ hv = .vw q 0 0 2) ∨ (j = N ∧ j = l.length ∧ hv = .sl 0 []) := by
 have hr := runN_le (l.drop j0) i.f
 rw [List.length_drop] at hr
 have hT : j < N → decide ((l.getD j Hl.z).c = (stpI i (j - j0)).f) = true := fun h2 => by
   have := runN_yes (l.drop j0) i.f (j - j0) (by omega)
   rw [hl_drop, show j0 + (j - j0) = j by omega] at this
   rw [this]; simp [stpI]
 have hF : N < l.length → decide ((l.getD N Hl.z).c = (stpI i (N - j0)).f) = false := fun h => by
   have := runN_no (l.drop j0) i.f (by rw [List.length_drop]; omega)
   rw [hl_drop, show j0 + runN i.f (l.drop j0) = N by omega] at this
   rw [decide_eq_false_iff_not]
   intro e
   refine this (e.trans ?_)
   show i.f + ((N - j0 : Nat) : Int) = _
   congr 2; omega
 have := hv_cases (W := fun j c => decide (c = (stpI i (j - j0)).f)) he hj (by omega) hT hF
 simpa only [decide_eq_true_eq, decide_eq_false_iff_not] using this
theorem ron_c (i : In) (l : List Hl) (j0 N : Nat) (outs : List (List UInt8)) (q o : Nm) (hl : l.length ≤ 100000) (hf : 0 ≤ i.f ∧ i.f ≤ 4000000) (hN : N = j0 + runN i.f (l.drop j0)) (hj : j0 ≤ l.length) (ho : outs.length ≤ 100000) (hn : [q, o].Nodup) {hv0 : AV} (hv1 : hv0 = hvA q j0 l.length) :
   LSpec Tryz.prog G 50 [.agg (inC i hv0), .vw o 0 (outs.length + j0) 1] [(q, ⟨56, l.flatMap Hl.cs⟩), (o, ⟨27, outC (outs ++ (l.take j0).map (·.d))⟩)]
     (fun o' => (.tup [.agg (inC (onI (stpI i (N - j0))) (hvA q N l.length)), .vw o' 0 (outs.length + N) 1], [(o', ⟨27, outC (outs ++ (l.take N).map (·.d))⟩), (q, ⟨56, l.flatMap Hl.cs⟩)])) := by
 subst hv1
 have hst : ∀ j, (stpI i (j - j0)).f = i.f + ((j - j0 : Nat) : Int) := fun j => rfl
 have h0 : inC i (hvA q j0 l.length) = inC (stpI i (j0 - j0)) (hvA q j0 l.length) := by rw [Nat.sub_self]; simp [inC, stpI]
 rw [h0]
 have hNl : N ≤ l.length := by have := runN_le (l.drop j0) i.f; rw [List.length_drop] at this; omega
 rcases Classical.em (j0 = 0 ∨ j0 < l.length) with hK | hK
 all_goals
  first | rw [hvA_lt hK] | rw [hvA_ge hK]
  refine goW [] Tryz.func50 rfl ?_
  conv => whnf
  repeat' ((first | exact Nm.b 0 | (refine And.intro ?_ ?_; (focus (first | ((try dsimp only); rw [hls_len]; omega) | exact T.kx | exact T.side))) | (show ACell _ _ _; first | (refine ACell.fld Hl.cs_len j 0 Hl.z (iAV (l.getD j Hl.z).c) ?_ (by decide) ?_ rfl ?_; (focus ((try dsimp only); omega)); (focus omega)) | (refine ACell.fld Hl.cs_len j 1 Hl.z (bv (l.getD j Hl.z).d) ?_ (by decide) ?_ rfl ?_; (focus ((try dsimp only); omega)); (focus omega))) | refine T.s ?_ | ((first | apply goB | apply ABr.dec | apply ABr.gen) <;> intro h <;> try (exfalso; omega)) | refine LFresh.mk fun r => ?_ | (show SWpL _ _ _ (.loop _) _ _ _; first | (apply goO tyOk [] 1 (S := Nat × AV × Nm × Nm × Nm) [] (fun (j, hv, b2, b4, o) => ⟨[(1, .vw o 0 (outs.length + j) 1), (2, .ptr b2 0), (4, .ptr b4 0)], [(b2, ⟨32, inC (stpI i (j - j0)) hv⟩), (b4, ⟨32, zIn⟩), (q, ⟨56, l.flatMap Hl.cs⟩), (o, ⟨27, outC (outs ++ (l.take j).map (·.d))⟩)], hv = hvA q j l.length ∧ j0 ≤ j ∧ j ≤ N, N - j⟩) ((j0, _, _, _, o)) (by rfl); (focus ((repeat' first | exact trivial | (refine And.intro ?_ ?_) | exact LSub.nil | (with_reducible exact LSub.refl) | (apply LSub.cons; (repeat first | refine goH ?_ | apply LHas.here | apply LHas.next); refine And.intro ?_ ?_; (focus (try (first | (with_reducible rfl) | (refine congrArg (Pl.mk _) ?_; (first | rfl | (simp; done))) | rfl | (with_reducible refine congrArg (Pl.mk _) ?_))))) | assumption | (exact (hvA_lt hK).symm) | (exact (hvA_ge hK).symm) | (exact hvA_next (by omega) (by omega) (by omega)) | (exact hvA_last (by omega)) | (exact (out_succ outs l j (by omega)).symm) | (first | (focus (apply Eq.trans; (conv => lhs; whnf); (conv => rhs; whnf); done)) | rfl | ((conv => lhs; whnf); first | rfl | (refine congrArg (AV.int _) ?_; (exact T.num)) | (refine congrArg AV.bool ?_; (exact T.num)) | (refine vw_congr ?_; first | (exact T.num) | (first | rfl | (simp; done))) | (refine sl_congr ?_ ?_ <;> first | (exact T.num) | (first | rfl | (simp; done))) | (first | rfl | (simp; done)))) | (exact T.num) | (dsimp only; (exact T.num)) | (first | rfl | (simp; done))); done)); rintro ⟨j, hv, b2, b4, o⟩ ⟨hk, hk, hok⟩; (rcases wan_cases (by assumption) (by assumption) hok hj hN with ⟨hj1, hj2, rfl, hw⟩ | ⟨hj1, hj2, rfl, hw⟩ | ⟨hj1, hj2, rfl⟩ | ⟨hj1, hj2, rfl⟩))) | (show SWpL _ _ _ _ _ _ _; first | refine gX 1 [] [0, 1, 2, 3, 4, 5, 6, 7, 8, 9, 10, 11, 12, 13] [] ?_) | (show AtL _ _ _ _ _ _ _ _ _ _; first | (apply AtL.mk' (id := 1) (S := Nat × AV × Nm × Nm × Nm) ((j + 1, _, b2, b4, _)); (repeat' first | exact trivial | (refine And.intro ?_ ?_) | exact LSub.nil | (with_reducible exact LSub.refl) | (apply LSub.cons; (repeat first | refine goH ?_ | apply LHas.here | apply LHas.next); refine And.intro ?_ ?_; (focus (try (first | (with_reducible rfl) | (refine congrArg (Pl.mk _) ?_; (first | rfl | (simp; done))) | rfl | (with_reducible refine congrArg (Pl.mk _) ?_))))) | assumption | (exact (hvA_lt hK).symm) | (exact (hvA_ge hK).symm) | (exact hvA_next (by omega) (by omega) (by omega)) | (exact hvA_last (by omega)) | (exact (out_succ outs l j (by omega)).symm) | (first | (focus (apply Eq.trans; (conv => lhs; whnf); (conv => rhs; whnf); done)) | rfl | ((conv => lhs; whnf); first | rfl | (refine congrArg (AV.int _) ?_; (exact T.num)) | (refine congrArg AV.bool ?_; (exact T.num)) | (refine vw_congr ?_; first | (exact T.num) | (first | rfl | (simp; done))) | (refine sl_congr ?_ ?_ <;> first | (exact T.num) | (first | rfl | (simp; done))) | (first | rfl | (simp; done)))) | (exact T.num) | (dsimp only; (exact T.num)) | (first | rfl | (simp; done))); done) | (apply AtL.mk' (id := 1) (S := Nat × AV × Nm × Nm × Nm) ((j + 1, _, b2, b4, _)); (repeat' first | exact trivial | (refine And.intro ?_ ?_) | exact LSub.nil | (with_reducible exact LSub.refl) | (apply LSub.cons; (repeat first | refine goH ?_ | apply LHas.here | apply LHas.next); refine And.intro ?_ ?_; (focus (try (first | (with_reducible rfl) | (refine congrArg (Pl.mk _) ?_; (first | rfl | (simp; done))) | rfl | (with_reducible refine congrArg (Pl.mk _) ?_))))) | assumption | (exact (hvA_lt hK).symm) | (exact (hvA_ge hK).symm) | (exact hvA_next (by omega) (by omega) (by omega)) | (exact hvA_last (by omega)) | (exact (out_succ outs l j (by omega)).symm) | (first | (focus (apply Eq.trans; (conv => lhs; whnf); (conv => rhs; whnf); done)) | rfl | ((conv => lhs; whnf); first | rfl | (refine congrArg (AV.int _) ?_; (exact T.num)) | (refine congrArg AV.bool ?_; (exact T.num)) | (refine vw_congr ?_; first | (exact T.num) | (first | rfl | (simp; done))) | (refine sl_congr ?_ ?_ <;> first | (exact T.num) | (first | rfl | (simp; done))) | (first | rfl | (simp; done)))) | (exact T.num) | (dsimp only; (exact T.num)) | (first | rfl | (simp; done))))) | (show (_ → _) ∧ (¬ _ → _); first | refine T.y ?_ | refine dec_both (fun h => ?_) (fun h => ?_)) | exact T.z | fail) <;> conv => whnf)
  all_goals (try dsimp only)
  all_goals first
    | (subst hj1
       refine RetL.own o ?_ ?_ ?_
       · first
          | rw [onI_a (by assumption) (by assumption) (by assumption) (by assumption)]
          | rw [onI_b (by assumption) (by assumption) (fun h => by first | exact absurd h.1 (by assumption) | exact absurd h.2 (by assumption))]
          | rw [onI_c (fun h => by first | exact absurd h.1 (by assumption) | exact absurd h.2 (by assumption)) (by assumption) (by assumption) (by assumption)]
          | rw [onI_d (fun h => by first | exact absurd h.1 (by assumption) | exact absurd h.2 (by assumption)) (fun h => by first | exact absurd h.1 (by assumption) | exact absurd h.2.1 (by assumption) | exact absurd h.2.2 (by assumption))]
         rw [← hk]
         rfl
       · (repeat first | refine goH ?_ | apply LHas.here | apply LHas.next); trivial
       · (repeat' first | exact LSub.nil | (with_reducible exact LSub.refl) | (apply LSub.cons; (repeat first | refine goH ?_ | apply LHas.here | apply LHas.next); refine And.intro ?_ ?_; (focus (try (first | (with_reducible rfl) | (refine congrArg (Pl.mk _) ?_; (first | rfl | (simp; done))) | rfl | (with_reducible refine congrArg (Pl.mk _) ?_)))))))
    | (rw [stp_succ i (by assumption) (by omega) hf]; rfl)
    | (rw [stp_succ i (by assumption) (by omega) hf, hvA_lt (q := q) (j := j + 1) (n := l.length) (by omega)]
       refine congrArg (inC { stpI i (j - j0) with f := iarith .add .i64 (stpI i (j - j0)).f 1 }) (vw_congr2 (p := q) (z := 2) ?_ ?_) <;> omega)
    | trace_state
open Go.RowKit
variable {G : Nat → AV}
section
variable {P : Program}
theorem fresh_v (l : List Nm) : ∃ n, ∀ m, n ≤ m → Nm.v m ∉ l := by
 induction l with
 | nil => exact ⟨0, fun _ _ h => by cases h⟩
 | cons x l ih =>
   obtain ⟨n, hn⟩ := ih
   cases x with
   | b k => exact ⟨n, fun m hm h => by
       rcases List.mem_cons.1 h with h | h
       · cases h
       · exact hn m hm h⟩
   | v k => exact ⟨n + k + 1, fun m hm h => by
       rcases List.mem_cons.1 h with h | h
       · injection h with h; omega
       · exact hn m (by omega) h⟩
theorem LSpec.adoptA {f : FuncId} {args : List AV} {ps : LS} {post : Nm → AV × LS} (t : TypeId) (sz : Nat) (hpost : ∀ q, (∀ x ∈ (post q).2, x.1 = q ∨ x.1 ∈ ps.map (·.1)) ∧ (q ∉ ps.map (·.1) → ((post q).2.map (·.1)).Nodup))
   (h : ∀ o, o ∉ ps.map (·.1) → LSpec P G f (args ++ [.vw o 0 0 sz]) (ps ++ [(o, ⟨t, []⟩)]) post) : LSpec P G f (args ++ [.nils]) ps post := by
 obtain ⟨n0, hn0⟩ := fresh_v (ps.map (·.1))
 have h00 := h (.v n0) (hn0 n0 (Nat.le_refl _))
 unfold LSpec at h h00 ⊢
 refine ⟨h00.1, hpost, fun τ w vs h1 h2 h3 h4 h5 => ?_⟩
 obtain ⟨B, hB⟩ := h1.fin
 have hk := hB B (Nat.le_refl _)
 have hno : Nm.v B ∉ ps.map (·.1) := fun hm => by
   obtain ⟨x, hx, e⟩ := List.mem_map.1 hm
   have := h3 x hx
   rw [e, hk] at this; cases this
 have hst : Stp τ w (upd τ (.v B) ⟨t, []⟩) w := Stp.forget _ _ w fun b hb => by rw [upd_ne _ _ (by simp)]; exact hb
 have hm2 : Mem (upd τ (.v B) ⟨t, []⟩) w := by
   refine ⟨fun q c hq => ?_, fun k c hk2 => ?_, fin_upd h1.fin _ _⟩
   · rw [upd_ne _ _ (by simp)] at hq
     obtain ⟨cur, k1, k2, k3⟩ := h1.pl q c hq
     exact ⟨cur, k1, k2, fun i hi => (k3 i hi).mono hst⟩
   · by_cases e : k = B
     · subst e; rw [upd_same] at hk2; cases hk2; rfl
     · rw [upd_ne _ _ (by simp; exact e)] at hk2
       exact h1.vl k c hk2
 have hsz : vs.size = args.length + 1 := by have := h5.1; simp at this; omega
 have hC := (h (.v B) hno).2.2 _ w vs hm2 (h2.mono hst) (fun x hx => by
     rcases List.mem_append.1 hx with hx | hx
     · rw [upd_ne _ _ (fun e => by rw [← e] at hno; exact hno (List.mem_map.2 ⟨x, hx, rfl⟩))]
       exact h3 x hx
     · simp only [List.mem_singleton] at hx
       subst hx
       exact upd_same _ _ _) (by
       rw [List.map_append, List.nodup_append]
       exact ⟨h4, by simp, fun a ha b hb => by simp at hb; subst hb; intro e; subst e; exact hno ha⟩) ⟨by simp; omega, fun i hi => by
     have hi2 : i < args.length + 1 := by simpa using hi
     have h6 := h5.2 i (by simpa using hi)
     by_cases hlt : i < args.length
     · have e1 : (args ++ [AV.vw (.v B) 0 0 sz]).getD i .any = args.getD i .any := by simp only [List.getD_eq_getElem?_getD]; rw [List.getElem?_append_left hlt]
       have e2 : (args ++ [AV.nils]).getD i .any = args.getD i .any := by simp only [List.getD_eq_getElem?_getD]; rw [List.getElem?_append_left hlt]
       rw [e1]; rw [e2] at h6; exact h6.mono hst
     · obtain rfl : i = args.length := by omega
       have e1 : (args ++ [AV.vw (.v B) 0 0 sz]).getD args.length .any = .vw (.v B) 0 0 sz := by simp
       have e2 : (args ++ [AV.nils]).getD args.length .any = .nils := by simp
       rw [e1]; rw [e2] at h6
       generalize vs.getD args.length undef = u at h6
       cases h6
       exact .vwnil _ _⟩
 have he : eraN (upd τ (.v B) ⟨t, []⟩) ((ps ++ [(Nm.v B, (⟨t, []⟩ : Pl))]).map (·.1)) = eraN τ (ps.map (·.1)) := by
   rw [eraN_upd_in τ (.v B) _ _ (by simp)]
   funext x
   by_cases hx : x ∈ ps.map (·.1)
   · rw [eraN_none _ _ hx, eraN_none _ _ (by rw [List.map_append]; exact List.mem_append_left _ hx)]
   · rw [eraN_other _ _ hx]
     by_cases hb : x = .v B
     · subst hb
       rw [hk, eraN_none _ _ (by simp)]
     · rw [eraN_other _ _ (by rw [List.map_append, List.mem_append]; simp only [List.map_cons, List.map_nil, List.mem_singleton]; exact fun h => h.elim hx hb)]
 rw [he] at hC
 refine hC.mono ?_
 rintro e w' ⟨v, q, g1, g2, g3, g4, g5, g6⟩
 exact ⟨v, q, g1, g2, g3, g4, g5, hst.trans g6⟩
end
theorem ron_b (i : In) (j0 : Nat) (outs : List (List UInt8)) (q o : Nm) (hl : i.h.length ≤ 100000) (hf : 0 ≤ i.f ∧ i.f ≤ 4000000) (hj : j0 ≤ i.h.length) (ho : outs.length ≤ 100000) (hn : [q, o].Nodup) {hv0 : AV} (hv1 : hv0 = hvA q j0 i.h.length) :
   LSpec Tryz.prog G 50 [.agg (inC i hv0), .vw o 0 (outs.length + j0) 1] [(q, ⟨56, i.h.flatMap Hl.cs⟩), (o, ⟨27, outC (outs ++ (i.h.take j0).map (·.d))⟩)]
     (fun o' => (.tup [.agg (inC (behI i j0) (hvA q (j0 + runN i.f (i.h.drop j0)) i.h.length)), .vw o' 0 (outs.length + (j0 + runN i.f (i.h.drop j0))) 1], [(o', ⟨27, outC (outs ++ behO i j0)⟩), (q, ⟨56, i.h.flatMap Hl.cs⟩)])) := by
 have h := ron_c (G := G) i i.h j0 (j0 + runN i.f (i.h.drop j0)) outs q o hl hf rfl hj ho hn hv1
 rw [Nat.add_sub_cancel_left] at h
 exact h
theorem ron_n (i : In) (q : Nm) (hl : i.h.length ≤ 100000) (hf : 0 ≤ i.f ∧ i.f ≤ 4000000) :
   LSpec Tryz.prog G 50 [.agg (inC i (.vw q 0 i.h.length 2)), .nils] [(q, ⟨56, i.h.flatMap Hl.cs⟩)]
     (fun o' => (.tup [.agg (inC (behI i 0) (hvA q (0 + runN i.f (i.h.drop 0)) i.h.length)), .vw o' 0 (0 + (0 + runN i.f (i.h.drop 0))) 1], [(o', ⟨27, outC (behO i 0)⟩), (q, ⟨56, i.h.flatMap Hl.cs⟩)])) := by
 refine LSpec.adoptA (args := [_]) 27 1 (fun x => ⟨by simp, by simp⟩) fun o ho => ?_
 have h := ron_b (G := G) i 0 [] q o hl hf (Nat.zero_le _) (Nat.zero_le _) (by simp at ho ⊢; exact fun e => ho e.symm) (hvA_0 q i.h.length)
 exact h
theorem ron_e (i : In) (j0 : Nat) (q o : Nm) (hl : i.h.length ≤ 100000) (hf : 0 ≤ i.f ∧ i.f ≤ 4000000) (hj : j0 ≤ i.h.length) (hn : [q, o].Nodup) {hv0 : AV} (hv1 : hv0 = hvA q j0 i.h.length) :
   LSpec Tryz.prog G 50 [.agg (inC i hv0), .vw o 0 j0 1] [(q, ⟨56, i.h.flatMap Hl.cs⟩), (o, ⟨27, outC ((i.h.take j0).map (·.d))⟩)]
     (fun o' => (.tup [.agg (inC (behI i j0) (hvA q (j0 + runN i.f (i.h.drop j0)) i.h.length)), .vw o' 0 (j0 + runN i.f (i.h.drop j0)) 1], [(o', ⟨27, outC (behO i j0)⟩), (q, ⟨56, i.h.flatMap Hl.cs⟩)])) := by
 have h := ron_b (G := G) i j0 [] q o hl hf hj (Nat.zero_le _) hn hv1
 simp only [List.length_nil, Nat.zero_add, List.nil_append] at h
 exact h
theorem out_succ0 (l : List Hl) (j : Nat) (h : j < l.length) : outC ((l.take (j + 1)).map (·.d)) = outC ((l.take j).map (·.d)) ++ [bv (l.getD j Hl.z).d] := out_succ [] l j h
theorem r17tick_c (i : In) (hl : i.h.length ≤ 100000) : LSpec Tryz.prog G 33 [i.av] [] (fun _ => (rAV (tickR i), [])) := by
 have hv := rvalid17_c (G := G) i hl
 cases hki : i.ok with
 | false =>
   rw [show tickR i = (inZ, [], 1) by unfold tickR; rw [if_neg (by rw [hki]; decide)]]
   rw [hki] at hv
   refine goW [] Tryz.func33 rfl ?_
   conv => whnf
   repeat' ((first | exact Nm.b 0 | (show LCall _ _ _ _ _ _; first | refine LCall.pure (hv) ?_ | refine goE ?_) | refine T.s ?_ | ((first | apply goB | apply ABr.dec | apply ABr.gen) <;> intro h <;> try (exfalso; omega)) | refine LFresh.mk fun r => ?_ | (show SWpL _ _ _ _ _ _ _; first | (refine goD tyOk mixed 10 [] [0, 1, 2, 3, 4, 5, 6, 7, 8, 9, 10, 11, 12, 13] [] (by kernel_rfl) ?_)) | (show (_ → _) ∧ (¬ _ → _); first | refine T.y ?_ | refine dec_both (fun h => ?_) (fun h => ?_)) | exact T.z | fail) <;> conv => whnf)
   all_goals (try dsimp only)
   exact ret_zero
 | true =>
   have v := Vf.of hki
   rw [hki] at hv
   have hc := r17copy_o (G := G) i v.k hl (fun k hk => by have := (v.h k hk).2.2.2; omega)
   have hN1 := pos_le i.h i.m
   generalize hp : posR i.h i.m = N1 at *
   have hT : ∀ j, j < N1 → decide ((i.h.getD j Hl.z).c < i.m) = true := fun j h => decide_eq_true (pos_lt i.h i.m j (by omega))
   have hF : N1 < i.h.length → decide ((i.h.getD N1 Hl.z).c < i.m) = false := fun h => by
     have := pos_ge i.h i.m (by omega)
     rw [hp] at this
     exact decide_eq_false (by omega)
   have hsub : iarith .sub .i64 i.l 1 = i.l - 1 := by have h1 := v.l; have h2 := v.t; (exact T.num)
   have hl0 := v.l
   have hK := Classical.em (N1 + runN i.m (i.h.drop N1) = 0 ∨ N1 + runN i.m (i.h.drop N1) < i.h.length)
   rcases hK with hK | hK
   all_goals
    refine goW [3] Tryz.func33 rfl ?_
    conv => whnf
    repeat' ((first | (first | rw [hvA_lt hK] | rw [hvA_ge hK]) | (show LCall _ _ _ [.agg _, .vw _ _ _ _] _ _; apply LCall.manyD (fun hnd => ron_e (hv0 := _) { i with l := iarith .sub .i64 i.l 1, f := i.m, m := 0 } j qh _ hl (by dsimp only; have h1 := v.n; have h2 := v.m; have h3 := v.f; omega) hN1 (by exact hnd) hk)) | exact Nm.b 0 | (refine And.intro ?_ ?_; (focus (first | ((try dsimp only); rw [hls_len]; omega) | exact T.kx | exact T.side))) | (show LCall _ _ _ _ _ _; first | refine LCall.pure (hv) ?_ | refine LCall.own (hc) ?_ | refine goE ?_) | (show ACell _ _ _; first | (refine ACell.fld Hl.cs_len j 0 Hl.z (iAV (i.h.getD j Hl.z).c) ?_ (by decide) ?_ rfl ?_; (focus ((try dsimp only); omega)); (focus omega)) | (refine ACell.fld Hl.cs_len j 1 Hl.z (bv (i.h.getD j Hl.z).d) ?_ (by decide) ?_ rfl ?_; (focus ((try dsimp only); omega)); (focus omega))) | refine T.s ?_ | ((first | apply goB | apply ABr.dec | apply ABr.gen) <;> intro h <;> try (exfalso; omega)) | refine LFresh.mk fun r => ?_ | (show SWpL _ _ _ (.loop _) _ _ _; first | (apply goO tyOk [3] 10 (S := Nat × AV × Nm) [2, 5] (fun (j, hv, o) => ⟨[(6, .vw o 0 j 1)], [(b5, ⟨32, inC { i with l := iarith .sub .i64 i.l 1 } hv⟩), (b2, ⟨32, zIn⟩), (qh, ⟨56, i.h.flatMap Hl.cs⟩), (o, ⟨27, outC ((i.h.take j).map (·.d))⟩)], hv = hvA qh j i.h.length ∧ j ≤ N1, N1 - j⟩) ((0, _, _)) (by rfl); (focus ((repeat' first | exact trivial | (refine And.intro ?_ ?_) | exact LSub.nil | (with_reducible exact LSub.refl) | (apply LSub.cons; (repeat first | refine goH ?_ | apply LHas.here | apply LHas.next); refine And.intro ?_ ?_; (focus (try (first | (with_reducible rfl) | (refine congrArg (Pl.mk _) ?_; (first | rfl | (simp; done))) | rfl | (with_reducible refine congrArg (Pl.mk _) ?_))))) | assumption | (exact (hvA_lt (.inl rfl)).symm) | (exact hvA_next (by omega) (by omega) (by omega)) | (exact hvA_last (by omega)) | (exact (out_succ0 i.h j (by omega)).symm) | (first | (focus (apply Eq.trans; (conv => lhs; whnf); (conv => rhs; whnf); done)) | rfl | ((conv => lhs; whnf); first | rfl | (refine congrArg (AV.int _) ?_; (exact T.num)) | (refine congrArg AV.bool ?_; (exact T.num)) | (refine vw_congr ?_; first | (exact T.num) | (first | rfl | (simp; done))) | (refine sl_congr ?_ ?_ <;> first | (exact T.num) | (first | rfl | (simp; done))) | (first | rfl | (simp; done)))) | (exact T.num) | (dsimp only; (exact T.num)) | (first | rfl | (simp; done))); done)); rintro ⟨j, hv, o⟩ ⟨hk, hok⟩; (rcases hv_cases (W := fun _ c => decide (c < i.m)) hk hok hN1 (hT j) hF with ⟨hj1, hj2, rfl, hw⟩ | ⟨hj1, hj2, rfl, hw⟩ | ⟨hj1, hj2, rfl⟩ | ⟨hj1, hj2, rfl⟩ <;> (try subst hj1) <;> first | have hw2 : (i.h.getD j Hl.z).c < In.m { i with l := iarith .sub .i64 i.l 1 } := of_decide_eq_true hw | have hw2 : ¬ (i.h.getD j Hl.z).c < In.m { i with l := iarith .sub .i64 i.l 1 } := of_decide_eq_false hw | skip))) | (show SWpL _ _ _ _ _ _ _; first | refine SWpL.adopt 6 1 27 (by rfl) fun q => ?_ | refine gX 10 [] [0, 1, 2, 3, 4, 5, 6, 7, 8, 9, 10, 11, 12, 13] [] ?_) | (show AtL _ _ _ _ _ _ _ _ _ _; first | (apply AtL.mk' (id := 10) (S := Nat × AV × Nm) ((j + 1, _, _)); (repeat' first | exact trivial | (refine And.intro ?_ ?_) | exact LSub.nil | (with_reducible exact LSub.refl) | (apply LSub.cons; (repeat first | refine goH ?_ | apply LHas.here | apply LHas.next); refine And.intro ?_ ?_; (focus (try (first | (with_reducible rfl) | (refine congrArg (Pl.mk _) ?_; (first | rfl | (simp; done))) | rfl | (with_reducible refine congrArg (Pl.mk _) ?_))))) | assumption | (exact (hvA_lt (.inl rfl)).symm) | (exact hvA_next (by omega) (by omega) (by omega)) | (exact hvA_last (by omega)) | (exact (out_succ0 i.h j (by omega)).symm) | (first | (focus (apply Eq.trans; (conv => lhs; whnf); (conv => rhs; whnf); done)) | rfl | ((conv => lhs; whnf); first | rfl | (refine congrArg (AV.int _) ?_; (exact T.num)) | (refine congrArg AV.bool ?_; (exact T.num)) | (refine vw_congr ?_; first | (exact T.num) | (first | rfl | (simp; done))) | (refine sl_congr ?_ ?_ <;> first | (exact T.num) | (first | rfl | (simp; done))) | (first | rfl | (simp; done)))) | (exact T.num) | (dsimp only; (exact T.num)) | (first | rfl | (simp; done))); done) | (apply AtL.mk' (id := 10) (S := Nat × AV × Nm) ((j + 1, _, _)); (repeat' first | exact trivial | (refine And.intro ?_ ?_) | exact LSub.nil | (with_reducible exact LSub.refl) | (apply LSub.cons; (repeat first | refine goH ?_ | apply LHas.here | apply LHas.next); refine And.intro ?_ ?_; (focus (try (first | (with_reducible rfl) | (refine congrArg (Pl.mk _) ?_; (first | rfl | (simp; done))) | rfl | (with_reducible refine congrArg (Pl.mk _) ?_))))) | assumption | (exact (hvA_lt (.inl rfl)).symm) | (exact hvA_next (by omega) (by omega) (by omega)) | (exact hvA_last (by omega)) | (exact (out_succ0 i.h j (by omega)).symm) | (first | (focus (apply Eq.trans; (conv => lhs; whnf); (conv => rhs; whnf); done)) | rfl | ((conv => lhs; whnf); first | rfl | (refine congrArg (AV.int _) ?_; (exact T.num)) | (refine congrArg AV.bool ?_; (exact T.num)) | (refine vw_congr ?_; first | (exact T.num) | (first | rfl | (simp; done))) | (refine sl_congr ?_ ?_ <;> first | (exact T.num) | (first | rfl | (simp; done))) | (first | rfl | (simp; done)))) | (exact T.num) | (dsimp only; (exact T.num)) | (first | rfl | (simp; done))))) | (show CutL _ _ _ _ _ _ _ _; first | (refine goK tyOk [3] 3 (S := Nm × Nm × Nm) [] (fun (b2, b5, qh) => ⟨[(2, .ptr b2 0), (5, .ptr b5 0)], [(b5, ⟨32, inC i (.vw qh 0 i.h.length 2)⟩), (b2, ⟨32, zIn⟩), (qh, ⟨56, i.h.flatMap Hl.cs⟩)], True, 0⟩) ?_ ?_; (rintro ⟨b2, b5, qh⟩ -); rotate_left) | refine CutL.go tyOk [3] ?_) | (show AtC _ _ _ _ _ _ _ _; first | (apply AtC.mk' (id := 3) (S := Nm × Nm × Nm) ((_, _, _)); (repeat' first | exact trivial | (refine And.intro ?_ ?_) | exact LSub.nil | (with_reducible exact LSub.refl) | (apply LSub.cons; (repeat first | refine goH ?_ | apply LHas.here | apply LHas.next); refine And.intro ?_ ?_; (focus (try (first | (with_reducible rfl) | (refine congrArg (Pl.mk _) ?_; (first | rfl | (simp; done))) | rfl | (with_reducible refine congrArg (Pl.mk _) ?_))))) | assumption | (exact (hvA_lt (.inl rfl)).symm) | (exact hvA_next (by omega) (by omega) (by omega)) | (exact hvA_last (by omega)) | (exact (out_succ0 i.h j (by omega)).symm) | (first | (focus (apply Eq.trans; (conv => lhs; whnf); (conv => rhs; whnf); done)) | rfl | ((conv => lhs; whnf); first | rfl | (refine congrArg (AV.int _) ?_; (exact T.num)) | (refine congrArg AV.bool ?_; (exact T.num)) | (refine vw_congr ?_; first | (exact T.num) | (first | rfl | (simp; done))) | (refine sl_congr ?_ ?_ <;> first | (exact T.num) | (first | rfl | (simp; done))) | (first | rfl | (simp; done)))) | (exact T.num) | (dsimp only; (exact T.num)) | (first | rfl | (simp; done))); done) | (apply AtC.mk' (id := 3) (S := Nm × Nm × Nm) ((_, _, _)); (repeat' first | exact trivial | (refine And.intro ?_ ?_) | exact LSub.nil | (with_reducible exact LSub.refl) | (apply LSub.cons; (repeat first | refine goH ?_ | apply LHas.here | apply LHas.next); refine And.intro ?_ ?_; (focus (try (first | (with_reducible rfl) | (refine congrArg (Pl.mk _) ?_; (first | rfl | (simp; done))) | rfl | (with_reducible refine congrArg (Pl.mk _) ?_))))) | assumption | (exact (hvA_lt (.inl rfl)).symm) | (exact hvA_next (by omega) (by omega) (by omega)) | (exact hvA_last (by omega)) | (exact (out_succ0 i.h j (by omega)).symm) | (first | (focus (apply Eq.trans; (conv => lhs; whnf); (conv => rhs; whnf); done)) | rfl | ((conv => lhs; whnf); first | rfl | (refine congrArg (AV.int _) ?_; (exact T.num)) | (refine congrArg AV.bool ?_; (exact T.num)) | (refine vw_congr ?_; first | (exact T.num) | (first | rfl | (simp; done))) | (refine sl_congr ?_ ?_ <;> first | (exact T.num) | (first | rfl | (simp; done))) | (first | rfl | (simp; done)))) | (exact T.num) | (dsimp only; (exact T.num)) | (first | rfl | (simp; done))))) | (show (_ → _) ∧ (¬ _ → _); first | refine T.y ?_ | refine dec_both (fun h => ?_) (fun h => ?_)) | exact T.z | fail) <;> conv => whnf)
    all_goals (try dsimp only)
    · rw [show tickR i = (i, [], 0) by unfold tickR; rw [if_pos hki, if_pos (by assumption)]]
      exact ret_held rfl (by (repeat first | refine goH ?_ | apply LHas.here | apply LHas.next); rfl)
    · have e2 : ({ i with l := i.l - 1 } : In) = { i with l := iarith .sub .i64 i.l 1 } := by rw [hsub]
      rw [show tickR i = ({ i with l := i.l - 1 }, [], 0) by unfold tickR; rw [if_pos hki, if_neg (by assumption), if_neg (by omega)], e2]
      exact ret_held rfl (by (repeat first | refine goH ?_ | apply LHas.here | apply LHas.next); rfl)
    all_goals
      have e1 : i.l = 1 := by omega
      have e2 : ({ i with l := 0, f := i.m, m := 0 } : In) = { i with l := iarith .sub .i64 i.l 1, f := i.m, m := 0 } := by rw [hsub, e1]; rfl
      rw [show tickR i = (behI { i with l := 0, f := i.m, m := 0 } j, behO { i with l := 0, f := i.m, m := 0 } j, 0) by unfold tickR; rw [if_pos hki, if_neg (by assumption), if_pos e1, hp], e2]
      first
        | (refine ret_side (x := behI { i with l := iarith .sub .i64 i.l 1, f := i.m, m := 0 } j) (hvA_lt hK).symm (l0 := i.h) (N := j + runN i.m (i.h.drop j)) rfl (run_le { i with l := iarith .sub .i64 i.l 1, f := i.m, m := 0 } hN1) ?_ ?_
           · rw [behO_len { i with l := iarith .sub .i64 i.l 1, f := i.m, m := 0 } hN1]
           · (repeat first | refine goH ?_ | apply LHas.here | apply LHas.next)
             refine ⟨rfl, ?_⟩
             (repeat first | refine goH ?_ | apply LHas.here | apply LHas.next)
             refine ⟨rfl, ?_⟩
             (repeat first | refine goH ?_ | apply LHas.here | apply LHas.next)
             trivial)
        | (refine ret_side0 (x := behI { i with l := iarith .sub .i64 i.l 1, f := i.m, m := 0 } j) (drop_ge hK) ?_ ?_
           · rw [behO_len { i with l := iarith .sub .i64 i.l 1, f := i.m, m := 0 } hN1]
           · (repeat first | refine goH ?_ | apply LHas.here | apply LHas.next)
             rfl)
        | trace_state
open Go.RowKit
def lowTo (l : List Hl) (c : Int) (k : Nat) : Prop := ∀ j, j < k → (l.getD j Hl.z).c < c
theorem lowTo_0 (l : List Hl) (c : Int) : lowTo l c 0 := fun j h => by omega
theorem lowTo_s {l : List Hl} {c : Int} {k : Nat} (h : lowTo l c k) (h1 : (l.getD k Hl.z).c < c) : lowTo l c (k + 1) := fun j hj => by
 by_cases e : j = k
 · subst e; exact h1
 · exact h j (by omega)
theorem lowTo_end {l : List Hl} (hs : ascH l) {c : Int} {k : Nat} (h : lowTo l c k) (hk : k ≤ l.length) (h1 : k < l.length → c ≤ (l.getD k Hl.z).c) : k = posR l c := pos_eq hs hk h fun j h2 h3 => by
 by_cases e : j = k
 · subst e; exact h1 h3
 · have := hs k j (by omega) h3
   have := h1 (by omega)
   omega
theorem cut_ins (l : List Hl) (k m a : Nat) (x : Hl) (xs : List AV) (hk : k ≤ l.length) (hm : m = k * 2) (ha : xs = x.cs ++ (l.drop k).flatMap Hl.cs) : List.take m (List.drop 0 (l.flatMap Hl.cs)) ++ xs = (insL l k x).flatMap Hl.cs := by
 subst hm ha
 rw [List.drop_zero, fm_take Hl.cs_len]
 unfold insL
 rw [List.flatMap_append, List.flatMap_cons]
theorem hls1 (x : Hl) (l : List Hl) : ((x.cs ++ l.flatMap Hl.cs).all AV.one) = true := by rw [List.all_append, hls_one]; rfl
theorem app_tail (x : Hl) (l : List Hl) (k o m : Nat) (a : List AV) (hk : k ≤ l.length) (ha : a = x.cs) (ho : o = k * 2) (hm : m = (l.length - k) * 2) : a ++ List.take m (List.drop o (l.flatMap Hl.cs)) = x.cs ++ (l.drop k).flatMap Hl.cs := by
 subst ha ho hm
 rw [fm_drop Hl.cs_len, List.take_of_length_le (by rw [hls_len, List.length_drop]; omega)]
theorem ins_at (l : List Hl) (k m o : Nat) (x : Hl) (xs : List AV) (hk : k ≤ l.length) (hm : m = k * 2) (ho : o = 0) (ha : xs = x.cs ++ (l.drop k).flatMap Hl.cs) : List.take m (List.drop o (l.flatMap Hl.cs)) ++ xs = (insL l k x).flatMap Hl.cs := by
 subst ho; exact cut_ins l k m 0 x xs hk hm ha
theorem hl_all (l : List Hl) (k : Nat) (x : Hl) (m : Nat) (hk : k ≤ l.length) (hm : (1 + (l.length - k)) * 2 ≤ m) : List.take m (List.drop 0 (x.cs ++ (l.drop k).flatMap Hl.cs)) = x.cs ++ (l.drop k).flatMap Hl.cs := by
 rw [List.drop_zero, List.take_of_length_le]
 rw [List.length_append, hls_len, List.length_drop, Hl.cs_len]; omega
theorem hl_non (l : List Hl) (k : Nat) (x : Hl) (hk : l.length ≤ k) : x.cs = x.cs ++ (l.drop k).flatMap Hl.cs := by
 rw [List.drop_eq_nil_of_le hk]; rfl
attribute [local irreducible] lowTo
theorem r17receive_c (i : In) (u : List UInt8) (hl : i.h.length ≤ 99999) : LSpec Tryz.prog gl 14 [i.av, bv u] [] (fun _ => (rAV (rcvR i u), [])) := by
 have hv := rvalid17_c (G := gl) i (by omega)
 cases hki : i.ok with
 | false =>
   rw [show rcvR i u = (inZ, [], 1) by unfold rcvR; rw [if_neg (by rw [hki]; decide)]]
   rw [hki] at hv
   refine goW [] Tryz.func14 rfl ?_
   conv => whnf
   repeat' ((first | exact Nm.b 0 | (show LCall _ _ _ _ _ _; first | refine LCall.pure (hv) ?_ | refine goE ?_) | refine T.s ?_ | ((first | apply goB | apply ABr.dec | apply ABr.gen) <;> intro h <;> try (exfalso; omega)) | refine LFresh.mk fun r => ?_ | (show SWpL _ _ _ _ _ _ _; first | (refine goD tyOk mixed 24 [1, 12] [0, 1, 2, 3, 4, 5, 6, 8, 9, 10, 11, 7, 12, 13, 14, 15] [] (by kernel_rfl) ?_)) | (show (_ → _) ∧ (¬ _ → _); first | refine T.y ?_ | refine dec_both (fun h => ?_) (fun h => ?_)) | exact T.z | fail) <;> conv => whnf)
   all_goals (try dsimp only)
   exact ret_zero
 | true =>
   have v := Vf.of hki
   rw [hki] at hv
   have hc := r17copy_o (G := gl) i v.k (by omega) (fun k hk => by have := (v.h k hk).2.2.2; omega)
   have hnum := rnumber_c i.b u
   have hinf := rinfer_c (G := gl) i.b i.f (numR i.b u).1
   have hopen := ropen_c i.k i.b (infR i.b i.f (numR i.b u).1).1 u
   have hC := inf_ok (b := i.b) (f := i.f) (x := (numR i.b u).1)
   unfold rcvR
   rw [if_pos hki]
   generalize openR i.k i.b (infR i.b i.f (numR i.b u).1).1 u = D at *
   generalize infR i.b i.f (numR i.b u).1 = C at *
   generalize numR i.b u = S at *
   obtain ⟨C, ce⟩ := C
   obtain ⟨D, de⟩ := D
   obtain ⟨S, se⟩ := S
   dsimp only at *
   have e1 : iarith .add .i64 i.f 1 = i.f + 1 := by have h1 := v.f; (exact T.num)
   have hlow := lowTo_0 i.h C
   have hPl := pos_le i.h C
   have hlen := hls_len i.h
   have hK1 := Classical.em (0 + runN (iarith .add .i64 i.f 1) (i.h.drop 0) = 0 ∨ 0 + runN (iarith .add .i64 i.f 1) (i.h.drop 0) < i.h.length)
   have hK2 := Classical.em (0 + runN (putJ i (iarith .add .i64 C 1) C D).f ((putJ i (iarith .add .i64 C 1) C D).h.drop 0) = 0 ∨ 0 + runN (putJ i (iarith .add .i64 C 1) C D).f ((putJ i (iarith .add .i64 C 1) C D).h.drop 0) < (putJ i (iarith .add .i64 C 1) C D).h.length)
   refine goW [3, 16] Tryz.func14 rfl ?_
   conv => whnf
   repeat' ((first | (show LCall _ _ _ [.agg _, .vw _ _ _ _] _ _; apply LCall.manyD (fun hnd => ron_b (hv0 := .vw q 0 i.h.length 2) { i with f := iarith .add .i64 i.f 1 } 0 [D] q _ (by dsimp only; omega) (by dsimp only; have := v.f; omega) (Nat.zero_le _) (Nat.le_of_ble_eq_true rfl) (by exact hnd) (hvA_0 q i.h.length))) | (show LCall _ _ _ [.agg _, .nils] _ _; refine LCall.eq (args' := [.agg (inC (putJ i (iarith .add .i64 C 1) C D) (.vw r 0 (putJ i (iarith .add .i64 C 1) C D).h.length 2)), .nils]) ?_ ?_; (focus (refine congrArg (fun z => [AV.agg (inC (putJ i (iarith .add .i64 C 1) C D) (.vw r 0 z 2)), AV.nils]) ?_; show _ = (insL _ _ _).length; rw [insL_len]; (try dsimp only); omega)); apply LCall.manyD (fun hnd => ron_n (putJ i (iarith .add .i64 C 1) C D) r (by show (insL _ _ _).length ≤ _; rw [insL_len]; omega) (by show 0 ≤ i.f ∧ i.f ≤ _; have := v.f; omega))) | (rcases hK1 with hK | hK <;> first | rw [hvA_lt hK] | rw [hvA_ge hK]) | (rcases hK2 with hK | hK <;> first | rw [hvA_lt hK] | rw [hvA_ge hK]) | exact Nm.b 0 | (refine And.intro ?_ ?_; (focus (first | ((try dsimp only); rw [hls_len]; omega) | ((try dsimp only); rw [List.length_append, hls_len, List.length_drop, Hl.cs_len]; omega) | exact hls1 ⟨C, D⟩ _ | exact all_take _ (all_drop _ (hls1 ⟨C, D⟩ _)) | exact all_take _ (all_drop _ (hls_one _)) | exact hls_one _ | exact T.kx | exact T.side))) | (show LCall _ _ _ _ _ _; first | refine LCall.pure (hv) ?_ | refine LCall.own (hc) ?_ | refine LCall.pure (hnum) ?_ | refine LCall.pure (hinf) ?_ | refine LCall.pure (hopen) ?_ | refine goE ?_) | (show ACell _ _ _; first | (refine ACell.fld Hl.cs_len (posR i.h C) 0 Hl.z (iAV (i.h.getD (posR i.h C) Hl.z).c) ?_ (by decide) ?_ rfl ?_; (focus ((try dsimp only); omega)); (focus omega)) | (refine ACell.fld Hl.cs_len k 0 Hl.z (iAV (i.h.getD k Hl.z).c) ?_ (by decide) ?_ rfl ?_; (focus ((try dsimp only); omega)); (focus omega))) | (show AList _ _; first | ((with_reducible show AList (_ ++ List.take _ (List.drop _ (List.flatMap _ _))) _); refine AList.eq (app_tail ⟨C, D⟩ i.h (posR i.h C) _ _ _ hPl ?_ ?_ ?_) ?_; (focus exact rfl); (focus ((try dsimp only); omega)); (focus ((try dsimp only); omega))) | ((with_reducible show AList (List.take _ (List.drop 0 (_ ++ List.flatMap _ _))) _); refine AList.eq (hl_all i.h (posR i.h C) ⟨C, D⟩ _ hPl ?_) ?_; (focus ((try dsimp only); omega))) | ((with_reducible show AList (List.take _ (List.drop _ (List.flatMap _ _)) ++ _) _); refine AList.eq (ins_at i.h (posR i.h C) _ _ ⟨C, D⟩ _ hPl ?_ ?_ ?_) ?_; (focus ((try dsimp only); omega)); (focus ((try dsimp only); omega)); (focus (first | exact rfl | (refine hl_all i.h (posR i.h C) ⟨C, D⟩ _ hPl ?_; (try dsimp only); omega) | (refine hl_non i.h (posR i.h C) ⟨C, D⟩ ?_; omega))))) | refine T.s ?_ | ((first | apply goB | apply ABr.dec | apply ABr.gen) <;> intro h <;> try (exfalso; omega)) | refine LFresh.mk fun r => ?_ | (show SWpL _ _ _ (.loop _) _ _ _; first | (apply goO tyOk [3, 16] 16 (S := Nat) [2, 4, 7, 10, 11] (fun k => ⟨[(12, .int .i64 k)], [(b7, ⟨32, inC i (.vw q 0 i.h.length 2)⟩), (q, ⟨56, i.h.flatMap Hl.cs⟩), (b4, ⟨32, zIn⟩), (b2, ⟨32, i.cs⟩)], k ≤ i.h.length ∧ lowTo i.h C k, i.h.length - k⟩) (0) (by rfl); (focus ((repeat' first | exact trivial | (refine And.intro ?_ ?_) | exact LSub.nil | (with_reducible exact LSub.refl) | (apply LSub.cons; (repeat first | refine goH ?_ | apply LHas.here | apply LHas.next); refine And.intro ?_ ?_; (focus (try (first | (with_reducible rfl) | (refine congrArg (Pl.mk _) ?_; (first | rfl | (simp; done))) | rfl | (with_reducible refine congrArg (Pl.mk _) ?_))))) | assumption | (exact congrArg (fun n : Nat => AV.int .i64 n) (lowTo_end v.asc hok (by omega) (fun h => by omega))) | (exact hlow) | (exact lowTo_s (by assumption) (by assumption)) | (first | (focus (apply Eq.trans; (conv => lhs; whnf); (conv => rhs; whnf); done)) | rfl | ((conv => lhs; whnf); first | rfl | (refine congrArg (AV.int _) ?_; (exact T.num)) | (refine congrArg AV.bool ?_; (exact T.num)) | (refine vw_congr ?_; first | (exact T.num) | (first | rfl | (simp; done))) | (refine sl_congr ?_ ?_ <;> first | (exact T.num) | (first | rfl | (simp; done))) | (first | rfl | (simp; done)))) | (exact T.num) | (dsimp only; (exact T.num)) | (first | rfl | (simp; done))); done)); rintro k ⟨hk, hok⟩)) | (show SWpL _ _ _ _ _ _ _; first | (refine goD tyOk mixed 24 [1, 12] [0, 1, 2, 3, 4, 5, 6, 8, 9, 10, 11, 7, 12, 13, 14, 15] [b7] (by kernel_rfl) ?_)) | (show AtL _ _ _ _ _ _ _ _ _ _; first | (apply AtL.mk' (id := 16) (S := Nat) (k + 1); (repeat' first | exact trivial | (refine And.intro ?_ ?_) | exact LSub.nil | (with_reducible exact LSub.refl) | (apply LSub.cons; (repeat first | refine goH ?_ | apply LHas.here | apply LHas.next); refine And.intro ?_ ?_; (focus (try (first | (with_reducible rfl) | (refine congrArg (Pl.mk _) ?_; (first | rfl | (simp; done))) | rfl | (with_reducible refine congrArg (Pl.mk _) ?_))))) | assumption | (exact congrArg (fun n : Nat => AV.int .i64 n) (lowTo_end v.asc hok (by omega) (fun h => by omega))) | (exact hlow) | (exact lowTo_s (by assumption) (by assumption)) | (first | (focus (apply Eq.trans; (conv => lhs; whnf); (conv => rhs; whnf); done)) | rfl | ((conv => lhs; whnf); first | rfl | (refine congrArg (AV.int _) ?_; (exact T.num)) | (refine congrArg AV.bool ?_; (exact T.num)) | (refine vw_congr ?_; first | (exact T.num) | (first | rfl | (simp; done))) | (refine sl_congr ?_ ?_ <;> first | (exact T.num) | (first | rfl | (simp; done))) | (first | rfl | (simp; done)))) | (exact T.num) | (dsimp only; (exact T.num)) | (first | rfl | (simp; done))); done) | (apply AtL.mk' (id := 16) (S := Nat) (k + 1); (repeat' first | exact trivial | (refine And.intro ?_ ?_) | exact LSub.nil | (with_reducible exact LSub.refl) | (apply LSub.cons; (repeat first | refine goH ?_ | apply LHas.here | apply LHas.next); refine And.intro ?_ ?_; (focus (try (first | (with_reducible rfl) | (refine congrArg (Pl.mk _) ?_; (first | rfl | (simp; done))) | rfl | (with_reducible refine congrArg (Pl.mk _) ?_))))) | assumption | (exact congrArg (fun n : Nat => AV.int .i64 n) (lowTo_end v.asc hok (by omega) (fun h => by omega))) | (exact hlow) | (exact lowTo_s (by assumption) (by assumption)) | (first | (focus (apply Eq.trans; (conv => lhs; whnf); (conv => rhs; whnf); done)) | rfl | ((conv => lhs; whnf); first | rfl | (refine congrArg (AV.int _) ?_; (exact T.num)) | (refine congrArg AV.bool ?_; (exact T.num)) | (refine vw_congr ?_; first | (exact T.num) | (first | rfl | (simp; done))) | (refine sl_congr ?_ ?_ <;> first | (exact T.num) | (first | rfl | (simp; done))) | (first | rfl | (simp; done)))) | (exact T.num) | (dsimp only; (exact T.num)) | (first | rfl | (simp; done))))) | (show CutL _ _ _ _ _ _ _ _; first | (refine goK tyOk [3, 16] 3 (S := Nm × Nm × Nm × Nm) [1] (fun (b2, b4, b7, q) => ⟨[(2, .ptr b2 0), (4, .ptr b4 0), (7, .ptr b7 0)], [(b7, ⟨32, inC i (.vw q 0 i.h.length 2)⟩), (q, ⟨56, i.h.flatMap Hl.cs⟩), (b4, ⟨32, zIn⟩), (b2, ⟨32, i.cs⟩)], True, 0⟩) ?_ ?_; (rintro ⟨b2, b4, b7, q⟩ -); rotate_left) | (refine goK tyOk [3, 16] 16 (S := Unit) [2, 4, 7, 10, 11] (fun _ => ⟨[(12, .int .i64 (posR i.h C))], [(b7, ⟨32, inC i (.vw q 0 i.h.length 2)⟩), (q, ⟨56, i.h.flatMap Hl.cs⟩), (b4, ⟨32, zIn⟩), (b2, ⟨32, i.cs⟩)], True, 0⟩) ?_ ?_; (rintro _ -); rotate_left) | refine CutL.go tyOk [3, 16] ?_) | (show AtC _ _ _ _ _ _ _ _; first | (apply AtC.mk' (id := 3) (S := Nm × Nm × Nm × Nm) ((_, _, _, _)); (repeat' first | exact trivial | (refine And.intro ?_ ?_) | exact LSub.nil | (with_reducible exact LSub.refl) | (apply LSub.cons; (repeat first | refine goH ?_ | apply LHas.here | apply LHas.next); refine And.intro ?_ ?_; (focus (try (first | (with_reducible rfl) | (refine congrArg (Pl.mk _) ?_; (first | rfl | (simp; done))) | rfl | (with_reducible refine congrArg (Pl.mk _) ?_))))) | assumption | (exact congrArg (fun n : Nat => AV.int .i64 n) (lowTo_end v.asc hok (by omega) (fun h => by omega))) | (exact hlow) | (exact lowTo_s (by assumption) (by assumption)) | (first | (focus (apply Eq.trans; (conv => lhs; whnf); (conv => rhs; whnf); done)) | rfl | ((conv => lhs; whnf); first | rfl | (refine congrArg (AV.int _) ?_; (exact T.num)) | (refine congrArg AV.bool ?_; (exact T.num)) | (refine vw_congr ?_; first | (exact T.num) | (first | rfl | (simp; done))) | (refine sl_congr ?_ ?_ <;> first | (exact T.num) | (first | rfl | (simp; done))) | (first | rfl | (simp; done)))) | (exact T.num) | (dsimp only; (exact T.num)) | (first | rfl | (simp; done))); done) | (apply AtC.mk' (id := 16) (S := Unit) (()); (repeat' first | exact trivial | (refine And.intro ?_ ?_) | exact LSub.nil | (with_reducible exact LSub.refl) | (apply LSub.cons; (repeat first | refine goH ?_ | apply LHas.here | apply LHas.next); refine And.intro ?_ ?_; (focus (try (first | (with_reducible rfl) | (refine congrArg (Pl.mk _) ?_; (first | rfl | (simp; done))) | rfl | (with_reducible refine congrArg (Pl.mk _) ?_))))) | assumption | (exact congrArg (fun n : Nat => AV.int .i64 n) (lowTo_end v.asc hok (by omega) (fun h => by omega))) | (exact hlow) | (exact lowTo_s (by assumption) (by assumption)) | (first | (focus (apply Eq.trans; (conv => lhs; whnf); (conv => rhs; whnf); done)) | rfl | ((conv => lhs; whnf); first | rfl | (refine congrArg (AV.int _) ?_; (exact T.num)) | (refine congrArg AV.bool ?_; (exact T.num)) | (refine vw_congr ?_; first | (exact T.num) | (first | rfl | (simp; done))) | (refine sl_congr ?_ ?_ <;> first | (exact T.num) | (first | rfl | (simp; done))) | (first | rfl | (simp; done)))) | (exact T.num) | (dsimp only; (exact T.num)) | (first | rfl | (simp; done))); done) | (apply AtC.mk' (id := 3) (S := Nm × Nm × Nm × Nm) ((_, _, _, _)); (repeat' first | exact trivial | (refine And.intro ?_ ?_) | exact LSub.nil | (with_reducible exact LSub.refl) | (apply LSub.cons; (repeat first | refine goH ?_ | apply LHas.here | apply LHas.next); refine And.intro ?_ ?_; (focus (try (first | (with_reducible rfl) | (refine congrArg (Pl.mk _) ?_; (first | rfl | (simp; done))) | rfl | (with_reducible refine congrArg (Pl.mk _) ?_))))) | assumption | (exact congrArg (fun n : Nat => AV.int .i64 n) (lowTo_end v.asc hok (by omega) (fun h => by omega))) | (exact hlow) | (exact lowTo_s (by assumption) (by assumption)) | (first | (focus (apply Eq.trans; (conv => lhs; whnf); (conv => rhs; whnf); done)) | rfl | ((conv => lhs; whnf); first | rfl | (refine congrArg (AV.int _) ?_; (exact T.num)) | (refine congrArg AV.bool ?_; (exact T.num)) | (refine vw_congr ?_; first | (exact T.num) | (first | rfl | (simp; done))) | (refine sl_congr ?_ ?_ <;> first | (exact T.num) | (first | rfl | (simp; done))) | (first | rfl | (simp; done)))) | (exact T.num) | (dsimp only; (exact T.num)) | (first | rfl | (simp; done)))) | (apply AtC.mk' (id := 16) (S := Unit) (()); (repeat' first | exact trivial | (refine And.intro ?_ ?_) | exact LSub.nil | (with_reducible exact LSub.refl) | (apply LSub.cons; (repeat first | refine goH ?_ | apply LHas.here | apply LHas.next); refine And.intro ?_ ?_; (focus (try (first | (with_reducible rfl) | (refine congrArg (Pl.mk _) ?_; (first | rfl | (simp; done))) | rfl | (with_reducible refine congrArg (Pl.mk _) ?_))))) | assumption | (exact congrArg (fun n : Nat => AV.int .i64 n) (lowTo_end v.asc hok (by omega) (fun h => by omega))) | (exact hlow) | (exact lowTo_s (by assumption) (by assumption)) | (first | (focus (apply Eq.trans; (conv => lhs; whnf); (conv => rhs; whnf); done)) | rfl | ((conv => lhs; whnf); first | rfl | (refine congrArg (AV.int _) ?_; (exact T.num)) | (refine congrArg AV.bool ?_; (exact T.num)) | (refine vw_congr ?_; first | (exact T.num) | (first | rfl | (simp; done))) | (refine sl_congr ?_ ?_ <;> first | (exact T.num) | (first | rfl | (simp; done))) | (first | rfl | (simp; done)))) | (exact T.num) | (dsimp only; (exact T.num)) | (first | rfl | (simp; done))))) | (show (_ → _) ∧ (¬ _ → _); first | refine T.y ?_ | refine dec_both (fun h => ?_) (fun h => ?_)) | exact T.z | fail) <;> conv => whnf)
   all_goals (try dsimp only)
   all_goals first
     | (rw [if_neg (by assumption)]; exact ret_held rfl (by (repeat first | refine goH ?_ | apply LHas.here | apply LHas.next); rfl))
     | (rw [if_pos (by assumption), if_neg (by assumption)]; exact ret_held rfl (by (repeat first | refine goH ?_ | apply LHas.here | apply LHas.next); rfl))
     | (rw [if_pos (by assumption), if_pos (by assumption), if_neg (by assumption)]; exact ret_held rfl (by (repeat first | refine goH ?_ | apply LHas.here | apply LHas.next); rfl))
     | (rw [if_pos (by assumption), if_pos (by assumption), if_pos (by assumption), show takeR i C D = (i, [], 11) from if_pos (by assumption)]; exact ret_held rfl (by (repeat first | refine goH ?_ | apply LHas.here | apply LHas.next); rfl))
     | (rw [if_pos (by assumption), if_pos (by assumption), if_pos (by assumption), show takeR i C D = (i, [], 12) from (if_neg (by assumption)).trans (if_pos (decide_eq_true ⟨by omega, by assumption⟩))]; exact ret_held rfl (by (repeat first | refine goH ?_ | apply LHas.here | apply LHas.next); rfl))
     | (have e2 : iarith .add .i64 C 1 = C + 1 := (by have h1 := hC (by assumption); (exact T.num))
        have hit : hitR i.h C = false := (decide_eq_false fun h => by first | exact absurd h.2 (by assumption) | (have := h.1; omega))
        rw [if_pos (by assumption), if_pos (by assumption), if_pos (by assumption)]
        first
          | (rw [show takeR i C D = (behI { i with f := i.f + 1 } 0, [D] ++ behO { i with f := i.f + 1 } 0, 0) from (if_neg (by assumption)).trans ((if_neg (by rw [hit]; decide)).trans (if_pos (by assumption))), ← e1]
             refine ret_side (q := q) (by first | exact (hvA_lt hK).symm | exact (hvA_ge hK).symm) (x := behI { i with f := iarith .add .i64 i.f 1 } 0) (l0 := i.h) (N := 0 + runN (iarith .add .i64 i.f 1) (i.h.drop 0)) rfl (run_le { i with f := iarith .add .i64 i.f 1 } (Nat.zero_le _)) ?_ ?_
             · rw [List.length_append, behO_len { i with f := iarith .add .i64 i.f 1 } (Nat.zero_le _)]
             · (repeat first | refine goH ?_ | apply LHas.here | apply LHas.next)
               refine ⟨rfl, ?_⟩
               (repeat first | refine goH ?_ | apply LHas.here | apply LHas.next)
               refine ⟨rfl, ?_⟩
               (repeat first | refine goH ?_ | apply LHas.here | apply LHas.next)
               trivial)
          | (rw [show takeR i C D = (behI (putI i C D) 0, behO (putI i C D) 0, 0) from (if_neg (by assumption)).trans ((if_neg (by rw [hit]; decide)).trans (if_neg (by assumption)))]
             rw [show putI i C D = putJ i (iarith .add .i64 C 1) C D by rw [e2]; rfl]
             first
               | (refine ret_side (hvA_lt hK).symm (x := behI (putJ i (iarith .add .i64 C 1) C D) 0) (l0 := (putJ i (iarith .add .i64 C 1) C D).h) (N := 0 + runN (putJ i (iarith .add .i64 C 1) C D).f ((putJ i (iarith .add .i64 C 1) C D).h.drop 0)) rfl (run_le (putJ i (iarith .add .i64 C 1) C D) (Nat.zero_le _)) ?_ ?_
                  · rw [behO_len (putJ i (iarith .add .i64 C 1) C D) (Nat.zero_le _)]; exact Nat.zero_add _
                  · (repeat first | refine goH ?_ | apply LHas.here | apply LHas.next)
                    refine ⟨rfl, ?_⟩
                    (repeat first | refine goH ?_ | apply LHas.here | apply LHas.next)
                    refine ⟨rfl, ?_⟩
                    (repeat first | refine goH ?_ | apply LHas.here | apply LHas.next)
                    trivial)
               | (refine ret_side0 (x := behI (putJ i (iarith .add .i64 C 1) C D) 0) (drop_ge hK) ?_ ?_
                  · rw [behO_len (putJ i (iarith .add .i64 C 1) C D) (Nat.zero_le _)]; exact Nat.zero_add _
                  · (repeat first | refine goH ?_ | apply LHas.here | apply LHas.next)
                    rfl)))
     | trace_state
end Go.Proofs.YtnmifddidgofaaaGreatDoor
namespace Go.Proofs.YtnmifddidgofaaaGreatDoor
open Go.RowKit
variable {G : Nat → AV}
theorem put3n_c (n : Int) : LSpec Tryz.prog G 44 [.nils, iAV 3, iAV n] [] (fun q => (.vw q 0 3 1, [(q, ⟨5, (putB n 3).map bAV⟩)])) := by
 refine goW [] Tryz.func44 rfl ?_
 conv => whnf
 repeat' ((first | refine T.s ?_ | ((first | apply goB | apply ABr.dec | apply ABr.gen) <;> intro h <;> try (exfalso; omega)) | refine LFresh.mk fun r => ?_ | (show SWpL _ _ _ _ _ _ _; first | refine SWpL.times 2 4 (by rfl) ?_ | refine AtL.step tyOk [] ?_) | exact T.z | refine ⟨_, rfl, rfl, ?_⟩ | fail) <;> conv => whnf)
 all_goals (try dsimp only)
 refine RetL.own r rfl ?_ ?_
 · (repeat first | refine goH ?_ | apply LHas.here | apply LHas.next); trivial
 · apply LSub.cons
   (repeat first | refine goH ?_ | apply LHas.here | apply LHas.next)
   refine And.intro (congrArg (Pl.mk _) ?_) LSub.nil
   simp only [putB, List.map_append, List.map_cons, List.map_nil, bAV_b8, List.append_assoc, List.cons_append, List.nil_append]
   rfl
theorem key17_c : LSpec Tryz.prog G 10 [] [] (fun _ => (awK.av, [])) := by
 refine goW [] Tryz.func10 rfl ?_
 conv => whnf
 repeat' ((first | (show LCall _ _ _ _ _ _; first | refine LCall.pure (filled_c _ _ (by decide)) ?_ | refine goE ?_) | refine T.s ?_ | ((first | apply goB | apply ABr.dec | apply ABr.gen) <;> intro h <;> try (exfalso; omega)) | refine LFresh.mk fun r => ?_ | exact T.z | fail) <;> conv => whnf)
 all_goals (try dsimp only)
 (show RetL _ _ _; refine goR ?_)
 rfl
def sealB (b c : Int) : List UInt8 := (sealR awK b c (putB c 3)).1
theorem seal17_c (b c : Int) : LSpec Tryz.prog gl 13 [iAV b, iAV c] [] (fun _ => (bv (sealB b c), [])) := by
 have hs := rseal_c awK b c (putB c 3)
 unfold sealB
 generalize sealR awK b c (putB c 3) = s at *
 refine goW [] Tryz.func13 rfl ?_
 conv => whnf
 repeat' ((first | (show LEra _ _ _; conv => whnf) | (show LCall _ _ _ _ _ _; first | refine LCall.pure (key17_c) ?_ | refine LCall.own (put3n_c c) ?_ | refine LCall.mk' (hs) [_] ⟨LF.eq rfl, LF.eq rfl, LF.eq rfl, LF.row InL.here ?_, trivial⟩ ?_ | refine goE ?_) | refine T.s ?_ | ((first | apply goB | apply ABr.dec | apply ABr.gen) <;> intro h <;> try (exfalso; omega)) | refine LFresh.mk fun r => ?_ | exact T.z | fail) <;> conv => whnf)
 all_goals (try dsimp only)
 all_goals first | contradiction | ((show RetL _ _ _; refine goR ?_); rfl) | trace_state
def aw0 : In := ⟨5, awK, 0, 0, 0, 0, 0, []⟩
def aw1 : In := ⟨5, awK, 0, 2, 0, 0, 0, [⟨1, [0, 0, 1]⟩]⟩
def aw2 : In := ⟨5, awK, 2, 2, 0, 0, 0, []⟩
theorem aw_new : newI 5 0 awK = (aw0, 0) := by
 unfold newI
 rw [if_pos (by decide +kernel), if_pos awK_ok]
 rfl
theorem aw_sealB (c : Int) (hc : countOk c = true) : sealB 5 c = sealL awK 5 c (putB c 3) := by
 unfold sealB
 rw [sealR_ok awK_ok (by rw [hc]; decide +kernel) rfl]
theorem aw_1 : rcvR aw0 (sealB 5 1) = (aw1, [], 0) := by
 rw [aw_sealB 1 (by decide +kernel)]
 unfold rcvR
 rw [if_pos (by decide +kernel : aw0.ok = true), show aw0.b = 5 from rfl, num_seal awK 5 1 _ awK_ok (by decide +kernel) (by decide +kernel) rfl]
 rw [if_pos rfl, show infR 5 aw0.f (lowR 5 1) = (1, 0) by decide +kernel, if_pos rfl, show aw0.k = awK from rfl, open_seal awK 5 1 _ awK_ok (by decide +kernel) (by decide +kernel) rfl, if_pos rfl]
 with_unfolding_all rfl
theorem aw_2 : rcvR aw1 (sealB 5 0) = (aw2, [[0, 0, 0], [0, 0, 1]], 0) := by
 rw [aw_sealB 0 (by decide +kernel)]
 unfold rcvR
 rw [if_pos (by decide +kernel : aw1.ok = true), show aw1.b = 5 from rfl, num_seal awK 5 0 _ awK_ok (by decide +kernel) (by decide +kernel) rfl]
 rw [if_pos rfl, show infR 5 aw1.f (lowR 5 0) = (0, 0) by decide +kernel, if_pos rfl, show aw1.k = awK from rfl, open_seal awK 5 0 _ awK_ok (by decide +kernel) (by decide +kernel) rfl, if_pos rfl]
 with_unfolding_all rfl
theorem aw_ok : aw2.ok = true := by decide +kernel
theorem awake17_c : LSpec Tryz.prog gl 7 [] [] (fun _ => (.bool true, [])) := by
 have h0 := dnew_c (G := gl) 5 0 awK
 rw [aw_new] at h0
 have h1 := dreceive_c aw0 (sealB 5 1) (by decide)
 rw [aw_1] at h1
 have h2 := dreceive_c aw1 (sealB 5 0) (by decide)
 rw [aw_2] at h2
 have h3 := dvalid_c (G := gl) aw2 (by decide)
 rw [aw_ok] at h3
 have s1 := seal17_c 5 1
 have s0 := seal17_c 5 0
 generalize sealB 5 1 = u1 at *
 generalize sealB 5 0 = u0 at *
 refine goW [] Tryz.func7 rfl ?_
 conv => whnf
 repeat' ((first | exact Nm.b 0 | (show LCall _ _ _ _ _ _; first | refine LCall.pure (key17_c) ?_ | refine LCall.pure (h0) ?_ | refine LCall.pure (s1) ?_ | refine LCall.pure (s0) ?_ | refine LCall.pure (h1) ?_ | refine LCall.pure (h2) ?_ | refine LCall.pure (h3) ?_ | refine goE ?_) | refine T.s ?_ | ((first | apply goB | apply ABr.dec | apply ABr.gen) <;> intro h <;> try (exfalso; omega)) | refine LFresh.mk fun r => ?_ | (show SWpL _ _ _ _ _ _ _; first | refine gX 2 [0, 1] [0, 1, 2, 3, 4, 5, 6, 7, 8, 9] [] ?_ | refine gX 3 [0, 1] [0, 1, 2, 3, 4, 5, 6, 7, 8, 9] [] ?_) | exact T.z | fail) <;> conv => whnf)
 all_goals (try dsimp only)
 all_goals first | contradiction | ((show RetL _ _ _; refine goR ?_); rfl) | trace_state
theorem beh_len (i : In) : (behI i 0).h.length ≤ i.h.length ∧ (behO i 0).length ≤ i.h.length := by
 refine ⟨?_, ?_⟩
 · show (i.h.drop _).length ≤ _
   rw [List.length_drop]; omega
 · show ((i.h.take _).map _).length ≤ _
   rw [List.length_map, List.length_take]; omega
theorem behj_len (i : In) (j : Nat) : (behI i j).h.length ≤ i.h.length ∧ (behO i j).length ≤ i.h.length := by
 refine ⟨?_, ?_⟩
 · show (i.h.drop _).length ≤ _
   rw [List.length_drop]; omega
 · show ((i.h.take _).map _).length ≤ _
   rw [List.length_map, List.length_take]; omega
theorem rcv_len (i : In) (u : List UInt8) : (rcvR i u).1.h.length ≤ i.h.length + 1 ∧ (rcvR i u).2.1.length ≤ i.h.length + 1 := by
 have hz : inZ.h.length = 0 := rfl
 unfold rcvR
 split
 · split
   · split
     · split
       · unfold takeR
         split
         · exact ⟨Nat.le_succ _, Nat.zero_le _⟩
         · split
           · exact ⟨Nat.le_succ _, Nat.zero_le _⟩
           · split
             · have h := beh_len { i with f := i.f + 1 }
               dsimp only at h ⊢
               rw [List.length_append, List.length_singleton]
               omega
             · have h := beh_len (putI i (infR i.b i.f (numR i.b u).1).1 (openR i.k i.b (infR i.b i.f (numR i.b u).1).1 u).1)
               have e : (putI i (infR i.b i.f (numR i.b u).1).1 (openR i.k i.b (infR i.b i.f (numR i.b u).1).1 u).1).h.length = i.h.length + 1 := insL_len _ _ _
               rw [e] at h
               exact h
       · exact ⟨Nat.le_succ _, Nat.zero_le _⟩
     · exact ⟨Nat.le_succ _, Nat.zero_le _⟩
   · exact ⟨Nat.le_succ _, Nat.zero_le _⟩
 · exact ⟨by rw [hz]; omega, Nat.zero_le _⟩
theorem tick_len (i : In) : (tickR i).1.h.length ≤ i.h.length ∧ (tickR i).2.1.length ≤ i.h.length := by
 have hz : inZ.h.length = 0 := rfl
 unfold tickR
 split
 · split
   · exact ⟨Nat.le_refl _, Nat.zero_le _⟩
   · split
     · exact behj_len { i with l := 0, f := i.m, m := 0 } _
     · exact ⟨Nat.le_refl _, Nat.zero_le _⟩
 · exact ⟨by rw [hz]; omega, Nat.zero_le _⟩
theorem rst_len (i : In) (k : Ky) : (rstI i k).1.h.length ≤ i.h.length ∧ (rstI i k).2.1.length ≤ i.h.length := by
 unfold rstI
 split
 · exact ⟨Nat.zero_le _, by rw [List.length_map]; exact Nat.le_refl _⟩
 · exact ⟨Nat.zero_le _, Nat.zero_le _⟩
theorem rky_len (i : In) (k : Ky) : (rkyI i k).1.h.length ≤ i.h.length := by
 unfold rkyI
 split
 · split
   · exact Nat.le_refl _
   · exact Nat.zero_le _
 · exact Nat.zero_le _
theorem new_len (b t : Int) (k : Ky) : (newI b t k).1.h.length = 0 := by
 unfold newI
 split
 · split <;> rfl
 · rfl
theorem sameall_r (a : List (List UInt8)) (ha : a.length ≤ 1000000) : LSpec Tryz.prog G 24 [bsv a, bsv a] [] (fun _ => (.bool true, [])) := by
 have h := sameall_c (G := G) a a ha
 rwa [decide_eq_true rfl] at h
theorem agree_c (i : In) (u : List UInt8) (hl : i.h.length ≤ 50000) : LSpec Tryz.prog gl 22 [i.av, bv u] [] (fun _ => (.bool true, [])) := by
 have h1 := dreceive_c i u (by omega)
 have h2 := r17receive_c i u (by omega)
 have h3 := dtick_c gl_yl i (by omega)
 have h4 := r17tick_c (G := gl) i (by omega)
 have h5 := dvalid_c (G := gl) i (by omega)
 have h6 := rvalid17_c (G := gl) i (by omega)
 have l1 := rcv_len i u
 have l2 := tick_len i
 generalize rcvR i u = R at *
 generalize tickR i = Z at *
 generalize i.ok = o at *
 obtain ⟨R, y, e⟩ := R
 obtain ⟨Z, z, f⟩ := Z
 dsimp only at l1 l2
 have sy := sameall_r (G := gl) y (by omega)
 have sz := sameall_r (G := gl) z (by omega)
 have sR := r17same_c (G := gl) R (by omega)
 have sT := r17same_c (G := gl) Z (by omega)
 refine goW [] Tryz.func22 rfl ?_
 conv => whnf
 repeat' ((first | exact Nm.b 0 | (show LCall _ _ _ _ _ _; first | refine LCall.pure (h1) ?_ | refine LCall.pure (h2) ?_ | refine LCall.pure (h3) ?_ | refine LCall.pure (h4) ?_ | refine LCall.pure (h5) ?_ | refine LCall.pure (h6) ?_ | refine LCall.pure (sy) ?_ | refine LCall.pure (sz) ?_ | refine LCall.pure (sR) ?_ | refine LCall.pure (sT) ?_ | refine goE ?_) | refine T.s ?_ | ((first | apply goB | apply ABr.dec | apply ABr.gen) <;> intro h <;> try (exfalso; omega)) | refine LFresh.mk fun r => ?_ | (show SWpL _ _ _ _ _ _ _; first | refine gX 5 [2, 1] [0, 2, 1, 3, 4, 5, 6, 7, 8, 9, 10, 11, 12, 13, 14, 15, 16, 17, 18, 19, 20, 21, 22, 23, 24, 25, 26, 27, 28, 29, 30, 31, 32, 33, 34, 35] [] ?_) | exact T.z | fail) <;> conv => whnf)
 all_goals (try dsimp only)
 all_goals first | contradiction | ((show RetL _ _ _; refine goR ?_); rfl) | trace_state
theorem exact17_c (i : In) (u : List UInt8) (k : Ky) : LSpec Tryz.prog gl 4 [i.av, bv u, k.av] [] (fun _ => (.bool true, [])) := by
 by_cases hl : i.h.length ≤ 300 ∧ u.length ≤ 3000
 · have ha := agree_c i u (by omega)
   have h1 := dnew_c (G := gl) i.b i.t k
   have h2 := rnew17_c (G := gl) i.b i.t k
   have h3 := drekey_c (G := gl) i k (by omega)
   have h4 := r17rekey_c (G := gl) i k (by omega)
   have h5 := drestart_c (G := gl) i k (by omega)
   have h6 := r17restart_c (G := gl) i k (by omega)
   have l1 := new_len i.b i.t k
   have l2 := rky_len i k
   have l3 := rst_len i k
   generalize newI i.b i.t k = A at *
   generalize rkyI i k = B at *
   generalize rstI i k = C at *
   obtain ⟨A, ae⟩ := A
   obtain ⟨B, be⟩ := B
   obtain ⟨C, y, ce⟩ := C
   dsimp only at l1 l2 l3
   have sy := sameall_r (G := gl) y (by omega)
   have sA := r17same_c (G := gl) A (by omega)
   have sB := r17same_c (G := gl) B (by omega)
   have sC := r17same_c (G := gl) C (by omega)
   refine goW [] Tryz.func4 rfl ?_
   conv => whnf
   repeat' ((first | (show LCall _ _ _ _ _ _; first | refine LCall.pure (awake17_c) ?_ | refine LCall.pure (ha) ?_ | refine LCall.pure (h1) ?_ | refine LCall.pure (h2) ?_ | refine LCall.pure (h3) ?_ | refine LCall.pure (h4) ?_ | refine LCall.pure (h5) ?_ | refine LCall.pure (h6) ?_ | refine LCall.pure (sy) ?_ | refine LCall.pure (sA) ?_ | refine LCall.pure (sB) ?_ | refine LCall.pure (sC) ?_ | refine goE ?_) | refine T.s ?_ | ((first | apply goB | apply ABr.dec | apply ABr.gen) <;> intro h <;> try (exfalso; omega)) | refine LFresh.mk fun r => ?_ | exact T.z | fail) <;> conv => whnf)
   all_goals (try dsimp only)
   all_goals first | contradiction | ((show RetL _ _ _; refine goR ?_); rfl) | trace_state
 · refine goW [] Tryz.func4 rfl ?_
   conv => whnf
   repeat' ((first | (show LCall _ _ _ _ _ _; first | refine LCall.pure (awake17_c) ?_ | refine goE ?_) | refine T.s ?_ | ((first | apply goB | apply ABr.dec | apply ABr.gen) <;> intro h <;> try (exfalso; omega)) | refine LFresh.mk fun r => ?_ | exact T.z | fail) <;> conv => whnf)
   all_goals (try dsimp only)
   all_goals first | contradiction | ((show RetL _ _ _; refine goR ?_); rfl) | trace_state
open Go.ChangeShapes Go.WideShapes Go.ChangeAt Go.RowKit
theorem LSpec.stmt {P : Program} {G : Nat → AV} {f : FuncId} {args : List AV} (h : LSpec P G f args [] (fun _ => (.bool true, []))) {W : World} {vs : Array Value} (hg : Glob G (fun _ => none) W) (hr : RdL (fun _ => none) W args vs) :
   Calls P f vs W fun e W' => e = .returned (.bool true) ∧ Below W.heap.size W W' := by
 unfold LSpec at h
 refine (h.2.2 (fun _ => none) W vs ⟨nofun, nofun, 0, fun _ _ => rfl⟩ hg (by simp) (by simp) hr).mono ?_
 rintro e W' ⟨v, q, rfl, -, -, hv, -, hs⟩
 have hv : Rd _ W' (.bool true) v := hv
 cases hv
 exact ⟨rfl, hs.os, hs.tape, hs.output, hs.size, fun k hk => (hs.old k hk rfl).2⟩
theorem RdL.nil0 {σ : Store} {W : World} : RdL σ W [] #[] := ⟨rfl, fun i hi => by simp at hi⟩
theorem RdL.cons0 {σ : Store} {W : World} {a : AV} {v : Value} {al : List AV} {vs : List Value} (h : Rd σ W a v) (hs : RdL σ W al vs.toArray) : RdL σ W (a :: al) (v :: vs).toArray :=
 ⟨by have := hs.1; simp at this ⊢; omega, fun i hi => by
   cases i with
   | zero => simpa using h
   | succ i =>
     have h2 := hs.2 i (by simp at hi; omega)
     simpa using h2⟩
theorem RdL.agg0 {σ : Store} {W : World} {al : List AV} {vs : List Value} (h : RdL σ W al vs.toArray) : Rd σ W (.agg al) (.agg vs.toArray) := .agg _ _ h.1 h.2
theorem exists_list {α : Type} (p : Nat → α → Prop) : ∀ (n : Nat), (∀ i, i < n → ∃ x, p i x) → ∃ l : List α, l.length = n ∧ ∀ i x, l[i]? = some x → p i x
 | 0, _ => ⟨[], rfl, by simp⟩
 | n + 1, h => by
   obtain ⟨l, h1, h2⟩ := exists_list p n fun i hi => h i (by omega)
   obtain ⟨x, hx⟩ := h n (by omega)
   refine ⟨l ++ [x], by simp [h1], fun i y hy => ?_⟩
   by_cases hi : i < l.length
   · rw [List.getElem?_append_left hi] at hy
     exact h2 i y hy
   · rw [List.getElem?_append_right (by omega)] at hy
     by_cases h0 : i - l.length = 0
     · rw [h0] at hy
       simp at hy
       subst hy
       have : i = n := by omega
       subst this
       exact hx
     · obtain ⟨k, hk⟩ := Nat.exists_eq_succ_of_ne_zero h0
       rw [hk] at hy
       simp at hy
section
variable {H : Type} {enc : TypeId × Value → H} {P : Program} {W : World} {base : Nat} {sp : Nat → Bool} {held : Bool} {b0 : Nat} {r : Reach}
theorem cell_row {α : Type} {A : α → AV} {u e : TypeId} (hu : P.underlying u = some (.slice e)) (hc : P.cellsOf e = 1) (he : ∀ (fuel : Nat) (c : Value) (y : DataW H × List MemPlace), DataW.trod enc P W base sp held fuel e [c] = some y → ∃ x, Rd (fun _ => none) W (A x) c)
   {c : Value} (hv : Cell.okWide P W r b0 u c) {fuel : Nat} {y : DataW H × List MemPlace} (h : DataW.trod enc P W base sp held fuel u [c] = some y) : ∃ l : List α, Rd (fun _ => none) W (.sl l.length (l.map A)) c := by
 rcases DataW.trod_slice hu h with ⟨h0, -⟩ | ⟨a, len, cap, elems, rest, n, -, h0, -, -, hl, hm, hlen, hel, -⟩
 · obtain rfl := (List.cons.inj h0).1
   exact ⟨[], .slnil⟩
 · obtain rfl := (List.cons.inj h0).1
   have hspot : a.spot = none := by
     simp only [Cell.okWide, hu, Cell.ok] at hv
     exact hv.2.2.2.1
   obtain ⟨b, off, spot⟩ := a
   simp only at hspot
   subst hspot
   have hadd : ∀ i, (⟨b, off, none⟩ : Addr).add i = ⟨b, off + i, none⟩ := fun i => by unfold Addr.add; split <;> simp_all
   obtain ⟨l, h1, h2⟩ := exists_list (fun i x => ∃ v, W.cell? ⟨b, off + i, none⟩ = some v ∧ Rd (fun _ => none) W (A x) v) len (fun i hi => by
     have hE := hel i hi
     rw [List.getElem?_eq_getElem (by omega)] at hE
     obtain ⟨c1, hc1, hy1⟩ := Option.bind_eq_some_iff.1 hE
     obtain ⟨-, h4, h5⟩ := World.cells?_some hc1
     rw [hc] at h4 h5
     match c1, h4 with
     | [v], _ =>
       have h6 := h5 0 (by omega)
       rw [Nat.mul_one, hadd] at h6
       have e0 : (⟨b, off + i, none⟩ : Addr).add 0 = ⟨b, off + i, none⟩ := by simp [Addr.add]
       rw [e0] at h6
       obtain ⟨x, hx⟩ := he n v _ hy1
       exact ⟨x, v, by simpa using h6, hx⟩)
   refine ⟨l, ?_⟩
   rw [h1]
   have h3 : ∀ i (hi : i < l.length), ∃ v, W.cell? ⟨b, off + i, none⟩ = some v ∧ Rd (fun _ => none) W (A l[i]) v := fun i hi => h2 i l[i] (List.getElem?_eq_getElem hi)
   refine .sl len _ b off cap (fun i => (W.cell? ⟨b, off + i, none⟩).getD undef) (fun _ => rfl) hl hm (fun i hi => ?_) (fun i hi => ?_)
   · obtain ⟨v, k1, -⟩ := h3 i (by simpa using hi)
     rw [k1]; rfl
   · have hi' : i < l.length := by simpa using hi
     obtain ⟨v, k1, k2⟩ := h3 i hi'
     rw [k1]
     simpa [List.getD_eq_getElem?_getD, hi'] using k2
theorem cell_bytes {u e : TypeId} (hu : P.underlying u = some (.slice e)) (he : P.underlying e = some (.int .u8)) (hc : P.cellsOf e = 1) {c : Value} (hv : Cell.okWide P W r b0 u c) {fuel : Nat} {y : DataW H × List MemPlace} (h : DataW.trod enc P W base sp held fuel u [c] = some y) : ∃ l : List UInt8, Rd (fun _ => none) W (bv l) c :=
 cell_row (A := bAV) hu hc (fun fuel c y h => by
   obtain ⟨n, h1, -, h2⟩ := DataW.trod_int he h
   obtain rfl := (List.cons.inj h1).1
   have h3 : 0 ≤ n ∧ n ≤ 255 := by simpa [Lit.wf, IntKind.min, IntKind.max, IntKind.signed, IntKind.bits] using h2
   refine ⟨b8 n, ?_⟩
   rw [bAV_b8, IntKind.wrap_u8, Int.emod_eq_of_lt (by omega) (by omega)]
   exact .int _ _) hv h
theorem cell_ints {u e : TypeId} (hu : P.underlying u = some (.slice e)) (he : P.underlying e = some (.int .i64)) (hc : P.cellsOf e = 1) {c : Value} (hv : Cell.okWide P W r b0 u c) {fuel : Nat} {y : DataW H × List MemPlace} (h : DataW.trod enc P W base sp held fuel u [c] = some y) : ∃ l : List Int, Rd (fun _ => none) W (iv l) c :=
 cell_row (A := iAV) hu hc (fun fuel c y h => by
   obtain ⟨n, h1, -, -⟩ := DataW.trod_int he h
   obtain rfl := (List.cons.inj h1).1
   exact ⟨n, .int _ _⟩) hv h
theorem cell_int {u : TypeId} (hu : P.underlying u = some (.int .i64)) {c : Value} {fuel : Nat} {y : DataW H × List MemPlace} (h : DataW.trod enc P W base sp held fuel u [c] = some y) : ∃ n : Int, Rd (fun _ => none) W (iAV n) c := by
 obtain ⟨n, h1, -, -⟩ := DataW.trod_int hu h
 obtain rfl := (List.cons.inj h1).1
 exact ⟨n, .int _ _⟩
theorem agg_cells {t : TypeId} {fs : Array Field} {ts : List TypeId} (ht : P.underlying t = some (.struct fs)) (hts : P.cellTypes P.depth t = some ts) (hn : P.cellsOf t = ts.length) {v : Value} (hv : Value.okWide P W r b0 t v) :
   ∃ cs : List Value, v = .agg cs.toArray ∧ cs.length = ts.length ∧ ∀ (i : Nat) (u : TypeId) (c : Value), ts[i]? = some u → cs[i]? = some c → Cell.okWide P W r b0 u c := by
 unfold Value.okWide at hv
 rw [ht] at hv
 obtain ⟨⟨cs⟩, rfl, h1, ts', h2, h3, h4⟩ := hv
 obtain rfl := Option.some.inj (hts.symm.trans h2)
 have h1 : cs.length = ts.length := by rw [← hn]; simpa using h1
 refine ⟨cs, rfl, h1, fun i u c hu hc => ?_⟩
 obtain ⟨u', k1, k2⟩ := h4 i c (by simpa using hc)
 have hi : i < ts.length := by rw [← h1]; exact (List.getElem?_eq_some_iff.1 hc).1
 rw [Nat.mod_eq_of_lt hi, hu] at k1
 obtain rfl := Option.some.inj k1
 exact k2
theorem trod_fields {t : TypeId} {fs : Array Field} (ht : P.underlying t = some (.struct fs)) {fuel : Nat} {cs : List Value} {y : DataW H × List MemPlace} (h : DataW.trod enc P W base sp held fuel t cs = some y) :
   ∀ (i : Nat) (f : Field), fs[i]? = some f → ∃ n y', DataW.trod enc P W base sp held n f.type ((cs.drop f.offset).take (P.cellsOf f.type)) = some y' := by
 obtain ⟨xs, n, -, -, hl, hxl, hf⟩ := DataW.trod_struct ht h
 intro i f hfi
 have h1 := hf i f hfi
 have hi : i < xs.length := by rw [hxl]; exact (Array.getElem?_eq_some_iff.1 hfi).1
 rw [List.getElem?_eq_getElem hi] at h1
 exact ⟨n, _, h1⟩
theorem trod_field {t : TypeId} {fs : Array Field} (ht : P.underlying t = some (.struct fs)) {fuel : Nat} {cs : List Value} {y : DataW H × List MemPlace} (h : DataW.trod enc P W base sp held fuel t cs = some y) (i k : Nat) (f : Field) (hf : fs[i]? = some f) (hk : P.cellsOf f.type = k) (cs' : List Value) (hc : (cs.drop f.offset).take k = cs') :
   ∃ n y', DataW.trod enc P W base sp held n f.type cs' = some y' := by
 subst hk hc
 exact trod_fields ht h i f hf
end
section
variable {H : Type} {enc : TypeId × Value → H} {P : Program} {W : World} {base : Nat} {sp : Nat → Bool} {held : Bool} {b0 : Nat} {r : Reach} {v : Value} {d : DataW H} {p : List MemPlace}
theorem arg_bytes {u e : TypeId} (hu : P.underlying u = some (.slice e)) (he : P.underlying e = some (.int .u8)) (hc : P.cellsOf e = 1) (hv : Value.okWide P W r b0 u v) (h : DataW.Trod enc P W base sp held u v d p) : ∃ l : List UInt8, Rd (fun _ => none) W (bv l) v := by
 obtain ⟨a, len, cap, rfl⟩ := okWide_slice hu hv
 obtain ⟨fuel, hf⟩ := h
 have hv : Cell.okWide P W r b0 u (.slice a len cap) := by simpa only [Value.okWide, hu] using hv
 exact cell_bytes hu he hc hv hf
theorem arg_ints {u e : TypeId} (hu : P.underlying u = some (.slice e)) (he : P.underlying e = some (.int .i64)) (hc : P.cellsOf e = 1) (hv : Value.okWide P W r b0 u v) (h : DataW.Trod enc P W base sp held u v d p) : ∃ l : List Int, Rd (fun _ => none) W (iv l) v := by
 obtain ⟨a, len, cap, rfl⟩ := okWide_slice hu hv
 obtain ⟨fuel, hf⟩ := h
 have hv : Cell.okWide P W r b0 u (.slice a len cap) := by simpa only [Value.okWide, hu] using hv
 exact cell_ints hu he hc hv hf
end
open Go.ChangeShapes Go.WideShapes Go.ChangeAt Go.RowKit
def sum2 : List (TypeId × Nat) → Nat
 | [] => 0
 | x :: l => x.2 + sum2 l
def offs : List (TypeId × Nat) → Nat → List (TypeId × Nat)
 | [], _ => []
 | x :: l, o => (x.1, o) :: offs l (o + x.2)
section
variable {H : Type} {enc : TypeId × Value → H} {P : Program} {W : World} {base : Nat} {sp : Nat → Bool} {held : Bool} {b0 : Nat} {r : Reach}
def IntT (enc : TypeId × Value → H) (P : Program) (W : World) (base : Nat) (sp : Nat → Bool) (held : Bool) (x : TypeId × Nat) : Prop :=
 P.cellsOf x.1 = x.2 ∧ ∀ (fuel : Nat) (cs : List Value) (y : DataW H × List MemPlace), DataW.trod enc P W base sp held fuel x.1 cs = some y → ∃ ns : List Int, ns.length = x.2 ∧ cs = ns.map fun z => Value.int .i64 z
theorem IntT.int {t : TypeId} (hu : P.underlying t = some (.int .i64)) (hc : P.cellsOf t = 1) : IntT enc P W base sp held (t, 1) := by
 refine ⟨hc, fun fuel cs y h => ?_⟩
 obtain ⟨n, h1, -, -⟩ := DataW.trod_int hu h
 exact ⟨[n], rfl, h1⟩
theorem IntT.fields {t : TypeId} {fs : Array Field} (ht : P.underlying t = some (.struct fs)) {fuel : Nat} {cs : List Value} {y : DataW H × List MemPlace} (h : DataW.trod enc P W base sp held fuel t cs = some y) : ∀ (L : List (TypeId × Nat)) (i o : Nat),
   (∀ x ∈ L, IntT enc P W base sp held x) → (fs.toList.drop i).map (fun f => (f.type, f.offset)) = offs L o → o + sum2 L = cs.length → ∃ ns : List Int, ns.length = sum2 L ∧ cs.drop o = ns.map fun z => Value.int .i64 z
 | [], i, o, _, _, hs => ⟨[], rfl, by rw [List.drop_eq_nil_of_le (by simp [sum2] at hs; omega)]; rfl⟩
 | x :: L, i, o, hx, hf, hs => by
   have h0 : fs[i]? = (fs.toList.drop i)[0]? := by simp
   cases hd : fs.toList.drop i with
   | nil => rw [hd] at hf; cases hf
   | cons f l =>
     rw [hd] at hf h0
     simp only [offs, List.map_cons, List.cons.injEq, Prod.mk.injEq] at hf
     obtain ⟨⟨h1, h2⟩, h3⟩ := hf
     obtain ⟨n, y', h4⟩ := trod_fields ht h i f (by rw [h0]; rfl)
     obtain ⟨k2, k1⟩ := hx x (List.mem_cons_self ..)
     rw [h1, h2, k2] at h4
     obtain ⟨ns, h5, h6⟩ := k1 n _ _ h4
     obtain ⟨ms, h7, h8⟩ := IntT.fields ht h L (i + 1) (o + x.2) (fun z hz => hx z (List.mem_cons_of_mem _ hz)) (by
       have e : fs.toList.drop (i + 1) = l := by rw [← List.drop_drop, hd]; rfl
       rw [e, h3]) (by rw [← hs]; show _ = o + (x.2 + sum2 L); omega)
     refine ⟨ns ++ ms, by rw [List.length_append, h5, h7]; rfl, ?_⟩
     rw [List.map_append, ← h6, ← h8, ← List.drop_drop, List.take_append_drop]
theorem IntT.struct {t : TypeId} {n : Nat} {fs : Array Field} (ht : P.underlying t = some (.struct fs)) (hc : P.cellsOf t = n) (L : List (TypeId × Nat)) (hx : ∀ x ∈ L, IntT enc P W base sp held x) (hf : fs.toList.map (fun f => (f.type, f.offset)) = offs L 0) (hn : sum2 L = n) : IntT enc P W base sp held (t, n) := by
 refine ⟨hc, fun fuel cs y h => ?_⟩
 obtain ⟨xs, m, -, -, hl, -, -⟩ := DataW.trod_struct ht h
 obtain ⟨ns, h1, h2⟩ := IntT.fields ht h L 0 0 hx hf (by rw [hl, hc, hn, Nat.zero_add])
 exact ⟨ns, by rw [h1]; exact hn, h2⟩
theorem fm_get {α : Type} {A : α → List AV} {n : Nat} (hA : ∀ x, (A x).length = n) : ∀ (l : List α) (i j : Nat) (x : α), l[i]? = some x → j < n → (l.flatMap A)[i * n + j]? = (A x)[j]?
 | [], i, j, x, h, _ => by simp at h
 | y :: l, i, j, x, h, hj => by
   rw [List.flatMap_cons]
   cases i with
   | zero =>
     obtain rfl : y = x := by simpa using h
     rw [Nat.zero_mul, Nat.zero_add, List.getElem?_append_left (by rw [hA]; exact hj)]
   | succ i =>
     rw [List.getElem?_append_right (by rw [hA, Nat.add_mul]; omega), hA, show (i + 1) * n + j - n = i * n + j by rw [Nat.add_mul]; omega]
     exact fm_get hA l i j x (by simpa using h) hj
theorem rec_rowN {α : Type} {A : α → List AV} {n : Nat} (hn : 0 < n) (hA : ∀ x, (A x).length = n) {u e : TypeId} (hu : P.underlying u = some (.slice e)) (hc : P.cellsOf e = n) (he : ∀ (fuel : Nat) (cs : List Value) (y : DataW H × List MemPlace), DataW.trod enc P W base sp held fuel e cs = some y → ∃ x, RdL (fun _ => none) W (A x) cs.toArray)
   {c : Value} {fuel : Nat} {y : DataW H × List MemPlace} (h : DataW.trod enc P W base sp held fuel u [c] = some y) : ∃ l : List α, Rd (fun _ => none) W (.sl l.length (l.flatMap A)) c := by
 rcases DataW.trod_slice hu h with ⟨h0, -⟩ | ⟨a, len, cap, elems, rest, m, -, h0, -, -, hl, hm, hlen, hel, -⟩
 · obtain rfl := (List.cons.inj h0).1
   exact ⟨[], .slnil⟩
 · obtain rfl := (List.cons.inj h0).1
   by_cases hz : len = 0
   · subst hz
     exact ⟨[], .sle a cap hm⟩
   obtain ⟨b, off, spot⟩ := a
   have hspot : spot = none := by
     have hE := hel 0 (by omega)
     rw [List.getElem?_eq_getElem (by omega)] at hE
     obtain ⟨c1, hc1, -⟩ := Option.bind_eq_some_iff.1 hE
     obtain ⟨-, h4, h5⟩ := World.cells?_some hc1
     rw [hc] at h4 h5
     have h6 := h5 0 hn
     rw [List.getElem?_eq_getElem (by omega)] at h6
     have h7 := World.cell?_spot h6
     simpa [Addr.add] using h7
   subst hspot
   have hadd : ∀ o i, (⟨b, o, none⟩ : Addr).add i = ⟨b, o + i, none⟩ := fun o i => by unfold Addr.add; split <;> simp_all
   obtain ⟨l, h1, h2⟩ := exists_list (fun i x => ∀ j, j < n → ∃ v, W.cell? ⟨b, off + (i * n + j), none⟩ = some v ∧ Rd (fun _ => none) W ((A x).getD j .any) v) len (fun i hi => by
     have hE := hel i hi
     rw [List.getElem?_eq_getElem (by omega)] at hE
     obtain ⟨c1, hc1, hy1⟩ := Option.bind_eq_some_iff.1 hE
     obtain ⟨-, h4, h5⟩ := World.cells?_some hc1
     rw [hc] at h4 h5
     obtain ⟨x, hx⟩ := he m c1 _ hy1
     refine ⟨x, fun j hj => ⟨c1.toArray.getD j undef, ?_, hx.2 j (by rw [hA]; exact hj)⟩⟩
     have h6 := h5 j hj
     rw [hadd, hadd, Nat.add_assoc] at h6
     rw [h6, List.getElem?_eq_getElem (by omega)]
     simp [Array.getD, h4, hj])
   refine ⟨l, ?_⟩
   have key : ∀ k, k < (l.flatMap A).length → ∃ v, W.cell? ⟨b, off + k, none⟩ = some v ∧ Rd (fun _ => none) W ((l.flatMap A).getD k .any) v := fun k hk => by
     rw [fm_len hA] at hk
     have hi : k / n < l.length := Nat.div_lt_of_lt_mul (by rw [Nat.mul_comm]; exact hk)
     obtain ⟨v, k1, k2⟩ := h2 (k / n) _ (List.getElem?_eq_getElem hi) (k % n) (Nat.mod_lt _ hn)
     have e : k / n * n + k % n = k := by rw [Nat.mul_comm]; exact Nat.div_add_mod k n
     have h7 := fm_get hA l (k / n) (k % n) _ (List.getElem?_eq_getElem hi) (Nat.mod_lt _ hn)
     rw [e] at k1 h7
     refine ⟨v, k1, ?_⟩
     rw [List.getD_eq_getElem?_getD, h7, ← List.getD_eq_getElem?_getD]
     exact k2
   rw [h1]
   refine .sl len _ b off cap (fun k => (W.cell? ⟨b, off + k, none⟩).getD undef) (fun _ => rfl) hl hm (fun k hk => ?_) (fun k hk => ?_)
   · obtain ⟨v, k1, -⟩ := key k hk
     rw [k1]; rfl
   · obtain ⟨v, k1, k2⟩ := key k hk
     rw [k1]
     exact k2
end
open Go.ChangeShapes Go.WideShapes Go.ChangeAt Go.RowKit
section
variable {H : Type} {enc : TypeId × Value → H} {W : World} {base : Nat} {sp : Nat → Bool} {held : Bool} {b0 : Nat} {r : Reach} {v : Value} {d : DataW H} {p : List MemPlace}
set_option maxRecDepth 100000 in
theorem arg_key (hv : Value.okWide Tryz.prog W r b0 29 v) (h : DataW.Trod enc Tryz.prog W base sp held 29 v d p) : ∃ k : Ky, Rd (fun _ => none) W k.av v := by
 obtain ⟨cs, rfl, hl, hc⟩ := agg_cells Tryz.underlying29 (ts := [27, 27, 3, 3, 3]) (by kernel_rfl) (by kernel_rfl) hv
 obtain ⟨fuel, hf⟩ := h
 have hf : DataW.trod enc Tryz.prog W base sp held fuel 29 cs = some (d, p) := hf
 match cs, hl with
 | [c0, c1, c2, c3, c4], _ =>
   obtain ⟨n0, y0, h0⟩ := trod_field Tryz.underlying29 hf 0 1 _ rfl (by kernel_rfl) [c0] rfl
   obtain ⟨n1, y1, h1⟩ := trod_field Tryz.underlying29 hf 1 1 _ rfl (by kernel_rfl) [c1] rfl
   obtain ⟨n2, y2, h2⟩ := trod_field Tryz.underlying29 hf 2 1 _ rfl (by kernel_rfl) [c2] rfl
   obtain ⟨n3, y3, h3⟩ := trod_field Tryz.underlying29 hf 3 1 _ rfl (by kernel_rfl) [c3] rfl
   obtain ⟨n4, y4, h4⟩ := trod_field Tryz.underlying29 hf 4 1 _ rfl (by kernel_rfl) [c4] rfl
   obtain ⟨s, r0⟩ := cell_bytes Tryz.underlying27 Tryz.underlying5 (by kernel_rfl) (hc 0 _ _ rfl rfl) h0
   obtain ⟨g, r1⟩ := cell_bytes Tryz.underlying27 Tryz.underlying5 (by kernel_rfl) (hc 1 _ _ rfl rfl) h1
   obtain ⟨x2, r2⟩ := cell_int Tryz.underlying3 h2
   obtain ⟨x3, r3⟩ := cell_int Tryz.underlying3 h3
   obtain ⟨x4, r4⟩ := cell_int Tryz.underlying3 h4
   exact ⟨⟨s, g, x2, x3, x4⟩, RdL.agg0 (.cons0 r0 (.cons0 r1 (.cons0 r2 (.cons0 r3 (.cons0 r4 .nil0)))))⟩
end
theorem array_ints {H : Type} {enc : TypeId × Value → H} {P : Program} {w : World} {base : Nat} {sp : Nat → Bool} {held : Bool} {t e n : Nat} (ht : P.underlying t = some (.array n e)) (he : P.underlying e = some (.int .i64)) (hc : P.cellsOf e = 1) {fuel : Nat} {cs : List Value} {zs : List Int} {p : List MemPlace}
   (h : DataW.trod enc P w base sp held fuel t cs = some (.agg (zs.map fun z => DataW.lit (Lit.int .i64 z)), p)) : ∀ (k : Nat) (z : Int), zs[k]? = some z → cs[k]? = some (.int .i64 z) := by
 obtain ⟨xs, m, -, hx, hl, hn, hel⟩ := DataW.trod_array ht h
 injection hx with hx1 hx2
 injection hx1 with hx1
 intro k z hz
 have hk : k < zs.length := (List.getElem?_eq_some_iff.1 hz).1
 have hlen : xs.length = zs.length := by simpa using (congrArg List.length hx1).symm
 have h1 := hel k (by omega)
 rw [hc, Nat.mul_one, List.getElem?_eq_getElem (by omega)] at h1
 obtain ⟨i, h2, h3, -⟩ := DataW.trod_int he h1
 have h4 : (xs.map (·.1))[k]? = some (.lit (.int .i64 i)) := by
   rw [List.getElem?_map, List.getElem?_eq_getElem (by omega)]
   simp [h3]
 rw [← hx1, List.getElem?_map, hz] at h4
 simp at h4
 subst h4
 have h5 := congrArg (·[0]?) h2
 simpa [List.getElem?_take, List.getElem?_drop] using h5
theorem gLanes : Tryz.prog.globalNamed "radiolink/stream.lanes" = some 0 := by kernel_rfl
theorem tLanes : (Tryz.prog.globals[0]?).map (·.type) = some 109 := by kernel_rfl
theorem lanes_of {W : World} (h : laidMetH Tryz.prog [("radiolink/stream.lanes", Rows.laid_radiolink_stream_lanes)] W) : Glob gl (fun _ => none) W := by
 rw [MakeChecks.laidMetH_plain _ _ _ (by kernel_rfl)] at h
 obtain ⟨ps, ⟨g0, t0, cs0, f0, p0, q0, hg0, ht0, hv0, hd0, -, -⟩, -, -⟩ := h
 obtain rfl := Option.some.inj (gLanes.symm.trans hg0)
 obtain rfl := Option.some.inj (tLanes.symm.trans ht0)
 obtain ⟨xs, m, -, hx, hl, hn, hel⟩ := DataW.trod_array Tryz.underlying109 hd0
 injection hx with hx1 hx2
 have hall : ∀ i : Nat, i < 8 → ∀ k z, ([[0, 4, 8, 12], [1, 5, 9, 13], [2, 6, 10, 14], [3, 7, 11, 15], [0, 5, 10, 15], [1, 6, 11, 12], [2, 7, 8, 13], [3, 4, 9, 14]] : List (List Int))[i]?.bind (·[k]?) = some z → cs0.toList[i * 4 + k]? = some (.int .i64 z) := by
   intro i hi k z hz
   obtain ⟨zs, hzs, hk⟩ := Option.bind_eq_some_iff.1 hz
   have h1 := hel i hi
   rw [show Tryz.prog.cellsOf 108 = 4 by kernel_rfl, List.getElem?_eq_getElem (by omega)] at h1
   have hmap : xs.map (·.1) = ([[0, 4, 8, 12], [1, 5, 9, 13], [2, 6, 10, 14], [3, 7, 11, 15], [0, 5, 10, 15], [1, 6, 11, 12], [2, 7, 8, 13], [3, 4, 9, 14]] : List (List Int)).map fun zs => DataW.agg (zs.map fun z => DataW.lit (Lit.int .i64 z)) := by
     injection hx1 with hx1
     exact hx1.symm
   have h2 : (xs.map (·.1))[i]? = some (.agg (zs.map fun z => DataW.lit (Lit.int .i64 z))) := by
     rw [hmap, List.getElem?_map, hzs]; rfl
   rw [List.getElem?_map, List.getElem?_eq_getElem (by omega)] at h2
   have h3 : (xs[i]'(by omega)).1 = .agg (zs.map fun z => DataW.lit (Lit.int .i64 z)) := Option.some.inj h2
   have h4 : DataW.trod (fun _ => ()) Tryz.prog W 0 (fun _ => true) false m 108 ((cs0.toList.drop (i * 4)).take 4) = some (.agg (zs.map fun z => DataW.lit (Lit.int .i64 z)), (xs[i]'(by omega)).2) := by
     rw [h1, ← h3]
   have h5 := array_ints Tryz.underlying108 Tryz.underlying3 (by kernel_rfl) h4 k z hk
   have hk4 : k < 4 := by
     have := (List.getElem?_eq_some_iff.1 h5).1
     simp at this
     omega
   simpa [List.getElem?_take, hk4, List.getElem?_drop] using h5
 have hcell : ∀ o z, tblN[o]? = some z → W.cell? ⟨0, 0 + o, none⟩ = some (.int .i64 z) := by
   intro o z hz
   have ho : o < 32 := (List.getElem?_eq_some_iff.1 hz).1
   have h1 := hall (o / 4) (by omega) (o % 4) z (by
     rw [← hz]
     have : ∀ o, o < 32 → (([[0, 4, 8, 12], [1, 5, 9, 13], [2, 6, 10, 14], [3, 7, 11, 15], [0, 5, 10, 15], [1, 6, 11, 12], [2, 7, 8, 13], [3, 4, 9, 14]] : List (List Int))[o / 4]?.bind (·[o % 4]?)) = tblN[o]? := by decide
     exact this o ho)
   have h2 := World.var?_cell hg0 hv0 o
   rw [show o / 4 * 4 + o % 4 = o by omega] at h1
   rw [Nat.zero_add, h2]
   simpa using h1
 refine Glob.of (fun g => by unfold gl; split <;> rfl) ?_
 intro g
 by_cases hg : g = 0
 · subst hg
   show Rd _ W (.ip (tblN.map iAV)) _
   refine .ip _ _ 0 (fun i => .int .i64 (tblN.getD i 0)) (fun _ => rfl) (fun i hi => ?_) (fun i hi => ?_)
   · have hi : i < tblN.length := by simpa using hi
     exact hcell i _ (by rw [List.getD_eq_getElem?_getD, List.getElem?_eq_getElem hi]; rfl)
   · have hi : i < tblN.length := by simpa using hi
     rw [List.getD_eq_getElem?_getD, List.getElem?_map, List.getD_eq_getElem?_getD, List.getElem?_eq_getElem hi]
     exact .int _ _
 · have : gl g = .any := by
     unfold gl
     split
     · rename_i hb
       exact absurd (Nat.eq_of_beq_eq_true hb) hg
     · rfl
   rw [this]
   exact .any _
theorem door_met (os : Os) (args : Array Value) : laidMetH Tryz.prog [("radiolink/stream.lanes", Rows.laid_radiolink_stream_lanes)] ((World.doorLaid Tryz.prog 400 os).forCall (fun _ _ => 0) ⟨#[], args, []⟩).memory :=
 laidMetH_of_parts3 (fuel := 8) (laidMet_of_run' 8 (by kernel_rfl) (by kernel_rfl)) (by kernel_rfl) (by kernel_rfl)
end Go.Proofs.YtnmifddidgofaaaGreatDoor
