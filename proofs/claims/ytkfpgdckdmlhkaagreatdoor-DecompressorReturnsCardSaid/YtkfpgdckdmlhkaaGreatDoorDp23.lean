import Derived.Test.YtkfpgdckdmlhkaaGreatDoorDp22
set_option maxHeartbeats 4000000
namespace Go.Proofs.YtkfpgdckdmlhkaaGreatDoor
open Go.RowKit
set_option linter.all false
variable {G : Nat → AV}
theorem shapR_f {m w : Int} (h : ¬ (1 ≤ m ∧ m ≤ 3 ∧ 1 ≤ w ∧ w ≤ 8)) : cnewR m w = (Co.z, 3) := by
 unfold cnewR
 rw [if_neg]
 unfold shapR
 simpa using h
theorem shapR_t {m w : Int} (h : 1 ≤ m ∧ m ≤ 3 ∧ 1 ≤ w ∧ w ≤ 8) : cnewR m w = (⟨m, w, List.replicate 16 Sn.z⟩, 0) := by
 unfold cnewR
 rw [if_pos]
 unfold shapR
 exact decide_eq_true h
def zsn : List AV := [.bool false, iAV 0, iAV 0, iAV 0, iAV 0, iAV 0, iAV 0, iAV 0, .nils]
theorem zsn_f {l : LS} {F : List Nm} : LFs l F zsn Sn.z.cs := ⟨.eq rfl, .eq rfl, .eq rfl, .eq rfl, .eq rfl, .eq rfl, .eq rfl, .eq rfl, LF.nils rfl rfl, trivial⟩
theorem RL.coz {e : Int} {l : LS} : RL (fun _ => (.tup [Co.z.av, iAV e], [])) (.tup [.agg [.int .i64 0, .int .i64 0, .nils], .int .i64 e]) l :=
 RL.frz [] (LF.tup (xs := [.agg [.int .i64 0, .int .i64 0, .nils], .int .i64 e]) (ys := [Co.z.av, iAV e]) ⟨LF.agg (xs := [.int .i64 0, .int .i64 0, .nils]) (ys := [iAV 0, iAV 0, snv []]) ⟨LF.eq rfl, LF.eq rfl, LF.nils rfl rfl, trivial⟩, LF.eq rfl, trivial⟩) LB.nil
theorem r9new_c (m w : Int) : LP Tryz.prog G 18 [iAV m, iAV w] [] (fun _ => (.tup [(cnewR m w).1.av, iAV (cnewR m w).2], [])) := by
 by_cases h : 1 ≤ m ∧ m ≤ 3 ∧ 1 ≤ w ∧ w ≤ 8
 · rw [shapR_t h]
   refine goW [] Tryz.func18 rfl ?_
   conv => whnf
   repeat' ((first
     | (show AQ _ _; first | (refine AQ.eq (cs' := (List.replicate 16 ()).flatMap fun _ => zsn) rfl ?_))
     | refine T.s ?_
     | ((first | refine goB (fun h => ?_) (fun h => ?_) | refine AB.dec (fun h => ?_) (fun h => ?_) | refine AB.gen (fun h => ?_) (fun h => ?_)) <;> try (exfalso; omega))
     | refine LFresh.mk fun r => ?_
     | exact T.z
     | fail) <;> conv => whnf)
   all_goals (try dsimp only)
   all_goals
     refine RL.frz [r] (LF.tup (xs := [.agg [.int .i64 m, .int .i64 w, .vw r 0 16 9], .int .i64 0]) (ys := [Co.av ⟨m, w, List.replicate 16 Sn.z⟩, iAV 0]) ⟨LF.agg (xs := [.int .i64 m, .int .i64 w, .vw r 0 16 9]) (ys := [iAV m, iAV w, snv (List.replicate 16 Sn.z)]) ⟨LF.eq rfl, LF.eq rfl, LF.rowN InL.here ?_, trivial⟩, LF.eq rfl, trivial⟩) ?_
     · (repeat first | refine goH ?_ | apply LH.here | apply LH.next)
       exact ⟨by decide, by kernel_rfl, by simp, by
         rw [show (List.replicate 16 Sn.z).flatMap Sn.cs = (List.replicate 16 ()).flatMap fun _ => Sn.z.cs by kernel_rfl]
         exact LFs.fm (fun _ => zsn_f) _⟩
     · (repeat first | refine goH ?_ | apply LH.here | apply LH.next)
       exact LB.nil
 · rw [shapR_f h]
   refine goW [] Tryz.func18 rfl ?_
   conv => whnf
   repeat' ((first
     | (show AQ _ _; first | (refine AQ.eq (cs' := (List.replicate 16 ()).flatMap fun _ => zsn) rfl ?_))
     | refine T.s ?_
     | ((first | refine goB (fun h => ?_) (fun h => ?_) | refine AB.dec (fun h => ?_) (fun h => ?_) | refine AB.gen (fun h => ?_) (fun h => ?_)) <;> try (exfalso; omega))
     | refine LFresh.mk fun r => ?_
     | exact T.z
     | fail) <;> conv => whnf)
   all_goals (try dsimp only)
   all_goals first
     | (exfalso; omega)
     | exact RL.coz
     | trace_state
def cpG (c : Co) (i0 : Nat) (q : Nm) (k : Nat) : List AV := if k = i0 then (c.at k).cv (.vw q 0 (c.at k).rf.length 15) else (c.at k).cs
def cpR (c : Co) (i0 : Nat) (q : Nm) (n : Nat) : List AV := (List.range n).flatMap (cpG c i0 q)
theorem cpG_len (c : Co) (i0 : Nat) (q : Nm) (k : Nat) : (cpG c i0 q k).length = 9 := by unfold cpG; split <;> rfl
theorem cpR_succ (c : Co) (i0 : Nat) (q : Nm) (n : Nat) : cpR c i0 q (n + 1) = cpR c i0 q n ++ cpG c i0 q n := by unfold cpR; rw [List.range_succ, List.flatMap_append]; simp
theorem cpR_irr (c : Co) {i0 n : Nat} (h : n ≤ i0) (q q' : Nm) : cpR c i0 q n = cpR c i0 q' n := by
 induction n with
 | zero => rfl
 | succ n ih =>
   rw [cpR_succ, cpR_succ, ih (by omega)]
   unfold cpG
   rw [if_neg (by omega), if_neg (by omega)]
@[simp] theorem cpR_len (c : Co) (i0 : Nat) (q : Nm) (n : Nat) : (cpR c i0 q n).length = n * 9 := by
 induction n with
 | zero => rfl
 | succ n ih => rw [cpR_succ, List.length_append, ih, cpG_len]; omega
theorem hds_one (l : List Hd) : ((l.flatMap Hd.cs).all AV.one) = true := by
 induction l with
 | nil => rfl
 | cons x l ih => rw [List.flatMap_cons, List.all_append, ih]; rfl
def cpP (c : Co) (i0 n : Nat) : List AV := if i0 < n then (c.at i0).rf.flatMap Hd.cs else []
@[reducible] def n0 (q : List Nm) : Nm := q.getD 0 (.b 0)
@[reducible] def n1 (q : List Nm) : Nm := q.getD 1 (.b 0)
theorem cpR_own {c : Co} {i0 j : Nat} (h : j = i0) (p q : Nm) : cpR c i0 p j ++ (c.at j).cv (.vw q 0 (c.at j).rf.length 15) = cpR c i0 q (j + 1) := by
 rw [cpR_succ, cpR_irr c (Nat.le_of_eq h) p q]
 unfold cpG
 rw [if_pos h]
theorem cpP_own {c : Co} {i0 j : Nat} (h : j = i0) : (c.at j).rf.flatMap Hd.cs = cpP c i0 (j + 1) := by
 unfold cpP
 rw [if_pos (by omega), h]
theorem cpR_oth {c : Co} {i0 j : Nat} (h : ¬ j = i0) (p : Nm) : cpR c i0 p j ++ (c.at j).cs = cpR c i0 p (j + 1) := by
 rw [cpR_succ]
 unfold cpG
 rw [if_neg h]
theorem cpP_oth {c : Co} {i0 j : Nat} (h : ¬ j = i0) : cpP c i0 j = cpP c i0 (j + 1) := by
 unfold cpP
 by_cases h2 : i0 < j
 · rw [if_pos h2, if_pos (by omega)]
 · rw [if_neg h2, if_neg (by omega)]
theorem r9copy_c (c : Co) (i0 : Nat) (hi : i0 < c.cx.length) (hl : c.cx.length ≤ 100) (hr : ∀ i, i < c.cx.length → (c.at i).rf.length ≤ 1000) : LSpecN Tryz.prog G 44 [c.av] [] 2 (fun q => (.agg [iAV c.m, iAV c.w, .vw (n0 q) 0 c.cx.length 9], [(n0 q, ⟨59, cpR c i0 (n1 q) c.cx.length⟩), (n1 q, ⟨65, (c.at i0).rf.flatMap Hd.cs⟩)])) := by
 have hb : ∀ j : Nat, (j : Int) < (c.cx.length : Int) → (c.cx.getD j Sn.z).rf.length ≤ 1000 := fun j h => hr j (by omega)
 refine LSpecN.introL tQ Tryz.func44 rfl (by kernel_rfl) (by simp) (fun qs hq => by obtain ⟨x, y, rfl⟩ : ∃ x y, qs = [x, y] := (match qs, hq with | [x, y], _ => ⟨x, y, rfl⟩); exact ⟨by simp, by intro h1 h2; simp at h1 h2 ⊢; simp_all [eq_comm]⟩) ?_
 refine AWpL.sound tQ [] _ _ _ _ ?_
 conv => whnf
 repeat' ((first
   | (refine And.intro ?_ ?_; (focus (first | exact rec_le Sn.cs_len (by assumption) | exact fm_len Hd.cs_len _ | exact hds_one _ | exact Nat.le_trans (Nat.mul_le_mul_right _ (hb j (by assumption))) (by decide) | exact Nat.le_trans (hb j (by assumption)) (by decide) | exact T.kx | exact T.side)))
   | (show AC _ _ _; first | (refine AC.recd Sn.cs_len j Sn.z rfl rfl ?_ ?_; (focus omega)))
   | refine T.s ?_
   | ((first | refine goB (fun h => ?_) (fun h => ?_) | refine AB.dec (fun h => ?_) (fun h => ?_) | refine AB.gen (fun h => ?_) (fun h => ?_)) <;> try (exfalso; omega))
   | refine LFresh.mk fun r => ?_
   | (show SQ _ _ _ (.loop _) _ _ _; first | (apply goO tQ [] 4 (S := Nat × Nm × Nm × Nm × Nm × Nm) [] (fun (j, a, z, o, q, p) => ⟨[(4, .int .i64 j), (1, .ptr a 0), (2, .ptr z 0), (3, .ptr o 0)], [(a, ⟨41, [iAV c.m, iAV c.w, snv c.cx]⟩), (z, ⟨41, [iAV 0, iAV 0, .nils]⟩), (o, ⟨41, [iAV c.m, iAV c.w, .vw q 0 j 9]⟩), (q, ⟨59, cpR c i0 p j⟩), (p, ⟨65, cpP c i0 j⟩)], j ≤ c.cx.length, c.cx.length - j⟩) ((0, _, _, _, _, _)) (by rfl); (focus (all_goals (try exact K99A); done)); rintro ⟨j, a, z, o, q, p⟩ hok; (try dsimp only at hok); (repeat (have hk := And.left hok; replace hok := And.right hok))))
   | (show SQ _ _ _ _ _ _ _; first | (refine SQ.dummy 65 fun p => ?_; refine SQ.adoptP r 2 9 59 ?_; (repeat first | refine goH ?_ | apply LH.here | apply LH.next); refine ⟨show 2 < 3 from by decide, rfl, fun q => ?_⟩))
   | (show AtL _ _ _ _ _ _ _ _ _ _; first | (by_cases hji : j = i0; (focus (rename_i pa pb pc; refine AtL.mk' (id := 4) (j + 1, a, z, o, r, pb) ?_; all_goals (try exact K99A))); (focus (rename_i pa pb pc; refine AtL.mkF (id := 4) (j + 1, a, z, o, r, p) ⟨?_, ?_, LTo.frz r [pb] (cpR c i0 p j ++ (c.at j).cs) ?_, ?_⟩; rotate_left; rotate_left; (focus ((repeat first | refine goH ?_ | apply LH.here | apply LH.next); refine ⟨LFs.app (LFs.same _) ⟨.eq rfl, .eq rfl, .eq rfl, .eq rfl, .eq rfl, .eq rfl, .eq rfl, .eq rfl, LF.row InL.here ?_, trivial⟩, ?_⟩; (focus ((repeat first | refine goH ?_ | apply LH.here | apply LH.next); exact ⟨by decide, fm_len Hd.cs_len _, rfl, rfl⟩)); (repeat first | refine goH ?_ | apply LH.here | apply LH.next); all_goals (try exact K99A))); all_goals all_goals (try exact K99A)))) | (apply AtL.mk' (id := 4) (S := Nat × Nm × Nm × Nm × Nm × Nm) ((j + 1, _, _, _, _, _)); all_goals (try exact K99A); done) | (apply AtL.mk' (id := 4) (S := Nat × Nm × Nm × Nm × Nm × Nm) ((j + 1, _, _, _, _, _)); all_goals (try exact K99A)))
   | exact T.z
   | fail) <;> conv => whnf)
 all_goals (try dsimp only)
 obtain rfl : j = c.cx.length := by omega
 have e : cpP c i0 c.cx.length = (c.at i0).rf.flatMap Hd.cs := if_pos hi
 rw [e]
 apply RetLN.val [q, p] rfl
 · show LH _ _ _
   exact .next (.next (.next (.here (.next (.next (.next (.here trivial)))))))
 · rfl
 · exact LB.cons (.next (.next (.next (.here ⟨rfl, LB.cons (.next (.next (.next (.here ⟨rfl, LB.nil⟩))))⟩))))
open Go.RowKit
variable {G : Nat → AV}
theorem cpR_frz {l : LS} {F : List Nm} {c : Co} {i0 : Nat} {p : Nm} (hF : InL p F) (hp : LH l p fun cc _ _ => cc.cs = (c.at i0).rf.flatMap Hd.cs) : ∀ n, LFs l F (cpR c i0 p n) ((List.range n).flatMap fun k => (c.at k).cs)
 | 0 => trivial
 | n + 1 => by
   rw [cpR_succ, List.range_succ, List.flatMap_append]
   refine LFs.app (cpR_frz hF hp n) ?_
   simp only [List.flatMap_cons, List.flatMap_nil, List.append_nil]
   unfold cpG
   split
   · rename_i h
     subst h
     exact ⟨.eq rfl, .eq rfl, .eq rfl, .eq rfl, .eq rfl, .eq rfl, .eq rfl, .eq rfl, LF.row hF (LH.mono hp fun cc _ _ e => ⟨by decide, by rw [e]; exact fm_len Hd.cs_len _, rfl, e.symm⟩), trivial⟩
   · exact LFs.same _
theorem cx_range (c : Co) (n : Nat) (h : n ≤ c.cx.length) : (List.range n).flatMap (fun k => (c.at k).cs) = (c.cx.take n).flatMap Sn.cs := by
 induction n with
 | zero => simp
 | succ n ih =>
   rw [List.range_succ, List.flatMap_append, ih (by omega), List.take_succ_eq_append_getElem (by omega), List.flatMap_append]
   simp [Co.at, List.getD_eq_getElem?_getD, show n < c.cx.length by omega]
theorem cx_range_all (c : Co) : (List.range c.cx.length).flatMap (fun k => (c.at k).cs) = c.cx.flatMap Sn.cs := by rw [cx_range c _ (Nat.le_refl _), List.take_length]
theorem LH.wk {p : Nm} {x : Nm × Pl} {Q : Pl → Prop} {l2 : LS} : ∀ {l1 : LS}, (LH (l1 ++ l2) p fun c _ _ => Q c) → LH (l1 ++ x :: l2) p fun c _ _ => Q c
 | [], h => .next h
 | y :: l1, h => by
   obtain ⟨m1, d, m2, e, hq⟩ := h.ex
   cases m1 with
   | nil =>
     injection e with e1 e2
     subst e1
     exact .here hq
   | cons z m1 =>
     injection e with e1 e2
     exact .next (LH.wk ⟨m1, d, m2, e2, hq⟩)
theorem cop_row {c : Co} {i0 : Nat} {R : Nm} {l : LS} (h : LH l R fun cc _ r => ∃ p, cc.cs = cpR c i0 p c.cx.length ∧ LH r p fun cc' _ _ => cc'.cs = (c.at i0).rf.flatMap Hd.cs) : ∃ p, LF l [R, p] (.vw R 0 c.cx.length 9) (snv c.cx) ∧ LEra l [R, p] (LB []) := by
 obtain ⟨l1, cc, l2, rfl, p, h1, h2⟩ := h.ex
 refine ⟨p, LF.rowN InL.here ⟨l1, cc, l2, rfl, by decide, by rw [h1]; exact cpR_len _ _ _ _, rfl, ?_⟩, ⟨l1, cc, l2, rfl, LH.mono h2 fun _ _ _ _ => LB.nil⟩⟩
 rw [h1, ← cx_range_all]
 exact cpR_frz (InL.next InL.here) (LH.wk h2) _
theorem RL.cop {c : Co} (i0 : Nat) {R : Nm} {x : List UInt8} {e : Int} {l : LS} (h : LH l R fun cc _ r => ∃ p, cc.cs = cpR c i0 p c.cx.length ∧ LH r p fun cc' _ _ => cc'.cs = (c.at i0).rf.flatMap Hd.cs) : RL (fun _ => (.tup [c.av, bv x, iAV e], [])) (.tup [.agg [.int .i64 c.m, .int .i64 c.w, .vw R 0 c.cx.length 9], bv x, .int .i64 e]) l := by
 obtain ⟨p, h1, h2⟩ := cop_row h
 exact RL.frz [R, p] (LF.tup (xs := [.agg [.int .i64 c.m, .int .i64 c.w, .vw R 0 c.cx.length 9], bv x, .int .i64 e]) (ys := [c.av, bv x, iAV e]) ⟨LF.agg (xs := [.int .i64 c.m, .int .i64 c.w, .vw R 0 c.cx.length 9]) (ys := [iAV c.m, iAV c.w, snv c.cx]) ⟨.eq rfl, .eq rfl, h1, trivial⟩, .eq rfl, .eq rfl, trivial⟩) h2
theorem RL.co3 {e : Int} {l : LS} : RL (fun _ => (.tup [Co.z.av, bv [], iAV e], [])) (.tup [.agg [.int .i64 0, .int .i64 0, .nils], .nils, .int .i64 e]) l :=
 RL.frz [] (LF.tup (xs := [.agg [.int .i64 0, .int .i64 0, .nils], .nils, .int .i64 e]) (ys := [Co.z.av, bv [], iAV e]) ⟨LF.agg (xs := [.int .i64 0, .int .i64 0, .nils]) (ys := [iAV 0, iAV 0, snv []]) ⟨LF.eq rfl, LF.eq rfl, LF.nils rfl rfl, trivial⟩, LF.nils rfl rfl, LF.eq rfl, trivial⟩) LB.nil
def cpr (x : (Co × List UInt8) × Int) : AV := .tup [x.1.1.av, bv x.1.2, iAV x.2]
theorem r9comp_inv (c : Co) (b : List UInt8) (hc : c.ok = false) : LP Tryz.prog G 21 [c.av, bv b] [] (fun _ => (cpr (comprR c b), [])) := by
 have hv := r9valid_c (G := G) c
 rw [hc] at hv
 rw [show comprR c b = ((Co.z, []), 1) by unfold comprR; rw [if_neg (by rw [hc]; decide)]]
 refine goW [] Tryz.func21 rfl ?_
 conv => whnf
 repeat' ((first
   | exact Nm.b 0
   | (show LC _ _ _ _ _ _; first | refine LC.pure (hv) ?_ | refine goE ?_)
   | refine T.s ?_
   | ((first | refine goB (fun h => ?_) (fun h => ?_) | refine AB.dec (fun h => ?_) (fun h => ?_) | refine AB.gen (fun h => ?_) (fun h => ?_)) <;> try (exfalso; omega))
   | refine LFresh.mk fun r => ?_
   | (show SQ _ _ _ (.loop _) _ _ _; first | (refine goL tQ [] 39 (S := Nat) [2, 4, 7, 8, 9, 11, 13, 16, 18] (fun f => ⟨[(19, .int .i64 f)], [], False, 4 - f⟩) (0) ?_; rintro f hok; (try dsimp only at hok); (repeat (have hk := And.left hok; replace hok := And.right hok))))
   | (show SQ _ _ _ _ _ _ _; first | (refine goD tQ mixed 8 [0, 2] [0, 1, 2, 3, 4, 5] [] (by kernel_rfl) ?_) | (refine goD tQ mixed 11 [0, 2] [0, 1, 2, 3, 4, 5] [] (by kernel_rfl) ?_) | (refine goD tQ mixed 19 [2, 1] [0, 2, 1, 3, 4, 5] [] (by kernel_rfl) ?_) | (refine goD tQ mixed 21 [0, 2] [0, 1, 2, 3, 4, 5] [] (by kernel_rfl) ?_) | (refine goD tQ mixed 24 [1, 3] [0, 1, 2, 3, 4, 5, 6] [] (by kernel_rfl) ?_) | (refine goD tQ mixed 25 [15, 13] [0, 1, 2, 3, 4, 5, 6, 7, 8, 9, 10, 11, 12, 14, 15, 13, 16, 17, 18, 19] [] (by kernel_rfl) ?_))
   | (show AtL _ _ _ _ _ _ _ _ _ _; first | (show AtL 39 _ _ _ _ _ _ _ _ _; exact goN 39 (S := Nat) (f + 1)) | (apply AtL.mk' (id := 39) (S := Nat) (f + 1); all_goals (try exact KC12)))
   | (refine dec_yes ?_ ?_; (focus (first | exact .inl rfl | (exact T.num))))
   | (refine dec_no ?_ ?_; (focus (exact T.num)))
   | refine dec_both (fun h => ?_) (fun h => ?_)
   | exact T.z
   | fail) <;> conv => whnf)
 all_goals (try dsimp only)
 all_goals exact RL.co3
theorem r9comp_size (c : Co) (b : List UInt8) (hc : c.ok = true) (hb : b = [] ∨ 1500 < b.length) : LP Tryz.prog G 21 [c.av, bv b] [] (fun _ => (cpr (comprR c b), [])) := by
 have hv := r9valid_c (G := G) c
 rw [hc] at hv
 rw [show comprR c b = ((Co.z, []), 2) by unfold comprR; rw [if_pos hc, if_pos hb]]
 have hb2 : b.length = 0 ∨ 1500 < b.length := by
   rcases hb with rfl | hb
   · exact .inl rfl
   · exact .inr hb
 clear hb
 refine goW [] Tryz.func21 rfl ?_
 conv => whnf
 repeat' ((first
   | exact Nm.b 0
   | (show LC _ _ _ _ _ _; first | refine LC.pure (hv) ?_ | refine goE ?_)
   | refine T.s ?_
   | ((first | refine goB (fun h => ?_) (fun h => ?_) | refine AB.dec (fun h => ?_) (fun h => ?_) | refine AB.gen (fun h => ?_) (fun h => ?_)) <;> try (exfalso; omega))
   | refine LFresh.mk fun r => ?_
   | (show SQ _ _ _ (.loop _) _ _ _; first | (refine goL tQ [] 39 (S := Nat) [2, 4, 7, 8, 9, 11, 13, 16, 18] (fun f => ⟨[(19, .int .i64 f)], [], False, 4 - f⟩) (0) ?_; rintro f hok; (try dsimp only at hok); (repeat (have hk := And.left hok; replace hok := And.right hok))))
   | (show SQ _ _ _ _ _ _ _; first | (refine goD tQ mixed 8 [0, 2] [0, 1, 2, 3, 4, 5] [] (by kernel_rfl) ?_) | (refine goD tQ mixed 11 [0, 2] [0, 1, 2, 3, 4, 5] [] (by kernel_rfl) ?_) | (refine goD tQ mixed 19 [2, 1] [0, 2, 1, 3, 4, 5] [] (by kernel_rfl) ?_) | (refine goD tQ mixed 21 [0, 2] [0, 1, 2, 3, 4, 5] [] (by kernel_rfl) ?_) | (refine goD tQ mixed 24 [1, 3] [0, 1, 2, 3, 4, 5, 6] [] (by kernel_rfl) ?_) | (refine goD tQ mixed 25 [15, 13] [0, 1, 2, 3, 4, 5, 6, 7, 8, 9, 10, 11, 12, 14, 15, 13, 16, 17, 18, 19] [] (by kernel_rfl) ?_))
   | (show AtL _ _ _ _ _ _ _ _ _ _; first | (show AtL 39 _ _ _ _ _ _ _ _ _; exact goN 39 (S := Nat) (f + 1)) | (apply AtL.mk' (id := 39) (S := Nat) (f + 1); all_goals (try exact KC12)))
   | (refine dec_yes ?_ ?_; (focus (first | exact .inl rfl | (exact T.num))))
   | (refine dec_no ?_ ?_; (focus (exact T.num)))
   | refine dec_both (fun h => ?_) (fun h => ?_)
   | exact T.z
   | fail) <;> conv => whnf)
 all_goals (try dsimp only)
 all_goals first
   | exact RL.co3
   | trace_state
theorem co_len {c : Co} (h : c.ok = true) : c.cx.length = 16 := by
 unfold Co.ok at h
 simp only [Bool.and_eq_true, decide_eq_true_eq] at h
 exact h.2.1
theorem co_oks {c : Co} (h : c.ok = true) : c.oks 16 = true := by
 unfold Co.ok at h
 simp only [Bool.and_eq_true] at h
 exact h.2.2
theorem co_sn {c : Co} (h : c.ok = true) (i : Nat) (hi : i < c.cx.length) : (c.at i).ok c.m c.w = true := by
 have h1 := rng_get (co_oks h) (by rw [co_len h] at hi; exact hi)
 simp only [Bool.and_eq_true] at h1
 exact h1.1
theorem sn_rf {m w : Int} {s : Sn} (h : s.ok m w = true) (hw : w ≤ 8) : s.rf.length ≤ 32 := by
 cases ha : s.act with
 | true =>
   have h1 := ((Sn.ok_e ha).1 h).1
   unfold rngP mostR at h1
   obtain ⟨-, h1, -⟩ := h1
   split at h1 <;> omega
 | false =>
   unfold Sn.ok at h
   rw [if_neg (by rw [ha]; decide)] at h
   simp only [emptyR, decide_eq_true_eq] at h
   rw [h.2.2.2.2.2.2]
   decide
theorem co_w {c : Co} (h : c.ok = true) : 1 ≤ c.m ∧ c.m ≤ 3 ∧ 1 ≤ c.w ∧ c.w ≤ 8 := by
 unfold Co.ok at h
 simp only [Bool.and_eq_true] at h
 have h1 := h.1
 simp only [shapR, decide_eq_true_eq] at h1
 exact h1
theorem co_rf {c : Co} (h : c.ok = true) (i : Nat) (hi : i < c.cx.length) : (c.at i).rf.length ≤ 1000 := by
 have := sn_rf (co_sn h i hi) (co_w h).2.2.2
 omega
theorem r9copy_o (c : Co) (hc : c.ok = true) (i0 : Nat) (hi : i0 < 16) : LSpecN Tryz.prog G 44 [c.av] [] 2 (fun q => (.agg [iAV c.m, iAV c.w, .vw (n0 q) 0 c.cx.length 9], [(n0 q, ⟨59, cpR c i0 (n1 q) c.cx.length⟩), (n1 q, ⟨65, (c.at i0).rf.flatMap Hd.cs⟩)])) :=
 r9copy_c c i0 (by rw [co_len hc]; exact hi) (by rw [co_len hc]; decide) (co_rf hc)
theorem r9find_o (c : Co) (hc : c.ok = true) (hd : Hd) : LP Tryz.prog G 47 [c.av, hd.av] [] (fun _ => (fndV (findR c.cx hd), [])) :=
 r9find_c c hd (by rw [co_len hc]; decide) fun i hi ha => ok_rf (co_sn hc i hi) ha
theorem LC.findL {c : Co} {hd : Hd} (i0 : Nat) {R : Nm} {l : LS} {K : AV → LS → Prop} (hs : LP Tryz.prog G 47 [c.av, hd.av] [] (fun _ => (fndV (findR c.cx hd), []))) (h : LH l R fun cc _ r => ∃ p, cc.cs = cpR c i0 p c.cx.length ∧ LH r p fun cc' _ _ => cc'.cs = (c.at i0).rf.flatMap Hd.cs) (k : K (fndV (findR c.cx hd)) l) :
   LC Tryz.prog G 47 [.agg [.int .i64 c.m, .int .i64 c.w, .vw R 0 c.cx.length 9], hd.av] l K := by
 obtain ⟨p, h1, -⟩ := cop_row h
 exact LC.lend hs [R, p] ⟨LF.agg (xs := [.int .i64 c.m, .int .i64 c.w, .vw R 0 c.cx.length 9]) (ys := [iAV c.m, iAV c.w, snv c.cx]) ⟨.eq rfl, .eq rfl, h1, trivial⟩, .eq rfl, trivial⟩ (Flat.tup (Flat.cons (Flat.int _ _) (Flat.cons (Flat.bool _) Flat.nil))) k
open Go.RowKit
section
variable {m w : Int} {s : Sn} {h : Hd} {x : Sn} {bg : Bool}
theorem csA_k (ha : s.act = true) (h1 : chgR s.lst h = 0) (h2 : ¬ (s.lng = 3 ∧ learnR s.lst h ≠ s.dy)) : (s, false) = csA w s h := by
 unfold csA
 rw [if_neg (by rw [ha]; decide), if_neg (by rintro (h3 | h3); exact h3 h1; exact h2 h3)]
theorem csA_f (ha : s.act = true) (h1 : chgR s.lst h ≠ 0 ∨ s.lng = 3 ∧ learnR s.lst h ≠ s.dy) (h2 : 0 < s.full) : ({ s with lng := 0, full := w }, true) = csA w s h := by
 unfold csA
 rw [if_neg (by rw [ha]; decide), if_pos h1, if_pos h2]
theorem csA_r (ha : s.act = true) (h1 : chgR s.lst h ≠ 0 ∨ s.lng = 3 ∧ learnR s.lst h ≠ s.dy) (h2 : ¬ 0 < s.full) : ({ s with lng := 0, refr := w }, true) = csA w s h := by
 unfold csA
 rw [if_neg (by rw [ha]; decide), if_pos h1, if_neg h2]
theorem csB_y (h1 : m = 1) (h2 : x.sin = 32) (h3 : x.full = 0) : ({ x with full := w, refr := 0 }, true) = csB m w (x, bg) := by
 unfold csB
 rw [if_pos ⟨h1, h2, h3⟩]
theorem csB_n (h1 : ¬ (m = 1 ∧ x.sin = 32 ∧ x.full = 0)) : (x, bg) = csB m w (x, bg) := by
 unfold csB
 rw [if_neg h1]
theorem csD_y {last : Hd} {had : Bool} (h1 : bg = true ∨ x.ser = (x.rf.length : Int) ∧ (0 < x.full ∨ 0 < x.refr)) : begR x last had h = csD last had h (x, bg) := by
 unfold csD
 rw [if_pos h1]
theorem csD_n {last : Hd} {had : Bool} (h1 : ¬ (bg = true ∨ x.ser = (x.rf.length : Int) ∧ (0 < x.full ∨ 0 < x.refr))) : x = csD last had h (x, bg) := by
 unfold csD
 rw [if_neg h1]
theorem csE_5 {last : Hd} {had : Bool} (h1 : 0 < x.full) : (x, (5 : Int)) = csE w last had h x := by
 unfold csE
 rw [if_pos h1]
theorem csE_4 {last : Hd} {had : Bool} (h1 : ¬ 0 < x.full) (h2 : 0 < x.refr) : (x, (4 : Int)) = csE w last had h x := by
 unfold csE
 rw [if_neg h1, if_pos h2]
def leastF (x : Sn) (h : Hd) (f : Int) : Prop := 1 ≤ f ∧ f ≤ 4 ∧ (2 ≤ f → possR x h 1 = false) ∧ (3 ≤ f → possR x h 2 = false) ∧ (4 ≤ f → possR x h 3 = false)
theorem leastF_1 : leastF x h 1 := ⟨by decide, by decide, fun h => absurd h (by decide), fun h => absurd h (by decide), fun h => absurd h (by decide)⟩
theorem leastF_s {f : Int} (h1 : leastF x h f) (h2 : f ≤ 3) (h3 : possR x h f = false) : leastF x h (f + 1) := by
 obtain ⟨a1, a2, a3, a4, a5⟩ := h1
 have : f = 1 ∨ f = 2 ∨ f = 3 := by omega
 rcases this with rfl | rfl | rfl
 · exact ⟨by decide, by decide, fun _ => h3, fun h => absurd h (by decide), fun h => absurd h (by decide)⟩
 · exact ⟨by decide, by decide, fun _ => a3 (by decide), fun _ => h3, fun h => absurd h (by decide)⟩
 · exact ⟨by decide, by decide, fun _ => a3 (by decide), fun _ => a4 (by decide), fun _ => h3⟩
theorem csE_f {last : Hd} {had : Bool} {f : Int} (h1 : ¬ 0 < x.full) (h2 : ¬ 0 < x.refr) (h3 : leastF x h f) (h4 : f ≤ 3) (h5 : possR x h f = true) : (x, f) = csE w last had h x := by
 obtain ⟨a1, a2, a3, a4, a5⟩ := h3
 unfold csE
 rw [if_neg h1, if_neg h2]
 have : f = 1 ∨ f = 2 ∨ f = 3 := by omega
 rcases this with rfl | rfl | rfl
 · rw [if_pos h5]
 · rw [if_neg (by rw [a3 (by decide)]; decide), if_pos h5]
 · rw [if_neg (by rw [a3 (by decide)]; decide), if_neg (by rw [a4 (by decide)]; decide), if_pos h5]
theorem csE_r {last : Hd} {had : Bool} {f : Int} (h1 : ¬ 0 < x.full) (h2 : ¬ 0 < x.refr) (h3 : leastF x h f) (h4 : ¬ f ≤ 3) : (begR { x with refr := w, lng := 0 } last had h, (4 : Int)) = csE w last had h x := by
 obtain ⟨a1, a2, a3, a4, a5⟩ := h3
 unfold csE
 rw [if_neg h1, if_neg h2, if_neg (by rw [a3 (by omega)]; decide), if_neg (by rw [a4 (by omega)]; decide), if_neg (by rw [a5 (by omega)]; decide)]
def csF1 (m : Int) (h : Hd) (s : Sn) (f : Int) : Sn :=
 { s with
   full := if m ≠ 3 ∧ f = 5 then s.full - 1 else s.full
   refr := if m ≠ 3 ∧ f = 4 then s.refr - 1 else s.refr
   sin := if f = 5 then 0 else min (s.sin + 1) 32
   lng := if (f = 2 ∨ f = 3) ∧ h.k = 2 then min (s.lng + 1) 3 else 0 }
end
theorem findR_lt {l : List Sn} {h : Hd} {i : Nat} (e : findR l h = some i) : i < l.length := by
 have key : ∀ {p : Sn → Bool} {j : Nat}, l.findIdx? p = some j → j < l.length := fun {p j} hj => by
   rw [List.findIdx?_eq_some_iff_getElem] at hj
   exact hj.1
 unfold findR at e
 split at e
 · rename_i j hj
   cases e
   exact key hj
 · exact key e
def frs (c : Co) (a n : Nat) : List AV := ((List.range n).drop a).flatMap fun k => (c.at k).cs
theorem fm_congr {α β : Type} {f g : α → List β} : ∀ l : List α, (∀ k ∈ l, f k = g k) → l.flatMap f = l.flatMap g
 | [], _ => rfl
 | x :: l, h => by rw [List.flatMap_cons, List.flatMap_cons, h x (by simp), fm_congr l fun k hk => h k (by simp [hk])]
theorem cpR_split (c : Co) (i0 : Nat) (p : Nm) (n : Nat) (h : i0 < n) : cpR c i0 p n = (List.range i0).flatMap (fun k => (c.at k).cs) ++ ((c.at i0).cv (.vw p 0 (c.at i0).rf.length 15) ++ frs c (i0 + 1) n) := by
 have e : List.range n = List.range i0 ++ (i0 :: (List.range n).drop (i0 + 1)) := by
   have h1 : List.range n = (List.range n).take i0 ++ (List.range n).drop i0 := (List.take_append_drop _ _).symm
   rw [List.take_range, Nat.min_eq_left (by omega), List.drop_eq_getElem_cons (by simpa using h)] at h1
   simpa using h1
 unfold cpR frs
 rw [e, List.flatMap_append, List.flatMap_cons]
 have e1 : (List.range i0).flatMap (cpG c i0 p) = (List.range i0).flatMap fun k => (c.at k).cs := by
   refine fm_congr _ fun k hk => ?_
   unfold cpG
   rw [if_neg (by have := List.mem_range.1 hk; omega)]
 have e2 : ((List.range n).drop (i0 + 1)).flatMap (cpG c i0 p) = ((List.range n).drop (i0 + 1)).flatMap fun k => (c.at k).cs := by
   refine fm_congr _ fun k hk => ?_
   unfold cpG
   rw [if_neg]
   rintro rfl
   obtain ⟨j, hj, hk⟩ := List.mem_iff_getElem.1 hk
   simp at hk
   omega
 rw [e1, e2, ← e]
 congr 2
 unfold cpG
 rw [if_pos rfl]
theorem hdr_len (c : Co) (n : Nat) : ((List.range n).flatMap fun k => (c.at k).cs).length = n * 9 := by
 have := fm_len (f := fun k => (c.at k).cs) (n := 9) (fun _ => rfl) (List.range n)
 rwa [List.length_range] at this
theorem cpR_at (c : Co) (i0 : Nat) (p : Nm) (n : Nat) (h : i0 < n) : ((cpR c i0 p n).drop (i0 * 9)).take 9 = (c.at i0).cv (.vw p 0 (c.at i0).rf.length 15) := by
 rw [cpR_split c i0 p n h, List.drop_append, hdr_len, List.drop_of_length_le (by rw [hdr_len]; omega), List.nil_append, Nat.sub_self, List.drop_zero]
 rfl
theorem cpR_set (c : Co) (i0 : Nat) (p : Nm) (n : Nat) (h : i0 < n) (ys : List AV) (hy : ys.length = 9) : splice (cpR c i0 p n) (i0 * 9) ys = (List.range i0).flatMap (fun k => (c.at k).cs) ++ (ys ++ frs c (i0 + 1) n) := by
 rw [cpR_split c i0 p n h]
 unfold splice
 rw [List.take_append, List.take_of_length_le (by rw [hdr_len]; omega), hdr_len, Nat.sub_self, List.take_zero, List.append_nil, List.drop_append, List.drop_of_length_le (by rw [hdr_len]; omega), hdr_len, hy, show i0 * 9 + 9 - i0 * 9 = 9 by omega]
 simp
theorem AC.cpA {c : Co} {i0 : Nat} {p : Nm} {n o m : Nat} {K : AV → Prop} (ho : o = i0 * 9) (hm : m = 9) (h : i0 < n) (k : K (.agg ((c.at i0).cv (.vw p 0 (c.at i0).rf.length 15)))) : AC true (((cpR c i0 p n).drop o).take m) K := ⟨by
 subst ho hm
 rw [cpR_at c i0 p n h]
 exact k⟩
theorem AQ.cpS {c : Co} {i0 : Nat} {p : Nm} {n o : Nat} {ys : List AV} {K : List AV → Prop} (ho : o = i0 * 9) (h : i0 < n) (hy : ys.length = 9) (k : K ((List.range i0).flatMap (fun k => (c.at k).cs) ++ (ys ++ frs c (i0 + 1) n))) : AQ (splice (cpR c i0 p n) o ys) K := ⟨by
 subst ho
 rw [cpR_set c i0 p n h ys hy]
 exact k⟩
theorem set_fm (c : Co) (i0 : Nat) (h : i0 < c.cx.length) (s' : Sn) : (c.cx.set i0 s').flatMap Sn.cs = (List.range i0).flatMap (fun k => (c.at k).cs) ++ (s'.cs ++ frs c (i0 + 1) c.cx.length) := by
 have e : frs c (i0 + 1) c.cx.length = (c.cx.drop (i0 + 1)).flatMap Sn.cs := by
   have h1 := cx_range_all c
   have h2 := fm_drop (f := fun k => (c.at k).cs) (n := 9) (fun _ => rfl) (List.range c.cx.length) (i0 + 1)
   rw [h1, fm_drop Sn.cs_len] at h2
   exact h2.symm
 rw [e, cx_range c i0 (by omega), List.set_eq_take_append_cons_drop, if_pos h, List.flatMap_append, List.flatMap_cons]
open Go.RowKit
theorem sameR_iff {a b : Hd} : sameR a b = true ↔ (a.k = b.k ∧ a.fr = b.fr ∧ a.to = b.to ∧ a.fp = b.fp ∧ a.tp = b.tp ∧ a.sr = b.sr) := by unfold sameR; rw [decide_eq_true_iff]
theorem sameR_sym {a b : Hd} (h : sameR a b = true) : sameR b a = true := by
 rw [sameR_iff] at h ⊢
 exact ⟨h.1.symm, h.2.1.symm, h.2.2.1.symm, h.2.2.2.1.symm, h.2.2.2.2.1.symm, h.2.2.2.2.2.symm⟩
theorem sameR_trans {a b c : Hd} (h : sameR a b = true) (k : sameR b c = true) : sameR a c = true := by
 rw [sameR_iff] at h k ⊢
 exact ⟨h.1.trans k.1, h.2.1.trans k.2.1, h.2.2.1.trans k.2.2.1, h.2.2.2.1.trans k.2.2.2.1, h.2.2.2.2.1.trans k.2.2.2.2.1, h.2.2.2.2.2.trans k.2.2.2.2.2⟩
theorem sameR_rfl (a : Hd) : sameR a a = true := sameR_iff.2 ⟨rfl, rfl, rfl, rfl, rfl, rfl⟩
theorem mem_lst {s : Sn} (h : 0 < s.rf.length) : s.lst ∈ s.rf := by
 unfold Sn.lst
 rw [List.getD_eq_getElem?_getD, List.getElem?_eq_getElem (by omega)]
 exact List.getElem_mem _
theorem mem_fst {s : Sn} (h : 0 < s.rf.length) : s.fst ∈ s.rf := by
 unfold Sn.fst
 rw [List.getD_eq_getElem?_getD, List.getElem?_eq_getElem (by omega)]
 exact List.getElem_mem _
theorem dyz_ok : Dy.z.ok = true := by unfold Dy.ok Dy.z inR; decide
theorem learn_ok (a b : Hd) : (learnR a b).ok = true ∧ (a.k = 2 ∨ learnR a b = Dy.z) := by
 unfold learnR
 split
 · rename_i h
   refine ⟨?_, .inl h.2.2.1⟩
   unfold Dy.ok
   simp only [Bool.and_eq_true, decide_eq_true_eq]
   constructor
   · split
     · rename_i h2; exact inR_t ⟨h2.2.2.1, h2.2.2.2⟩
     · exact inR_t ⟨by decide, by decide⟩
   · split
     · exact .inr rfl
     · exact .inl rfl
 · exact ⟨dyz_ok, .inr rfl⟩
structure Mid (m w : Int) (h : Hd) (x : Sn) : Prop where
 act : x.act = true
 full : 0 ≤ x.full ∧ x.full ≤ w
 refr : 0 ≤ x.refr ∧ x.refr ≤ w
 both : ¬ (0 < x.full ∧ 0 < x.refr)
 ser : 0 ≤ x.ser ∧ x.ser ≤ x.rf.length
 sin : 0 ≤ x.sin ∧ x.sin ≤ 32
 lng : 0 ≤ x.lng ∧ x.lng ≤ 3
 dok : x.dy.ok = true
 dz : h.k = 2 ∨ x.dy = Dy.z
 refs : ∀ r ∈ x.rf, r.ok = true ∧ sameR r h = true
 len : (m ≠ 3 → (x.rf.length : Int) ≤ w) ∧ (m = 3 → x.rf.length ≤ 32)
section
variable {m w : Int} {s x : Sn} {h : Hd}
theorem sn_refs (hs : s.ok m w = true) (ha : s.act = true) (hh : sameR s.fst h = true) : ∀ r ∈ s.rf, r.ok = true ∧ sameR r h = true := fun r hr => by
 have h1 := ((Sn.ok_e ha).1 hs).2.2.1
 rw [List.all_eq_true] at h1
 have h2 := h1 r hr
 unfold refG at h2
 rw [Bool.and_eq_true] at h2
 exact ⟨h2.1, sameR_trans h2.2 hh⟩
theorem sn_off (hs : s.ok m w = true) (ha : s.act = false) : s.full = 0 ∧ s.refr = 0 ∧ s.ser = 0 ∧ s.sin = 0 ∧ s.lng = 0 ∧ s.dy = Dy.z ∧ s.rf = [] := by
 unfold Sn.ok at hs
 rw [if_neg (by rw [ha]; decide)] at hs
 unfold emptyR at hs
 exact of_decide_eq_true hs
theorem mid_of (hs : s.ok m w = true) (ha : s.act = true) (hh : sameR s.fst h = true) : Mid m w h s := by
 have h1 := (Sn.ok_e ha).1 hs
 have h2 := h1.1
 unfold rngP mostR at h2
 have he : endR s = true := h1.2.2.2
 unfold endR at he
 have he := of_decide_eq_true he
 rw [(sameR_iff.1 hh).1] at he
 exact ⟨ha, h2.2.2.2.1, h2.2.2.2.2.1, h2.2.2.2.2.2.1, h2.2.2.1, h2.2.2.2.2.2.2.1, h2.2.2.2.2.2.2.2, h1.2.1, he, sn_refs hs ha hh, fun hm => by have := h2.2.1; rw [if_neg hm] at this; exact this, fun hm => by have := h2.2.1; rw [if_pos hm] at this; omega⟩
def Beg (y : Sn × Bool) : Prop := y.2 = true → 0 < y.1.full ∨ 0 < y.1.refr
theorem csA_mid (hw : 1 ≤ w) (hs : s.ok m w = true) (hh : s.act = true → sameR s.fst h = true) : Mid m w h (csA w s h).1 ∧ Beg (csA w s h) ∧ (csA w s h).1.rf = s.rf := by
 unfold csA
 cases ha : s.act with
 | false =>
   rw [if_pos rfl]
   obtain ⟨a1, a2, a3, a4, a5, a6, a7⟩ := sn_off hs ha
   refine ⟨⟨rfl, ⟨by dsimp only; omega, by dsimp only; omega⟩, ⟨by dsimp only; omega, by dsimp only; omega⟩, by dsimp only; omega, ⟨by dsimp only; omega, by dsimp only; omega⟩, ⟨by dsimp only; omega, by dsimp only; omega⟩, ⟨by dsimp only; omega, by dsimp only; omega⟩, by rw [a6]; exact dyz_ok, .inr a6, fun r hr => ?_, ?_⟩, fun _ => .inl (by dsimp only; omega), rfl⟩
   · dsimp only at hr; rw [a7] at hr; cases hr
   · dsimp only; rw [a7]; exact ⟨fun _ => by show (0 : Int) ≤ w; omega, fun _ => by decide⟩
 | true =>
   rw [if_neg (by decide)]
   have h0 := mid_of hs ha (hh ha)
   split
   · split
     · exact ⟨{ h0 with full := ⟨by dsimp only; omega, by dsimp only; omega⟩, both := by have := h0.both; dsimp only; omega, lng := ⟨by dsimp only; omega, by dsimp only; omega⟩, act := rfl }, fun _ => .inl (by dsimp only; omega), rfl⟩
     · exact ⟨{ h0 with refr := ⟨by dsimp only; omega, by dsimp only; omega⟩, both := by have := h0.both; dsimp only; omega, lng := ⟨by dsimp only; omega, by dsimp only; omega⟩, act := rfl }, fun _ => .inr (by dsimp only; omega), rfl⟩
   · exact ⟨h0, fun k => Bool.noConfusion k, rfl⟩
theorem csB_mid (hw : 1 ≤ w) {y : Sn × Bool} (h0 : Mid m w h y.1) (hb : Beg y) : Mid m w h (csB m w y).1 ∧ Beg (csB m w y) ∧ (csB m w y).1.rf = y.1.rf := by
 unfold csB
 split
 · exact ⟨{ h0 with full := ⟨by dsimp only; omega, by dsimp only; omega⟩, refr := ⟨by dsimp only; omega, by dsimp only; omega⟩, both := by dsimp only; omega }, fun _ => .inl (by dsimp only; omega), rfl⟩
 · exact ⟨h0, hb, rfl⟩
theorem csD_mid (hw : 1 ≤ w) {y : Sn × Bool} {n : Nat} {last : Hd} {had : Bool} (hn : n = y.1.rf.length) (h0 : Mid m w h y.1) (hb : Beg y) (hl : had = true → last.k = h.k) :
   Mid m w h (csD last had h (csC m w n y)) ∧ (m = 3 → (csD last had h (csC m w n y)).rf.length < 32) ∧ ((csD last had h (csC m w n y)).rf = y.1.rf ∨ (csD last had h (csC m w n y)).rf = []) := by
 have key : ∀ z : Sn, Mid m w h { z with ser := 0 } → Mid m w h (begR z last had h) := fun z hz => by
   unfold begR
   refine { hz with ser := ⟨by dsimp only; omega, by dsimp only; omega⟩, dok := ?_, dz := ?_ }
   · dsimp only
     split
     · exact (learn_ok last h).1
     · exact dyz_ok
   · dsimp only
     split
     · rename_i hd
       have := (learn_ok last h).2
       rw [hl hd] at this
       exact this
     · exact .inr rfl
 unfold csC
 split
 · rename_i hc
   have e : csD last had h ({ y.1 with full := w, refr := 0, rf := [] }, true) = begR { y.1 with full := w, refr := 0, rf := [] } last had h := (csD_y (.inl rfl)).symm
   rw [e]
   refine ⟨key _ { h0 with full := ⟨by dsimp only; omega, by dsimp only; omega⟩, refr := ⟨by dsimp only; omega, by dsimp only; omega⟩, both := by dsimp only; omega, ser := ⟨by dsimp only; omega, by show (0 : Int) ≤ _; omega⟩, refs := fun r hr => (by cases hr), len := ⟨fun _ => by show (0 : Int) ≤ w; omega, fun _ => by show 0 ≤ 32; decide⟩ }, fun _ => by show 0 < 32; decide, .inr rfl⟩
 · rename_i hc
   have hlt : m = 3 → y.1.rf.length < 32 := fun hm => by have := h0.len.2 hm; rw [hn] at hc; omega
   unfold csD
   split
   · exact ⟨key _ { h0 with ser := ⟨by dsimp only; omega, by dsimp only; omega⟩ }, hlt, .inl rfl⟩
   · exact ⟨h0, hlt, .inl rfl⟩
theorem csE_mid (hw : 1 ≤ w) {u last : Hd} {had : Bool} (h0 : Mid m w h x) (hl : had = true → last.k = h.k) :
   Mid m w h (csE w last had h x).1 ∧ (1 ≤ (csE w last had h x).2 ∧ (csE w last had h x).2 ≤ 5) ∧ ((csE w last had h x).2 = 5 ↔ 0 < (csE w last had h x).1.full) ∧ ((csE w last had h x).2 = 4 ↔ 0 < (csE w last had h x).1.refr) ∧ (csE w last had h x).1.rf = x.rf := by
 have hb := h0.both
 have h1 := h0.full
 have h2 := h0.refr
 unfold csE
 split
 · exact ⟨h0, by dsimp only; omega, ⟨fun _ => by assumption, fun _ => rfl⟩, ⟨fun k => by dsimp only at k; omega, fun k => by dsimp only at k; omega⟩, rfl⟩
 · split
   · exact ⟨h0, by dsimp only; omega, ⟨fun k => by dsimp only at k; omega, fun k => by dsimp only at k; omega⟩, ⟨fun _ => by assumption, fun _ => rfl⟩, rfl⟩
   · split
     · exact ⟨h0, by dsimp only; omega, ⟨fun k => by dsimp only at k; omega, fun k => by dsimp only at k; omega⟩, ⟨fun k => by dsimp only at k; omega, fun k => by dsimp only at k; omega⟩, rfl⟩
     · split
       · exact ⟨h0, by dsimp only; omega, ⟨fun k => by dsimp only at k; omega, fun k => by dsimp only at k; omega⟩, ⟨fun k => by dsimp only at k; omega, fun k => by dsimp only at k; omega⟩, rfl⟩
       · split
         · exact ⟨h0, by dsimp only; omega, ⟨fun k => by dsimp only at k; omega, fun k => by dsimp only at k; omega⟩, ⟨fun k => by dsimp only at k; omega, fun k => by dsimp only at k; omega⟩, rfl⟩
         · unfold begR
           refine ⟨{ h0 with ser := ⟨by dsimp only; omega, by dsimp only; omega⟩, dok := ?_, dz := ?_, refr := ⟨by dsimp only; omega, by dsimp only; omega⟩, lng := ⟨by dsimp only; omega, by dsimp only; omega⟩, both := by dsimp only; omega }, by dsimp only; omega, ⟨fun k => by dsimp only at k; omega, fun k => by dsimp only at k; omega⟩, ⟨fun _ => by dsimp only; omega, fun _ => rfl⟩, rfl⟩
           · dsimp only
             split
             · exact (learn_ok last h).1
             · exact dyz_ok
           · dsimp only
             split
             · rename_i hd
               have := (learn_ok last h).2
               rw [hl hd] at this
               exact this
             · exact .inr rfl
theorem lst_k (hs : s.ok m w = true) (hh : s.act = true → sameR s.fst h = true) (ha : s.act = true) : s.lst.k = h.k := (sameR_iff.1 (sn_refs hs ha (hh ha) _ (mem_lst (ok_rf hs ha))).2).1
theorem ctx_mid (hw : 1 ≤ w) (hs : s.ok m w = true) (hh : s.act = true → sameR s.fst h = true) :
   Mid m w h (ctxR m w s h).1 ∧ (1 ≤ (ctxR m w s h).2 ∧ (ctxR m w s h).2 ≤ 5) ∧ ((ctxR m w s h).2 = 5 ↔ 0 < (ctxR m w s h).1.full) ∧ ((ctxR m w s h).2 = 4 ↔ 0 < (ctxR m w s h).1.refr) ∧ (m = 3 → (ctxR m w s h).1.rf.length < 32) := by
 have hl := lst_k hs hh
 have h1 := csA_mid (m := m) hw hs hh
 have h2 := csB_mid hw h1.1 h1.2.1
 have h3 := csD_mid (n := s.rf.length) (last := s.lst) (had := s.act) hw (by rw [h2.2.2, h1.2.2]) h2.1 h2.2.1 hl
 have h4 := csE_mid (last := s.lst) (had := s.act) (u := h) hw h3.1 hl
 unfold ctxR
 exact ⟨h4.1, h4.2.1, h4.2.2.1, h4.2.2.2.1, fun hm => by rw [h4.2.2.2.2]; exact h3.2.1 hm⟩
theorem all_of {l : List Hd} {p : Hd → Bool} (k : ∀ r ∈ l, p r = true) : l.all p = true := List.all_eq_true.2 k
theorem sn_ok_of (ha : x.act = true) (hr : rngP m w x) (hd : x.dy.ok = true) (hk : x.fst.k = 2 ∨ x.dy = Dy.z) (hrf : ∀ r ∈ x.rf, r.ok = true ∧ sameR r x.fst = true) : x.ok m w = true := by
 refine (Sn.ok_e ha).2 ⟨hr, hd, all_of fun r hr => ?_, ?_⟩
 · unfold refG
   rw [(hrf r hr).1, (hrf r hr).2]; rfl
 · unfold endR
   exact decide_eq_true hk
def cutN (m w : Int) (x : Sn) : Nat := if m ≠ 3 ∧ w < (x.rf.length : Int) + 1 then ((x.rf.length : Int) + 1 - w).toNat else 0
theorem csF_rf (f : Int) : (csF m w h x f).rf = (x.rf ++ [h]).drop (cutN m w x) := by
 unfold csF cutN
 dsimp only
 split
 · rfl
 · rw [List.drop_zero]
theorem cutN_le (hw : 1 ≤ w) : cutN m w x ≤ x.rf.length := by unfold cutN; split <;> omega
theorem csF_len (hw : 1 ≤ w) (f : Int) : (csF m w h x f).rf.length = x.rf.length + 1 - cutN m w x := by rw [csF_rf]; simp
theorem csF_lst (hw : 1 ≤ w) (f : Int) : (csF m w h x f).lst = h := by
 have h1 := cutN_le (m := m) (x := x) hw
 unfold Sn.lst
 rw [csF_len hw, csF_rf, List.getD_eq_getElem?_getD, List.getElem?_drop, show cutN m w x + (x.rf.length + 1 - cutN m w x - 1) = x.rf.length by omega]
 simp
theorem csF_ok (hw : 1 ≤ w) (hw8 : w ≤ 8) (h0 : Mid m w h x) (ho : h.ok = true) {f : Int} (h5 : f = 5 → 0 < x.full) (h4 : f = 4 → 0 < x.refr) (h3 : m = 3 → x.rf.length < 32) : (csF m w h x f).ok m w = true ∧ (csF m w h x f).act = true ∧ sameR (csF m w h x f).fst h = true := by
 have hl := csF_len (m := m) (h := h) (x := x) hw f
 have hc := cutN_le (m := m) (x := x) hw
 have hpos : 0 < (csF m w h x f).rf.length := by omega
 have hmem : ∀ r ∈ (csF m w h x f).rf, r.ok = true ∧ sameR r h = true := fun r hr => by
   rw [csF_rf] at hr
   have := List.mem_of_mem_drop hr
   rw [List.mem_append, List.mem_singleton] at this
   rcases this with k | rfl
   · exact h0.refs r k
   · exact ⟨ho, sameR_rfl _⟩
 have hf := hmem _ (mem_fst hpos)
 have a1 := h0.full
 have a2 := h0.refr
 have a3 := h0.both
 have a4 := h0.ser
 have a5 := h0.sin
 have a6 := h0.lng
 have a7 := h0.len
 refine ⟨sn_ok_of h0.act ?_ h0.dok ?_ fun r hr => ⟨(hmem r hr).1, sameR_trans (hmem r hr).2 (sameR_sym hf.2)⟩, h0.act, hf.2⟩
 · have e : (csF m w h x f).ser = if m ≠ 3 ∧ w < (x.rf.length : Int) + 1 then max 0 (x.ser - ((x.rf.length : Int) + 1 - w)) else x.ser := rfl
   refine ⟨hpos, ?_, ?_, ?_, ?_, ?_, ?_, ?_⟩
   · rw [hl]
     unfold mostR cutN
     by_cases hm : m = 3
     · have := h3 hm; rw [if_pos hm, if_neg (by omega)]; omega
     · have := a7.1 hm; rw [if_neg hm]; split <;> omega
   · rw [hl, e]
     unfold cutN
     split <;> omega
   · show 0 ≤ (if m ≠ 3 ∧ f = 5 then x.full - 1 else x.full) ∧ (if m ≠ 3 ∧ f = 5 then x.full - 1 else x.full) ≤ w
     split <;> omega
   · show 0 ≤ (if m ≠ 3 ∧ f = 4 then x.refr - 1 else x.refr) ∧ (if m ≠ 3 ∧ f = 4 then x.refr - 1 else x.refr) ≤ w
     split <;> omega
   · show ¬ (0 < (if m ≠ 3 ∧ f = 5 then x.full - 1 else x.full) ∧ 0 < (if m ≠ 3 ∧ f = 4 then x.refr - 1 else x.refr))
     split <;> split <;> omega
   · show 0 ≤ (if f = 5 then 0 else min (x.sin + 1) 32) ∧ (if f = 5 then 0 else min (x.sin + 1) 32) ≤ 32
     split <;> omega
   · show 0 ≤ (if (f = 2 ∨ f = 3) ∧ h.k = 2 then min (x.lng + 1) 3 else 0) ∧ (if (f = 2 ∨ f = 3) ∧ h.k = 2 then min (x.lng + 1) 3 else 0) ≤ 3
     split <;> omega
 · rw [(sameR_iff.1 hf.2).1]
   exact h0.dz
end
theorem co_iff {c : Co} : c.ok = true ↔ (1 ≤ c.m ∧ c.m ≤ 3 ∧ 1 ≤ c.w ∧ c.w ≤ 8) ∧ c.cx.length = 16 ∧ (∀ i, i < 16 → (c.at i).ok c.m c.w = true) ∧ ∀ i k, k < i → i < 16 → alikeR (c.at i) (c.at k) = false := by
 constructor
 · intro h
   refine ⟨co_w h, co_len h, fun i hi => co_sn h i (by rw [co_len h]; exact hi), fun i k hk hi => ?_⟩
   have h1 := rng_get (co_oks h) hi
   rw [Bool.and_eq_true] at h1
   have h2 := rng_get h1.2 hk
   simpa using h2
 · rintro ⟨h1, h2, h3, h4⟩
   refine okc ?_ h2 ?_
   · unfold shapR; exact decide_eq_true h1
   · rw [oks_e, List.all_eq_true]
     intro i hi
     have hi := List.mem_range.1 hi
     unfold oksG
     rw [h3 i hi, Bool.true_and, List.all_eq_true]
     intro k hk
     rw [h4 i k (List.mem_range.1 hk) hi]; rfl
theorem alike_e {s t : Sn} : alikeR s t = true ↔ s.act = true ∧ t.act = true ∧ sameR s.fst t.fst = true := by unfold alikeR; simp
theorem alike_f {s t : Sn} (h : s.act = true → t.act = true → sameR s.fst t.fst = true → False) : alikeR s t = false := by
 cases hc : alikeR s t with
 | false => rfl
 | true => rw [alike_e] at hc; exact (h hc.1 hc.2.1 hc.2.2).elim
theorem co_set {c : Co} {i : Nat} {s : Sn} {h : Hd} (hc : c.ok = true) (hi : i < 16) (hs : s.ok c.m c.w = true) (hf : s.act = true → sameR s.fst h = true) (ho : ∀ k, k < 16 → k ≠ i → (c.at k).act = true → sameR (c.at k).fst h = false) : (c.set i s).ok = true := by
 obtain ⟨h1, h2, h3, h4⟩ := co_iff.1 hc
 have hat : ∀ k, k < 16 → (c.set i s).at k = if k = i then s else c.at k := fun k hk => by
   unfold Co.set Co.at
   rw [List.getD_eq_getElem?_getD, List.getElem?_set]
   split
   · rename_i e; subst e; rw [if_pos (by omega), if_pos rfl]; rfl
   · rename_i e; rw [if_neg (fun k => e k.symm), List.getD_eq_getElem?_getD]
 refine co_iff.2 ⟨h1, by show (c.cx.set i s).length = 16; rw [List.length_set]; exact h2, fun k hk => ?_, fun a b hb ha => ?_⟩
 · rw [hat k hk]
   split
   · exact hs
   · exact h3 k hk
 · rw [hat a ha, hat b (by omega)]
   split
   · rename_i e
     rw [if_neg (by omega)]
     refine alike_f fun x1 x2 x3 => ?_
     have := ho b (by omega) (by omega) x2
     rw [sameR_trans (sameR_sym x3) (hf x1)] at this
     cases this
   · rename_i e
     split
     · refine alike_f fun x1 x2 x3 => ?_
       have := ho a ha e x1
       rw [sameR_trans x3 (hf x2)] at this
       cases this
     · exact h4 a b hb ha
theorem find_of {c : Co} {h : Hd} {i : Nat} (hc : c.ok = true) (hf : findR c.cx h = some i) : i < 16 ∧ (c.at i).ok c.m c.w = true ∧ ((c.at i).act = true → sameR (c.at i).fst h = true) ∧ ∀ k, k < 16 → k ≠ i → (c.at k).act = true → sameR (c.at k).fst h = false := by
 have hl := co_len hc
 have hi := findR_lt hf
 obtain ⟨h1, h2, h3, h4⟩ := co_iff.1 hc
 have ga : ∀ k, (hk : k < c.cx.length) → c.at k = c.cx[k] := fun k hk => by unfold Co.at; simp [List.getD_eq_getElem?_getD, hk]
 refine ⟨by omega, h3 i (by omega), ?_⟩
 unfold findR at hf
 split at hf
 · rename_i j hj
   cases hf
   unfold ownI at hj
   rw [List.findIdx?_eq_some_iff_getElem] at hj
   obtain ⟨hx, h5, -⟩ := hj
   rw [← ga i hi, Bool.and_eq_true] at h5
   refine ⟨fun _ => h5.2, fun k hk hne hka => ?_⟩
   cases hs : sameR (c.at k).fst h with
   | false => rfl
   | true =>
     have h6 := sameR_trans hs (sameR_sym h5.2)
     rcases Nat.lt_or_gt_of_ne hne with hlt | hgt
     · have := h4 i k hlt (by omega)
       rw [alike_e.2 ⟨h5.1, hka, sameR_sym h6⟩] at this; cases this
     · have := h4 k i hgt hk
       rw [alike_e.2 ⟨hka, h5.1, h6⟩] at this; cases this
 · rename_i hj
   unfold ownI at hj
   rw [List.findIdx?_eq_none_iff] at hj
   have h7 : ∀ k, k < 16 → (c.at k).act = true → sameR (c.at k).fst h = false := fun k hk hka => by
     have := hj (c.cx[k]) (List.getElem_mem _)
     rw [← ga k (by omega), hka] at this
     simpa using this
   unfold freeI at hf
   rw [List.findIdx?_eq_some_iff_getElem] at hf
   obtain ⟨hx, h5, -⟩ := hf
   rw [← ga i hi] at h5
   refine ⟨fun ha => (by rw [ha] at h5; cases h5), fun k hk _ hka => h7 k hk hka⟩
theorem comp_ok {c : Co} {h : Hd} {pl : List UInt8} {i : Nat} (hc : c.ok = true) (ho : h.ok = true) (hf : findR c.cx h = some i) : (compC c i h pl).1.ok = true := by
 obtain ⟨hi, hs, hh, hoth⟩ := find_of hc hf
 obtain ⟨h1, h2, h3, h4⟩ := co_w hc
 have hm := ctx_mid h3 hs hh
 have h5 := csF_ok h3 h4 hm.1 ho (f := (ctxR c.m c.w (c.at i) h).2) hm.2.2.1.1 hm.2.2.2.1.1 hm.2.2.2.2
 exact co_set hc hi h5.1 (fun _ => h5.2.2) hoth
theorem pars_ok {b pl : List UInt8} {h : Hd} (hp : parsR b = ((h, pl), 0)) : h.ok = true ∧ bldR h pl = (b, 0) ∧ b.length ≤ 1500 ∧ b ≠ [] ∧ pl.length ≤ 1500 := by
 unfold parsR at hp
 split at hp
 · exact absurd (congrArg Prod.snd hp) (show ¬ (2 : Int) = 0 by decide)
 · rename_i hl
   split at hp
   · rename_i he
     have e1 : prsH b = h := congrArg (fun x => x.1.1) hp
     have e2 : b.drop (prsN b) = pl := congrArg (fun x => x.1.2) hp
     rw [e1, e2] at he
     refine ⟨?_, he, by omega, fun e => hl (.inl (by rw [e]; decide)), by rw [← e2, List.length_drop]; omega⟩
     cases ho : h.ok with
     | true => rfl
     | false => rw [bldR_n ho] at he; exact absurd (congrArg Prod.snd he) (show ¬ (1 : Int) = 0 by decide)
   · exact absurd (congrArg Prod.snd hp) (show ¬ (4 : Int) = 0 by decide)
theorem compr_ok {c : Co} {b : List UInt8} (hc : c.ok = true) (hb : ¬ (b = [] ∨ 1500 < b.length)) : (comprR c b).1.1.ok = true ∧ (comprR c b).2 = 0 ∧ (comprR c b).1.1.m = c.m ∧ (comprR c b).1.1.w = c.w := by
 unfold comprR
 rw [if_pos hc, if_neg hb]
 split
 · rename_i hp
   have ho := (pars_ok (b := b) (h := (parsR b).1.1) (pl := (parsR b).1.2) (by rw [← hp])).1
   split
   · rename_i i hf
     split
     · exact ⟨hc, rfl, rfl, rfl⟩
     · exact ⟨comp_ok hc ho hf, rfl, rfl, rfl⟩
   · exact ⟨hc, rfl, rfl, rfl⟩
 · exact ⟨hc, rfl, rfl, rfl⟩
open Go.RowKit
variable {G : Nat → AV}
theorem LC.possL {x : Sn} {hd : Hd} {f : Int} {rf : List Hd} {p : Nm} {l : LS} {K : AV → LS → Prop} (hf : f = 1 ∨ f = 2 ∨ f = 3) (hr : x.rf = rf) (hl : rf.length ≤ 100000) (hp : LH l p fun c _ _ => c.cs = rf.flatMap Hd.cs) (k : K (.bool (possR x hd f)) l) :
   LC Tryz.prog G 53 [.agg (x.cv (.vw p 0 rf.length 15)), hd.av, .int .i64 f] l K := by
 subst hr
 exact LC.lend (r9poss_c x hd f hf hl) [p] ⟨LF.agg (xs := x.cv (.vw p 0 x.rf.length 15)) (ys := x.cs) ⟨.eq rfl, .eq rfl, .eq rfl, .eq rfl, .eq rfl, .eq rfl, .eq rfl, .eq rfl, LF.row InL.here (LH.mono hp fun c _ _ e => ⟨by decide, by rw [e]; exact fm_len Hd.cs_len _, rfl, e.symm⟩), trivial⟩, .eq rfl, .eq rfl, trivial⟩ (Flat.bool _) k
theorem idx_last {n : Nat} (h : 0 < n ∧ n ≤ 32) : 0 + (iarith .sub .i64 (n : Int) 1).toNat * 15 = (n - 1) * 15 := by
 have : iarith .sub .i64 (n : Int) 1 = ((n - 1 : Nat) : Int) := by (exact T.num)
 rw [this]; omega
theorem rec_last {l : List Hd} (h : 0 < l.length ∧ l.length ≤ 32) : 0 + (iarith .sub .i64 (l.length : Int) 1).toNat * 15 + 15 ≤ (l.flatMap Hd.cs).length := by
 rw [idx_last h, fm_len Hd.cs_len]
 omega
theorem AC.lstc {s : Sn} {o m : Nat} {K : AV → Prop} (ho : o = (s.rf.length - 1) * 15) (hm : m = 15) (h : 0 < s.rf.length) (k : K (.agg s.lst.cs)) : AC true (((s.rf.flatMap Hd.cs).drop o).take m) K := AC.recd Hd.cs_len (s.rf.length - 1) Hd.z ho hm (by omega) k
theorem n0_e (x y : Nm) : n0 [x, y] = x := rfl
theorem n1_e (x y : Nm) : n1 [x, y] = y := rfl
theorem csA_k1 {w : Int} {s : Sn} {h : Hd} (ha : s.act = true) (h1 : chgR s.lst h = 0) (h2 : ¬ s.lng = 3) : (s, false) = csA w s h := csA_k ha h1 fun hh => h2 hh.1
theorem alq {a d : Dy} : alleq [(a.st, d.st), (a.fo, d.fo)] = decide (a = d) := Dy.eqs a d
theorem csA_k2 {w : Int} {s : Sn} {h : Hd} (ha : s.act = true) (h1 : chgR s.lst h = 0) (_ : s.lng = 3) (h3 : alleq [((learnR s.lst h).st, s.dy.st), ((learnR s.lst h).fo, s.dy.fo)] = true) : (s, false) = csA w s h :=
 csA_k ha h1 fun hh => hh.2 (by rw [alq] at h3; exact of_decide_eq_true h3)
theorem csA_f2 {w : Int} {s : Sn} {h : Hd} (ha : s.act = true) (h2 : s.lng = 3) (h3 : alleq [((learnR s.lst h).st, s.dy.st), ((learnR s.lst h).fo, s.dy.fo)] = false) (h4 : 0 < s.full) : ({ s with lng := 0, full := w }, true) = csA w s h :=
 csA_f ha (.inr ⟨h2, by rw [alq] at h3; exact of_decide_eq_false h3⟩) h4
theorem csA_r2 {w : Int} {s : Sn} {h : Hd} (ha : s.act = true) (h2 : s.lng = 3) (h3 : alleq [((learnR s.lst h).st, s.dy.st), ((learnR s.lst h).fo, s.dy.fo)] = false) (h4 : ¬ 0 < s.full) : ({ s with lng := 0, refr := w }, true) = csA w s h :=
 csA_r ha (.inr ⟨h2, by rw [alq] at h3; exact of_decide_eq_false h3⟩) h4
section
variable {m w : Int} {x y u v s : Sn} {bg bh had : Bool} {X Y : Sn × Bool} {U : Sn} {last h : Hd} {rf : List Hd} {f : Int}
theorem csB_q1 (e : (x, bg) = X) (h1 : ¬ (m = 1 ∧ x.sin = 32 ∧ x.full = 0)) : (x, bg) = csB m w X := e ▸ csB_n h1
theorem csB_q2 (e : (x, bg) = X) (h1 : m = 1) (h2 : x.sin = 32) (h3 : x.full = 0) : ({ x with full := w, refr := 0 }, true) = csB m w X := e ▸ csB_y h1 h2 h3
theorem csD_q1 (e : (y, bh) = Y) (er : y.rf = rf) (h1 : bh = true) : ({ y with ser := rf.length, dy := begD last had h } : Sn) = csD last had h Y := by subst er; exact e ▸ csD_y (.inl h1)
theorem csD_q2 (e : (y, bh) = Y) (er : y.rf = rf) (h1 : y.ser = (rf.length : Int)) (h2 : 0 < y.full) : ({ y with ser := rf.length, dy := begD last had h } : Sn) = csD last had h Y := by subst er; exact e ▸ csD_y (.inr ⟨h1, .inl h2⟩)
theorem csD_q3 (e : (y, bh) = Y) (er : y.rf = rf) (h1 : y.ser = (rf.length : Int)) (h2 : 0 < y.refr) : ({ y with ser := rf.length, dy := begD last had h } : Sn) = csD last had h Y := by subst er; exact e ▸ csD_y (.inr ⟨h1, .inr h2⟩)
theorem csD_q4 (e : (y, bh) = Y) (er : y.rf = rf) (h0 : bh = false) (h1 : ¬ y.ser = (rf.length : Int)) : y = csD last had h Y := by subst er; exact e ▸ csD_n fun hh => by rcases hh with hh | hh; rw [h0] at hh; cases hh; exact h1 hh.1
theorem csD_q5 (e : (y, bh) = Y) (h0 : bh = false) (h1 : ¬ 0 < y.full) (h2 : ¬ 0 < y.refr) : y = csD last had h Y := e ▸ csD_n fun hh => by rcases hh with hh | hh; rw [h0] at hh; cases hh; rcases hh.2 with h3 | h3; exact h1 h3; exact h2 h3
theorem csE_q5 (e : u = U) (h1 : 0 < u.full) : (u, (5 : Int)) = csE w last had h U := e ▸ csE_5 h1
theorem csE_q4 (e : u = U) (h1 : ¬ 0 < u.full) (h2 : 0 < u.refr) : (u, (4 : Int)) = csE w last had h U := e ▸ csE_4 h1 h2
theorem csE_qf (e : u = U) (h1 : ¬ 0 < u.full) (h2 : ¬ 0 < u.refr) (h3 : leastF u h f) (h4 : f ≤ 3) (h5 : possR u h f = true) : (u, f) = csE w last had h U := e ▸ csE_f h1 h2 h3 h4 h5
theorem csE_qr (e : u = U) (er : u.rf = rf) (h1 : ¬ 0 < u.full) (h2 : ¬ 0 < u.refr) (h3 : leastF u h f) (h4 : ¬ f ≤ 3) : (({ ({ u with refr := w, lng := 0 } : Sn) with ser := rf.length, dy := begD last had h } : Sn), (4 : Int)) = csE w last had h U := by subst er; exact e ▸ csE_r h1 h2 h3 h4
theorem leastF_3 (h3 : leastF u h f) (h4 : f ≤ 3) : f = 1 ∨ f = 2 ∨ f = 3 := by have := h3.1; omega
theorem leastF_b (h3 : leastF u h f) (h4 : f ≤ 3) : 1 ≤ f ∧ f ≤ 5 := by have := h3.1; omega
theorem leastF_i (h3 : leastF u h f) : iarith .add .i64 f 1 = f + 1 := by have h1 := h3.1; have h2 := h3.2.1; clear h3; (exact T.num)
theorem leastF_m (h3 : leastF u h f) : (5 - (f + 1)).toNat < (5 - f).toNat := by have h1 := h3.1; have h2 := h3.2.1; omega
theorem rfB (hw : 1 ≤ w) (hs : s.ok m w = true) (hh : s.act = true → sameR s.fst h = true) (e : (y, bh) = csB m w (csA w s h)) : y.rf = s.rf := by
 have h1 := csA_mid (m := m) hw hs hh
 have h2 := csB_mid hw h1.1 h1.2.1
 have := congrArg (fun x => x.1.rf) e
 exact this.trans (h2.2.2.trans h1.2.2)
theorem rfD (hw : 1 ≤ w) (hs : s.ok m w = true) (hh : s.act = true → sameR s.fst h = true) (e : u = csD last had h (csB m w (csA w s h))) : u.rf = s.rf := by
 have h1 := csA_mid (m := m) hw hs hh
 have h2 := csB_mid hw h1.1 h1.2.1
 have h3 : (csD last had h (csB m w (csA w s h))).rf = (csB m w (csA w s h)).1.rf := by unfold csD begR; split <;> rfl
 rw [e, h3, h2.2.2, h1.2.2]
theorem midE (hw : 1 ≤ w) (hs : s.ok m w = true) (hh : s.act = true → sameR s.fst h = true) (h32 : ¬ (m = 3 ∧ (s.rf.length : Int) = 32)) (e : (v, f) = csE w s.lst s.act h (csD s.lst s.act h (csB m w (csA w s h)))) :
   Mid m w h v ∧ (1 ≤ f ∧ f ≤ 5) ∧ (f = 5 → 0 < v.full) ∧ (f = 4 → 0 < v.refr) ∧ v.rf = s.rf := by
 have hl := lst_k hs hh
 have h1 := csA_mid (m := m) hw hs hh
 have h2 := csB_mid hw h1.1 h1.2.1
 have hC : csC m w s.rf.length (csB m w (csA w s h)) = csB m w (csA w s h) := by unfold csC; rw [if_neg (by omega)]
 have h3 := csD_mid (n := s.rf.length) (last := s.lst) (had := s.act) hw (by rw [h2.2.2, h1.2.2]) h2.1 h2.2.1 hl
 rw [hC] at h3
 have h4 := csE_mid (last := s.lst) (had := s.act) (u := h) hw h3.1 hl
 rw [← e] at h4
 exact ⟨h4.1, h4.2.1, h4.2.2.1.1, h4.2.2.2.1.1, h4.2.2.2.2.trans (rfD hw hs hh rfl)⟩
end
theorem min32 {a : Int} (h : 0 ≤ a ∧ a ≤ 32) : (if false = true then (if iarith .add .i64 a 1 < 32 then 32 else iarith .add .i64 a 1) else if 32 < iarith .add .i64 a 1 then 32 else iarith .add .i64 a 1) = min (a + 1) 32 := by
 have e : iarith .add .i64 a 1 = a + 1 := by (exact T.num)
 rw [e, if_neg (by decide)]
 split <;> omega
theorem min3 {a : Int} (h : 0 ≤ a ∧ a ≤ 3) : (if false = true then (if iarith .add .i64 a 1 < 3 then 3 else iarith .add .i64 a 1) else if 3 < iarith .add .i64 a 1 then 3 else iarith .add .i64 a 1) = min (a + 1) 3 := by
 have e : iarith .add .i64 a 1 = a + 1 := by (exact T.num)
 rw [e, if_neg (by decide)]
 split <;> omega
theorem sub1 {a w : Int} (h : 0 ≤ a ∧ a ≤ w) (hw : w ≤ 8) : iarith .sub .i64 a 1 = a - 1 := by (exact T.num)
theorem rf_side (l : List Hd) : 0 + l.length * 15 ≤ (l.flatMap Hd.cs).length := by rw [fm_len Hd.cs_len]; omega
theorem rf_app (l : List Hd) (h : Hd) {n : Nat} (hn : n = l.length * 15) : List.take n (List.drop 0 (l.flatMap Hd.cs)) ++ h.cs = (l ++ [h]).flatMap Hd.cs := by
 rw [List.drop_zero, List.take_of_length_le (by rw [fm_len Hd.cs_len]; omega), List.flatMap_append]
 simp
theorem LTo.comp {c : Co} {i0 : Nat} (s' : Sn) {R r : Nm} {off n : Nat} {L : List Hd} {m l : LS} (ys : List AV) (hi : i0 < c.cx.length) (hn : n = s'.rf.length) (hL : s'.rf.flatMap Hd.cs = ((L.flatMap Hd.cs).drop off).take (n * 15)) (hb : off + n * 15 ≤ L.length * 15) (hy : ys = s'.cv (.vw r off n 15))
   (hr : LH l r fun cc _ _ => cc.cs = L.flatMap Hd.cs) (h : LH l R fun cc s _ => cc.cs = (List.range i0).flatMap (fun k => (c.at k).cs) ++ (ys ++ frs c (i0 + 1) c.cx.length) ∧ LEra (s ⟨cc.ty, (c.cx.set i0 s').flatMap Sn.cs⟩) [r] (LB m)) : LTo m l := by
 refine LTo.frz R [r] ((c.cx.set i0 s').flatMap Sn.cs) (LH.mono h fun cc s _ hh => ⟨?_, hh.2⟩)
 rw [hh.1, set_fm c i0 hi s', hy]
 refine LFs.app (LFs.same _) (LFs.app ⟨.eq rfl, .eq rfl, .eq rfl, .eq rfl, .eq rfl, .eq rfl, .eq rfl, .eq rfl, LF.part InL.here (LH.mono hr fun cc _ _ e => ⟨by decide, by rw [e, fm_len Hd.cs_len]; exact hb, hn.symm, by rw [e]; exact hL⟩), trivial⟩ (LFs.same _))
section
variable {l : List Hd} {h : Hd} {X : Int} {k : Nat}
theorem over_n (hX : X = (k : Int)) : ((l.length + 1 : Nat) : Int).toNat - X.toNat = ((l ++ [h]).drop k).length := by subst hX; simp
theorem over_L (hX : X = (k : Int)) : ((l ++ [h]).drop k).flatMap Hd.cs = (((l ++ [h]).flatMap Hd.cs).drop (0 + X.toNat * 15)).take ((((l.length + 1 : Nat) : Int).toNat - X.toNat) * 15) := by
 subst hX
 rw [Nat.zero_add, fm_drop Hd.cs_len, Int.toNat_natCast, List.take_of_length_le (by rw [fm_len Hd.cs_len]; simp)]
 rfl
theorem over_b (hX : X = (k : Int)) (hk : k ≤ l.length) : 0 + X.toNat * 15 + (((l.length + 1 : Nat) : Int).toNat - X.toNat) * 15 ≤ (l ++ [h]).length * 15 := by subst hX; simp; omega
theorem max0 {a b e : Int} (h : iarith .sub .i64 a b = e) : (if true = true then (if 0 < iarith .sub .i64 a b then iarith .sub .i64 a b else 0) else (if iarith .sub .i64 a b < 0 then iarith .sub .i64 a b else 0)) = max 0 e := by
 rw [h, if_pos rfl]
 split <;> omega
theorem ser_e {a b e : Int} (h : 0 ≤ a ∧ a ≤ 1000) (hb : b = e) (he : 0 ≤ e ∧ e ≤ 1000) : iarith .sub .i64 a b = a - e := by subst hb; (exact T.num)
end
section
variable {m w : Int} {v : Sn} {h : Hd} {f : Int}
theorem csF_n (hc : ¬ (m ≠ 3 ∧ w < (v.rf.length : Int) + 1)) : csF m w h v f = { csF1 m h v f with rf := v.rf ++ [h] } := by unfold csF csF1; rw [if_neg hc, if_neg hc]
theorem csF_o (hc : m ≠ 3 ∧ w < (v.rf.length : Int) + 1) : csF m w h v f = { csF1 m h v f with ser := max 0 (v.ser - ((v.rf.length : Int) + 1 - w)), rf := (v.rf ++ [h]).drop ((v.rf.length : Int) + 1 - w).toNat } := by unfold csF csF1; rw [if_pos hc, if_pos hc]
end
section
variable {P : Program} {G : Nat → AV}
theorem LP.data {f : FuncId} {args : List AV} {v : Nm → AV} {c : Nm → Pl} {v' : AV} (h : LP P G f args [] (fun q => (v q, [(q, c q)]))) (hf : ∀ q, LF [(q, c q)] [q] (v q) v') : LP P G f args [] (fun _ => (v', [])) := by
 unfold LP at h ⊢
 refine ⟨h.1, fun q => ⟨by simp, by simp⟩, fun τ w vs h1 h2 h3 h4 h5 => (h.2.2 τ w vs h1 h2 h3 h4 h5).mono ?_⟩
 rintro e w' ⟨u, q, k1, k2, k3, k4, k5, k6⟩
 have hs : Sep τ [(q, c q)] := ⟨by simp, fun x hx => by simp at hx; subst hx; exact k2⟩
 have hz := (hf q).run τ hs
 have e1 : eraN (pQ τ [(q, c q)]) [q] = τ := by
   funext y
   show era (Go.Proofs.YtkfpgdckdmlhkaaGreatDoor.upd τ q (c q)) q y = τ y
   by_cases hy : y = q
   · subst hy; rw [era_same]; exact k2.symm
   · rw [era_ne _ hy, upd_ne _ _ hy]
 have k4 : Rd (pQ τ [(q, c q)]) w' (v q) u := k4
 have k5 : Mem (pQ τ [(q, c q)]) w' := k5
 have k6 : Stp τ w (pQ τ [(q, c q)]) w' := k6
 have a1 := hz.sound k5 k4
 have a2 := k5.forget (eraN_sub (pQ τ [(q, c q)]) [q])
 have a3 := k6.trans (Stp.forget _ (eraN (pQ τ [(q, c q)]) [q]) w' fun b hb => eraN_keep _ [q] hb)
 rw [e1] at a1 a2 a3
 exact ⟨u, q, k1, k2, by simp, a1, a2, a3⟩
end
def cpo (c : Co) (y : List UInt8) (q : Nm) : AV × LS := (.tup [.agg [iAV c.m, iAV c.w, .vw q 0 c.cx.length 9], bv y, iAV 0], [(q, ⟨59, c.cx.flatMap Sn.cs⟩)])
theorem cpo_lf (c : Co) (y : List UInt8) (q : Nm) : LF (cpo c y q).2 [q] (cpo c y q).1 (cpr ((c, y), 0)) :=
 LF.tup (xs := [.agg [iAV c.m, iAV c.w, .vw q 0 c.cx.length 9], bv y, iAV 0]) (ys := [c.av, bv y, iAV 0]) ⟨LF.agg (xs := [iAV c.m, iAV c.w, .vw q 0 c.cx.length 9]) (ys := [iAV c.m, iAV c.w, snv c.cx]) ⟨.eq rfl, .eq rfl, LF.row InL.here (.here ⟨by decide, fm_len Sn.cs_len _, rfl, rfl⟩), trivial⟩, .eq rfl, .eq rfl, trivial⟩
theorem RL.cpo {c : Co} {y : List UInt8} {R : Nm} {n : Nat} {l : LS} (hn : n = c.cx.length) (h : LH l R fun cc _ _ => cc = ⟨59, c.cx.flatMap Sn.cs⟩) : RL (fun q => cpo c y q) (.tup [.agg [.int .i64 c.m, .int .i64 c.w, .vw R 0 n 9], bv y, .int .i64 0]) l := by
 subst hn
 obtain ⟨l1, cc, l2, rfl, rfl⟩ := h.ex
 exact RL.own R rfl ⟨l1, _, l2, rfl, trivial⟩ (LB.cons ⟨l1, _, l2, rfl, rfl, LB.nil⟩)
theorem comp_end {c : Co} {i0 : Nat} {hd : Hd} {pl : List UInt8} {v : Sn} {f : Int} (h32 : ¬ (c.m = 3 ∧ ((c.at i0).rf.length : Int) = 32)) (e : (v, f) = csE c.w (c.at i0).lst (c.at i0).act hd (csD (c.at i0).lst (c.at i0).act hd (csB c.m c.w (csA c.w (c.at i0) hd)))) :
   compC c i0 hd pl = (c.set i0 (csF c.m c.w hd v f), (encR (partsR v.dy i0 f hd pl)).1) := by
 have hC : csC c.m c.w (c.at i0).rf.length (csB c.m c.w (csA c.w (c.at i0) hd)) = csB c.m c.w (csA c.w (c.at i0) hd) := by unfold csC; rw [if_neg (by omega)]
 have h2 : ctxR c.m c.w (c.at i0) hd = (v, f) := by unfold ctxR; rw [hC, e]
 unfold compC
 rw [h2]
theorem leastF_4 {u : Sn} {h : Hd} {f : Int} (h3 : leastF u h f) (h4 : ¬ f ≤ 3) : f = 4 := by have h1 := h3.2.1; omega
theorem rf_all (l : List Hd) (h : Hd) : (l ++ [h]).flatMap Hd.cs = (((l ++ [h]).flatMap Hd.cs).drop 0).take ((l.length + 1) * 15) := by
 rw [List.drop_zero, List.take_of_length_le (by rw [fm_len Hd.cs_len]; simp)]
def fA (m : Int) (v : Sn) (f : Int) : Sn := { v with full := if m ≠ 3 ∧ f = 5 then v.full - 1 else v.full, refr := if m ≠ 3 ∧ f = 4 then v.refr - 1 else v.refr }
theorem fA_5 {m : Int} {v : Sn} {f : Int} (hm : ¬ m = 3) (h : f = 5) : ({ v with full := v.full - 1 } : Sn) = fA m v f := by unfold fA; rw [if_pos ⟨hm, h⟩, if_neg (by omega)]
theorem fA_4 {m : Int} {v : Sn} {f : Int} (hm : ¬ m = 3) (h : f = 4) : ({ v with refr := v.refr - 1 } : Sn) = fA m v f := by unfold fA; rw [if_neg (by omega), if_pos ⟨hm, h⟩]
theorem fA_0 {m : Int} {v : Sn} {f : Int} (h5 : ¬ (m ≠ 3 ∧ f = 5)) (h4 : ¬ (m ≠ 3 ∧ f = 4)) : v = fA m v f := by unfold fA; rw [if_neg h5, if_neg h4]
theorem F1_dy {m : Int} {h : Hd} {v : Sn} {f : Int} : (csF1 m h v f).dy = v.dy ∧ (csF1 m h v f).ser = v.ser ∧ (csF1 m h v f).rf = v.rf := ⟨rfl, rfl, rfl⟩
end Go.Proofs.YtkfpgdckdmlhkaaGreatDoor
