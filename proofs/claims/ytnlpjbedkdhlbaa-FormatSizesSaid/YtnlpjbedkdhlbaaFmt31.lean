import Derived.Test.YtnlpjbedkdhlbaaFmt30
namespace Go.Proofs.Ytnlpjbedkdhlbaa
open Go.RowKit
set_option linter.all false
variable {G : Nat → AV}
/-- How many bytes there are before the payload. -/
def szT (f k : Int) : Int := if k = 2 then ([0, 1, 4, 9, 16, 33, 1] : List Int).getD f.toNat 0 else ([0, 1, 2, 4, 7, 20, 1] : List Int).getD f.toNat 0
theorem dyn_ln (h : Hd) (d : Dy) : (dynL h d).length = if h.k = 2 then 14 else 5 := by
  unfold dynL
  split <;> simp
theorem stat_ln (h : Hd) : (statL h).length = if h.k = 2 then 17 else 13 := by
  unfold statL
  split <;> simp
theorem body_szT (s : Sm) (h : s.ok = true) : ((bodyL s).length : Int) = szT s.f s.h.k := by
  obtain ⟨h1, h2, h3⟩ := s.of h
  unfold szT
  rcases h3 with ⟨h3, h4, h5, -, -⟩ | ⟨h3, -⟩ | ⟨h3, -, h4, hz, -⟩
  · rcases h3 with hf | hf | hf
    · rw [bL1 s hf, hf]; split <;> rfl
    · rcases h5 with hk | hk
      · rw [bL2U s hf hk, hf, hk]; rfl
      · rw [bL2T s hf hk, hf, hk]; simp
    · rcases h5 with hk | hk
      · rw [bL3U s hf hk, hf, hk]; simp
      · rw [bL3T s hf hk, hf, hk]; simp
  · have ho := (s.big h h3).2.1
    rcases (s.h.of ho).1 with hk | hk
    · rcases h3 with hf | hf
      · rw [bL4 s hf, hf, hk]; simp [dyn_ln, hk]
      · rw [bL5 s hf, hf, hk]; simp [dyn_ln, stat_ln, hk]
    · rcases h3 with hf | hf
      · rw [bL4 s hf, hf, hk]; simp [dyn_ln, hk]
      · rw [bL5 s hf, hf, hk]; simp [dyn_ln, stat_ln, hk]
  · rw [bL6 s h3, h3]; split <;> rfl
theorem sizes_len (s : Sm) (h : s.ok = true) : ∃ p q : Int, ((hdL s ++ s.pl).length : Int) = p + szT s.f s.h.k + q + (s.pl.length : Int) ∧ (0 < s.cx → p = 1) ∧ (¬ 0 < s.cx → p = 0) ∧ (¬ s.ud = 0 → q = 2) ∧ (s.f ≠ 6 → ¬ s.h.ck = 0 → q = 2) ∧ (s.ud = 0 → s.h.ck = 0 → q = 0) ∧ (s.f = 6 → s.ud = 0 → q = 0) := by
  refine ⟨((preL s).length : Int), ((sumL s).length : Int), ?_, ?_, ?_, ?_, ?_, ?_, ?_⟩
  · rw [← body_szT s h, hdL_s]
    simp only [List.length_append]
    omega
  · intro hx; rw [pre_pos hx]; rfl
  · intro hx; rw [pre_neg hx]; rfl
  all_goals
    obtain ⟨h1, h2, h3⟩ := s.of h
    have key : sumR s = 0 ∧ sumL s = [] ∨ sumR s ≠ 0 ∧ (sumL s).length = 2 := by
      unfold sumL
      by_cases e : sumR s = 0
      · exact .inl ⟨e, if_pos e⟩
      · rw [if_neg e]; exact .inr ⟨e, by simp⟩
    rw [sum_eq] at key
    have z : sumL s = [] → (sumL s).length = 0 := fun e => by rw [e]; rfl
  · intro hu
    rcases h3 with ⟨h3, -⟩ | ⟨h3, -⟩ | ⟨h3, -⟩
    · rw [if_neg (by omega)] at key; omega
    · have := (s.big h h3).1; omega
    · rw [if_neg (by omega)] at key; omega
  · intro hf hu
    rcases h3 with ⟨h3, -⟩ | ⟨h3, -⟩ | ⟨h3, -⟩
    · obtain ⟨e, -⟩ := s.low h h3
      have e2 : s.h.ck = 0 := by rw [e]
      omega
    · rw [if_pos h3] at key; omega
    · omega
  · intro hu hc
    split at key
    · rcases key with key | key
      · have := z key.2; omega
      · omega
    · rcases key with key | key
      · have := z key.2; omega
      · omega
  · intro hf hu
    rw [if_neg (by omega)] at key
    rcases key with key | key
    · have := z key.2; omega
    · omega
set_option maxHeartbeats 4000000 in
theorem sizes8_c (t : List Int) : LSpec Try.prog G 9 [iv t] [] (fun _ => (.bool true, [])) := by
  by_cases ht : t.length ≤ 400
  · have hl := light_c (G := G) t
    rw [decide_eq_true ht] at hl
    obtain ⟨s, hs⟩ : ∃ s, smallM t 0 = s := ⟨_, rfl⟩
    have hok : s.ok = true := by rw [← hs]; exact smallM_ok t 0
    have hsm := fun p => dsmall_c (G := G) t 0 ht p
    simp only [hs] at hsm
    have hlen := hd_len s hok
    have hlen2 := (Sm.of s hok).1
    have he := fencode_c (G := G) s
    rw [enc_ok hok] at he
    obtain ⟨p, q, hB, f1, f2, f3, f4, f5, f6⟩ := sizes_len s hok
    have hB2 : (hdL s ++ s.pl).length ≤ 3000 := by simp only [List.length_append]; omega
    have h6 : s.f = 1 ∨ s.f = 2 ∨ s.f = 3 ∨ s.f = 4 ∨ s.f = 5 ∨ s.f = 6 := by
      obtain ⟨-, -, h3⟩ := s.of hok
      omega
    generalize hdL s ++ s.pl = B at he hB hB2
    clear hs hok hlen
    obtain ⟨cx, f, n, tm, mr, id, ud, h, d, ck, pl⟩ := s
    simp only at hB f1 f2 f3 f4 f5 f6 h6 hlen2
    generalize hL : pl.length = M at hB hlen2
    unfold szT at hB
    rcases h6 with rfl | rfl | rfl | rfl | rfl | rfl
    · have hB : (B.length : Int) = p + (if h.k = 2 then 1 else 1) + q + (M : Int) := hB
      refine LSpec.introL tyOk Try.func9 rfl (by kernel_rfl) (by simp) (fun q => ⟨by simp, by simp⟩) ?_
      refine AWpL.sound tyOk [] _ _ _ _ ?_
      conv => whnf
      repeat' first
        | (show LHas _ _ _; ((try show LHas _ _ _); repeat (with_reducible show LHas _ _ _); first | apply LHas.here | apply LHas.next); conv => whnf)
        | ((first | (with_reducible refine And.intro ?_ ?_) | refine And.intro ?_ ?_); (focus (first | exact T.side)); conv => whnf)
        | (show LCall _ _ _ _ _ _; first | (refine LCall.pure (hl) ?_; conv => whnf) | (refine LCall.pure (fawake_c) ?_; conv => whnf) | (refine LCall.own (roll_c t) ?_; conv => whnf) | (apply LCall.upd (hsm _); ((try show LHas _ _ _); repeat (with_reducible show LHas _ _ _); first | apply LHas.here | apply LHas.next); refine And.intro rfl ?_; conv => whnf) | (refine LCall.pure (he) ?_; conv => whnf) | (apply LCall.eq; (focus (repeat first | (apply cons_congr; (focus (first | exact sl_bv rfl | exact sl_bv (by first | (simp; done) | (simp; (exact T.num))) | exact rfl))) | exact rfl)); first | (refine LCall.pure (hl) ?_; conv => whnf) | (refine LCall.pure (fawake_c) ?_; conv => whnf) | (refine LCall.own (roll_c t) ?_; conv => whnf) | (apply LCall.upd (hsm _); ((try show LHas _ _ _); repeat (with_reducible show LHas _ _ _); first | apply LHas.here | apply LHas.next); refine And.intro rfl ?_; conv => whnf) | (refine LCall.pure (he) ?_; conv => whnf)))
        | (show ABr _ _ _; first | (refine ABr.tt ?_; conv => whnf) | (refine ABr.ff ?_; conv => whnf) | (refine ABr.byN ?_) | ((with_reducible refine ABr.gtrT (by assumption) ?_); conv => whnf) | ((with_reducible refine ABr.gtrF (by assumption) ?_); conv => whnf) | ((with_reducible refine ABr.gtr (fun h => ?_) (fun h => ?_)) <;> first | (exfalso; omega) | conv => whnf) | ((with_reducible refine ABr.eqlT (by assumption) ?_); conv => whnf) | ((with_reducible refine ABr.eqlF (by assumption) ?_); conv => whnf) | ((with_reducible refine ABr.eql (fun h => ?_) (fun h => ?_)) <;> first | (exfalso; omega) | conv => whnf) | ((with_reducible refine ABr.neqT (by assumption) ?_); conv => whnf) | ((with_reducible refine ABr.neqF (by assumption) ?_); conv => whnf) | ((with_reducible refine ABr.neq (fun h => ?_) (fun h => ?_)) <;> first | (exfalso; omega) | conv => whnf) | (refine ABr.byT (by with_reducible assumption) ?_; conv => whnf) | (refine ABr.byF (by with_reducible assumption) ?_; conv => whnf) | ((with_reducible refine ABr.decT rfl ?_); conv => whnf) | ((with_reducible refine ABr.decT (by assumption) ?_); conv => whnf) | ((with_reducible refine ABr.decF (by assumption) ?_); conv => whnf) | (refine ABr.dec (fun h => ?_) (fun h => ?_) <;> first | (exfalso; omega) | conv => whnf) | (refine ABr.gen (fun h => ?_) (fun h => ?_) <;> conv => whnf))
        | (show ACell _ _ _; first | (refine ACell.cell 0 ?_ ?_; (focus (first | exact T.side)); conv => whnf) | (refine ACell.mk ?_; conv => whnf))
        | (show AList _ _; first | (refine AList.app ?_ ?_; (focus (first | exact T.side)); conv => whnf) | (refine AList.set (x := b8 _) (bAV_b8 _).symm ?_ ?_; (focus (first | exact T.side)); conv => whnf) | (refine AList.set (f := iAV) rfl ?_ ?_; (focus (first | exact T.side)); conv => whnf) | (refine AList.part ?_; conv => whnf) | (refine AList.force ?_; (conv => whnf); refine Lit.mk ?_; conv => whnf) | (refine AList.full ?_ ?_; (focus (first | exact Nat.le_of_ble_eq_true rfl | (simp; done) | (simp; omega))); conv => whnf) | (refine AList.mk ?_; conv => whnf))
        | (refine LFresh.mk fun r => ?_; conv => whnf)
        | (show KeepL _ _ _; first | (with_reducible exact KeepL.refl) | (refine KeepL.cons ?_; ((try show LHas _ _ _); repeat (with_reducible show LHas _ _ _); first | apply LHas.here | apply LHas.next); ((try show LHas _ _ _); repeat (with_reducible show LHas _ _ _); first | apply LHas.here | apply LHas.next); refine And.intro rfl ?_) | exact KeepL.nil)
        | (show InL _ _; first | exact InL.here | refine InL.next ?_)
        | (show False; (exact T.num))
      all_goals (try dsimp only)
      all_goals (refine RetL.val ?_ ?_; rotate_left; (focus ((repeat' first | exact LSub.nil | (with_reducible exact LSub.refl) | (apply LSub.cons; ((try show LHas _ _ _); repeat (with_reducible show LHas _ _ _); first | apply LHas.here | apply LHas.next); refine And.intro ?_ ?_; (focus (try (first | (with_reducible rfl) | (refine congrArg (Pl.mk _) ?_; (first | rfl | (simp; done))) | rfl | (with_reducible refine congrArg (Pl.mk _) ?_)))))))))
      all_goals (refine congrArg AV.bool ?_)
      all_goals (try split at hB)
      all_goals first | rfl | (simp only [icmp, iarith, IntKind.wrap_i64, beq_iff_eq, List.length_map] at *; omega) | trace_state
    · have hB : (B.length : Int) = p + (if h.k = 2 then 4 else 2) + q + (M : Int) := hB
      refine LSpec.introL tyOk Try.func9 rfl (by kernel_rfl) (by simp) (fun q => ⟨by simp, by simp⟩) ?_
      refine AWpL.sound tyOk [] _ _ _ _ ?_
      conv => whnf
      repeat' first
        | (show LHas _ _ _; ((try show LHas _ _ _); repeat (with_reducible show LHas _ _ _); first | apply LHas.here | apply LHas.next); conv => whnf)
        | ((first | (with_reducible refine And.intro ?_ ?_) | refine And.intro ?_ ?_); (focus (first | exact T.side)); conv => whnf)
        | (show LCall _ _ _ _ _ _; first | (refine LCall.pure (hl) ?_; conv => whnf) | (refine LCall.pure (fawake_c) ?_; conv => whnf) | (refine LCall.own (roll_c t) ?_; conv => whnf) | (apply LCall.upd (hsm _); ((try show LHas _ _ _); repeat (with_reducible show LHas _ _ _); first | apply LHas.here | apply LHas.next); refine And.intro rfl ?_; conv => whnf) | (refine LCall.pure (he) ?_; conv => whnf) | (apply LCall.eq; (focus (repeat first | (apply cons_congr; (focus (first | exact sl_bv rfl | exact sl_bv (by first | (simp; done) | (simp; (exact T.num))) | exact rfl))) | exact rfl)); first | (refine LCall.pure (hl) ?_; conv => whnf) | (refine LCall.pure (fawake_c) ?_; conv => whnf) | (refine LCall.own (roll_c t) ?_; conv => whnf) | (apply LCall.upd (hsm _); ((try show LHas _ _ _); repeat (with_reducible show LHas _ _ _); first | apply LHas.here | apply LHas.next); refine And.intro rfl ?_; conv => whnf) | (refine LCall.pure (he) ?_; conv => whnf)))
        | (show ABr _ _ _; first | (refine ABr.tt ?_; conv => whnf) | (refine ABr.ff ?_; conv => whnf) | (refine ABr.byN ?_) | ((with_reducible refine ABr.gtrT (by assumption) ?_); conv => whnf) | ((with_reducible refine ABr.gtrF (by assumption) ?_); conv => whnf) | ((with_reducible refine ABr.gtr (fun h => ?_) (fun h => ?_)) <;> first | (exfalso; omega) | conv => whnf) | ((with_reducible refine ABr.eqlT (by assumption) ?_); conv => whnf) | ((with_reducible refine ABr.eqlF (by assumption) ?_); conv => whnf) | ((with_reducible refine ABr.eql (fun h => ?_) (fun h => ?_)) <;> first | (exfalso; omega) | conv => whnf) | ((with_reducible refine ABr.neqT (by assumption) ?_); conv => whnf) | ((with_reducible refine ABr.neqF (by assumption) ?_); conv => whnf) | ((with_reducible refine ABr.neq (fun h => ?_) (fun h => ?_)) <;> first | (exfalso; omega) | conv => whnf) | (refine ABr.byT (by with_reducible assumption) ?_; conv => whnf) | (refine ABr.byF (by with_reducible assumption) ?_; conv => whnf) | ((with_reducible refine ABr.decT rfl ?_); conv => whnf) | ((with_reducible refine ABr.decT (by assumption) ?_); conv => whnf) | ((with_reducible refine ABr.decF (by assumption) ?_); conv => whnf) | (refine ABr.dec (fun h => ?_) (fun h => ?_) <;> first | (exfalso; omega) | conv => whnf) | (refine ABr.gen (fun h => ?_) (fun h => ?_) <;> conv => whnf))
        | (show ACell _ _ _; first | (refine ACell.cell 0 ?_ ?_; (focus (first | exact T.side)); conv => whnf) | (refine ACell.mk ?_; conv => whnf))
        | (show AList _ _; first | (refine AList.app ?_ ?_; (focus (first | exact T.side)); conv => whnf) | (refine AList.set (x := b8 _) (bAV_b8 _).symm ?_ ?_; (focus (first | exact T.side)); conv => whnf) | (refine AList.set (f := iAV) rfl ?_ ?_; (focus (first | exact T.side)); conv => whnf) | (refine AList.part ?_; conv => whnf) | (refine AList.force ?_; (conv => whnf); refine Lit.mk ?_; conv => whnf) | (refine AList.full ?_ ?_; (focus (first | exact Nat.le_of_ble_eq_true rfl | (simp; done) | (simp; omega))); conv => whnf) | (refine AList.mk ?_; conv => whnf))
        | (refine LFresh.mk fun r => ?_; conv => whnf)
        | (show KeepL _ _ _; first | (with_reducible exact KeepL.refl) | (refine KeepL.cons ?_; ((try show LHas _ _ _); repeat (with_reducible show LHas _ _ _); first | apply LHas.here | apply LHas.next); ((try show LHas _ _ _); repeat (with_reducible show LHas _ _ _); first | apply LHas.here | apply LHas.next); refine And.intro rfl ?_) | exact KeepL.nil)
        | (show InL _ _; first | exact InL.here | refine InL.next ?_)
        | (show False; (exact T.num))
      all_goals (try dsimp only)
      all_goals (refine RetL.val ?_ ?_; rotate_left; (focus ((repeat' first | exact LSub.nil | (with_reducible exact LSub.refl) | (apply LSub.cons; ((try show LHas _ _ _); repeat (with_reducible show LHas _ _ _); first | apply LHas.here | apply LHas.next); refine And.intro ?_ ?_; (focus (try (first | (with_reducible rfl) | (refine congrArg (Pl.mk _) ?_; (first | rfl | (simp; done))) | rfl | (with_reducible refine congrArg (Pl.mk _) ?_)))))))))
      all_goals (refine congrArg AV.bool ?_)
      all_goals (try split at hB)
      all_goals first | rfl | (simp only [icmp, iarith, IntKind.wrap_i64, beq_iff_eq, List.length_map] at *; omega) | trace_state
    · have hB : (B.length : Int) = p + (if h.k = 2 then 9 else 4) + q + (M : Int) := hB
      refine LSpec.introL tyOk Try.func9 rfl (by kernel_rfl) (by simp) (fun q => ⟨by simp, by simp⟩) ?_
      refine AWpL.sound tyOk [] _ _ _ _ ?_
      conv => whnf
      repeat' first
        | (show LHas _ _ _; ((try show LHas _ _ _); repeat (with_reducible show LHas _ _ _); first | apply LHas.here | apply LHas.next); conv => whnf)
        | ((first | (with_reducible refine And.intro ?_ ?_) | refine And.intro ?_ ?_); (focus (first | exact T.side)); conv => whnf)
        | (show LCall _ _ _ _ _ _; first | (refine LCall.pure (hl) ?_; conv => whnf) | (refine LCall.pure (fawake_c) ?_; conv => whnf) | (refine LCall.own (roll_c t) ?_; conv => whnf) | (apply LCall.upd (hsm _); ((try show LHas _ _ _); repeat (with_reducible show LHas _ _ _); first | apply LHas.here | apply LHas.next); refine And.intro rfl ?_; conv => whnf) | (refine LCall.pure (he) ?_; conv => whnf) | (apply LCall.eq; (focus (repeat first | (apply cons_congr; (focus (first | exact sl_bv rfl | exact sl_bv (by first | (simp; done) | (simp; (exact T.num))) | exact rfl))) | exact rfl)); first | (refine LCall.pure (hl) ?_; conv => whnf) | (refine LCall.pure (fawake_c) ?_; conv => whnf) | (refine LCall.own (roll_c t) ?_; conv => whnf) | (apply LCall.upd (hsm _); ((try show LHas _ _ _); repeat (with_reducible show LHas _ _ _); first | apply LHas.here | apply LHas.next); refine And.intro rfl ?_; conv => whnf) | (refine LCall.pure (he) ?_; conv => whnf)))
        | (show ABr _ _ _; first | (refine ABr.tt ?_; conv => whnf) | (refine ABr.ff ?_; conv => whnf) | (refine ABr.byN ?_) | ((with_reducible refine ABr.gtrT (by assumption) ?_); conv => whnf) | ((with_reducible refine ABr.gtrF (by assumption) ?_); conv => whnf) | ((with_reducible refine ABr.gtr (fun h => ?_) (fun h => ?_)) <;> first | (exfalso; omega) | conv => whnf) | ((with_reducible refine ABr.eqlT (by assumption) ?_); conv => whnf) | ((with_reducible refine ABr.eqlF (by assumption) ?_); conv => whnf) | ((with_reducible refine ABr.eql (fun h => ?_) (fun h => ?_)) <;> first | (exfalso; omega) | conv => whnf) | ((with_reducible refine ABr.neqT (by assumption) ?_); conv => whnf) | ((with_reducible refine ABr.neqF (by assumption) ?_); conv => whnf) | ((with_reducible refine ABr.neq (fun h => ?_) (fun h => ?_)) <;> first | (exfalso; omega) | conv => whnf) | (refine ABr.byT (by with_reducible assumption) ?_; conv => whnf) | (refine ABr.byF (by with_reducible assumption) ?_; conv => whnf) | ((with_reducible refine ABr.decT rfl ?_); conv => whnf) | ((with_reducible refine ABr.decT (by assumption) ?_); conv => whnf) | ((with_reducible refine ABr.decF (by assumption) ?_); conv => whnf) | (refine ABr.dec (fun h => ?_) (fun h => ?_) <;> first | (exfalso; omega) | conv => whnf) | (refine ABr.gen (fun h => ?_) (fun h => ?_) <;> conv => whnf))
        | (show ACell _ _ _; first | (refine ACell.cell 0 ?_ ?_; (focus (first | exact T.side)); conv => whnf) | (refine ACell.mk ?_; conv => whnf))
        | (show AList _ _; first | (refine AList.app ?_ ?_; (focus (first | exact T.side)); conv => whnf) | (refine AList.set (x := b8 _) (bAV_b8 _).symm ?_ ?_; (focus (first | exact T.side)); conv => whnf) | (refine AList.set (f := iAV) rfl ?_ ?_; (focus (first | exact T.side)); conv => whnf) | (refine AList.part ?_; conv => whnf) | (refine AList.force ?_; (conv => whnf); refine Lit.mk ?_; conv => whnf) | (refine AList.full ?_ ?_; (focus (first | exact Nat.le_of_ble_eq_true rfl | (simp; done) | (simp; omega))); conv => whnf) | (refine AList.mk ?_; conv => whnf))
        | (refine LFresh.mk fun r => ?_; conv => whnf)
        | (show KeepL _ _ _; first | (with_reducible exact KeepL.refl) | (refine KeepL.cons ?_; ((try show LHas _ _ _); repeat (with_reducible show LHas _ _ _); first | apply LHas.here | apply LHas.next); ((try show LHas _ _ _); repeat (with_reducible show LHas _ _ _); first | apply LHas.here | apply LHas.next); refine And.intro rfl ?_) | exact KeepL.nil)
        | (show InL _ _; first | exact InL.here | refine InL.next ?_)
        | (show False; (exact T.num))
      all_goals (try dsimp only)
      all_goals (refine RetL.val ?_ ?_; rotate_left; (focus ((repeat' first | exact LSub.nil | (with_reducible exact LSub.refl) | (apply LSub.cons; ((try show LHas _ _ _); repeat (with_reducible show LHas _ _ _); first | apply LHas.here | apply LHas.next); refine And.intro ?_ ?_; (focus (try (first | (with_reducible rfl) | (refine congrArg (Pl.mk _) ?_; (first | rfl | (simp; done))) | rfl | (with_reducible refine congrArg (Pl.mk _) ?_)))))))))
      all_goals (refine congrArg AV.bool ?_)
      all_goals (try split at hB)
      all_goals first | rfl | (simp only [icmp, iarith, IntKind.wrap_i64, beq_iff_eq, List.length_map] at *; omega) | trace_state
    · have hB : (B.length : Int) = p + (if h.k = 2 then 16 else 7) + q + (M : Int) := hB
      refine LSpec.introL tyOk Try.func9 rfl (by kernel_rfl) (by simp) (fun q => ⟨by simp, by simp⟩) ?_
      refine AWpL.sound tyOk [] _ _ _ _ ?_
      conv => whnf
      repeat' first
        | (show LHas _ _ _; ((try show LHas _ _ _); repeat (with_reducible show LHas _ _ _); first | apply LHas.here | apply LHas.next); conv => whnf)
        | ((first | (with_reducible refine And.intro ?_ ?_) | refine And.intro ?_ ?_); (focus (first | exact T.side)); conv => whnf)
        | (show LCall _ _ _ _ _ _; first | (refine LCall.pure (hl) ?_; conv => whnf) | (refine LCall.pure (fawake_c) ?_; conv => whnf) | (refine LCall.own (roll_c t) ?_; conv => whnf) | (apply LCall.upd (hsm _); ((try show LHas _ _ _); repeat (with_reducible show LHas _ _ _); first | apply LHas.here | apply LHas.next); refine And.intro rfl ?_; conv => whnf) | (refine LCall.pure (he) ?_; conv => whnf) | (apply LCall.eq; (focus (repeat first | (apply cons_congr; (focus (first | exact sl_bv rfl | exact sl_bv (by first | (simp; done) | (simp; (exact T.num))) | exact rfl))) | exact rfl)); first | (refine LCall.pure (hl) ?_; conv => whnf) | (refine LCall.pure (fawake_c) ?_; conv => whnf) | (refine LCall.own (roll_c t) ?_; conv => whnf) | (apply LCall.upd (hsm _); ((try show LHas _ _ _); repeat (with_reducible show LHas _ _ _); first | apply LHas.here | apply LHas.next); refine And.intro rfl ?_; conv => whnf) | (refine LCall.pure (he) ?_; conv => whnf)))
        | (show ABr _ _ _; first | (refine ABr.tt ?_; conv => whnf) | (refine ABr.ff ?_; conv => whnf) | (refine ABr.byN ?_) | ((with_reducible refine ABr.gtrT (by assumption) ?_); conv => whnf) | ((with_reducible refine ABr.gtrF (by assumption) ?_); conv => whnf) | ((with_reducible refine ABr.gtr (fun h => ?_) (fun h => ?_)) <;> first | (exfalso; omega) | conv => whnf) | ((with_reducible refine ABr.eqlT (by assumption) ?_); conv => whnf) | ((with_reducible refine ABr.eqlF (by assumption) ?_); conv => whnf) | ((with_reducible refine ABr.eql (fun h => ?_) (fun h => ?_)) <;> first | (exfalso; omega) | conv => whnf) | ((with_reducible refine ABr.neqT (by assumption) ?_); conv => whnf) | ((with_reducible refine ABr.neqF (by assumption) ?_); conv => whnf) | ((with_reducible refine ABr.neq (fun h => ?_) (fun h => ?_)) <;> first | (exfalso; omega) | conv => whnf) | (refine ABr.byT (by with_reducible assumption) ?_; conv => whnf) | (refine ABr.byF (by with_reducible assumption) ?_; conv => whnf) | ((with_reducible refine ABr.decT rfl ?_); conv => whnf) | ((with_reducible refine ABr.decT (by assumption) ?_); conv => whnf) | ((with_reducible refine ABr.decF (by assumption) ?_); conv => whnf) | (refine ABr.dec (fun h => ?_) (fun h => ?_) <;> first | (exfalso; omega) | conv => whnf) | (refine ABr.gen (fun h => ?_) (fun h => ?_) <;> conv => whnf))
        | (show ACell _ _ _; first | (refine ACell.cell 0 ?_ ?_; (focus (first | exact T.side)); conv => whnf) | (refine ACell.mk ?_; conv => whnf))
        | (show AList _ _; first | (refine AList.app ?_ ?_; (focus (first | exact T.side)); conv => whnf) | (refine AList.set (x := b8 _) (bAV_b8 _).symm ?_ ?_; (focus (first | exact T.side)); conv => whnf) | (refine AList.set (f := iAV) rfl ?_ ?_; (focus (first | exact T.side)); conv => whnf) | (refine AList.part ?_; conv => whnf) | (refine AList.force ?_; (conv => whnf); refine Lit.mk ?_; conv => whnf) | (refine AList.full ?_ ?_; (focus (first | exact Nat.le_of_ble_eq_true rfl | (simp; done) | (simp; omega))); conv => whnf) | (refine AList.mk ?_; conv => whnf))
        | (refine LFresh.mk fun r => ?_; conv => whnf)
        | (show KeepL _ _ _; first | (with_reducible exact KeepL.refl) | (refine KeepL.cons ?_; ((try show LHas _ _ _); repeat (with_reducible show LHas _ _ _); first | apply LHas.here | apply LHas.next); ((try show LHas _ _ _); repeat (with_reducible show LHas _ _ _); first | apply LHas.here | apply LHas.next); refine And.intro rfl ?_) | exact KeepL.nil)
        | (show InL _ _; first | exact InL.here | refine InL.next ?_)
        | (show False; (exact T.num))
      all_goals (try dsimp only)
      all_goals (refine RetL.val ?_ ?_; rotate_left; (focus ((repeat' first | exact LSub.nil | (with_reducible exact LSub.refl) | (apply LSub.cons; ((try show LHas _ _ _); repeat (with_reducible show LHas _ _ _); first | apply LHas.here | apply LHas.next); refine And.intro ?_ ?_; (focus (try (first | (with_reducible rfl) | (refine congrArg (Pl.mk _) ?_; (first | rfl | (simp; done))) | rfl | (with_reducible refine congrArg (Pl.mk _) ?_)))))))))
      all_goals (refine congrArg AV.bool ?_)
      all_goals (try split at hB)
      all_goals first | rfl | (simp only [icmp, iarith, IntKind.wrap_i64, beq_iff_eq, List.length_map] at *; omega) | trace_state
    · have hB : (B.length : Int) = p + (if h.k = 2 then 33 else 20) + q + (M : Int) := hB
      refine LSpec.introL tyOk Try.func9 rfl (by kernel_rfl) (by simp) (fun q => ⟨by simp, by simp⟩) ?_
      refine AWpL.sound tyOk [] _ _ _ _ ?_
      conv => whnf
      repeat' first
        | (show LHas _ _ _; ((try show LHas _ _ _); repeat (with_reducible show LHas _ _ _); first | apply LHas.here | apply LHas.next); conv => whnf)
        | ((first | (with_reducible refine And.intro ?_ ?_) | refine And.intro ?_ ?_); (focus (first | exact T.side)); conv => whnf)
        | (show LCall _ _ _ _ _ _; first | (refine LCall.pure (hl) ?_; conv => whnf) | (refine LCall.pure (fawake_c) ?_; conv => whnf) | (refine LCall.own (roll_c t) ?_; conv => whnf) | (apply LCall.upd (hsm _); ((try show LHas _ _ _); repeat (with_reducible show LHas _ _ _); first | apply LHas.here | apply LHas.next); refine And.intro rfl ?_; conv => whnf) | (refine LCall.pure (he) ?_; conv => whnf) | (apply LCall.eq; (focus (repeat first | (apply cons_congr; (focus (first | exact sl_bv rfl | exact sl_bv (by first | (simp; done) | (simp; (exact T.num))) | exact rfl))) | exact rfl)); first | (refine LCall.pure (hl) ?_; conv => whnf) | (refine LCall.pure (fawake_c) ?_; conv => whnf) | (refine LCall.own (roll_c t) ?_; conv => whnf) | (apply LCall.upd (hsm _); ((try show LHas _ _ _); repeat (with_reducible show LHas _ _ _); first | apply LHas.here | apply LHas.next); refine And.intro rfl ?_; conv => whnf) | (refine LCall.pure (he) ?_; conv => whnf)))
        | (show ABr _ _ _; first | (refine ABr.tt ?_; conv => whnf) | (refine ABr.ff ?_; conv => whnf) | (refine ABr.byN ?_) | ((with_reducible refine ABr.gtrT (by assumption) ?_); conv => whnf) | ((with_reducible refine ABr.gtrF (by assumption) ?_); conv => whnf) | ((with_reducible refine ABr.gtr (fun h => ?_) (fun h => ?_)) <;> first | (exfalso; omega) | conv => whnf) | ((with_reducible refine ABr.eqlT (by assumption) ?_); conv => whnf) | ((with_reducible refine ABr.eqlF (by assumption) ?_); conv => whnf) | ((with_reducible refine ABr.eql (fun h => ?_) (fun h => ?_)) <;> first | (exfalso; omega) | conv => whnf) | ((with_reducible refine ABr.neqT (by assumption) ?_); conv => whnf) | ((with_reducible refine ABr.neqF (by assumption) ?_); conv => whnf) | ((with_reducible refine ABr.neq (fun h => ?_) (fun h => ?_)) <;> first | (exfalso; omega) | conv => whnf) | (refine ABr.byT (by with_reducible assumption) ?_; conv => whnf) | (refine ABr.byF (by with_reducible assumption) ?_; conv => whnf) | ((with_reducible refine ABr.decT rfl ?_); conv => whnf) | ((with_reducible refine ABr.decT (by assumption) ?_); conv => whnf) | ((with_reducible refine ABr.decF (by assumption) ?_); conv => whnf) | (refine ABr.dec (fun h => ?_) (fun h => ?_) <;> first | (exfalso; omega) | conv => whnf) | (refine ABr.gen (fun h => ?_) (fun h => ?_) <;> conv => whnf))
        | (show ACell _ _ _; first | (refine ACell.cell 0 ?_ ?_; (focus (first | exact T.side)); conv => whnf) | (refine ACell.mk ?_; conv => whnf))
        | (show AList _ _; first | (refine AList.app ?_ ?_; (focus (first | exact T.side)); conv => whnf) | (refine AList.set (x := b8 _) (bAV_b8 _).symm ?_ ?_; (focus (first | exact T.side)); conv => whnf) | (refine AList.set (f := iAV) rfl ?_ ?_; (focus (first | exact T.side)); conv => whnf) | (refine AList.part ?_; conv => whnf) | (refine AList.force ?_; (conv => whnf); refine Lit.mk ?_; conv => whnf) | (refine AList.full ?_ ?_; (focus (first | exact Nat.le_of_ble_eq_true rfl | (simp; done) | (simp; omega))); conv => whnf) | (refine AList.mk ?_; conv => whnf))
        | (refine LFresh.mk fun r => ?_; conv => whnf)
        | (show KeepL _ _ _; first | (with_reducible exact KeepL.refl) | (refine KeepL.cons ?_; ((try show LHas _ _ _); repeat (with_reducible show LHas _ _ _); first | apply LHas.here | apply LHas.next); ((try show LHas _ _ _); repeat (with_reducible show LHas _ _ _); first | apply LHas.here | apply LHas.next); refine And.intro rfl ?_) | exact KeepL.nil)
        | (show InL _ _; first | exact InL.here | refine InL.next ?_)
        | (show False; (exact T.num))
      all_goals (try dsimp only)
      all_goals (refine RetL.val ?_ ?_; rotate_left; (focus ((repeat' first | exact LSub.nil | (with_reducible exact LSub.refl) | (apply LSub.cons; ((try show LHas _ _ _); repeat (with_reducible show LHas _ _ _); first | apply LHas.here | apply LHas.next); refine And.intro ?_ ?_; (focus (try (first | (with_reducible rfl) | (refine congrArg (Pl.mk _) ?_; (first | rfl | (simp; done))) | rfl | (with_reducible refine congrArg (Pl.mk _) ?_)))))))))
      all_goals (refine congrArg AV.bool ?_)
      all_goals (try split at hB)
      all_goals first | rfl | (simp only [icmp, iarith, IntKind.wrap_i64, beq_iff_eq, List.length_map] at *; omega) | trace_state
    · have hB : (B.length : Int) = p + (if h.k = 2 then 1 else 1) + q + (M : Int) := hB
      have g6 : ud = 0 → q = 0 := f6 rfl
      clear f4 f6
      refine LSpec.introL tyOk Try.func9 rfl (by kernel_rfl) (by simp) (fun q => ⟨by simp, by simp⟩) ?_
      refine AWpL.sound tyOk [] _ _ _ _ ?_
      conv => whnf
      repeat' first
        | (show LHas _ _ _; ((try show LHas _ _ _); repeat (with_reducible show LHas _ _ _); first | apply LHas.here | apply LHas.next); conv => whnf)
        | ((first | (with_reducible refine And.intro ?_ ?_) | refine And.intro ?_ ?_); (focus (first | exact T.side)); conv => whnf)
        | (show LCall _ _ _ _ _ _; first | (refine LCall.pure (hl) ?_; conv => whnf) | (refine LCall.pure (fawake_c) ?_; conv => whnf) | (refine LCall.own (roll_c t) ?_; conv => whnf) | (apply LCall.upd (hsm _); ((try show LHas _ _ _); repeat (with_reducible show LHas _ _ _); first | apply LHas.here | apply LHas.next); refine And.intro rfl ?_; conv => whnf) | (refine LCall.pure (he) ?_; conv => whnf) | (apply LCall.eq; (focus (repeat first | (apply cons_congr; (focus (first | exact sl_bv rfl | exact sl_bv (by first | (simp; done) | (simp; (exact T.num))) | exact rfl))) | exact rfl)); first | (refine LCall.pure (hl) ?_; conv => whnf) | (refine LCall.pure (fawake_c) ?_; conv => whnf) | (refine LCall.own (roll_c t) ?_; conv => whnf) | (apply LCall.upd (hsm _); ((try show LHas _ _ _); repeat (with_reducible show LHas _ _ _); first | apply LHas.here | apply LHas.next); refine And.intro rfl ?_; conv => whnf) | (refine LCall.pure (he) ?_; conv => whnf)))
        | (show ABr _ _ _; first | (refine ABr.tt ?_; conv => whnf) | (refine ABr.ff ?_; conv => whnf) | (refine ABr.byN ?_) | ((with_reducible refine ABr.gtrT (by assumption) ?_); conv => whnf) | ((with_reducible refine ABr.gtrF (by assumption) ?_); conv => whnf) | ((with_reducible refine ABr.gtr (fun h => ?_) (fun h => ?_)) <;> first | (exfalso; omega) | conv => whnf) | ((with_reducible refine ABr.eqlT (by assumption) ?_); conv => whnf) | ((with_reducible refine ABr.eqlF (by assumption) ?_); conv => whnf) | ((with_reducible refine ABr.eql (fun h => ?_) (fun h => ?_)) <;> first | (exfalso; omega) | conv => whnf) | ((with_reducible refine ABr.neqT (by assumption) ?_); conv => whnf) | ((with_reducible refine ABr.neqF (by assumption) ?_); conv => whnf) | ((with_reducible refine ABr.neq (fun h => ?_) (fun h => ?_)) <;> first | (exfalso; omega) | conv => whnf) | (refine ABr.byT (by with_reducible assumption) ?_; conv => whnf) | (refine ABr.byF (by with_reducible assumption) ?_; conv => whnf) | ((with_reducible refine ABr.decT rfl ?_); conv => whnf) | ((with_reducible refine ABr.decT (by assumption) ?_); conv => whnf) | ((with_reducible refine ABr.decF (by assumption) ?_); conv => whnf) | (refine ABr.dec (fun h => ?_) (fun h => ?_) <;> first | (exfalso; omega) | conv => whnf) | (refine ABr.gen (fun h => ?_) (fun h => ?_) <;> conv => whnf))
        | (show ACell _ _ _; first | (refine ACell.cell 0 ?_ ?_; (focus (first | exact T.side)); conv => whnf) | (refine ACell.mk ?_; conv => whnf))
        | (show AList _ _; first | (refine AList.app ?_ ?_; (focus (first | exact T.side)); conv => whnf) | (refine AList.set (x := b8 _) (bAV_b8 _).symm ?_ ?_; (focus (first | exact T.side)); conv => whnf) | (refine AList.set (f := iAV) rfl ?_ ?_; (focus (first | exact T.side)); conv => whnf) | (refine AList.part ?_; conv => whnf) | (refine AList.force ?_; (conv => whnf); refine Lit.mk ?_; conv => whnf) | (refine AList.full ?_ ?_; (focus (first | exact Nat.le_of_ble_eq_true rfl | (simp; done) | (simp; omega))); conv => whnf) | (refine AList.mk ?_; conv => whnf))
        | (refine LFresh.mk fun r => ?_; conv => whnf)
        | (show KeepL _ _ _; first | (with_reducible exact KeepL.refl) | (refine KeepL.cons ?_; ((try show LHas _ _ _); repeat (with_reducible show LHas _ _ _); first | apply LHas.here | apply LHas.next); ((try show LHas _ _ _); repeat (with_reducible show LHas _ _ _); first | apply LHas.here | apply LHas.next); refine And.intro rfl ?_) | exact KeepL.nil)
        | (show InL _ _; first | exact InL.here | refine InL.next ?_)
        | (show False; (exact T.num))
      all_goals (try dsimp only)
      all_goals (refine RetL.val ?_ ?_; rotate_left; (focus ((repeat' first | exact LSub.nil | (with_reducible exact LSub.refl) | (apply LSub.cons; ((try show LHas _ _ _); repeat (with_reducible show LHas _ _ _); first | apply LHas.here | apply LHas.next); refine And.intro ?_ ?_; (focus (try (first | (with_reducible rfl) | (refine congrArg (Pl.mk _) ?_; (first | rfl | (simp; done))) | rfl | (with_reducible refine congrArg (Pl.mk _) ?_)))))))))
      all_goals (refine congrArg AV.bool ?_)
      all_goals (try split at hB)
      all_goals first | rfl | (simp only [icmp, iarith, IntKind.wrap_i64, beq_iff_eq, List.length_map] at *; omega) | trace_state
  · have hl := light_c (G := G) t
    rw [decide_eq_false ht] at hl
    refine LSpec.introL tyOk Try.func9 rfl (by kernel_rfl) (by simp) (fun q => ⟨by simp, by simp⟩) ?_
    refine AWpL.sound tyOk [] _ _ _ _ ?_
    conv => whnf
    repeat' first
      | (show LHas _ _ _; ((try show LHas _ _ _); repeat (with_reducible show LHas _ _ _); first | apply LHas.here | apply LHas.next); conv => whnf)
      | ((first | (with_reducible refine And.intro ?_ ?_) | refine And.intro ?_ ?_); (focus (first | exact T.side)); conv => whnf)
      | (show LCall _ _ _ _ _ _; first | (refine LCall.pure (hl) ?_; conv => whnf) | (refine LCall.pure (fawake_c) ?_; conv => whnf) | (apply LCall.eq; (focus (repeat first | (apply cons_congr; (focus (first | exact sl_bv rfl | exact sl_bv (by first | (simp; done) | (simp; (exact T.num))) | exact rfl))) | exact rfl)); first | (refine LCall.pure (hl) ?_; conv => whnf) | (refine LCall.pure (fawake_c) ?_; conv => whnf)))
      | (show ABr _ _ _; first | (refine ABr.tt ?_; conv => whnf) | (refine ABr.ff ?_; conv => whnf) | (refine ABr.byN ?_) | ((with_reducible refine ABr.gtrT (by assumption) ?_); conv => whnf) | ((with_reducible refine ABr.gtrF (by assumption) ?_); conv => whnf) | ((with_reducible refine ABr.gtr (fun h => ?_) (fun h => ?_)) <;> first | (exfalso; omega) | conv => whnf) | ((with_reducible refine ABr.eqlT (by assumption) ?_); conv => whnf) | ((with_reducible refine ABr.eqlF (by assumption) ?_); conv => whnf) | ((with_reducible refine ABr.eql (fun h => ?_) (fun h => ?_)) <;> first | (exfalso; omega) | conv => whnf) | ((with_reducible refine ABr.neqT (by assumption) ?_); conv => whnf) | ((with_reducible refine ABr.neqF (by assumption) ?_); conv => whnf) | ((with_reducible refine ABr.neq (fun h => ?_) (fun h => ?_)) <;> first | (exfalso; omega) | conv => whnf) | (refine ABr.byT (by with_reducible assumption) ?_; conv => whnf) | (refine ABr.byF (by with_reducible assumption) ?_; conv => whnf) | ((with_reducible refine ABr.decT rfl ?_); conv => whnf) | ((with_reducible refine ABr.decT (by assumption) ?_); conv => whnf) | ((with_reducible refine ABr.decF (by assumption) ?_); conv => whnf) | (refine ABr.dec (fun h => ?_) (fun h => ?_) <;> first | (exfalso; omega) | conv => whnf) | (refine ABr.gen (fun h => ?_) (fun h => ?_) <;> conv => whnf))
      | (show ACell _ _ _; first | (refine ACell.cell 0 ?_ ?_; (focus (first | exact T.side)); conv => whnf) | (refine ACell.mk ?_; conv => whnf))
      | (show AList _ _; first | (refine AList.app ?_ ?_; (focus (first | exact T.side)); conv => whnf) | (refine AList.set (x := b8 _) (bAV_b8 _).symm ?_ ?_; (focus (first | exact T.side)); conv => whnf) | (refine AList.set (f := iAV) rfl ?_ ?_; (focus (first | exact T.side)); conv => whnf) | (refine AList.part ?_; conv => whnf) | (refine AList.force ?_; (conv => whnf); refine Lit.mk ?_; conv => whnf) | (refine AList.full ?_ ?_; (focus (first | exact Nat.le_of_ble_eq_true rfl | (simp; done) | (simp; omega))); conv => whnf) | (refine AList.mk ?_; conv => whnf))
      | (refine LFresh.mk fun r => ?_; conv => whnf)
      | (show KeepL _ _ _; first | (with_reducible exact KeepL.refl) | (refine KeepL.cons ?_; ((try show LHas _ _ _); repeat (with_reducible show LHas _ _ _); first | apply LHas.here | apply LHas.next); ((try show LHas _ _ _); repeat (with_reducible show LHas _ _ _); first | apply LHas.here | apply LHas.next); refine And.intro rfl ?_) | exact KeepL.nil)
      | (show InL _ _; first | exact InL.here | refine InL.next ?_)
      | (show False; (exact T.num))
    all_goals (try dsimp only)
    all_goals first | ((refine RetL.val ?_ ?_; rotate_left; (focus ((repeat' first | exact LSub.nil | (with_reducible exact LSub.refl) | (apply LSub.cons; ((try show LHas _ _ _); repeat (with_reducible show LHas _ _ _); first | apply LHas.here | apply LHas.next); refine And.intro ?_ ?_; (focus (try (first | (with_reducible rfl) | (refine congrArg (Pl.mk _) ?_; (first | rfl | (simp; done))) | rfl | (with_reducible refine congrArg (Pl.mk _) ?_))))))))); rfl) | ((refine RetL.val ?_ ?_; rotate_left; (focus ((repeat' first | exact LSub.nil | (with_reducible exact LSub.refl) | (apply LSub.cons; ((try show LHas _ _ _); repeat (with_reducible show LHas _ _ _); first | apply LHas.here | apply LHas.next); refine And.intro ?_ ?_; (focus (try (first | (with_reducible rfl) | (refine congrArg (Pl.mk _) ?_; (first | rfl | (simp; done))) | rfl | (with_reducible refine congrArg (Pl.mk _) ?_))))))))); simp; done) | (exfalso; simp_all; done)
end Go.Proofs.Ytnlpjbedkdhlbaa
