import Derived.Test.YtnlpjbedkdhlbaaFmt29
import Derived.Test.YtnlpjbedkdhlbaaFmt25
namespace Go.Proofs.Ytnlpjbedkdhlbaa
open Go.RowKit
set_option linter.all false
variable {G : Nat → AV}
set_option maxHeartbeats 2000000 in
theorem returns8_c (t : List Int) : LSpec Try.prog G 7 [iv t] [] (fun _ => (.bool true, [])) := by
  by_cases ht : t.length ≤ 400
  · have hl := light_c (G := G) t
    rw [decide_eq_true ht] at hl
    obtain ⟨s, hs⟩ : ∃ s, smallM t 0 = s := ⟨_, rfl⟩
    have hok : s.ok = true := by rw [← hs]; exact smallM_ok t 0
    have hsm := fun p => dsmall_c (G := G) t 0 ht p
    simp only [hs] at hsm
    have hlen := hd_len s hok
    have hlen2 := (Sm.of s hok).1
    have hb : (hdL s ++ s.pl).length ≤ 140737488355328 := by simp only [List.length_append]; omega
    have he := fencode_c (G := G) s
    rw [enc_ok hok] at he
    have hp := fpk (G := G) (ret_peek s hok s.pl)
    have hd := fdecode_c (G := G) (hdL s ++ s.pl) hb s.h.k (decide (s.ud ≠ 0))
    rw [ret_dec s hok hb, show decide (s.ud ≠ 0) = icmp .neq s.ud 0 by rw [Bool.eq_iff_iff]; simp [icmp]] at hd
    have hv := fvalid8_c (G := G) s
    rw [hok] at hv
    generalize hdL s ++ s.pl = B at he hp hd
    refine LSpec.introL tyOk Try.func7 rfl (by kernel_rfl) (by simp) (fun q => ⟨by simp, by simp⟩) ?_
    refine AWpL.sound tyOk [] _ _ _ _ ?_
    conv => whnf
    repeat' first
      | (show LHas _ _ _; ((try show LHas _ _ _); repeat (with_reducible show LHas _ _ _); first | apply LHas.here | apply LHas.next); conv => whnf)
      | ((first | (with_reducible refine And.intro ?_ ?_) | refine And.intro ?_ ?_); (focus (first | exact T.side)); conv => whnf)
      | (show LCall _ _ _ _ _ _; first | (refine LCall.pure (hl) ?_; conv => whnf) | (refine LCall.pure (fawake_c) ?_; conv => whnf) | (refine LCall.own (roll_c t) ?_; conv => whnf) | (apply LCall.upd (hsm _); ((try show LHas _ _ _); repeat (with_reducible show LHas _ _ _); first | apply LHas.here | apply LHas.next); refine And.intro rfl ?_; conv => whnf) | (refine LCall.pure (he) ?_; conv => whnf) | (refine LCall.pure (hp) ?_; conv => whnf) | (refine LCall.pure (hd) ?_; conv => whnf) | (refine LCall.pure (hv) ?_; conv => whnf) | (refine LCall.pure (rsame8_c s) ?_; conv => whnf) | (apply LCall.eq; (focus (repeat first | (apply cons_congr; (focus (first | exact sl_bv rfl | exact sl_bv (by first | (simp; done) | (simp; (exact T.num))) | exact rfl))) | exact rfl)); first | (refine LCall.pure (hl) ?_; conv => whnf) | (refine LCall.pure (fawake_c) ?_; conv => whnf) | (refine LCall.own (roll_c t) ?_; conv => whnf) | (apply LCall.upd (hsm _); ((try show LHas _ _ _); repeat (with_reducible show LHas _ _ _); first | apply LHas.here | apply LHas.next); refine And.intro rfl ?_; conv => whnf) | (refine LCall.pure (he) ?_; conv => whnf) | (refine LCall.pure (hp) ?_; conv => whnf) | (refine LCall.pure (hd) ?_; conv => whnf) | (refine LCall.pure (hv) ?_; conv => whnf) | (refine LCall.pure (rsame8_c s) ?_; conv => whnf)))
      | (show ABr _ _ _; first | (refine ABr.tt ?_; conv => whnf) | (refine ABr.ff ?_; conv => whnf) | (refine ABr.byN ?_) | ((with_reducible refine ABr.eqlT (by assumption) ?_); conv => whnf) | ((with_reducible refine ABr.eqlF (by assumption) ?_); conv => whnf) | ((with_reducible refine ABr.eql (fun h => ?_) (fun h => ?_)) <;> first | (exfalso; omega) | conv => whnf) | ((with_reducible refine ABr.neqT (by assumption) ?_); conv => whnf) | ((with_reducible refine ABr.neqF (by assumption) ?_); conv => whnf) | ((with_reducible refine ABr.neq (fun h => ?_) (fun h => ?_)) <;> first | (exfalso; omega) | conv => whnf) | (refine ABr.byT (by with_reducible assumption) ?_; conv => whnf) | (refine ABr.byF (by with_reducible assumption) ?_; conv => whnf) | ((with_reducible refine ABr.decT rfl ?_); conv => whnf) | ((with_reducible refine ABr.decT (by assumption) ?_); conv => whnf) | ((with_reducible refine ABr.decF (by assumption) ?_); conv => whnf) | (refine ABr.dec (fun h => ?_) (fun h => ?_) <;> first | (exfalso; omega) | conv => whnf) | (refine ABr.gen (fun h => ?_) (fun h => ?_) <;> conv => whnf))
      | (show ACell _ _ _; first | (refine ACell.cell 0 ?_ ?_; (focus (first | exact T.side)); conv => whnf) | (refine ACell.mk ?_; conv => whnf))
      | (show AList _ _; first | (refine AList.app ?_ ?_; (focus (first | exact T.side)); conv => whnf) | (refine AList.set (x := b8 _) (bAV_b8 _).symm ?_ ?_; (focus (first | exact T.side)); conv => whnf) | (refine AList.set (f := iAV) rfl ?_ ?_; (focus (first | exact T.side)); conv => whnf) | (refine AList.part ?_; conv => whnf) | (refine AList.force ?_; (conv => whnf); refine Lit.mk ?_; conv => whnf) | (refine AList.full ?_ ?_; (focus (first | exact Nat.le_of_ble_eq_true rfl | (simp; done) | (simp; omega))); conv => whnf) | (refine AList.mk ?_; conv => whnf))
      | (refine LFresh.mk fun r => ?_; conv => whnf)
      | (show KeepL _ _ _; first | (with_reducible exact KeepL.refl) | (refine KeepL.cons ?_; ((try show LHas _ _ _); repeat (with_reducible show LHas _ _ _); first | apply LHas.here | apply LHas.next); ((try show LHas _ _ _); repeat (with_reducible show LHas _ _ _); first | apply LHas.here | apply LHas.next); refine And.intro rfl ?_) | exact KeepL.nil)
      | (show InL _ _; first | exact InL.here | refine InL.next ?_)
      | (show False; (exact T.num))
    all_goals (try dsimp only)
    all_goals first | ((refine RetL.val ?_ ?_; rotate_left; (focus ((repeat' first | exact LSub.nil | (with_reducible exact LSub.refl) | (apply LSub.cons; ((try show LHas _ _ _); repeat (with_reducible show LHas _ _ _); first | apply LHas.here | apply LHas.next); refine And.intro ?_ ?_; (focus (try (first | (with_reducible rfl) | (refine congrArg (Pl.mk _) ?_; (first | rfl | (simp; done))) | rfl | (with_reducible refine congrArg (Pl.mk _) ?_))))))))); rfl) | ((refine RetL.val ?_ ?_; rotate_left; (focus ((repeat' first | exact LSub.nil | (with_reducible exact LSub.refl) | (apply LSub.cons; ((try show LHas _ _ _); repeat (with_reducible show LHas _ _ _); first | apply LHas.here | apply LHas.next); refine And.intro ?_ ?_; (focus (try (first | (with_reducible rfl) | (refine congrArg (Pl.mk _) ?_; (first | rfl | (simp; done))) | rfl | (with_reducible refine congrArg (Pl.mk _) ?_))))))))); simp; done) | (exfalso; simp_all; done) | trace_state
  · have hl := light_c (G := G) t
    rw [decide_eq_false ht] at hl
    refine LSpec.introL tyOk Try.func7 rfl (by kernel_rfl) (by simp) (fun q => ⟨by simp, by simp⟩) ?_
    refine AWpL.sound tyOk [] _ _ _ _ ?_
    conv => whnf
    repeat' first
      | (show LHas _ _ _; ((try show LHas _ _ _); repeat (with_reducible show LHas _ _ _); first | apply LHas.here | apply LHas.next); conv => whnf)
      | ((first | (with_reducible refine And.intro ?_ ?_) | refine And.intro ?_ ?_); (focus (first | exact T.side)); conv => whnf)
      | (show LCall _ _ _ _ _ _; first | (refine LCall.pure (hl) ?_; conv => whnf) | (refine LCall.pure (fawake_c) ?_; conv => whnf) | (apply LCall.eq; (focus (repeat first | (apply cons_congr; (focus (first | exact sl_bv rfl | exact sl_bv (by first | (simp; done) | (simp; (exact T.num))) | exact rfl))) | exact rfl)); first | (refine LCall.pure (hl) ?_; conv => whnf) | (refine LCall.pure (fawake_c) ?_; conv => whnf)))
      | (show ABr _ _ _; first | (refine ABr.tt ?_; conv => whnf) | (refine ABr.ff ?_; conv => whnf) | (refine ABr.byN ?_) | ((with_reducible refine ABr.eqlT (by assumption) ?_); conv => whnf) | ((with_reducible refine ABr.eqlF (by assumption) ?_); conv => whnf) | ((with_reducible refine ABr.eql (fun h => ?_) (fun h => ?_)) <;> first | (exfalso; omega) | conv => whnf) | ((with_reducible refine ABr.neqT (by assumption) ?_); conv => whnf) | ((with_reducible refine ABr.neqF (by assumption) ?_); conv => whnf) | ((with_reducible refine ABr.neq (fun h => ?_) (fun h => ?_)) <;> first | (exfalso; omega) | conv => whnf) | (refine ABr.byT (by with_reducible assumption) ?_; conv => whnf) | (refine ABr.byF (by with_reducible assumption) ?_; conv => whnf) | ((with_reducible refine ABr.decT rfl ?_); conv => whnf) | ((with_reducible refine ABr.decT (by assumption) ?_); conv => whnf) | ((with_reducible refine ABr.decF (by assumption) ?_); conv => whnf) | (refine ABr.dec (fun h => ?_) (fun h => ?_) <;> first | (exfalso; omega) | conv => whnf) | (refine ABr.gen (fun h => ?_) (fun h => ?_) <;> conv => whnf))
      | (show ACell _ _ _; first | (refine ACell.cell 0 ?_ ?_; (focus (first | exact T.side)); conv => whnf) | (refine ACell.mk ?_; conv => whnf))
      | (show AList _ _; first | (refine AList.app ?_ ?_; (focus (first | exact T.side)); conv => whnf) | (refine AList.set (x := b8 _) (bAV_b8 _).symm ?_ ?_; (focus (first | exact T.side)); conv => whnf) | (refine AList.set (f := iAV) rfl ?_ ?_; (focus (first | exact T.side)); conv => whnf) | (refine AList.part ?_; conv => whnf) | (refine AList.force ?_; (conv => whnf); refine Lit.mk ?_; conv => whnf) | (refine AList.full ?_ ?_; (focus (first | exact Nat.le_of_ble_eq_true rfl | (simp; done) | (simp; omega))); conv => whnf) | (refine AList.mk ?_; conv => whnf))
      | (refine LFresh.mk fun r => ?_; conv => whnf)
      | (show KeepL _ _ _; first | (with_reducible exact KeepL.refl) | (refine KeepL.cons ?_; ((try show LHas _ _ _); repeat (with_reducible show LHas _ _ _); first | apply LHas.here | apply LHas.next); ((try show LHas _ _ _); repeat (with_reducible show LHas _ _ _); first | apply LHas.here | apply LHas.next); refine And.intro rfl ?_) | exact KeepL.nil)
      | (show InL _ _; first | exact InL.here | refine InL.next ?_)
      | (show False; (exact T.num))
    all_goals (try dsimp only)
    all_goals first | ((refine RetL.val ?_ ?_; rotate_left; (focus ((repeat' first | exact LSub.nil | (with_reducible exact LSub.refl) | (apply LSub.cons; ((try show LHas _ _ _); repeat (with_reducible show LHas _ _ _); first | apply LHas.here | apply LHas.next); refine And.intro ?_ ?_; (focus (try (first | (with_reducible rfl) | (refine congrArg (Pl.mk _) ?_; (first | rfl | (simp; done))) | rfl | (with_reducible refine congrArg (Pl.mk _) ?_))))))))); rfl) | ((refine RetL.val ?_ ?_; rotate_left; (focus ((repeat' first | exact LSub.nil | (with_reducible exact LSub.refl) | (apply LSub.cons; ((try show LHas _ _ _); repeat (with_reducible show LHas _ _ _); first | apply LHas.here | apply LHas.next); refine And.intro ?_ ?_; (focus (try (first | (with_reducible rfl) | (refine congrArg (Pl.mk _) ?_; (first | rfl | (simp; done))) | rfl | (with_reducible refine congrArg (Pl.mk _) ?_))))))))); simp; done) | (exfalso; simp_all; done)
theorem dse_0 {D : Sm ⊕ Int} (hD : ∀ e, D = .inr e → e ≠ 0) (h : dse D = 0) : ∃ s, D = .inl s := by
  cases D with
  | inl s => exact ⟨s, rfl⟩
  | inr e => exact absurd h (hD e rfl)
theorem fin_err {X : Rdr} {s : Sm} {b : List UInt8} : (∀ e, finR X s b = .inr e → e ≠ 0) ∧ ∀ s', finR X s b = .inl s' → encR s' = (b, 0) := by
  unfold finR
  constructor
  · intro e h
    split at h
    · cases h; decide
    · split at h
      · cases h
      · cases h; decide
  · intro s' h
    split at h
    · cases h
    · split at h
      · rename_i h2; cases h; exact h2
      · cases h
/-- What is decoded is encoded to the same bytes; an error is not 0. -/
def okD (b : List UInt8) (D : Sm ⊕ Int) : Prop := (∀ e, D = .inr e → e ≠ 0) ∧ ∀ s, D = .inl s → encR s = (b, 0)
theorem okD_inr {b : List UInt8} {e : Int} (h : e ≠ 0) : okD b (.inr e) := ⟨fun e' h' => by cases h'; exact h, fun s h' => by cases h'⟩
theorem okD_small {ck : Bool} {X : Rdr} {s : Sm} {b : List UInt8} : okD b (smallR ck X s b) := by
  unfold smallR
  split
  · split
    · exact okD_inr (by decide)
    · split
      · exact okD_inr (by decide)
      · exact fin_err
  · exact fin_err
theorem okD_big {X : Rdr} {s : Sm} {fl : Int} {b : List UInt8} : okD b (bigR X s fl b) := by
  unfold bigR
  split <;> exact fin_err
theorem okD_dec (b : List UInt8) (hb : b.length ≤ 140737488355328) (k : Int) (ck : Bool) : okD b (decR b hb k ck) := by
  unfold decR
  split
  · rename_i h; exact okD_inr h
  · split
    · exact okD_inr (by decide)
    · unfold decB fullR
      (repeat' split) <;> first | exact okD_small | exact okD_big | exact fin_err | exact okD_inr (by decide)
theorem once_e (b : List UInt8) (hb : b.length ≤ 140737488355328) (k : Int) (ck : Bool) (h : dse (decR b hb k ck) = 0) : LSpec Try.prog G 10 [(dsm (decR b hb k ck)).av] [] (fun _ => (.tup [bv b, iAV 0], [])) := by
  have h1 := okD_dec b hb k ck
  obtain ⟨s, hs⟩ := dse_0 h1.1 h
  have he := fencode_c (G := G) s
  rw [h1.2 s hs] at he
  rw [hs]
  unfold dsm
  exact he
set_option maxHeartbeats 2000000 in
theorem once8_c (b : List UInt8) (hb : b.length ≤ 140737488355328) (t : List Int) (ck : Bool) : LSpec Try.prog G 8 [bv b, iv t, .bool ck] [] (fun _ => (.bool true, [])) := by
  by_cases ht : t.length ≤ 400
  · have hl := light_c (G := G) t
    rw [decide_eq_true ht] at hl
    obtain ⟨B, hB, hb1⟩ := enc_small t 0
    have hr := rencode_c (G := G) (smallM t 0)
    rw [hB] at hr
    have h1 := spoil_len t (smallA t 0) B
    refine LSpec.introL tyOk Try.func8 rfl (by kernel_rfl) (by simp) (fun q => ⟨by simp, by simp⟩) ?_
    refine AWpL.sound tyOk [] _ _ _ _ ?_
    conv => whnf
    repeat' first
      | (show LHas _ _ _; ((try show LHas _ _ _); repeat (with_reducible show LHas _ _ _); first | apply LHas.here | apply LHas.next); conv => whnf)
      | ((first | (with_reducible refine And.intro ?_ ?_) | refine And.intro ?_ ?_); (focus (first | exact T.side)); conv => whnf)
      | (show LCall _ _ _ _ _ _; first | (refine LCall.pure (hl) ?_; conv => whnf) | (refine LCall.pure (fawake_c) ?_; conv => whnf) | (refine LCall.own (roll_c t) ?_; conv => whnf) | (apply LCall.upd (dsmall_c t _ ht _); ((try show LHas _ _ _); repeat (with_reducible show LHas _ _ _); first | apply LHas.here | apply LHas.next); refine And.intro rfl ?_; conv => whnf) | (apply LCall.upd (next_c t _ _ ht _); ((try show LHas _ _ _); repeat (with_reducible show LHas _ _ _); first | apply LHas.here | apply LHas.next); refine And.intro rfl ?_; conv => whnf) | (refine LCall.pure (hr) ?_; conv => whnf) | (apply LCall.upd (dspoil_c t _ B (by omega) ht _); ((try show LHas _ _ _); repeat (with_reducible show LHas _ _ _); first | apply LHas.here | apply LHas.next); refine And.intro rfl ?_; conv => whnf) | (refine LCall.pure (fdecode_d b hb _ _) ?_; conv => whnf) | (refine LCall.pure (fdecode_d (spoilR t _ B) (by omega) _ _) ?_; conv => whnf) | (refine LCall.pure (once_e b hb _ _ (by first | assumption | omega)) ?_; conv => whnf) | (refine LCall.pure (once_e (spoilR t _ B) (by omega) _ _ (by first | assumption | omega)) ?_; conv => whnf) | (refine LCall.pure (sameT_c _) ?_; conv => whnf) | (apply LCall.eq; (focus (repeat first | (apply cons_congr; (focus (first | exact sl_bv rfl | exact sl_bv (by first | (simp; done) | (simp; (exact T.num))) | exact rfl))) | exact rfl)); first | (refine LCall.pure (hl) ?_; conv => whnf) | (refine LCall.pure (fawake_c) ?_; conv => whnf) | (refine LCall.own (roll_c t) ?_; conv => whnf) | (apply LCall.upd (dsmall_c t _ ht _); ((try show LHas _ _ _); repeat (with_reducible show LHas _ _ _); first | apply LHas.here | apply LHas.next); refine And.intro rfl ?_; conv => whnf) | (apply LCall.upd (next_c t _ _ ht _); ((try show LHas _ _ _); repeat (with_reducible show LHas _ _ _); first | apply LHas.here | apply LHas.next); refine And.intro rfl ?_; conv => whnf) | (refine LCall.pure (hr) ?_; conv => whnf) | (apply LCall.upd (dspoil_c t _ B (by omega) ht _); ((try show LHas _ _ _); repeat (with_reducible show LHas _ _ _); first | apply LHas.here | apply LHas.next); refine And.intro rfl ?_; conv => whnf) | (refine LCall.pure (fdecode_d b hb _ _) ?_; conv => whnf) | (refine LCall.pure (fdecode_d (spoilR t _ B) (by omega) _ _) ?_; conv => whnf) | (refine LCall.pure (once_e b hb _ _ (by first | assumption | omega)) ?_; conv => whnf) | (refine LCall.pure (once_e (spoilR t _ B) (by omega) _ _ (by first | assumption | omega)) ?_; conv => whnf) | (refine LCall.pure (sameT_c _) ?_; conv => whnf)))
      | (show ABr _ _ _; first | (refine ABr.tt ?_; conv => whnf) | (refine ABr.ff ?_; conv => whnf) | (refine ABr.byN ?_) | ((with_reducible refine ABr.lssT (by assumption) ?_); conv => whnf) | ((with_reducible refine ABr.lssF (by assumption) ?_); conv => whnf) | ((with_reducible refine ABr.lss (fun h => ?_) (fun h => ?_)) <;> first | (exfalso; omega) | conv => whnf) | ((with_reducible refine ABr.neqT (by assumption) ?_); conv => whnf) | ((with_reducible refine ABr.neqF (by assumption) ?_); conv => whnf) | ((with_reducible refine ABr.neq (fun h => ?_) (fun h => ?_)) <;> first | (exfalso; omega) | conv => whnf) | (refine ABr.byT (by with_reducible assumption) ?_; conv => whnf) | (refine ABr.byF (by with_reducible assumption) ?_; conv => whnf) | ((with_reducible refine ABr.decT rfl ?_); conv => whnf) | ((with_reducible refine ABr.decT (by assumption) ?_); conv => whnf) | ((with_reducible refine ABr.decF (by assumption) ?_); conv => whnf) | (refine ABr.dec (fun h => ?_) (fun h => ?_) <;> first | (exfalso; omega) | conv => whnf) | (refine ABr.gen (fun h => ?_) (fun h => ?_) <;> conv => whnf))
      | (show ACell _ _ _; first | (refine ACell.cell 0 ?_ ?_; (focus (first | exact T.side)); conv => whnf) | (refine ACell.mk ?_; conv => whnf))
      | (show AList _ _; first | (refine AList.app ?_ ?_; (focus (first | exact T.side)); conv => whnf) | (refine AList.set (x := b8 _) (bAV_b8 _).symm ?_ ?_; (focus (first | exact T.side)); conv => whnf) | (refine AList.set (f := iAV) rfl ?_ ?_; (focus (first | exact T.side)); conv => whnf) | (refine AList.part ?_; conv => whnf) | (refine AList.force ?_; (conv => whnf); refine Lit.mk ?_; conv => whnf) | (refine AList.full ?_ ?_; (focus (first | exact Nat.le_of_ble_eq_true rfl | (simp; done) | (simp; omega))); conv => whnf) | (refine AList.mk ?_; conv => whnf))
      | (refine LFresh.mk fun r => ?_; conv => whnf)
      | (show SWpL _ _ _ _ _ _ _; first | (refine SWpL.times 7 3 (by rfl) ?_; conv => whnf) | (apply SWpL.draw tyOk mixed (id := 9) [[], [0], [1, 0], [], [3], [4, 3], [], [2, 1, 0, 5, 4, 3, 6], [7, 2, 1, 0, 5, 4, 3, 6], [8, 7, 2, 1, 0, 5, 4, 3, 6], [8, 7, 2, 1, 0, 5, 4, 3, 6], [], [11, 9, 8, 7, 2, 1, 0, 5, 4, 3, 6], [10, 8, 7, 2, 1, 0, 5, 4, 3, 6, 12, 11, 9]] [2, 4] [0, 1, 2, 3, 6, 4, 5, 7, 8, 9, 10, 11, 12, 13] [_] (by kernel_rfl); conv => whnf) | (apply SWpL.draw tyOk mixed (id := 9) [[], [0], [1, 0], [], [3], [4, 3], [], [2, 1, 0, 5, 4, 3, 6], [7, 2, 1, 0, 5, 4, 3, 6], [8, 7, 2, 1, 0, 5, 4, 3, 6], [8, 7, 2, 1, 0, 5, 4, 3, 6], [], [11, 9, 8, 7, 2, 1, 0, 5, 4, 3, 6], [10, 8, 7, 2, 1, 0, 5, 4, 3, 6, 12, 11, 9]] [2, 4] [0, 1, 2, 3, 6, 4, 5, 7, 8, 9, 10, 11, 12, 13] [] (by kernel_rfl); conv => whnf) | (refine AtL.step tyOk [] ?_; conv => whnf))
      | (show KeepL _ _ _; first | (with_reducible exact KeepL.refl) | (refine KeepL.cons ?_; ((try show LHas _ _ _); repeat (with_reducible show LHas _ _ _); first | apply LHas.here | apply LHas.next); ((try show LHas _ _ _); repeat (with_reducible show LHas _ _ _); first | apply LHas.here | apply LHas.next); refine And.intro rfl ?_) | exact KeepL.nil)
      | (show InL _ _; first | exact InL.here | refine InL.next ?_)
      | (show False; (exact T.num))
      | exact Nm.b 0
    all_goals (try dsimp only)
    all_goals first | ((refine RetL.val ?_ ?_; rotate_left; (focus ((repeat' first | exact LSub.nil | (with_reducible exact LSub.refl) | (apply LSub.cons; ((try show LHas _ _ _); repeat (with_reducible show LHas _ _ _); first | apply LHas.here | apply LHas.next); refine And.intro ?_ ?_; (focus (try (first | (with_reducible rfl) | (refine congrArg (Pl.mk _) ?_; (first | rfl | (simp; done))) | rfl | (with_reducible refine congrArg (Pl.mk _) ?_))))))))); rfl) | ((refine RetL.val ?_ ?_; rotate_left; (focus ((repeat' first | exact LSub.nil | (with_reducible exact LSub.refl) | (apply LSub.cons; ((try show LHas _ _ _); repeat (with_reducible show LHas _ _ _); first | apply LHas.here | apply LHas.next); refine And.intro ?_ ?_; (focus (try (first | (with_reducible rfl) | (refine congrArg (Pl.mk _) ?_; (first | rfl | (simp; done))) | rfl | (with_reducible refine congrArg (Pl.mk _) ?_))))))))); simp; done) | (exfalso; simp_all; done) | trace_state
  · have hl := light_c (G := G) t
    rw [decide_eq_false ht] at hl
    refine LSpec.introL tyOk Try.func8 rfl (by kernel_rfl) (by simp) (fun q => ⟨by simp, by simp⟩) ?_
    refine AWpL.sound tyOk [] _ _ _ _ ?_
    conv => whnf
    repeat' first
      | (show LHas _ _ _; ((try show LHas _ _ _); repeat (with_reducible show LHas _ _ _); first | apply LHas.here | apply LHas.next); conv => whnf)
      | ((first | (with_reducible refine And.intro ?_ ?_) | refine And.intro ?_ ?_); (focus (first | exact T.side)); conv => whnf)
      | (show LCall _ _ _ _ _ _; first | (refine LCall.pure (hl) ?_; conv => whnf) | (refine LCall.pure (fawake_c) ?_; conv => whnf) | (apply LCall.eq; (focus (repeat first | (apply cons_congr; (focus (first | exact sl_bv rfl | exact sl_bv (by first | (simp; done) | (simp; (exact T.num))) | exact rfl))) | exact rfl)); first | (refine LCall.pure (hl) ?_; conv => whnf) | (refine LCall.pure (fawake_c) ?_; conv => whnf)))
      | (show ABr _ _ _; first | (refine ABr.tt ?_; conv => whnf) | (refine ABr.ff ?_; conv => whnf) | (refine ABr.byN ?_) | ((with_reducible refine ABr.lssT (by assumption) ?_); conv => whnf) | ((with_reducible refine ABr.lssF (by assumption) ?_); conv => whnf) | ((with_reducible refine ABr.lss (fun h => ?_) (fun h => ?_)) <;> first | (exfalso; omega) | conv => whnf) | ((with_reducible refine ABr.neqT (by assumption) ?_); conv => whnf) | ((with_reducible refine ABr.neqF (by assumption) ?_); conv => whnf) | ((with_reducible refine ABr.neq (fun h => ?_) (fun h => ?_)) <;> first | (exfalso; omega) | conv => whnf) | (refine ABr.byT (by with_reducible assumption) ?_; conv => whnf) | (refine ABr.byF (by with_reducible assumption) ?_; conv => whnf) | ((with_reducible refine ABr.decT rfl ?_); conv => whnf) | ((with_reducible refine ABr.decT (by assumption) ?_); conv => whnf) | ((with_reducible refine ABr.decF (by assumption) ?_); conv => whnf) | (refine ABr.dec (fun h => ?_) (fun h => ?_) <;> first | (exfalso; omega) | conv => whnf) | (refine ABr.gen (fun h => ?_) (fun h => ?_) <;> conv => whnf))
      | (show ACell _ _ _; first | (refine ACell.cell 0 ?_ ?_; (focus (first | exact T.side)); conv => whnf) | (refine ACell.mk ?_; conv => whnf))
      | (show AList _ _; first | (refine AList.app ?_ ?_; (focus (first | exact T.side)); conv => whnf) | (refine AList.set (x := b8 _) (bAV_b8 _).symm ?_ ?_; (focus (first | exact T.side)); conv => whnf) | (refine AList.set (f := iAV) rfl ?_ ?_; (focus (first | exact T.side)); conv => whnf) | (refine AList.part ?_; conv => whnf) | (refine AList.force ?_; (conv => whnf); refine Lit.mk ?_; conv => whnf) | (refine AList.full ?_ ?_; (focus (first | exact Nat.le_of_ble_eq_true rfl | (simp; done) | (simp; omega))); conv => whnf) | (refine AList.mk ?_; conv => whnf))
      | (refine LFresh.mk fun r => ?_; conv => whnf)
      | (show SWpL _ _ _ _ _ _ _; first | (apply SWpL.draw tyOk mixed (id := 9) [[], [0], [1, 0], [], [3], [4, 3], [], [2, 1, 0, 5, 4, 3, 6], [7, 2, 1, 0, 5, 4, 3, 6], [8, 7, 2, 1, 0, 5, 4, 3, 6], [8, 7, 2, 1, 0, 5, 4, 3, 6], [], [11, 9, 8, 7, 2, 1, 0, 5, 4, 3, 6], [10, 8, 7, 2, 1, 0, 5, 4, 3, 6, 12, 11, 9]] [2, 4] [0, 1, 2, 3, 6, 4, 5, 7, 8, 9, 10, 11, 12, 13] [] (by kernel_rfl); conv => whnf))
      | (show KeepL _ _ _; first | (with_reducible exact KeepL.refl) | (refine KeepL.cons ?_; ((try show LHas _ _ _); repeat (with_reducible show LHas _ _ _); first | apply LHas.here | apply LHas.next); ((try show LHas _ _ _); repeat (with_reducible show LHas _ _ _); first | apply LHas.here | apply LHas.next); refine And.intro rfl ?_) | exact KeepL.nil)
      | (show InL _ _; first | exact InL.here | refine InL.next ?_)
      | (show False; (exact T.num))
      | exact Nm.b 0
    all_goals (try dsimp only)
    all_goals first | ((refine RetL.val ?_ ?_; rotate_left; (focus ((repeat' first | exact LSub.nil | (with_reducible exact LSub.refl) | (apply LSub.cons; ((try show LHas _ _ _); repeat (with_reducible show LHas _ _ _); first | apply LHas.here | apply LHas.next); refine And.intro ?_ ?_; (focus (try (first | (with_reducible rfl) | (refine congrArg (Pl.mk _) ?_; (first | rfl | (simp; done))) | rfl | (with_reducible refine congrArg (Pl.mk _) ?_))))))))); rfl) | ((refine RetL.val ?_ ?_; rotate_left; (focus ((repeat' first | exact LSub.nil | (with_reducible exact LSub.refl) | (apply LSub.cons; ((try show LHas _ _ _); repeat (with_reducible show LHas _ _ _); first | apply LHas.here | apply LHas.next); refine And.intro ?_ ?_; (focus (try (first | (with_reducible rfl) | (refine congrArg (Pl.mk _) ?_; (first | rfl | (simp; done))) | rfl | (with_reducible refine congrArg (Pl.mk _) ?_))))))))); simp; done) | (exfalso; simp_all; done)
end Go.Proofs.Ytnlpjbedkdhlbaa
