import Derived.Test.YtnlpjbedkdhlbaaFmt21
namespace Go.Proofs.Ytnlpjbedkdhlbaa
open Go.RowKit
set_option linter.all false
variable {G : Nat → AV}
/-- What Decode returns: parts, all nought where there is an error (no payload reads as an empty one). -/
def dsm : Sm ⊕ Int → Sm
  | .inl s => s
  | .inr _ => s0 0 0
theorem LSpec.weak {P : Program} {f : FuncId} {args : List AV} {x y : AV} (h : LSpec P G f args [] (fun _ => (x, []))) (hw : ∀ σ w v, Rd σ w x v → Rd σ w y v) : LSpec P G f args [] (fun _ => (y, [])) :=
  ⟨h.1, fun q => ⟨by simp, by simp⟩, fun τ w vs h1 h2 h3 h4 h5 => (h.2.2 τ w vs h1 h2 h3 h4 h5).mono fun e w' ⟨v, q, k1, k2, k3, k4, k5, k6⟩ => ⟨v, q, k1, k2, k3, hw _ _ _ k4, k5, k6⟩⟩
theorem weak_agg {σ : Store} {w : World} (l : List AV) (v : Value) (h : Rd σ w (.agg (l ++ [.nils])) v) : Rd σ w (.agg (l ++ [.sl 0 []])) v := by
  obtain ⟨cs, vs, h1, h2⟩ : ∃ cs : List AV, ∃ vs : Array Value, v = .agg vs ∧ (l ++ [AV.nils]).length = vs.size ∧ ∀ i, i < (l ++ [AV.nils]).length → Rd σ w ((l ++ [AV.nils]).getD i .any) (vs.getD i undef) := by
    cases h with
    | agg cs vs h hc => exact ⟨[], vs, rfl, h, hc⟩
  obtain ⟨rfl, h2, h3⟩ := (⟨h1, h2⟩ : _ ∧ _ ∧ _)
  refine .agg _ _ (by simpa using h2) fun i hi => ?_
  have h4 := h3 i (by simpa using hi)
  by_cases hl : i < l.length
  · simpa [List.getD_eq_getElem?_getD, List.getElem?_append_left hl] using h4
  · have hi' : i = l.length := by simp at hi; omega
    subst hi'
    simp only [List.getD_eq_getElem?_getD, List.getElem?_append_right (Nat.le_refl _), Nat.sub_self, List.getElem?_cons_zero, Option.getD_some] at h4 ⊢
    generalize vs.getD l.length undef = u at h4 ⊢
    cases h4
    exact .slnil
theorem LSpec.warg {P : Program} {f : FuncId} {args args' : List AV} {x : AV} (h : LSpec P G f args [] (fun _ => (x, []))) (hw : ∀ σ w vs, RdL σ w args' vs → RdL σ w args vs) : LSpec P G f args' [] (fun _ => (x, [])) :=
  ⟨h.1, fun q => ⟨by simp, by simp⟩, fun τ w vs h1 h2 h3 h4 h5 => h.2.2 τ w vs h1 h2 h3 h4 (hw _ _ _ h5)⟩
theorem warg_agg {σ : Store} {w : World} (l : List AV) (vs : Array Value) (h : RdL σ w [.agg (l ++ [.nils])] vs) : RdL σ w [.agg (l ++ [.sl 0 []])] vs :=
  ⟨h.1, fun i hi => match i, hi with | 0, hi => weak_agg l _ (h.2 0 hi)⟩
theorem weak_dsv {σ : Store} {w : World} (D : Sm ⊕ Int) (v : Value) (h : Rd σ w (de D) v) : Rd σ w (.tup [(dsm D).av, iAV (dse D)]) v := by
  cases D with
  | inl s => exact h
  | inr e =>
    unfold de at h
    generalize hx : [dsv (.inr e), iAV (dse (.inr e))] = l at h
    cases h with
    | tup cs vs h hc =>
      subst hx
      refine .tup _ _ h fun i hi => ?_
      have h4 := hc i hi
      match i, hi with
      | 0, _ => exact weak_agg [iAV 0, iAV 0, iAV 0, iAV 0, iAV 0, iAV 0, iAV 0, iAV 0, iAV 0, iAV 0, iAV 0, iAV 0, iAV 0, iAV 0, iAV 0, iAV 0, iAV 0, iAV 0, iAV 0, iAV 0, iAV 0, iAV 0, iAV 0, iAV 0, iAV 0] _ h4
      | 1, _ => exact h4
theorem fdecode_d (b : List UInt8) (hb : b.length ≤ 140737488355328) (k : Int) (ck : Bool) : LSpec Try.prog G 23 [bv b, iAV k, .bool ck] [] (fun _ => (.tup [(dsm (decR b hb k ck)).av, iAV (dse (decR b hb k ck))], [])) := (fdecode_c b hb k ck).weak fun _ _ => weak_dsv _
theorem rdecode_d (b : List UInt8) (hb : b.length ≤ 140737488355328) (k : Int) (ck : Bool) : LSpec Try.prog G 24 [bv b, iAV k, .bool ck] [] (fun _ => (.tup [(dsm (decR b hb k ck)).av, iAV (dse (decR b hb k ck))], [])) := (rdecode_c b hb k ck).weak fun _ _ => weak_dsv _
attribute [irreducible] dsm
theorem sameT_c (a : List UInt8) : LSpec Try.prog G 15 [bv a, bv a] [] (fun _ => (.bool true, [])) := by
  have h := same_c (G := G) a a
  rwa [decide_eq_true (rfl : a = a)] at h
set_option maxHeartbeats 1000000 in
/-- The reference's Same of what is the same. -/
theorem rsame8_c (s : Sm) : LSpec Try.prog G 25 [s.av, s.av] [] (fun _ => (.bool true, [])) := by
  refine LSpec.introL tyOk Try.func25 rfl (by kernel_rfl) (by simp) (fun q => ⟨by simp, by simp⟩) ?_
  refine AWpL.sound tyOk [] _ _ _ _ ?_
  conv => whnf
  repeat' first
    | (show LHas _ _ _; ((try show LHas _ _ _); repeat (with_reducible show LHas _ _ _); first | apply LHas.here | apply LHas.next); conv => whnf)
    | ((first | (with_reducible refine And.intro ?_ ?_) | refine And.intro ?_ ?_); (focus (first | exact T.side)); conv => whnf)
    | (show LCall _ _ _ _ _ _; first | (refine LCall.pure (sameT_c _) ?_; conv => whnf) | (apply LCall.eq; (focus (repeat first | (apply cons_congr; (focus (first | exact sl_bv rfl | exact sl_bv (by first | (simp; done) | (simp; (exact T.num))) | exact rfl))) | exact rfl)); first | (refine LCall.pure (sameT_c _) ?_; conv => whnf)))
    | (show ABr _ _ _; first | (refine ABr.tt ?_; conv => whnf) | (refine ABr.ff ?_; conv => whnf) | (refine ABr.byN ?_) | ((with_reducible refine ABr.eqlT (by assumption) ?_); conv => whnf) | ((with_reducible refine ABr.eqlF (by assumption) ?_); conv => whnf) | ((with_reducible refine ABr.eql (fun h => ?_) (fun h => ?_)) <;> first | (exfalso; omega) | conv => whnf) | (refine ABr.byT (by with_reducible assumption) ?_; conv => whnf) | (refine ABr.byF (by with_reducible assumption) ?_; conv => whnf) | ((with_reducible refine ABr.decT rfl ?_); conv => whnf) | ((with_reducible refine ABr.decT (by assumption) ?_); conv => whnf) | ((with_reducible refine ABr.decF (by assumption) ?_); conv => whnf) | (refine ABr.dec (fun h => ?_) (fun h => ?_) <;> first | (exfalso; omega) | conv => whnf) | (refine ABr.gen (fun h => ?_) (fun h => ?_) <;> conv => whnf))
    | (show ACell _ _ _; first | (refine ACell.cell 0 ?_ ?_; (focus (first | exact T.side)); conv => whnf) | (refine ACell.mk ?_; conv => whnf))
    | (show AList _ _; first | (refine AList.app ?_ ?_; (focus (first | exact T.side)); conv => whnf) | (refine AList.set (x := b8 _) (bAV_b8 _).symm ?_ ?_; (focus (first | exact T.side)); conv => whnf) | (refine AList.set (f := iAV) rfl ?_ ?_; (focus (first | exact T.side)); conv => whnf) | (refine AList.part ?_; conv => whnf) | (refine AList.force ?_; (conv => whnf); refine Lit.mk ?_; conv => whnf) | (refine AList.full ?_ ?_; (focus (first | exact Nat.le_of_ble_eq_true rfl | (simp; done) | (simp; omega))); conv => whnf) | (refine AList.mk ?_; conv => whnf))
    | (refine LFresh.mk fun r => ?_; conv => whnf)
    | (show SWpL _ _ _ _ _ _ _; first | (apply SWpL.draw tyOk mixed (id := 1) [[], [], [], [], [2, 0, 3], [3, 1, 4, 2, 0]] [1, 4] [0, 1, 2, 3, 4, 5] [_] (by kernel_rfl); conv => whnf) | (apply SWpL.draw tyOk mixed (id := 1) [[], [], [], [], [2, 0, 3], [3, 1, 4, 2, 0]] [1, 4] [0, 1, 2, 3, 4, 5] [] (by kernel_rfl); conv => whnf))
    | (show KeepL _ _ _; first | (with_reducible exact KeepL.refl) | (refine KeepL.cons ?_; ((try show LHas _ _ _); repeat (with_reducible show LHas _ _ _); first | apply LHas.here | apply LHas.next); ((try show LHas _ _ _); repeat (with_reducible show LHas _ _ _); first | apply LHas.here | apply LHas.next); refine And.intro rfl ?_) | exact KeepL.nil)
    | (show InL _ _; first | exact InL.here | refine InL.next ?_)
    | (show False; (exact T.num))
    | exact Nm.b 0
  all_goals (try dsimp only)
  all_goals first
    | (exfalso; simp [alleq] at h; done)
    | ((refine RetL.val ?_ ?_; rotate_left; (focus ((repeat' first | exact LSub.nil | (with_reducible exact LSub.refl) | (apply LSub.cons; ((try show LHas _ _ _); repeat (with_reducible show LHas _ _ _); first | apply LHas.here | apply LHas.next); refine And.intro ?_ ?_; (focus (try (first | (with_reducible rfl) | (refine congrArg (Pl.mk _) ?_; (first | rfl | (simp; done))) | rfl | (with_reducible refine congrArg (Pl.mk _) ?_))))))))); simp [icmp]; done)
def awS : Sm := ⟨0, 1, 10, 0, 0, 0, 0, ⟨1, 0, 0, 0, 0, 0, 0, 0, 0, 0, 0, 0, 0, 0, 0⟩, ⟨0, 0⟩, 3, []⟩
def awF : Sm := ⟨0, 5, 0, 0, 0, 0, 0, ⟨2, 0, 0, 0, 0, 0, 0, 0, 0, 0, 0, 0, 0, 0, 0⟩, ⟨0, 0⟩, 0, []⟩
theorem aw_dec : decR [83] (by decide) 1 false = .inl awS := by kernel_rfl
theorem aw_enc : (encR awF).2 = 0 ∧ (encR awF).1.length = 33 := ⟨by kernel_rfl, by kernel_rfl⟩
set_option maxHeartbeats 1000000 in
theorem fawake_c : LSpec Try.prog G 12 [] [] (fun _ => (.bool true, [])) := by
  obtain ⟨L, hL, hn⟩ : ∃ L : List UInt8, encR awF = (L, 0) ∧ L.length = 33 := ⟨(encR awF).1, Prod.ext rfl aw_enc.1, aw_enc.2⟩
  have hd := fdecode_c (G := G) [83] (by decide) 1 false
  have he : LSpec _ G _ [.agg [iAV 0, iAV 5, iAV 0, iAV 0, iAV 0, iAV 0, iAV 0, iAV 2, iAV 0, iAV 0, iAV 0, iAV 0, iAV 0, iAV 0, iAV 0, iAV 0, iAV 0, iAV 0, iAV 0, iAV 0, iAV 0, iAV 0, iAV 0, iAV 0, iAV 0, .nils]] [] _ := (fencode_c (G := G) awF).warg fun _ _ => warg_agg [iAV 0, iAV 5, iAV 0, iAV 0, iAV 0, iAV 0, iAV 0, iAV 2, iAV 0, iAV 0, iAV 0, iAV 0, iAV 0, iAV 0, iAV 0, iAV 0, iAV 0, iAV 0, iAV 0, iAV 0, iAV 0, iAV 0, iAV 0, iAV 0, iAV 0]
  rw [aw_dec] at hd
  rw [hL] at he
  refine LSpec.introL tyOk Try.func12 rfl (by kernel_rfl) (by simp) (fun q => ⟨by simp, by simp⟩) ?_
  refine AWpL.sound tyOk [] _ _ _ _ ?_
  conv => whnf
  repeat' first
    | (show List.map bAV _ = _; exact rfl)
    | (show LHas _ _ _; ((try show LHas _ _ _); repeat (with_reducible show LHas _ _ _); first | apply LHas.here | apply LHas.next); conv => whnf)
    | ((first | (with_reducible refine And.intro ?_ ?_) | refine And.intro ?_ ?_); (focus (first | exact T.side)); conv => whnf)
    | (show LCall _ _ _ _ _ _; first | (refine LCall.mk' (hd) [_] ⟨LF.row InL.here ?_, LF.eq rfl, LF.eq rfl, trivial⟩ ?_) | (refine LCall.pure (he) ?_; conv => whnf) | (apply LCall.eq; (focus (repeat first | (apply cons_congr; (focus (first | exact sl_bv rfl | exact sl_bv (by first | (simp; done) | (simp; (exact T.num))) | exact rfl))) | exact rfl)); first | (refine LCall.mk' (hd) [_] ⟨LF.row InL.here ?_, LF.eq rfl, LF.eq rfl, trivial⟩ ?_) | (refine LCall.pure (he) ?_; conv => whnf)))
    | (show ABr _ _ _; first | (refine ABr.tt ?_; conv => whnf) | (refine ABr.ff ?_; conv => whnf) | (refine ABr.byN ?_) | ((with_reducible refine ABr.eqlT (by assumption) ?_); conv => whnf) | ((with_reducible refine ABr.eqlF (by assumption) ?_); conv => whnf) | ((with_reducible refine ABr.eql (fun h => ?_) (fun h => ?_)) <;> first | (exfalso; omega) | conv => whnf) | (refine ABr.byT (by with_reducible assumption) ?_; conv => whnf) | (refine ABr.byF (by with_reducible assumption) ?_; conv => whnf) | ((with_reducible refine ABr.decT rfl ?_); conv => whnf) | ((with_reducible refine ABr.decT (by assumption) ?_); conv => whnf) | ((with_reducible refine ABr.decF (by assumption) ?_); conv => whnf) | (refine ABr.dec (fun h => ?_) (fun h => ?_) <;> first | (exfalso; omega) | conv => whnf) | (refine ABr.gen (fun h => ?_) (fun h => ?_) <;> conv => whnf))
    | (show ACell _ _ _; first | (refine ACell.cell 0 ?_ ?_; (focus (first | exact T.side)); conv => whnf) | (refine ACell.mk ?_; conv => whnf))
    | (show AList _ _; first | (refine AList.app ?_ ?_; (focus (first | exact T.side)); conv => whnf) | (refine AList.set (x := b8 _) (bAV_b8 _).symm ?_ ?_; (focus (first | exact T.side)); conv => whnf) | (refine AList.set (f := iAV) rfl ?_ ?_; (focus (first | exact T.side)); conv => whnf) | (refine AList.part ?_; conv => whnf) | (refine AList.force ?_; (conv => whnf); refine Lit.mk ?_; conv => whnf) | (refine AList.full ?_ ?_; (focus (first | exact Nat.le_of_ble_eq_true rfl | (simp; done) | (simp; omega))); conv => whnf) | (refine AList.mk ?_; conv => whnf))
    | (refine LFresh.mk fun r => ?_; conv => whnf)
    | (show KeepL _ _ _; first | (with_reducible exact KeepL.refl) | (refine KeepL.cons ?_; ((try show LHas _ _ _); repeat (with_reducible show LHas _ _ _); first | apply LHas.here | apply LHas.next); ((try show LHas _ _ _); repeat (with_reducible show LHas _ _ _); first | apply LHas.here | apply LHas.next); refine And.intro rfl ?_) | exact KeepL.nil)
    | (show InL _ _; first | exact InL.here | refine InL.next ?_)
    | (show False; (exact T.num))
  all_goals (try dsimp only)
  (refine RetL.val ?_ ?_; rotate_left; (focus ((repeat' first | exact LSub.nil | (with_reducible exact LSub.refl) | (apply LSub.cons; ((try show LHas _ _ _); repeat (with_reducible show LHas _ _ _); first | apply LHas.here | apply LHas.next); refine And.intro ?_ ?_; (focus (try (first | (with_reducible rfl) | (refine congrArg (Pl.mk _) ?_; (first | rfl | (simp; done))) | rfl | (with_reducible refine congrArg (Pl.mk _) ?_)))))))))
  simp [icmp, hn]
end Go.Proofs.Ytnlpjbedkdhlbaa
