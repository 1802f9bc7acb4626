/-
  The abstract machine, seventh part: one operation of the model does what the abstract one says.
-/
import Derived.Test.YtdpfcpkedaolfaaDoorAm6
namespace Go.Proofs.YtdpfcpkedaolfaaDoor
open Go.RowKit

section
variable {P : Program} {T : Tys} {G : Nat → AV} {σ : Store} {w : World}
/-- What an operation has done: a value, nothing, or a call. -/
theorem done_value {o : Oper} {a : Act} {next : Act → World → Prop} {Q : Exit → Act → World → Prop} {s : Sem Value} {K : AV → Store → Prop} (he : execOp a.eval o = (do pure (.value (← s)))) (hd : DoneV P s σ w K)
    (hn : ∀ v w' r σ', K r σ' → Rd σ' w' r v → Mem σ' w' → Stp σ w σ' w' → next (a.put o.dst v) w') : o.wp P a w next Q := by
  obtain ⟨v, w', r, σ', h1, h2, h3, h4, h5⟩ := hd
  unfold Oper.wp
  rw [he, Sem.run_bind, h1]
  exact hn v w' r σ' h2 h3 h4 h5
theorem done_call {o : Oper} {a : Act} {next : Act → World → Prop} {Q : Exit → Act → World → Prop} {f : FuncId} {vs : Array Value} {K : AV → Store → Prop} (he : (execOp a.eval o).run P w = .ok (.enter f vs) w)
    (hd : Calls P f vs w fun e w' => ∃ v r σ', e = .returned v ∧ K r σ' ∧ Rd σ' w' r v ∧ Mem σ' w' ∧ Stp σ w σ' w')
    (hn : ∀ v w' r σ', K r σ' → Rd σ' w' r v → Mem σ' w' → Stp σ w σ' w' → next (a.put o.dst v) w') : o.wp P a w next Q := by
  unfold Oper.wp
  rw [he]
  show Calls P f vs w _
  refine hd.mono ?_
  rintro e w' ⟨v, r, σ', rfl, h1, h2, h3, h4⟩
  exact hn v w' r σ' h1 h2 h3 h4
theorem RdL.map {ρ : Operand → AV} {ρ' : Operand → Value} (hr : ∀ x, Rd σ w (ρ x) (ρ' x)) (xs : Array Operand) : RdL σ w (xs.toList.map ρ) (xs.map ρ') := by
  refine ⟨by simp, fun i hi => ?_⟩
  simp at hi
  have e1 : (xs.toList.map ρ).getD i .any = ρ xs[i] := by simp [List.getD_eq_getElem?_getD, hi]
  have e2 : (xs.map ρ').getD i undef = ρ' xs[i] := by simp [hi]
  rw [e1, e2]
  exact hr _
theorem RdL.app {xs ys : List AV} {vs us : Array Value} (h1 : RdL σ w xs vs) (h2 : RdL σ w ys us) : RdL σ w (xs ++ ys) (vs ++ us) := by
  refine ⟨by simp [h1.1, h2.1], fun i hi => ?_⟩
  simp at hi
  by_cases hlt : i < xs.length
  · have e1 : (xs ++ ys).getD i .any = xs.getD i .any := by simp only [List.getD_eq_getElem?_getD]; rw [List.getElem?_append_left hlt]
    have e2 : (vs ++ us).getD i undef = vs.getD i undef := by simp only [Array.getD_eq_getD_getElem?]; rw [Array.getElem?_append_left (by rw [← h1.1]; exact hlt)]
    rw [e1, e2]; exact h1.2 i hlt
  · have e1 : (xs ++ ys).getD i .any = ys.getD (i - xs.length) .any := by simp only [List.getD_eq_getElem?_getD]; rw [List.getElem?_append_right (by omega)]
    have e2 : (vs ++ us).getD i undef = us.getD (i - xs.length) undef := by simp only [Array.getD_eq_getD_getElem?]; rw [Array.getElem?_append_right (by rw [← h1.1]; omega), h1.1]
    rw [e1, e2]; exact h2.2 _ (by omega)
theorem pairs_fst {ρ : Operand → AV} {ρ' : Operand → Value} (ps : Array (Nat × Operand)) : (ps.toList.map fun x => (x.1, ρ x.2)).map (·.1) = (ps.map fun (i, x) => (i, ρ' x)).toList.map (·.1) := by simp
theorem pairs_rd {ρ : Operand → AV} {ρ' : Operand → Value} (hr : ∀ x, Rd σ w (ρ x) (ρ' x)) (ps : Array (Nat × Operand)) : ∀ i, i < (ps.toList.map fun x => (x.1, ρ x.2)).length →
    Rd σ w ((ps.toList.map fun x => (x.1, ρ x.2)).getD i (0, .any)).2 ((ps.map fun (i, x) => (i, ρ' x)).toList.getD i (0, undef)).2 := by
  intro i hi
  simp at hi
  simp [List.getD_eq_getElem?_getD, hi]
  exact hr _
theorem RdO.map {ρ : Operand → AV} {ρ' : Operand → Value} (hr : ∀ x, Rd σ w (ρ x) (ρ' x)) (x : Option Operand) : RdO σ w (x.map ρ) (x.map ρ') := by
  cases x with
  | none => trivial
  | some x => exact hr x
set_option maxHeartbeats 1000000 in
theorem opA.sound (hT : TOk P T) {o : Oper} {ρ : Operand → AV} {a : Act} {next : Act → World → Prop} {Q : Exit → Act → World → Prop} {K : AV → Store → Prop} (hr : ∀ x, Rd σ w (ρ x) (a.eval x)) (hm : Mem σ w) (hg : Glob G σ w)
    (h : opA P T G o.op ρ σ K) (hn : ∀ v w' r σ', K r σ' → Rd σ' w' r v → Mem σ' w' → Stp σ w σ' w' → next (a.put o.dst v) w') : o.wp P a w next Q := by
  obtain ⟨dst, op, type, pos, after, guard⟩ := o
  simp only at h hn
  have val : ∀ {v : Value} {r : AV}, execOp a.eval ⟨dst, op, type, pos, after, guard⟩ = pure (.value v) → Rd σ w r v → K r σ → Oper.wp P ⟨dst, op, type, pos, after, guard⟩ a w next Q := by
    intro v r he hr hk
    unfold Oper.wp
    rw [he]
    exact hn v w r σ hk hr hm (Stp.refl σ w)
  cases op <;> simp only [opA] at h
  case move x => exact val rfl (hr x) h
  case assign x => exact val rfl (hr x) h
  case pick c x y =>
    split at h
    case h_2 => exact h.elim
    rename_i t hc
    have h1 := hr c
    rw [hc] at h1
    generalize hcv : a.eval c = cv at h1
    cases h1
    cases t with
    | true => exact val (by simp [execOp, hcv, asBool]) (hr x) (h.yes rfl)
    | false => exact val (by simp [execOp, hcv, asBool]) (hr y) (h.no rfl)
  case alloc t => exact done_value rfl (AAlloc.sound hT hm h) hn
  case box t x => exact done_value rfl (ABox.sound hm (hr x) h) hn
  case build t ps => exact done_value rfl (ABd.sound hT hm (pairs_fst ps) (pairs_rd hr ps) h) hn
  case buildSlice t n ps => exact done_value rfl (ABs.sound hT hm (pairs_fst ps) (pairs_rd hr ps) (by have := h.1; unfold maxLen; omega) h.2) hn
  case load t x => exact done_value rfl (ALd.sound hT hm (hr x) h) hn
  case store t x y =>
    obtain ⟨w', σ', h1, h2, h3, h4⟩ := ASt.sound (P := P) hT hm (hr x) (hr y) h
    unfold Oper.wp
    have he : (execOp a.eval ⟨dst, .store t x y, type, pos, after, guard⟩).run P w = .ok .skip w' := by
      simp only [execOp]
      rw [Sem.run_bind, h1]
      rfl
    rw [he]
    exact hn undef w' (.tup []) σ' h2 (.tup [] #[] rfl (by simp)) h3 h4
  case nilCheck x =>
    have h1 := hr x
    generalize hcv : a.eval x = cv at h1
    split at h
    · rename_i p off hx
      rw [hx] at h1
      cases h1
      exact val (v := .pointer (some ⟨_, off, none⟩)) (by simp [execOp, hcv]) (.ptr _ _) h
    · rename_i cs hx
      rw [hx] at h1
      cases h1
      case ip b off f hb hf hc =>
      exact val (v := .pointer (some ⟨b, off, none⟩)) (by simp [execOp, hcv]) (.ip cs b off f hb hf hc) h
    · exact h.elim
  case binOp op t x y yt => exact done_value rfl (ABin.sound hT hm (hr x) (hr y) x y h) hn
  case unOp op t x => exact done_value rfl (AUn.sound hm (hr x) h) hn
  case convert s d x => exact done_value rfl (ACv.sound hT hm (hr x) h) hn
  case makeFunc fn first captured =>
    have h1 := RdL.map hr first
    have h2 := RdL.map hr captured
    exact val (v := .func fn (first.map a.eval) (captured.map a.eval)) (by simp [execOp, Instr.makeFunc]) (.clo _ _ _ _ _ h1.1 h2.1 h1.2 h2.2) h
  case makeSlice t l c => exact done_value rfl (AMk.sound hT hm (hr l) (hr c) h) hn
  case slice t x lo hi mx =>
    cases mx with
    | none => exact done_value rfl (ASl.sound hT hm (hr x) (RdO.map hr lo) (RdO.map hr hi) h) hn
    | some m =>
      cases hi with
      | none => exact h.elim
      | some hi => exact done_value rfl (ASl3.sound hT hm (hr x) (RdO.map hr lo) (hr hi) (hr m) h) hn
  case fieldAddr t x f => exact done_value rfl (AFa.sound hT hm (hr x) h) hn
  case field t x f => exact done_value rfl (AFd.sound hT hm (hr x) h) hn
  case indexAddr t x i => exact done_value rfl (AIx.sound hT hm (hr x) (hr i) h) hn
  case index t x i => exact done_value rfl (AEl.sound hT hm (hr x) (hr i) h) hn
  case extract x i =>
    split at h
    case h_2 => exact h.elim
    rename_i vs hx
    have h1 := hr x
    rw [hx] at h1
    generalize hcv : a.eval x = cv at h1
    cases h1 with
    | tup vs us hl hc =>
      have hlt : i < us.size := by rw [← hl]; exact h.1
      have hv := hc i h.1
      exact val (v := us.getD i undef) (by simp [execOp, hcv, Instr.extract, hlt]) hv h.2
  case call c =>
    obtain ⟨callee, args, argTypes⟩ := c
    simp only at h
    split at h
    · rename_i f
      have hal := RdL.map hr args
      obtain ⟨k1, k2⟩ := ACall.sound hm hg hal h
      refine done_call ?_ k2 hn
      have hfe : a.eval (.func f) = .func (.func f) #[] #[] := rfl
      simp only [execOp, resolve, hfe, Deferred.ofValue, Sem.run_bind, Sem.run_pure, Result.andThen_ok, invoke, Array.append_empty, Array.empty_append]
      exact k1 w
    · rename_i x hx
      split at h
      case h_2 => exact h.elim
      rename_i f fs cs hc
      have h1 := hr x
      rw [hc] at h1
      generalize hcv : a.eval x = cv at h1
      cases h1 with
      | clo fn fs cs vs us l1 l2 c1 c2 =>
        have hal : RdL σ w (fs ++ args.toList.map ρ ++ cs) (vs ++ args.map a.eval ++ us) := ((show RdL σ w fs vs from ⟨l1, c1⟩).app (RdL.map hr args)).app ⟨l2, c2⟩
        obtain ⟨k1, k2⟩ := ACall.sound hm hg hal h
        refine done_call ?_ k2 hn
        simp only [execOp, resolve, hcv, Deferred.ofValue, Sem.run_bind, Sem.run_pure, Result.andThen_ok, invoke]
        exact k1 w
    · split at h
      case h_2 => exact h.elim
      rename_i t x ht hx
      split at h
      case h_2 => exact h.elim
      rename_i sz by_ ag e z hi
      have hu := slice_of (hT t _ hi) rfl
      refine done_value ?_ (ALen.sound (ty := type) hu hm (hr x) h) hn
      have e1 : argTypes = #[t] := by apply Array.ext'; simpa using ht
      have e2 : args = #[x] := by apply Array.ext'; simpa using hx
      subst e1 e2
      simp [execOp, resolve, invoke, builtin]
    · split at h
      case h_2 => exact h.elim
      rename_i t x ht hx
      split at h
      case h_2 => exact h.elim
      rename_i sz by_ ag e z hi
      have hu := slice_of (hT t _ hi) rfl
      refine done_value ?_ (ACap.sound (ty := type) hu hm (hr x) h) hn
      have e1 : argTypes = #[t] := by apply Array.ext'; simpa using ht
      have e2 : args = #[x] := by apply Array.ext'; simpa using hx
      subst e1 e2
      simp [execOp, resolve, invoke, builtin]
    · split at h
      case h_2 => exact h.elim
      rename_i t t' d x ht hx
      have e1 : argTypes = #[t, t'] := by apply Array.ext'; simpa using ht
      have e2 : args = #[d, x] := by apply Array.ext'; simpa using hx
      subst e1 e2
      split at h
      · rename_i k n hd hx'
        have g1 := hr d
        have g2 := hr x
        rw [hd] at g1
        rw [hx'] at g2
        generalize hdv : a.eval d = dv at g1
        generalize hxv : a.eval x = xv at g2
        cases g1; cases g2
        refine done_value ?_ (AGz.sound (ty := type) (k := k) hT hm h) hn
        simp [execOp, resolve, invoke, builtin, hdv, hxv]
      · obtain ⟨rfl, h⟩ := h
        refine done_value ?_ (AAp.sound (ty := type) hT hm (hr d) (hr x) h) hn
        simp [execOp, resolve, invoke, builtin]
    · split at h
      case h_2 => exact h.elim
      rename_i t t' d x ht hx
      refine done_value ?_ (ACp.sound (t' := t') (ty := type) hT hm (hr d) (hr x) h) hn
      have e1 : argTypes = #[t, t'] := by apply Array.ext'; simpa using ht
      have e2 : args = #[d, x] := by apply Array.ext'; simpa using hx
      subst e1 e2
      simp [execOp, resolve, invoke, builtin]
    · split at h
      case h_2 => exact h.elim
      rename_i x y hx
      have e2 : args = #[x, y] := by apply Array.ext'; simpa using hx
      subst e2
      unfold AMin at h
      split at h
      case h_2 => exact h.elim
      rename_i k p k' q h1 h2
      have r1 := hr x
      have r2 := hr y
      rw [h1] at r1
      rw [h2] at r2
      have g1 := r1.int_eq
      have g2 := r2.int_eq
      refine done_value (s := Builtin.min_ argTypes type #[a.eval x, a.eval y]) (by simp [execOp, resolve, invoke, builtin]) (DoneV.same hm (v := .int k (if q < p then q else p)) ?_ (.int _ _) (by simpa using h)) hn
      simp [Builtin.min_, g1, g2, Builtin.min2]
    · split at h
      case h_2 => exact h.elim
      rename_i x y hx
      have e2 : args = #[x, y] := by apply Array.ext'; simpa using hx
      subst e2
      unfold AMin at h
      split at h
      case h_2 => exact h.elim
      rename_i k p k' q h1 h2
      have r1 := hr x
      have r2 := hr y
      rw [h1] at r1
      rw [h2] at r2
      have g1 := r1.int_eq
      have g2 := r2.int_eq
      refine done_value (s := Builtin.max_ argTypes type #[a.eval x, a.eval y]) (by simp [execOp, resolve, invoke, builtin]) (DoneV.same hm (v := .int k (if p < q then q else p)) ?_ (.int _ _) (by simpa using h)) hn
      simp [Builtin.max_, g1, g2, Builtin.max2]
    · exact h.elim
end
end Go.Proofs.YtdpfcpkedaolfaaDoor
