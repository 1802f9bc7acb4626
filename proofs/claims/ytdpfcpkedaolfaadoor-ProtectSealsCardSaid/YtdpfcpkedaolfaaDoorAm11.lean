/-
  The abstract machine, eleventh part: a region whose order is drawn does what it does in one order.
-/
import Derived.Test.YtdpfcpkedaolfaaDoorAm10
namespace Go.Proofs.YtdpfcpkedaolfaaDoor
open Go.RowKit

section
variable {P : Program} {T : Tys} {G : Nat → AV} {N : Nat}
/-- A load that may come at any time loads from a place that is kept. -/
def ldPr (Pr : Nm → Prop) (fr : Bool) (op : Op) (ρ : Operand → AV) : Prop :=
  match fr, op with
  | true, .load _ x => (match ρ x with | .ptr p _ => Pr p | _ => True)
  | _, _ => True
/-- An operation that is moved past such a load keeps those places. -/
def keepC (Pr : Nm → Prop) (fr : Bool) (σ σ' : Store) : Prop :=
  match fr with
  | true => ∀ p, Pr p → σ' p = σ p
  | false => True
/-- An operation in such a region: places that are kept ('Pr') are not written; what is loaded at any time lies in them. -/
def opD (P : Program) (T : Tys) (G : Nat → AV) (Pr : Nm → Prop) (fr : Bool) (op : Op) (ρ : Operand → AV) (σ : Store) (K : AV → Store → Prop) : Prop :=
  match cls op with
  | 3 => opA P T G op ρ σ fun v σ' => keepC Pr fr σ σ' ∧ K v σ'
  | 1 => ldPr Pr fr op ρ ∧ opA P T G op ρ σ K
  | _ => opA P T G op ρ σ K
theorem opD.imp {Pr : Nm → Prop} {fr : Bool} {op : Op} {ρ : Operand → AV} {σ : Store} {K : AV → Store → Prop} (h : opD P T G Pr fr op ρ σ K) : opA P T G op ρ σ K := by
  unfold opD at h
  split at h
  · exact op_mono op ρ _ _ _ h fun _ _ h => h.2
  · exact h.2
  · exact h
theorem cls_cases (op : Op) : cls op = 0 ∨ cls op = 1 ∨ cls op = 2 ∨ cls op = 3 := by
  unfold cls
  split <;> first | simp | (split <;> simp)
theorem opD0 {Pr : Nm → Prop} {fr : Bool} {op : Op} (h : cls op = 0) (ρ : Operand → AV) : opD P T G Pr fr op ρ = opA P T G op ρ := by
  funext σ K; simp only [opD, h]
theorem opD2 {Pr : Nm → Prop} {fr : Bool} {op : Op} (h : cls op = 2) (ρ : Operand → AV) : opD P T G Pr fr op ρ = opA P T G op ρ := by
  funext σ K; simp only [opD, h]
theorem opD3 {Pr : Nm → Prop} {fr : Bool} {op : Op} (h : cls op = 3) (ρ : Operand → AV) : opD P T G Pr fr op ρ = fun σ K => opA P T G op ρ σ fun v σ' => keepC Pr fr σ σ' ∧ K v σ' := by
  funext σ K; simp only [opD, h]
theorem load_of {op : Op} (h : cls op = 1) : ∃ t x, op = .load t x := by
  cases op <;> first | (cases h; done) | exact ⟨_, _, rfl⟩ | skip
  case call c =>
    obtain ⟨callee, args, argTypes⟩ := c
    cases callee with
    | value f => cases h
    | invoke r m => cases h
    | builtin b => cases b <;> cases h
/-- What a load does. -/
theorem opD1 {Pr : Nm → Prop} {fr : Bool} {op : Op} (h : cls op = 1) {ρ : Operand → AV} {σ : Store} {K : AV → Store → Prop} (hx : opD P T G Pr fr op ρ σ K) :
    ∃ u, K u σ ∧ ∀ σ' K', (∀ p, (fr = true → Pr p) → σ p ≠ none → σ' p = σ p) → (opD P T G Pr fr op ρ σ' K' ↔ K' u σ') := by
  obtain ⟨t, x, rfl⟩ := load_of h
  have hc : ldPr Pr fr (.load t x) ρ ∧ ALd T t (ρ x) σ fun v => K v σ := hx
  obtain ⟨h1, h2⟩ := hc
  obtain ⟨u, h3, h4⟩ := load_same h2
  refine ⟨u, h3, fun σ' K' ha => ?_⟩
  have key : ALd T t (ρ x) σ' (fun v => K' v σ') ↔ K' u σ' := h4 σ' _ fun p o hp => by
    refine ha p (fun hf => ?_) (fun hn => ?_)
    · subst hf
      have h5 : (match ρ x with | .ptr p _ => Pr p | _ => True) := h1
      rw [hp] at h5
      exact h5
    · unfold ALd at h2
      rw [hp] at h2
      cases ht : T t with
      | none => simp [ht] at h2
      | some i =>
        simp only [ht] at h2
        obtain ⟨⟨c, g1, -⟩⟩ := h2
        rw [hn] at g1
        cases g1
  constructor
  · intro hd
    exact key.1 hd.2
  · intro hk
    exact ⟨h1, key.2 hk⟩
theorem opD_mono (Pr : Nm → Prop) (fr : Bool) (op : Op) (ρ : Operand → AV) : Mono (opD P T G Pr fr op ρ) := fun σ K K' hx hk => by
  unfold opD at hx ⊢
  split at hx
  · exact op_mono op ρ _ _ _ hx fun _ _ h => ⟨h.1, hk _ _ h.2⟩
  · exact ⟨hx.1, op_mono op ρ _ _ _ hx.2 hk⟩
  · exact op_mono op ρ _ _ _ hx hk
theorem opD_nonv (Pr : Nm → Prop) (fr : Bool) (op : Op) (ρ : Operand → AV) : NonV (opD P T G Pr fr op ρ) := fun σ K hf hx => by
  rcases cls_cases op with h | h | h | h
  · rw [opD0 h] at hx; exact (op_pure h ρ).nonv σ K hf hx
  · obtain ⟨u, hu, -⟩ := opD1 h hx
    exact ⟨u, σ, hu⟩
  · rw [opD2 h] at hx; exact (op_alloc h ρ).nonv σ K hf hx
  · rw [opD3 h] at hx
    obtain ⟨v, σ', h1⟩ := (op_rest h ρ).2.1 σ _ hf hx
    exact ⟨v, σ', h1.2⟩
theorem opD_fin (Pr : Nm → Prop) (fr : Bool) (op : Op) (ρ : Operand → AV) : FinK (opD P T G Pr fr op ρ) := fun σ K hf hx => by
  rcases cls_cases op with h | h | h | h
  · rw [opD0 h] at hx ⊢; exact (op_pure h ρ).fin σ K hf hx
  · obtain ⟨u, hu, h2⟩ := opD1 h hx
    exact (h2 σ _ fun _ _ _ => rfl).2 ⟨hf, hu⟩
  · rw [opD2 h] at hx ⊢; exact (op_alloc h ρ).fin σ K hf hx
  · rw [opD3 h] at hx ⊢
    exact op_mono op ρ _ _ _ ((op_rest h ρ).2.2.1 σ _ hf hx) fun _ _ h => ⟨h.2.1, h.1, h.2.2⟩

def allowed (cx cy : Nat) (fx fy : Bool) : Bool :=
  match cx, cy with
  | _, 0 => true
  | 0, _ => true
  | 1, 1 => true
  | 1, 2 => true
  | 1, 3 => fx && fy
  | 2, 2 => true
  | 3, 2 => true
  | _, _ => false
/-- Two operations that may change places. -/
theorem op_swap {Pr : Nm → Prop} {fx fy : Bool} {x y : Op} {ρx ρy : Operand → AV} {σ : Store} {K : AV → AV → Store → Prop} (hf : Fin σ) (ha : allowed (cls x) (cls y) fx fy = true)
    (h : opD P T G Pr fx x ρx σ fun v σ1 => opD P T G Pr fy y ρy σ1 fun u σ2 => K v u σ2) :
    opD P T G Pr fy y ρy σ fun u σ1 => opD P T G Pr fx x ρx σ1 fun v σ2 => K v u σ2 := by
  have mx := opD_mono (P := P) (T := T) (G := G) Pr fx x ρx
  have my := opD_mono (P := P) (T := T) (G := G) Pr fy y ρy
  have nx := opD_nonv (P := P) (T := T) (G := G) Pr fx x ρx
  rcases cls_cases y with hy | hy | hy | hy
  · -- y only reckons
    obtain ⟨v0, s0, h0⟩ := nx σ _ hf h
    rw [opD0 hy] at h0
    obtain ⟨u, hu⟩ := op_pure hy ρy _ _ h0
    rw [opD0 hy]
    refine (hu σ _).2 (mx _ _ _ h fun v σ1 h1 => ?_)
    rw [opD0 hy] at h1
    exact (hu σ1 _).1 h1
  all_goals
    rcases cls_cases x with hx | hx | hx | hx
    · -- x only reckons
      rw [opD0 hx] at h
      obtain ⟨v, hv⟩ := op_pure hx ρx _ _ h
      refine my _ _ _ ((hv σ _).1 h) fun u σ1 h1 => ?_
      rw [opD0 hx]
      exact (hv σ1 _).2 h1
    all_goals (rw [hx, hy] at ha; first | (cases ha; done) | skip)
  · -- load, load
    obtain ⟨v, h1, h2⟩ := opD1 hx h
    obtain ⟨u, h3, h4⟩ := opD1 hy h1
    exact (h4 σ _ fun _ _ _ => rfl).2 ((h2 σ _ fun _ _ _ => rfl).2 h3)
  · -- load, memory
    obtain ⟨v, h1, h2⟩ := opD1 hx h
    rw [opD2 hy] at h1 ⊢
    obtain ⟨c, r, hu⟩ := op_alloc hy ρy _ _ h1
    refine (hu σ _).2 fun q hq => (h2 _ _ fun p _ hp => upd_ne _ _ fun e => hp (by rw [e]; exact hq)).2 ((hu σ _).1 h1 q hq)
  · -- memory, memory
    rw [opD2 hx] at h
    rw [opD2 hy] at h ⊢
    obtain ⟨cx, rx, hvx⟩ := op_alloc hx ρx _ _ h
    have h1 := (hvx σ _).1 h
    obtain ⟨q0, hq0⟩ := hf.some
    obtain ⟨cy, ry, hvy⟩ := op_alloc hy ρy _ _ (h1 q0 hq0)
    refine (hvy σ _).2 fun q' hq' => ?_
    rw [opD2 hx]
    refine (hvx _ _).2 fun q hq => ?_
    have hne : q ≠ q' := fun e => by subst e; rw [upd_same] at hq; cases hq
    rw [upd_ne _ _ hne] at hq
    have := (hvy _ _).1 (h1 q hq) q' (by rw [upd_ne _ _ (Ne.symm hne)]; exact hq')
    rw [upd_comm _ _ _ hne] at this
    exact this
  · -- a call, memory
    obtain ⟨v0, s0, h0⟩ := nx σ _ hf h
    rw [opD2 hy] at h0 ⊢
    obtain ⟨c, r, hu⟩ := op_alloc hy ρy _ _ h0
    refine (hu σ _).2 fun q hq => ?_
    rw [opD3 hx] at h ⊢
    have h1 := (op_rest hx ρx).2.2.2 σ _ q c h hq
    refine op_mono x ρx _ _ _ h1 ?_
    rintro v σ2 ⟨σ1, rfl, h2, h3, h4⟩
    rw [opD2 hy] at h4
    refine ⟨?_, (hu _ _).1 h4 q h2⟩
    cases fx with
    | false => exact trivial
    | true =>
      intro p hp
      by_cases hpq : p = q
      · subst hpq; rw [upd_same, upd_same]
      · rw [upd_ne _ _ hpq, upd_ne _ _ hpq]; exact h3 p hp
  · -- load, a call
    obtain ⟨v, h1, h2⟩ := opD1 hx h
    rw [opD3 hy] at h1 ⊢
    refine op_mono y ρy _ _ _ h1 fun u σ1 h3 => ⟨h3.1, ?_⟩
    have ha : (fx && fy) = true := ha
    simp only [Bool.and_eq_true] at ha
    obtain ⟨hfx, hfy⟩ := ha
    subst hfx hfy
    exact (h2 σ1 _ fun p hp _ => h3.1 p (hp rfl)).2 h3.2
end
end Go.Proofs.YtdpfcpkedaolfaaDoor
