/-
  The abstract machine, twelfth part: regions whose order is drawn.
-/
import Derived.Test.YtdpfcpkedaolfaaDoorAm11
namespace Go.Proofs.YtdpfcpkedaolfaaDoor
open Go.RowKit

section
variable {P : Program} {T : Tys} {G : Nat → AV} {N : Nat}
/-- Whether an operation is done: its guard. -/
def gst (ops : Array Oper) (o : Oper) (e : Env) : Option Bool :=
  match o.guard with
  | none => some true
  | some (j, want) =>
    match (ops[j]?).bind (·.dst) with
    | none => none
    | some t => (match e t with
      | .bool b => some (b == want)
      | .tup _ => some false
      | _ => none)
def AOpG (X : XF) (N : Nat) (ops : Array Oper) (o : Oper) (K : Env → Store → Prop) (e : Env) (σ : Store) : Prop :=
  match o.guard with
  | none => X σ fun v σ' => putE N e o.dst v fun e' => K e' σ'
  | some (j, want) =>
    match (ops[j]?).bind (·.dst) with
    | none => False
    | some t => (match e t with
      | .bool b => (match want with
        | true => ABr b (X σ fun v σ' => putE N e o.dst v fun e' => K e' σ') (putE N e o.dst (.tup []) fun e' => K e' σ)
        | false => ABr b (putE N e o.dst (.tup []) fun e' => K e' σ) (X σ fun v σ' => putE N e o.dst v fun e' => K e' σ'))
      | .tup _ => putE N e o.dst (.tup []) fun e' => K e' σ
      | _ => False)
theorem AOpG.iff (X : XF) (ops : Array Oper) (o : Oper) (K : Env → Store → Prop) (e : Env) (σ : Store) : AOpG X N ops o K e σ ↔
    (match gst ops o e with
    | some true => X σ fun v σ' => putE N e o.dst v fun e' => K e' σ'
    | some false => putE N e o.dst (.tup []) fun e' => K e' σ
    | none => False) := by
  unfold AOpG gst
  cases o.guard with
  | none => exact Iff.rfl
  | some x =>
    obtain ⟨j, want⟩ := x
    simp only
    cases (ops[j]?).bind (·.dst) with
    | none => exact Iff.rfl
    | some t =>
      simp only
      generalize e t = v
      cases v with
      | bool b => cases b <;> cases want <;> first | exact ⟨fun h => h.yes rfl, fun h => ⟨fun _ => h, fun e => absurd e (by decide)⟩⟩ | exact ⟨fun h => h.no rfl, fun h => ⟨fun e => absurd e (by decide), fun _ => h⟩⟩
      | _ => exact Iff.rfl
theorem AOp1_eq (ops : Array Oper) (o : Oper) (K : Env → Store → Prop) (e : Env) (σ : Store) : AOp1 P T G N ops o K e σ = AOpG (opA P T G o.op (ev G e)) N ops o K e σ := rfl

def dstOk (N : Nat) (dst : Option Tmp) : Bool := match dst with | none => true | some d => Nat.ble (d + 1) N
def putF (e : Env) (dst : Option Tmp) (v : AV) : Env := match dst with | none => e | some d => put e d v
theorem putE_iff {e : Env} {dst : Option Tmp} (h : dstOk N dst = true) (v : AV) (K : Env → Prop) : putE N e dst v K ↔ K (putF e dst v) := by
  unfold putE putF
  cases dst with
  | none => exact Iff.rfl
  | some d =>
    simp only [dstOk] at h
    simp only [h, force_eq]
theorem put_comm (e : Env) {d1 d2 : Nat} (v u : AV) (h : d1 ≠ d2) : put (put e d1 v) d2 u = put (put e d2 u) d1 v := by
  funext x
  unfold put
  cases h1 : Nat.beq x d1 <;> cases h2 : Nat.beq x d2 <;> simp
  exact absurd ((Nat.eq_of_beq_eq_true h1).symm.trans (Nat.eq_of_beq_eq_true h2)) h
theorem putF_comm (e : Env) {x y : Option Tmp} (v u : AV) (h : ∀ d, x = some d → y ≠ some d) : putF (putF e x v) y u = putF (putF e y u) x v := by
  cases x with
  | none => rfl
  | some d1 =>
    cases y with
    | none => rfl
    | some d2 => exact put_comm e v u fun e => h d1 rfl (by rw [e])
theorem put_other (e : Env) {d x : Nat} (v : AV) (h : x ≠ d) : put e d v x = e x := by
  unfold put
  cases h1 : Nat.beq x d with
  | false => rfl
  | true => exact absurd (Nat.eq_of_beq_eq_true h1) h
theorem putF_other {e : Env} {dst : Option Tmp} {x : Nat} (v : AV) (h : ∀ d, dst = some d → x ≠ d) : putF e dst v x = e x := by
  cases dst with
  | none => rfl
  | some d => exact put_other e v (h d rfl)
theorem opA_congr {op : Op} {ρ ρ' : Operand → AV} (h : ∀ x ∈ op.operands, ρ x = ρ' x) : opA P T G op ρ = opA P T G op ρ' := by
  funext σ K
  have pairs : ∀ ps : Array (Nat × Operand), (∀ x ∈ ps.toList.map (·.2), ρ x = ρ' x) → (ps.toList.map fun x => (x.1, ρ x.2)) = (ps.toList.map fun x => (x.1, ρ' x.2)) := fun ps hp =>
    List.map_congr_left fun p hm => by rw [hp p.2 (List.mem_map.2 ⟨p, hm, rfl⟩)]
  cases op <;> simp only [Op.operands] at h <;> simp only [opA]
  case build t ps => rw [pairs ps fun x hx => h x (by simpa using hx)]
  case buildSlice t n ps => rw [pairs ps fun x hx => h x (by simpa using hx)]
  case makeFunc fn first captured =>
    rw [List.map_congr_left (l := first.toList) fun x hx => h x (by simp at hx ⊢; exact .inl hx), List.map_congr_left (l := captured.toList) fun x hx => h x (by simp at hx ⊢; exact .inr hx)]
  case call c =>
    obtain ⟨callee, args, argTypes⟩ := c
    have hargs : args.toList.map ρ = args.toList.map ρ' := List.map_congr_left fun x hx => h x (by simp [Call.operands]; exact .inr (by simpa using hx))
    have hmem : ∀ x ∈ args.toList, ρ x = ρ' x := fun x hx => h x (by simp [Call.operands]; exact .inr (by simpa using hx))
    cases callee with
    | value f =>
      have hf : ρ f = ρ' f := h f (by simp [Call.operands])
      cases f <;> simp only [hargs, hf]
    | invoke r m => rfl
    | builtin b =>
      cases b <;> first | rfl | skip
      case len =>
        simp only
        split
        · rename_i t x h1 h2
          rw [h2] at hmem
          rw [hmem x (by simp)]
        · rfl
      case cap =>
        simp only
        split
        · rename_i t x h1 h2
          rw [h2] at hmem
          rw [hmem x (by simp)]
        · rfl
      case append =>
        simp only
        split
        · rename_i t t' d x h1 h2
          rw [h2] at hmem
          rw [hmem d (by simp), hmem x (by simp)]
        · rfl
      case copy =>
        simp only
        split
        · rename_i t t' d x h1 h2
          rw [h2] at hmem
          rw [hmem d (by simp), hmem x (by simp)]
        · rfl
      case min =>
        simp only
        split
        · rename_i x y h2
          rw [h2] at hmem
          rw [hmem x (by simp), hmem y (by simp)]
        · rfl
      case max =>
        simp only
        split
        · rename_i x y h2
          rw [h2] at hmem
          rw [hmem x (by simp), hmem y (by simp)]
        · rfl
  case slice t x lo hi mx =>
    cases mx with
    | none => cases lo <;> cases hi <;> simp_all
    | some m => cases lo <;> cases hi <;> simp_all
  all_goals (first | rfl | (simp_all; done))
end
end Go.Proofs.YtdpfcpkedaolfaaDoor
