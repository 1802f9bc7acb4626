/-
  The abstract machine, ninth part: regions whose order is drawn: every order does what one of them does.
-/
import Derived.Test.YtdpfcpkedaolfaaDoorAm8
import Derived.Orders
namespace Go.Proofs.YtdpfcpkedaolfaaDoor
open Go.RowKit

section
variable {P : Program} {T : Tys} {G : Nat → AV} {N : Nat}

theorem ABr.mono {t : Bool} {A B A' B' : Prop} (h : ABr t A B) (ha : A → A') (hb : B → B') : ABr t A' B' := ⟨fun e => ha (h.yes e), fun e => hb (h.no e)⟩
theorem ABox.mono {t : TypeId} {x : AV} {σ : Store} {K K' : AV → Store → Prop} (h : ABox t x σ K) (hk : ∀ v σ', K v σ' → K' v σ') : ABox t x σ K' := by
  unfold ABox at *
  split at h
  · exact ⟨fun p hp => hk _ _ (h.go p hp)⟩
  · exact h
/-- The kinds of operations: those that only reckon (0), that load (1), that make memory (2), all others (3). -/
def cls : Op → Nat
  | .move _ | .assign _ | .pick .. | .build .. | .nilCheck _ | .binOp .. | .unOp .. | .convert .. | .slice .. | .fieldAddr .. | .field .. | .indexAddr .. | .index .. | .extract .. | .makeFunc .. => 0
  | .load .. => 1
  | .alloc _ | .box .. | .buildSlice .. | .makeSlice .. => 2
  | .call c => (match c.callee with
    | .builtin .len | .builtin .cap | .builtin .min | .builtin .max => 0
    | _ => 3)
  | _ => 3

theorem bAV_inj : ∀ {l m : List UInt8}, l.map bAV = m.map bAV → l = m := by
  intro l
  induction l with
  | nil => intro m h; cases m with
    | nil => rfl
    | cons y m => simp at h
  | cons x l ih => intro m h; cases m with
    | nil => simp at h
    | cons y m =>
      simp only [List.map_cons, List.cons.injEq] at h
      obtain ⟨h1, h2⟩ := h
      unfold bAV at h1
      injection h1 with _ h1
      have : x = y := UInt8.toNat_inj.1 (by omega)
      rw [this, ih h2]

/-- An operation that only reckons has one value. -/
def Pure (X : Store → (AV → Store → Prop) → Prop) : Prop := ∀ σ1 K1, X σ1 K1 → ∃ u, ∀ σ K, X σ K ↔ K u σ
def PureV (Y : (AV → Prop) → Prop) : Prop := ∀ K1, Y K1 → ∃ u, ∀ K, Y K ↔ K u
theorem PureV.lift {Y : (AV → Prop) → Prop} (h : PureV Y) : Pure fun σ K => Y fun v => K v σ := fun σ1 K1 h1 => by
  obtain ⟨u, hu⟩ := h _ h1
  exact ⟨u, fun σ K => hu fun v => K v σ⟩
theorem pv_pick (t : Bool) (a b : AV) : Pure fun σ K => ABr t (K a σ) (K b σ) := fun _ _ _ => by
  cases t with
  | true => exact ⟨a, fun σ K => ⟨fun h => h.yes rfl, fun h => ⟨fun _ => h, fun e => absurd e (by decide)⟩⟩⟩
  | false => exact ⟨b, fun σ K => ⟨fun h => h.no rfl, fun h => ⟨fun e => absurd e (by decide), fun _ => h⟩⟩⟩
theorem pv_AFa (t : TypeId) (x : AV) (f : Nat) : PureV (AFa T t x f) := by
  intro K1 h
  unfold AFa at h ⊢
  split at h
  case h_2 => exact h.elim
  split at h
  case h_2 => exact h.elim
  split at h
  case h_2 => exact h.elim
  obtain ⟨h0, h⟩ := h
  split at h
  · exact ⟨_, fun K => ⟨fun h => h.2, fun h => ⟨h0, h⟩⟩⟩
  · exact ⟨_, fun K => ⟨fun h => h.2, fun h => ⟨h0, h⟩⟩⟩
  · exact h.elim
theorem pv_AIx (t : TypeId) (x i : AV) : PureV (AIx T t x i) := by
  intro K1 h
  unfold AIx at h ⊢
  split at h
  · split at h
    case h_2 => exact h.elim
    split at h
    · obtain ⟨h1, h2, h⟩ := h
      exact ⟨_, fun K => ⟨fun h => h.2.2, fun h => ⟨h1, h2, h⟩⟩⟩
    · obtain ⟨h1, h2, h⟩ := h
      exact ⟨_, fun K => ⟨fun h => h.2.2, fun h => ⟨h1, h2, h⟩⟩⟩
    · exact h.elim
  · split at h
    case h_2 => exact h.elim
    obtain ⟨h1, h2, h⟩ := h
    split at h
    · exact ⟨_, fun K => ⟨fun h => h.2.2, fun h => ⟨h1, h2, h⟩⟩⟩
    · exact ⟨_, fun K => ⟨fun h => h.2.2, fun h => ⟨h1, h2, h⟩⟩⟩
    · exact h.elim
  · exact h.elim
theorem pv_AFd (t : TypeId) (x : AV) (f : Nat) : PureV (AFd T t x f) := by
  intro K1 h
  unfold AFd at h ⊢
  split at h
  case h_2 => exact h.elim
  split at h
  case h_2 => exact h.elim
  split at h
  case h_2 => exact h.elim
  obtain ⟨h1, h2, h⟩ := h
  exact ⟨_, fun K => ⟨fun h => h.2.2, fun h => ⟨h1, h2, h⟩⟩⟩
theorem pv_AEl (t : TypeId) (x i : AV) : PureV (AEl T t x i) := by
  intro K1 h
  unfold AEl at h ⊢
  split at h
  case h_2 => exact h.elim
  split at h
  case h_2 => exact h.elim
  obtain ⟨h1, h2, h3, h4, h⟩ := h
  exact ⟨_, fun K => ⟨fun h => h.2.2.2.2.go, fun h => ⟨h1, h2, h3, h4, ⟨h⟩⟩⟩⟩
theorem pv_ABd (t : TypeId) (ps : List (Nat × AV)) : PureV (ABd T t ps) := by
  intro K1 h
  unfold ABd at h ⊢
  split at h
  · split at h
    case h_2 => exact h.elim
    split at h
    case h_2 => exact h.elim
    exact ⟨_, fun K => Iff.rfl⟩
  · split at h
    case h_2 => exact h.elim
    split at h
    case h_2 => exact h.elim
    exact ⟨_, fun K => Iff.rfl⟩
  · exact h.elim
theorem pv_ANil (op : BinOp) (t : TypeId) (b : Bool) (ok : Prop) : PureV (ANil T op t b ok) := by
  intro K1 h
  unfold ANil at h ⊢
  split at h
  case h_2 => exact h.elim
  split at h
  · exact ⟨_, fun K => ⟨fun h => h.2, fun k => ⟨h.1, k⟩⟩⟩
  · exact ⟨_, fun K => ⟨fun h => h.2, fun k => ⟨h.1, k⟩⟩⟩
  · exact h.elim
theorem pv_ABin (op : BinOp) (t : TypeId) (x y : AV) : PureV (ABin T op t x y) := by
  intro K1 h
  unfold ABin at h ⊢
  split at h
  · cases op <;> simp only at h ⊢
    case shl | shr => exact ⟨_, fun K => ⟨fun h => h.2, fun k => ⟨h.1, k⟩⟩⟩
    case quo | rem =>
      split at h
      · rename_i hk
        simp only [if_pos hk]
        exact ⟨_, fun K => ⟨fun h => h.2, fun k => ⟨h.1, k⟩⟩⟩
      · exact h.elim
    all_goals
      split at h
      · rename_i hk
        simp only [if_pos hk]
        exact ⟨_, fun K => Iff.rfl⟩
      · exact h.elim
  · split at h
    · exact ⟨_, fun K => Iff.rfl⟩
    · exact ⟨_, fun K => Iff.rfl⟩
    · exact h.elim
  · split at h
    case h_2 => exact h.elim
    split at h
    · exact ⟨_, fun K => Iff.rfl⟩
    · exact ⟨_, fun K => Iff.rfl⟩
    · exact h.elim
  · exact pv_ANil _ _ _ _ _ h
  · exact pv_ANil _ _ _ _ _ h
  · exact pv_ANil _ _ _ _ _ h
  · exact h.elim
theorem pv_ACap (x : AV) : PureV (ACap x) := by
  intro K1 h
  unfold ACap at h ⊢
  split at h
  · exact ⟨_, fun K => Iff.rfl⟩
  · exact h.elim
theorem pv_AUn (op : UnOp) (x : AV) : PureV (AUn op x) := by
  intro K1 h
  unfold AUn at h ⊢
  split at h
  · exact ⟨_, fun K => Iff.rfl⟩
  · exact ⟨_, fun K => Iff.rfl⟩
  · exact ⟨_, fun K => Iff.rfl⟩
  · exact h.elim
theorem pv_AMin (m : Bool) (x y : AV) : PureV (AMin m x y) := by
  intro K1 h
  unfold AMin at h ⊢
  split at h
  · exact ⟨_, fun K => Iff.rfl⟩
  · exact h.elim
theorem pv_ALen (x : AV) : PureV (ALen x) := by
  intro K1 h
  unfold ALen at h ⊢
  split at h
  · exact ⟨_, fun K => Iff.rfl⟩
  · exact ⟨_, fun K => Iff.rfl⟩
  · exact ⟨_, fun K => Iff.rfl⟩
  · exact ⟨_, fun K => Iff.rfl⟩
  · exact h.elim
theorem pv_ACv (s d : TypeId) (x : AV) : PureV (ACv T s d x) := by
  intro K1 h
  unfold ACv at h ⊢
  split at h
  · exact ⟨_, fun K => Iff.rfl⟩
  · split at h
    case h_2 => exact h.elim
    obtain ⟨l, h1, h2, h⟩ := h
    refine ⟨_, fun K => ⟨?_, fun k => ⟨l, h1, h2, k⟩⟩⟩
    rintro ⟨m, k1, -, k⟩
    rw [h1] at k1
    rw [bAV_inj k1]
    exact k
  · split at h
    case h_2 => exact h.elim
    exact ⟨_, fun K => Iff.rfl⟩
  · exact h.elim
theorem pv_ASl (t : TypeId) (x : AV) (lo hi : Option AV) : PureV (ASl T t x lo hi) := by
  intro K1 h
  unfold ASl at h ⊢
  simp only [AList.iff] at h ⊢
  split at h
  case h_3 => exact h.elim
  case h_1 =>
    split at h
    case h_2 => exact h.elim
    split at h
    case h_2 => exact h.elim
    obtain ⟨h1, h2, h3, h4, h5, h⟩ := h
    exact ⟨_, fun K => ⟨fun h => h.2.2.2.2.2, fun k => ⟨h1, h2, h3, h4, h5, k⟩⟩⟩
  split at h
  case h_2 => exact h.elim
  split at h
  · split at h
    case h_2 => exact h.elim
    obtain ⟨h1, h2, h3, h4, h⟩ := h
    exact ⟨_, fun K => ⟨fun h => h.2.2.2.2, fun k => ⟨h1, h2, h3, h4, k⟩⟩⟩
  · split at h
    case h_2 => exact h.elim
    rename_i p off n sz _ _ l h' _ _
    obtain ⟨h1, h2, h3, h4, h5, h6⟩ := h
    by_cases hc : l = 0 ∨ l < n
    · exact ⟨_, fun K => ⟨fun h => h.2.2.2.2.1 hc, fun k => ⟨h1, h2, h3, h4, fun _ => k, fun n => absurd hc n⟩⟩⟩
    · exact ⟨_, fun K => ⟨fun h => h.2.2.2.2.2 hc, fun k => ⟨h1, h2, h3, h4, fun n => absurd n hc, fun _ => k⟩⟩⟩
  · split at h
    case h_2 => exact h.elim
    obtain ⟨h1, h2, h⟩ := h
    exact ⟨_, fun K => ⟨fun h => h.2.2, fun k => ⟨h1, h2, k⟩⟩⟩
  · exact h.elim
theorem pv_ASl3 (t : TypeId) (x : AV) (lo : Option AV) (hi mx : AV) : PureV (ASl3 T t x lo hi mx) := by
  intro K1 h
  unfold ASl3 at h ⊢
  simp only [AList.iff] at h ⊢
  split at h
  case h_2 => exact h.elim
  split at h
  case h_2 => exact h.elim
  split at h
  case h_2 => exact h.elim
  split at h
  case h_2 => exact h.elim
  obtain ⟨h1, h2, h3, h4, h5, h⟩ := h
  exact ⟨_, fun K => ⟨fun h => h.2.2.2.2.2, fun k => ⟨h1, h2, h3, h4, h5, k⟩⟩⟩
theorem op_pure {op : Op} (hc : cls op = 0) (ρ : Operand → AV) : Pure (opA P T G op ρ) := by
  intro σ1 K1 h
  cases op <;> simp only [cls] at hc <;> first | (cases hc; done) | skip
  case move x => exact ⟨ρ x, fun σ K => Iff.rfl⟩
  case assign x => exact ⟨ρ x, fun σ K => Iff.rfl⟩
  case pick c a b =>
    simp only [opA] at h ⊢
    split at h
    · exact pv_pick _ _ _ _ _ h
    · exact h.elim
  case build t ps => exact (pv_ABd t _).lift σ1 K1 h
  case nilCheck x =>
    simp only [opA] at h ⊢
    split at h
    · exact ⟨_, fun σ K => Iff.rfl⟩
    · exact ⟨_, fun σ K => Iff.rfl⟩
    · exact h.elim
  case binOp op t x y yt => exact (pv_ABin op t _ _).lift σ1 K1 h
  case unOp op t x => exact (pv_AUn op _).lift σ1 K1 h
  case convert s d x => exact (pv_ACv s d _).lift σ1 K1 h
  case makeFunc fn first captured => exact ⟨_, fun σ K => Iff.rfl⟩
  case slice t x lo hi mx =>
    cases mx with
    | none => exact (pv_ASl t _ _ _).lift σ1 K1 h
    | some m =>
      cases hi with
      | none => exact h.elim
      | some hi => exact (pv_ASl3 t _ _ _ _).lift σ1 K1 h
  case fieldAddr t x f => exact (pv_AFa t _ f).lift σ1 K1 h
  case field t x f => exact (pv_AFd t _ f).lift σ1 K1 h
  case indexAddr t x i => exact (pv_AIx t _ _).lift σ1 K1 h
  case index t x i => exact (pv_AEl t _ _).lift σ1 K1 h
  case extract x i =>
    simp only [opA] at h ⊢
    split at h
    · exact ⟨_, fun σ K => ⟨fun h => h.2, fun k => ⟨h.1, k⟩⟩⟩
    · exact h.elim
  case call c =>
    obtain ⟨callee, args, argTypes⟩ := c
    cases callee with
    | value f => cases hc
    | invoke r m => cases hc
    | builtin b =>
      cases b <;> first | (cases hc; done) | skip
      case len =>
        simp only [opA] at h ⊢
        split at h
        case h_2 => exact h.elim
        split at h
        case h_2 => exact h.elim
        exact (pv_ALen _).lift σ1 K1 h
      case cap =>
        simp only [opA] at h ⊢
        split at h
        case h_2 => exact h.elim
        split at h
        case h_2 => exact h.elim
        exact (pv_ACap _).lift σ1 K1 h
      case min =>
        simp only [opA] at h ⊢
        split at h
        case h_2 => exact h.elim
        exact (pv_AMin false _ _).lift σ1 K1 h
      case max =>
        simp only [opA] at h ⊢
        split at h
        case h_2 => exact h.elim
        exact (pv_AMin true _ _).lift σ1 K1 h
end
end Go.Proofs.YtdpfcpkedaolfaaDoor
