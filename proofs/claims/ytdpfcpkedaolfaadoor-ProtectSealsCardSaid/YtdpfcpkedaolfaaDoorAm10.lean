/-
  The abstract machine, tenth part: which operations may be done in either order.
-/
import Derived.Test.YtdpfcpkedaolfaaDoorAm9
namespace Go.Proofs.YtdpfcpkedaolfaaDoor
open Go.RowKit

section
variable {P : Program} {T : Tys} {G : Nat → AV} {N : Nat}
def Fin (σ : Store) : Prop := ∃ B, ∀ b, B ≤ b → σ (.b b) = none ∧ σ (.v b) = none
theorem Mem.toFin {σ : Store} {w : World} (h : Mem σ w) : Fin σ := by
  obtain ⟨B, hB⟩ := h.fin
  exact ⟨B + w.heap.size, fun b hb => ⟨h.fresh (by omega), hB b (by omega)⟩⟩
theorem Fin.upd {σ : Store} (h : Fin σ) (p : Nm) (c : Pl) : Fin (upd σ p c) := by
  obtain ⟨B, hB⟩ := h
  cases p with
  | b n => exact ⟨B + n + 1, fun b hb => ⟨by rw [upd_ne _ _ (by simp; omega)]; exact (hB b (by omega)).1, by rw [upd_ne _ _ (by simp)]; exact (hB b (by omega)).2⟩⟩
  | v n => exact ⟨B + n + 1, fun b hb => ⟨by rw [upd_ne _ _ (by simp)]; exact (hB b (by omega)).1, by rw [upd_ne _ _ (by simp; omega)]; exact (hB b (by omega)).2⟩⟩
theorem Fin.sub {σ σ' : Store} (h : Fin σ) (hs : ∀ b, σ b = none → σ' b = none) : Fin σ' := by
  obtain ⟨B, hB⟩ := h
  exact ⟨B, fun b hb => ⟨hs _ (hB b hb).1, hs _ (hB b hb).2⟩⟩
theorem Fin.era {σ : Store} (h : Fin σ) (p : Nm) : Fin (era σ p) := h.sub fun b hb => by unfold Go.Proofs.YtdpfcpkedaolfaaDoor.era; split <;> first | rfl | exact hb
theorem Fin.eraN {σ : Store} (h : Fin σ) (l : List Nm) : Fin (eraN σ l) := h.sub fun _ hb => eraN_keep σ l hb
theorem Fin.putAll {σ : Store} (h : Fin σ) : ∀ l : List (Nm × Pl), Fin (putAll σ l)
  | [] => h
  | _ :: l => (Fin.putAll h l).upd _ _
theorem Fin.some2 {σ : Store} (h : Fin σ) (L : List Nm) : ∃ q, σ q = none ∧ q ∉ L := by
  obtain ⟨B, hB⟩ := h
  have hb : ∃ M, ∀ k, M ≤ k → Nm.b k ∉ L := by
    induction L with
    | nil => exact ⟨0, by simp⟩
    | cons x L ih =>
      obtain ⟨M, hM⟩ := ih
      cases x with
      | b n => exact ⟨M + n + 1, fun k hk => by simp only [List.mem_cons, not_or]; exact ⟨fun e => by injection e with e; omega, hM k (by omega)⟩⟩
      | v n => exact ⟨M, fun k hk => by simp only [List.mem_cons, not_or]; exact ⟨nofun, hM k hk⟩⟩
  obtain ⟨M, hM⟩ := hb
  exact ⟨.b (B + M), (hB _ (by omega)).1, hM _ (by omega)⟩
theorem Fin.some {σ : Store} (h : Fin σ) : ∃ q, σ q = none := by
  obtain ⟨B, hB⟩ := h
  exact ⟨.b B, (hB B (Nat.le_refl _)).1⟩

abbrev XF := Store → (AV → Store → Prop) → Prop
def Mono (X : XF) : Prop := ∀ σ K K', X σ K → (∀ v σ', K v σ' → K' v σ') → X σ K'
def NonV (X : XF) : Prop := ∀ σ K, Fin σ → X σ K → ∃ v σ', K v σ'
def FinK (X : XF) : Prop := ∀ σ K, Fin σ → X σ K → X σ fun v σ' => Fin σ' ∧ K v σ'
def Local (X : XF) : Prop := ∀ σ K q c, X σ K → σ q = none → X (upd σ q c) fun v σ2 => ∃ σ1, σ2 = upd σ1 q c ∧ σ1 q = none ∧ K v σ1
def Alloc (X : XF) : Prop := ∀ σ1 K1, X σ1 K1 → ∃ (c : Pl) (r : Nm → AV), ∀ σ K, X σ K ↔ ∀ q, σ q = none → K (r q) (upd σ q c)
theorem Pure.mono {X : XF} (h : Pure X) : Mono X := fun σ K K' hx hk => by
  obtain ⟨u, hu⟩ := h σ K hx
  exact (hu σ K').2 (hk _ _ ((hu σ K).1 hx))
theorem Pure.nonv {X : XF} (h : Pure X) : NonV X := fun σ K _ hx => by
  obtain ⟨u, hu⟩ := h σ K hx
  exact ⟨u, σ, (hu σ K).1 hx⟩
theorem Pure.fin {X : XF} (h : Pure X) : FinK X := fun σ K hf hx => by
  obtain ⟨u, hu⟩ := h σ K hx
  exact (hu σ _).2 ⟨hf, (hu σ K).1 hx⟩
theorem Alloc.mono {X : XF} (h : Alloc X) : Mono X := fun σ K K' hx hk => by
  obtain ⟨c, r, hu⟩ := h σ K hx
  exact (hu σ K').2 fun q hq => hk _ _ ((hu σ K).1 hx q hq)
theorem Alloc.nonv {X : XF} (h : Alloc X) : NonV X := fun σ K hf hx => by
  obtain ⟨c, r, hu⟩ := h σ K hx
  obtain ⟨q, hq⟩ := hf.some
  exact ⟨_, _, (hu σ K).1 hx q hq⟩
theorem Alloc.fin {X : XF} (h : Alloc X) : FinK X := fun σ K hf hx => by
  obtain ⟨c, r, hu⟩ := h σ K hx
  exact (hu σ _).2 fun q hq => ⟨hf.upd _ _, (hu σ K).1 hx q hq⟩

/-- Loads. -/
theorem load_same {t : TypeId} {x : AV} {σ1 : Store} {K1 : AV → Prop} (h : ALd T t x σ1 K1) :
    ∃ u, K1 u ∧ ∀ σ K, (∀ p o, x = .ptr p o → σ p = σ1 p) → (ALd T t x σ K ↔ K u) := by
  unfold ALd at h ⊢
  simp only [ACell.iff] at h ⊢
  split at h
  · rename_i i p off _
    obtain ⟨⟨c, h1, h2, h3, h⟩⟩ := h
    refine ⟨_, h, fun σ K ha => ⟨?_, fun k => ⟨c, (ha p off rfl).trans h1, h2, h3, k⟩⟩⟩
    rintro ⟨⟨c', k1, -, -, k⟩⟩
    rw [ha p off rfl, h1] at k1
    cases k1
    exact k
  · obtain ⟨h1, h2, h⟩ := h
    exact ⟨_, h, fun σ K _ => ⟨fun k => k.2.2, fun k => ⟨h1, h2, k⟩⟩⟩
  · exact h.elim
theorem load_mono {t : TypeId} {x : Operand} {ρ : Operand → AV} : Mono (opA P T G (.load t x) ρ) := fun σ K K' hx hk => by
  have hx : ALd T t (ρ x) σ fun v => K v σ := hx
  obtain ⟨u, h1, h2⟩ := load_same hx
  exact (h2 σ (fun v => K' v σ) fun _ _ _ => rfl).2 (hk _ _ h1)
theorem load_fin {t : TypeId} {x : Operand} {ρ : Operand → AV} : FinK (opA P T G (.load t x) ρ) := fun σ K hf hx => by
  have hx : ALd T t (ρ x) σ fun v => K v σ := hx
  obtain ⟨u, h1, h2⟩ := load_same hx
  exact (h2 σ (fun v => Fin σ ∧ K v σ) fun _ _ _ => rfl).2 ⟨hf, h1⟩
/-- What makes memory. -/
theorem box_alloc (t : TypeId) (x : AV) : Alloc (ABox t x) := fun σ1 K1 h => by
  unfold ABox at h ⊢
  split at h
  · exact ⟨_, fun q => .ptr q 0, fun σ K => ⟨fun h => h.go, fun h => ⟨h⟩⟩⟩
  · exact h.elim
theorem op_alloc {op : Op} (hc : cls op = 2) (ρ : Operand → AV) : Alloc (opA P T G op ρ) := by
  intro σ1 K1 h
  cases op <;> simp only [cls] at hc <;> first | (cases hc; done) | skip
  case alloc t =>
    simp only [opA, AAlloc] at h ⊢
    split at h
    · exact box_alloc _ _ σ1 K1 h
    · exact h.elim
  case box t x => exact box_alloc _ _ σ1 K1 h
  case buildSlice t n ps =>
    simp only [opA, ABs] at h ⊢
    obtain ⟨h0, h⟩ := h
    split at h
    case h_2 => exact h.elim
    split at h
    case h_2 => exact h.elim
    obtain ⟨h1, h2, h⟩ := h
    split at h
    case h_2 => exact h.elim
    split at h
    case h_2 => exact h.elim
    rename_i e _ _ _ j _ _ z _ _ cs _
    exact ⟨_, fun q => .vw q 0 n j.size, fun σ K => ⟨fun k => k.2.2.2.go.go, fun k => ⟨h0, h1, h2, ⟨⟨k⟩⟩⟩⟩⟩
  case makeSlice t l c =>
    simp only [opA, AMk] at h ⊢
    split at h
    case h_2 => exact h.elim
    split at h
    case h_2 => exact h.elim
    obtain ⟨h1, h2, h3, h4, h5, h⟩ := h
    split at h
    case h_2 => exact h.elim
    obtain ⟨h6, h⟩ := h
    rename_i n _ _ _ _ _ _ j _ _ z _
    exact ⟨_, fun q => .vw q 0 _ j.size, fun σ K => ⟨fun k => k.2.2.2.2.2.2.go.go, fun k => ⟨h1, h2, h3, h4, h5, h6, ⟨⟨k⟩⟩⟩⟩⟩
  case call c =>
    obtain ⟨callee, args, argTypes⟩ := c
    cases callee with
    | value f => cases hc
    | invoke r m => cases hc
    | builtin b => cases b <;> cases hc

/-- The other operations: calls. -/
theorem Frz.local {σ : Store} {F : List Nm} {a a' : AV} (h : Frz σ F a a') {q : Nm} (c : Pl) (hq : σ q = none) : Frz (upd σ q c) (F.filter fun p => decide (p ≠ q)) a a' := by
  induction h with
  | refl a => exact .refl a
  | any a => exact .any a
  | nils => exact .nils
  | vw p off n sz c' cs hp hc hl hn h0 _ ih =>
    have hne : p ≠ q := fun e => by subst e; rw [hq] at hc; cases hc
    exact .vw p off n sz c' cs (by simp [hp, hne]) (by rw [upd_ne _ _ hne]; exact hc) hl hn h0 ih
  | ap p off n sz c' cs hp hc hl hn _ ih =>
    have hne : p ≠ q := fun e => by subst e; rw [hq] at hc; cases hc
    exact .ap p off n sz c' cs (by simp [hp, hne]) (by rw [upd_ne _ _ hne]; exact hc) hl hn ih
  | agg xs ys hl _ ih => exact .agg xs ys hl ih
  | tup xs ys hl _ ih => exact .tup xs ys hl ih
  | sl n xs ys hl _ ih => exact .sl n xs ys hl ih
theorem eraN_upd (σ : Store) (q : Nm) (c : Pl) : ∀ l : List Nm, q ∉ l → eraN (upd σ q c) l = upd (eraN σ l) q c
  | [], _ => rfl
  | p :: l, h => by
    simp only [List.mem_cons, not_or] at h
    unfold eraN
    rw [eraN_upd σ q c l h.2, era_upd_comm _ _ h.1]
theorem eraN_filter (σ : Store) (q : Nm) (hq : σ q = none) : ∀ l : List Nm, eraN σ (l.filter fun p => decide (p ≠ q)) = eraN σ l
  | [] => rfl
  | p :: l => by
    by_cases hp : p = q
    · subst hp
      rw [List.filter_cons_of_neg (by simp), eraN_filter σ p hq l]
      show _ = era (eraN σ l) p
      funext x
      by_cases hx : x = p
      · subst hx; rw [era_same]; exact eraN_keep σ l hq
      · rw [era_ne _ hx]
    · rw [List.filter_cons_of_pos (by simp [hp])]
      show era _ p = era _ p
      rw [eraN_filter σ q hq l]
theorem putAll_upd (σ : Store) (q : Nm) (c : Pl) : ∀ l : List (Nm × Pl), (∀ x ∈ l, x.1 ≠ q) → putAll (upd σ q c) l = upd (putAll σ l) q c
  | [], _ => rfl
  | x :: l, h => by
    show Go.Proofs.YtdpfcpkedaolfaaDoor.upd _ x.1 x.2 = Go.Proofs.YtdpfcpkedaolfaaDoor.upd (Go.Proofs.YtdpfcpkedaolfaaDoor.upd _ x.1 x.2) q c
    rw [putAll_upd σ q c l (fun y hy => h y (by simp [hy])), upd_comm _ _ _ (fun e => h x (by simp) e.symm)]
theorem putAll_ne (σ : Store) (q : Nm) : ∀ l : List (Nm × Pl), (∀ x ∈ l, x.1 ≠ q) → putAll σ l q = σ q
  | [], _ => rfl
  | x :: l, h => by
    show Go.Proofs.YtdpfcpkedaolfaaDoor.upd _ x.1 x.2 q = _
    rw [upd_ne _ _ (fun e => h x (by simp) e.symm), putAll_ne σ q l (fun y hy => h y (by simp [hy]))]
theorem call_mono {f : FuncId} {args : List AV} : Mono (ACall P G f args) := fun σ K K' hx hk => by
  rcases hx.ex with ⟨F, args', ps, post, h1, h2, h3, h4, hnd, h5⟩ | ⟨F, args', r, h1, h2, h3, h4, h5⟩
  · exact ⟨.inl ⟨F, args', ps, post, h1, h2, h3, h4, hnd, fun q hq hn => hk _ _ (h5 q hq hn)⟩⟩
  · exact ⟨.inr ⟨F, args', r, h1, h2, h3, h4, hk _ _ h5⟩⟩
theorem call_nonv {f : FuncId} {args : List AV} : NonV (ACall P G f args) := fun σ K hf hx => by
  rcases hx.ex with ⟨F, args', ps, post, h1, h2, h3, h4, hnd, h5⟩ | ⟨F, args', r, h1, h2, h3, h4, h5⟩
  · obtain ⟨q, hq, hqp⟩ := ((hf.eraN F).eraN (ps.map (·.1))).some2 (ps.map (·.1))
    exact ⟨_, _, h5 q hq ((h3.2.1 q).2 hqp)⟩
  · exact ⟨_, _, h5⟩
theorem call_fin {f : FuncId} {args : List AV} : FinK (ACall P G f args) := fun σ K hf hx => by
  rcases hx.ex with ⟨F, args', ps, post, h1, h2, h3, h4, hnd, h5⟩ | ⟨F, args', r, h1, h2, h3, h4, h5⟩
  · exact ⟨.inl ⟨F, args', ps, post, h1, h2, h3, h4, hnd, fun q hq hn => ⟨((hf.eraN F).eraN (ps.map (·.1))).putAll _, h5 q hq hn⟩⟩⟩
  · exact ⟨.inr ⟨F, args', r, h1, h2, h3, h4, hf, h5⟩⟩
theorem call_local {f : FuncId} {args : List AV} : Local (ACall P G f args) := fun σ K q c hx hq => by
  rcases hx.ex with ⟨F, args', ps, post, h1, h2, h3, h4, hnd, h5⟩ | ⟨F, args', r, h1, h2, h3, h4, h5⟩
  rotate_left
  · exact ⟨.inr ⟨_, args', r, h1, fun i hi => (h2 i hi).local c hq, h3, h4, σ, rfl, hq, h5⟩⟩
  have hqF : q ∉ F.filter fun p => decide (p ≠ q) := by simp
  have e1 : eraN (upd σ q c) (F.filter fun p => decide (p ≠ q)) = upd (eraN σ F) q c := by rw [eraN_upd _ _ _ _ hqF, eraN_filter σ q hq]
  have hqe : eraN σ F q = none := eraN_keep σ F hq
  have hqp : q ∉ ps.map (·.1) := fun hm => by
    obtain ⟨x, hx, rfl⟩ := List.mem_map.1 hm
    rw [h4 x hx] at hqe
    cases hqe
  refine ⟨.inl ⟨F.filter fun p => decide (p ≠ q), args', ps, post, h1, fun i hi => (h2 i hi).local c hq, h3, fun x hx => ?_, hnd, fun q' hq' hn' => ?_⟩⟩
  · rw [e1, upd_ne _ _ (fun e => hqp (List.mem_map.2 ⟨x, hx, e⟩))]
    exact h4 x hx
  · rw [e1, eraN_upd _ _ _ _ hqp] at hq' ⊢
    have hne : q' ≠ q := fun e => by subst e; rw [upd_same] at hq'; cases hq'
    rw [upd_ne _ _ hne] at hq'
    have hnn : ∀ x ∈ (post q').2, x.1 ≠ q := fun x hx e => by
      rcases (h3.2.1 q').1 x hx with h | h
      · exact hne (h ▸ e)
      · exact hqp (e ▸ h)
    exact ⟨_, putAll_upd _ _ _ _ hnn, by rw [putAll_ne _ _ _ hnn]; exact eraN_keep _ _ hqe, h5 q' hq' hn'⟩
/-- Stores. -/
theorem store_all {t : TypeId} {a x : AV} {σ : Store} {K : Store → Prop} (h : ASt T t a x σ K) : ∃ p c d, σ p = some c ∧ K (upd σ p d) ∧ ∀ σ' K', σ' p = some c → K' (upd σ' p d) → ASt T t a x σ' K' := by
  unfold ASt at h ⊢
  split at h
  · obtain ⟨⟨c, h1, h2, h3, h4, ⟨h⟩⟩⟩ := h
    exact ⟨_, c, _, h1, h, fun σ' K' g1 g2 => ⟨c, g1, h2, h3, h4, ⟨g2⟩⟩⟩
  · exact h.elim
/-- append. -/
theorem src_local {σ : Store} {sz m : Nat} {x : AV} {xs : List AV} {q : Nm} (c : Pl) (hq : σ q = none) (h : Src σ sz x m xs) : Src (upd σ q c) sz x m xs := by
  unfold Src at h ⊢
  split at h
  · exact h
  · exact h
  · obtain ⟨h1, h2, ⟨c', h3, h4⟩⟩ := h
    exact ⟨h1, h2, ⟨c', by rw [upd_ne _ _ (fun e => by subst e; rw [hq] at h3; cases h3)]; exact h3, h4⟩⟩
  · obtain ⟨h1, h2, ⟨c', h3, h4⟩⟩ := h
    exact ⟨h1, h2, ⟨c', by rw [upd_ne _ _ (fun e => by subst e; rw [hq] at h3; cases h3)]; exact h3, h4⟩⟩
  · exact h.elim
theorem app_mono {t : TypeId} {d x : AV} : Mono (AAp T t d x) := fun σ K K' h hk => by
  unfold AAp at h ⊢
  split at h
  case h_2 => exact h.elim
  split at h
  case h_2 => exact h.elim
  obtain ⟨h0, m, xs, h1, h2, h⟩ := h
  refine ⟨h0, m, xs, h1, h2, ?_⟩
  split at h
  · obtain ⟨h3, h4, h⟩ := h
    exact ⟨h3, h4, ⟨fun q hq => hk _ _ (h.go q hq)⟩⟩
  · obtain ⟨h3, ⟨c, h4, h5, h6, h7, h9, h8, h⟩⟩ := h
    exact ⟨h3, ⟨c, h4, h5, h6, h7, h9, fun ho => hk _ _ (h8 ho), ⟨fun q hq => hk _ _ (h.go q hq)⟩⟩⟩
  · exact h.elim
theorem app_nonv {t : TypeId} {d x : AV} : NonV (AAp T t d x) := fun σ K hf h => by
  unfold AAp at h
  split at h
  case h_2 => exact h.elim
  split at h
  case h_2 => exact h.elim
  obtain ⟨h0, m, xs, h1, h2, h⟩ := h
  split at h
  · obtain ⟨h3, h4, h⟩ := h
    obtain ⟨q, hq⟩ := hf.some
    exact ⟨_, _, h.go q hq⟩
  · obtain ⟨h3, ⟨c, h4, h5, h6, h7, h9, h8, h⟩⟩ := h
    exact ⟨_, _, h.go _ (era_same _ _)⟩
  · exact h.elim
theorem app_fin {t : TypeId} {d x : AV} : FinK (AAp T t d x) := fun σ K hf h => by
  unfold AAp at h ⊢
  split at h
  case h_2 => exact h.elim
  split at h
  case h_2 => exact h.elim
  obtain ⟨h0, m, xs, h1, h2, h⟩ := h
  refine ⟨h0, m, xs, h1, h2, ?_⟩
  split at h
  · obtain ⟨h3, h4, h⟩ := h
    exact ⟨h3, h4, ⟨fun q hq => ⟨hf.upd _ _, h.go q hq⟩⟩⟩
  · obtain ⟨h3, ⟨c, h4, h5, h6, h7, h9, h8, h⟩⟩ := h
    exact ⟨h3, ⟨c, h4, h5, h6, h7, h9, fun ho => ⟨hf.upd _ _, h8 ho⟩, ⟨fun q hq => ⟨(hf.era _).upd _ _, h.go q hq⟩⟩⟩⟩
  · exact h.elim
theorem app_local {t : TypeId} {d x : AV} : Local (AAp T t d x) := fun σ K q c h hq => by
  unfold AAp at h ⊢
  split at h
  case h_2 => exact h.elim
  split at h
  case h_2 => exact h.elim
  obtain ⟨h0, m, xs, h1, h2, h⟩ := h
  refine ⟨h0, m, xs, src_local c hq h1, h2, ?_⟩
  split at h
  · obtain ⟨h3, h4, h⟩ := h
    refine ⟨h3, h4, ⟨fun q' hq' => ?_⟩⟩
    have hne : q' ≠ q := fun e => by subst e; rw [upd_same] at hq'; cases hq'
    rw [upd_ne _ _ hne] at hq'
    exact ⟨_, upd_comm _ _ _ (Ne.symm hne), by rw [upd_ne _ _ (Ne.symm hne)]; exact hq, h.go q' hq'⟩
  · rename_i p off n sz
    obtain ⟨h3, ⟨c1, h4, h5, h6, h7, h9, h8, h⟩⟩ := h
    have hpq : p ≠ q := fun e => by subst e; rw [hq] at h4; cases h4
    have e1 : era (upd σ q c) p = upd (era σ p) q c := era_upd_comm _ _ (Ne.symm hpq)
    refine ⟨h3, ⟨c1, by rw [upd_ne _ _ hpq]; exact h4, h5, h6, h7, h9, fun ho => ?_, ⟨fun q' hq' => ?_⟩⟩⟩
    case refine_2 =>
      rw [e1] at hq' ⊢
      have hne : q' ≠ q := fun e => by subst e; rw [upd_same] at hq'; cases hq'
      rw [upd_ne _ _ hne] at hq'
      exact ⟨_, upd_comm _ _ _ (Ne.symm hne), by rw [upd_ne _ _ (Ne.symm hne), era_ne _ (Ne.symm hpq)]; exact hq, h.go q' hq'⟩
    case refine_1 => exact ⟨_, upd_comm _ _ _ (Ne.symm hpq), by rw [upd_ne _ _ (Ne.symm hpq)]; exact hq, h8 ho⟩
  · exact h.elim
/-- zeros are appended to nil. -/
theorem gz_all {t t' : TypeId} {n : Int} : Mono (AGz T t t' n) ∧ NonV (AGz T t t' n) ∧ FinK (AGz T t t' n) ∧ Local (AGz T t t' n) := by
  refine ⟨fun σ K K' h hk => ?_, fun σ K hf h => ?_, fun σ K hf h => ?_, fun σ K q c h hq => ?_⟩
  all_goals
    first | unfold AGz at h ⊢ | unfold AGz at h
    split at h
    case h_2 => exact h.elim
    split at h
    case h_2 => exact h.elim
    obtain ⟨h1, h2, h3, h4, h⟩ := h
  · exact ⟨h1, h2, h3, h4, ⟨fun q hq => hk _ _ (h.go q hq)⟩⟩
  · obtain ⟨q, hq⟩ := hf.some
    exact ⟨_, _, h.go q hq⟩
  · exact ⟨h1, h2, h3, h4, ⟨fun q hq => ⟨hf.upd _ _, h.go q hq⟩⟩⟩
  · refine ⟨h1, h2, h3, h4, ⟨fun q' hq' => ?_⟩⟩
    have hne : q' ≠ q := fun e => by subst e; rw [upd_same] at hq'; cases hq'
    rw [upd_ne _ _ hne] at hq'
    exact ⟨_, upd_comm _ _ _ (Ne.symm hne), by rw [upd_ne _ _ (Ne.symm hne)]; exact hq, h.go q' hq'⟩
/-- copy. -/
theorem cp_all {t : TypeId} {d x : AV} {σ : Store} {K : AV → Store → Prop} (h : ACp T t d x σ K) : ∃ v p c e, σ p = some c ∧ K v (upd σ p e) ∧ (∀ K', K' v (upd σ p e) → ACp T t d x σ K') ∧ ∀ q c' K', σ q = none → K' v (upd (upd σ q c') p e) → ACp T t d x (upd σ q c') K' := by
  unfold ACp at h ⊢
  split at h
  case h_2 => exact h.elim
  split at h
  case h_2 => exact h.elim
  obtain ⟨m, xs, h1, h2, h⟩ := h
  split at h
  · obtain ⟨h3, ⟨c1, h4, h5, h⟩⟩ := h
    exact ⟨_, _, _, _, h4, h, fun K' g => ⟨m, xs, h1, h2, h3, ⟨c1, h4, h5, g⟩⟩, fun q c' K' hq g =>
      ⟨m, xs, src_local c' hq h1, h2, h3, ⟨c1, by rw [upd_ne _ _ (fun e => by subst e; rw [hq] at h4; cases h4)]; exact h4, h5, g⟩⟩⟩
  · obtain ⟨h3, ⟨c1, h4, h5, h⟩⟩ := h
    exact ⟨_, _, _, _, h4, h, fun K' g => ⟨m, xs, h1, h2, h3, ⟨c1, h4, h5, g⟩⟩, fun q c' K' hq g =>
      ⟨m, xs, src_local c' hq h1, h2, h3, ⟨c1, by rw [upd_ne _ _ (fun e => by subst e; rw [hq] at h4; cases h4)]; exact h4, h5, g⟩⟩⟩
  · exact h.elim
/-- All operations of the last kind. -/
theorem op_rest {op : Op} (hc : cls op = 3) (ρ : Operand → AV) : Mono (opA P T G op ρ) ∧ NonV (opA P T G op ρ) ∧ FinK (opA P T G op ρ) ∧ Local (opA P T G op ρ) := by
  have none : (∀ σ K, ¬ opA P T G op ρ σ K) → Mono (opA P T G op ρ) ∧ NonV (opA P T G op ρ) ∧ FinK (opA P T G op ρ) ∧ Local (opA P T G op ρ) := fun h =>
    ⟨fun σ K _ hx _ => absurd hx (h σ K), fun σ K _ hx => absurd hx (h σ K), fun σ K _ hx => absurd hx (h σ K), fun σ K _ _ hx _ => absurd hx (h σ K)⟩
  cases op <;> simp only [cls] at hc <;> first | (cases hc; done) | skip
  case store t a x =>
    refine ⟨fun σ K K' h hk => ?_, fun σ K hf h => ?_, fun σ K hf h => ?_, fun σ K q c h hq => ?_⟩ <;> obtain ⟨p, c1, d, h1, h2, h3⟩ := store_all h
    · exact h3 σ _ h1 (hk _ _ h2)
    · exact ⟨_, _, h2⟩
    · exact h3 σ _ h1 ⟨hf.upd _ _, h2⟩
    · have hpq : p ≠ q := fun e => by subst e; rw [hq] at h1; cases h1
      exact h3 _ _ (by rw [upd_ne _ _ hpq]; exact h1) ⟨_, upd_comm _ _ _ (Ne.symm hpq), by rw [upd_ne _ _ (Ne.symm hpq)]; exact hq, h2⟩
  case call c =>
    obtain ⟨callee, args, argTypes⟩ := c
    cases callee with
    | value f =>
      have hcall : ∀ x, Mono (fun σ K => (match ρ x with
          | .clo (.func f) fs cs => ACall P G f (fs ++ args.toList.map ρ ++ cs) σ K
          | _ => False : Prop)) ∧ NonV (fun σ K => (match ρ x with
          | .clo (.func f) fs cs => ACall P G f (fs ++ args.toList.map ρ ++ cs) σ K
          | _ => False : Prop)) ∧ FinK (fun σ K => (match ρ x with
          | .clo (.func f) fs cs => ACall P G f (fs ++ args.toList.map ρ ++ cs) σ K
          | _ => False : Prop)) ∧ Local (fun σ K => (match ρ x with
          | .clo (.func f) fs cs => ACall P G f (fs ++ args.toList.map ρ ++ cs) σ K
          | _ => False : Prop)) := by
        intro x
        split
        · exact ⟨call_mono, call_nonv, call_fin, call_local⟩
        · exact ⟨fun _ _ _ h _ => h, fun _ _ _ h => h.elim, fun _ _ _ h => h, fun _ _ _ _ h _ => h⟩
      cases f with
      | func f => exact ⟨call_mono, call_nonv, call_fin, call_local⟩
      | tmp t => exact hcall (.tmp t)
      | const v => exact hcall (.const v)
      | global g => exact hcall (.global g)
    | invoke r m => exact none fun _ _ h => h
    | builtin b =>
      cases b <;> first | (cases hc; done) | exact none (fun _ _ h => h) | skip
      case append =>
        have happ : Mono (fun σ K => opA P T G (.call ⟨.builtin .append, args, argTypes⟩) ρ σ K) ∧ NonV (fun σ K => opA P T G (.call ⟨.builtin .append, args, argTypes⟩) ρ σ K) ∧ FinK (fun σ K => opA P T G (.call ⟨.builtin .append, args, argTypes⟩) ρ σ K) ∧ Local (fun σ K => opA P T G (.call ⟨.builtin .append, args, argTypes⟩) ρ σ K) := by
          simp only [opA]
          split
          · split
            · exact gz_all
            · exact ⟨fun σ K K' h hk => ⟨h.1, app_mono _ _ _ h.2 hk⟩, fun σ K hf h => app_nonv _ _ hf h.2, fun σ K hf h => ⟨h.1, app_fin _ _ hf h.2⟩, fun σ K q c h hq => ⟨h.1, app_local _ _ q c h.2 hq⟩⟩
          · exact ⟨fun _ _ _ h _ => h, fun _ _ _ h => h.elim, fun _ _ _ h => h, fun _ _ _ _ h _ => h⟩
        exact happ
      case copy =>
        have hcp : Mono (fun σ K => (match argTypes.toList, args.toList with
            | [t, _], [d, x] => ACp T t (ρ d) (ρ x) σ K
            | _, _ => False : Prop)) ∧ NonV (fun σ K => (match argTypes.toList, args.toList with
            | [t, _], [d, x] => ACp T t (ρ d) (ρ x) σ K
            | _, _ => False : Prop)) ∧ FinK (fun σ K => (match argTypes.toList, args.toList with
            | [t, _], [d, x] => ACp T t (ρ d) (ρ x) σ K
            | _, _ => False : Prop)) ∧ Local (fun σ K => (match argTypes.toList, args.toList with
            | [t, _], [d, x] => ACp T t (ρ d) (ρ x) σ K
            | _, _ => False : Prop)) := by
          split
          · refine ⟨fun σ K K' h hk => ?_, fun σ K hf h => ?_, fun σ K hf h => ?_, fun σ K q c h hq => ?_⟩ <;> obtain ⟨v, p, c1, d, h1, h2, h3, h4⟩ := cp_all h
            · exact h3 _ (hk _ _ h2)
            · exact ⟨_, _, h2⟩
            · exact h3 _ ⟨hf.upd _ _, h2⟩
            · have hpq : p ≠ q := fun e => by subst e; rw [hq] at h1; cases h1
              exact h4 _ _ _ hq ⟨_, upd_comm _ _ _ (Ne.symm hpq), by rw [upd_ne _ _ (Ne.symm hpq)]; exact hq, h2⟩
          · exact ⟨fun _ _ _ h _ => h, fun _ _ _ h => h.elim, fun _ _ _ h => h, fun _ _ _ _ h _ => h⟩
        exact hcp
  all_goals exact none fun _ _ h => h
theorem op_mono (op : Op) (ρ : Operand → AV) : Mono (opA P T G op ρ) := by
  have h : cls op = 0 ∨ cls op = 1 ∨ cls op = 2 ∨ cls op = 3 := by
    unfold cls
    split <;> first | simp | (split <;> simp)
  rcases h with h | h | h | h
  · exact (op_pure h ρ).mono
  · cases op <;> first | (cases h; done) | skip
    case load t x => exact load_mono
    case call c =>
      obtain ⟨callee, args, argTypes⟩ := c
      cases callee with
      | value f => cases h
      | invoke r m => cases h
      | builtin b => cases b <;> cases h
  · exact (op_alloc h ρ).mono
  · exact (op_rest h ρ).1
end
end Go.Proofs.YtdpfcpkedaolfaaDoor
