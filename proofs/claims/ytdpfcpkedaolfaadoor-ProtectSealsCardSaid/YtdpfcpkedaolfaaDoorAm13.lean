/-
  The abstract machine, thirteenth part: a region whose order is drawn, by one order of it.
-/
import Derived.Test.YtdpfcpkedaolfaaDoorAm12
namespace Go.Proofs.YtdpfcpkedaolfaaDoor
open Go.RowKit

section
variable {P : Program} {T : Tys} {G : Nat → AV} {N : Nat}
theorem opD_congr {Pr : Nm → Prop} {fr : Bool} {op : Op} {ρ ρ' : Operand → AV} (h : ∀ x ∈ op.operands, ρ x = ρ' x) : opD P T G Pr fr op ρ = opD P T G Pr fr op ρ' := by
  funext σ K
  unfold opD
  have hl : ldPr Pr fr op ρ = ldPr Pr fr op ρ' := by
    cases fr <;> cases op <;> first | rfl | skip
    case true.load t x =>
      show (match ρ x with | .ptr p _ => Pr p | _ => True) = (match ρ' x with | .ptr p _ => Pr p | _ => True)
      rw [h x (by simp [Op.operands])]
  rw [opA_congr h, hl]
theorem ev_put {ops : Array Oper} {y : Oper} {e : Env} {dst : Option Tmp} (v : AV) (h : ∀ d, dst = some d → d ∉ y.looksAt ops) : ∀ x ∈ y.op.operands, ev G (putF e dst v) x = ev G e x := by
  intro x hx
  cases x with
  | tmp t =>
    refine putF_other v fun d hd e => h d hd ?_
    subst e
    exact List.mem_append_left _ (List.mem_filterMap.2 ⟨.tmp t, by simpa using hx, rfl⟩)
  | const v => rfl
  | global g => rfl
  | func f => rfl
theorem gst_put {ops : Array Oper} {y : Oper} {e : Env} {dst : Option Tmp} (v : AV) (h : ∀ d, dst = some d → d ∉ y.looksAt ops) : gst ops y (putF e dst v) = gst ops y e := by
  unfold gst
  cases hg : y.guard with
  | none => rfl
  | some x =>
    obtain ⟨j, want⟩ := x
    simp only
    cases ht : (ops[j]?).bind (·.dst) with
    | none => rfl
    | some t =>
      simp only
      rw [putF_other v fun d hd e => h d hd (by subst e; simp [Oper.looksAt, hg, ht])]
def AOpd (P : Program) (T : Tys) (G : Nat → AV) (N : Nat) (Pr : Nm → Prop) (fr : Bool) (ops : Array Oper) (o : Oper) (K : Env → Store → Prop) (e : Env) (σ : Store) : Prop :=
  AOpG (opD P T G Pr fr o.op (ev G e)) N ops o K e σ
theorem AOpd.mono {Pr : Nm → Prop} {fr : Bool} {ops : Array Oper} {o : Oper} {K K' : Env → Store → Prop} {e : Env} {σ : Store} (hd : dstOk N o.dst = true) (h : AOpd P T G N Pr fr ops o K e σ) (hk : ∀ e σ, K e σ → K' e σ) : AOpd P T G N Pr fr ops o K' e σ := by
  unfold AOpd at *
  rw [AOpG.iff] at *
  split at h
  · rename_i hg
    exact opD_mono _ _ _ _ _ _ _ h fun v σ' h1 => (putE_iff hd v _).2 (hk _ _ ((putE_iff hd v _).1 h1))
  · exact (putE_iff hd _ _).2 (hk _ _ ((putE_iff hd _ _).1 h))
  · exact h
theorem AOpd.fin {Pr : Nm → Prop} {fr : Bool} {ops : Array Oper} {o : Oper} {K : Env → Store → Prop} {e : Env} {σ : Store} (hd : dstOk N o.dst = true) (hf : Fin σ) (h : AOpd P T G N Pr fr ops o K e σ) : AOpd P T G N Pr fr ops o (fun e σ => Fin σ ∧ K e σ) e σ := by
  unfold AOpd at *
  rw [AOpG.iff] at *
  split at h
  · exact opD_mono _ _ _ _ _ _ _ (opD_fin _ _ _ _ _ _ hf h) fun v σ' h1 => (putE_iff hd v _).2 ⟨h1.1, (putE_iff hd v _).1 h1.2⟩
  · exact (putE_iff hd _ _).2 ⟨hf, (putE_iff hd _ _).1 h⟩
  · exact h
theorem AOpd.to1 {Pr : Nm → Prop} {fr : Bool} {ops : Array Oper} {o : Oper} {K : Env → Store → Prop} {e : Env} {σ : Store} (h : AOpd P T G N Pr fr ops o K e σ) : AOp1 P T G N ops o K e σ := by
  rw [AOp1_eq]
  unfold AOpd at h
  rw [AOpG.iff] at *
  split at h
  · exact h.imp
  · exact h
  · exact h
theorem step_swap {Pr : Nm → Prop} {fx fy : Bool} {ops : Array Oper} {x y : Oper} {K : Env → Store → Prop} {e : Env} {σ : Store} (hf : Fin σ) (hap : x.apart ops y = true) (ha : allowed (cls x.op) (cls y.op) fx fy = true) (hdx : dstOk N x.dst = true) (hdy : dstOk N y.dst = true)
    (h : AOpd P T G N Pr fx ops x (AOpd P T G N Pr fy ops y K) e σ) : AOpd P T G N Pr fy ops y (AOpd P T G N Pr fx ops x K) e σ := by
  obtain ⟨a1, a2, a3⟩ := Oper.apart_spec hap
  have hcomm : ∀ v u, putF (putF e x.dst v) y.dst u = putF (putF e y.dst u) x.dst v := fun v u => putF_comm e v u a2
  -- what y does behind x, and x behind y
  have yin : ∀ v σ1, AOpd P T G N Pr fy ops y K (putF e x.dst v) σ1 ↔ (match gst ops y e with
      | some true => opD P T G Pr fy y.op (ev G e) σ1 fun u σ2 => K (putF (putF e y.dst u) x.dst v) σ2
      | some false => K (putF (putF e y.dst (.tup [])) x.dst v) σ1
      | none => False) := by
    intro v σ1
    unfold AOpd
    rw [AOpG.iff, gst_put v a1, opD_congr (ev_put (G := G) (e := e) v a1)]
    cases gst ops y e with
    | none => exact Iff.rfl
    | some b =>
      cases b with
      | true =>
        constructor
        · exact fun h => opD_mono _ _ _ _ _ _ _ h fun u σ2 h1 => by rw [← hcomm]; exact (putE_iff hdy u _).1 h1
        · exact fun h => opD_mono _ _ _ _ _ _ _ h fun u σ2 h1 => (putE_iff hdy u _).2 (by rw [hcomm]; exact h1)
      | false =>
        simp only
        rw [putE_iff hdy, hcomm]
  have xin : ∀ u σ1, AOpd P T G N Pr fx ops x K (putF e y.dst u) σ1 ↔ (match gst ops x e with
      | some true => opD P T G Pr fx x.op (ev G e) σ1 fun v σ2 => K (putF (putF e y.dst u) x.dst v) σ2
      | some false => K (putF (putF e y.dst u) x.dst (.tup [])) σ1
      | none => False) := by
    intro u σ1
    unfold AOpd
    rw [AOpG.iff, gst_put u a3, opD_congr (ev_put (G := G) (e := e) u a3)]
    cases gst ops x e with
    | none => exact Iff.rfl
    | some b =>
      cases b with
      | true =>
        constructor
        · exact fun h => opD_mono _ _ _ _ _ _ _ h fun v σ2 h1 => (putE_iff hdx v _).1 h1
        · exact fun h => opD_mono _ _ _ _ _ _ _ h fun v σ2 h1 => (putE_iff hdx v _).2 h1
      | false =>
        simp only
        rw [putE_iff hdx]
  rw [AOpd, AOpG.iff] at h
  rw [AOpd, AOpG.iff]
  cases hgx : gst ops x e with
  | none => rw [hgx] at h; exact h.elim
  | some gx =>
    rw [hgx] at h
    cases hgy : gst ops y e with
    | none =>
      simp only [hgy] at yin
      cases gx with
      | true =>
        simp only at h
        obtain ⟨v, σ1, h1⟩ := opD_nonv _ _ _ _ _ _ hf h
        exact ((yin v σ1).1 ((putE_iff hdx v _).1 h1)).elim
      | false => exact ((yin _ σ).1 ((putE_iff hdx _ _).1 h)).elim
    | some gy =>
      simp only [hgx] at xin
      simp only [hgy] at yin
      cases gx with
      | true =>
        simp only at h xin
        cases gy with
        | true =>
          simp only at yin ⊢
          have h1 := opD_mono _ _ _ _ _ _ _ h fun v σ1 h1 => (yin v σ1).1 ((putE_iff hdx v _).1 h1)
          have h2 := op_swap (K := fun v u σ2 => K (putF (putF e y.dst u) x.dst v) σ2) hf ha h1
          exact opD_mono _ _ _ _ _ _ _ h2 fun u σ1 h3 => (putE_iff hdy u _).2 ((xin u σ1).2 h3)
        | false =>
          simp only at yin ⊢
          have h1 := opD_mono _ _ _ _ _ _ _ h fun v σ1 h1 => (yin v σ1).1 ((putE_iff hdx v _).1 h1)
          exact (putE_iff hdy _ _).2 ((xin _ σ).2 h1)
      | false =>
        simp only at h xin
        have h0 := (putE_iff hdx _ _).1 h
        cases gy with
        | true =>
          simp only at yin ⊢
          have h1 := (yin _ σ).1 h0
          exact opD_mono _ _ _ _ _ _ _ h1 fun u σ1 h3 => (putE_iff hdy u _).2 ((xin u σ1).2 h3)
        | false =>
          simp only at yin ⊢
          exact (putE_iff hdy _ _).2 ((xin _ σ).2 ((yin _ σ).1 h0))

def inL : List Nat → Nat → Bool
  | [], _ => false
  | x :: l, n => match Nat.beq x n with | true => true | false => inL l n
theorem inL_iff : ∀ (l : List Nat) (n : Nat), inL l n = true ↔ n ∈ l
  | [], n => by simp [inL]
  | x :: l, n => by
    simp only [inL]
    cases h : Nat.beq x n with
    | true => have := Nat.eq_of_beq_eq_true h; subst this; simp
    | false =>
      have hne : n ≠ x := fun e => by subst e; rw [Nat.beq_refl] at h; cases h
      simp [inL_iff l n, hne]
/-- A region in a given order. -/
def APerm (P : Program) (T : Tys) (G : Nat → AV) (N : Nat) (Pr : Nm → Prop) (frs : List Nat) (ops : Array Oper) : List Nat → (Env → Store → Prop) → Env → Store → Prop
  | [], K, e, σ => K e σ
  | i :: r, K, e, σ => (match ops[i]? with
    | some o => AOpd P T G N Pr (inL frs i) ops o (APerm P T G N Pr frs ops r K) e σ
    | none => False)
def edgesOf (ops : Array Oper) (i : Nat) : List Nat := match ops[i]? with | some o => (o.after.toList.filter fun e => Region.binds .any e).map (·.on) | none => []
def okPair (ops : Array Oper) (prs : List (List Nat)) (frs : List Nat) (x y : Nat) : Bool :=
  x != y && !(inL (prs.getD x []) y) && (inL (prs.getD y []) x || (match ops[x]?, ops[y]? with
    | some a, some b => a.apart ops b && allowed (cls a.op) (cls b.op) (inL frs x) (inL frs y)
    | _, _ => false))
def pwOk (ops : Array Oper) (prs : List (List Nat)) (frs : List Nat) : List Nat → Bool
  | [] => true
  | x :: r => r.all (okPair ops prs frs x) && pwOk ops prs frs r
def drawOk (N : Nat) (ops : Array Oper) (prs : List (List Nat)) (frs perm : List Nat) : Bool :=
  perm.length == ops.size && perm.all (fun i => decide (i < ops.size)) && (List.range ops.size).all (inL perm) &&
  (List.range ops.size).all (fun i => (match ops[i]? with | some o => dstOk N o.dst | none => false) &&
    !(inL (prs.getD i []) i) && (prs.getD i []).all (fun j => (edgesOf ops i).any fun k => k == j || inL (prs.getD k []) j) && (edgesOf ops i).all (fun k => decide (k < ops.size) && inL (prs.getD i []) k)) &&
  pwOk ops prs frs perm
theorem APerm.mono {Pr : Nm → Prop} {frs : List Nat} {ops : Array Oper} (hd : ∀ (i : Nat) (o : Oper), ops[i]? = some o → dstOk N o.dst = true) : ∀ (l : List Nat) {K K' : Env → Store → Prop} (e : Env) (σ : Store), APerm P T G N Pr frs ops l K e σ → (∀ e σ, K e σ → K' e σ) → APerm P T G N Pr frs ops l K' e σ := by
  intro l
  induction l with
  | nil => exact fun e σ h hk => hk e σ h
  | cons i r ih =>
    intro K K' e σ h hk
    simp only [APerm] at h ⊢
    split at h
    · rename_i o ho
      exact AOpd.mono (hd i o ho) h fun e σ h => ih e σ h hk
    · exact h
/-- An operation that may come first is taken to the front. -/
theorem APerm.front {Pr : Nm → Prop} {prs : List (List Nat)} {frs : List Nat} {ops : Array Oper} (hd : ∀ (i : Nat) (o : Oper), ops[i]? = some o → dstOk N o.dst = true) {i : Nat} {o : Oper} (ho : ops[i]? = some o) {l2 : List Nat} {K : Env → Store → Prop} :
    ∀ (l1 : List Nat) (e : Env) (σ : Store), Fin σ → (∀ x ∈ l1, okPair ops prs frs x i = true ∧ inL (prs.getD i []) x = false) → APerm P T G N Pr frs ops (l1 ++ i :: l2) K e σ →
    AOpd P T G N Pr (inL frs i) ops o (APerm P T G N Pr frs ops (l1 ++ l2) K) e σ := by
  intro l1
  induction l1 with
  | nil => intro e σ _ _ h; simpa [APerm, ho] using h
  | cons x l1 ih =>
    intro e σ hf hok h
    obtain ⟨h1, h2⟩ := hok x (by simp)
    simp only [List.cons_append, APerm] at h
    cases hx : ops[x]? with
    | none => rw [hx] at h; exact h.elim
    | some ox =>
      rw [hx] at h
      simp only at h
      simp only [okPair, h2, hx, ho, Bool.false_or, Bool.and_eq_true] at h1
      have h3 := AOpd.mono (hd x ox hx) (AOpd.fin (hd x ox hx) hf h) fun e1 σ1 hk => ih e1 σ1 hk.1 (fun y hy => hok y (by simp [hy])) hk.2
      have h4 := step_swap hf h1.2.1 h1.2.2 (hd x ox hx) (hd i o ho) h3
      refine AOpd.mono (hd i o ho) h4 fun e1 σ1 hk => ?_
      simp only [List.cons_append, APerm, hx]
      exact hk
theorem mem_mid {l1 l2 : List Nat} {i y : Nat} (h : y ∈ l1 ++ l2) : y ∈ l1 ++ i :: l2 := by
  rcases List.mem_append.1 h with h | h
  · exact List.mem_append_left _ h
  · exact List.mem_append_right _ (List.mem_cons_of_mem _ h)
theorem APerm.sound (hT : TOk P T) {Pr : Nm → Prop} {prs : List (List Nat)} {frs : List Nat} {ops : Array Oper} {K : Env → Store → Prop} {Q : Exit → Act → World → Prop} {σ0 : Store} {w0 : World} (hd : ∀ (i : Nat) (o : Oper), ops[i]? = some o → dstOk N o.dst = true)
    (hc1 : ∀ i, i < ops.size → ∀ j, inL (prs.getD i []) j = true → ∃ k ∈ edgesOf ops i, k = j ∨ inL (prs.getD k []) j = true) (hc2 : ∀ i, i < ops.size → ∀ k ∈ edgesOf ops i, k < ops.size ∧ inL (prs.getD i []) k = true) (hself : ∀ i, i < ops.size → inL (prs.getD i []) i = false)
    (hq : ∀ a' w' e' σ', K e' σ' → Rel G N e' σ' σ0 w0 a' w' → Q .normal a' w') :
    ∀ (n : Nat) (l : List Nat) (listed : Array Bool) (e : Env) (σ : Store) (a : Act) (w : World), l.length = n → listed.size = ops.size → (∀ i ∈ l, i < ops.size) → (∀ i, i < ops.size → (i ∈ l ↔ listed.getD i false = false)) →
      (∀ i, i < ops.size → listed.getD i false = true → ∀ j, inL (prs.getD i []) j = true → listed.getD j false = true) → pwOk ops prs frs l = true →
      Rel G N e σ σ0 w0 a w → APerm P T G N Pr frs ops l K e σ → wpAny P .any ops Q n listed a w := by
  intro n
  induction n with
  | zero =>
    intro l listed e σ a w hl hz hlt hin hdc hpw hr h
    obtain rfl : l = [] := List.eq_nil_of_length_eq_zero hl
    refine ⟨?_, hq a w e σ h hr⟩
    unfold Region.ready
    rw [List.filter_eq_nil_iff]
    intro i hi
    have hi : i < ops.size := by simpa using hi
    have : listed.getD i true = true := by
      have hs : i < listed.size := by omega
      cases hb : listed.getD i false with
      | true => simpa [hs] using hb
      | false => exact absurd ((hin i hi).2 hb) (by simp)
    simp [this]
  | succ n ih =>
    intro l listed e σ a w hl hz hlt hin hdc hpw hr h
    have hgd : ∀ i, i < ops.size → listed.getD i true = listed.getD i false := fun i hi => by
      have : i < listed.size := by omega
      simp [this]
    have hedge : ∀ i o, ops[i]? = some o → ((o.after.all fun e => !Region.binds .any e || listed.getD e.on false) = true ↔ ∀ k ∈ edgesOf ops i, listed.getD k false = true) := by
      intro i o ho
      unfold edgesOf
      rw [ho]
      simp only [Array.all_eq_true_iff_forall_mem, List.mem_map, List.mem_filter]
      constructor
      · rintro h k ⟨e, ⟨h1, h2⟩, rfl⟩
        have := h e (by simpa using h1)
        simpa [h2] using this
      · intro h e he
        cases hb : Region.binds .any e with
        | false => rfl
        | true => simpa using h e.on ⟨e, ⟨by simpa using he, hb⟩, rfl⟩
    have hready : ∀ i, i ∈ Region.ready .any ops listed ↔ i ∈ l ∧ ∀ k ∈ edgesOf ops i, listed.getD k false = true := by
      intro i
      unfold Region.ready
      rw [List.mem_filter]
      constructor
      · rintro ⟨h1, h2⟩
        have hi : i < ops.size := by simpa using h1
        have ho : ops[i]? = some ops[i] := by simp [hi]
        rw [ho, hgd i hi] at h2
        simp only [Option.map_some, Option.getD_some, Bool.and_eq_true, Bool.not_eq_true'] at h2
        exact ⟨(hin i hi).2 h2.1, (hedge i _ ho).1 h2.2⟩
      · rintro ⟨h1, h2⟩
        have hi := hlt i h1
        have ho : ops[i]? = some ops[i] := by simp [hi]
        refine ⟨by simpa using hi, ?_⟩
        rw [ho, hgd i hi]
        simp only [Option.map_some, Option.getD_some, Bool.and_eq_true, Bool.not_eq_true']
        exact ⟨(hin i hi).1 h1, (hedge i _ ho).2 h2⟩
    have hpre : ∀ i, i < ops.size → (∀ k ∈ edgesOf ops i, listed.getD k false = true) → ∀ j, inL (prs.getD i []) j = true → listed.getD j false = true := by
      intro i hi hk j hj
      obtain ⟨k, hk1, hk2⟩ := hc1 i hi j hj
      rcases hk2 with rfl | hk2
      · exact hk k hk1
      · exact hdc k (hc2 i hi k hk1).1 (hk k hk1) j hk2
    have pw_mem : ∀ (l1 : List Nat) (i : Nat) (l2 : List Nat), pwOk ops prs frs (l1 ++ i :: l2) = true → (∀ x ∈ l1, okPair ops prs frs x i = true) ∧ (∀ y ∈ l2, okPair ops prs frs i y = true) ∧ pwOk ops prs frs (l1 ++ l2) = true := by
      intro l1
      induction l1 with
      | nil =>
        intro i l2 h
        simp only [List.nil_append, pwOk, Bool.and_eq_true, List.all_eq_true] at h
        exact ⟨by simp, h.1, h.2⟩
      | cons x l1 ih1 =>
        intro i l2 h
        simp only [List.cons_append, pwOk, Bool.and_eq_true, List.all_eq_true] at h
        obtain ⟨h1, h2⟩ := h
        obtain ⟨g1, g2, g3⟩ := ih1 i l2 h2
        refine ⟨?_, g2, ?_⟩
        · intro y hy
          rcases List.mem_cons.1 hy with rfl | hy
          · exact h1 i (by simp)
          · exact g1 y hy
        · simp only [List.cons_append, pwOk, Bool.and_eq_true, List.all_eq_true]
          exact ⟨fun y hy => h1 y (mem_mid hy), g3⟩
    refine ⟨fun hnil => ?_, fun i hi => ?_⟩
    · -- the first one may come
      cases l with
      | nil => simp at hl
      | cons x r =>
        have hx : x ∈ Region.ready .any ops listed := (hready x).2 ⟨by simp, fun k hk => by
          obtain ⟨hk1, hk2⟩ := hc2 x (hlt x (by simp)) k hk
          cases hb : listed.getD k false with
          | true => rfl
          | false =>
            have hkl := (hin k hk1).2 hb
            simp only [pwOk, Bool.and_eq_true, List.all_eq_true] at hpw
            rcases List.mem_cons.1 hkl with rfl | hkr
            · rw [hself k hk1] at hk2; cases hk2
            · have := hpw.1 k hkr
              simp only [okPair, Bool.and_eq_true, Bool.not_eq_true'] at this
              rw [hk2] at this
              cases this.1.2⟩
        rw [hnil] at hx
        cases hx
    · obtain ⟨hil, hie⟩ := (hready i).1 hi
      have hi' := hlt i hil
      have ho : ops[i]? = some ops[i] := by simp [hi']
      obtain ⟨l1, l2, rfl⟩ := List.append_of_mem hil
      obtain ⟨p1, p2, p3⟩ := pw_mem l1 i l2 hpw
      have hfr := APerm.front hd ho l1 e σ hr.mem.toFin (fun x hx => ⟨p1 x hx, by
        cases hb : inL (prs.getD i []) x with
        | false => rfl
        | true =>
          have h1 := hpre i hi' hie x hb
          have h2 := (hin x (hlt x (by simp [hx]))).1 (by simp [hx])
          rw [h1] at h2; cases h2⟩) h
      have hne : ∀ x, x ∈ l1 ++ l2 → x ≠ i := by
        intro x hx e
        subst e
        rcases List.mem_append.1 hx with hx | hx
        · have := p1 x hx; simp [okPair] at this
        · have := p2 x hx; simp [okPair] at this
      have hs := AOp1.sound hT hr hfr.to1 (Q := Q) (next := wpAny P .any ops Q n (listed.setIfInBounds i true)) fun a' w' e' σ' hk hr' => by
        refine ih (l1 ++ l2) (listed.setIfInBounds i true) e' σ' a' w' (by simp at hl ⊢; omega) (by simpa using hz) (fun x hx => hlt x (mem_mid hx)) (fun x hx => ?_) (fun x hx hlx j hj => ?_) p3 hr' hk
        · by_cases hxi : x = i
          · subst hxi
            constructor
            · intro hm; exact absurd rfl (hne x hm)
            · intro hm; simp [hz, hx] at hm
          · have e1 : (listed.setIfInBounds i true).getD x false = listed.getD x false := by
              simp only [Array.getD_eq_getD_getElem?, Array.getElem?_setIfInBounds]
              rw [if_neg (fun e => hxi e.symm)]
            rw [e1, ← hin x hx]
            simp [hxi]
        · have up : ∀ j, listed.getD j false = true → (listed.setIfInBounds i true).getD j false = true := fun j hj => by
            simp only [Array.getD_eq_getD_getElem?, Array.getElem?_setIfInBounds] at hj ⊢
            split
            · rw [if_pos (by omega)]; rfl
            · exact hj
          by_cases hxi : x = i
          · subst hxi
            exact up j (hpre x hx hie j hj)
          · have e1 : (listed.setIfInBounds i true).getD x false = listed.getD x false := by
              simp only [Array.getD_eq_getD_getElem?, Array.getElem?_setIfInBounds]
              rw [if_neg (fun e => hxi e.symm)]
            rw [e1] at hlx
            exact up j (hdc x hx hlx j hj)
      unfold wpOp
      rw [ho]
      exact hs
/-- A region whose order is drawn: by one order ('perm'), with what must come before what ('prs'), the loads that may come at any time ('frs'), and the places that are kept. -/
theorem SWp.draw (hT : TOk P T) (hm : P.follows .mixedOrders = true) {id : Nat} {ops : Array Oper} {Q : Exit → Env → Store → Prop} {e : Env} {σ : Store} (prs : List (List Nat)) (frs perm : List Nat) (Pr : Nm → Prop) (hok : drawOk N ops prs frs perm = true)
    (h : APerm P T G N Pr frs ops perm (Q .normal) e σ) : SWp P G N (.region id ops true) Q e σ := by
  refine ⟨fun σ0 w0 a w hr => ?_⟩
  refine wp_region_any hm ?_
  unfold drawOk at hok
  simp only [Bool.and_eq_true, beq_iff_eq, List.all_eq_true, decide_eq_true_eq, List.mem_range] at hok
  obtain ⟨⟨⟨⟨k1, k2⟩, k3⟩, k4⟩, k5⟩ := hok
  have hr' : Rel G N e σ σ0 w0 a { w with drawn := w.drawn + 1 } := ⟨hr.n, hr.d, fun x => (hr.env x).mono (Stp.refl σ w).drew, hr.mem.drew, hr.st.drew, hr.glob.mono (Stp.refl σ w).drew⟩
  have hget : ∀ i, i < ops.size → (Array.replicate ops.size false).getD i false = false := fun i hi => by simp [hi]
  have hd : ∀ (i : Nat) (o : Oper), ops[i]? = some o → dstOk N o.dst = true := fun i o ho => by
    have hi : i < ops.size := (Array.getElem?_eq_some_iff.1 ho).1
    have := (k4 i hi).1.1.1
    rw [ho] at this
    exact this
  refine APerm.sound hT hd (fun i hi j hj => ?_) (fun i hi k hk => ?_) (fun i hi => ?_) (fun a' w' e' σ' hk hr' => ⟨e', σ', hk, hr'⟩) ops.size perm (Array.replicate ops.size false) e σ a _ k1 (by simp) (fun i hi => k2 i hi) (fun i hi => ?_) (fun i hi hl => ?_) k5 hr' h
  · have := (k4 i hi).1.2 j ((inL_iff _ _).1 hj)
    simp only [List.any_eq_true, Bool.or_eq_true, beq_iff_eq] at this
    exact this
  · exact (k4 i hi).2 k hk
  · simpa using (k4 i hi).1.1.2
  · exact ⟨fun _ => hget i hi, fun _ => (inL_iff _ _).1 (k3 i hi)⟩
  · rw [hget i hi] at hl; cases hl
end
end Go.Proofs.YtdpfcpkedaolfaaDoor
