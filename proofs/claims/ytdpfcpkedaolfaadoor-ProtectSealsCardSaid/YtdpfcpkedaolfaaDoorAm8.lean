/-
  The abstract machine, eighth part: regions, code, functions.
-/
import Derived.Test.YtdpfcpkedaolfaaDoorAm7
import Derived.Scope
namespace Go.Proofs.YtdpfcpkedaolfaaDoor
open Go.RowKit

/-- An abstract frame and store are those of the model's frame and world, which come from a store and a world. -/
structure Rel (G : Nat → AV) (N : Nat) (e : Env) (σ : Store) (σ0 : Store) (w0 : World) (a : Act) (w : World) : Prop where
  n : a.tmps.size = N
  d : a.defers = []
  env : ∀ x, Rd σ w (e x) (a.tmps.getD x undef)
  mem : Mem σ w
  st : Stp σ0 w0 σ w
  glob : Glob G σ w
def put (e : Env) (d : Nat) (v : AV) : Env := fun x => match Nat.beq x d with | true => v | false => e x
/-- A value is reckoned before it is kept. -/
def force0 (v : AV) (K : AV → Prop) : Prop :=
  match v with
  | .any => K .any
  | .int k n => K (.int k n)
  | .bool b => K (.bool b)
  | .str s => K (.str s)
  | .agg cs => K (.agg cs)
  | .tup vs => K (.tup vs)
  | .sl n cs => K (.sl n cs)
  | .nils => K .nils
  | .vw p off n sz => K (.vw p off n sz)
  | .ptr p off => K (.ptr p off)
  | .ip cs => K (.ip cs)
  | .ap p off n sz => K (.ap p off n sz)
  | .clo f xs ys => K (.clo f xs ys)
  | .lit v => K (.lit v)
def forceL0 : List AV → (List AV → Prop) → Prop
  | [], K => K []
  | x :: r, K => force0 x fun x => forceL0 r fun r => K (x :: r)
def force1 (v : AV) (K : AV → Prop) : Prop :=
  match v with
  | .agg cs => forceL0 cs fun cs => K (.agg cs)
  | v => force0 v K
def forceL1 : List AV → (List AV → Prop) → Prop
  | [], K => K []
  | x :: r, K => force1 x fun x => forceL1 r fun r => K (x :: r)
def force (v : AV) (K : AV → Prop) : Prop :=
  match v with
  | .tup cs => forceL1 cs fun cs => K (.tup cs)
  | v => force1 v K
theorem force0_eq (v : AV) (K : AV → Prop) : force0 v K = K v := by cases v <;> rfl
theorem forceL0_eq : ∀ (l : List AV) (K : List AV → Prop), forceL0 l K = K l
  | [], _ => rfl
  | x :: r, K => by simp only [forceL0, force0_eq, forceL0_eq r]
theorem force1_eq (v : AV) (K : AV → Prop) : force1 v K = K v := by cases v <;> first | rfl | exact forceL0_eq _ _
theorem forceL1_eq : ∀ (l : List AV) (K : List AV → Prop), forceL1 l K = K l
  | [], _ => rfl
  | x :: r, K => by simp only [forceL1, force1_eq, forceL1_eq r]
theorem force_eq (v : AV) (K : AV → Prop) : force v K = K v := by
  cases v with
  | tup cs => exact forceL1_eq _ _
  | agg cs => exact forceL0_eq cs fun cs => K (.agg cs)
  | _ => rfl
def putE (N : Nat) (e : Env) (dst : Option Tmp) (v : AV) (K : Env → Prop) : Prop :=
  match dst with
  | none => K e
  | some d => match Nat.ble (d + 1) N with | true => force v fun v => K (put e d v) | false => False
section
variable {P : Program} {T : Tys} {G : Nat → AV} {N : Nat} {e : Env} {σ σ0 : Store} {w w0 : World} {a : Act}
theorem Rel.step {σ' : Store} {w' : World} {v : AV} {u : Value} {dst : Option Tmp} {K : Env → Prop} (h : Rel G N e σ σ0 w0 a w) (hs : Stp σ w σ' w') (hm : Mem σ' w') (hr : Rd σ' w' v u) (hp : putE N e dst v K) :
    ∃ e', K e' ∧ Rel G N e' σ' σ0 w0 (a.put dst u) w' := by
  unfold putE at hp
  cases dst with
  | none => exact ⟨e, hp, h.n, h.d, fun x => (h.env x).mono hs, hm, h.st.trans hs, h.glob.mono hs⟩
  | some d =>
    simp only at hp
    split at hp
    case h_2 => exact hp.elim
    rename_i hb
    rw [force_eq] at hp
    have hd : d < N := Nat.le_of_ble_eq_true hb
    refine ⟨_, hp, by simp [Act.put, h.n], h.d, fun x => ?_, hm, h.st.trans hs, h.glob.mono hs⟩
    unfold put
    by_cases hx : x = d
    · subst hx
      have : Nat.beq x x = true := Nat.beq_refl x
      rw [this]
      simp [Act.put, h.n, hd]
      exact hr
    · have : Nat.beq x d = false := by
        cases hbq : Nat.beq x d with
        | false => rfl
        | true => exact absurd (Nat.eq_of_beq_eq_true hbq) hx
      rw [this]
      have e1 : (a.put (some d) u).tmps.getD x undef = a.tmps.getD x undef := by
        simp only [Act.put, Array.getD_eq_getD_getElem?, Array.getElem?_setIfInBounds]
        rw [if_neg (fun e => hx e.symm)]
      rw [e1]
      exact (h.env x).mono hs

/-- One operation with its guard. -/
def AOp1 (P : Program) (T : Tys) (G : Nat → AV) (N : Nat) (ops : Array Oper) (o : Oper) (K : Env → Store → Prop) (e : Env) (σ : Store) : Prop :=
  match o.guard with
  | none => opA P T G o.op (ev G e) σ fun v σ' => putE N e o.dst v fun e' => K e' σ'
  | some (j, want) =>
    match (ops[j]?).bind (·.dst) with
    | none => False
    | some t => (match e t with
      | .bool b => (match want with
        | true => ABr b (opA P T G o.op (ev G e) σ fun v σ' => putE N e o.dst v fun e' => K e' σ') (putE N e o.dst (.tup []) fun e' => K e' σ)
        | false => ABr b (putE N e o.dst (.tup []) fun e' => K e' σ) (opA P T G o.op (ev G e) σ fun v σ' => putE N e o.dst v fun e' => K e' σ'))
      | .tup _ => putE N e o.dst (.tup []) fun e' => K e' σ
      | _ => False)
theorem AOp1.sound (hT : TOk P T) {ops : Array Oper} {o : Oper} {K : Env → Store → Prop} {next : Act → World → Prop} {Q : Exit → Act → World → Prop} (hr : Rel G N e σ σ0 w0 a w) (h : AOp1 P T G N ops o K e σ)
    (hn : ∀ a' w' e' σ', K e' σ' → Rel G N e' σ' σ0 w0 a' w' → next a' w') : if Region.wanted o (yielded ops a.tmps) then o.wp P a w next Q ∨ (o.asks P a w ∧ LetsOut Q) else next (a.put o.dst undef) w := by
  have run : (opA P T G o.op (ev G e) σ fun v σ' => putE N e o.dst v fun e' => K e' σ') → o.wp P a w next Q := fun h =>
    opA.sound hT (ev_sound hr.env hr.glob) hr.mem hr.glob h fun v w' r σ' hk h1 h2 h3 => by
      obtain ⟨e', k1, k2⟩ := hr.step h3 h2 h1 hk
      exact hn _ _ _ _ k1 k2
  have skip : (putE N e o.dst (.tup []) fun e' => K e' σ) → next (a.put o.dst undef) w := fun h => by
    obtain ⟨e', k1, k2⟩ := hr.step (Stp.refl σ w) hr.mem (.tup [] #[] rfl (by simp)) h
    exact hn _ _ _ _ k1 k2
  unfold AOp1 at h
  cases hg : o.guard with
  | none =>
    rw [hg] at h
    simp only [Region.wanted, hg, if_true]
    exact .inl (run h)
  | some x =>
    obtain ⟨j, want⟩ := x
    rw [hg] at h
    simp only at h
    cases ht : (ops[j]?).bind (·.dst) with
    | none => rw [ht] at h; exact h.elim
    | some t =>
      rw [ht] at h
      simp only at h
      have hy : yielded ops a.tmps j = match a.tmps.getD t undef with | .bool b => some b | _ => none := by
        unfold yielded
        rw [ht]
        simp only [Option.bind_some, Array.getD_eq_getD_getElem?]
        cases a.tmps[t]? with
        | none => rfl
        | some v => cases v <;> rfl
      have he := hr.env t
      simp only [Region.wanted, hg, hy]
      split at h
      · rename_i b hb
        rw [hb] at he
        generalize a.tmps.getD t undef = u at he
        cases he
        simp only [beq_iff_eq, Option.some.injEq]
        cases b <;> cases want
        · rw [if_pos rfl]; exact .inl (run (h.no rfl))
        · rw [if_neg (by simp)]; exact skip (h.no rfl)
        · rw [if_neg (by simp)]; exact skip (h.yes rfl)
        · rw [if_pos rfl]; exact .inl (run (h.yes rfl))
      · rename_i vs hb
        rw [hb] at he
        generalize a.tmps.getD t undef = u at he
        cases he
        simp only
        rw [if_neg (by simp)]
        exact skip h
      · exact h.elim
/-- The operations of a region in the text's order. -/
def AOps (P : Program) (T : Tys) (G : Nat → AV) (N : Nat) (ops : Array Oper) : List Oper → (Env → Store → Prop) → Env → Store → Prop
  | [], K, e, σ => K e σ
  | o :: r, K, e, σ => AOp1 P T G N ops o (AOps P T G N ops r K) e σ
theorem AOps.sound (hT : TOk P T) {ops : Array Oper} {K : Env → Store → Prop} {Q : Exit → Act → World → Prop} : ∀ (l : List Oper) (e : Env) (σ : Store) (a : Act) (w : World), Rel G N e σ σ0 w0 a w → AOps P T G N ops l K e σ →
    (∀ a' w' e' σ', K e' σ' → Rel G N e' σ' σ0 w0 a' w' → Q .normal a' w') → wpList P ops Q l a w := by
  intro l
  induction l with
  | nil => exact fun e σ a w hr h hq => hq a w e σ h hr
  | cons o l ih =>
    intro e σ a w hr h hq
    exact AOp1.sound hT hr h fun a' w' e' σ' hk hr' => ih e' σ' a' w' hr' hk hq

/-- What code does, said by the model. -/
def QR (G : Nat → AV) (N : Nat) (Q : Exit → Env → Store → Prop) (σ0 : Store) (w0 : World) : Exit → Act → World → Prop := fun x a w => ∃ e σ, Q x e σ ∧ Rel G N e σ σ0 w0 a w
structure SWp (P : Program) (G : Nat → AV) (N : Nat) (c : Code) (Q : Exit → Env → Store → Prop) (e : Env) (σ : Store) : Prop where
  run : ∀ σ0 w0 a w, Rel G N e σ σ0 w0 a w → c.wp P (QR G N Q σ0 w0) a w
/-- To go over to another abstract frame and store. -/
structure Wks (G : Nat → AV) (N : Nat) (e : Env) (σ : Store) (R : Env → Store → Prop) : Prop where
  go : ∀ σ0 w0 a w, Rel G N e σ σ0 w0 a w → ∃ e' σ', R e' σ' ∧ Rel G N e' σ' σ0 w0 a w
theorem SWp.weak {c : Code} {Q : Exit → Env → Store → Prop} (h : Wks G N e σ (SWp P G N c Q)) : SWp P G N c Q e σ := ⟨fun σ0 w0 a w hr => by
  obtain ⟨e', σ', h1, h2⟩ := h.go σ0 w0 a w hr
  exact h1.run σ0 w0 a w h2⟩
def Qseq (K : Env → Store → Prop) (Q : Exit → Env → Store → Prop) : Exit → Env → Store → Prop
  | .normal, e, σ => K e σ
  | x, e, σ => Q x e σ
def Qblock (id : Nat) (Q : Exit → Env → Store → Prop) : Exit → Env → Store → Prop
  | .exit i, e, σ => (match Nat.beq i id with | true => Q .normal e σ | false => Q (.exit i) e σ)
  | x, e, σ => Q x e σ
def Qscope (Q : Exit → Env → Store → Prop) : Exit → Env → Store → Prop
  | .goto _, _, _ => False
  | x, e, σ => Q x e σ
/-- What code does, reckoned. -/
def AWp (P : Program) (T : Tys) (G : Nat → AV) (N : Nat) : Code → (Exit → Env → Store → Prop) → Env → Store → Prop
  | .skip, Q, e, σ => Q .normal e σ
  | .region id ops draw, Q, e, σ => (match draw with
    | false => AOps P T G N ops ops.toList (Q .normal) e σ
    | true => SWp P G N (.region id ops true) Q e σ)
  | .seq x y, Q, e, σ => AWp P T G N x (Qseq (AWp P T G N y Q) Q) e σ
  | .cond c x y, Q, e, σ => (match ev G e c with | .bool t => ABr t (AWp P T G N x Q e σ) (AWp P T G N y Q e σ) | _ => False)
  | .block id c, Q, e, σ => AWp P T G N c (Qblock id Q) e σ
  | .loop c, Q, e, σ => SWp P G N (.loop c) Q e σ
  | .exit id, Q, e, σ => Q (.exit id) e σ
  | .scope c, Q, e, σ => AWp P T G N c (Qscope Q) e σ
  | .label _, Q, e, σ => Q .normal e σ
  | .ret, Q, e, σ => Q .ret e σ
  | c, Q, e, σ => SWp P G N c Q e σ
theorem SWp.seq {x y : Code} {Q : Exit → Env → Store → Prop} (h : SWp P G N x (Qseq (SWp P G N y Q) Q) e σ) : SWp P G N (.seq x y) Q e σ := ⟨fun σ0 w0 a w hr => by
  refine wp_seq (wp_mono (h.run σ0 w0 a w hr) ?_)
  rintro x a' w' ⟨e', σ', h1, h2⟩
  cases x <;> first | exact SWp.run h1 σ0 w0 a' w' h2 | exact ⟨e', σ', h1, h2⟩⟩
theorem SWp.mono {c : Code} {Q Q' : Exit → Env → Store → Prop} (h : SWp P G N c Q e σ) (hq : ∀ x e σ, Q x e σ → Q' x e σ) : SWp P G N c Q' e σ := ⟨fun σ0 w0 a w hr =>
  wp_mono (h.run σ0 w0 a w hr) fun _ _ _ ⟨e', σ', h1, h2⟩ => ⟨e', σ', hq _ _ _ h1, h2⟩⟩
theorem AWp.sound (hT : TOk P T) : ∀ (c : Code) (Q : Exit → Env → Store → Prop) (e : Env) (σ : Store), AWp P T G N c Q e σ → SWp P G N c Q e σ := by
  intro c
  induction c with
  | skip => exact fun Q e σ h => ⟨fun σ0 w0 a w hr => wp_skip ⟨e, σ, h, hr⟩⟩
  | region id ops draw =>
    intro Q e σ h
    cases draw with
    | true => exact h
    | false => exact ⟨fun σ0 w0 a w hr => wp_region_list (AOps.sound hT ops.toList e σ a w hr h fun a' w' e' σ' hk hr' => ⟨e', σ', hk, hr'⟩)⟩
  | seq x y ihx ihy =>
    intro Q e σ h
    refine SWp.seq ((ihx _ e σ h).mono ?_)
    intro x e' σ' hq
    cases x <;> first | exact ihy Q e' σ' hq | exact hq
  | cond c x y ihx ihy =>
    intro Q e σ h
    refine ⟨fun σ0 w0 a w hr => ?_⟩
    simp only [AWp] at h
    split at h
    case h_2 => exact h.elim
    rename_i t hc
    have hv := ev_sound hr.env hr.glob c
    rw [hc] at hv
    generalize hcv : a.eval c = cv at hv
    cases hv
    cases t with
    | true => exact wp_cond_true hcv ((ihx Q e σ (h.yes rfl)).run σ0 w0 a w hr)
    | false => exact wp_cond_false hcv ((ihy Q e σ (h.no rfl)).run σ0 w0 a w hr)
  | block id c ih =>
    intro Q e σ h
    refine ⟨fun σ0 w0 a w hr => ?_⟩
    refine wp_block (wp_mono ((ih _ e σ h).run σ0 w0 a w hr) ?_)
    rintro x a' w' ⟨e', σ', h1, h2⟩
    cases x with
    | exit i =>
      simp only [Qblock] at h1
      simp only [Exit.inBlock]
      split at h1
      · rename_i hb
        rw [if_pos (Nat.eq_of_beq_eq_true hb)]
        exact ⟨e', σ', h1, h2⟩
      · rename_i hb
        rw [if_neg (fun e => by subst e; rw [Nat.beq_refl] at hb; cases hb)]
        exact ⟨e', σ', h1, h2⟩
    | _ => exact ⟨e', σ', h1, h2⟩
  | loop c ih => exact fun Q e σ h => h
  | exit id => exact fun Q e σ h => ⟨fun σ0 w0 a w hr => wp_exit ⟨e, σ, h, hr⟩⟩
  | scope c ih =>
    intro Q e σ h
    refine ⟨fun σ0 w0 a w hr => ?_⟩
    refine wp_scope_straight (wp_mono ((ih _ e σ h).run σ0 w0 a w hr) ?_)
    rintro x a' w' ⟨e', σ', h1, h2⟩
    cases x <;> first | exact h1.elim | exact ⟨e', σ', h1, h2⟩
  | label l => exact fun Q e σ h => ⟨fun σ0 w0 a w hr => wp_label ⟨e, σ, h, hr⟩⟩
  | ret => exact fun Q e σ h => ⟨fun σ0 w0 a w hr => wp_ret ⟨e, σ, h, hr⟩⟩
  | rangeFunc f ps as b iha ihb => exact fun Q e σ h => h
  | goto l => exact fun Q e σ h => h
  | refuse why => exact fun Q e σ h => h
/-- A loop. -/
theorem SWp.loop {c : Code} {Q : Exit → Env → Store → Prop} (I : Nat → Env → Store → Prop) (h0 : Wks G N e σ fun e' σ' => ∃ n, I n e' σ')
    (hr : ∀ n e σ, I n e σ → SWp P G N c (Qseq (fun e1 σ1 => Wks G N e1 σ1 fun e' σ' => ∃ m, m < n ∧ I m e' σ') Q) e σ) : SWp P G N (.loop c) Q e σ := by
  refine ⟨fun σ0 w0 a w hrel b k cs => ?_⟩
  have key : ∀ n a w e σ, I n e σ → Rel G N e σ σ0 w0 a w →
      ∃ x a' w', QR G N Q σ0 w0 x a' w' ∧ Arrives P (lone (b.at a (.code c :: .inLoop c :: k)) cs w) b k cs x a' w' := by
    intro n
    induction n using Nat.strongRecOn with
    | _ n ih =>
      intro a w e σ hI hrel
      obtain ⟨x, a₁, w₁, ⟨e1, σ1, hq, hr1⟩, harr⟩ := (hr n e σ hI).run σ0 w0 a w hrel b (.inLoop c :: k) cs
      cases x with
      | normal =>
        obtain ⟨e2, σ2, ⟨m, hm, hI2⟩, hr2⟩ := Wks.go hq σ0 w0 a₁ w₁ hr1
        obtain ⟨x2, a₂, w₂, hq₂, harr₂⟩ := ih m hm a₁ w₁ e2 σ2 hI2 hr2
        exact ⟨x2, a₂, w₂, hq₂, .of_steps (Steps.trans harr (.one step_inLoop)) harr₂⟩
      | exit id => exact ⟨_, a₁, w₁, ⟨e1, σ1, hq, hr1⟩, .pass (x := .inLoop c) rfl (fun _ _ => .inl (by simp)) harr⟩
      | goto l => exact ⟨_, a₁, w₁, ⟨e1, σ1, hq, hr1⟩, .pass (x := .inLoop c) rfl (fun _ _ => .inl (by simp)) harr⟩
      | ret => exact ⟨_, a₁, w₁, ⟨e1, σ1, hq, hr1⟩, .pass (x := .inLoop c) rfl (fun _ _ => .inl (by simp)) harr⟩
      | panic ch => exact ⟨_, a₁, w₁, ⟨e1, σ1, hq, hr1⟩, .pass (x := .inLoop c) rfl (fun _ _ => .inl (by simp)) harr⟩
      | outgrown => exact ⟨_, a₁, w₁, ⟨e1, σ1, hq, hr1⟩, .pass (x := .inLoop c) rfl (fun _ _ => .inl (by simp)) harr⟩
  obtain ⟨e2, σ2, ⟨n, hI⟩, hr2⟩ := h0.go σ0 w0 a w hrel
  obtain ⟨x, a', w', hq, harr⟩ := key n a w e2 σ2 hI hr2
  exact ⟨x, a', w', hq, .of_steps (.one step_loop) harr⟩

/-- What a function returns. -/
def resC (T : Tys) (e : Env) (σ : Store) : List ResultVar → (List AV → Prop) → Prop
  | [], K => K []
  | .tmp t :: r, K => resC T e σ r fun vs => K (e t :: vs)
  | .cell x t :: r, K => ALd T t (e x) σ fun v => resC T e σ r fun vs => K (v :: vs)
def one (vs : List AV) : AV := match vs with | [v] => v | vs => .tup vs
def Sub (τ σ : Store) : Prop := ∀ p c, τ p = some c → σ p = some c
theorem Sub.refl (σ : Store) : Sub σ σ := fun _ _ h => h
theorem Sub.upd {τ σ : Store} {p : Nm} {c : Pl} (h : Sub τ σ) (hp : τ p = none) : Sub τ (upd σ p c) := fun q d hq => by
  rw [upd_ne _ _ (fun e => by subst e; rw [hp] at hq; cases hq)]; exact h q d hq
theorem Sub.era {τ σ : Store} {p : Nm} (h : Sub τ σ) (hp : τ p = none) : Sub τ (era σ p) := fun q d hq => by
  rw [era_ne _ (fun e => by subst e; rw [hp] at hq; cases hq)]; exact h q d hq
theorem Sub.upd2 {τ σ : Store} {p : Nm} {c : Pl} (h : Sub τ σ) : Sub (Go.Proofs.YtdpfcpkedaolfaaDoor.upd τ p c) (Go.Proofs.YtdpfcpkedaolfaaDoor.upd σ p c) := fun q d hq => by
  by_cases hqp : q = p
  · subst hqp; rw [upd_same] at hq ⊢; exact hq
  · rw [upd_ne _ _ hqp] at hq ⊢; exact h q d hq
/-- What is to be shown where a function returns. -/
structure Ret (τ : Store) (ps : List (Nm × Pl)) (post : Nm → AV × List (Nm × Pl)) (r : AV) (σ : Store) : Prop where
  ex : ∃ (F : List Nm) (q : Nm), eraN τ (ps.map (·.1)) q = none ∧ ((post q).2.map (·.1)).Nodup ∧ Frz σ F r (post q).1 ∧ Sub (putAll (eraN τ (ps.map (·.1))) (post q).2) (eraN σ F)
theorem Ret.val {τ σ : Store} {v r : AV} (hq : ∃ q, eraN τ [] q = none) (h : r = v) (hs : Sub τ σ) : Ret τ [] (fun _ => (v, [])) r σ := by
  obtain ⟨q, hq⟩ := hq
  exact ⟨⟨[], q, hq, by simp, h ▸ .refl r, hs⟩⟩
theorem Ret.frz {τ σ : Store} {v r : AV} (F : List Nm) (hq : ∃ q, eraN τ [] q = none) (h : Frz σ F r v) (hs : Sub τ (eraN σ F)) : Ret τ [] (fun _ => (v, [])) r σ := by
  obtain ⟨q, hq⟩ := hq
  exact ⟨⟨F, q, hq, by simp, h, hs⟩⟩
/-- What is kept of the own places of a call: a new place. -/
theorem Ret.own {τ σ : Store} {r : AV} {f : Nm → AV} {c : Nm → Pl} (q : Nm) (hq : τ q = none) (h : r = f q) (hs : Sub (Go.Proofs.YtdpfcpkedaolfaaDoor.upd τ q (c q)) σ) : Ret τ [] (fun q => (f q, [(q, c q)])) r σ :=
  ⟨⟨[], q, hq, by simp, h ▸ .refl r, hs⟩⟩
theorem upd_none {σ : Store} {p q : Nm} {c : Pl} (h : Go.Proofs.YtdpfcpkedaolfaaDoor.upd σ p c q = none) : q ≠ p ∧ σ q = none := by
  have hne : q ≠ p := fun e => by subst e; rw [upd_same] at h; cases h
  exact ⟨hne, by rw [upd_ne _ _ hne] at h; exact h⟩
theorem some_ne {σ : Store} {p q : Nm} {c : Pl} (h : σ p = some c) (hq : σ q = none) : p ≠ q := fun e => by subst e; rw [h] at hq; cases hq
def retQ (T : Tys) (rs : List ResultVar) (R : AV → Store → Prop) : Exit → Env → Store → Prop
  | .normal, e, σ | .ret, e, σ => resC T e σ rs fun vs => force (one vs) fun r => R r σ
  | _, _, _ => False
def resOne (tmps : Array Value) (r : ResultVar) : Sem Value :=
  match r with
  | .tmp t => pure (tmps.getD t undef)
  | .cell x t => do loadVar t (← asAddr (tmps.getD x undef))
theorem results_eq (fn : Func) (tmps : Array Value) : results fn tmps = (do
    let vs ← fn.results.mapM (resOne tmps)
    pure (if h : vs.size = 1 then vs[0] else .tuple vs)) := by
  unfold results
  congr 2
theorem resC_sound (hT : TOk P T) {fn : Func} {K : List AV → Prop} (hr : Rel G N e σ σ0 w0 a w) (h : resC T e σ fn.results.toList K) : ∃ v vs, (results fn a.tmps).run P w = .ok v w ∧ K vs ∧ Rd σ w (one vs) v := by
  have main : ∀ (l : List ResultVar) (K : List AV → Prop), resC T e σ l K → ∃ (us : List Value) (vs : List AV), (l.mapM (resOne a.tmps)).run P w = .ok us w ∧ K vs ∧ vs.length = us.length ∧ ∀ i, i < vs.length → Rd σ w (vs.getD i .any) (us.getD i undef) := by
    intro l
    induction l with
    | nil => intro K h; exact ⟨[], [], rfl, h, rfl, by simp⟩
    | cons r l ih =>
      intro K h
      have step : ∀ (u : Value) (v : AV), (resOne a.tmps r).run P w = .ok u w → Rd σ w v u → (resC T e σ l fun vs => K (v :: vs)) → ∃ (us : List Value) (vs : List AV), ((r :: l).mapM (resOne a.tmps)).run P w = .ok us w ∧ K vs ∧ vs.length = us.length ∧ ∀ i, i < vs.length → Rd σ w (vs.getD i .any) (us.getD i undef) := by
        intro u v g1 g2 g3
        obtain ⟨us, vs, h1, h2, h3, h4⟩ := ih _ g3
        refine ⟨u :: us, v :: vs, ?_, h2, by simp [h3], fun i hi => ?_⟩
        · rw [List.mapM_cons, Sem.run_bind, g1, Result.andThen_ok, Sem.run_bind, h1]
          rfl
        · cases i with
          | zero => exact g2
          | succ i => simp at hi; simpa using h4 i (by omega)
      cases r with
      | cell x t =>
        obtain ⟨ad, u, v, g1, g2, g3, g4⟩ := ALd.load hT hr.mem (hr.env x) h
        refine step u v ?_ g3 g4
        show (do loadVar t (← asAddr (a.tmps.getD x undef))).run P w = _
        rw [g1]
        simpa [asAddr] using g2
      | tmp t => exact step _ _ rfl (hr.env t) h
  obtain ⟨us, vs, h1, hK, h2, h3⟩ := main _ _ h
  have hrun : (results fn a.tmps).run P w = .ok (if h : us.toArray.size = 1 then us.toArray[0] else .tuple us.toArray) w := by
    rw [results_eq, Array.mapM_eq_mapM_toList]
    simp only [map_eq_pure_bind, Sem.run_bind]
    rw [h1]
    rfl
  refine ⟨_, vs, hrun, hK, ?_⟩
  clear hK hrun h1
  match vs, us, h2, h3 with
  | [], [], _, _ => exact .tup [] #[] rfl (by simp)
  | [v], [u], _, h3 => exact h3 0 (by simp)
  | v :: v2 :: vs, u :: u2 :: us, h2, h3 =>
    have : one (v :: v2 :: vs) = .tup (v :: v2 :: vs) := rfl
    rw [this, dif_neg (by simp)]
    exact .tup _ _ (by simpa using h2) fun i hi => by
      have := h3 i hi
      simpa [Array.getD_eq_getD_getElem?, List.getD_eq_getElem?_getD] using this
def argsE (args : List AV) : Env := fun x => args.getD x .any
/-- A contract out of the function's body. -/
theorem LSpec.intro (hT : TOk P T) {f : FuncId} {fn : Func} {c : Code} {args : List AV} {ps : List (Nm × Pl)} {post : Nm → AV × List (Nm × Pl)} (hf : P.funcs[f]? = some fn) (hb : fn.body = some c) (hname : (fn.name == "runtime.NumGoroutine") = false) (hl : args.length ≤ fn.ntmps) (hpost : ∀ q, (∀ x ∈ (post q).2, x.1 = q ∨ x.1 ∈ ps.map (·.1)) ∧ (q ∉ ps.map (·.1) → ((post q).2.map (·.1)).Nodup))
    (h : ∀ τ : Store, (∃ q, eraN τ (ps.map (·.1)) q = none) → (∀ x ∈ ps, τ x.1 = some x.2) → (ps.map (·.1)).Nodup → SWp P G fn.ntmps c (retQ T fn.results.toList (Ret τ ps post)) (argsE args) τ) : LSpec P G f args ps post := by
  refine ⟨⟨fn, hf, hname, by rw [hb]; rfl⟩, hpost, fun τ w vs hm hg hps hnd hr => ?_⟩
  refine calls_of_wp hf hb ?_
  have hrel : Rel G fn.ntmps (argsE args) τ τ w ⟨vs ++ Array.replicate (fn.ntmps - vs.size) undef, []⟩ w := by
    refine ⟨by have := hr.1; simp; omega, rfl, fun x => ?_, hm, Stp.refl τ w, hg⟩
    unfold argsE
    by_cases hx : x < args.length
    · have e1 : (vs ++ Array.replicate (fn.ntmps - vs.size) undef).getD x undef = vs.getD x undef := by
        simp only [Array.getD_eq_getD_getElem?]; rw [Array.getElem?_append_left (by rw [← hr.1]; exact hx)]
      rw [e1]
      exact hr.2 x hx
    · have e1 : args.getD x .any = .any := by simp [List.getD_eq_getElem?_getD, List.getElem?_eq_none (Nat.le_of_not_lt hx)]
      rw [e1]
      exact .any _
  refine wp_mono ((h τ ⟨.b w.heap.size, eraN_keep τ _ (hm.fresh (Nat.le_refl _))⟩ hps hnd).run τ w _ w hrel) ?_
  rintro x a' w' ⟨e', σ', h1, h2⟩
  have fin : (resC T e' σ' fn.results.toList fun vs => force (one vs) fun r => Ret τ ps post r σ') → a'.defers = [] ∧ ∃ v, (results fn a'.tmps).run P w' = .ok v w' ∧ ∃ u q, Ending.returned v = .returned u ∧ eraN τ (ps.map (·.1)) q = none ∧ ((post q).2.map (·.1)).Nodup ∧
      Rd (putAll (eraN τ (ps.map (·.1))) (post q).2) w' (post q).1 u ∧ Mem (putAll (eraN τ (ps.map (·.1))) (post q).2) w' ∧ Stp τ w (putAll (eraN τ (ps.map (·.1))) (post q).2) w' := by
    intro h1
    obtain ⟨v, us, k1, h1, k2⟩ := resC_sound hT h2 h1
    rw [force_eq] at h1
    obtain ⟨⟨F, q, g1, gn, g2, g3⟩⟩ := h1
    have hsub : ∀ b, eraN σ' F b = none → putAll (eraN τ (ps.map (·.1))) (post q).2 b = none := fun b hb => by
      cases hc : putAll (eraN τ (ps.map (·.1))) (post q).2 b with
      | none => rfl
      | some c => rw [g3 b c hc] at hb; cases hb
    have hs1 : Stp σ' w' (eraN σ' F) w' := Stp.forget _ _ w' fun b hb => eraN_keep σ' F hb
    have hs2 : Stp (eraN σ' F) w' (putAll (eraN τ (ps.map (·.1))) (post q).2) w' := Stp.forget _ _ w' fun b hb => hsub _ hb
    refine ⟨h2.d, v, k1, v, q, rfl, g1, gn, (g2.sound h2.mem k2).mono hs2, (h2.mem.forget (eraN_sub σ' F)).forget g3, (h2.st.trans hs1).trans hs2⟩
  cases x <;> first | exact fin h1 | exact h1.elim
end
end Go.Proofs.YtdpfcpkedaolfaaDoor
