/-
  The abstract machine, seventeenth part: code, functions, calls and loops over a list of places.
-/
import Derived.Test.YtdpfcpkedaolfaaDoorAm16
namespace Go.Proofs.YtdpfcpkedaolfaaDoor
open Go.RowKit

section
variable {P : Program} {T : Tys} {G : Nat → AV} {N : Nat} {e : Env} {σ σ0 : Store} {w w0 : World} {a : Act} {l : LS} {φ : Store}
theorem putE_mono {dst : Option Tmp} {v : AV} {K K' : Env → Prop} (h : putE N e dst v K) (hk : ∀ e, K e → K' e) : putE N e dst v K' := by
  unfold putE at *
  cases dst with
  | none => exact hk _ h
  | some d =>
    simp only at h ⊢
    split at h
    · rw [force_eq] at h ⊢; exact hk _ h
    · exact h.elim
def KE (φ : Store) (K : Env → LS → Prop) : Env → Store → Prop := fun e σ => ∃ l, σ = putAll φ l ∧ Sep φ l ∧ K e l
def QL (φ : Store) (Q : Exit → Env → LS → Prop) : Exit → Env → Store → Prop := fun x => KE φ (Q x)
/-- One operation with its guard. -/
def AOpGL (X : (AV → LS → Prop) → Prop) (N : Nat) (ops : Array Oper) (o : Oper) (K : Env → LS → Prop) (e : Env) (l : LS) : Prop :=
  match o.guard with
  | none => X fun v l' => putE N e o.dst v fun e' => K e' l'
  | some (j, want) =>
    match (ops[j]?).bind (·.dst) with
    | none => False
    | some t => (match e t with
      | .bool b => (match want with
        | true => ABr b (X fun v l' => putE N e o.dst v fun e' => K e' l') (putE N e o.dst (.tup []) fun e' => K e' l)
        | false => ABr b (putE N e o.dst (.tup []) fun e' => K e' l) (X fun v l' => putE N e o.dst v fun e' => K e' l'))
      | .tup _ => putE N e o.dst (.tup []) fun e' => K e' l
      | _ => False)
theorem AOpGL.sound {X : (AV → LS → Prop) → Prop} {Y : XF} (hm : Mono Y) (hs : Sep φ l) (hxy : ∀ K, X K → Y (putAll φ l) (LK φ K)) {ops : Array Oper} {o : Oper} {K : Env → LS → Prop} (h : AOpGL X N ops o K e l) : AOpG Y N ops o (KE φ K) e (putAll φ l) := by
  have one : (X fun v l' => putE N e o.dst v fun e' => K e' l') → Y (putAll φ l) fun v σ' => putE N e o.dst v fun e' => KE φ K e' σ' := fun h =>
    hm _ _ _ (hxy _ h) fun v σ' ⟨l', h1, h2, h3⟩ => putE_mono h3 fun e' hk => ⟨l', h1, h2, hk⟩
  have skip : (putE N e o.dst (.tup []) fun e' => K e' l) → putE N e o.dst (.tup []) fun e' => KE φ K e' (putAll φ l) := fun h => putE_mono h fun e' hk => ⟨l, rfl, hs, hk⟩
  unfold AOpGL at h
  unfold AOpG
  split at h
  · rename_i hg
    simp only [hg]
    exact one h
  · rename_i j want hg
    simp only [hg]
    split at h
    · exact h.elim
    · rename_i t ht
      simp only [ht]
      split at h
      · rename_i b hb
        simp only [hb]
        cases want with
        | true => exact h.mono one skip
        | false => exact h.mono skip one
      · rename_i vs hb
        simp only [hb]
        exact skip h
      · exact h.elim
def AOpsL (P : Program) (T : Tys) (G : Nat → AV) (N : Nat) (ops : Array Oper) : List Oper → (Env → LS → Prop) → Env → LS → Prop
  | [], K, e, l => K e l
  | o :: r, K, e, l => AOpGL (opL P T G o.op (ev G e) l) N ops o (AOpsL P T G N ops r K) e l
theorem AOps.mono {ops : Array Oper} {K K' : Env → Store → Prop} (hk : ∀ e σ, K e σ → K' e σ) : ∀ (r : List Oper) (e : Env) (σ : Store), AOps P T G N ops r K e σ → AOps P T G N ops r K' e σ := by
  intro r
  induction r with
  | nil => exact fun e σ h => hk e σ h
  | cons o r ih =>
    intro e σ h
    have run : (opA P T G o.op (ev G e) σ fun v σ' => putE N e o.dst v fun e' => AOps P T G N ops r K e' σ') → opA P T G o.op (ev G e) σ fun v σ' => putE N e o.dst v fun e' => AOps P T G N ops r K' e' σ' := fun h =>
      op_mono _ _ _ _ _ h fun v σ' h => putE_mono h fun e' => ih e' σ'
    have skip : (putE N e o.dst (.tup []) fun e' => AOps P T G N ops r K e' σ) → putE N e o.dst (.tup []) fun e' => AOps P T G N ops r K' e' σ := fun h => putE_mono h fun e' => ih e' σ
    have h : AOp1 P T G N ops o (AOps P T G N ops r K) e σ := h
    show AOp1 P T G N ops o (AOps P T G N ops r K') e σ
    unfold AOp1 at h ⊢
    cases hg : o.guard with
    | none => rw [hg] at h; exact run h
    | some x =>
      obtain ⟨j, want⟩ := x
      rw [hg] at h
      simp only at h ⊢
      cases ht : (ops[j]?).bind (·.dst) with
      | none => rw [ht] at h; exact h.elim
      | some t =>
        rw [ht] at h
        simp only at h ⊢
        cases hb : e t <;> rw [hb] at h <;> simp only at h ⊢ <;> first
          | exact h.elim
          | exact skip h
          | (cases want with
            | true => exact h.mono run skip
            | false => exact h.mono skip run)
theorem AOpsL.sound {ops : Array Oper} {K : Env → LS → Prop} : ∀ (r : List Oper) (e : Env) (l : LS), Sep φ l → AOpsL P T G N ops r K e l → AOps P T G N ops r (KE φ K) e (putAll φ l) := by
  intro r
  induction r with
  | nil => exact fun e l hs h => ⟨l, rfl, hs, h⟩
  | cons o r ih =>
    intro e l hs h
    show AOp1 P T G N ops o (AOps P T G N ops r (KE φ K)) e (putAll φ l)
    have h1 : AOpG (opA P T G o.op (ev G e)) N ops o (KE φ (AOpsL P T G N ops r K)) e (putAll φ l) := AOpGL.sound (op_mono _ _) hs (fun K h => opL.sound hs h) h
    rw [AOp1_eq]
    unfold AOpG at h1 ⊢
    have hk : ∀ e' σ', KE φ (AOpsL P T G N ops r K) e' σ' → AOps P T G N ops r (KE φ K) e' σ' := by
      rintro e' σ' ⟨l', rfl, hs', h'⟩
      exact ih e' l' hs' h'
    have run : (opA P T G o.op (ev G e) (putAll φ l) fun v σ' => putE N e o.dst v fun e' => KE φ (AOpsL P T G N ops r K) e' σ') → opA P T G o.op (ev G e) (putAll φ l) fun v σ' => putE N e o.dst v fun e' => AOps P T G N ops r (KE φ K) e' σ' := fun h =>
      op_mono _ _ _ _ _ h fun v σ' h => putE_mono h fun e' => hk e' σ'
    have skip : ∀ σ, (putE N e o.dst (.tup []) fun e' => KE φ (AOpsL P T G N ops r K) e' σ) → putE N e o.dst (.tup []) fun e' => AOps P T G N ops r (KE φ K) e' σ := fun σ h => putE_mono h fun e' => hk e' σ
    split at h1
    · exact run h1
    · split at h1
      · exact h1.elim
      · split at h1
        · split at h1
          · exact h1.mono run (skip _)
          · exact h1.mono (skip _) run
        · exact skip _ h1
        · exact h1.elim

/-- What code does to a frame and a list of places, beside any frame of places. -/
structure SWpL (P : Program) (G : Nat → AV) (N : Nat) (c : Code) (Q : Exit → Env → LS → Prop) (e : Env) (l : LS) : Prop where
  run : ∀ φ, Sep φ l → SWp P G N c (QL φ Q) e (putAll φ l)
theorem SWpL.mono {c : Code} {Q Q' : Exit → Env → LS → Prop} (h : SWpL P G N c Q e l) (hq : ∀ x e l, Q x e l → Q' x e l) : SWpL P G N c Q' e l := ⟨fun φ hs =>
  (h.run φ hs).mono fun _ _ _ ⟨l', h1, h2, h3⟩ => ⟨l', h1, h2, hq _ _ _ h3⟩⟩
def QseqL (K : Env → LS → Prop) (Q : Exit → Env → LS → Prop) : Exit → Env → LS → Prop
  | .normal, e, l => K e l
  | x, e, l => Q x e l
def QblockL (id : Nat) (Q : Exit → Env → LS → Prop) : Exit → Env → LS → Prop
  | .exit i, e, l => (match Nat.beq i id with | true => Q .normal e l | false => Q (.exit i) e l)
  | x, e, l => Q x e l
def QscopeL (Q : Exit → Env → LS → Prop) : Exit → Env → LS → Prop
  | .goto _, _, _ => False
  | x, e, l => Q x e l
theorem SWpL.seq {x y : Code} {Q : Exit → Env → LS → Prop} (h : SWpL P G N x (QseqL (SWpL P G N y Q) Q) e l) : SWpL P G N (.seq x y) Q e l := ⟨fun φ hs => by
  refine SWp.seq ((h.run φ hs).mono ?_)
  rintro x e' σ' ⟨l', rfl, h2, h3⟩
  cases x <;> first | exact SWpL.run h3 φ h2 | exact ⟨l', rfl, h2, h3⟩⟩
/-- What code does, reckoned. -/
def AWpL (P : Program) (T : Tys) (G : Nat → AV) (N : Nat) : Code → (Exit → Env → LS → Prop) → Env → LS → Prop
  | .skip, Q, e, l => Q .normal e l
  | .region id ops draw, Q, e, l => (match draw with
    | false => AOpsL P T G N ops ops.toList (Q .normal) e l
    | true => SWpL P G N (.region id ops true) Q e l)
  | .seq x y, Q, e, l => AWpL P T G N x (QseqL (AWpL P T G N y Q) Q) e l
  | .cond c x y, Q, e, l => (match ev G e c with | .bool t => ABr t (AWpL P T G N x Q e l) (AWpL P T G N y Q e l) | _ => False)
  | .block id c, Q, e, l => AWpL P T G N c (QblockL id Q) e l
  | .loop c, Q, e, l => SWpL P G N (.loop c) Q e l
  | .exit id, Q, e, l => Q (.exit id) e l
  | .scope c, Q, e, l => AWpL P T G N c (QscopeL Q) e l
  | .label _, Q, e, l => Q .normal e l
  | .ret, Q, e, l => Q .ret e l
  | c, Q, e, l => SWpL P G N c Q e l
theorem AWpL.sound (hT : TOk P T) : ∀ (c : Code) (Q : Exit → Env → LS → Prop) (e : Env) (l : LS), AWpL P T G N c Q e l → SWpL P G N c Q e l := by
  intro c
  induction c with
  | skip => exact fun Q e l h => ⟨fun φ hs => AWp.sound hT .skip _ _ _ ⟨l, rfl, hs, h⟩⟩
  | region id ops draw =>
    intro Q e l h
    cases draw with
    | true => exact h
    | false => exact ⟨fun φ hs => AWp.sound hT (.region id ops false) _ _ _ (AOpsL.sound ops.toList e l hs h)⟩
  | seq x y ihx ihy =>
    intro Q e l h
    refine SWpL.seq ((ihx _ e l h).mono ?_)
    intro x e' l' hq
    cases x <;> first | exact ihy Q e' l' hq | exact hq
  | cond c x y ihx ihy =>
    intro Q e l h
    refine ⟨fun φ hs => ⟨fun σ0 w0 a w hr => ?_⟩⟩
    simp only [AWpL] at h
    split at h
    case h_2 => exact h.elim
    rename_i t hc
    have hv := ev_sound hr.env hr.glob c
    rw [hc] at hv
    generalize hcv : a.eval c = cv at hv
    cases hv
    cases t with
    | true => exact wp_cond_true hcv (((ihx Q e l (h.yes rfl)).run φ hs).run σ0 w0 a w hr)
    | false => exact wp_cond_false hcv (((ihy Q e l (h.no rfl)).run φ hs).run σ0 w0 a w hr)
  | block id c ih =>
    intro Q e l h
    refine ⟨fun φ hs => ⟨fun σ0 w0 a w hr => ?_⟩⟩
    refine wp_block (wp_mono (((ih _ e l h).run φ hs).run σ0 w0 a w hr) ?_)
    rintro x a' w' ⟨e', σ', ⟨l', rfl, h1, h3⟩, h2⟩
    cases x with
    | exit i =>
      simp only [QblockL] at h3
      simp only [Exit.inBlock]
      split at h3
      · rename_i hb
        rw [if_pos (Nat.eq_of_beq_eq_true hb)]
        exact ⟨e', _, ⟨l', rfl, h1, h3⟩, h2⟩
      · rename_i hb
        rw [if_neg (fun e => by subst e; rw [Nat.beq_refl] at hb; cases hb)]
        exact ⟨e', _, ⟨l', rfl, h1, h3⟩, h2⟩
    | _ => exact ⟨e', _, ⟨l', rfl, h1, h3⟩, h2⟩
  | loop c ih => exact fun Q e l h => h
  | exit id => exact fun Q e l h => ⟨fun φ hs => AWp.sound hT (.exit id) _ _ _ ⟨l, rfl, hs, h⟩⟩
  | scope c ih =>
    intro Q e l h
    refine ⟨fun φ hs => ⟨fun σ0 w0 a w hr => ?_⟩⟩
    refine wp_scope_straight (wp_mono (((ih _ e l h).run φ hs).run σ0 w0 a w hr) ?_)
    rintro x a' w' ⟨e', σ', ⟨l', rfl, h1, h3⟩, h2⟩
    cases x <;> first | exact h3.elim | exact ⟨e', _, ⟨l', rfl, h1, h3⟩, h2⟩
  | label n => exact fun Q e l h => ⟨fun φ hs => AWp.sound hT (.label n) _ _ _ ⟨l, rfl, hs, h⟩⟩
  | ret => exact fun Q e l h => ⟨fun φ hs => AWp.sound hT .ret _ _ _ ⟨l, rfl, hs, h⟩⟩
  | rangeFunc f ps as b iha ihb => exact fun Q e l h => h
  | goto n => exact fun Q e l h => h
  | refuse why => exact fun Q e l h => h
/-- To go over to another frame and list. -/
structure WksL (G : Nat → AV) (N : Nat) (e : Env) (l : LS) (R : Env → LS → Prop) : Prop where
  go : ∀ φ, Sep φ l → Wks G N e (putAll φ l) (KE φ R)
theorem SWpL.loop {c : Code} {Q : Exit → Env → LS → Prop} (I : Nat → Env → LS → Prop) (h0 : WksL G N e l fun e' l' => ∃ n, I n e' l')
    (hr : ∀ n e l, I n e l → SWpL P G N c (QseqL (fun e1 l1 => WksL G N e1 l1 fun e' l' => ∃ m, m < n ∧ I m e' l') Q) e l) : SWpL P G N (.loop c) Q e l := by
  refine ⟨fun φ hs => SWp.loop (fun n => KE φ (I n)) ⟨fun σ0 w0 a w hrel => ?_⟩ ?_⟩
  · obtain ⟨e', σ', ⟨l', h1, h2, n, h3⟩, h4⟩ := (h0.go φ hs).go σ0 w0 a w hrel
    exact ⟨e', σ', ⟨n, l', h1, h2, h3⟩, h4⟩
  · rintro n e σ ⟨l, rfl, hs, hI⟩
    refine ((hr n e l hI).run φ hs).mono ?_
    rintro x e1 σ1 ⟨l1, rfl, hs1, hq⟩
    cases x <;> first
      | (refine ⟨fun σ0 w0 a w hrel => ?_⟩
         obtain ⟨e', σ', ⟨l', h1, h2, m, h3, h5⟩, h4⟩ := (WksL.go hq φ hs1).go σ0 w0 a w hrel
         exact ⟨e', σ', ⟨m, h3, l', h1, h2, h5⟩, h4⟩)
      | exact ⟨l1, rfl, hs1, hq⟩
/-- The places of one list are in another. -/
structure LSub (m l : LS) : Prop where
  go : ∀ φ, Sep φ l → Sep φ m ∧ Sub (putAll φ m) (putAll φ l)
theorem LSub.nil : LSub [] l := ⟨fun _ hs => ⟨⟨by simp, by simp⟩, fun p c hp => hs.old hp⟩⟩
theorem LSub.cons {m : LS} {p : Nm} {c' : Pl} (h : LHas l p fun c _ r => c = c' ∧ LSub m r) : LSub ((p, c') :: m) l := by
  obtain ⟨l1, c, l2, rfl, rfl, h1⟩ := h.ex
  refine ⟨fun φ hs => ?_⟩
  have hr := hs.rest
  obtain ⟨h2, h3⟩ := h1.go φ hr
  have hnd := nd_mid hs.nd
  have hp0 : φ p = none := hs.fr (p, c) (by simp)
  have hpm : p ∉ m.map (·.1) := fun hm => by
    cases hc : putAll φ m p with
    | none => exact (putAll_none hc).1 hm
    | some d =>
      have h5 := h3 p d hc
      rw [putAll_at (by simp only [List.map_append, List.mem_append, not_or]; exact ⟨hnd.1, hnd.2.1⟩), hp0] at h5
      cases h5
  refine ⟨⟨by simp only [List.map_cons]; exact List.nodup_cons.2 ⟨hpm, h2.nd⟩, fun x hx => ?_⟩, fun q d hq => ?_⟩
  · rcases List.mem_cons.1 hx with rfl | hx
    · exact hp0
    · exact h2.fr x hx
  · have hq : upd (putAll φ m) p c q = some d := hq
    by_cases hqp : q = p
    · subst hqp; rw [upd_same] at hq; cases hq; exact hs.get
    · rw [upd_ne _ _ hqp] at hq
      have h5 := h3 q d hq
      rw [← hs.era', era_ne _ hqp] at h5
      exact h5
theorem LSub.refl : LSub l l := ⟨fun _ hs => ⟨hs, Sub.refl _⟩⟩
/-- The frame and the places are, as far as the loop needs them, those that belong to the state s; the measure is less than m. -/
structure AtL (id : Nat) {S : Type} (vs : S → List (Nat × AV)) (st : S → LS) (ok : S → Prop) (meas : S → Nat) (e0 : Env) (live : List Nat) (m : Nat) (e : Env) (l : LS) : Prop where
  ex : ∃ s, eqs e (vs s) ∧ same e e0 live ∧ LSub (st s) l ∧ ok s ∧ meas s < m
theorem AtL.mk' {id : Nat} {S : Type} {vs : S → List (Nat × AV)} {st : S → LS} {ok : S → Prop} {meas : S → Nat} {e0 : Env} {live : List Nat} {m : Nat} (s : S) (h : eqs e (vs s) ∧ same e e0 live ∧ LSub (st s) l ∧ ok s ∧ meas s < m) : AtL id vs st ok meas e0 live m e l := ⟨s, h⟩
theorem WksL.at {id : Nat} {S : Type} {vs : S → List (Nat × AV)} {st : S → LS} {ok : S → Prop} {meas : S → Nat} {e0 : Env} {live : List Nat} {m : Nat} (h : AtL id vs st ok meas e0 live m e l) :
    WksL G N e l fun e' l' => ∃ n, n < m ∧ ∃ s, ok s ∧ meas s = n ∧ e' = over (vs s) (pick live e0) ∧ l' = st s := by
  obtain ⟨s, h1, h2, h3, h4, h5⟩ := h
  refine ⟨fun φ hs => ⟨fun σ0 w0 a w hrel => ?_⟩⟩
  obtain ⟨k1, k2⟩ := h3.go φ hs
  exact ⟨_, _, ⟨st s, rfl, k1, _, h5, s, h4, rfl, rfl, rfl⟩, (hrel.over (fun x => (hrel.pick h2).env x) h1).sub k2⟩
/-- A loop: the slots that it only reads, those that it writes, its places, what holds, a measure. -/
theorem SWpL.loopC {c : Code} {Q : Exit → Env → LS → Prop} (id : Nat) {S : Type} (live : List Nat) (vs : S → List (Nat × AV)) (st : S → LS) (ok : S → Prop) (meas : S → Nat) (s0 : S) (_hid : headId c = some id)
    (h1 : eqs e (vs s0) ∧ LSub (st s0) l ∧ ok s0)
    (hr : ∀ s, ok s → SWpL P G N c (QseqL (AtL id vs st ok meas e live (meas s)) Q) (over (vs s) (pick live e)) (st s)) : SWpL P G N (.loop c) Q e l := by
  refine SWpL.loop (fun n e' l' => ∃ s, ok s ∧ meas s = n ∧ e' = over (vs s) (pick live e) ∧ l' = st s) ?_ ?_
  · have h0 : AtL id vs st ok meas e live (meas s0 + 1) e l := ⟨s0, h1.1, eqs_pick live e, h1.2.1, h1.2.2, Nat.lt_succ_self _⟩
    refine ⟨fun φ hs => ⟨fun σ0 w0 a w hrel => ?_⟩⟩
    obtain ⟨e', σ', ⟨l', k1, k2, n, -, h⟩, h2⟩ := ((WksL.at h0).go φ hs).go σ0 w0 a w hrel
    exact ⟨e', σ', ⟨l', k1, k2, n, h⟩, h2⟩
  · rintro n e' l' ⟨s, h1, rfl, rfl, rfl⟩
    refine (hr s h1).mono ?_
    intro x e1 l1 hq
    cases x <;> first | exact WksL.at hq | exact hq
theorem AtL.step (hT : TOk P T) {c : Code} {Q : Exit → Env → LS → Prop} {K : Env → LS → Prop} (h : AWpL P T G N c (QseqL K Q) e l) : SWpL P G N c (QseqL K Q) e l := AWpL.sound hT _ _ _ _ h
/-- A loop is laid out. -/
def IterL (P : Program) (G : Nat → AV) (N : Nat) (c : Code) (Q : Exit → Env → LS → Prop) : Nat → Env → LS → Prop
  | 0, _, _ => False
  | n + 1, e, l => SWpL P G N c (QseqL (IterL P G N c Q n) Q) e l
theorem SWpL.times {c : Code} {Q : Exit → Env → LS → Prop} (id n : Nat) (_hid : headId c = some id) (h : IterL P G N c Q n e l) : SWpL P G N (.loop c) Q e l := by
  refine SWpL.loop (fun n e l => IterL P G N c Q n e l) ⟨fun φ hs => ⟨fun σ0 w0 a w hr => ⟨_, _, ⟨l, rfl, hs, n, h⟩, hr⟩⟩⟩ ?_
  intro n e l h
  cases n with
  | zero => exact h.elim
  | succ n =>
    refine SWpL.mono h ?_
    intro x e1 l1 hq
    cases x <;> first | exact ⟨fun φ hs => ⟨fun σ0 w0 a w hr => ⟨_, _, ⟨l1, rfl, hs, n, Nat.lt_succ_self n, hq⟩, hr⟩⟩⟩ | exact hq
/-- What is nil becomes a row of no elements. -/
theorem SWpL.adopt (x sz : Nat) (t : TypeId) {c : Code} {Q : Exit → Env → LS → Prop} (hx : e x = .nils) (h : ∀ q, SWpL P G N c Q (put e x (.vw q 0 0 sz)) ((q, ⟨t, []⟩) :: l)) : SWpL P G N c Q e l := ⟨fun φ hs =>
  SWp.adopt x sz t hx fun q hq => (h q).run φ (hs.new hq _)⟩
/-- All names of the list differ. -/
theorem SWpL.names {c : Code} {Q : Exit → Env → LS → Prop} (h : (l.map (·.1)).Nodup → SWpL P G N c Q e l) : SWpL P G N c Q e l := ⟨fun φ hs => (h hs.nd).run φ hs⟩

/-- Regions whose order is drawn. -/
structure KeepL (kp : List Nm) (l l' : LS) : Prop where
  go : ∀ φ, Sep φ l → Sep φ l' → ∀ p, p ∈ kp → putAll φ l' p = putAll φ l p
theorem KeepL.nil {l' : LS} : KeepL [] l l' := ⟨fun _ _ _ _ h => by cases h⟩
theorem KeepL.refl {kp : List Nm} : KeepL kp l l := ⟨fun _ _ _ _ _ => rfl⟩
theorem KeepL.cons {kp : List Nm} {l' : LS} {p : Nm} (h : LHas l p fun c _ _ => LHas l' p fun c' _ _ => c' = c ∧ KeepL kp l l') : KeepL (p :: kp) l l' := by
  obtain ⟨l1, c, l2, rfl, h⟩ := h.ex
  obtain ⟨l3, c', l4, rfl, rfl, h⟩ := h.ex
  refine ⟨fun φ h1 h2 q hq => ?_⟩
  rcases List.mem_cons.1 hq with rfl | hq
  · rw [h1.get, h2.get]
  · exact h.go φ h1 h2 q hq
def keepL (kp : List Nm) (fr : Bool) (l l' : LS) : Prop := match fr with | true => KeepL kp l l' | false => True
/-- A name is one of the list: a stop. -/
structure InL (p : Nm) (kp : List Nm) : Prop where
  go : p ∈ kp
theorem InL.here {p : Nm} {kp : List Nm} : InL p (p :: kp) := ⟨by simp⟩
theorem InL.next {p x : Nm} {kp : List Nm} (h : InL p kp) : InL p (x :: kp) := ⟨by simp [h.go]⟩
def ldPrL (kp : List Nm) (fr : Bool) (op : Op) (ρ : Operand → AV) : Prop :=
  match fr, op with
  | true, .load _ x => (match ρ x with | .ptr p _ => InL p kp | _ => True)
  | _, _ => True
def opDL (P : Program) (T : Tys) (G : Nat → AV) (kp : List Nm) (fr : Bool) (op : Op) (ρ : Operand → AV) (l : LS) (K : AV → LS → Prop) : Prop :=
  match cls op with
  | 3 => opL P T G op ρ l fun v l' => keepL kp fr l l' ∧ K v l'
  | 1 => ldPrL kp fr op ρ ∧ opL P T G op ρ l K
  | _ => opL P T G op ρ l K
theorem opDL.sound {kp : List Nm} {fr : Bool} {op : Op} {ρ : Operand → AV} {K : AV → LS → Prop} (hs : Sep φ l) (h : opDL P T G kp fr op ρ l K) : opD P T G (· ∈ kp) fr op ρ (putAll φ l) (LK φ K) := by
  unfold opDL at h
  unfold opD
  split at h
  · rename_i hc
    simp only [hc]
    refine op_mono _ _ _ _ _ (opL.sound hs h) ?_
    rintro v σ' ⟨l', rfl, hs', hk, h⟩
    refine ⟨?_, l', rfl, hs', h⟩
    cases fr with
    | true => exact fun p hp => KeepL.go hk φ hs hs' p hp
    | false => trivial
  · rename_i hc
    simp only [hc]
    refine ⟨?_, opL.sound hs h.2⟩
    have h1 := h.1
    unfold ldPrL at h1
    unfold ldPr
    split at h1
    · simp only
      split at h1
      · rename_i hx; simp only [hx]; exact h1.go
      · rename_i hn
        split
        · rename_i p o hx; exact absurd hx (hn p o)
        · trivial
    · rename_i hn
      split
      · rename_i t x; exact (hn t x rfl rfl).elim
      · trivial
  · rename_i h3 h1
    split
    · rename_i hc; exact absurd hc h3
    · rename_i hc; exact absurd hc h1
    · exact opL.sound hs h
def APermL (P : Program) (T : Tys) (G : Nat → AV) (N : Nat) (kp : List Nm) (frs : List Nat) (ops : Array Oper) : List Nat → (Env → LS → Prop) → Env → LS → Prop
  | [], K, e, l => K e l
  | i :: r, K, e, l => (match ops[i]? with
    | some o => AOpGL (opDL P T G kp (inL frs i) o.op (ev G e) l) N ops o (APermL P T G N kp frs ops r K) e l
    | none => False)
theorem SWpL.draw (hT : TOk P T) (hm : P.follows .mixedOrders = true) {id : Nat} {ops : Array Oper} {Q : Exit → Env → LS → Prop} (prs : List (List Nat)) (frs perm : List Nat) (kp : List Nm) (hok : drawOk N ops prs frs perm = true)
    (h : APermL P T G N kp frs ops perm (Q .normal) e l) : SWpL P G N (.region id ops true) Q e l := by
  refine ⟨fun φ hs => SWp.draw hT hm prs frs perm (· ∈ kp) hok ?_⟩
  have hd : ∀ (i : Nat) (o : Oper), ops[i]? = some o → dstOk N o.dst = true := fun i o ho => by
    have hi : i < ops.size := (Array.getElem?_eq_some_iff.1 ho).1
    unfold drawOk at hok
    simp only [Bool.and_eq_true, List.all_eq_true, decide_eq_true_eq, List.mem_range] at hok
    have := (hok.1.2 i hi).1.1.1
    rw [ho] at this
    exact this
  clear hok
  show APerm P T G N (· ∈ kp) frs ops perm (KE φ (Q .normal)) e (putAll φ l)
  induction perm generalizing e l with
  | nil => exact ⟨l, rfl, hs, h⟩
  | cons i r ih =>
    simp only [APermL] at h
    simp only [APerm]
    split at h
    · rename_i o ho
      simp only [ho]
      refine AOpd.mono (hd i o ho) (K := KE φ (APermL P T G N kp frs ops r (Q .normal))) ?_ ?_
      · exact AOpGL.sound (opD_mono _ _ _ _) hs (fun K h => opDL.sound hs h) h
      · rintro e' σ' ⟨l', rfl, hs', h'⟩
        exact ih h' hs'
    · exact h.elim

/-- What a function returns. -/
def resCL (T : Tys) (e : Env) (l : LS) : List ResultVar → (List AV → Prop) → Prop
  | [], K => K []
  | .tmp t :: r, K => resCL T e l r fun vs => K (e t :: vs)
  | .cell x t :: r, K => LLd T t (e x) l fun v => resCL T e l r fun vs => K (v :: vs)
def retQL (T : Tys) (rs : List ResultVar) (R : AV → LS → Prop) : Exit → Env → LS → Prop
  | .normal, e, l | .ret, e, l => resCL T e l rs fun vs => force (one vs) fun r => R r l
  | _, _, _ => False
theorem ALd.mono {t : TypeId} {x : AV} {K K' : AV → Prop} (h : ALd T t x σ K) (hk : ∀ v, K v → K' v) : ALd T t x σ K' := by
  obtain ⟨u, hu, hiff⟩ := load_same h
  exact (hiff _ _ fun _ _ _ => rfl).2 (hk _ hu)
theorem resCL.sound (hs : Sep φ l) : ∀ (rs : List ResultVar) (K : List AV → Prop), resCL T e l rs K → resC T e (putAll φ l) rs K
  | [], _, h => h
  | .tmp _ :: r, _, h => resCL.sound hs r _ h
  | .cell _ _ :: r, _, h => (LLd.sound hs h).mono fun _ h => resCL.sound hs r _ h
/-- What is to be shown where a function returns. -/
structure RetL (post : Nm → AV × LS) (r : AV) (l : LS) : Prop where
  run : ∀ φ, (∃ q, φ q = none) → Sep φ l → ∃ (F : List Nm) (q : Nm), φ q = none ∧ ((post q).2.map (·.1)).Nodup ∧ Frz (putAll φ l) F r (post q).1 ∧ Sub (putAll φ (post q).2) (eraN (putAll φ l) F)
theorem eraN_other (σ : Store) (F : List Nm) {p : Nm} (h : p ∉ F) : eraN σ F p = σ p := by
  induction F with
  | nil => rfl
  | cons q F ih =>
    simp only [List.mem_cons, not_or] at h
    show era (eraN σ F) q p = σ p
    rw [era_ne _ h.1]
    exact ih h.2
theorem putAll_mem {x : Nm × Pl} : ∀ {ps : LS}, x ∈ ps → (ps.map (·.1)).Nodup → ∀ φ, putAll φ ps x.1 = some x.2 := by
  intro ps hx hn φ
  obtain ⟨l1, l2, rfl⟩ := List.append_of_mem hx
  obtain ⟨p, c⟩ := x
  have h := nd_mid hn
  rw [putAll_app, putAll_at h.1]
  exact upd_same _ _ _
theorem LSpec.introL (hT : TOk P T) {f : FuncId} {fn : Func} {c : Code} {args : List AV} {ps : LS} {post : Nm → AV × LS} (hf : P.funcs[f]? = some fn) (hb : fn.body = some c) (hname : (fn.name == "runtime.NumGoroutine") = false) (hl : args.length ≤ fn.ntmps) (hpost : ∀ q, (∀ x ∈ (post q).2, x.1 = q ∨ x.1 ∈ ps.map (·.1)) ∧ (q ∉ ps.map (·.1) → ((post q).2.map (·.1)).Nodup))
    (h : SWpL P G fn.ntmps c (retQL T fn.results.toList (RetL post)) (argsE args) ps) : LSpec P G f args ps post := by
  refine LSpec.intro hT hf hb hname hl hpost fun τ hq hps hnd => ?_
  have hτ : τ = putAll (eraN τ (ps.map (·.1))) ps := by
    funext x
    by_cases hx : x ∈ ps.map (·.1)
    · obtain ⟨y, hy, rfl⟩ := List.mem_map.1 hx
      rw [putAll_mem hy hnd]; exact hps y hy
    · rw [putAll_at hx, eraN_other _ _ hx]
  have hs : Sep (eraN τ (ps.map (·.1))) ps := ⟨hnd, fun x hx => eraN_none _ _ (List.mem_map.2 ⟨x, hx, rfl⟩)⟩
  have h2 := h.run _ hs
  rw [← hτ] at h2
  refine h2.mono ?_
  rintro x e' σ' ⟨l', rfl, hs', hr⟩
  have key : (resCL T e' l' fn.results.toList fun vs => force (one vs) fun r => RetL post r l') → resC T e' (putAll (eraN τ (ps.map (·.1))) l') fn.results.toList fun vs => force (one vs) fun r => Ret τ ps post r (putAll (eraN τ (ps.map (·.1))) l') := fun hr => by
    refine resCL.sound hs' _ _ ?_
    have : (fun vs => force (one vs) fun r => RetL post r l') = fun vs => RetL post (one vs) l' := by funext vs; rw [force_eq]
    rw [this] at hr
    have e2 : (fun vs => force (one vs) fun r => Ret τ ps post r (putAll (eraN τ (ps.map (·.1))) l')) = fun vs => Ret τ ps post (one vs) (putAll (eraN τ (ps.map (·.1))) l') := by funext vs; rw [force_eq]
    rw [e2]
    have hmono : ∀ (rs : List ResultVar) (K K' : List AV → Prop), (∀ vs, K vs → K' vs) → resCL T e' l' rs K → resCL T e' l' rs K' := by
      intro rs
      induction rs with
      | nil => exact fun K K' hk h => hk _ h
      | cons r rs ih =>
        intro K K' hk h
        cases r with
        | tmp t => exact ih _ _ (fun vs => hk _) h
        | cell x t =>
          simp only [resCL, LLd] at h ⊢
          split at h
          · refine LHas.mono h ?_
            rintro c s r ⟨h1, h2, ⟨h3⟩⟩
            exact ⟨h1, h2, ⟨ih _ _ (fun vs => hk _) h3⟩⟩
          · obtain ⟨h1, h2, ⟨h3⟩⟩ := h
            exact ⟨h1, h2, ⟨ih _ _ (fun vs => hk _) h3⟩⟩
          · exact h
    refine hmono _ _ _ (fun vs hv => ?_) hr
    obtain ⟨F, q, g1, gn, g2, g3⟩ := hv.run _ hq hs'
    exact ⟨⟨F, q, g1, gn, g2, g3⟩⟩
  cases x <;> first | exact key hr | exact hr.elim

/-- Places are forgotten, one after the other. -/
def LEra (l : LS) : List Nm → (LS → Prop) → Prop
  | [], K => K l
  | p :: F, K => LHas l p fun _ _ r => LEra r F K
theorem LEra.sound {K : LS → Prop} : ∀ {F : List Nm} {l : LS}, LEra l F K → Sep φ l → ∃ l', eraN (putAll φ l) F = putAll φ l' ∧ Sep φ l' ∧ K l'
  | [], l, h, hs => ⟨l, rfl, hs, h⟩
  | p :: F, l, h, hs => by
    obtain ⟨l1, c, l2, rfl, h'⟩ := LHas.ex h
    obtain ⟨l', h1, h2, h3⟩ := LEra.sound h' hs.rest
    refine ⟨l', ?_, h2, h3⟩
    rw [← h1, ← hs.era']
    clear h h' h1 h2 h3
    induction F with
    | nil => rfl
    | cons q F ih =>
      show era (era (eraN _ F) q) p = era (eraN (era _ p) F) q
      rw [← ih]
      show era (era (eraN (putAll φ (l1 ++ (p, c) :: l2)) F) q) p = era (era (eraN (putAll φ (l1 ++ (p, c) :: l2)) F) p) q
      funext x
      by_cases h1 : x = p
      · subst h1; rw [era_same]
        by_cases h2 : x = q
        · subst h2; rw [era_same]
        · rw [era_ne _ h2, era_same]
      · rw [era_ne _ h1]
        by_cases h2 : x = q
        · subst h2; rw [era_same, era_same]
        · rw [era_ne _ h2, era_ne _ h2, era_ne _ h1]
/-- What is in own places is read as data, once they are forgotten. -/
structure LF (l : LS) (F : List Nm) (a a' : AV) : Prop where
  run : ∀ φ, Sep φ l → Frz (putAll φ l) F a a'
theorem LF.eq {F : List Nm} {x y : AV} (h : x = y) : LF l F x y := ⟨fun _ _ => h ▸ .refl x⟩
theorem LF.row {F : List Nm} {p : Nm} {n m sz : Nat} {ds : List AV} (hF : InL p F) (h : LHas l p fun c _ _ => 0 < sz ∧ c.cs.length = n * sz ∧ m = n ∧ ds = c.cs) : LF l F (.vw p 0 n sz) (.sl m ds) := by
  obtain ⟨l1, c, l2, rfl, h0, h1, rfl, rfl⟩ := h.ex
  exact ⟨fun φ hs => .vw p 0 _ sz _ _ hF.go hs.get (by simp; omega) h1 h0 fun i hi => by rw [Nat.zero_add]; exact .refl _⟩
theorem LF.part {F : List Nm} {p : Nm} {off n m sz : Nat} {ds : List AV} (hF : InL p F) (h : LHas l p fun c _ _ => 0 < sz ∧ off + n * sz ≤ c.cs.length ∧ m = n ∧ ds = (c.cs.drop off).take (n * sz)) : LF l F (.vw p off n sz) (.sl m ds) := by
  obtain ⟨l1, c, l2, rfl, h0, h1, rfl, rfl⟩ := h.ex
  refine ⟨fun φ hs => .vw p off _ sz _ _ hF.go hs.get h1 (by simp; omega) h0 fun i hi => ?_⟩
  rw [getD_take _ _ _ _ (by omega), getD_drop]
  exact .refl _
theorem LF.ap {F : List Nm} {p : Nm} {off n m sz : Nat} {ds : List AV} (hF : InL p F) (h : LHas l p fun c _ _ => off + n * sz ≤ c.cs.length ∧ m = n ∧ ds = (c.cs.drop off).take (n * sz)) : LF l F (.ap p off n sz) (.sl m ds) := by
  obtain ⟨l1, c, l2, rfl, h1, rfl, rfl⟩ := h.ex
  refine ⟨fun φ hs => .ap p off _ sz _ _ hF.go hs.get h1 (by simp; omega) fun i hi => ?_⟩
  rw [getD_take _ _ _ _ (by omega), getD_drop]
  exact .refl _
theorem LF.nils {F : List Nm} {n : Nat} {ds : List AV} (hn : n = 0) (h : ds = []) : LF l F .nils (.sl n ds) := by subst hn; subst h; exact ⟨fun _ _ => .nils⟩
def LFs (l : LS) (F : List Nm) : List AV → List AV → Prop
  | [], [] => True
  | x :: xs, y :: ys => LF l F x y ∧ LFs l F xs ys
  | _, _ => False
theorem LFs.frz {F : List Nm} (hs : Sep φ l) : ∀ {xs ys : List AV}, LFs l F xs ys → FrzL (putAll φ l) F xs ys
  | [], [], _ => trivial
  | _ :: _, _ :: _, h => ⟨h.1.run φ hs, LFs.frz hs h.2⟩
  | [], _ :: _, h => h.elim
  | _ :: _, [], h => h.elim
theorem LF.agg {F : List Nm} {xs ys : List AV} (h : LFs l F xs ys) : LF l F (.agg xs) (.agg ys) := ⟨fun _ hs => (h.frz hs).agg⟩
theorem LF.tup {F : List Nm} {xs ys : List AV} (h : LFs l F xs ys) : LF l F (.tup xs) (.tup ys) := ⟨fun _ hs => (h.frz hs).tup⟩
/-- A row whose elements are rows. -/
theorem LF.rowN {F : List Nm} {p : Nm} {n m sz : Nat} {ds : List AV} (hF : InL p F) (h : LHas l p fun c _ _ => 0 < sz ∧ c.cs.length = n * sz ∧ m = n ∧ LFs l F c.cs ds) : LF l F (.vw p 0 n sz) (.sl m ds) := by
  obtain ⟨l1, c, l2, rfl, h0, h1, rfl, h2⟩ := h.ex
  refine ⟨fun φ hs => ?_⟩
  have h3 := (h2.frz hs).all
  exact .vw p 0 _ sz _ _ hF.go hs.get (by simp; omega) (by omega) h0 fun i hi => by rw [Nat.zero_add]; exact h3.2 i (by omega)
theorem LF.sl {F : List Nm} {n m : Nat} {xs ys : List AV} (hn : n = m) (h : LFs l F xs ys) : LF l F (.sl n xs) (.sl m ys) := by
  subst hn
  exact ⟨fun _ hs => .sl _ _ _ (h.frz hs).all.1 (h.frz hs).all.2⟩
/-- The end of a function. -/
theorem RetL.val {v r : AV} {m : LS} (h : r = v) (hm : LSub m l) : RetL (fun _ => (v, m)) r l := ⟨fun φ ⟨q, hq⟩ hs => ⟨[], q, hq, (hm.go φ hs).1.nd, h ▸ .refl r, (hm.go φ hs).2⟩⟩
theorem RetL.frz {v r : AV} {m : LS} (F : List Nm) (h : LF l F r v) (hm : LEra l F (LSub m)) : RetL (fun _ => (v, m)) r l := ⟨fun φ ⟨q, hq⟩ hs => by
  obtain ⟨l', h1, h2, h3⟩ := hm.sound hs
  exact ⟨F, q, hq, (h3.go φ h2).1.nd, h.run φ hs, by rw [h1]; exact (h3.go φ h2).2⟩⟩
theorem RetL.own {f : Nm → AV} {m : Nm → LS} {r : AV} (q : Nm) (h : r = f q) (hq : LHas l q fun _ _ _ => True) (hm : LSub (m q) l) : RetL (fun q => (f q, m q)) r l := ⟨fun φ _ hs => by
  refine ⟨[], q, ?_, (hm.go φ hs).1.nd, h ▸ .refl r, (hm.go φ hs).2⟩
  obtain ⟨l1, c, l2, rfl, -⟩ := hq.ex
  exact hs.fr (q, c) (by simp)⟩
theorem RetL.ownF {f : Nm → AV} {m : Nm → LS} {r : AV} (F : List Nm) (q : Nm) (h : LF l F r (f q)) (hq : LHas l q fun _ _ _ => True) (hm : LEra l F (LSub (m q))) : RetL (fun q => (f q, m q)) r l := ⟨fun φ _ hs => by
  obtain ⟨l', h1, h2, h3⟩ := hm.sound hs
  refine ⟨F, q, ?_, (h3.go φ h2).1.nd, h.run φ hs, by rw [h1]; exact (h3.go φ h2).2⟩
  obtain ⟨l1, c, l2, rfl, -⟩ := hq.ex
  exact hs.fr (q, c) (by simp)⟩

/-- Places are taken out of the list, for a call. -/
def LTake (l : LS) : LS → (LS → Prop) → Prop
  | [], K => K l
  | x :: ps, K => LHas l x.1 fun c _ r => c = x.2 ∧ LTake r ps K
theorem LTake.sound {K : LS → Prop} : ∀ {ps : LS} {l : LS}, LTake l ps K → Sep φ l → ∃ r, K r ∧ Sep φ r ∧ (∀ x ∈ ps, putAll φ l x.1 = some x.2) ∧ (ps.map (·.1)).Nodup ∧ eraN (putAll φ l) (ps.map (·.1)) = putAll φ r ∧ ∀ x ∈ ps, φ x.1 = none ∧ x.1 ∉ r.map (·.1)
  | [], l, h, hs => ⟨l, h, hs, by simp, by simp, rfl, by simp⟩
  | x :: ps, l, h, hs => by
    obtain ⟨p, c0⟩ := x
    obtain ⟨l1, c, l2, rfl, rfl, h'⟩ := LHas.ex h
    obtain ⟨r, h1, h2, h3, h4, h5, h6⟩ := LTake.sound h' (Sep.rest (p := p) hs)
    have hnd := nd_mid hs.nd
    have hpn : putAll φ (l1 ++ l2) p = none := by
      rw [putAll_at (by simp only [List.map_append, List.mem_append, not_or]; exact ⟨hnd.1, hnd.2.1⟩)]
      exact hs.fr (p, c) (by simp)
    have hpp : p ∉ ps.map (·.1) := fun hm => by
      obtain ⟨y, hy, he⟩ := List.mem_map.1 hm
      have := h3 y hy
      rw [he, hpn] at this; cases this
    have hpr : p ∉ r.map (·.1) := fun hm => by
      have h7 : putAll φ r p = none := by rw [← h5]; exact eraN_keep _ _ hpn
      exact (putAll_none h7).1 hm
    refine ⟨r, h1, h2, fun x hx => ?_, by simp only [List.map_cons]; exact List.nodup_cons.2 ⟨hpp, h4⟩, ?_, fun x hx => ?_⟩
    · rcases List.mem_cons.1 hx with rfl | hx
      · exact hs.get
      · have h8 := h3 x hx
        rw [← hs.era'] at h8
        rw [era_ne _ (fun (e : x.1 = p) => hpp (by rw [← e]; exact List.mem_map.2 ⟨x, hx, rfl⟩))] at h8
        exact h8
    · rw [← h5, ← hs.era']
      show era (eraN (putAll φ (l1 ++ (p, c) :: l2)) (ps.map (·.1))) p = eraN (era (putAll φ (l1 ++ (p, c) :: l2)) p) (ps.map (·.1))
      generalize putAll φ (l1 ++ (p, c) :: l2) = σ
      generalize ps.map (·.1) = F
      induction F with
      | nil => rfl
      | cons q F ih =>
        show era (era (eraN σ F) q) p = era (eraN (era σ p) F) q
        rw [← ih]
        funext x
        by_cases h1 : x = p
        · subst h1; rw [era_same]
          by_cases h2 : x = q
          · subst h2; rw [era_same]
          · rw [era_ne _ h2, era_same]
        · rw [era_ne _ h1]
          by_cases h2 : x = q
          · subst h2; rw [era_same, era_same]
          · rw [era_ne _ h2, era_ne _ h2, era_ne _ h1]
    · rcases List.mem_cons.1 hx with rfl | hx
      · exact ⟨hs.fr (p, c) (by simp), hpr⟩
      · exact h6 x hx
theorem Sep.app {m r : LS} (h2 : Sep φ r) (hn : ∀ x ∈ m, φ x.1 = none ∧ x.1 ∉ r.map (·.1)) (hnd : (m.map (·.1)).Nodup) : Sep φ (m ++ r) := by
  refine ⟨?_, fun x hx => ?_⟩
  · rw [List.map_append, List.nodup_append]
    refine ⟨hnd, h2.nd, fun a ha b hb e => ?_⟩
    subst e
    obtain ⟨x, hx, rfl⟩ := List.mem_map.1 ha
    exact (hn x hx).2 hb
  · rcases List.mem_append.1 hx with hx | hx
    · exact (hn x hx).1
    · exact h2.fr x hx
/-- A call by a contract: arguments in own places are read as data from here on (F); places are taken, and places are given back. -/
theorem LCall.mk' {f : FuncId} {args args' : List AV} {ps : LS} {post : Nm → AV × LS} {K : AV → LS → Prop} (hs : LSpec P G f args' ps post) (F : List Nm) (hF : LFs l F args args') (h : LEra l F fun l' => LTake l' ps fun r => LFresh fun q => K (post q).1 ((post q).2 ++ r)) : LCall P G f args l K := ⟨fun φ hsp => by
  have hfz := (hF.frz hsp).all
  obtain ⟨l', e1, hsp', h⟩ := LEra.sound h hsp
  obtain ⟨r, h1, h2, h3, h4, h5, h6⟩ := LTake.sound h hsp'
  refine ⟨.inl ⟨F, args', ps, post, hfz.1, hfz.2, hs, e1 ▸ h3, h4, fun q hq hn => ?_⟩⟩
  rw [e1] at hq ⊢
  have hq : eraN (putAll φ l') (ps.map (·.1)) q = none := hq
  show LK φ K (post q).1 (putAll (eraN (putAll φ l') (ps.map (·.1))) (post q).2)
  rw [h5] at hq ⊢
  have hqn := putAll_none hq
  have hmem : ∀ x ∈ (post q).2, φ x.1 = none ∧ x.1 ∉ r.map (·.1) := fun x hx => by
    rcases (hs.2.1 q).1 x hx with he | hp
    · rw [he]; exact ⟨hqn.2, hqn.1⟩
    · obtain ⟨y, hy, he⟩ := List.mem_map.1 hp
      rw [← he]; exact h6 y hy
  exact ⟨(post q).2 ++ r, by rw [putAll_app], h2.app hmem hn, h1.go q⟩⟩
theorem LFs.refl : ∀ xs : List AV, LFs l [] xs xs
  | [] => trivial
  | _ :: xs => ⟨.eq rfl, LFs.refl xs⟩
/-- Contracts of the usual shapes. -/
theorem LCall.pure {f : FuncId} {args : List AV} {r : AV} {K : AV → LS → Prop} (hs : LSpec P G f args [] fun _ => (r, [])) (hk : K r l) : LCall P G f args l K := .mk' hs [] (.refl _) ⟨fun _ => hk⟩
theorem LCall.own {f : FuncId} {args : List AV} {r : Nm → AV} {c : Nm → Pl} {K : AV → LS → Prop} (hs : LSpec P G f args [] fun q => (r q, [(q, c q)])) (hk : LFresh fun q => K (r q) ((q, c q) :: l)) : LCall P G f args l K := .mk' hs [] (.refl _) hk
theorem LCall.upd {f : FuncId} {args : List AV} {r : AV} {p : Nm} {c d : Pl} {K : AV → LS → Prop} (hs : LSpec P G f args [(p, c)] fun _ => (r, [(p, d)])) (hk : LHas l p fun c' s _ => c' = c ∧ K r (s d)) : LCall P G f args l K := ⟨fun φ hsp => by
  obtain ⟨l1, c', l2, rfl, rfl, h⟩ := hk.ex
  refine ⟨.inl ⟨[], args, [(p, c')], _, rfl, fun _ _ => .refl _, hs, fun x hx => ?_, by simp, fun q hq hn => ?_⟩⟩
  · simp only [List.mem_singleton] at hx
    subst hx
    exact hsp.get
  · refine ⟨l1 ++ (p, d) :: l2, ?_, hsp.set, h⟩
    show upd (era (putAll φ (l1 ++ (p, c') :: l2)) p) p d = _
    rw [upd_era, hsp.set']⟩
theorem LCall.take {f : FuncId} {args : List AV} {r : Nm → AV} {p : Nm} {c : Pl} {d : Nm → Pl} {K : AV → LS → Prop} (hs : LSpec P G f args [(p, c)] fun q => (r q, [(q, d q)])) (hk : LHas l p fun c' _ rest => c' = c ∧ LFresh fun q => K (r q) ((q, d q) :: rest)) : LCall P G f args l K := .mk' hs [] (.refl _) hk
/-- The arguments are put into another form. -/
theorem LCall.eq {f : FuncId} {args args' : List AV} {K : AV → LS → Prop} (h : args = args') (k : LCall P G f args' l K) : LCall P G f args l K := h ▸ k
/-- Own rows are lent to a call that returns plain values. -/
theorem LCall.lend {f : FuncId} {args args' : List AV} {r : AV} {K : AV → LS → Prop} (hs : LSpec P G f args' [] fun _ => (r, [])) (F : List Nm) (hF : LFs l F args args') (hr : Flat r) (hk : K r l) : LCall P G f args l K := ⟨fun _ hsp =>
  ⟨.inr ⟨F, args', r, (hF.frz hsp).all.1, (hF.frz hsp).all.2, hs, hr, l, rfl, hsp, hk⟩⟩⟩
theorem Flat.int (k : IntKind) (n : Int) : Flat (.int k n) := fun _ _ _ _ _ h => by cases h; exact .int k n
theorem Flat.bool (b : Bool) : Flat (.bool b) := fun _ _ _ _ _ h => by cases h; exact .bool b
theorem Flat.agg {cs : List AV} (h : ∀ x ∈ cs, Flat x) : Flat (.agg cs) := fun _ _ _ _ _ hr => by
  cases hr with
  | agg cs vs hl hc => exact .agg _ _ hl fun i hi => h _ (by rw [List.getD_eq_getElem?_getD, List.getElem?_eq_getElem hi]; exact List.getElem_mem hi) _ _ _ _ _ (hc i hi)
theorem Flat.tup {cs : List AV} (h : ∀ x ∈ cs, Flat x) : Flat (.tup cs) := fun _ _ _ _ _ hr => by
  cases hr with
  | tup cs vs hl hc => exact .tup _ _ hl fun i hi => h _ (by rw [List.getD_eq_getElem?_getD, List.getElem?_eq_getElem hi]; exact List.getElem_mem hi) _ _ _ _ _ (hc i hi)
theorem Flat.nil {P : AV → Prop} : ∀ x ∈ ([] : List AV), P x := fun _ h => by cases h
theorem Flat.cons {P : AV → Prop} {y : AV} {cs : List AV} (h : P y) (k : ∀ x ∈ cs, P x) : ∀ x ∈ y :: cs, P x := fun x hx => by
  rcases List.mem_cons.1 hx with rfl | hx
  · exact h
  · exact k x hx
end
end Go.Proofs.YtdpfcpkedaolfaaDoor
