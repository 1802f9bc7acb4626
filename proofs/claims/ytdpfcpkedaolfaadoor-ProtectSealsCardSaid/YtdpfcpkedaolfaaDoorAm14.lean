/-
  The abstract machine, fourteenth part: loops with named slots, what is nil becomes a row, the closing of walks.
-/
import Derived.Test.YtdpfcpkedaolfaaDoorAm13
namespace Go.Proofs.YtdpfcpkedaolfaaDoor
open Go.RowKit

/-- A frame with some slots given. -/
def over : List (Nat × AV) → Env → Env
  | [], e => e
  | x :: l, e => put (over l e) x.1 x.2
/-- Only some slots of a frame. -/
def pick (l : List Nat) (e : Env) : Env := over (l.map fun x => (x, e x)) fun _ => .any
/-- The frame has the values. -/
def eqs (e : Env) : List (Nat × AV) → Prop
  | [] => True
  | x :: l => e x.1 = x.2 ∧ eqs e l
def same (e e' : Env) : List Nat → Prop
  | [] => True
  | x :: l => e x = e' x ∧ same e e' l
/-- The first region of code. -/
def headId : Code → Option Nat
  | .region id _ _ => some id
  | .seq x y => (headId x).orElse fun _ => headId y
  | .cond _ x y => (headId x).orElse fun _ => headId y
  | .block _ x | .loop x | .scope x => headId x
  | _ => none

section
variable {P : Program} {T : Tys} {G : Nat → AV} {N : Nat} {e : Env} {σ σ0 : Store} {w w0 : World} {a : Act}
theorem Rel.over {l : List (Nat × AV)} {e' : Env} (h : Rel G N e σ σ0 w0 a w) (h1 : ∀ x, Rd σ w (e' x) (a.tmps.getD x undef)) (hl : eqs e l) : Rel G N (over l e') σ σ0 w0 a w := by
  refine ⟨h.n, h.d, ?_, h.mem, h.st, h.glob⟩
  induction l with
  | nil => exact h1
  | cons y l ih =>
    intro x
    unfold Go.Proofs.YtdpfcpkedaolfaaDoor.over put
    split
    · rename_i hb
      have := Nat.eq_of_beq_eq_true hb
      subst this
      rw [← hl.1]
      exact h.env _
    · exact ih hl.2 x
theorem same.eqs {e e' : Env} : ∀ {l : List Nat}, same e e' l → eqs e (l.map fun x => (x, e' x))
  | [], _ => trivial
  | _ :: _, h => ⟨h.1, same.eqs h.2⟩
theorem Rel.pick {l : List Nat} {e' : Env} (h : Rel G N e σ σ0 w0 a w) (hl : same e e' l) : Rel G N (pick l e') σ σ0 w0 a w := h.over (fun _ => .any _) hl.eqs
theorem eqs_pick (l : List Nat) (e : Env) : same e e l := by
  induction l with
  | nil => trivial
  | cons x l ih => exact ⟨rfl, ih⟩
/-- Places are forgotten. -/
theorem Rel.sub {σ' : Store} (h : Rel G N e σ σ0 w0 a w) (hs : Sub σ' σ) : Rel G N e σ' σ0 w0 a w := by
  have hn : ∀ b, σ b = none → σ' b = none := fun b hb => by
    cases hc : σ' b with
    | none => rfl
    | some c => rw [hs b c hc] at hb; cases hb
  have hst : Stp σ w σ' w := Stp.forget σ σ' w fun b hb => hn _ hb
  exact ⟨h.n, h.d, fun x => (h.env x).mono hst, h.mem.forget hs, h.st.trans hst, h.glob.mono hst⟩
/-- Places are frozen: some slots that hold them become data. -/
theorem Rel.frz {d : Nat} {v : AV} (F : List Nm) (h : Rel G N e σ σ0 w0 a w) (hv : Frz σ F (e d) v) : Rel G N (put e d v) (eraN σ F) σ0 w0 a w := by
  have hst : Stp σ w (eraN σ F) w := Stp.forget σ _ w fun b hb => eraN_keep σ F hb
  refine ⟨h.n, h.d, fun x => ?_, h.mem.forget (eraN_sub σ F), h.st.trans hst, h.glob.mono hst⟩
  unfold put
  split
  · rename_i hb
    have := Nat.eq_of_beq_eq_true hb
    subst this
    exact hv.sound h.mem (h.env _)
  · exact (h.env x).mono hst
/-- What is nil becomes a row of no elements, in a place that no block bears. -/
theorem Rel.adopt {x sz : Nat} (t : TypeId) (h : Rel G N e σ σ0 w0 a w) (hx : e x = .nils) {k : Nat} (hk : σ (.v k) = none) : Rel G N (put e x (.vw (.v k) 0 0 sz)) (upd σ (.v k) ⟨t, []⟩) σ0 w0 a w := by
  have hst : Stp σ w (upd σ (.v k) ⟨t, []⟩) w := ⟨rfl, rfl, rfl, Nat.le_refl _, fun b _ hn => ⟨by rw [upd_ne _ _ (by simp)]; exact hn, rfl⟩, fun _ cur _ h => ⟨cur, h, rfl⟩⟩
  refine ⟨h.n, h.d, fun y => ?_, ⟨fun p c hp => ?_, fun j c hj => ?_, fin_upd h.mem.fin _ _⟩, h.st.trans hst, h.glob.mono hst⟩
  · unfold put
    split
    · rename_i hb
      have := Nat.eq_of_beq_eq_true hb
      subst this
      have hy := h.env y
      rw [hx] at hy
      generalize a.tmps.getD y undef = u at hy
      cases hy
      exact .vwnil _ _
    · exact (h.env y).mono hst
  · rw [upd_ne _ _ (by simp)] at hp
    obtain ⟨cur, h1, h2, h3⟩ := h.mem.pl p c hp
    exact ⟨cur, h1, h2, fun i hi => (h3 i hi).mono hst⟩
  · by_cases hjk : j = k
    · subst hjk; rw [upd_same] at hj; cases hj; rfl
    · rw [upd_ne _ _ (by simp; exact hjk)] at hj
      exact h.mem.vl j c hj
theorem SWp.adopt (x sz : Nat) (t : TypeId) {c : Code} {Q : Exit → Env → Store → Prop} (hx : e x = .nils) (h : ∀ q, σ q = none → SWp P G N c Q (put e x (.vw q 0 0 sz)) (upd σ q ⟨t, []⟩)) : SWp P G N c Q e σ := ⟨fun σ0 w0 a w hr => by
  obtain ⟨B, hB⟩ := hr.mem.fin
  exact (h (.v B) (hB B (Nat.le_refl _))).run σ0 w0 a w (hr.adopt t hx (hB B (Nat.le_refl _)))⟩

/-- The frame and the store are, as far as the loop needs them, those that belong to the state s; the measure is less than m. -/
structure At {S : Type} (vs : S → List (Nat × AV)) (st : S → Store) (ok : S → Prop) (meas : S → Nat) (e0 : Env) (live : List Nat) (m : Nat) (e : Env) (σ : Store) : Prop where
  ex : ∃ s, ok s ∧ meas s < m ∧ eqs e (vs s) ∧ same e e0 live ∧ Sub (st s) σ
theorem At.mk' {S : Type} {vs : S → List (Nat × AV)} {st : S → Store} {ok : S → Prop} {meas : S → Nat} {e0 : Env} {live : List Nat} {m : Nat} (s : S) (h1 : ok s ∧ meas s < m) (h2 : eqs e (vs s)) (h3 : same e e0 live) (h4 : Sub (st s) σ) : At vs st ok meas e0 live m e σ := ⟨s, h1.1, h1.2, h2, h3, h4⟩
theorem At.mk3 {S : Type} {vs : S → List (Nat × AV)} {st : S → Store} {ok : S → Prop} {meas : S → Nat} {e0 : Env} {live : List Nat} {m : Nat} (s : S) (h : eqs e (vs s) ∧ same e e0 live ∧ Sub (st s) σ ∧ ok s ∧ meas s < m) : At vs st ok meas e0 live m e σ := ⟨s, h.2.2.2.1, h.2.2.2.2, h.1, h.2.1, h.2.2.1⟩
/-- A loop: the slots that it writes and reads again, the slots that it only reads, its places, what holds, a measure. -/
theorem SWp.loopA {c : Code} {Q : Exit → Env → Store → Prop} (id : Nat) {S : Type} (live : List Nat) (vs : S → List (Nat × AV)) (st : S → Store) (ok : S → Prop) (meas : S → Nat) (_hid : headId c = some id)
    (h0 : ∃ m, At vs st ok meas e live m e σ)
    (hr : ∀ s, ok s → SWp P G N c (Qseq (At vs st ok meas e live (meas s)) Q) (over (vs s) (pick live e)) (st s)) : SWp P G N (.loop c) Q e σ := by
  have enter : ∀ m e1 σ1, At vs st ok meas e live m e1 σ1 → Wks G N e1 σ1 fun e' σ' => ∃ n, n < m ∧ ∃ s, ok s ∧ meas s = n ∧ e' = over (vs s) (pick live e) ∧ σ' = st s := by
    rintro m e1 σ1 ⟨s, h1, h2, h3, h4, h5⟩
    exact ⟨fun σ0 w0 a w hrel => ⟨_, _, ⟨_, h2, s, h1, rfl, rfl, rfl⟩, (hrel.over (fun x => (hrel.pick h4).env x) h3).sub h5⟩⟩
  obtain ⟨m, h0⟩ := h0
  refine SWp.loop (fun n e' σ' => ∃ s, ok s ∧ meas s = n ∧ e' = over (vs s) (pick live e) ∧ σ' = st s) ⟨fun σ0 w0 a w hrel => ?_⟩ ?_
  · obtain ⟨e', σ', ⟨n, -, h⟩, h2⟩ := (enter m e σ h0).go σ0 w0 a w hrel
    exact ⟨e', σ', ⟨n, h⟩, h2⟩
  · rintro n e' σ' ⟨s, h1, rfl, rfl, rfl⟩
    refine (hr s h1).mono ?_
    intro x e1 σ1 hq
    cases x <;> first | exact enter _ _ _ hq | exact hq
theorem SWp.loopB {c : Code} {Q : Exit → Env → Store → Prop} (id : Nat) {S : Type} (live : List Nat) (vs : S → List (Nat × AV)) (st : S → Store) (ok : S → Prop) (meas : S → Nat) (s0 : S) (hid : headId c = some id)
    (h1 : ok s0) (h2 : eqs e (vs s0)) (h4 : Sub (st s0) σ)
    (hr : ∀ s, ok s → SWp P G N c (Qseq (At vs st ok meas e live (meas s)) Q) (over (vs s) (pick live e)) (st s)) : SWp P G N (.loop c) Q e σ :=
  SWp.loopA id live vs st ok meas hid ⟨meas s0 + 1, ⟨s0, h1, Nat.lt_succ_self _, h2, eqs_pick _ _, h4⟩⟩ hr
theorem SWp.loopC {c : Code} {Q : Exit → Env → Store → Prop} (id : Nat) {S : Type} (live : List Nat) (vs : S → List (Nat × AV)) (st : S → Store) (ok : S → Prop) (meas : S → Nat) (s0 : S) (hid : headId c = some id)
    (h1 : eqs e (vs s0) ∧ Sub (st s0) σ ∧ ok s0)
    (hr : ∀ s, ok s → SWp P G N c (Qseq (At vs st ok meas e live (meas s)) Q) (over (vs s) (pick live e)) (st s)) : SWp P G N (.loop c) Q e σ :=
  SWp.loopB id live vs st ok meas s0 hid h1.2.2 h1.1 h1.2.1 hr
/-- A loop is laid out. -/
def IterS (P : Program) (G : Nat → AV) (N : Nat) (c : Code) (Q : Exit → Env → Store → Prop) : Nat → Env → Store → Prop
  | 0, _, _ => False
  | n + 1, e, σ => SWp P G N c (Qseq (IterS P G N c Q n) Q) e σ
theorem IterS.loop {c : Code} {Q : Exit → Env → Store → Prop} (n : Nat) (h : IterS P G N c Q n e σ) : SWp P G N (.loop c) Q e σ := by
  refine SWp.loop (fun n e σ => IterS P G N c Q n e σ) ⟨fun σ0 w0 a w hr => ⟨e, σ, ⟨n, h⟩, hr⟩⟩ ?_
  intro n e σ h
  cases n with
  | zero => exact h.elim
  | succ n =>
    refine SWp.mono h ?_
    intro x e1 σ1 hq
    cases x <;> first | exact ⟨fun σ0 w0 a w hr => ⟨e1, σ1, ⟨n, Nat.lt_succ_self n, hq⟩, hr⟩⟩ | exact hq
theorem SWp.times {c : Code} {Q : Exit → Env → Store → Prop} (id n : Nat) (_hid : headId c = some id) (h : IterS P G N c Q n e σ) : SWp P G N (.loop c) Q e σ := IterS.loop n h
theorem IterS.step (hT : TOk P T) {c : Code} {Q : Exit → Env → Store → Prop} {n : Nat} (h : AWp P T G N c (Qseq (IterS P G N c Q n) Q) e σ) : SWp P G N c (Qseq (IterS P G N c Q n) Q) e σ := AWp.sound hT _ _ _ _ h
theorem At.step (hT : TOk P T) {c : Code} {Q : Exit → Env → Store → Prop} {S : Type} {vs : S → List (Nat × AV)} {st : S → Store} {ok : S → Prop} {meas : S → Nat} {e0 : Env} {live : List Nat} {m : Nat} (h : AWp P T G N c (Qseq (At vs st ok meas e0 live m) Q) e σ) : SWp P G N c (Qseq (At vs st ok meas e0 live m) Q) e σ := AWp.sound hT _ _ _ _ h

/-- The elements of what is appended. -/
theorem App.sl {sz n : Nat} {cs : List AV} {R : Nat → List AV → Prop} (h : cs.length = n * sz) (k : R n cs) : ∃ m xs, Src σ sz (.sl n cs) m xs ∧ R m xs := ⟨n, cs, ⟨rfl, rfl, h⟩, k⟩
theorem App.nils {sz : Nat} {R : Nat → List AV → Prop} (k : R 0 []) : ∃ m xs, Src σ sz .nils m xs ∧ R m xs := ⟨0, [], ⟨rfl, rfl⟩, k⟩
theorem App.vw {sz off n : Nat} {q : Nm} {c : Pl} {R : Nat → List AV → Prop} (hq : σ q = some c) (h : off + n * sz ≤ c.cs.length) (k : AList ((c.cs.drop off).take (n * sz)) (R n)) : ∃ m xs, Src σ sz (.vw q off n sz) m xs ∧ R m xs := ⟨n, _, ⟨rfl, rfl, ⟨c, hq, h, rfl⟩⟩, k.go⟩
theorem App.ap {sz off n : Nat} {q : Nm} {c : Pl} {R : Nat → List AV → Prop} (hq : σ q = some c) (h : off + n * sz ≤ c.cs.length) (k : AList ((c.cs.drop off).take (n * sz)) (R n)) : ∃ m xs, Src σ sz (.ap q off n sz) m xs ∧ R m xs := ⟨n, _, ⟨rfl, rfl, ⟨c, hq, h, rfl⟩⟩, k.go⟩
/-- A list that can be laid out. -/
structure Lit (p : Prop) : Prop where
  go : p
theorem AList.force {cs : List AV} {K : List AV → Prop} (h : forceL0 cs fun l => Lit (K l)) : AList cs K := ⟨by rw [forceL0_eq] at h; exact h.go⟩
theorem dec_yes {c A B : Prop} (hc : c) (a : A) : (c → A) ∧ (¬ c → B) := ⟨fun _ => a, fun h => absurd hc h⟩
theorem dec_both {c A B : Prop} (a : c → A) (b : ¬ c → B) : (c → A) ∧ (¬ c → B) := ⟨a, b⟩
theorem dec_no {c A B : Prop} (hc : ¬ c) (b : B) : (c → A) ∧ (¬ c → B) := ⟨fun h => absurd h hc, fun _ => b⟩
theorem str_of_bytes {l : List UInt8} {K : ByteArray → Prop} (k : K ⟨l.toArray⟩) : ∃ l' : List UInt8, l.map bAV = l'.map bAV ∧ l.length = l'.length ∧ K ⟨l'.toArray⟩ := ⟨l, rfl, rfl, k⟩
theorem all_one {α : Type} (f : α → AV) (h : ∀ x, (f x).one = true) (l : List α) : ((l.map f).all AV.one) = true := by simp [h]
theorem all_bAV (l : List UInt8) : ((l.map bAV).all AV.one) = true := all_one _ (fun _ => rfl) l

theorem all_take {l : List AV} (n : Nat) (h : l.all AV.one = true) : (l.take n).all AV.one = true := by
  rw [List.all_eq_true] at h ⊢; exact fun x hx => h x (List.mem_of_mem_take hx)
theorem all_drop {l : List AV} (n : Nat) (h : l.all AV.one = true) : (l.drop n).all AV.one = true := by
  rw [List.all_eq_true] at h ⊢; exact fun x hx => h x (List.mem_of_mem_drop hx)
theorem all_app {l m : List AV} (h : l.all AV.one = true) (k : m.all AV.one = true) : (l ++ m).all AV.one = true := by simp [h, k]
theorem all_cons {x : AV} {m : List AV} (h : x.one = true) (k : m.all AV.one = true) : (x :: m).all AV.one = true := by simp [h, k]
/-- The arguments of a call are put into another form. -/
theorem ACall.eq {f : FuncId} {args args' : List AV} {K : AV → Store → Prop} (h : args = args') (k : ACall P G f args' σ K) : ACall P G f args σ K := h ▸ k
end
theorem sub_upd2e {τ σ : Store} {p : Nm} {t t' : TypeId} {cs ds : List AV} (ht : t = t') (hc : cs = ds) (h : Sub τ σ) : Sub (upd τ p ⟨t, cs⟩) (upd σ p ⟨t', ds⟩) := ht ▸ hc ▸ h.upd2
theorem sub_updL {τ σ : Store} {p : Nm} {c : Pl} (hp : σ p = some c) (h : Sub τ σ) : Sub (upd τ p c) σ := fun q d hq => by
  by_cases hqp : q = p
  · subst hqp; rw [upd_same] at hq; cases hq; exact hp
  · rw [upd_ne _ _ hqp] at hq; exact h q d hq
/-- The end of a function that changes a place. -/
theorem ret_upd {τ σ : Store} {v r : AV} {p : Nm} {c d : Pl} (hq : ∃ q, eraN τ [p] q = none) (h : r = v) (hs : Sub (upd τ p d) σ) : Ret τ [(p, c)] (fun _ => (v, [(p, d)])) r σ := by
  obtain ⟨q, hq⟩ := hq
  refine ⟨⟨[], q, hq, by simp, h ▸ .refl r, ?_⟩⟩
  show Sub (Go.Proofs.YtdpfcpkedaolfaaDoor.upd (era τ p) p d) σ
  rw [upd_era]; exact hs
theorem ret_updF {τ σ : Store} {v r : AV} {p : Nm} {c d : Pl} (F : List Nm) (hq : ∃ q, eraN τ [p] q = none) (h : Frz σ F r v) (hs : Sub (upd τ p d) (eraN σ F)) : Ret τ [(p, c)] (fun _ => (v, [(p, d)])) r σ := by
  obtain ⟨q, hq⟩ := hq
  refine ⟨⟨F, q, hq, by simp, h, ?_⟩⟩
  show Sub (Go.Proofs.YtdpfcpkedaolfaaDoor.upd (era τ p) p d) (eraN σ F)
  rw [upd_era]; exact hs
theorem sub_era1 {τ σ : Store} {p : Nm} (h : Sub τ σ) (hp : τ p = none) : Sub τ (eraN σ [p]) := h.era hp
/-- A row in a place becomes data. -/
theorem Frz.row {σ : Store} {p : Nm} {n sz : Nat} {t : TypeId} {cs ds : List AV} (F : List Nm) (hF : p ∈ F) (hp : σ p = some ⟨t, cs⟩) (h0 : 0 < sz) (hl : cs.length = n * sz) (hd : ds = cs) : Frz σ F (.vw p 0 n sz) (.sl n ds) := by
  subst hd
  exact .vw p 0 n sz _ _ hF hp (by simp; omega) hl h0 fun i hi => by rw [Nat.zero_add]; exact .refl _
theorem Frz.row2 {σ : Store} {p : Nm} {n m sz : Nat} {t : TypeId} {cs ds : List AV} (F : List Nm) (hF : p ∈ F) (hp : σ p = some ⟨t, cs⟩) (h0 : 0 < sz) (hl : cs.length = n * sz) (hm : m = n) (hd : ds = cs) : Frz σ F (.vw p 0 n sz) (.sl m ds) := by
  subst hm; exact Frz.row F hF hp h0 hl hd
/-- Lists of values, frozen one by one. -/
def FrzL (σ : Store) (F : List Nm) : List AV → List AV → Prop
  | [], [] => True
  | x :: xs, y :: ys => Frz σ F x y ∧ FrzL σ F xs ys
  | _, _ => False
theorem FrzL.all {σ : Store} {F : List Nm} : ∀ {xs ys : List AV}, FrzL σ F xs ys → xs.length = ys.length ∧ ∀ i, i < xs.length → Frz σ F (xs.getD i .any) (ys.getD i .any)
  | [], [], _ => ⟨rfl, fun i hi => by simp at hi⟩
  | x :: xs, y :: ys, h => by
    obtain ⟨h1, h2⟩ := h
    obtain ⟨h3, h4⟩ := FrzL.all h2
    refine ⟨by simp [h3], fun i hi => ?_⟩
    cases i with
    | zero => exact h1
    | succ i => simp at hi; simpa using h4 i (by omega)
  | [], _ :: _, h => h.elim
  | _ :: _, [], h => h.elim
theorem FrzL.agg {σ : Store} {F : List Nm} {xs ys : List AV} (h : FrzL σ F xs ys) : Frz σ F (.agg xs) (.agg ys) := .agg xs ys h.all.1 h.all.2
theorem FrzL.tup {σ : Store} {F : List Nm} {xs ys : List AV} (h : FrzL σ F xs ys) : Frz σ F (.tup xs) (.tup ys) := .tup xs ys h.all.1 h.all.2
theorem Frz.eq {σ : Store} {F : List Nm} {x y : AV} (h : x = y) : Frz σ F x y := h ▸ .refl x
theorem era_none1 {σ : Store} {p r x : Nm} {c : Pl} (h : era (upd σ r c) p x = none) (hne : r ≠ p) : x ≠ r ∧ era σ p x = none := by
  rw [era_upd_comm _ _ hne] at h
  exact upd_none h
theorem upd_none2 {σ : Store} {p x : Nm} {c : Pl} (h : upd σ p c x = none) (hne : x ≠ p) : σ x = none := by
  rw [upd_ne _ _ hne] at h
  exact h
theorem era_none2 {σ : Store} {p x : Nm} {c : Pl} (h : era (upd σ p c) p x = none) (hp : σ p = none) : σ x = none := by
  rw [era_upd_same _ _ _ hp] at h
  exact h
/-- What one store has, but for some places, the other has. -/
structure SubE (X : List Nm) (τ σ : Store) : Prop where
  go : ∀ p c, p ∉ X → τ p = some c → σ p = some c
theorem SubE.sub {τ σ : Store} (h : SubE [] τ σ) : Sub τ σ := fun p c hp => h.go p c (by simp) hp
theorem SubE.refl (X : List Nm) (σ : Store) : SubE X σ σ := ⟨fun _ _ _ h => h⟩
theorem SubE.updL {X : List Nm} {τ σ : Store} {p : Nm} {c d : Pl} (hp : σ p = some c) (hc : c = d) (h : SubE (p :: X) τ σ) : SubE X (upd τ p d) σ := ⟨fun q e hq he => by
  by_cases hqp : q = p
  · subst hqp; rw [upd_same] at he; cases he; exact hc ▸ hp
  · rw [upd_ne _ _ hqp] at he; exact h.go q e (by simp [hqp, hq]) he⟩
theorem SubE.updR1 {X : List Nm} {τ σ : Store} {q : Nm} {e : Pl} (hq : q ∈ X) (h : SubE X τ σ) : SubE X τ (upd σ q e) := ⟨fun p c hp hc => by
  rw [upd_ne _ _ (fun (g : p = q) => hp (by rw [g]; exact hq))]; exact h.go p c hp hc⟩
theorem SubE.updR2 {X : List Nm} {τ σ : Store} {q : Nm} {e : Pl} (hq : τ q = none) (h : SubE X τ σ) : SubE X τ (upd σ q e) := ⟨fun p c hp hc => by
  rw [upd_ne _ _ (fun e => by subst e; rw [hq] at hc; cases hc)]; exact h.go p c hp hc⟩
theorem SubE.eraR1 {X : List Nm} {τ σ : Store} {q : Nm} (hq : q ∈ X) (h : SubE X τ σ) : SubE X τ (era σ q) := ⟨fun p c hp hc => by
  rw [era_ne _ (fun (g : p = q) => hp (by rw [g]; exact hq))]; exact h.go p c hp hc⟩
theorem SubE.eraR2 {X : List Nm} {τ σ : Store} {q : Nm} (hq : τ q = none) (h : SubE X τ σ) : SubE X τ (era σ q) := ⟨fun p c hp hc => by
  rw [era_ne _ (fun e => by subst e; rw [hq] at hc; cases hc)]; exact h.go p c hp hc⟩
theorem SubE.era2 {X : List Nm} {τ σ : Store} {q : Nm} (h : SubE X τ σ) : SubE X (era τ q) (era σ q) := ⟨fun p c hp hc => by
  by_cases hpq : p = q
  · subst hpq; rw [era_same] at hc; cases hc
  · rw [era_ne _ hpq] at hc ⊢; exact h.go p c hp hc⟩
theorem SubE.eraN {X : List Nm} {τ σ : Store} {q : Nm} (h : SubE X τ (era σ q)) : SubE X τ (Go.Proofs.YtdpfcpkedaolfaaDoor.eraN σ [q]) := h
/-- The end of a function that takes a place over and gives a new one. -/
theorem ret_take {τ σ : Store} {r : AV} {p : Nm} {c : Pl} {f : Nm → AV} {d : Nm → Pl} (q : Nm) (hq : era τ p q = none) (h : r = f q) (hs : Sub (upd (era τ p) q (d q)) σ) : Ret τ [(p, c)] (fun q => (f q, [(q, d q)])) r σ := ⟨⟨[], q, hq, by simp, h ▸ .refl r, hs⟩⟩
theorem mem1 {q : Nm} {X : List Nm} : q ∈ q :: X := by simp
theorem mem2 {q r : Nm} {X : List Nm} (h : q ∈ X) : q ∈ r :: X := by simp [h]
theorem hps1 {τ : Store} {p : Nm} {c : Pl} (h : ∀ x ∈ [(p, c)], τ x.1 = some x.2) : τ p = some c := h (p, c) (by simp)
theorem hps2 {τ : Store} {p q : Nm} {c d : Pl} (h : ∀ x ∈ [(p, c), (q, d)], τ x.1 = some x.2) : τ p = some c ∧ τ q = some d := ⟨h (p, c) (by simp), h (q, d) (by simp)⟩
end Go.Proofs.YtdpfcpkedaolfaaDoor
