/-
  The abstract machine, sixth part: contracts of functions, and one operation.
-/
import Derived.Test.YtdpfcpkedaolfaaDoorAm5
namespace Go.Proofs.YtdpfcpkedaolfaaDoor
open Go.RowKit

/-- Places are forgotten, so that nobody writes them any more: what was read through them is read as data. -/
inductive Frz (σ : Store) (F : List Nm) : AV → AV → Prop where
  | refl (a : AV) : Frz σ F a a
  | any (a : AV) : Frz σ F a .any
  | nils : Frz σ F .nils (.sl 0 [])
  | vw (p : Nm) (off n sz : Nat) (c : Pl) (cs : List AV) (hp : p ∈ F) (hc : σ p = some c) (hl : off + n * sz ≤ c.cs.length) (hn : cs.length = n * sz) (h0 : 0 < sz) (h : ∀ i, i < n * sz → Frz σ F (c.cs.getD (off + i) .any) (cs.getD i .any)) :
      Frz σ F (.vw p off n sz) (.sl n cs)
  | ap (p : Nm) (off n sz : Nat) (c : Pl) (cs : List AV) (hp : p ∈ F) (hc : σ p = some c) (hl : off + n * sz ≤ c.cs.length) (hn : cs.length = n * sz) (h : ∀ i, i < n * sz → Frz σ F (c.cs.getD (off + i) .any) (cs.getD i .any)) :
      Frz σ F (.ap p off n sz) (.sl n cs)
  | agg (xs ys : List AV) (hl : xs.length = ys.length) (h : ∀ i, i < xs.length → Frz σ F (xs.getD i .any) (ys.getD i .any)) : Frz σ F (.agg xs) (.agg ys)
  | tup (xs ys : List AV) (hl : xs.length = ys.length) (h : ∀ i, i < xs.length → Frz σ F (xs.getD i .any) (ys.getD i .any)) : Frz σ F (.tup xs) (.tup ys)
  | sl (n : Nat) (xs ys : List AV) (hl : xs.length = ys.length) (h : ∀ i, i < xs.length → Frz σ F (xs.getD i .any) (ys.getD i .any)) : Frz σ F (.sl n xs) (.sl n ys)
def eraN (σ : Store) : List Nm → Store
  | [] => σ
  | p :: l => era (eraN σ l) p
theorem eraN_none (σ : Store) (l : List Nm) {p : Nm} (h : p ∈ l) : eraN σ l p = none := by
  induction l with
  | nil => cases h
  | cons q l ih =>
    unfold eraN
    by_cases hq : p = q
    · subst hq; exact era_same _ _
    · rw [era_ne _ hq]
      exact ih (by simpa [hq] using h)
theorem eraN_sub (σ : Store) (l : List Nm) : ∀ b c, eraN σ l b = some c → σ b = some c := by
  induction l with
  | nil => exact fun _ _ h => h
  | cons q l ih =>
    intro b c h
    unfold eraN at h
    by_cases hq : b = q
    · subst hq; rw [era_same] at h; cases h
    · rw [era_ne _ hq] at h; exact ih b c h
theorem eraN_keep (σ : Store) (l : List Nm) {b : Nm} (h : σ b = none) : eraN σ l b = none := by
  cases hc : eraN σ l b with
  | none => rfl
  | some c => rw [eraN_sub σ l b c hc] at h; cases h

section
variable {P : Program} {T : Tys} {G : Nat → AV} {σ : Store} {w : World}
theorem Frz.sound {F : List Nm} (hm : Mem σ w) {a a' : AV} (h : Frz σ F a a') : ∀ {v : Value}, Rd σ w a v → Rd (eraN σ F) w a' v := by
  have hst : Stp σ w (eraN σ F) w := Stp.forget σ _ w fun b hb => eraN_keep σ F hb
  induction h with
  | refl a => exact fun h => h.mono hst
  | any a => exact fun _ => .any _
  | nils => intro v h; cases h; exact .slnil
  | vw p off n sz c cs hp hc hl hn h0 _ ih =>
    intro v h
    cases h with
    | vw p off n sz cap cur t hcur hnc hm' hs =>
      have hcells := (hm.cells hc).sub off (n * sz)
      rw [Nat.zero_add] at hcells
      obtain ⟨f, hf⟩ := hcells.fn
      have hlen : ((c.cs.drop off).take (n * sz)).length = n * sz := by simp; omega
      refine .sl n cs p off cap f (fun _ => eraN_none σ F hp) hnc hm' (fun i hi => (hf i (by omega)).1) (fun i hi => ?_)
      have := (hf i (by omega)).2
      rw [getD_take _ _ _ _ (by omega), getD_drop] at this
      exact ih i (by omega) this
    | vwnil k sz =>
      obtain rfl : cs = [] := List.eq_nil_of_length_eq_zero (by simpa using hn)
      exact .slnil
  | ap p off n sz c cs hp hc hl hn _ ih =>
    intro v h
    cases h with
    | ap p off n sz cap hnc hm' =>
      have hcells := (hm.cells hc).sub off (n * sz)
      rw [Nat.zero_add] at hcells
      obtain ⟨f, hf⟩ := hcells.fn
      have hlen : ((c.cs.drop off).take (n * sz)).length = n * sz := by simp; omega
      refine .sl n cs p off cap f (fun _ => eraN_none σ F hp) hnc hm' (fun i hi => (hf i (by omega)).1) (fun i hi => ?_)
      have := (hf i (by omega)).2
      rw [getD_take _ _ _ _ (by omega), getD_drop] at this
      exact ih i (by omega) this
  | agg xs ys hl _ ih =>
    intro v h
    cases h with
    | agg xs vs hl2 hc => exact .agg ys vs (by omega) fun i hi => ih i (by omega) (hc i (by omega))
  | tup xs ys hl _ ih =>
    intro v h
    cases h with
    | tup xs vs hl2 hc => exact .tup ys vs (by omega) fun i hi => ih i (by omega) (hc i (by omega))
  | sl n xs ys hl _ ih =>
    intro v h
    cases h with
    | slnil =>
      obtain rfl : ys = [] := List.eq_nil_of_length_eq_zero (by simpa using hl.symm)
      exact .slnil
    | sl n xs b off cap f hb hn hm' hf hc =>
      refine .sl n ys b off cap f (fun h0 => eraN_keep σ F (hb (by omega))) hn hm' (fun i hi => hf i (by omega)) (fun i hi => ih i (by omega) (hc i (by omega)))

/-- What the program's variables hold. -/
def Glob (G : Nat → AV) (σ : Store) (w : World) : Prop := ∀ g, Rd σ w (G g) (.pointer (some ⟨g, 0, none⟩))
theorem Glob.mono {σ' : Store} {w' : World} (h : Glob G σ w) (hs : Stp σ w σ' w') : Glob G σ' w' := fun g => (h g).mono hs
def putAll (σ : Store) : List (Nm × Pl) → Store
  | [] => σ
  | x :: l => upd (putAll σ l) x.1 x.2
/-- A contract: the arguments; the places that the call takes over; for a new name what it returns, and the places that there are behind it. -/
def LSpec (P : Program) (G : Nat → AV) (f : FuncId) (args : List AV) (ps : List (Nm × Pl)) (post : Nm → AV × List (Nm × Pl)) : Prop :=
  (∃ fn, P.funcs[f]? = some fn ∧ (fn.name == "runtime.NumGoroutine") = false ∧ fn.body.isNone = false) ∧
  (∀ q, (∀ x ∈ (post q).2, x.1 = q ∨ x.1 ∈ ps.map (·.1)) ∧ (q ∉ ps.map (·.1) → ((post q).2.map (·.1)).Nodup)) ∧
  ∀ (τ : Store) (w : World) (vs : Array Value), Mem τ w → Glob G τ w → (∀ x ∈ ps, τ x.1 = some x.2) → (ps.map (·.1)).Nodup → RdL τ w args vs →
    Calls P f vs w fun e w' => ∃ v q, e = .returned v ∧ eraN τ (ps.map (·.1)) q = none ∧ ((post q).2.map (·.1)).Nodup ∧
      Rd (putAll (eraN τ (ps.map (·.1))) (post q).2) w' (post q).1 v ∧ Mem (putAll (eraN τ (ps.map (·.1))) (post q).2) w' ∧ Stp τ w (putAll (eraN τ (ps.map (·.1))) (post q).2) w'
/-- What a value reads as, it reads as in any memory. -/
def Flat (a : AV) : Prop := ∀ σ w σ' w' v, Rd σ w a v → Rd σ' w' a v
/-- A call, by a contract; or by a contract that takes no place, where own rows are lent, and what comes back holds no reference. -/
structure ACall (P : Program) (G : Nat → AV) (f : FuncId) (args : List AV) (σ : Store) (K : AV → Store → Prop) : Prop where
  ex : (∃ (F : List Nm) (args' : List AV) (ps : List (Nm × Pl)) (post : Nm → AV × List (Nm × Pl)),
    args.length = args'.length ∧ (∀ i, i < args.length → Frz σ F (args.getD i .any) (args'.getD i .any)) ∧ LSpec P G f args' ps post ∧ (∀ x ∈ ps, eraN σ F x.1 = some x.2) ∧ (ps.map (·.1)).Nodup ∧
    ∀ q, eraN (eraN σ F) (ps.map (·.1)) q = none → ((post q).2.map (·.1)).Nodup → K (post q).1 (putAll (eraN (eraN σ F) (ps.map (·.1))) (post q).2)) ∨
    ∃ (F : List Nm) (args' : List AV) (r : AV), args.length = args'.length ∧ (∀ i, i < args.length → Frz σ F (args.getD i .any) (args'.getD i .any)) ∧ LSpec P G f args' [] (fun _ => (r, [])) ∧ Flat r ∧ K r σ
theorem ACall.sound {f : FuncId} {args : List AV} {vs : Array Value} {K : AV → Store → Prop} (hm : Mem σ w) (hg : Glob G σ w) (hr : RdL σ w args vs) (h : ACall P G f args σ K) :
    (∀ w, (callFunc f vs).run P w = .ok (.enter f vs) w) ∧
    Calls P f vs w fun e w' => ∃ v r σ', e = .returned v ∧ K r σ' ∧ Rd σ' w' r v ∧ Mem σ' w' ∧ Stp σ w σ' w' := by
  have go : ∀ (fn : Func), P.funcs[f]? = some fn → (fn.name == "runtime.NumGoroutine") = false → fn.body.isNone = false → ∀ w, (callFunc f vs).run P w = .ok (.enter f vs) w := by
    intro fn hf hn hb w
    unfold callFunc
    rw [Sem.run_bind, show (program : Sem Program).run P w = .ok P w from rfl]
    simp only [Result.andThen_ok, hf, hn, hb, Bool.false_eq_true, if_false]
    rfl
  rcases h.ex with ⟨F, args', ps, post, h1, h2, ⟨⟨fn, hf, hn, hb⟩, -, h3⟩, h4, hnd, h5⟩ | ⟨F, args', r, h1, h2, ⟨⟨fn, hf, hn, hb⟩, -, h3⟩, hfl, hk⟩
  rotate_left
  · refine ⟨go fn hf hn hb, ?_⟩
    have hst0 : Stp (fun _ => none) w (fun _ => none) w := Stp.refl _ _
    have hsE : Stp σ w (eraN σ F) w := Stp.forget σ _ w fun b hb => eraN_keep σ F hb
    have hsN : Stp σ w (fun _ => none) w := Stp.forget σ _ w fun _ _ => rfl
    have hsF : Stp (eraN σ F) w (fun _ => none) w := Stp.forget _ _ w fun _ _ => rfl
    refine (h3 (fun _ => none) w vs ⟨nofun, nofun, ⟨0, fun _ _ => rfl⟩⟩ (hg.mono hsN) (fun _ h => by cases h) List.nodup_nil ⟨h1 ▸ hr.1, fun i hi => ((h2 i (by omega)).sound hm (hr.2 i (by omega))).mono hsF⟩).mono ?_
    rintro e w' ⟨v, q, rfl, g1, gn, g2, g3, g4⟩
    have g4 : Stp (fun _ => none) w (fun _ => none) w' := g4
    have hold : ∀ b, b < w.heap.size → w'.heap[b]? = w.heap[b]? := fun b hb => (g4.old b hb rfl).2
    have hst : Stp σ w σ w' := ⟨g4.os, g4.tape, g4.output, g4.size, fun b hb hn => ⟨hn, hold b hb⟩, g4.row⟩
    refine ⟨v, r, σ, rfl, hk, hfl _ _ _ _ _ g2, ⟨fun p c hp => ?_, hm.vl, hm.fin⟩, hst⟩
    obtain ⟨cur, k1, k2, k3⟩ := hm.pl p c hp
    exact ⟨cur, by rw [hold p (hm.lt hp)]; exact k1, k2, fun i hi => (k3 i hi).mono hst⟩
  have hst : Stp σ w (eraN σ F) w := Stp.forget σ _ w fun b hb => eraN_keep σ F hb
  have hm' : Mem (eraN σ F) w := hm.forget (eraN_sub σ F)
  refine ⟨go fn hf hn hb, ?_⟩
  refine (h3 (eraN σ F) w vs hm' (hg.mono hst) h4 hnd ⟨h1 ▸ hr.1, fun i hi => (h2 i (by omega)).sound hm (hr.2 i (by omega))⟩).mono ?_
  rintro e w' ⟨v, q, rfl, g1, gn, g2, g3, g4⟩
  exact ⟨v, _, _, rfl, h5 q g1 gn, g2, g3, hst.trans g4⟩

/-- Calls by contracts of the usual shapes. -/
theorem ACall.pure {f : FuncId} {args : List AV} {r : AV} {K : AV → Store → Prop} (hs : LSpec P G f args [] fun _ => (r, [])) (hk : K r σ) : ACall P G f args σ K :=
  ⟨.inl ⟨[], args, [], _, rfl, fun _ _ => .refl _, hs, fun _ h => (by cases h), List.nodup_nil, fun _ _ _ => hk⟩⟩
theorem ACall.own {f : FuncId} {args : List AV} {r : Nm → AV} {c : Nm → Pl} {K : AV → Store → Prop} (hs : LSpec P G f args [] fun q => (r q, [(q, c q)])) (hk : AFresh σ fun q => K (r q) (upd σ q (c q))) : ACall P G f args σ K :=
  ⟨.inl ⟨[], args, [], _, rfl, fun _ _ => .refl _, hs, fun _ h => (by cases h), List.nodup_nil, fun q hq _ => hk.go q hq⟩⟩
/-- A place is changed. -/
theorem ACall.upd {f : FuncId} {args : List AV} {r : AV} {p : Nm} {c d : Pl} {K : AV → Store → Prop} (hs : LSpec P G f args [(p, c)] fun _ => (r, [(p, d)])) (hp : σ p = some c) (hk : K r (Go.Proofs.YtdpfcpkedaolfaaDoor.upd σ p d)) : ACall P G f args σ K :=
  ⟨.inl ⟨[], args, [(p, c)], _, rfl, fun _ _ => .refl _, hs, fun x h => (by simp at h; subst h; exact hp), (by simp), fun q hq _ => by
    show K r (Go.Proofs.YtdpfcpkedaolfaaDoor.upd (era σ p) p d)
    rw [upd_era]; exact hk⟩⟩
/-- A place is taken over, and a new one comes. -/
theorem ACall.take {f : FuncId} {args : List AV} {r : Nm → AV} {p : Nm} {c : Pl} {d : Nm → Pl} {K : AV → Store → Prop} (hs : LSpec P G f args [(p, c)] fun q => (r q, [(q, d q)])) (hp : σ p = some c) (hk : AFresh (era σ p) fun q => K (r q) (Go.Proofs.YtdpfcpkedaolfaaDoor.upd (era σ p) q (d q))) : ACall P G f args σ K :=
  ⟨.inl ⟨[], args, [(p, c)], _, rfl, fun _ _ => .refl _, hs, fun x h => (by simp at h; subst h; exact hp), (by simp), fun q hq _ => hk.go q hq⟩⟩
/-- Arguments are read as data, for a contract that takes nothing over. -/
theorem ACall.frz {f : FuncId} {args args' : List AV} {r : AV} {K : AV → Store → Prop} (F : List Nm) (h1 : args.length = args'.length) (h2 : ∀ i, i < args.length → Frz σ F (args.getD i .any) (args'.getD i .any)) (hs : LSpec P G f args' [] fun _ => (r, [])) (hk : K r (eraN σ F)) : ACall P G f args σ K :=
  ⟨.inl ⟨F, args', [], _, h1, h2, hs, fun _ h => (by cases h), List.nodup_nil, fun _ _ _ => hk⟩⟩
theorem ACall.frzOwn {f : FuncId} {args args' : List AV} {r : Nm → AV} {c : Nm → Pl} {K : AV → Store → Prop} (F : List Nm) (h1 : args.length = args'.length) (h2 : ∀ i, i < args.length → Frz σ F (args.getD i .any) (args'.getD i .any)) (hs : LSpec P G f args' [] fun q => (r q, [(q, c q)])) (hk : AFresh (eraN σ F) fun q => K (r q) (Go.Proofs.YtdpfcpkedaolfaaDoor.upd (eraN σ F) q (c q))) : ACall P G f args σ K :=
  ⟨.inl ⟨F, args', [], _, h1, h2, hs, fun _ h => (by cases h), List.nodup_nil, fun q hq _ => hk.go q hq⟩⟩
/-- The operand's value. -/
def ev (G : Nat → AV) (e : Env) : Operand → AV
  | .tmp t => e t
  | .const v => ofV v
  | .global g => G g
  | .func f => .lit (.func (.func f) #[] #[])
theorem ev_sound {e : Env} {a : Act} (he : ∀ x, Rd σ w (e x) (a.tmps.getD x undef)) (hg : Glob G σ w) (x : Operand) : Rd σ w (ev G e x) (a.eval x) := by
  cases x with
  | tmp t => exact he t
  | const v => exact Rd.ofV v
  | global g => exact hg g
  | func f => exact .lit _

/-- A test. -/
structure ABr (t : Bool) (A B : Prop) : Prop where
  yes : t = true → A
  no : t = false → B
theorem ABr.byT {t : Bool} {A B : Prop} (h : t = true) (a : A) : ABr t A B := ⟨fun _ => a, fun e => absurd (h.symm.trans e) (by decide)⟩
theorem ABr.byF {t : Bool} {A B : Prop} (h : t = false) (b : B) : ABr t A B := ⟨fun e => absurd (h.symm.trans e) (by decide), fun _ => b⟩
theorem ABr.byN {t : Bool} {A B : Prop} (h : ABr t B A) : ABr (!t) A B := ⟨fun e => h.no (by simpa using e), fun e => h.yes (by simpa using e)⟩
/-- min and max of integers. -/
def AMin (mx : Bool) (x y : AV) (K : AV → Prop) : Prop :=
  match x, y with
  | .int k a, .int _ b => K (.int k (if mx then (if a < b then b else a) else (if b < a then b else a)))
  | _, _ => False
/-- An operation on abstract values. -/
def opA (P : Program) (T : Tys) (G : Nat → AV) (op : Op) (ρ : Operand → AV) (σ : Store) (K : AV → Store → Prop) : Prop :=
  match op with
  | .move x | .assign x => K (ρ x) σ
  | .pick c a b => (match ρ c with | .bool t => ABr t (K (ρ a) σ) (K (ρ b) σ) | _ => False)
  | .alloc t => AAlloc T t σ K
  | .box t x => ABox t (ρ x) σ K
  | .build t ps => ABd T t (ps.toList.map fun x => (x.1, ρ x.2)) fun v => K v σ
  | .buildSlice t n ps => n ≤ 16777216 ∧ ABs T t n (ps.toList.map fun x => (x.1, ρ x.2)) σ K
  | .load t x => ALd T t (ρ x) σ fun v => K v σ
  | .store t a x => ASt T t (ρ a) (ρ x) σ fun σ' => K (.tup []) σ'
  | .nilCheck x => (match ρ x with | .ptr p o => K (.ptr p o) σ | .ip cs => K (.ip cs) σ | _ => False)
  | .binOp op t x y _ => ABin T op t (ρ x) (ρ y) fun v => K v σ
  | .unOp op _ x => AUn op (ρ x) fun v => K v σ
  | .convert s d x => ACv T s d (ρ x) fun v => K v σ
  | .makeSlice t l c => AMk T t (ρ l) (ρ c) σ K
  | .slice t x lo hi none => ASl T t (ρ x) (lo.map ρ) (hi.map ρ) fun v => K v σ
  | .slice t x lo (some hi) (some mx) => ASl3 T t (ρ x) (lo.map ρ) (ρ hi) (ρ mx) fun v => K v σ
  | .fieldAddr t x f => AFa T t (ρ x) f fun v => K v σ
  | .field t x f => AFd T t (ρ x) f fun v => K v σ
  | .indexAddr t x i => AIx T t (ρ x) (ρ i) fun v => K v σ
  | .index t x i => AEl T t (ρ x) (ρ i) fun v => K v σ
  | .extract x i => (match ρ x with | .tup vs => i < vs.length ∧ K (vs.getD i .any) σ | _ => False)
  | .makeFunc fn first captured => K (.clo fn (first.toList.map ρ) (captured.toList.map ρ)) σ
  | .call c =>
    (match c.callee with
    | .value (.func f) => ACall P G f (c.args.toList.map ρ) σ K
    | .value x => (match ρ x with
      | .clo (.func f) fs cs => ACall P G f (fs ++ c.args.toList.map ρ ++ cs) σ K
      | _ => False)
    | .builtin .len => (match c.argTypes.toList, c.args.toList with
      | [t], [x] => (match T t with | some ⟨_, _, _, .slice _, _⟩ => ALen (ρ x) fun v => K v σ | _ => False)
      | _, _ => False)
    | .builtin .cap => (match c.argTypes.toList, c.args.toList with
      | [t], [x] => (match T t with | some ⟨_, _, _, .slice _, _⟩ => ACap (ρ x) fun v => K v σ | _ => False)
      | _, _ => False)
    | .builtin .append => (match c.argTypes.toList, c.args.toList with
      | [t, t'], [d, x] => (match ρ d, ρ x with | .nils, .int _ n => AGz T t t' n σ K | d, x => t = t' ∧ AAp T t d x σ K)
      | _, _ => False)
    | .builtin .copy => (match c.argTypes.toList, c.args.toList with
      | [t, _], [d, x] => ACp T t (ρ d) (ρ x) σ K
      | _, _ => False)
    | .builtin .min => (match c.args.toList with | [x, y] => AMin false (ρ x) (ρ y) fun v => K v σ | _ => False)
    | .builtin .max => (match c.args.toList with | [x, y] => AMin true (ρ x) (ρ y) fun v => K v σ | _ => False)
    | _ => False)
  | _ => False
end
end Go.Proofs.YtdpfcpkedaolfaaDoor
