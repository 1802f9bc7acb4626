/-
  The abstract machine, third part: places, slices, structs, integers.
-/
import Derived.Test.YtdpfcpkedaolfaaDoorAm2
import Derived.Laws.BytesArg
namespace Go.Proofs.YtdpfcpkedaolfaaDoor
open Go.RowKit

section
variable {P : Program} {T : Tys} {σ : Store} {w : World}

theorem DoneV.mono {s : Sem Value} {K K' : AV → Store → Prop} (h : DoneV P s σ w K) (hk : ∀ r σ', K r σ' → K' r σ') : DoneV P s σ w K' := by
  obtain ⟨v, w', r, σ', h1, h2, h3⟩ := h
  exact ⟨v, w', r, σ', h1, hk _ _ h2, h3⟩

/-- A new variable. -/
def ABox (t : TypeId) (x : AV) (σ : Store) (K : AV → Store → Prop) : Prop :=
  match x.cells with
  | some cs => AFresh σ fun p => K (.ptr p 0) (upd σ p ⟨t, cs⟩)
  | none => False
theorem ABox.sound {t : TypeId} {x : AV} {v : Value} {K : AV → Store → Prop} (hm : Mem σ w) (hr : Rd σ w x v) (h : ABox t x σ K) : DoneV P (Instr.box t v) σ w K := by
  unfold ABox at h
  cases hc : x.cells with
  | none => rw [hc] at h; simp at h
  | some cs =>
    rw [hc] at h
    obtain ⟨h1, h2⟩ := hr.cells hc
    refine ⟨.pointer (some ⟨w.heap.size, 0, none⟩), w.alloc (.cells v.cells t), .ptr (.b w.heap.size) 0, upd σ (.b w.heap.size) ⟨t, cs⟩, ?_, h.go _ (hm.fresh (Nat.le_refl _)), .ptr _ _, hm.alloc ⟨t, cs⟩ v.cells (by simp [h1]) h2, Stp.alloc σ w ⟨t, cs⟩ v.cells⟩
    simp [Instr.box, newVar, newRow]
def AAlloc (T : Tys) (t : TypeId) (σ : Store) (K : AV → Store → Prop) : Prop :=
  match T t with
  | some i => ABox t i.zero σ K
  | none => False
theorem AAlloc.sound {t : TypeId} {K : AV → Store → Prop} (hT : TOk P T) (hm : Mem σ w) (h : AAlloc T t σ K) : DoneV P (Instr.alloc t true (.tuple #[])) σ w K := by
  unfold AAlloc at h
  cases ht : T t with
  | none => rw [ht] at h; simp at h
  | some i =>
    rw [ht] at h
    obtain ⟨z, h1, h2⟩ := (hT t i ht).zeroV
    obtain ⟨v, w', r, σ', h3, h4⟩ := ABox.sound (P := P) hm (Rd.zr (σ := σ) (w := w) h1) h
    refine ⟨v, w', r, σ', ?_, h4⟩
    simp only [Instr.alloc, Sem.run_bind, h2, Result.andThen_ok]
    exact h3

/-- A field's place. -/
def AFa (T : Tys) (t : TypeId) (x : AV) (f : Nat) (K : AV → Prop) : Prop :=
  match T t with
  | some ⟨_, _, _, .struct fs, _⟩ =>
    match fs[f]? with
    | some (off, ft) =>
      match T ft with
      | some j => 0 < j.size ∧ (match x with
        | .ptr p o => K (.ptr p (o + off))
        | .ip cs => K (.ip (cs.drop off))
        | _ => False)
      | none => False
    | none => False
  | _ => False
theorem struct_of {t : TypeId} {i : TI} (h : TIok P t i) {fs : List (Nat × TypeId)} (hd : i.desc = .struct fs) : ∃ gs : Array Field, P.underlying t = some (.struct gs) ∧ gs.toList.map (fun f => (f.offset, f.type)) = fs := by
  obtain ⟨d, h1, -, h3⟩ := h.und
  rw [hd] at h3
  cases d <;> simp [TD.rel] at h3
  exact ⟨_, h1, h3⟩
theorem slice_of {t : TypeId} {i : TI} (h : TIok P t i) {e : TypeId} (hd : i.desc = .slice e) : P.underlying t = some (.slice e) := by
  obtain ⟨d, h1, -, h3⟩ := h.und
  rw [hd] at h3
  cases d <;> simp [TD.rel] at h3
  subst h3; exact h1
theorem ptr_of {t : TypeId} {i : TI} (h : TIok P t i) {e : TypeId} (hd : i.desc = .ptr e) : P.underlying t = some (.pointer e) := by
  obtain ⟨d, h1, -, h3⟩ := h.und
  rw [hd] at h3
  cases d <;> simp [TD.rel] at h3
  subst h3; exact h1
theorem array_of {t : TypeId} {i : TI} (h : TIok P t i) {n : Nat} {e : TypeId} (hd : i.desc = .array n e) : P.underlying t = some (.array n e) := by
  obtain ⟨d, h1, -, h3⟩ := h.und
  rw [hd] at h3
  cases d <;> simp [TD.rel] at h3
  obtain ⟨rfl, rfl⟩ := h3; exact h1
theorem int_of {t : TypeId} {i : TI} (h : TIok P t i) {k : IntKind} (hd : i.desc = .int k) : P.underlying t = some (.int k) := by
  obtain ⟨d, h1, -, h3⟩ := h.und
  rw [hd] at h3
  cases d <;> simp [TD.rel] at h3
  subst h3; exact h1
theorem str_of {t : TypeId} {i : TI} (h : TIok P t i) (hd : i.desc = .str) : P.underlying t = some .string := by
  obtain ⟨d, h1, -, h3⟩ := h.und
  rw [hd] at h3
  cases d <;> simp [TD.rel] at h3
  exact h1
theorem bool_of {t : TypeId} {i : TI} (h : TIok P t i) (hd : i.desc = .bool) : P.underlying t = some .bool := by
  obtain ⟨d, h1, -, h3⟩ := h.und
  rw [hd] at h3
  cases d <;> simp [TD.rel] at h3
  exact h1
theorem field_of {gs : Array Field} {fs : List (Nat × TypeId)} (h : gs.toList.map (fun f => (f.offset, f.type)) = fs) {f off ft : Nat} (hf : fs[f]? = some (off, ft)) : ∃ g, gs[f]? = some g ∧ g.offset = off ∧ g.type = ft := by
  rw [← h] at hf
  simp at hf
  obtain ⟨g, h1, h2, h3⟩ := hf
  exact ⟨g, h1, h2, h3⟩
theorem AFa.sound {t : TypeId} {x : AV} {v : Value} {f : Nat} {K : AV → Store → Prop} (hT : TOk P T) (hm : Mem σ w) (hr : Rd σ w x v) (h : AFa T t x f fun r => K r σ) : DoneV P (Instr.fieldAt t v f) σ w K := by
  unfold AFa at h
  split at h
  case h_2 => exact h.elim
  rename_i sz by_ ag fs z ht
  split at h
  case h_2 => exact h.elim
  rename_i off ft hf
  split at h
  case h_2 => exact h.elim
  rename_i j hj
  obtain ⟨h0, h⟩ := h
  obtain ⟨gs, h1, h2⟩ := struct_of (hT t _ ht) rfl
  obtain ⟨g, h3, h4, h5⟩ := field_of h2 hf
  have hsz : ∀ w, (sizeOf g.type).run P w = .ok j.size w := fun w => by rw [h5]; exact (hT ft j hj).size w
  have hz : ¬ j.size = 0 := by omega
  cases hr <;> simp at h
  case ptr p o =>
    refine DoneV.same hm (v := .pointer (some ⟨p, o + off, none⟩)) ?_ (.ptr _ _) h
    unfold Instr.fieldAt
    simp [run_underlying h1, h3, Instr.sureAddr, fieldPlace, hsz, hz, addr_plus, h4]
  case ip cs b o f' hb hf' hc =>
    refine DoneV.same hm (v := .pointer (some ⟨b, o + off, none⟩)) ?_ (.ip (cs.drop off) b (o + off) (fun i => f' (off + i)) ?_ ?_ ?_) h
    · unfold Instr.fieldAt
      simp [run_underlying h1, h3, Instr.sureAddr, fieldPlace, hsz, hz, addr_plus, h4]
    · intro h6; simp at h6; exact hb (by omega)
    · intro i hi; simp at hi; rw [Nat.add_assoc]; exact hf' _ (by omega)
    · intro i hi; simp at hi; rw [getD_drop]; exact hc _ (by omega)

/-- An element's place. -/
def AIx (T : Tys) (t : TypeId) (x i : AV) (K : AV → Prop) : Prop :=
  match T t, i with
  | some ⟨_, _, _, .slice e, _⟩, .int _ j =>
    match T e with
    | some ei =>
      (match x with
      | .sl n cs => 0 ≤ j ∧ j < n ∧ K (.ip (cs.drop (j.toNat * ei.size)))
      | .vw p off n _ => 0 ≤ j ∧ j < n ∧ K (.ptr p (off + j.toNat * ei.size))
      | _ => False)
    | none => False
  | some ⟨_, _, _, .array n e, _⟩, .int _ j =>
    match T e with
    | some ei => 0 ≤ j ∧ j < n ∧ (match x with
      | .ptr p off => K (.ptr p (off + j.toNat * ei.size))
      | .ip cs => K (.ip (cs.drop (j.toNat * ei.size)))
      | _ => False)
    | none => False
  | _, _ => False
theorem Rd.ipdrop {cs : List AV} {b off : Nat} {f : Nat → Value} (hb : 0 < cs.length → σ (.b b) = none) (hf : ∀ i, i < cs.length → w.cell? ⟨b, off + i, none⟩ = some (f i)) (hc : ∀ i, i < cs.length → Rd σ w (cs.getD i .any) (f i)) (k : Nat) :
    Rd σ w (.ip (cs.drop k)) (.pointer (some ⟨b, off + k, none⟩)) := by
  refine .ip (cs.drop k) b (off + k) (fun i => f (k + i)) ?_ ?_ ?_
  · intro h6; simp at h6; exact hb (by omega)
  · intro i hi; simp at hi; rw [Nat.add_assoc]; exact hf _ (by omega)
  · intro i hi; simp at hi; rw [getD_drop]; exact hc _ (by omega)
theorem AIx.sound {t : TypeId} {x i : AV} {v vi : Value} {K : AV → Store → Prop} (hT : TOk P T) (hm : Mem σ w) (hr : Rd σ w x v) (hi : Rd σ w i vi) (h : AIx T t x i fun r => K r σ) : DoneV P (Instr.indexAt t v vi) σ w K := by
  unfold AIx at h
  split at h
  · rename_i sz by_ ag e z k j ht
    cases hi
    split at h
    case h_2 => exact h.elim
    rename_i ei he
    have hsl := slice_of (hT t _ ht) rfl
    have hsz := fun w => (hT e ei he).size w
    cases hr <;> simp at h
    case slnil =>
      obtain ⟨h1, h2, -⟩ := h
      omega
    case sl n cs b off cap f hb hn hm' hf hc =>
      obtain ⟨h1, h2, h3⟩ := h
      refine DoneV.same hm (v := .pointer (some ⟨b, off + j.toNat * ei.size, none⟩)) ?_ (Rd.ipdrop hb hf hc _) h3
      unfold Instr.indexAt
      simp [asIntOf, run_underlying hsl, h1, h2, hsz, addr_plus]
    case vw p off n sz cap cur t' hp hn hm' hs =>
      obtain ⟨h1, h2, h3⟩ := h
      refine DoneV.same hm (v := .pointer (some ⟨p, off + j.toNat * ei.size, none⟩)) ?_ (.ptr _ _) h3
      unfold Instr.indexAt
      simp [asIntOf, run_underlying hsl, h1, h2, hsz, addr_plus]
    case vwnil k' sz =>
      obtain ⟨h1, h2, -⟩ := h
      omega
  · rename_i sz by_ ag n e z k j ht
    cases hi
    split at h
    case h_2 => exact h.elim
    rename_i ei he
    have hsl := array_of (hT t _ ht) rfl
    have hsz := fun w => (hT e ei he).size w
    obtain ⟨h1, h2, h⟩ := h
    cases hr <;> simp at h
    case ptr p off =>
      refine DoneV.same hm (v := .pointer (some ⟨p, off + j.toNat * ei.size, none⟩)) ?_ (.ptr _ _) h
      unfold Instr.indexAt
      simp [asIntOf, run_underlying hsl, h1, h2, hsz, addr_plus, Instr.sureAddr]
    case ip cs b off f hb hf hc =>
      refine DoneV.same hm (v := .pointer (some ⟨b, off + j.toNat * ei.size, none⟩)) ?_ (Rd.ipdrop hb hf hc _) h
      unfold Instr.indexAt
      simp [asIntOf, run_underlying hsl, h1, h2, hsz, addr_plus, Instr.sureAddr]
  · exact h.elim

/-- A field of a struct, an element of an array. -/
def AFd (T : Tys) (t : TypeId) (x : AV) (f : Nat) (K : AV → Prop) : Prop :=
  match T t, x with
  | some ⟨_, _, _, .struct fs, _⟩, .agg cs =>
    match fs[f]? with
    | some (off, ft) =>
      match T ft with
      | some j => off + j.size ≤ cs.length ∧ (j.agg = false → 0 < j.size) ∧ K (mkv j.agg ((cs.drop off).take j.size))
      | none => False
    | none => False
  | _, _ => False
def AEl (T : Tys) (t : TypeId) (x i : AV) (K : AV → Prop) : Prop :=
  match T t, x, i with
  | some ⟨_, _, _, .array n e, _⟩, .agg cs, .int _ j =>
    match T e with
    | some ei => 0 ≤ j ∧ j < n ∧ j.toNat * ei.size + ei.size ≤ cs.length ∧ (ei.agg = false → 0 < ei.size) ∧ ACell ei.agg ((cs.drop (j.toNat * ei.size)).take ei.size) K
    | none => False
  | _, _, _ => False
theorem Rd.part {t : TypeId} {j : TI} (hj : TIok P t j) {cs : List AV} {vs : Array Value} (hl : cs.length = vs.size) (hc : ∀ i, i < cs.length → Rd σ w (cs.getD i .any) (vs.getD i undef)) {off : Nat} (ho : off + j.size ≤ cs.length) (h0 : j.agg = false → 0 < j.size) :
    ∃ v, (part t vs off).run P w = .ok v w ∧ Rd σ w (mkv j.agg ((cs.drop off).take j.size)) v := by
  cases ha : j.agg with
  | true =>
    refine ⟨.agg (vs.extract off (off + j.size)), ?_, .agg _ _ (by simp; omega) fun i hi => ?_⟩
    · unfold Go.part
      simp [hj.isAgg, ha, hj.size]
    · simp at hi
      have e1 : ((cs.drop off).take j.size).getD i .any = cs.getD (off + i) .any := by rw [getD_take _ _ _ _ (by omega), getD_drop]
      have e2 : (vs.extract off (off + j.size)).getD i undef = vs.getD (off + i) undef := by
        simp only [Array.getD_eq_getD_getElem?, Array.getElem?_extract]
        rw [if_pos (by omega)]
      rw [e1, e2]
      exact hc _ (by omega)
  | false =>
    have h1 := h0 ha
    have hlt : off < vs.size := by omega
    refine ⟨vs.getD off undef, ?_, ?_⟩
    · unfold Go.part
      simp [hj.isAgg, ha, hlt]
    · have e : mkv false ((cs.drop off).take j.size) = cs.getD off .any := by
        have := getD_take (cs.drop off) j.size 0 AV.any h1
        rw [getD_drop, Nat.add_zero] at this
        rw [← this]
        cases (cs.drop off).take j.size <;> rfl
      rw [e]
      exact hc off (by omega)
theorem AFd.sound {t : TypeId} {x : AV} {v : Value} {f : Nat} {K : AV → Store → Prop} (hT : TOk P T) (hm : Mem σ w) (hr : Rd σ w x v) (h : AFd T t x f fun r => K r σ) : DoneV P (Instr.field t v f) σ w K := by
  unfold AFd at h
  split at h
  case h_2 => exact h.elim
  rename_i sz by_ ag fs z _ cs ht
  split at h
  case h_2 => exact h.elim
  rename_i off ft hf
  split at h
  case h_2 => exact h.elim
  rename_i j hj
  obtain ⟨h1, h2, h3⟩ := h
  cases hr with
  | agg cs vs hl hc =>
    obtain ⟨gs, k1, k2⟩ := struct_of (hT t _ ht) rfl
    obtain ⟨g, k3, k4, k5⟩ := field_of k2 hf
    obtain ⟨v, r1, r2⟩ := Rd.part (hT ft j hj) hl hc h1 h2
    refine DoneV.same hm ?_ r2 h3
    unfold Instr.field
    simp [run_underlying k1, k3, asAgg, k4, k5, r1]
theorem AEl.sound {t : TypeId} {x i : AV} {v vi : Value} {K : AV → Store → Prop} (hT : TOk P T) (hm : Mem σ w) (hr : Rd σ w x v) (hi : Rd σ w i vi) (h : AEl T t x i fun r => K r σ) : DoneV P (Instr.index t v vi) σ w K := by
  unfold AEl at h
  split at h
  case h_2 => exact h.elim
  rename_i sz by_ ag n e z cs k j ht
  cases hi
  split at h
  case h_2 => exact h.elim
  rename_i ei he
  obtain ⟨h1, h2, h3, h4, ⟨h5⟩⟩ := h
  cases hr with
  | agg cs vs hl hc =>
    have hsl := array_of (hT t _ ht) rfl
    obtain ⟨v, r1, r2⟩ := Rd.part (hT e ei he) hl hc h3 h4
    refine DoneV.same hm ?_ r2 h5
    unfold Instr.index
    simp [asIntOf, run_underlying hsl, h1, h2, (hT e ei he).size, r1]

/-- Integers, and the other values with operators. -/
def ibits (op : BinOp) (k : IntKind) (a b : Int) : Int :=
  match op with
  | .and => k.wrap (BitVec.ofInt k.bits a &&& BitVec.ofInt k.bits b).toNat
  | .or => k.wrap (BitVec.ofInt k.bits a ||| BitVec.ofInt k.bits b).toNat
  | .xor => k.wrap (BitVec.ofInt k.bits a ^^^ BitVec.ofInt k.bits b).toNat
  | _ => k.wrap (BitVec.ofInt k.bits a &&& ~~~ BitVec.ofInt k.bits b).toNat
def icmp (op : BinOp) (a b : Int) : Bool :=
  match op with
  | .eql => a == b
  | .neq => a != b
  | .lss => decide (a < b)
  | .leq => decide (a ≤ b)
  | .gtr => decide (a > b)
  | _ => decide (a ≥ b)
def iarith (op : BinOp) (k : IntKind) (a b : Int) : Int :=
  match op with
  | .add => k.wrap (a + b)
  | .sub => k.wrap (a - b)
  | _ => k.wrap (a * b)
/-- A test against nil, at a slice type. -/
def ANil (T : Tys) (op : BinOp) (t : TypeId) (isnil : Bool) (ok : Prop) (K : AV → Prop) : Prop :=
  match T t with
  | some ⟨_, _, _, .slice _, _⟩ =>
    (match op with
    | .eql => ok ∧ K (.bool isnil)
    | .neq => ok ∧ K (.bool (!isnil))
    | _ => False)
  | _ => False
theorem ANil.sound {op : BinOp} {t : TypeId} {b : Bool} {ok : Prop} {vx vy : Value} {a : Option Addr} {n c : Nat} {K : AV → Store → Prop} (hT : TOk P T) (hm : Mem σ w) (hx : vx = .slice a n c) (hy : vy = .slice none 0 0) (hb : ok → a.isNone = b) (ox oy : Operand) (h : ANil T op t b ok fun r => K r σ) :
    DoneV P (do eqGuard op t ox oy vx vy; binOp op t vx vy) σ w K := by
  subst hx hy
  unfold ANil at h
  split at h
  case h_2 => exact h.elim
  rename_i sz_ by_ ag e z ht
  have hu := slice_of (hT t _ ht) rfl
  have g : (eqGuard op t ox oy (.slice a n c) (.slice none 0 0)).run P w = .ok () w := by
    have h3 : ∀ (x : Sem Unit) (c : Bool), (x.run P w = .ok () w) → ((if c = true then pure () else x : Sem Unit).run P w = .ok () w) := by
      intro x c hx
      split
      · rfl
      · exact hx
    unfold eqGuard
    exact h3 _ _ rfl
  have heq : (Op.equal t (.slice a n c) (.slice none 0 0)).run P w = .ok a.isNone w := by
    have h9 : ∀ d, (Op.equalIn (d + 1) t (.slice a n c) (.slice none 0 0)).run P w = .ok a.isNone w := fun d => by
      cases a <;> simp [Op.equalIn, run_underlying hu]
    simp [Op.equal, Op.maxDepth, h9 9999]
  split at h
  · obtain ⟨h1, h⟩ := h
    refine DoneV.same hm ?_ (.bool _) h
    rw [Sem.run_bind, g, Result.andThen_ok]
    rw [show binOp .eql t (.slice a n c) (.slice none 0 0) = (do pure (.bool (← Op.equal t (.slice a n c) (.slice none 0 0)))) from rfl, Sem.run_bind, heq, hb h1]
    rfl
  · obtain ⟨h1, h⟩ := h
    refine DoneV.same hm ?_ (.bool _) h
    rw [Sem.run_bind, g, Result.andThen_ok]
    rw [show binOp .neq t (.slice a n c) (.slice none 0 0) = (do pure (.bool (!(← Op.equal t (.slice a n c) (.slice none 0 0))))) from rfl, Sem.run_bind, heq, hb h1]
    rfl
  · exact h.elim
def ABin (T : Tys) (op : BinOp) (t : TypeId) (x y : AV) (K : AV → Prop) : Prop :=
  match x, y with
  | .int k a, .int k' b =>
    (match op with
    | .shl => 0 ≤ b ∧ K (.int k (k.wrap (a * 2 ^ (min b.toNat k.bits))))
    | .shr => 0 ≤ b ∧ K (.int k (a.fdiv (2 ^ (min b.toNat k.bits))))
    | .add | .sub | .mul => if k = k' then K (.int k (iarith op k a b)) else False
    | .quo => if k = k' then (b ≠ 0 ∧ K (.int k (k.wrap (a.tdiv b)))) else False
    | .rem => if k = k' then (b ≠ 0 ∧ K (.int k (a.tmod b))) else False
    | .and | .or | .xor | .andNot => if k = k' then K (.int k (ibits op k a b)) else False
    | .eql | .neq | .lss | .leq | .gtr | .geq => if k = k' then K (.bool (icmp op a b)) else False)
  | .str a, .str b =>
    (match op with
    | .eql => K (.bool (a.toList == b.toList))
    | .neq => K (.bool (!(a.toList == b.toList)))
    | _ => False)
  | .bool a, .bool b =>
    (match T t with
    | some ⟨_, _, _, .bool, _⟩ =>
      (match op with
      | .eql => K (.bool (a == b))
      | .neq => K (.bool (!(a == b)))
      | _ => False)
    | _ => False)
  | .sl n _, .nils => ANil T op t false (0 < n) K
  | .vw _ _ n _, .nils => ANil T op t false (0 < n) K
  | .nils, .nils => ANil T op t true True K
  | _, _ => False
theorem run_equal_bool {t : TypeId} (hb : P.underlying t = some .bool) (a b : Bool) (w : World) : (Op.equal t (.bool a) (.bool b)).run P w = .ok (a == b) w := by
  obtain ⟨d, hd⟩ : ∃ d, d + 1 = Op.maxDepth := ⟨9999, rfl⟩
  unfold Op.equal
  rw [← hd, Op.equalIn]
  simp [run_underlying hb]
set_option maxHeartbeats 1000000 in
theorem ABin.sound {op : BinOp} {t : TypeId} {x y : AV} {vx vy : Value} {K : AV → Store → Prop} (hT : TOk P T) (hm : Mem σ w) (hx : Rd σ w x vx) (hy : Rd σ w y vy) (ox oy : Operand) (h : ABin T op t x y fun r => K r σ) :
    DoneV P (do eqGuard op t ox oy vx vy; binOp op t vx vy) σ w K := by
  have gd : ∀ {a b : Value}, (∀ c, a ≠ .agg c) → a ≠ .nilIface → (eqGuard op t ox oy a b).run P w = .ok () w := by
    intro a b h1 h2
    have h3 : ∀ (x : Sem Unit) (c : Bool), (x.run P w = .ok () w) → ((if c = true then pure () else x : Sem Unit).run P w = .ok () w) := by
      intro x c hx
      split
      · rfl
      · exact hx
    unfold eqGuard
    refine h3 _ _ ?_
    cases a <;> first
      | exact absurd rfl (h1 _)
      | exact absurd rfl h2
      | (cases b <;> rfl)
  unfold ABin at h
  split at h
  · rename_i k a k' b
    cases hx; cases hy
    have g := gd (a := .int k a) (b := .int k' b) (by simp) (by simp)
    cases op <;> simp only at h
    case shl | shr =>
      obtain ⟨h0, h⟩ := h
      refine DoneV.same hm ?_ (.int _ _) h
      rw [Sem.run_bind, g]
      simp [binOp, Op.shift, Int.not_lt.2 h0]
    case quo | rem =>
      split at h
      · rename_i e; subst e
        obtain ⟨h0, h⟩ := h
        refine DoneV.same hm ?_ (.int _ _) h
        rw [Sem.run_bind, g]
        simp [binOp, Op.intDiv, h0]
      · exact h.elim
    all_goals
      split at h
      · rename_i e; subst e
        refine DoneV.same hm ?_ (by first | exact .int _ _ | exact .bool _) h
        rw [Sem.run_bind, g]
        simp [binOp, Op.intArith, Op.intBits, Op.intCmp, ibits, icmp, iarith]
      · exact h.elim
  · rename_i a b
    cases hx; cases hy
    have g := gd (a := .string a) (b := .string b) (by simp) (by simp)
    split at h
    · refine DoneV.same hm ?_ (.bool _) h
      rw [Sem.run_bind, g]
      simp [binOp, Op.stringOp]
    · refine DoneV.same hm ?_ (.bool _) h
      rw [Sem.run_bind, g]
      simp [binOp, Op.stringOp]
    · exact h.elim
  · rename_i a b
    cases hx; cases hy
    have g := gd (a := .bool a) (b := .bool b) (by simp) (by simp)
    split at h
    case h_2 => exact h.elim
    rename_i sz by_ ag z ht
    have hb := bool_of (hT t _ ht) rfl
    split at h
    · refine DoneV.same hm ?_ (.bool _) h
      rw [Sem.run_bind, g, Result.andThen_ok]
      rw [show binOp .eql t (.bool a) (.bool b) = (do pure (.bool (← Op.equal t (.bool a) (.bool b)))) from rfl, Sem.run_bind, run_equal_bool hb]
      rfl
    · refine DoneV.same hm ?_ (.bool _) h
      rw [Sem.run_bind, g, Result.andThen_ok]
      rw [show binOp .neq t (.bool a) (.bool b) = (do pure (.bool (!(← Op.equal t (.bool a) (.bool b))))) from rfl, Sem.run_bind, run_equal_bool hb]
      rfl
    · exact h.elim
  · cases hy
    cases hx with
    | slnil => exact ANil.sound hT hm rfl rfl (fun h => absurd h (by simp)) ox oy h
    | sl n cs b off cap f hb hn hm' hf hc => exact ANil.sound hT hm rfl rfl (fun _ => rfl) ox oy h
  · cases hy
    cases hx with
    | vwnil k sz => exact ANil.sound hT hm rfl rfl (fun h => absurd h (by simp)) ox oy h
    | vw p off n sz cap cur t' hp hn hm' hs => exact ANil.sound hT hm rfl rfl (fun _ => rfl) ox oy h
  · cases hx; cases hy
    exact ANil.sound hT hm rfl rfl (fun _ => rfl) ox oy h
  · exact h.elim
def AUn (op : UnOp) (x : AV) (K : AV → Prop) : Prop :=
  match op, x with
  | .not, .bool b => K (.bool (!b))
  | .neg, .int k n => K (.int k (k.wrap (0 - n)))
  | .xor, .int k n => K (.int k (ibits .xor k (if k.signed then -1 else k.max) n))
  | _, _ => False
theorem AUn.sound {op : UnOp} {x : AV} {v : Value} {K : AV → Store → Prop} (hm : Mem σ w) (hx : Rd σ w x v) (h : AUn op x fun r => K r σ) : DoneV P (Op.unary op v) σ w K := by
  unfold AUn at h
  split at h
  · cases hx; exact DoneV.same hm (by simp [Op.unary]) (.bool _) h
  · cases hx; exact DoneV.same hm (by simp [Op.unary, Op.intArith]) (.int _ _) h
  · cases hx; exact DoneV.same hm (by simp [Op.unary, Op.intBits, ibits]) (.int _ _) h
  · exact h.elim
end
end Go.Proofs.YtdpfcpkedaolfaaDoor
