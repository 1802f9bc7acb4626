/-
  The abstract machine, second part: the types' table; what the operations do on abstract values, and that the model's operations do so.
-/
import Derived.Test.YtdpfcpkedaolfaaDoorAm1
import Derived.Maps.AppendAt
namespace Go.Proofs.YtdpfcpkedaolfaaDoor
open Go.RowKit

/-- What a type's row says of its shape. -/
inductive TD where
  | one
  | int (k : IntKind)
  | bool
  | str
  | slice (e : TypeId)
  | array (n : Nat) (e : TypeId)
  | struct (fs : List (Nat × TypeId))
  | ptr (e : TypeId)
/-- A type's row: cells, bytes, whether it is a struct or an array, its shape, its zero value. -/
structure TI where
  size : Nat
  bytes : Nat
  agg : Bool
  desc : TD
  zero : AV
abbrev Tys := TypeId → Option TI

def aggD : TypeDesc → Bool
  | .struct _ | .array _ _ => true
  | _ => false
def TD.rel : TD → TypeDesc → Bool
  | .one, _ => true
  | .int k, .int k' => k == k'
  | .bool, .bool => true
  | .str, .string => true
  | .slice e, .slice e' => e == e'
  | .ptr e, .pointer e' => e == e'
  | .array n e, .array n' e' => n == n' && e == e'
  | .struct fs, .struct gs => gs.toList.map (fun f => (f.offset, f.type)) == fs
  | _, _ => false
/-- A zero cell. -/
def zr1 : AV → Value → Bool
  | .int k n, .int k' m => k == k' && n == m
  | .bool b, .bool c => b == c
  | .str s, .string t => decide (s = t)
  | .nils, .slice none 0 0 => true
  | .lit (.pointer none), .pointer none => true
  | .lit .nilFunc, .nilFunc => true
  | .lit .nilIface, .nilIface => true
  | .lit (.map none), .map none => true
  | _, _ => false
def zr : AV → Value → Bool
  | .agg cs, .agg vs => cs.length == vs.size && (List.range cs.length).all fun i => zr1 (cs.getD i .any) (vs.getD i undef)
  | a, v => zr1 a v
theorem Rd.zr1 {σ : Store} {w : World} {a : AV} {v : Value} (h : zr1 a v = true) : Rd σ w a v := by
  unfold Go.Proofs.YtdpfcpkedaolfaaDoor.zr1 at h
  split at h <;> first
    | (simp at h; done)
    | (simp at h; obtain ⟨rfl, rfl⟩ := h; exact .int _ _)
    | (simp at h; subst h; first | exact .bool _ | exact .str _)
    | exact .nils
    | exact .lit _
theorem Rd.zr {σ : Store} {w : World} {a : AV} {v : Value} (h : zr a v = true) : Rd σ w a v := by
  unfold Go.Proofs.YtdpfcpkedaolfaaDoor.zr at h
  split at h
  · simp at h
    exact .agg _ _ h.1 fun i hi => Rd.zr1 (by simpa using h.2 i hi)
  · exact Rd.zr1 h
def TI.chk (P : Program) (t : TypeId) (i : TI) : Bool :=
  (match P.info? t with
    | some j => j.size == i.size && j.bytes == i.bytes && (match j.zero with | some z => zr i.zero z && z.cells.size == i.size | none => false)
    | none => false) &&
  (match P.underlying t with
    | some d => aggD d == i.agg && i.desc.rel d
    | none => false)
structure TIok (P : Program) (t : TypeId) (i : TI) : Prop where
  info : ∃ j z, P.info? t = some j ∧ j.size = i.size ∧ j.bytes = i.bytes ∧ j.zero = some z ∧ zr i.zero z = true ∧ z.cells.size = i.size
  und : ∃ d, P.underlying t = some d ∧ aggD d = i.agg ∧ i.desc.rel d = true
theorem TIok.of_chk {P : Program} {t : TypeId} {i : TI} (h : i.chk P t = true) : TIok P t i := by
  unfold TI.chk at h
  simp only [Bool.and_eq_true] at h
  obtain ⟨h1, h2⟩ := h
  constructor
  · cases hj : P.info? t with
    | none => simp [hj] at h1
    | some j =>
      simp only [hj, Bool.and_eq_true, beq_iff_eq] at h1
      obtain ⟨⟨a, b⟩, c⟩ := h1
      cases hz : j.zero with
      | none => simp [hz] at c
      | some z => simp only [hz, Bool.and_eq_true, beq_iff_eq] at c; exact ⟨j, z, rfl, a, b, hz, c.1, c.2⟩
  · cases hd : P.underlying t with
    | none => simp [hd] at h2
    | some d => simp only [hd, Bool.and_eq_true, beq_iff_eq] at h2; exact ⟨d, rfl, h2.1, h2.2⟩
def TOk (P : Program) (T : Tys) : Prop := ∀ t i, T t = some i → TIok P t i
def tyGet : List (TypeId × TI) → TypeId → Option TI
  | [], _ => none
  | (a, b) :: l, t => match Nat.beq a t with | true => some b | false => tyGet l t
theorem TOk.of_get {P : Program} (l : List (TypeId × TI)) (h : (l.all fun x => x.2.chk P x.1) = true) : TOk P (tyGet l) := by
  induction l with
  | nil => intro t i hi; cases hi
  | cons x l ih =>
    intro t i hi
    unfold tyGet at hi
    simp only [List.all_cons, Bool.and_eq_true] at h
    split at hi
    · rename_i hb
      have := Nat.eq_of_beq_eq_true hb
      subst this
      cases hi
      exact TIok.of_chk h.1
    · exact ih h.2 t i hi

section
variable {P : Program} {T : Tys}
theorem TIok.size {t : TypeId} {i : TI} (h : TIok P t i) (w : World) : (sizeOf t).run P w = .ok i.size w := by
  obtain ⟨j, z, h1, h2, -⟩ := h.info
  simp [sizeOf, typeInfo, h1, h2]
theorem TIok.zeroV {t : TypeId} {i : TI} (h : TIok P t i) : ∃ z, zr i.zero z = true ∧ ∀ w, (zeroValue t).run P w = .ok z w := by
  obtain ⟨j, z, h1, h2, -, h3, h4, -⟩ := h.info
  exact ⟨z, h4, fun w => by simp [zeroValue, typeInfo, h1, h3]⟩
theorem TIok.isAgg {t : TypeId} {i : TI} (h : TIok P t i) (w : World) : (isAgg t).run P w = .ok i.agg w := by
  obtain ⟨d, h1, h2, -⟩ := h.und
  unfold Go.isAgg
  rw [Sem.run_bind, run_underlying h1 w]
  cases d <;> simp_all [aggD]
end

def AV.cells : AV → Option (List AV)
  | .agg cs => some cs
  | .any | .tup _ => none
  | .lit v => if v.oneCell' then some [.lit v] else none
  | a => some [a]
def AV.one : AV → Bool
  | .any | .agg _ | .tup _ => false
  | .lit v => v.oneCell'
  | _ => true
def mkv (agg : Bool) (cs : List AV) : AV := match agg with | true => .agg cs | false => cs.headD .any
/-- A value of a constant. -/
def ofC : Value → AV
  | .int k n => .int k n
  | .bool b => .bool b
  | .string s => .str s
  | .slice none 0 0 => .nils
  | v => .lit v
def ofV : Value → AV
  | .agg vs => .agg (vs.toList.map ofC)
  | v => ofC v
theorem Rd.ofC {σ : Store} {w : World} (v : Value) : Rd σ w (ofC v) v := by
  unfold Go.Proofs.YtdpfcpkedaolfaaDoor.ofC
  split <;> constructor
theorem Rd.ofV {σ : Store} {w : World} (v : Value) : Rd σ w (ofV v) v := by
  unfold Go.Proofs.YtdpfcpkedaolfaaDoor.ofV
  split
  · rename_i vs
    refine .agg _ _ (by simp) fun i hi => ?_
    simp at hi
    have : (vs.toList.map Go.Proofs.YtdpfcpkedaolfaaDoor.ofC).getD i .any = Go.Proofs.YtdpfcpkedaolfaaDoor.ofC (vs.getD i undef) := by simp [List.getD_eq_getElem?_getD, hi]
    rw [this]
    exact Rd.ofC _
  · exact Rd.ofC v
theorem Rd.cells {σ : Store} {w : World} {a : AV} {v : Value} (h : Rd σ w a v) {cs : List AV} (hc : a.cells = some cs) :
    v.cells.size = cs.length ∧ ∀ i, i < cs.length → Rd σ w (cs.getD i .any) (v.cells.getD i undef) := by
  have one : ∀ {a : AV} {v : Value}, Rd σ w a v → v.cells = #[v] → cs = [a] → v.cells.size = cs.length ∧ ∀ i, i < cs.length → Rd σ w (cs.getD i .any) (v.cells.getD i undef) := by
    intro a v h h1 h2
    subst h2
    rw [h1]
    refine ⟨rfl, fun i hi => ?_⟩
    have : i = 0 := by simp at hi; omega
    subst this
    exact h
  cases h with
  | any v => simp [AV.cells] at hc
  | tup xs vs h1 h2 => simp [AV.cells] at hc
  | agg xs vs h1 h2 => simp [AV.cells] at hc; subst hc; exact ⟨h1.symm, h2⟩
  | lit v =>
    simp only [AV.cells] at hc
    split at hc
    · rename_i h1
      simp at hc
      refine one (.lit v) ?_ hc.symm
      cases v <;> first | rfl | (simp [Value.oneCell'] at h1)
    · cases hc
  | int k n => simp [AV.cells] at hc; exact one (.int k n) rfl hc.symm
  | bool b => simp [AV.cells] at hc; exact one (.bool b) rfl hc.symm
  | str s => simp [AV.cells] at hc; exact one (.str s) rfl hc.symm
  | slnil => simp [AV.cells] at hc; exact one .slnil rfl hc.symm
  | sl n xs b off cap f hb hn hm hf hr => simp [AV.cells] at hc; exact one (.sl n xs b off cap f hb hn hm hf hr) rfl hc.symm
  | vw p off n sz cap cur t hp hn hm hs => simp [AV.cells] at hc; exact one (.vw p off n sz cap cur t hp hn hm hs) rfl hc.symm
  | vwnil k sz => simp [AV.cells] at hc; exact one (.vwnil k sz) rfl hc.symm
  | nils => simp [AV.cells] at hc; exact one .nils rfl hc.symm
  | ap p off n sz cap hn hm => simp [AV.cells] at hc; exact one (.ap p off n sz cap hn hm) rfl hc.symm
  | ptr p off => simp [AV.cells] at hc; exact one (.ptr p off) rfl hc.symm
  | ip xs b off f hb hf hr => simp [AV.cells] at hc; exact one (.ip xs b off f hb hf hr) rfl hc.symm
  | clo fn fs xs vs us h1 h2 h3 h4 => simp [AV.cells] at hc; exact one (.clo fn fs xs vs us h1 h2 h3 h4) rfl hc.symm
theorem Rd.one {σ : Store} {w : World} {a : AV} {v : Value} (h : Rd σ w a v) (h1 : a.one = true) : v.oneCell' = true := by
  cases h <;> first | rfl | (simp [AV.one] at h1; done) | exact h1
theorem getD_drop {α : Type} (l : List α) (k i : Nat) (d : α) : (l.drop k).getD i d = l.getD (k + i) d := by simp [List.getD_eq_getElem?_getD]
theorem getD_take {α : Type} (l : List α) (k i : Nat) (d : α) (h : i < k) : (l.take k).getD i d = l.getD i d := by simp [List.getD_eq_getElem?_getD, h]
theorem addr_plus (b off j : Nat) : (⟨b, off, none⟩ : Addr).add j = ⟨b, off + j, none⟩ := by unfold Addr.add; split <;> simp_all

section
variable {P : Program} {T : Tys} {σ : Store} {w : World}
/-- Cells that can be read. -/
structure Cells (σ : Store) (w : World) (b off : Nat) (cs : List AV) : Prop where
  at_ : ∀ i, i < cs.length → ∃ v, w.cell? ⟨b, off + i, none⟩ = some v ∧ Rd σ w (cs.getD i .any) v
theorem Cells.sub {b off : Nat} {cs : List AV} (h : Cells σ w b off cs) (k n : Nat) : Cells σ w b (off + k) ((cs.drop k).take n) := ⟨fun i hi => by
  simp at hi
  obtain ⟨v, h1, h2⟩ := h.at_ (k + i) (by omega)
  exact ⟨v, by rw [Nat.add_assoc]; exact h1, by rw [getD_take _ _ _ _ (by omega), getD_drop]; exact h2⟩⟩
theorem Mem.cells (h : Mem σ w) {p : Nat} {c : Pl} (hp : σ (.b p) = some c) : Cells σ w p 0 c.cs := ⟨fun i hi => by
  obtain ⟨v, h1, h2⟩ := h.cell hp hi
  exact ⟨v, by rw [Nat.zero_add]; exact h1, h2⟩⟩
theorem Cells.fn {b off : Nat} {cs : List AV} (h : Cells σ w b off cs) : ∃ f : Nat → Value, ∀ i, i < cs.length → w.cell? ⟨b, off + i, none⟩ = some (f i) ∧ Rd σ w (cs.getD i .any) (f i) :=
  ⟨fun i => (w.cell? ⟨b, off + i, none⟩).getD undef, fun i hi => by
    obtain ⟨v, h1, h2⟩ := h.at_ i hi
    simp only [h1]
    exact ⟨rfl, h2⟩⟩
theorem Cells.load {t : TypeId} {i : TI} (ht : TIok P t i) {b off : Nat} {cs : List AV} (h : Cells σ w b off cs) (hn : cs.length = i.size) (h0 : i.agg = false → 0 < cs.length) :
    ∃ v, (loadVar t ⟨b, off, none⟩).run P w = .ok v w ∧ Rd σ w (mkv i.agg cs) v := by
  obtain ⟨f, hf⟩ := h.fn
  cases ha : i.agg with
  | true =>
    have hl := run_loadCells (P := P) w ⟨b, off, none⟩ cs.length f (fun j hj => by rw [addr_plus]; exact (hf j hj).1)
    refine ⟨.agg ((List.range cs.length).map f).toArray, ?_, .agg _ _ (by simp) fun j hj => ?_⟩
    · unfold loadVar
      rw [Sem.run_bind, ht.isAgg w, ha]
      simp only [Result.andThen_ok, if_true]
      rw [Sem.run_bind, ht.size w]
      simp only [Result.andThen_ok]
      rw [← hn, Sem.run_bind, hl]
      rfl
    · have : ((List.range cs.length).map f).toArray.getD j undef = f j := by simp [hj]
      rw [this]
      exact (hf j hj).2
  | false =>
    have h1 := hf 0 (h0 ha)
    refine ⟨f 0, ?_, ?_⟩
    · unfold loadVar
      rw [Sem.run_bind, ht.isAgg w, ha]
      simp only [Result.andThen_ok, Bool.false_eq_true, if_false]
      have h2 := h1.1
      rw [Nat.add_zero] at h2
      simp [h2]
    · cases cs with
      | nil => simp at h0; exact absurd ha (by simp [h0])
      | cons x xs => exact h1.2

/-- What an operation that gives a value has done. -/
def DoneV (P : Program) (s : Sem Value) (σ : Store) (w : World) (K : AV → Store → Prop) : Prop :=
  ∃ v w' r σ', s.run P w = .ok v w' ∧ K r σ' ∧ Rd σ' w' r v ∧ Mem σ' w' ∧ Stp σ w σ' w'
theorem DoneV.same {s : Sem Value} {K : AV → Store → Prop} {v : Value} {r : AV} (hm : Mem σ w) (h : s.run P w = .ok v w) (hr : Rd σ w r v) (hk : K r σ) : DoneV P s σ w K :=
  ⟨v, w, r, σ, h, hk, hr, hm, Stp.refl σ w⟩

/-- Stops of the reckoning: a place has a row; a name is new. -/
structure AHas (σ : Store) (p : Nm) (F : Pl → Prop) : Prop where
  ex : ∃ c, σ p = some c ∧ F c
structure AFresh (σ : Store) (F : Nm → Prop) : Prop where
  go : ∀ p, σ p = none → F p
theorem AHas.intro {σ : Store} {p : Nm} {F : Pl → Prop} {c : Pl} (h : σ p = some c) (k : F c) : AHas σ p F := ⟨c, h, k⟩
/-- What is read out of cells: a stop, since the cells may be a list that is not laid out. -/
structure ACell (agg : Bool) (cs : List AV) (K : AV → Prop) : Prop where
  go : K (mkv agg cs)
theorem ACell.iff {agg : Bool} {cs : List AV} {K : AV → Prop} : ACell agg cs K ↔ K (mkv agg cs) := ⟨fun h => h.go, fun h => ⟨h⟩⟩
theorem ACell.elem {α : Type} {l : List α} {f : α → AV} {o : Nat} {K : AV → Prop} (d : α) (h : o < l.length) (k : K (f (l.getD o d))) : ACell false ((List.drop o (l.map f)).take 1) K := ⟨by
  have e : ((List.drop o (l.map f)).take 1) = [f (l.getD o d)] := by
    rw [List.drop_eq_getElem_cons (by simpa using h)]
    simp [List.getD_eq_getElem?_getD, h]
  rw [e]
  exact k⟩
/-- A list of cells: a stop. -/
structure AList (cs : List AV) (K : List AV → Prop) : Prop where
  go : K cs
theorem AList.iff {cs : List AV} {K : List AV → Prop} : AList cs K ↔ K cs := ⟨fun h => h.go, fun h => ⟨h⟩⟩
theorem AList.part {α : Type} {l : List α} {f : α → AV} {o n : Nat} {K : List AV → Prop} (k : K (((l.drop o).take n).map f)) : AList (((l.map f).drop o).take n) K := ⟨by
  rw [List.map_take, List.map_drop] at k; exact k⟩
/-- To load. -/
def ALd (T : Tys) (t : TypeId) (x : AV) (σ : Store) (K : AV → Prop) : Prop :=
  match T t, x with
  | some i, .ptr p off => AHas σ p fun c => off + i.size ≤ c.cs.length ∧ (i.agg = false → 0 < i.size) ∧ ACell i.agg ((c.cs.drop off).take i.size) K
  | some i, .ip cs => i.size ≤ cs.length ∧ (i.agg = false → 0 < i.size) ∧ ACell i.agg (cs.take i.size) K
  | _, _ => False
theorem ALd.load {t : TypeId} {x : AV} {v : Value} {K : AV → Prop} (hT : TOk P T) (hm : Mem σ w) (hr : Rd σ w x v) (h : ALd T t x σ K) : ∃ a u r, v = .pointer (some a) ∧ (loadVar t a).run P w = .ok u w ∧ Rd σ w r u ∧ K r := by
  unfold ALd at h
  cases ht : T t with
  | none => rw [ht] at h; cases x <;> simp at h
  | some i =>
    rw [ht] at h
    have hti := hT t i ht
    cases hr <;> first | (simp at h; done) | skip
    case ptr p off =>
      obtain ⟨⟨c, h1, h2, h3, h4⟩⟩ := h
      have hc := (hm.cells h1).sub off i.size
      rw [Nat.zero_add] at hc
      obtain ⟨v, h5, h6⟩ := hc.load hti (by simp; omega) (fun ha => by have := h3 ha; simp; omega)
      exact ⟨_, v, _, rfl, h5, h6, h4.go⟩
    case ip cs b off f hb hf hc =>
      obtain ⟨h2, h3, h4⟩ := h
      have hcs : Cells σ w b off cs := ⟨fun j hj => ⟨_, hf j hj, hc j hj⟩⟩
      have hcs := hcs.sub 0 i.size
      rw [Nat.add_zero, List.drop_zero] at hcs
      obtain ⟨v, h5, h6⟩ := hcs.load hti (by simp; omega) (fun ha => by have := h3 ha; simp; omega)
      exact ⟨_, v, _, rfl, h5, h6, h4.go⟩
theorem ALd.sound {t : TypeId} {x : AV} {v : Value} {K : AV → Store → Prop} (hT : TOk P T) (hm : Mem σ w) (hr : Rd σ w x v) (h : ALd T t x σ fun r => K r σ) : DoneV P (Instr.loadAt t v) σ w K := by
  obtain ⟨a, u, r, rfl, h1, h2, h3⟩ := ALd.load hT hm hr h
  exact DoneV.same hm (by simp [Instr.loadAt, Instr.sureAddr, h1]) h2 h3

/-- To store. -/
def splice (l : List AV) (off : Nat) (cs : List AV) : List AV := l.take off ++ cs ++ l.drop (off + cs.length)
def ASt (T : Tys) (t : TypeId) (a x : AV) (σ : Store) (K : Store → Prop) : Prop :=
  match T t, a, x.cells with
  | some i, .ptr p off, some cs => AHas σ p fun c => cs.length = i.size ∧ off + cs.length ≤ c.cs.length ∧ (cs.all AV.one) = true ∧ AList (splice c.cs off cs) fun cs' => K (upd σ p ⟨c.ty, cs'⟩)
  | _, _, _ => False
theorem ASt.sound {t : TypeId} {a x : AV} {va vx : Value} {K : Store → Prop} (hT : TOk P T) (hm : Mem σ w) (ha : Rd σ w a va) (hx : Rd σ w x vx) (h : ASt T t a x σ K) :
    ∃ w' σ', (Instr.storeAt t va vx).run P w = .ok () w' ∧ K σ' ∧ Mem σ' w' ∧ Stp σ w σ' w' := by
  unfold ASt at h
  cases ht : T t with
  | none => rw [ht] at h; simp at h
  | some i =>
    rw [ht] at h
    have hti := hT t i ht
    cases hcx : x.cells with
    | none => rw [hcx] at h; simp at h
    | some cs =>
      rw [hcx] at h
      obtain ⟨g1, g2⟩ := hx.cells hcx
      cases ha <;> first | (simp at h; done) | skip
      case ptr p off =>
        obtain ⟨⟨c, h1, h2, h3, h4, ⟨h5⟩⟩⟩ := h
        obtain ⟨cur, k1, k2, k3⟩ := hm.pl p c h1
        have hone : ∀ v ∈ vx.cells.toList, v.oneCell' = true := by
          intro v hv
          obtain ⟨j, hj, rfl⟩ := List.getElem_of_mem hv
          simp at hj
          have := g2 j (by omega)
          have h6 := this.one (by
            rw [List.getD_eq_getElem?_getD, List.getElem?_eq_getElem (by omega : j < cs.length), Option.getD_some]
            exact List.all_eq_true.1 h4 _ (List.getElem_mem _))
          simpa [hj] using h6
        have hs := run_storeCells_at (P := P) p off c.ty vx.cells.toList 0 cur w k1 (by simp; omega) hone
        have hlen : vx.cells.toList.length = cs.length := by simp [g1]
        have hps := place_set hm h1 k1 (cur.toList.take (off + 0) ++ vx.cells.toList ++ cur.toList.drop (off + 0 + vx.cells.toList.length)).toArray
          (by simp; omega) (splice c.cs off cs) (by simp [splice]; omega) (fun j hj => by
            simp [splice] at hj
            simp only [splice, Nat.add_zero, hlen]
            rcases Nat.lt_or_ge j off with hlo | hlo
            · have e1 : (c.cs.take off ++ cs ++ c.cs.drop (off + cs.length)).getD j .any = c.cs.getD j .any := by
                simp only [List.getD_eq_getElem?_getD, List.append_assoc]
                rw [List.getElem?_append_left (by simp; omega)]
                simp [hlo]
              have e2 : (cur.toList.take off ++ vx.cells.toList ++ cur.toList.drop (off + cs.length)).toArray.getD j undef = cur.getD j undef := by
                simp only [Array.getD_eq_getD_getElem?, List.getElem?_toArray, List.append_assoc]
                rw [List.getElem?_append_left (by simp; omega)]
                simp [hlo]
              rw [e1, e2]
              exact k3 j (by omega)
            · rcases Nat.lt_or_ge j (off + cs.length) with hmid | hmid
              · have e1 : (c.cs.take off ++ cs ++ c.cs.drop (off + cs.length)).getD j .any = cs.getD (j - off) .any := by
                  simp only [List.getD_eq_getElem?_getD, List.append_assoc]
                  rw [List.getElem?_append_right (by simp; omega), List.getElem?_append_left (by simp; omega)]
                  congr 2; simp; omega
                have e2 : (cur.toList.take off ++ vx.cells.toList ++ cur.toList.drop (off + cs.length)).toArray.getD j undef = vx.cells.getD (j - off) undef := by
                  simp only [Array.getD_eq_getD_getElem?, List.getElem?_toArray, List.append_assoc]
                  rw [List.getElem?_append_right (by simp; omega), List.getElem?_append_left (by simp; omega)]
                  simp
                  congr 2; omega
                rw [e1, e2]
                exact g2 (j - off) (by omega)
              · have e1 : (c.cs.take off ++ cs ++ c.cs.drop (off + cs.length)).getD j .any = c.cs.getD j .any := by
                  simp only [List.getD_eq_getElem?_getD, List.append_assoc]
                  rw [List.getElem?_append_right (by simp; omega), List.getElem?_append_right (by simp; omega)]
                  simp
                  congr 2; omega
                have e2 : (cur.toList.take off ++ vx.cells.toList ++ cur.toList.drop (off + cs.length)).toArray.getD j undef = cur.getD j undef := by
                  simp only [Array.getD_eq_getD_getElem?, List.getElem?_toArray, List.append_assoc]
                  rw [List.getElem?_append_right (by simp; omega), List.getElem?_append_right (by simp; omega)]
                  simp
                  congr 2; omega
                rw [e1, e2]
                exact k3 j (by omega))
        refine ⟨_, _, ?_, h5, hps.1, hps.2⟩
        unfold Instr.storeAt storeVar
        simp only [Instr.sureAddr, Sem.run_bind, Sem.run_pure, Result.andThen_ok, hti.size w, g1, h2]
        simpa using hs
end
end Go.Proofs.YtdpfcpkedaolfaaDoor
