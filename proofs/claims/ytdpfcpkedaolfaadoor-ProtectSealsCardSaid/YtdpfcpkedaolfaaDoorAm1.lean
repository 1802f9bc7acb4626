/-
  The abstract machine, first part: abstract values, how they read in memory, and that what is read stays as it was.
-/
import Derived.WalkKit
import Derived.Laws.AppendOwn
import Derived.Laws.OwnMore
namespace Go.Proofs.YtdpfcpkedaolfaaDoor
open Go.RowKit

/-- Names of places: a block, or the empty row that no block bears. -/
inductive Nm where
  | b (n : Nat)
  | v (n : Nat)
  deriving DecidableEq
/-- Abstract values: data without addresses; 'sl' is a slice that nobody writes (its number of elements, its cells), 'vw' a slice in a place, 'ptr' a pointer into a place, 'ip' a pointer to cells that nobody writes. -/
inductive AV where
  | any
  | int (k : IntKind) (n : Int)
  | bool (b : Bool)
  | str (s : ByteArray)
  | agg (cs : List AV)
  | tup (vs : List AV)
  | sl (n : Nat) (cs : List AV)
  | nils
  | vw (p : Nm) (off n sz : Nat)
  | ptr (p : Nm) (off : Nat)
  | ip (cs : List AV)
  | ap (p : Nm) (off n sz : Nat)
  | clo (fn : Fn) (first captured : List AV)
  | lit (v : Value)
instance : Inhabited AV := ⟨.any⟩

/-- A place: the type of its elements, and its cells. -/
structure Pl where
  ty : TypeId
  cs : List AV
abbrev Store := Nm → Option Pl
abbrev Env := Nat → AV
def upd (σ : Store) (p : Nm) (c : Pl) : Store := fun x => if x = p then some c else σ x
def era (σ : Store) (p : Nm) : Store := fun x => if x = p then none else σ x
theorem upd_same (σ : Store) (p : Nm) (c : Pl) : upd σ p c p = some c := if_pos rfl
theorem upd_ne (σ : Store) {p q : Nm} (c : Pl) (h : q ≠ p) : upd σ p c q = σ q := if_neg h
theorem era_same (σ : Store) (p : Nm) : era σ p p = none := if_pos rfl
theorem era_ne (σ : Store) {p q : Nm} (h : q ≠ p) : era σ p q = σ q := if_neg h
theorem upd_upd (σ : Store) (p : Nm) (c d : Pl) : upd (upd σ p c) p d = upd σ p d := by
  funext x; unfold upd; split <;> rfl
theorem upd_era (σ : Store) (p : Nm) (d : Pl) : upd (era σ p) p d = upd σ p d := by
  funext x; unfold upd era; split <;> rfl
theorem upd_comm (σ : Store) {p q : Nm} (c d : Pl) (h : p ≠ q) : upd (upd σ p c) q d = upd (upd σ q d) p c := by
  funext x
  simp only [upd]
  by_cases h1 : x = q
  · subst h1; simp [Ne.symm h]
  · simp [h1]
theorem era_upd_comm (σ : Store) {p q : Nm} (c : Pl) (h : p ≠ q) : era (upd σ p c) q = upd (era σ q) p c := by
  funext x
  simp only [upd, era]
  by_cases h1 : x = q
  · subst h1; simp [Ne.symm h]
  · simp [h1]
theorem era_upd_same (σ : Store) (p : Nm) (c : Pl) (h : σ p = none) : era (upd σ p c) p = σ := by
  funext x
  simp only [upd, era]
  by_cases h1 : x = p
  · subst h1; simp [h]
  · simp [h1]

/-- The value v reads in w, whose places are those of the store, as the abstract value. -/
inductive Rd (σ : Store) (w : World) : AV → Value → Prop where
  | any (v : Value) : Rd σ w .any v
  | int (k : IntKind) (n : Int) : Rd σ w (.int k n) (.int k n)
  | bool (b : Bool) : Rd σ w (.bool b) (.bool b)
  | str (s : ByteArray) : Rd σ w (.str s) (.string s)
  | agg (cs : List AV) (vs : Array Value) (h : cs.length = vs.size) (hc : ∀ i, i < cs.length → Rd σ w (cs.getD i .any) (vs.getD i undef)) : Rd σ w (.agg cs) (.agg vs)
  | tup (cs : List AV) (vs : Array Value) (h : cs.length = vs.size) (hc : ∀ i, i < cs.length → Rd σ w (cs.getD i .any) (vs.getD i undef)) : Rd σ w (.tup cs) (.tuple vs)
  | slnil : Rd σ w (.sl 0 []) (.slice none 0 0)
  | sl (n : Nat) (cs : List AV) (b off cap : Nat) (f : Nat → Value) (hb : 0 < cs.length → σ (.b b) = none) (hn : n ≤ cap) (hm : cap ≤ maxLen)
      (hf : ∀ i, i < cs.length → w.cell? ⟨b, off + i, none⟩ = some (f i)) (hc : ∀ i, i < cs.length → Rd σ w (cs.getD i .any) (f i)) :
      Rd σ w (.sl n cs) (.slice (some ⟨b, off, none⟩) n cap)
  | vw (p off n sz cap : Nat) (cur : Array Value) (t : TypeId) (hp : w.heap[p]? = some (.cells cur t (0, 0))) (hn : n ≤ cap) (hm : cap ≤ maxLen) (hs : off + cap * sz ≤ cur.size) :
      Rd σ w (.vw (.b p) off n sz) (.slice (some ⟨p, off, none⟩) n cap)
  | vwnil (k sz : Nat) : Rd σ w (.vw (.v k) 0 0 sz) (.slice none 0 0)
  | nils : Rd σ w .nils (.slice none 0 0)
  | ap (p off n sz cap : Nat) (hn : n ≤ cap) (hm : cap ≤ maxLen) : Rd σ w (.ap (.b p) off n sz) (.slice (some ⟨p, off, none⟩) n cap)
  | ptr (p off : Nat) : Rd σ w (.ptr (.b p) off) (.pointer (some ⟨p, off, none⟩))
  | ip (cs : List AV) (b off : Nat) (f : Nat → Value) (hb : 0 < cs.length → σ (.b b) = none)
      (hf : ∀ i, i < cs.length → w.cell? ⟨b, off + i, none⟩ = some (f i)) (hc : ∀ i, i < cs.length → Rd σ w (cs.getD i .any) (f i)) :
      Rd σ w (.ip cs) (.pointer (some ⟨b, off, none⟩))
  | clo (fn : Fn) (fs cs : List AV) (vs us : Array Value) (hf : fs.length = vs.size) (hc : cs.length = us.size)
      (h1 : ∀ i, i < fs.length → Rd σ w (fs.getD i .any) (vs.getD i undef)) (h2 : ∀ i, i < cs.length → Rd σ w (cs.getD i .any) (us.getD i undef)) :
      Rd σ w (.clo fn fs cs) (.func fn vs us)
  | lit (v : Value) : Rd σ w (.lit v) v

/-- From one world and store to another: memory that is no place is as it was, and becomes none. -/
structure Stp (σ : Store) (w : World) (σ' : Store) (w' : World) : Prop where
  os : w'.os = w.os
  tape : w'.tape = w.tape
  output : w'.output = w.output
  size : w.heap.size ≤ w'.heap.size
  old : ∀ b, b < w.heap.size → σ (.b b) = none → σ' (.b b) = none ∧ w'.heap[b]? = w.heap[b]?
  row : ∀ (b : Nat) (cur : Array Value) (t : TypeId), w.heap[b]? = some (.cells cur t (0, 0)) → ∃ cur' : Array Value, w'.heap[b]? = some (.cells cur' t (0, 0)) ∧ cur'.size = cur.size

theorem Stp.refl (σ : Store) (w : World) : Stp σ w σ w := ⟨rfl, rfl, rfl, Nat.le_refl _, fun _ _ h => ⟨h, rfl⟩, fun _ cur _ h => ⟨cur, h, rfl⟩⟩
theorem Stp.trans {σ σ' σ'' : Store} {w w' w'' : World} (h : Stp σ w σ' w') (k : Stp σ' w' σ'' w'') : Stp σ w σ'' w'' :=
  ⟨k.os.trans h.os, k.tape.trans h.tape, k.output.trans h.output, Nat.le_trans h.size k.size,
    fun b hb hn => by
      obtain ⟨h1, h2⟩ := h.old b hb hn
      obtain ⟨h3, h4⟩ := k.old b (Nat.lt_of_lt_of_le hb h.size) h1
      exact ⟨h3, h4.trans h2⟩,
    fun b cur t hb => by
      obtain ⟨c1, h1, h2⟩ := h.row b cur t hb
      obtain ⟨c2, h3, h4⟩ := k.row b c1 t h1
      exact ⟨c2, h3, h4.trans h2⟩⟩
theorem Stp.drew {σ σ' : Store} {w w' : World} (h : Stp σ w σ' w') : Stp σ w σ' w'.drew := ⟨h.os, h.tape, h.output, h.size, h.old, h.row⟩
/-- To forget a place. -/
theorem Stp.forget (σ σ' : Store) (w : World) (h : ∀ b, σ (.b b) = none → σ' (.b b) = none) : Stp σ w σ' w :=
  ⟨rfl, rfl, rfl, Nat.le_refl _, fun b _ hn => ⟨h b hn, rfl⟩, fun _ cur _ h => ⟨cur, h, rfl⟩⟩
theorem Stp.below {w w' : World} {σ : Store} (h : Stp (fun _ => none) w σ w') : Below w.heap.size w w' :=
  ⟨h.os, h.tape, h.output, h.size, fun k hk => (h.old k hk rfl).2⟩

theorem cell_eq {w w' : World} {b o : Nat} (h : w'.heap[b]? = w.heap[b]?) : w'.cell? ⟨b, o, none⟩ = w.cell? ⟨b, o, none⟩ := by simp [World.cell?, h]
theorem cell_lt {w : World} {b o : Nat} {v : Value} (h : w.cell? ⟨b, o, none⟩ = some v) : b < w.heap.size := World.block_lt_of_cell? w _ h

theorem Rd.mono {σ σ' : Store} {w w' : World} (hs : Stp σ w σ' w') {a : AV} {v : Value} (h : Rd σ w a v) : Rd σ' w' a v := by
  induction h with
  | any v => exact .any v
  | int k n => exact .int k n
  | bool b => exact .bool b
  | str s => exact .str s
  | agg cs vs h _ ih => exact .agg cs vs h ih
  | tup cs vs h _ ih => exact .tup cs vs h ih
  | slnil => exact .slnil
  | sl n cs b off cap f hb hn hm hf _ ih =>
    refine .sl n cs b off cap f (fun h0 => ?_) hn hm (fun i hi => ?_) ih
    · exact (hs.old b (cell_lt (hf 0 h0)) (hb h0)).1
    · rw [cell_eq (hs.old b (cell_lt (hf i hi)) (hb (by omega))).2]; exact hf i hi
  | vw p off n sz cap cur t hp hn hm hz =>
    obtain ⟨c', h1, h2⟩ := hs.row p cur t hp
    exact .vw p off n sz cap c' t h1 hn hm (h2 ▸ hz)
  | vwnil k sz => exact .vwnil k sz
  | nils => exact .nils
  | ap p off n sz cap hn hm => exact .ap p off n sz cap hn hm
  | ptr p off => exact .ptr p off
  | ip cs b off f hb hf _ ih =>
    refine .ip cs b off f (fun h0 => ?_) (fun i hi => ?_) ih
    · exact (hs.old b (cell_lt (hf 0 h0)) (hb h0)).1
    · rw [cell_eq (hs.old b (cell_lt (hf i hi)) (hb (by omega))).2]; exact hf i hi
  | clo fn fs cs vs us hf hc _ _ i1 i2 => exact .clo fn fs cs vs us hf hc i1 i2
  | lit v => exact .lit v

/-- The places of the store lie in the world. -/
structure Mem (σ : Store) (w : World) : Prop where
  pl : ∀ (p : Nat) (c : Pl), σ (.b p) = some c → ∃ cur : Array Value, w.heap[p]? = some (.cells cur c.ty (0, 0)) ∧ c.cs.length ≤ cur.size ∧ ∀ i, i < c.cs.length → Rd σ w (c.cs.getD i .any) (cur.getD i undef)
  vl : ∀ (k : Nat) (c : Pl), σ (.v k) = some c → c.cs = []
  fin : ∃ B, ∀ k, B ≤ k → σ (.v k) = none
theorem Mem.lt {σ : Store} {w : World} (h : Mem σ w) {p : Nat} {c : Pl} (hp : σ (.b p) = some c) : p < w.heap.size := by
  obtain ⟨cur, h1, -⟩ := h.pl p c hp
  exact (Array.getElem?_eq_some_iff.1 h1).1
theorem Mem.fresh {σ : Store} {w : World} (h : Mem σ w) {p : Nat} (hp : w.heap.size ≤ p) : σ (.b p) = none := by
  cases hc : σ (.b p) with
  | none => rfl
  | some c => have := h.lt hc; omega
theorem Mem.cell {σ : Store} {w : World} (h : Mem σ w) {p : Nat} {c : Pl} (hp : σ (.b p) = some c) {i : Nat} (hi : i < c.cs.length) : ∃ v, w.cell? ⟨p, i, none⟩ = some v ∧ Rd σ w (c.cs.getD i .any) v := by
  obtain ⟨cur, h1, h2, h3⟩ := h.pl p c hp
  refine ⟨cur.getD i undef, ?_, h3 i hi⟩
  have hlt : i < cur.size := Nat.lt_of_lt_of_le hi h2
  simp [World.cell?, h1, hlt]
/-- Some places are forgotten. -/
theorem Mem.forget {σ σ' : Store} {w : World} (h : Mem σ w) (hs : ∀ b c, σ' b = some c → σ b = some c) : Mem σ' w := by
  have hn : ∀ b, σ b = none → σ' b = none := fun b hb => by
    cases hc : σ' b with
    | none => rfl
    | some c => rw [hs b c hc] at hb; cases hb
  refine ⟨fun p c hp => ?_, fun k c hk => h.vl k c (hs _ c hk), ?_⟩
  · obtain ⟨cur, h1, h2, h3⟩ := h.pl p c (hs _ c hp)
    exact ⟨cur, h1, h2, fun i hi => (h3 i hi).mono (Stp.forget σ σ' w fun b hb => hn _ hb)⟩
  · obtain ⟨B, hB⟩ := h.fin
    exact ⟨B, fun k hk => hn _ (hB k hk)⟩
theorem Mem.drew {σ : Store} {w : World} (h : Mem σ w) : Mem σ w.drew := ⟨fun p c hp => by
  obtain ⟨cur, h1, h2, h3⟩ := h.pl p c hp
  exact ⟨cur, h1, h2, fun i hi => (h3 i hi).mono (Stp.refl σ w).drew⟩, h.vl, h.fin⟩
theorem fin_upd {σ : Store} (h : ∃ B, ∀ k, B ≤ k → σ (.v k) = none) (p : Nm) (c : Pl) : ∃ B, ∀ k, B ≤ k → upd σ p c (.v k) = none := by
  obtain ⟨B, hB⟩ := h
  cases p with
  | b n => exact ⟨B, fun k hk => by rw [upd_ne _ _ (by simp)]; exact hB k hk⟩
  | v n => exact ⟨B + n + 1, fun k hk => by rw [upd_ne _ _ (by simp; omega)]; exact hB k (by omega)⟩
theorem fin_era {σ : Store} (h : ∃ B, ∀ k, B ≤ k → σ (.v k) = none) (p : Nm) : ∃ B, ∀ k, B ≤ k → era σ p (.v k) = none := by
  obtain ⟨B, hB⟩ := h
  exact ⟨B, fun k hk => by unfold era; split <;> first | rfl | exact hB k hk⟩

/-- A new place. -/
theorem Stp.alloc (σ : Store) (w : World) (c : Pl) (cur : Array Value) : Stp σ w (upd σ (.b w.heap.size) c) (w.alloc (.cells cur c.ty)) := by
  refine ⟨rfl, rfl, rfl, by simp, fun b hb hn => ⟨?_, ?_⟩, fun b c2 t hb => ⟨c2, ?_, rfl⟩⟩
  · rw [upd_ne _ _ (by simp; omega)]; exact hn
  · exact heap_alloc_old w _ hb
  · rw [heap_alloc_old w _ (Array.getElem?_eq_some_iff.1 hb).1]; exact hb
theorem Mem.alloc {σ : Store} {w : World} (h : Mem σ w) (c : Pl) (cur : Array Value) (hl : c.cs.length ≤ cur.size) (hr : ∀ i, i < c.cs.length → Rd σ w (c.cs.getD i .any) (cur.getD i undef)) :
    Mem (upd σ (.b w.heap.size) c) (w.alloc (.cells cur c.ty)) := by
  have hst := Stp.alloc σ w c cur
  refine ⟨fun p c2 hp => ?_, fun k c2 hk => h.vl k c2 (by rw [upd_ne _ _ (by simp)] at hk; exact hk), fin_upd h.fin _ _⟩
  by_cases he : p = w.heap.size
  · subst he
    rw [upd_same] at hp
    cases hp
    exact ⟨cur, heap_alloc_new w _, hl, fun i hi => (hr i hi).mono hst⟩
  · rw [upd_ne _ _ (by simp; exact he)] at hp
    obtain ⟨cu, h1, h2, h3⟩ := h.pl p c2 hp
    exact ⟨cu, by rw [heap_alloc_old w _ (h.lt hp)]; exact h1, h2, fun i hi => (h3 i hi).mono hst⟩
/-- The cells of a place are written anew. -/
theorem place_set {σ : Store} {w : World} {p : Nat} {c : Pl} {cur : Array Value} (hm : Mem σ w) (hp : σ (.b p) = some c) (hh : w.heap[p]? = some (.cells cur c.ty (0, 0))) (cur' : Array Value) (hz : cur'.size = cur.size)
    (cs' : List AV) (hl : cs'.length ≤ cur'.size) (hr : ∀ i, i < cs'.length → Rd σ w (cs'.getD i .any) (cur'.getD i undef)) :
    Mem (upd σ (.b p) ⟨c.ty, cs'⟩) (w.setRow p cur') ∧ Stp σ w (upd σ (.b p) ⟨c.ty, cs'⟩) (w.setRow p cur') := by
  have hst : Stp σ w (upd σ (.b p) ⟨c.ty, cs'⟩) (w.setRow p cur') := by
    refine ⟨rfl, rfl, rfl, by simp, fun b hb hn => ?_, fun b c2 t hb => ?_⟩
    · have hne : b ≠ p := fun e => by subst e; rw [hp] at hn; cases hn
      exact ⟨by rw [upd_ne _ _ (by simp; exact hne)]; exact hn, setRow_other w p b cur' hne⟩
    · by_cases he : b = p
      · subst he
        rw [hh] at hb
        cases hb
        exact ⟨cur', setRow_heap w b cur cur' c.ty (0, 0) hh, hz⟩
      · exact ⟨c2, by rw [setRow_other w p b cur' he]; exact hb, rfl⟩
  refine ⟨⟨fun q c2 hq => ?_, fun k c2 hk => hm.vl k c2 (by rw [upd_ne _ _ (by simp)] at hk; exact hk), fin_upd hm.fin _ _⟩, hst⟩
  by_cases he : q = p
  · subst he
    rw [upd_same] at hq
    cases hq
    exact ⟨cur', setRow_heap w q cur cur' c.ty (0, 0) hh, hl, fun i hi => (hr i hi).mono hst⟩
  · rw [upd_ne _ _ (by simp; exact he)] at hq
    obtain ⟨cu, h1, h2, h3⟩ := hm.pl q c2 hq
    exact ⟨cu, by rw [setRow_other w p q cur' he]; exact h1, h2, fun i hi => (h3 i hi).mono hst⟩
attribute [irreducible] upd era
end Go.Proofs.YtdpfcpkedaolfaaDoor
