/-
  The abstract machine, fourth part: literals, slices, append, conversions.
-/
import Derived.Test.YtdpfcpkedaolfaaDoorAm3
namespace Go.Proofs.YtdpfcpkedaolfaaDoor
open Go.RowKit

theorem splice_len (l : List AV) (off : Nat) (cs : List AV) (h : off + cs.length ≤ l.length) : (splice l off cs).length = l.length := by
  simp [splice]; omega
theorem splice_getD (l : List AV) (off : Nat) (cs : List AV) (h : off + cs.length ≤ l.length) (j : Nat) :
    (splice l off cs).getD j .any = if off ≤ j ∧ j < off + cs.length then cs.getD (j - off) .any else l.getD j .any := by
  simp only [splice, List.getD_eq_getElem?_getD, List.append_assoc]
  rcases Nat.lt_or_ge j off with hlo | hlo
  · rw [if_neg (by omega), List.getElem?_append_left (by simp; omega)]
    simp [hlo]
  · rcases Nat.lt_or_ge j (off + cs.length) with hmid | hmid
    · rw [if_pos ⟨hlo, hmid⟩, List.getElem?_append_right (by simp; omega), List.getElem?_append_left (by simp; omega)]
      congr 2; simp; omega
    · rw [if_neg (by omega), List.getElem?_append_right (by simp; omega), List.getElem?_append_right (by simp; omega)]
      simp
      congr 2; omega

theorem fold_set : ∀ (vs : List Value) (k off : Nat) (cs : Array Value),
    ((vs.zipIdx k).foldl (fun cs (x : Value × Nat) => cs.setIfInBounds (off + x.2) x.1) cs).size = cs.size ∧
    ∀ j, off + k + vs.length ≤ cs.size → ((vs.zipIdx k).foldl (fun cs (x : Value × Nat) => cs.setIfInBounds (off + x.2) x.1) cs).getD j undef = if off + k ≤ j ∧ j < off + k + vs.length then vs.getD (j - (off + k)) undef else cs.getD j undef := by
  intro vs
  induction vs with
  | nil => intro k off cs; simp; intro j _ h1 h2; omega
  | cons v vs ih =>
    intro k off cs
    obtain ⟨i1, i2⟩ := ih (k + 1) off (cs.setIfInBounds (off + k) v)
    refine ⟨by simp only [List.zipIdx_cons, List.foldl_cons]; rw [i1]; simp, fun j hl => ?_⟩
    simp only [List.zipIdx_cons, List.foldl_cons]
    simp at hl
    rw [i2 j (by simp; omega)]
    by_cases h1 : j = off + k
    · subst h1
      rw [if_neg (by omega), if_pos (by simp)]
      simp only [Array.getD_eq_getD_getElem?, Array.getElem?_setIfInBounds]
      simp
      rw [if_pos (by omega)]
      rfl
    · by_cases h2 : off + (k + 1) ≤ j ∧ j < off + (k + 1) + vs.length
      · rw [if_pos h2, if_pos (by simp; omega)]
        rw [show j - (off + k) = (j - (off + (k + 1))) + 1 by omega]
        simp
      · rw [if_neg h2, if_neg (by simp; omega)]
        simp only [Array.getD_eq_getD_getElem?, Array.getElem?_setIfInBounds]
        rw [if_neg (by omega)]

def afill (place : Nat → Option (Nat × Nat)) (cs : List AV) : List (Nat × AV) → Option (List AV)
  | [] => some cs
  | (i, v) :: rest =>
    match place i, v.cells with
    | some (off, size), some vs => if vs.length = size ∧ off + size ≤ cs.length then afill place (splice cs off vs) rest else none
    | _, _ => none
section
variable {P : Program} {T : Tys} {σ : Store} {w : World}
def RdL (σ : Store) (w : World) (cs : List AV) (vs : Array Value) : Prop := cs.length = vs.size ∧ ∀ i, i < cs.length → Rd σ w (cs.getD i .any) (vs.getD i undef)
theorem afill_sound {place : Nat → Option (Nat × Nat)} : ∀ (ps : List (Nat × AV)) (qs : List (Nat × Value)) (cs : List AV) (vs : Array Value) (out : List AV),
    ps.map (·.1) = qs.map (·.1) → (∀ i, i < ps.length → Rd σ w (ps.getD i (0, .any)).2 (qs.getD i (0, undef)).2) → RdL σ w cs vs → afill place cs ps = some out →
    ∃ us, Instr.fill place vs qs = some us ∧ RdL σ w out us := by
  intro ps
  induction ps with
  | nil =>
    intro qs cs vs out h1 _ h3 h4
    cases qs with
    | nil => simp [afill] at h4; subst h4; exact ⟨vs, rfl, h3⟩
    | cons q qs => simp at h1
  | cons p ps ih =>
    intro qs cs vs out h1 h2 h3 h4
    cases qs with
    | nil => simp at h1
    | cons q qs =>
      obtain ⟨i, a⟩ := p
      obtain ⟨i', v⟩ := q
      simp at h1
      obtain ⟨rfl, h1⟩ := h1
      unfold afill at h4
      split at h4
      case h_2 => cases h4
      rename_i off size xs hp hc
      split at h4
      case isFalse => cases h4
      rename_i hlen
      have hr : Rd σ w a v := h2 0 (by simp)
      obtain ⟨g1, g2⟩ := hr.cells hc
      obtain ⟨f1, f2⟩ := fold_set v.cells.toList 0 off vs
      have hbound : off + 0 + v.cells.toList.length ≤ vs.size := by have := h3.1; simp [g1]; omega
      have hfa : v.cells.zipIdx.foldl (fun cs (x : Value × Nat) => cs.setIfInBounds (off + x.2) x.1) vs = (v.cells.toList.zipIdx 0).foldl (fun cs (x : Value × Nat) => cs.setIfInBounds (off + x.2) x.1) vs := by
        rw [← Array.foldl_toList, Array.toList_zipIdx]
      have hnew : RdL σ w (splice cs off xs) (v.cells.zipIdx.foldl (fun cs (x : Value × Nat) => cs.setIfInBounds (off + x.2) x.1) vs) := by
        rw [hfa]
        refine ⟨by rw [f1, splice_len _ _ _ (by omega)]; exact h3.1, fun j hj => ?_⟩
        rw [splice_len _ _ _ (by omega)] at hj
        rw [splice_getD _ _ _ (by omega), f2 j hbound]
        simp only [Nat.add_zero, Array.length_toList, g1]
        by_cases hin : off ≤ j ∧ j < off + xs.length
        · rw [if_pos hin, if_pos hin]
          have := g2 (j - off) (by omega)
          simpa [Array.getD_eq_getD_getElem?, List.getD_eq_getElem?_getD] using this
        · rw [if_neg hin, if_neg hin]
          exact h3.2 j hj
      obtain ⟨us, k1, k2⟩ := ih qs _ _ out h1 (fun j hj => h2 (j + 1) (by simp; omega)) hnew h4
      refine ⟨us, ?_, k2⟩
      unfold Instr.fill
      rw [hp]
      simp only []
      rw [if_neg]
      · exact k1
      · have := h3.1
        simp [g1, hlen.1]
        omega

/-- A struct or an array out of its parts. -/
def fplaces (T : Tys) (fs : List (Nat × TypeId)) : Option (List (Nat × Nat)) :=
  match fs with
  | [] => some []
  | (o, t) :: r => match T t, fplaces T r with
    | some j, some l => some ((o, j.size) :: l)
    | _, _ => none
def ABd (T : Tys) (t : TypeId) (ps : List (Nat × AV)) (K : AV → Prop) : Prop :=
  match T t with
  | some ⟨_, _, _, .struct fs, .agg z⟩ =>
    match fplaces T fs with
    | some l => (match afill (fun i => l[i]?) z ps with | some cs => K (.agg cs) | none => False)
    | none => False
  | some ⟨_, _, _, .array _ e, .agg z⟩ =>
    match T e with
    | some j => (match afill (fun i => some (i * j.size, j.size)) z ps with | some cs => K (.agg cs) | none => False)
    | none => False
  | _ => False
theorem fplaces_run (hT : TOk P T) : ∀ (gs : List Field) (fs : List (Nat × TypeId)) (l : List (Nat × Nat)), gs.map (fun f => (f.offset, f.type)) = fs → fplaces T fs = some l →
    ∀ w, (gs.mapM fun f => (do pure (f.offset, ← sizeOf f.type) : Sem (Nat × Nat))).run P w = .ok l w := by
  intro gs
  induction gs with
  | nil => intro fs l h1 h2 w; simp at h1; subst h1; simp [fplaces] at h2; subst h2; rfl
  | cons g gs ih =>
    intro fs l h1 h2 w
    cases fs with
    | nil => simp at h1
    | cons f fs =>
      obtain ⟨o, t⟩ := f
      simp at h1
      obtain ⟨⟨rfl, rfl⟩, h1⟩ := h1
      unfold fplaces at h2
      split at h2
      case h_2 => cases h2
      rename_i j r hj hr
      simp at h2
      subst h2
      simp only [List.mapM_cons, Sem.run_bind, Sem.run_pure, (hT _ j hj).size, Result.andThen_ok, ih fs r h1 hr]
theorem ABd.sound {t : TypeId} {ps : List (Nat × AV)} {qs : Array (Nat × Value)} {K : AV → Store → Prop} (hT : TOk P T) (hm : Mem σ w) (h1 : ps.map (·.1) = qs.toList.map (·.1)) (h2 : ∀ i, i < ps.length → Rd σ w (ps.getD i (0, .any)).2 (qs.toList.getD i (0, undef)).2)
    (h : ABd T t ps fun r => K r σ) : DoneV P (Instr.build t qs) σ w K := by
  unfold ABd at h
  split at h
  · rename_i sz by_ ag fs z ht
    split at h
    case h_2 => exact h.elim
    rename_i l hl
    split at h
    case h_2 => exact h.elim
    rename_i cs hcs
    obtain ⟨gs, k1, k2⟩ := struct_of (hT t _ ht) rfl
    obtain ⟨zv, k3, k4⟩ := (hT t _ ht).zeroV
    have hz : Rd σ w (.agg z) zv := Rd.zr k3
    cases hz with
    | agg z vs hl2 hc2 =>
      obtain ⟨us, k5, k6⟩ := afill_sound ps qs.toList z vs cs h1 h2 ⟨hl2, hc2⟩ hcs
      refine DoneV.same hm (v := .agg us) ?_ (.agg _ _ k6.1 k6.2) h
      unfold Instr.build
      have hfp : (gs.mapM fun f => (do pure (f.offset, ← sizeOf f.type) : Sem (Nat × Nat))).run P w = .ok l.toArray w := by
        rw [Array.mapM_eq_mapM_toList]
        have := fplaces_run hT gs.toList fs l k2 hl w
        simp only [map_eq_pure_bind, Sem.run_bind] at this ⊢
        rw [this]
        rfl
      simp only [Sem.run_bind, k4, Result.andThen_ok, run_underlying k1, hfp, Value.cells]
      have e : (fun (x : Nat) => l.toArray[x]?) = fun (i : Nat) => l[i]? := by funext i; simp
      rw [e, k5]
      rfl
  · rename_i sz by_ ag n e z ht
    split at h
    case h_2 => exact h.elim
    rename_i j hj
    split at h
    case h_2 => exact h.elim
    rename_i cs hcs
    have k1 := array_of (hT t _ ht) rfl
    obtain ⟨zv, k3, k4⟩ := (hT t _ ht).zeroV
    have hz : Rd σ w (.agg z) zv := Rd.zr k3
    cases hz with
    | agg z vs hl2 hc2 =>
      obtain ⟨us, k5, k6⟩ := afill_sound ps qs.toList z vs cs h1 h2 ⟨hl2, hc2⟩ hcs
      refine DoneV.same hm (v := .agg us) ?_ (.agg _ _ k6.1 k6.2) h
      unfold Instr.build
      simp only [Sem.run_bind, k4, Result.andThen_ok, run_underlying k1, (hT e j hj).size, Value.cells]
      rw [k5]
      rfl
  · exact h.elim
/-- A slice out of its parts. -/
def zcells (z : List AV) (n : Nat) : List AV := (List.range n).map fun i => z.getD (i % z.length) .any
def ABs (T : Tys) (t : TypeId) (len : Nat) (ps : List (Nat × AV)) (σ : Store) (K : AV → Store → Prop) : Prop :=
  match T t with
  | some ⟨_, _, _, .slice e, _⟩ =>
    match T e with
    | some j => 0 < j.size ∧ len * j.size ≤ 16777216 ∧ (match j.zero.cells with
      | some z => (match afill (fun i => some (i * j.size, j.size)) (zcells z (len * j.size)) ps with
        | some cs => AList cs fun cs => AFresh σ fun p => K (.vw p 0 len j.size) (upd σ p ⟨e, cs⟩)
        | none => False)
      | none => False)
    | none => False
  | _ => False
theorem zcells_rd {z : List AV} {v : Value} (hr : ∀ i, i < z.length → Rd σ w (z.getD i .any) (v.cells.getD i undef)) (hl : v.cells.size = z.length) (h0 : 0 < z.length) (n : Nat) :
    RdL σ w (zcells z n) ((Array.range n).map (v.cells[· % v.cells.size]!)) := by
  refine ⟨by simp [zcells], fun i hi => ?_⟩
  simp [zcells] at hi
  have e1 : (zcells z n).getD i .any = z.getD (i % z.length) .any := by simp [zcells, List.getD_eq_getElem?_getD, hi]
  have e2 : ((Array.range n).map (v.cells[· % v.cells.size]!)).getD i undef = v.cells.getD (i % z.length) undef := by
    have hlt : i % z.length < v.cells.size := by rw [hl]; exact Nat.mod_lt _ h0
    simp [hi, hl, Array.getElem!_eq_getD]
    rw [Array.getElem?_eq_getElem hlt]
    rfl
  rw [e1, e2]
  exact hr _ (Nat.mod_lt _ h0)
theorem ABs.sound {t : TypeId} {len : Nat} {ps : List (Nat × AV)} {qs : Array (Nat × Value)} {K : AV → Store → Prop} (hT : TOk P T) (hm : Mem σ w) (h1 : ps.map (·.1) = qs.toList.map (·.1)) (h2 : ∀ i, i < ps.length → Rd σ w (ps.getD i (0, .any)).2 (qs.toList.getD i (0, undef)).2)
    (hcap : len ≤ maxLen) (h : ABs T t len ps σ K) : DoneV P (Instr.buildSlice t len qs) σ w K := by
  unfold ABs at h
  split at h
  case h_2 => exact h.elim
  rename_i sz by_ ag e z0 ht
  split at h
  case h_2 => exact h.elim
  rename_i j hj
  obtain ⟨hs0, hs1, h⟩ := h
  split at h
  case h_2 => exact h.elim
  rename_i z hz
  split at h
  case h_2 => exact h.elim
  rename_i cs hcs
  replace h := h.go
  have k1 := slice_of (hT t _ ht) rfl
  obtain ⟨zv, k3, k4⟩ := (hT e j hj).zeroV
  have hzr : Rd σ w j.zero zv := Rd.zr k3
  obtain ⟨c1, c2⟩ := hzr.cells hz
  have hsz := (hT e j hj).size
  -- the initial cells
  have hinit : ∃ ini : Array Value, RdL σ w (zcells z (len * j.size)) ini ∧ ((len * j.size = 0 ∧ ini = #[]) ∨ (¬ len * j.size = 0 ∧ ini = (Array.range (len * j.size)).map (zv.cells[· % zv.cells.size]!))) := by
    by_cases h0 : len * j.size = 0
    · exact ⟨#[], ⟨by simp [zcells, h0], fun i hi => by simp [zcells, h0] at hi⟩, .inl ⟨h0, rfl⟩⟩
    · rcases Nat.eq_zero_or_pos z.length with hzl | hzl
      · refine ⟨_, ⟨by simp [zcells], fun i hi => ?_⟩, .inr ⟨h0, rfl⟩⟩
        simp [zcells] at hi
        have e1 : (zcells z (len * j.size)).getD i .any = .any := by
          have : z = [] := List.eq_nil_of_length_eq_zero hzl
          subst this
          simp [zcells, List.getD_eq_getElem?_getD, hi]
        rw [e1]
        exact .any _
      · exact ⟨_, zcells_rd c2 c1 hzl _, .inr ⟨h0, rfl⟩⟩
  obtain ⟨ini, i1, i2⟩ := hinit
  obtain ⟨us, k5, k6⟩ := afill_sound ps qs.toList _ ini cs h1 h2 i1 hcs
  have hlen : us.size = len * j.size := by
    have a1 : ∀ (ps : List (Nat × AV)) (cs out : List AV), afill (fun i => some (i * j.size, j.size)) cs ps = some out → out.length = cs.length := by
      intro ps
      induction ps with
      | nil => intro cs out h; simp [afill] at h; rw [h]
      | cons p ps ih =>
        intro cs out h
        obtain ⟨i, a⟩ := p
        unfold afill at h
        split at h
        case h_2 => cases h
        rename_i off size xs hp hc
        split at h
        case isFalse => cases h
        rename_i hl
        rw [ih _ _ h, splice_len _ _ _ (by omega)]
    have := a1 ps _ cs hcs
    rw [← k6.1, this]
    simp [zcells]
  refine ⟨.slice (some ⟨w.heap.size, 0, none⟩) len len, w.alloc (.cells us e), .vw (.b w.heap.size) 0 len j.size, upd σ (.b w.heap.size) ⟨e, cs⟩, ?_, h.go _ (hm.fresh (Nat.le_refl _)), ?_, hm.alloc ⟨e, cs⟩ us (Nat.le_of_eq k6.1) k6.2, Stp.alloc σ w ⟨e, cs⟩ us⟩
  · unfold Instr.buildSlice
    simp only [Sem.run_bind, run_underlying k1, Result.andThen_ok, hsz]
    rw [if_neg (by omega)]
    rcases i2 with ⟨h0, rfl⟩ | ⟨h0, rfl⟩
    · simp only [h0, if_true, Array.range_zero', Array.map_empty, k5]
      simp [newRow]
    · simp only [h0, if_false, Sem.run_bind, k4, Sem.run_pure, Result.andThen_ok, k5]
      simp [newRow]
  · exact .vw _ _ _ _ len us e (heap_alloc_new w _) (Nat.le_refl _) hcap (by omega)
end
end Go.Proofs.YtdpfcpkedaolfaaDoor
