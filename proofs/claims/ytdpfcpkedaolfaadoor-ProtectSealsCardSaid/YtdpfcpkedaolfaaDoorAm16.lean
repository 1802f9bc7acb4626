/-
  The abstract machine, sixteenth part: places as a list. The list holds the places that are the function's own; all others are a frame that no walk sees. No walk needs facts about names.
-/
import Derived.Test.YtdpfcpkedaolfaaDoorAm14
namespace Go.Proofs.YtdpfcpkedaolfaaDoor
open Go.RowKit

abbrev LS := List (Nm × Pl)
/-- Places of their own beside a frame: all names differ, and the frame has none of them. -/
structure Sep (φ : Store) (l : LS) : Prop where
  nd : (l.map (·.1)).Nodup
  fr : ∀ x ∈ l, φ x.1 = none
theorem putAll_none {φ : Store} {q : Nm} : ∀ {l : LS}, putAll φ l q = none → q ∉ l.map (·.1) ∧ φ q = none
  | [], h => ⟨by simp, h⟩
  | x :: l, h => by
    have h : upd (putAll φ l) x.1 x.2 q = none := h
    by_cases hq : q = x.1
    · subst hq; rw [upd_same] at h; cases h
    · rw [upd_ne _ _ hq] at h
      have := putAll_none h
      exact ⟨by simp [hq]; simpa using this.1, this.2⟩
theorem putAll_at {φ : Store} {p : Nm} : ∀ {l : LS}, p ∉ l.map (·.1) → putAll φ l p = φ p := fun {l} h => putAll_ne φ p l fun x hx e => h (List.mem_map.2 ⟨x, hx, e⟩)
theorem nd_mid {l1 l2 : LS} {p : Nm} {c : Pl} (h : ((l1 ++ (p, c) :: l2).map (·.1)).Nodup) : p ∉ l1.map (·.1) ∧ p ∉ l2.map (·.1) ∧ ((l1 ++ l2).map (·.1)).Nodup := by
  simp only [List.map_append, List.map_cons] at h ⊢
  rw [List.nodup_append] at h
  obtain ⟨h1, h2, h3⟩ := h
  rw [List.nodup_cons] at h2
  refine ⟨fun hp => h3 p hp p (by simp) rfl, h2.1, ?_⟩
  rw [List.nodup_append]
  exact ⟨h1, h2.2, fun a ha b hb => h3 a ha b (by simp [hb])⟩
theorem putAll_app (φ : Store) : ∀ (l1 l2 : LS), putAll φ (l1 ++ l2) = putAll (putAll φ l2) l1
  | [], _ => rfl
  | x :: l1, l2 => by
    show upd (putAll φ (l1 ++ l2)) x.1 x.2 = upd (putAll (putAll φ l2) l1) x.1 x.2
    rw [putAll_app φ l1 l2]
theorem Sep.get {φ : Store} {l1 l2 : LS} {p : Nm} {c : Pl} (h : Sep φ (l1 ++ (p, c) :: l2)) : putAll φ (l1 ++ (p, c) :: l2) p = some c := by
  rw [putAll_app, putAll_at (nd_mid h.nd).1]
  exact upd_same _ _ _
theorem Sep.set' {φ : Store} {l1 l2 : LS} {p : Nm} {c : Pl} (h : Sep φ (l1 ++ (p, c) :: l2)) (d : Pl) : upd (putAll φ (l1 ++ (p, c) :: l2)) p d = putAll φ (l1 ++ (p, d) :: l2) := by
  have hp := (nd_mid h.nd).1
  have hne : ∀ x ∈ l1, x.1 ≠ p := fun x hx e => hp (List.mem_map.2 ⟨x, hx, e⟩)
  rw [putAll_app, putAll_app, ← putAll_upd _ _ _ _ hne]
  show putAll (upd (upd (putAll φ l2) p c) p d) l1 = putAll (upd (putAll φ l2) p d) l1
  rw [upd_upd]
theorem Sep.era' {φ : Store} {l1 l2 : LS} {p : Nm} {c : Pl} (h : Sep φ (l1 ++ (p, c) :: l2)) : era (putAll φ (l1 ++ (p, c) :: l2)) p = putAll φ (l1 ++ l2) := by
  obtain ⟨h1, h2, -⟩ := nd_mid h.nd
  have hne : ∀ x ∈ l1, x.1 ≠ p := fun x hx e => h1 (List.mem_map.2 ⟨x, hx, e⟩)
  rw [putAll_app, putAll_app]
  have e1 : putAll (putAll φ ((p, c) :: l2)) l1 = upd (putAll (putAll φ l2) l1) p c := putAll_upd _ _ _ _ hne
  rw [e1]
  have hn : putAll (putAll φ l2) l1 p = none := by rw [putAll_at h1, putAll_at h2]; exact h.fr (p, c) (by simp)
  exact era_upd_same _ _ _ hn
theorem Sep.set {φ : Store} {l1 l2 : LS} {p : Nm} {c d : Pl} (h : Sep φ (l1 ++ (p, c) :: l2)) : Sep φ (l1 ++ (p, d) :: l2) := by
  refine ⟨by simpa using h.nd, fun x hx => ?_⟩
  rcases List.mem_append.1 hx with hx | hx
  · exact h.fr x (by simp [hx])
  · rcases List.mem_cons.1 hx with rfl | hx
    · exact h.fr (p, c) (by simp)
    · exact h.fr x (by simp [hx])
theorem Sep.rest {φ : Store} {l1 l2 : LS} {p : Nm} {c : Pl} (h : Sep φ (l1 ++ (p, c) :: l2)) : Sep φ (l1 ++ l2) := by
  refine ⟨(nd_mid h.nd).2.2, fun x hx => h.fr x ?_⟩
  rcases List.mem_append.1 hx with hx | hx
  · simp [hx]
  · simp [hx]
theorem Sep.new {φ : Store} {l : LS} {q : Nm} (h : Sep φ l) (hq : putAll φ l q = none) (c : Pl) : Sep φ ((q, c) :: l) := by
  obtain ⟨h1, h2⟩ := putAll_none hq
  refine ⟨by simp only [List.map_cons]; exact List.nodup_cons.2 ⟨h1, h.nd⟩, fun x hx => ?_⟩
  rcases List.mem_cons.1 hx with rfl | hx
  · exact h2
  · exact h.fr x hx
theorem Sep.old {φ : Store} {l : LS} (h : Sep φ l) {p : Nm} {c : Pl} (hp : φ p = some c) : putAll φ l p = some c := by
  rw [putAll_at fun hm => ?_]; exact hp
  obtain ⟨x, hx, rfl⟩ := List.mem_map.1 hm
  rw [h.fr x hx] at hp; cases hp

/-- A stop: the place is looked up in the list; what it holds, how it is set, what is left without it. -/
structure LHas (l : LS) (p : Nm) (K : Pl → (Pl → LS) → LS → Prop) : Prop where
  ex : ∃ l1 c l2, l = l1 ++ (p, c) :: l2 ∧ K c (fun d => l1 ++ (p, d) :: l2) (l1 ++ l2)
theorem LHas.here {l : LS} {p : Nm} {c : Pl} {K : Pl → (Pl → LS) → LS → Prop} (h : K c (fun d => (p, d) :: l) l) : LHas ((p, c) :: l) p K := ⟨[], c, l, rfl, h⟩
theorem LHas.next {l : LS} {p : Nm} {x : Nm × Pl} {K : Pl → (Pl → LS) → LS → Prop} (h : LHas l p fun c s r => K c (fun d => x :: s d) (x :: r)) : LHas (x :: l) p K := by
  obtain ⟨l1, c, l2, rfl, h'⟩ := h.ex
  exact ⟨x :: l1, c, l2, rfl, h'⟩
theorem LHas.at1 {l : LS} {p : Nm} {c : Pl} {x1 : Nm × Pl} {K : Pl → (Pl → LS) → LS → Prop} (h : K c (fun d => x1 :: (p, d) :: l) (x1 :: l)) : LHas (x1 :: (p, c) :: l) p K := .next (.here h)
theorem LHas.at2 {l : LS} {p : Nm} {c : Pl} {x1 x2 : Nm × Pl} {K : Pl → (Pl → LS) → LS → Prop} (h : K c (fun d => x1 :: x2 :: (p, d) :: l) (x1 :: x2 :: l)) : LHas (x1 :: x2 :: (p, c) :: l) p K := .next (.at1 h)
theorem LHas.at3 {l : LS} {p : Nm} {c : Pl} {x1 x2 x3 : Nm × Pl} {K : Pl → (Pl → LS) → LS → Prop} (h : K c (fun d => x1 :: x2 :: x3 :: (p, d) :: l) (x1 :: x2 :: x3 :: l)) : LHas (x1 :: x2 :: x3 :: (p, c) :: l) p K := .next (.at2 h)
theorem LHas.at4 {l : LS} {p : Nm} {c : Pl} {x1 x2 x3 x4 : Nm × Pl} {K : Pl → (Pl → LS) → LS → Prop} (h : K c (fun d => x1 :: x2 :: x3 :: x4 :: (p, d) :: l) (x1 :: x2 :: x3 :: x4 :: l)) : LHas (x1 :: x2 :: x3 :: x4 :: (p, c) :: l) p K := .next (.at3 h)
theorem LHas.mono {l : LS} {p : Nm} {K K' : Pl → (Pl → LS) → LS → Prop} (h : LHas l p K) (hk : ∀ c s r, K c s r → K' c s r) : LHas l p K' := by
  obtain ⟨l1, c, l2, rfl, h'⟩ := h.ex
  exact ⟨l1, c, l2, rfl, hk _ _ _ h'⟩
/-- A stop: a new name. -/
structure LFresh (F : Nm → Prop) : Prop where
  go : ∀ p, F p
def LK (φ : Store) (K : AV → LS → Prop) : AV → Store → Prop := fun v σ => ∃ l, σ = putAll φ l ∧ Sep φ l ∧ K v l
section
variable {P : Program} {T : Tys} {G : Nat → AV} {N : Nat}
theorem LFresh.sound {φ : Store} {l : LS} {K : AV → LS → Prop} {v : Nm → AV} {c : Nm → Pl} (hs : Sep φ l) (h : LFresh fun p => K (v p) ((p, c p) :: l)) : AFresh (putAll φ l) fun p => LK φ K (v p) (upd (putAll φ l) p (c p)) :=
  ⟨fun p hp => ⟨(p, c p) :: l, rfl, hs.new hp _, h.go p⟩⟩
def LBox (t : TypeId) (x : AV) (l : LS) (K : AV → LS → Prop) : Prop :=
  match x.cells with
  | some cs => LFresh fun p => K (.ptr p 0) ((p, ⟨t, cs⟩) :: l)
  | none => False
theorem LBox.sound {t : TypeId} {x : AV} {l : LS} {K : AV → LS → Prop} {φ : Store} (hs : Sep φ l) (h : LBox t x l K) : ABox t x (putAll φ l) (LK φ K) := by
  unfold LBox at h
  unfold ABox
  split at h
  · rename_i cs hc
    simp only [hc]
    exact LFresh.sound (v := fun p => .ptr p 0) (c := fun _ => ⟨t, cs⟩) hs h
  · exact h.elim
def LAlloc (T : Tys) (t : TypeId) (l : LS) (K : AV → LS → Prop) : Prop :=
  match T t with
  | some i => LBox t i.zero l K
  | none => False
def LBs (T : Tys) (t : TypeId) (len : Nat) (ps : List (Nat × AV)) (l : LS) (K : AV → LS → Prop) : Prop :=
  match T t with
  | some ⟨_, _, _, .slice e, _⟩ =>
    match T e with
    | some j => 0 < j.size ∧ len * j.size ≤ 16777216 ∧ (match j.zero.cells with
      | some z => (match afill (fun i => some (i * j.size, j.size)) (zcells z (len * j.size)) ps with
        | some cs => AList cs fun cs => LFresh fun p => K (.vw p 0 len j.size) ((p, ⟨e, cs⟩) :: l)
        | none => False)
      | none => False)
    | none => False
  | _ => False
def LMk (T : Tys) (t : TypeId) (n0 c0 : AV) (l : LS) (K : AV → LS → Prop) : Prop :=
  match T t, n0, c0 with
  | some ⟨_, _, _, .slice e, _⟩, .int _ n, .int _ m =>
    match T e with
    | some j => 0 < j.size ∧ 0 ≤ n ∧ n ≤ m ∧ m * j.bytes ≤ 140737488355328 ∧ m ≤ 4611686018427387904 ∧ (match j.zero.cells with
      | some z => 0 < z.length ∧ AList (zcells z (n.toNat * j.size)) fun cs => LFresh fun p => K (.vw p 0 n.toNat j.size) ((p, ⟨e, cs⟩) :: l)
      | none => False)
    | none => False
  | _, _, _ => False
def LLd (T : Tys) (t : TypeId) (x : AV) (l : LS) (K : AV → Prop) : Prop :=
  match T t, x with
  | some i, .ptr p off => LHas l p fun c _ _ => off + i.size ≤ c.cs.length ∧ (i.agg = false → 0 < i.size) ∧ ACell i.agg ((c.cs.drop off).take i.size) K
  | some i, .ip cs => i.size ≤ cs.length ∧ (i.agg = false → 0 < i.size) ∧ ACell i.agg (cs.take i.size) K
  | _, _ => False
theorem LLd.sound {t : TypeId} {x : AV} {l : LS} {K : AV → Prop} {φ : Store} (hs : Sep φ l) (h : LLd T t x l K) : ALd T t x (putAll φ l) K := by
  unfold LLd at h
  unfold ALd
  split at h
  · rename_i ti i p off ht
    simp only [ht]
    obtain ⟨l1, c, l2, rfl, h'⟩ := h.ex
    exact ⟨c, hs.get, h'⟩
  · rename_i ti i cs ht
    simp only [ht]
    exact h
  · exact h.elim
def LSt (T : Tys) (t : TypeId) (a x : AV) (l : LS) (K : LS → Prop) : Prop :=
  match T t, a, x.cells with
  | some i, .ptr p off, some cs => LHas l p fun c s _ => cs.length = i.size ∧ off + i.size ≤ c.cs.length ∧ (cs.all AV.one) = true ∧ AList (splice c.cs off cs) fun cs' => K (s ⟨c.ty, cs'⟩)
  | _, _, _ => False
/-- The elements of a slice. -/
def LSrc (l : LS) (sz : Nat) (x : AV) (K : Nat → List AV → Prop) : Prop :=
  match x with
  | .sl n cs => cs.length = n * sz ∧ K n cs
  | .nils => K 0 []
  | .vw q off n sz' | .ap q off n sz' => sz' = sz ∧ LHas l q fun c _ _ => off + n * sz ≤ c.cs.length ∧ AList ((c.cs.drop off).take (n * sz)) (K n)
  | _ => False
theorem LSrc.sound {sz : Nat} {x : AV} {l : LS} {K : Nat → List AV → Prop} {φ : Store} (hs : Sep φ l) (h : LSrc l sz x K) : ∃ m xs, Src (putAll φ l) sz x m xs ∧ K m xs := by
  unfold LSrc at h
  split at h
  · exact ⟨_, _, ⟨rfl, rfl, h.1⟩, h.2⟩
  · exact ⟨_, _, ⟨rfl, rfl⟩, h⟩
  · obtain ⟨h0, h⟩ := h
    obtain ⟨l1, c, l2, rfl, h1, ⟨h2⟩⟩ := h.ex
    exact ⟨_, _, ⟨h0, rfl, ⟨c, hs.get, h1, rfl⟩⟩, h2⟩
  · obtain ⟨h0, h⟩ := h
    obtain ⟨l1, c, l2, rfl, h1, ⟨h2⟩⟩ := h.ex
    exact ⟨_, _, ⟨h0, rfl, ⟨c, hs.get, h1, rfl⟩⟩, h2⟩
  · exact h.elim
def LAp (T : Tys) (t : TypeId) (d x : AV) (l : LS) (K : AV → LS → Prop) : Prop :=
  match T t with
  | some ⟨_, _, _, .slice e, _⟩ =>
    match T e with
    | some j => 0 < j.size ∧ LSrc l j.size x fun m xs => (xs.all AV.one) = true ∧ (match d with
      | .nils => m * j.bytes ≤ 140737488355328 ∧ m ≤ 4611686018427387904 ∧ LFresh fun q => K (.vw q 0 m j.size) ((q, ⟨e, xs⟩) :: l)
      | .vw p off n sz => sz = j.size ∧ LHas l p fun c s r => c.ty = e ∧ off + n * sz ≤ c.cs.length ∧ (n + m) * j.bytes ≤ 140737488355328 ∧ n + m ≤ 4611686018427387904 ∧
          (off ≠ 0 → K (.vw p off (n + m) sz) (s ⟨e, c.cs.take (off + n * sz) ++ xs⟩)) ∧
          AList ((c.cs.drop off).take (n * sz) ++ xs) fun cs' => LFresh fun q => K (.vw q 0 (n + m) sz) ((q, ⟨e, cs'⟩) :: r)
      | _ => False)
    | none => False
  | _ => False
def LGz (T : Tys) (t t' : TypeId) (n : Int) (l : LS) (K : AV → LS → Prop) : Prop :=
  match T t, T t' with
  | some ⟨_, _, _, .slice e, _⟩, some ⟨_, _, _, .int _, _⟩ =>
    match T e with
    | some j => 0 < j.size ∧ 0 < n ∧ n.toNat * j.bytes ≤ 140737488355328 ∧ n ≤ 4611686018427387904 ∧ LFresh fun q => K (.vw q 0 n.toNat j.size) ((q, ⟨e, []⟩) :: l)
    | none => False
  | _, _ => False
theorem LGz.sound {t t' : TypeId} {n : Int} {l : LS} {K : AV → LS → Prop} {φ : Store} (hs : Sep φ l) (h : LGz T t t' n l K) : AGz T t t' n (putAll φ l) (LK φ K) := by
  unfold LGz at h
  unfold AGz
  split at h
  case h_2 => exact h.elim
  rename_i ht ht'
  split at h
  case h_2 => exact h.elim
  rename_i hj
  simp only [ht, ht', hj]
  exact ⟨h.1, h.2.1, h.2.2.1, h.2.2.2.1, LFresh.sound (v := fun q => .vw q 0 n.toNat _) (c := fun _ => ⟨_, []⟩) hs h.2.2.2.2⟩
theorem LAp.sound {t : TypeId} {d x : AV} {l : LS} {K : AV → LS → Prop} {φ : Store} (hs : Sep φ l) (h : LAp T t d x l K) : AAp T t d x (putAll φ l) (LK φ K) := by
  unfold LAp at h
  unfold AAp
  split at h
  case h_2 => exact h.elim
  rename_i sz_ by_ ag e z ht
  split at h
  case h_2 => exact h.elim
  rename_i ti j hj
  obtain ⟨h0, h⟩ := h
  obtain ⟨m, xs, h1, h2, h⟩ := LSrc.sound hs h
  simp only [ht, hj]
  refine ⟨h0, m, xs, h1, h2, ?_⟩
  split at h
  · exact ⟨h.1, h.2.1, LFresh.sound (v := fun q => .vw q 0 m j.size) (c := fun _ => ⟨_, xs⟩) hs h.2.2⟩
  · obtain ⟨h3, h⟩ := h
    obtain ⟨l1, c, l2, rfl, h4, h5, h6, h7, h8, ⟨h9⟩⟩ := h.ex
    refine ⟨h3, ⟨c, hs.get, h4, h5, h6, h7, fun ho => ⟨_, hs.set' _, hs.set, h8 ho⟩, ?_⟩⟩
    rw [hs.era']
    exact LFresh.sound (v := fun q => .vw q 0 _ _) (c := fun _ => ⟨_, _⟩) hs.rest h9
  · exact h.elim
def LCp (T : Tys) (t : TypeId) (d x : AV) (l : LS) (K : AV → LS → Prop) : Prop :=
  match T t with
  | some ⟨_, _, _, .slice e, _⟩ =>
    match T e with
    | some j => LSrc l j.size x fun m xs => (xs.all AV.one) = true ∧ (match d with
      | .vw p off n sz | .ap p off n sz => sz = j.size ∧ LHas l p fun c s _ => off + n * sz ≤ c.cs.length ∧ AList (splice c.cs off (xs.take (Nat.min m n * sz))) fun cs' => K (.int .i64 (Nat.min m n : Nat)) (s ⟨c.ty, cs'⟩)
      | _ => False)
    | none => False
  | _ => False
theorem LCp.sound {t : TypeId} {d x : AV} {l : LS} {K : AV → LS → Prop} {φ : Store} (hs : Sep φ l) (h : LCp T t d x l K) : ACp T t d x (putAll φ l) (LK φ K) := by
  unfold LCp at h
  unfold ACp
  split at h
  case h_2 => exact h.elim
  rename_i sz_ by_ ag e z ht
  split at h
  case h_2 => exact h.elim
  rename_i ti j hj
  obtain ⟨m, xs, h1, h2, h⟩ := LSrc.sound hs h
  simp only [ht, hj]
  refine ⟨m, xs, h1, h2, ?_⟩
  split at h
  · obtain ⟨h3, h⟩ := h
    obtain ⟨l1, c, l2, rfl, h4, ⟨h5⟩⟩ := h.ex
    exact ⟨h3, ⟨c, hs.get, h4, ⟨_, hs.set' _, hs.set, h5⟩⟩⟩
  · obtain ⟨h3, h⟩ := h
    obtain ⟨l1, c, l2, rfl, h4, ⟨h5⟩⟩ := h.ex
    exact ⟨h3, ⟨c, hs.get, h4, ⟨_, hs.set' _, hs.set, h5⟩⟩⟩
  · exact h.elim
/-- A call. -/
structure LCall (P : Program) (G : Nat → AV) (f : FuncId) (args : List AV) (l : LS) (K : AV → LS → Prop) : Prop where
  run : ∀ φ, Sep φ l → ACall P G f args (putAll φ l) (LK φ K)
/-- An operation. -/
def opL (P : Program) (T : Tys) (G : Nat → AV) (op : Op) (ρ : Operand → AV) (l : LS) (K : AV → LS → Prop) : Prop :=
  match op with
  | .alloc t => LAlloc T t l K
  | .box t x => force1 (ρ x) fun x => LBox t x l K
  | .buildSlice t n ps => n ≤ 16777216 ∧ LBs T t n (ps.toList.map fun x => (x.1, ρ x.2)) l K
  | .load t x => force0 (ρ x) fun x => LLd T t x l fun v => K v l
  | .store t a x => force0 (ρ a) fun a => force1 (ρ x) fun x => LSt T t a x l fun l' => K (.tup []) l'
  | .makeSlice t n c => LMk T t (ρ n) (ρ c) l K
  | .call c =>
    (match c.callee with
    | .value (.func f) => forceL1 (c.args.toList.map ρ) fun as => LCall P G f as l K
    | .value x => (match ρ x with
      | .clo (.func f) fs cs => forceL1 (fs ++ c.args.toList.map ρ ++ cs) fun as => LCall P G f as l K
      | _ => False)
    | .builtin .append => (match c.argTypes.toList, c.args.toList with
      | [t, t'], [d, x] => (match ρ d, ρ x with | .nils, .int _ n => LGz T t t' n l K | d, x => t = t' ∧ LAp T t d x l K)
      | _, _ => False)
    | .builtin .copy => (match c.argTypes.toList, c.args.toList with
      | [t, _], [d, x] => LCp T t (ρ d) (ρ x) l K
      | _, _ => False)
    | _ => opA P T G op ρ (fun _ => none) fun v _ => K v l)
  | op => opA P T G op ρ (fun _ => none) fun v _ => K v l
theorem opL.pure {op : Op} {ρ : Operand → AV} {l : LS} {K : AV → LS → Prop} {φ : Store} (hc : cls op = 0) (hs : Sep φ l) (h : opA P T G op ρ (fun _ => none) fun v _ => K v l) : opA P T G op ρ (putAll φ l) (LK φ K) := by
  obtain ⟨u, hu⟩ := op_pure (P := P) (T := T) (G := G) hc ρ _ _ h
  exact (hu _ _).2 ⟨l, rfl, hs, (hu _ _).1 h⟩
theorem opL.sound {op : Op} {ρ : Operand → AV} {l : LS} {K : AV → LS → Prop} {φ : Store} (hs : Sep φ l) (h : opL P T G op ρ l K) : opA P T G op ρ (putAll φ l) (LK φ K) := by
  cases op <;> first | exact opL.pure rfl hs h | exact h.elim | skip
  case alloc t =>
    have h : LAlloc T t l K := h
    show AAlloc T t (putAll φ l) (LK φ K)
    unfold LAlloc at h
    unfold AAlloc
    split at h
    · rename_i ti i ht
      simp only [ht]
      exact LBox.sound hs h
    · exact h.elim
  case box t x =>
    simp only [opL, force1_eq] at h
    exact LBox.sound hs h
  case buildSlice t n ps =>
    simp only [opL] at h
    refine ⟨h.1, ?_⟩
    replace h := h.2
    show ABs T t n _ (putAll φ l) (LK φ K)
    unfold LBs at h
    unfold ABs
    split at h
    case h_2 => exact h.elim
    rename_i sz_ by_ ag e z ht
    split at h
    case h_2 => exact h.elim
    rename_i ti j hj
    simp only [ht, hj]
    refine ⟨h.1, h.2.1, ?_⟩
    replace h := h.2.2
    split at h
    case h_2 => exact h.elim
    rename_i tj z hz
    simp only [hz]
    split at h
    case h_2 => exact h.elim
    rename_i tk cs hcs
    simp only [hcs]
    exact ⟨LFresh.sound (v := fun p => .vw p 0 n j.size) (c := fun _ => ⟨_, cs⟩) hs h.go⟩
  case load t x =>
    simp only [opL, force0_eq] at h
    have := LLd.sound hs h
    obtain ⟨u, hu, hiff⟩ := load_same this
    exact (hiff _ _ fun _ _ _ => rfl).2 ⟨l, rfl, hs, hu⟩
  case store t a x =>
    simp only [opL, force0_eq, force1_eq] at h
    show ASt T t (ρ a) (ρ x) (putAll φ l) fun σ' => LK φ K (.tup []) σ'
    unfold LSt at h
    unfold ASt
    split at h
    · rename_i ti i p off cs ht hp hcs
      simp only [ht, hp, hcs]
      obtain ⟨l1, c, l2, rfl, h1, h2, h3, ⟨h4⟩⟩ := h.ex
      exact ⟨c, hs.get, h1, by rw [h1]; exact h2, h3, ⟨⟨_, hs.set' _, hs.set, h4⟩⟩⟩
    · exact h.elim
  case makeSlice t n c =>
    have h : LMk T t (ρ n) (ρ c) l K := h
    show AMk T t (ρ n) (ρ c) (putAll φ l) (LK φ K)
    unfold LMk at h
    unfold AMk
    split at h
    case h_2 => exact h.elim
    rename_i sz_ by_ ag e z kl n1 km m1 ht hn1 hm1
    split at h
    case h_2 => exact h.elim
    rename_i tj j hj
    simp only [ht, hn1, hm1, hj]
    obtain ⟨h1, h2, h3, h4, h5, h⟩ := h
    refine ⟨h1, h2, h3, h4, h5, ?_⟩
    split at h
    case h_2 => exact h.elim
    rename_i tk z hz
    simp only [hz]
    exact ⟨h.1, ⟨LFresh.sound (v := fun p => .vw p 0 _ j.size) (c := fun _ => ⟨_, _⟩) hs h.2.go⟩⟩
  case call c =>
    obtain ⟨callee, args, argTypes⟩ := c
    cases callee with
    | value f =>
      cases f with
      | func f =>
        simp only [opL, forceL1_eq] at h
        exact h.run φ hs
      | tmp t =>
        simp only [opL, forceL1_eq] at h
        simp only [opA]
        split at h
        · rename_i hx
          simp only [hx]
          exact h.run φ hs
        · exact h.elim
      | const v =>
        simp only [opL, forceL1_eq] at h
        simp only [opA]
        split at h
        · rename_i hx
          simp only [hx]
          exact h.run φ hs
        · exact h.elim
      | global g =>
        simp only [opL, forceL1_eq] at h
        simp only [opA]
        split at h
        · rename_i hx
          simp only [hx]
          exact h.run φ hs
        · exact h.elim
    | invoke r m => exact h.elim
    | builtin b =>
      cases b <;> first | exact opL.pure rfl hs h | exact h.elim | skip
      case append =>
        simp only [opL] at h
        simp only [opA]
        split at h
        · rename_i t t' d x ht hx
          simp only [ht, hx]
          split at h
          · rename_i hd hx'
            simp only [hd, hx']
            exact LGz.sound hs h
          · rename_i hn
            split
            · rename_i k n hd hx'
              exact (hn _ _ hd hx').elim
            · exact ⟨h.1, LAp.sound hs h.2⟩
        · exact h.elim
      case copy =>
        simp only [opL] at h
        simp only [opA]
        split at h
        · rename_i t t' d x ht hx
          simp only [ht, hx]
          exact LCp.sound hs h
        · exact h.elim
end
end Go.Proofs.YtdpfcpkedaolfaaDoor
