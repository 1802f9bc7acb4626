/-
  The abstract machine, fifth part: make, slices of slices, lengths, conversions, append.
-/
import Derived.Test.YtdpfcpkedaolfaaDoorAm4
namespace Go.Proofs.YtdpfcpkedaolfaaDoor
open Go.RowKit

section
variable {P : Program} {T : Tys} {σ : Store} {w : World}
/-- make of a slice. -/
def AMk (T : Tys) (t : TypeId) (l c : AV) (σ : Store) (K : AV → Store → Prop) : Prop :=
  match T t, l, c with
  | some ⟨_, _, _, .slice e, _⟩, .int _ n, .int _ m =>
    match T e with
    | some j => 0 < j.size ∧ 0 ≤ n ∧ n ≤ m ∧ m * j.bytes ≤ 140737488355328 ∧ m ≤ 4611686018427387904 ∧ (match j.zero.cells with
      | some z => 0 < z.length ∧ AList (zcells z (n.toNat * j.size)) fun cs => AFresh σ fun p => K (.vw p 0 n.toNat j.size) (upd σ p ⟨e, cs⟩)
      | none => False)
    | none => False
  | _, _, _ => False
theorem AMk.sound {t : TypeId} {l c : AV} {vl vc : Value} {K : AV → Store → Prop} (hT : TOk P T) (hm : Mem σ w) (hl : Rd σ w l vl) (hc : Rd σ w c vc) (h : AMk T t l c σ K) : DoneV P (Instr.makeSlice t vl vc) σ w K := by
  unfold AMk at h
  split at h
  case h_2 => exact h.elim
  rename_i sz by_ ag e z0 kl n km m ht
  split at h
  case h_2 => exact h.elim
  rename_i j hj
  cases hl; cases hc
  obtain ⟨h1, h2, h3, h4, h5, h⟩ := h
  split at h
  case h_2 => exact h.elim
  rename_i z hz
  obtain ⟨h0, ⟨h⟩⟩ := h
  obtain ⟨jt, zv, q1, q2, q3, q4, q5, -⟩ := (hT e j hj).info
  have hzr : Rd σ w j.zero zv := Rd.zr q5
  obtain ⟨c1, c2⟩ := hzr.cells hz
  have hb : (jt.bytes : Int) * m ≤ 281474976710656 := by rw [q3, Int.mul_comm]; omega
  have hr := run_make (P := P) w t e jt zv (slice_of (hT t _ ht) rfl) q1 q4 kl km n m h2 h3 hb (by omega)
  rw [q2] at hr
  have hle : n.toNat ≤ m.toNat := by omega
  have hle2 : n.toNat * j.size ≤ m.toNat * j.size := Nat.mul_le_mul_right _ hle
  refine ⟨_, _, .vw (.b w.heap.size) 0 n.toNat j.size, _, hr, h.go _ (hm.fresh (Nat.le_refl _)), ?_, hm.alloc ⟨e, zcells z (n.toNat * j.size)⟩ _ (by simp [zcells, size_madeCells]; exact hle2) ?_, Stp.alloc σ w _ _⟩
  · exact .vw _ _ _ _ m.toNat _ e (heap_alloc_new w _) hle (by unfold maxLen; omega) (by rw [size_madeCells, Nat.zero_add]; exact Nat.le_refl _)
  · intro i hi
    have hzr := zcells_rd (σ := σ) (w := w) c2 c1 h0 (m.toNat * j.size)
    have h6 : i < n.toNat * j.size := by simpa [zcells] using hi
    have h7 := hzr.2 i (by simp [zcells]; omega)
    have e1 : (zcells z (m.toNat * j.size)).getD i .any = (zcells z (n.toNat * j.size)).getD i .any := by
      simp [zcells, List.getD_eq_getElem?_getD, h6, show i < m.toNat * j.size by omega]
    rw [e1] at h7
    exact h7

/-- A slice of a slice. -/
def bnd (d : Int) : Option AV → Option Int
  | none => some d
  | some (.int _ l) => some l
  | _ => none
def ASl (T : Tys) (t : TypeId) (x : AV) (lo hi : Option AV) (K : AV → Prop) : Prop :=
  match T t with
  | some ⟨_, _, _, .array n e, _⟩ =>
    (match T e, x with
      | some j, .ptr p off => (match bnd 0 lo, bnd n hi with
        | some l, some h => 0 ≤ l ∧ l ≤ h ∧ h ≤ n ∧ l < n ∧ n ≤ 1073741824 ∧ K (.ap p (off + l.toNat * j.size) (h.toNat - l.toNat) j.size)
        | _, _ => False)
      | _, _ => False)
  | some ⟨_, _, _, .slice e, _⟩ =>
    match T e with
    | some j =>
      (match x with
      | .sl n cs => (match bnd 0 lo, bnd n hi with
        | some l, some h => 0 ≤ l ∧ l ≤ h ∧ h ≤ n ∧ n * j.size ≤ cs.length ∧ AList ((cs.drop (l.toNat * j.size)).take ((h.toNat - l.toNat) * j.size)) fun cs' => K (.sl (h.toNat - l.toNat) cs')
        | _, _ => False)
      | .vw p off n sz => (match bnd 0 lo, bnd n hi with
        | some l, some h => sz = j.size ∧ 0 ≤ l ∧ l ≤ h ∧ h ≤ n ∧ (l = 0 ∨ l < n → K (.vw p (off + l.toNat * sz) (h.toNat - l.toNat) sz)) ∧ (¬ (l = 0 ∨ l < n) → K (.sl 0 []))
        | _, _ => False)
      | .nils => (match bnd 0 lo, bnd 0 hi with
        | some l, some h => l = 0 ∧ h = 0 ∧ K .nils
        | _, _ => False)
      | _ => False)
    | none => False
  | _ => False
theorem bound_run {k : IntKind} {i : Int} {y : Nat} {code : BoundsCode} (h0 : 0 ≤ i) (h1 : i ≤ y) (w : World) : (Instr.sliceBound (.int k i) y code).run P w = .ok i.toNat w := by
  simp [Instr.sliceBound, asIntOf, h0, h1]
def RdO (σ : Store) (w : World) : Option AV → Option Value → Prop
  | none, none => True
  | some a, some v => Rd σ w a v
  | _, _ => False
theorem sbounds {isS : Bool} {lo hi : Option AV} {vlo vhi : Option Value} {l h : Int} {len cap : Nat} (hlo : RdO σ w lo vlo) (hhi : RdO σ w hi vhi) (bl : bnd 0 lo = some l) (bh : bnd len hi = some h) (h0 : 0 ≤ l) (h1 : l ≤ h) (h2 : h ≤ len) (hc : len ≤ cap) :
    (Instr.sliceBounds isS len cap vlo vhi none).run P w = .ok (l.toNat, h.toNat, cap) w := by
  have hh : (vhi = none ∧ h = len) ∨ ∃ k, vhi = some (.int k h) := by
    cases hi with
    | none =>
      cases vhi with
      | none => simp [bnd] at bh; exact .inl ⟨rfl, bh.symm⟩
      | some v => exact hhi.elim
    | some a =>
      cases vhi with
      | none => exact hhi.elim
      | some v =>
        cases a <;> simp [bnd] at bh
        subst bh
        cases hhi
        exact .inr ⟨_, rfl⟩
  have hl : (vlo = none ∧ l = 0) ∨ ∃ k, vlo = some (.int k l) := by
    cases lo with
    | none =>
      cases vlo with
      | none => simp [bnd] at bl; exact .inl ⟨rfl, bl.symm⟩
      | some v => exact hlo.elim
    | some a =>
      cases vlo with
      | none => exact hlo.elim
      | some v =>
        cases a <;> simp [bnd] at bl
        subst bl
        cases hlo
        exact .inr ⟨_, rfl⟩
  have e1 : ∀ k code, (Instr.sliceBound (.int k h) cap code).run P w = .ok h.toNat w := fun k code => bound_run (by omega) (by omega) w
  have e2 : ∀ k code, (Instr.sliceBound (.int k l) h.toNat code).run P w = .ok l.toNat w := fun k code => bound_run h0 (by omega) w
  have e3 : ∀ k code, h = len → (Instr.sliceBound (.int k l) len code).run P w = .ok l.toNat w := fun k code _ => bound_run h0 (by omega) w
  rcases hh with ⟨rfl, hh⟩ | ⟨k, rfl⟩ <;> rcases hl with ⟨rfl, hl⟩ | ⟨k', rfl⟩
  · simp [Instr.sliceBounds, hh, hl]
  · simp [Instr.sliceBounds, e3 _ _ hh, hh]
  · simp [Instr.sliceBounds, e1, hl]
  · simp [Instr.sliceBounds, e1, e2]
theorem ASl.sound {t : TypeId} {x : AV} {v : Value} {lo hi : Option AV} {vlo vhi : Option Value} {K : AV → Store → Prop} (hT : TOk P T) (hm : Mem σ w) (hx : Rd σ w x v) (hlo : RdO σ w lo vlo) (hhi : RdO σ w hi vhi) (h : ASl T t x lo hi fun r => K r σ) :
    DoneV P (Instr.sliceAt t v vlo vhi none) σ w K := by
  unfold ASl at h
  split at h
  case h_3 => exact h.elim
  case h_1 =>
    rename_i sz by_ ag n e z ht
    split at h
    case h_2 => exact h.elim
    rename_i j p off hj
    split at h
    case h_2 => exact h.elim
    rename_i l h' bl bh
    obtain ⟨h0, h1, h2, h3, h5, h4⟩ := h
    cases hx with
    | ptr p off =>
      have hua := array_of (hT t _ ht) rfl
      have hb := sbounds (P := P) (w := w) (isS := false) (len := n) (cap := n) hlo hhi bl bh h0 h1 h2 (Nat.le_refl _)
      refine DoneV.same hm (v := .slice (some ⟨p, off + l.toNat * j.size, none⟩) (h'.toNat - l.toNat) (n - l.toNat)) ?_ (.ap p _ _ _ _ (by omega) (by unfold maxLen; omega)) h4
      unfold Instr.sliceAt
      simp only [Sem.run_bind, run_underlying hua, Result.andThen_ok, Instr.sureAddr, Sem.run_pure, hb, (hT e j hj).size]
      rw [if_neg (by omega : ¬ n = l.toNat), addr_plus]
  rename_i sz by_ ag e z ht
  have hu := slice_of (hT t _ ht) rfl
  split at h
  case h_2 => exact h.elim
  rename_i j hj
  have hsz := (hT e j hj).size
  have hrun : ∀ (a : Option Addr) (len cap l h : Nat), (Instr.sliceBounds true len cap vlo vhi none).run P w = .ok (l, h, cap) w →
      (Instr.sliceAt t (.slice a len cap) vlo vhi none).run P w = .ok (.slice (if cap = l then a else a.map (·.add (l * j.size))) (h - l) (cap - l)) w := by
    intro a len cap l h hb
    unfold Instr.sliceAt Instr.slice
    simp only [Sem.run_bind, run_underlying hu, Result.andThen_ok, hb, hsz]
    rfl
  split at h
  · rename_i n cs
    split at h
    case h_2 => exact h.elim
    rename_i l h' bl bh
    obtain ⟨h0, h1, h2, h3, ⟨h4⟩⟩ := h
    cases hx with
    | slnil =>
      have hb := sbounds (P := P) (isS := true) (len := 0) (cap := 0) hlo hhi bl bh h0 h1 h2 (Nat.le_refl _)
      have e1 : l = 0 := by omega
      have e2 : h' = 0 := by omega
      subst e1 e2
      refine DoneV.same hm (hrun _ _ _ _ _ hb) ?_ h4
      simp
      exact .slnil
    | sl n cs b off cap f hb hn hm' hf hc =>
      have hbd := sbounds (P := P) (isS := true) (len := n) (cap := cap) hlo hhi bl bh h0 h1 h2 hn
      refine DoneV.same hm (hrun _ _ _ _ _ hbd) ?_ h4
      have hle : (h'.toNat - l.toNat) * j.size + l.toNat * j.size ≤ cs.length := by
        rw [← Nat.add_mul]
        exact Nat.le_trans (Nat.mul_le_mul_right _ (by omega)) h3
      by_cases hcl : cap = l.toNat
      · rw [if_pos hcl]
        have e0 : h'.toNat - l.toNat = 0 := by omega
        rw [e0, Nat.zero_mul, List.take_zero]
        exact .sl 0 [] b off _ f (by simp) (Nat.zero_le _) (by omega) (by simp) (by simp)
      · rw [if_neg hcl]
        simp only [Option.map_some, addr_plus]
        refine .sl _ _ b (off + l.toNat * j.size) _ (fun i => f (l.toNat * j.size + i)) (fun h5 => hb (by simp at h5; omega)) (by omega) (by omega) (fun i hi => ?_) (fun i hi => ?_)
        · simp at hi
          rw [Nat.add_assoc]
          exact hf _ (by omega)
        · simp at hi
          rw [getD_take _ _ _ _ (by omega), getD_drop]
          exact hc _ (by omega)
  · rename_i p off n sz'
    split at h
    case h_2 => exact h.elim
    rename_i l h' bl bh
    obtain ⟨rfl, h0, h1, h2, h3, h4⟩ := h
    cases hx with
    | vwnil k sz =>
      have hb := sbounds (P := P) (isS := true) (len := 0) (cap := 0) hlo hhi bl bh h0 h1 h2 (Nat.le_refl _)
      have e1 : l = 0 := by omega
      have e2 : h' = 0 := by omega
      subst e1 e2
      have h3 := h3 (.inl rfl)
      refine DoneV.same hm (hrun _ _ _ _ _ hb) ?_ h3
      simp
      exact .vwnil _ _
    | vw p off n sz cap cur t' hp hn hm' hs =>
      have hbd := sbounds (P := P) (isS := true) (len := n) (cap := cap) hlo hhi bl bh h0 h1 h2 hn
      by_cases hcl : l = 0 ∨ l < n
      · refine DoneV.same hm (hrun _ _ _ _ _ hbd) ?_ (h3 hcl)
        have ea : (if cap = l.toNat then some (⟨p, off, none⟩ : Addr) else Option.map (fun (q : Addr) => q.add (l.toNat * j.size)) (some ⟨p, off, none⟩)) = some ⟨p, off + l.toNat * j.size, none⟩ := by
          split
          · have : l.toNat = 0 := by omega
            simp [this]
          · simp only [Option.map_some, addr_plus]
        rw [ea]
        refine .vw p _ _ _ (cap - l.toNat) cur t' hp (by omega) (by omega) ?_
        refine Nat.le_trans (Nat.le_of_eq ?_) hs
        rw [Nat.add_assoc, ← Nat.add_mul]
        congr 2
        omega
      · refine DoneV.same hm (hrun _ _ _ _ _ hbd) ?_ (h4 hcl)
        have e0 : h'.toNat - l.toNat = 0 := by omega
        rw [e0]
        split
        · exact .sl 0 [] p off _ (fun _ => undef) (by simp) (Nat.zero_le _) (by omega) (by simp) (by simp)
        · simp only [Option.map_some, addr_plus]
          exact .sl 0 [] p _ _ (fun _ => undef) (by simp) (Nat.zero_le _) (by omega) (by simp) (by simp)
  · split at h
    case h_2 => exact h.elim
    rename_i l h' bl bh
    obtain ⟨rfl, rfl, h4⟩ := h
    cases hx
    have hb := sbounds (P := P) (isS := true) (len := 0) (cap := 0) hlo hhi bl bh (by omega) (by omega) (by omega) (Nat.le_refl _)
    refine DoneV.same hm (hrun _ _ _ _ _ hb) ?_ h4
    simp
    exact .nils
  · exact h.elim

/-- A slice with a third bound, of data. -/
def ASl3 (T : Tys) (t : TypeId) (x : AV) (lo : Option AV) (hi mx : AV) (K : AV → Prop) : Prop :=
  match T t with
  | some ⟨_, _, _, .slice e, _⟩ =>
    match T e with
    | some j =>
      (match x, hi, mx with
      | .sl n cs, .int _ h, .int _ m => (match bnd 0 lo with
        | some l => 0 ≤ l ∧ l ≤ h ∧ h ≤ m ∧ m ≤ n ∧ n * j.size ≤ cs.length ∧ AList ((cs.drop (l.toNat * j.size)).take ((h.toNat - l.toNat) * j.size)) fun cs' => K (.sl (h.toNat - l.toNat) cs')
        | _ => False)
      | _, _, _ => False)
    | none => False
  | _ => False
theorem ASl3.sound {t : TypeId} {x : AV} {v : Value} {lo : Option AV} {hi mx : AV} {vlo : Option Value} {vhi vmx : Value} {K : AV → Store → Prop} (hT : TOk P T) (hm : Mem σ w) (hx : Rd σ w x v) (hlo : RdO σ w lo vlo) (hhi : Rd σ w hi vhi) (hmx : Rd σ w mx vmx) (h : ASl3 T t x lo hi mx fun r => K r σ) :
    DoneV P (Instr.sliceAt t v vlo (some vhi) (some vmx)) σ w K := by
  unfold ASl3 at h
  split at h
  case h_2 => exact h.elim
  rename_i sz by_ ag e z ht
  have hu := slice_of (hT t _ ht) rfl
  split at h
  case h_2 => exact h.elim
  rename_i j hj
  have hsz := (hT e j hj).size
  split at h
  case h_2 => exact h.elim
  rename_i n cs kh h' km m
  split at h
  case h_2 => exact h.elim
  rename_i l bl
  cases hhi; cases hmx
  obtain ⟨h0, h1, h2, h3, h4, ⟨h5⟩⟩ := h
  have hl : (vlo = none ∧ l = 0) ∨ ∃ k, vlo = some (.int k l) := by
    cases lo with
    | none =>
      cases vlo with
      | none => simp [bnd] at bl; exact .inl ⟨rfl, bl.symm⟩
      | some v => exact hlo.elim
    | some a =>
      cases vlo with
      | none => exact hlo.elim
      | some v =>
        cases a <;> simp [bnd] at bl
        subst bl
        cases hlo
        exact .inr ⟨_, rfl⟩
  have hb : ∀ cap : Nat, n ≤ cap → (Instr.sliceBounds true n cap vlo (some (.int kh h')) (some (.int km m))).run P w = .ok (l.toNat, h'.toNat, m.toNat) w := fun cap hc => by
    have e1 : ∀ code, (Instr.sliceBound (.int km m) cap code).run P w = .ok m.toNat w := fun code => bound_run (by omega) (by omega) w
    have e2 : ∀ code, (Instr.sliceBound (.int kh h') m.toNat code).run P w = .ok h'.toNat w := fun code => bound_run (by omega) (by omega) w
    have e3 : ∀ k code, (Instr.sliceBound (.int k l) h'.toNat code).run P w = .ok l.toNat w := fun k code => bound_run h0 (by omega) w
    rcases hl with ⟨rfl, rfl⟩ | ⟨k, rfl⟩
    · simp [Instr.sliceBounds, e1, e2]
    · simp [Instr.sliceBounds, e1, e2, e3]
  have hrun : ∀ (a : Option Addr) (cap : Nat), n ≤ cap →
      (Instr.sliceAt t (.slice a n cap) vlo (some (.int kh h')) (some (.int km m))).run P w = .ok (.slice (if m.toNat = l.toNat then a else a.map (·.add (l.toNat * j.size))) (h'.toNat - l.toNat) (m.toNat - l.toNat)) w := by
    intro a cap hc
    unfold Instr.sliceAt Instr.slice
    simp only [Sem.run_bind, run_underlying hu, Result.andThen_ok, hb cap hc, hsz]
    rfl
  cases hx with
  | slnil =>
    have e1 : l = 0 := by omega
    have e2 : h' = 0 := by omega
    have e3 : m = 0 := by omega
    subst e1 e2 e3
    refine DoneV.same hm (hrun _ _ (Nat.le_refl _)) ?_ h5
    simp
    exact .slnil
  | sl n cs b off cap f hb' hn hm' hf hc =>
    refine DoneV.same hm (hrun _ _ hn) ?_ h5
    have hle : (h'.toNat - l.toNat) * j.size + l.toNat * j.size ≤ cs.length := by
      rw [← Nat.add_mul]
      exact Nat.le_trans (Nat.mul_le_mul_right _ (by omega)) h4
    by_cases hcl : m.toNat = l.toNat
    · rw [if_pos hcl]
      have e0 : h'.toNat - l.toNat = 0 := by omega
      rw [e0, Nat.zero_mul, List.take_zero]
      exact .sl 0 [] b off _ f (by simp) (Nat.zero_le _) (by omega) (by simp) (by simp)
    · rw [if_neg hcl]
      simp only [Option.map_some, addr_plus]
      refine .sl _ _ b (off + l.toNat * j.size) _ (fun i => f (l.toNat * j.size + i)) (fun h5 => hb' (by simp at h5; omega)) (by omega) (by omega) (fun i hi => ?_) (fun i hi => ?_)
      · simp at hi
        rw [Nat.add_assoc]
        exact hf _ (by omega)
      · simp at hi
        rw [getD_take _ _ _ _ (by omega), getD_drop]
        exact hc _ (by omega)

/-- The length of a slice. -/
def ALen (x : AV) (K : AV → Prop) : Prop :=
  match x with
  | .sl n _ | .vw _ _ n _ | .ap _ _ n _ => K (.int .i64 n)
  | .nils => K (.int .i64 0)
  | _ => False
theorem ALen.sound {t : TypeId} {e : TypeId} {ty : TypeId} {x : AV} {v : Value} {K : AV → Store → Prop} (hu : P.underlying t = some (.slice e)) (hm : Mem σ w) (hx : Rd σ w x v) (h : ALen x fun r => K r σ) : DoneV P (Builtin.len_ #[t] ty #[v]) σ w K := by
  have hrun : ∀ a n c, (Builtin.len_ #[t] ty #[.slice a n c]).run P w = .ok (.int .i64 n) w := by
    intro a n c
    simp [Builtin.len_, run_underlying hu, goInt]
  unfold ALen at h
  split at h
  · cases hx
    · exact DoneV.same hm (hrun _ _ _) (.int _ _) h
    · exact DoneV.same hm (hrun _ _ _) (.int _ _) h
  · cases hx
    · exact DoneV.same hm (hrun _ _ _) (.int _ _) h
    · exact DoneV.same hm (hrun _ _ _) (.int _ _) h
  · cases hx
    exact DoneV.same hm (hrun _ _ _) (.int _ _) h
  · cases hx
    exact DoneV.same hm (hrun _ _ _) (.int _ _) h
  · exact h.elim

/-- The capacity of nil. -/
def ACap (x : AV) (K : AV → Prop) : Prop :=
  match x with
  | .nils => K (.int .i64 0)
  | _ => False
theorem ACap.sound {t : TypeId} {e : TypeId} {ty : TypeId} {x : AV} {v : Value} {K : AV → Store → Prop} (hu : P.underlying t = some (.slice e)) (hm : Mem σ w) (hx : Rd σ w x v) (h : ACap x fun r => K r σ) : DoneV P (Builtin.cap_ #[t] ty #[v]) σ w K := by
  unfold ACap at h
  split at h
  · cases hx
    exact DoneV.same hm (by simp [Builtin.cap_, run_underlying hu, goInt]) (.int _ _) h
  · exact h.elim
/-- As many zeros as a number says are appended to nil: only that the row is there is known of it. -/
def AGz (T : Tys) (t t' : TypeId) (n : Int) (σ : Store) (K : AV → Store → Prop) : Prop :=
  match T t, T t' with
  | some ⟨_, _, _, .slice e, _⟩, some ⟨_, _, _, .int _, _⟩ =>
    match T e with
    | some j => 0 < j.size ∧ 0 < n ∧ n.toNat * j.bytes ≤ 140737488355328 ∧ n ≤ 4611686018427387904 ∧ AFresh σ fun q => K (.vw q 0 n.toNat j.size) (upd σ q ⟨e, []⟩)
    | none => False
  | _, _ => False
theorem run_append_zeros (t tn ty e : TypeId) (i : TypeInfo) (z : Value) (kq kn : IntKind) (ht : P.underlying t = some (.slice e)) (htn : P.underlying tn = some (.int kn)) (hi : P.info? e = some i) (hz : i.zero = some z) (k : Nat) (h0 : 0 < k) (hs : 0 < i.size) (hm : k ≤ 4611686018427387904) (hb : k * i.bytes ≤ 140737488355328) :
    (Builtin.append_ #[t, tn] ty #[.slice none 0 0, .int kq k]).run P w =
      .ok (.slice (some ⟨w.heap.size, 0, none⟩) k (grownCap w k 0 e)) (w.drew.alloc (.cells (Builtin.zeroCells z.cells k ++ Builtin.zeroCells z.cells (grownCap w k 0 e - k)) e)) := by
  have hw : IntKind.i64.wrap (k : Int) = k := by rw [IntKind.wrap_i64]; omega
  have hk : k ≠ 0 := by omega
  have hf : ¬ (281474976710656 < Builtin.nextslicecap k 0 * i.bytes) := by have := growslice_fits (bytes := i.bytes) (show 0 < k by omega) hb; omega
  have h48 : ¬ (281474976710656 < (k : Int) * (i.bytes : Int)) := by rw [← Int.natCast_mul]; omega
  have hneg : ¬ ((k : Int) < 0) := by omega
  have h63 : ¬ (9223372036854775807 < (k : Int)) := by omega
  have hns : ¬ (k * i.size = 0) := Nat.mul_ne_zero hk (by omega)
  simp [Builtin.append_, run_underlying ht, run_underlying htn, sizeOf, typeInfo, zeroValue, hi, hz, asInt, asIntOf, hw, hk, hneg, hns, h63, h48, hf, Question.forced, Builtin.firstCells, newRow, grownCap]
theorem AGz.sound {t t' ty : TypeId} {k : IntKind} {n : Int} {K : AV → Store → Prop} (hT : TOk P T) (hm : Mem σ w) (h : AGz T t t' n σ K) : DoneV P (Builtin.append_ #[t, t'] ty #[.slice none 0 0, .int k n]) σ w K := by
  unfold AGz at h
  split at h
  case h_2 => exact h.elim
  rename_i sz0 by_ ag e z0 sz1 by1 ag1 kn z1 ht ht'
  have hu := slice_of (hT t _ ht) rfl
  have hu' := int_of (hT t' _ ht') rfl
  split at h
  case h_2 => exact h.elim
  rename_i j hj
  obtain ⟨jt, zv, q1, q2, q3, q4, q5, q6⟩ := (hT e j hj).info
  obtain ⟨hs0, h1, hb, hmx, h⟩ := h
  rw [← q2] at q6
  rw [← q3] at hb
  obtain ⟨m, rfl⟩ : ∃ m : Nat, n = m := ⟨n.toNat, by omega⟩
  rw [Int.toNat_natCast] at hb h
  have hr := run_append_zeros (P := P) (w := w) t t' ty e jt zv k kn hu hu' q1 q4 m (by omega) (by rw [q2]; exact hs0) (by omega) hb
  have hge := grownCap_ge w m 0 e
  have hcm := grownCap_le_maxLen w m 0 e (by unfold maxLen; omega)
  have hf : σ (.b w.heap.size) = none := hm.fresh (Nat.le_refl _)
  have hsz : (Builtin.zeroCells zv.cells m ++ Builtin.zeroCells zv.cells (grownCap w m 0 e - m)).size = grownCap w m 0 e * jt.size := by
    rw [Array.size_append, size_zeroCells, size_zeroCells, q6, ← Nat.add_mul]; congr 1; omega
  have s2 := Stp.alloc σ w.drew ⟨e, []⟩ (Builtin.zeroCells zv.cells m ++ Builtin.zeroCells zv.cells (grownCap w m 0 e - m))
  refine ⟨_, _, _, _, hr, h.go _ hf, .vw _ _ _ _ _ _ e (heap_alloc_new w.drew _) hge hcm (by rw [hsz, q2]; omega), hm.drew.alloc ⟨e, []⟩ _ (by simp) (fun i hi => by simp at hi), (Stp.refl σ w).drew.trans s2⟩
/-- A byte as an abstract value. -/
def bAV (c : UInt8) : AV := .int .u8 (c.toNat : Int)
/-- Conversions: integers to integers, bytes to a string. -/
def ACv (T : Tys) (s d : TypeId) (x : AV) (K : AV → Prop) : Prop :=
  match T s, T d, x with
  | some _, some ⟨_, _, _, .int k, _⟩, .int _ n => K (.int k (k.wrap n))
  | some ⟨_, _, _, .slice e, _⟩, some ⟨_, _, _, .str, _⟩, .sl n cs =>
    match T e with
    | some ⟨_, _, _, .int .u8, _⟩ => ∃ l : List UInt8, cs = l.map bAV ∧ n = l.length ∧ K (.str ⟨l.toArray⟩)
    | _ => False
  | some ⟨_, _, _, .slice e, _⟩, some ⟨_, _, _, .str, _⟩, .nils =>
    match T e with
    | some ⟨_, _, _, .int .u8, _⟩ => K (.str ⟨#[]⟩)
    | _ => False
  | _, _, _ => False
theorem Rd.int_eq {k : IntKind} {n : Int} {v : Value} (h : Rd σ w (.int k n) v) : v = .int k n := by cases h; rfl
theorem str_nums (l : List UInt8) : strOfNums (l.map fun c => (c.toNat : Int)) = ⟨l.toArray⟩ := by
  unfold strOfNums
  congr 1
  simp only [List.map_map]
  congr 1
  conv => rhs; rw [← List.map_id l]
  apply List.map_congr_left
  intro c _
  simp
theorem ACv.sound {s d : TypeId} {x : AV} {v : Value} {K : AV → Store → Prop} (hT : TOk P T) (hm : Mem σ w) (hx : Rd σ w x v) (h : ACv T s d x fun r => K r σ) : DoneV P (convert s d v) σ w K := by
  unfold ACv at h
  split at h
  · rename_i i sz by_ ag k z k' n hs hd
    cases hx
    obtain ⟨ds, q1, -⟩ := (hT s i hs).und
    refine DoneV.same hm ?_ (.int _ _) h
    have hd := int_of (hT d _ hd) rfl
    unfold convert
    simp only [Sem.run_bind, run_underlying q1, run_underlying hd, Result.andThen_ok]
    cases ds <;> rfl
  · rename_i sz by_ ag e z sz2 by2 ag2 z2 n cs hs hd
    split at h
    case h_2 => exact h.elim
    rename_i sz3 by3 ag3 z3 he
    obtain ⟨l, rfl, rfl, h⟩ := h
    have hs := slice_of (hT s _ hs) rfl
    have hd := str_of (hT d _ hd) rfl
    have he := int_of (hT e _ he) rfl
    generalize hcs : l.map bAV = cs at hx
    generalize hn : l.length = n at hx
    cases hx with
    | slnil =>
      have : l = [] := List.eq_nil_of_length_eq_zero hn
      subst this
      exact DoneV.same hm (run_convert_bytes_nil w s e hs he 0 0 d hd) (.str _) h
    | sl n cs b off cap f hb hn' hm' hf hc =>
      subst hcs
      have hr := run_convert_bytes_arg w (P := P) s e hs he b off n cap (l.map fun c => (c.toNat : Int)) (by simp [hn]) (fun i hi => by
        have h1 := hf i (by simp; omega)
        have h2 := hc i (by simp; omega)
        rw [h1]
        have e1 : (l.map bAV).getD i .any = bAV (l.getD i 0) := by simp [List.getD_eq_getElem?_getD, show i < l.length by omega]
        rw [e1] at h2
        rw [h2.int_eq]
        simp [List.getD_eq_getElem?_getD, show i < l.length by omega]) d hd
      rw [str_nums] at hr
      exact DoneV.same hm hr (.str _) h
  · rename_i sz by_ ag e z sz2 by2 ag2 z2 hs hd
    split at h
    case h_2 => exact h.elim
    rename_i sz3 by3 ag3 z3 he
    have hs := slice_of (hT s _ hs) rfl
    have hd := str_of (hT d _ hd) rfl
    have he := int_of (hT e _ he) rfl
    cases hx
    exact DoneV.same hm (run_convert_bytes_nil w s e hs he 0 0 d hd) (.str _) h
  · exact h.elim

/-- What is appended: how many elements, their cells. -/
def Src (σ : Store) (sz : Nat) (x : AV) (m : Nat) (xs : List AV) : Prop :=
  match x with
  | .sl n cs => m = n ∧ xs = cs ∧ cs.length = n * sz
  | .nils => m = 0 ∧ xs = []
  | .vw q off n sz' | .ap q off n sz' => sz' = sz ∧ m = n ∧ AHas σ q fun c => off + n * sz ≤ c.cs.length ∧ xs = (c.cs.drop off).take (n * sz)
  | _ => False
theorem Src.news {sz m : Nat} {x : AV} {xs : List AV} {v : Value} (hm : Mem σ w) (hx : Rd σ w x v) (h : Src σ sz x m xs) :
    xs.length = m * sz ∧ ((v = .slice none 0 0 ∧ m = 0 ∧ xs = []) ∨ ∃ b off cap, v = .slice (some ⟨b, off, none⟩) m cap ∧ Cells σ w b off xs) := by
  unfold Src at h
  split at h
  · obtain ⟨rfl, rfl, h3⟩ := h
    refine ⟨h3, ?_⟩
    cases hx with
    | slnil => exact .inl ⟨rfl, rfl, rfl⟩
    | sl n cs b off cap f hb hn hm' hf hc => exact .inr ⟨b, off, cap, rfl, ⟨fun i hi => ⟨_, hf i hi, hc i hi⟩⟩⟩
  · obtain ⟨rfl, rfl⟩ := h
    cases hx
    exact ⟨by simp, .inl ⟨rfl, rfl, rfl⟩⟩
  · rename_i q off n sz'
    obtain ⟨rfl, rfl, ⟨c, h1, h2, rfl⟩⟩ := h
    refine ⟨by simp; omega, ?_⟩
    cases hx with
    | vw p off n sz cap cur t hp hn hm' hs =>
      have := fun k n => (hm.cells h1).sub k n
      simp only [Nat.zero_add] at this
      exact .inr ⟨p, off, cap, rfl, this _ _⟩
    | vwnil k sz =>
      exact .inl ⟨rfl, rfl, by simp⟩
  · rename_i q off n sz'
    obtain ⟨rfl, rfl, ⟨c, h1, h2, rfl⟩⟩ := h
    refine ⟨by simp; omega, ?_⟩
    cases hx with
    | ap p off n sz cap hn hm' =>
      have := fun k n => (hm.cells h1).sub k n
      simp only [Nat.zero_add] at this
      exact .inr ⟨p, off, cap, rfl, this _ _⟩
  · exact h.elim
theorem run_append_room_off (t ty e : TypeId) (i : TypeInfo) (ht : P.underlying t = some (.slice e)) (hi : P.info? e = some i)
    (g off sLen sCap : Nat) (cur : Array Value) (hg : w.heap[g]? = some (.cells cur e (0, 0)))
    (a : Addr) (m c : Nat) (news : List Value) (hl : news.length = m * i.size) (hnews : ∀ j u, news[j]? = some u → w.cell? (a.add j) = some u) (h1 : ∀ u ∈ news, u.oneCell' = true)
    (hroom : sLen + m ≤ sCap) (hfit : off + sLen * i.size + news.length ≤ cur.size) :
    (Builtin.append_ #[t, t] ty #[.slice (some ⟨g, off, none⟩) sLen sCap, .slice (some a) m c]).run P w =
      .ok (.slice (some ⟨g, off, none⟩) (sLen + m) sCap) (w.setRow g (cur.toList.take (off + sLen * i.size) ++ news ++ cur.toList.drop (off + sLen * i.size + news.length)).toArray) := by
  have hf := run_firstCells_some (P := P) w i.size m a m c news hl hnews
  have hst := run_storeCells_at P g (off + sLen * i.size) e news 0 cur w hg (by simpa using hfit) h1
  simp only [Nat.add_zero] at hst
  simp [Builtin.append_, run_underlying ht, sizeOf, typeInfo, hi, Builtin.lenOf, hroom, hf, addr_plus, hst]
theorem run_append_x_none (t ty e : TypeId) (i : TypeInfo) (ht : P.underlying t = some (.slice e)) (hi : P.info? e = some i) (a : Option Addr) (n cap : Nat) (hn : n ≤ cap) :
    (Builtin.append_ #[t, t] ty #[.slice a n cap, .slice none 0 0]).run P w = .ok (.slice a n cap) w := by
  cases a <;> simp [Builtin.append_, run_underlying ht, sizeOf, typeInfo, hi, Builtin.lenOf, Builtin.firstCells, hn, storeCells]

/-- append. -/
def AAp (T : Tys) (t : TypeId) (d x : AV) (σ : Store) (K : AV → Store → Prop) : Prop :=
  match T t with
  | some ⟨_, _, _, .slice e, _⟩ =>
    match T e with
    | some j => 0 < j.size ∧ ∃ m xs, Src σ j.size x m xs ∧ (xs.all AV.one) = true ∧ (match d with
      | .nils => m * j.bytes ≤ 140737488355328 ∧ m ≤ 4611686018427387904 ∧ AFresh σ fun q => K (.vw q 0 m j.size) (upd σ q ⟨e, xs⟩)
      | .vw p off n sz => sz = j.size ∧ AHas σ p fun c => c.ty = e ∧ off + n * sz ≤ c.cs.length ∧ (n + m) * j.bytes ≤ 140737488355328 ∧ n + m ≤ 4611686018427387904 ∧
          (off ≠ 0 → K (.vw p off (n + m) sz) (upd σ p ⟨e, c.cs.take (off + n * sz) ++ xs⟩)) ∧
          AFresh (era σ p) fun q => K (.vw q 0 (n + m) sz) (upd (era σ p) q ⟨e, (c.cs.drop off).take (n * sz) ++ xs⟩)
      | _ => False)
    | none => False
  | _ => False
theorem Cells.vals {b off : Nat} {cs : List AV} (h : Cells σ w b off cs) (h1 : (cs.all AV.one) = true) :
    ∃ news : List Value, news.length = cs.length ∧ (∀ j u, news[j]? = some u → w.cell? ((⟨b, off, none⟩ : Addr).add j) = some u) ∧ (∀ u ∈ news, u.oneCell' = true) ∧ ∀ i, i < cs.length → Rd σ w (cs.getD i .any) (news.getD i undef) := by
  obtain ⟨f, hf⟩ := h.fn
  refine ⟨(List.range cs.length).map f, by simp, fun j u hj => ?_, fun u hu => ?_, fun i hi => ?_⟩
  · have hj1 : j < cs.length := by
      rcases Nat.lt_or_ge j cs.length with h2 | h2
      · exact h2
      · simp [List.getElem?_eq_none (show ((List.range cs.length).map f).length ≤ j by simpa using h2)] at hj
    simp [hj1] at hj
    subst hj
    rw [addr_plus]
    exact (hf j hj1).1
  · simp at hu
    obtain ⟨i, hi, rfl⟩ := hu
    refine (hf i hi).2.one ?_
    rw [List.getD_eq_getElem?_getD, List.getElem?_eq_getElem hi, Option.getD_some]
    exact List.all_eq_true.1 h1 _ (List.getElem_mem _)
  · have : ((List.range cs.length).map f).getD i undef = f i := by simp [List.getD_eq_getElem?_getD, hi]
    rw [this]
    exact (hf i hi).2
/-- A row that is new, behind a draw. -/
theorem new_row {K : AV → Store → Prop} {σ1 : Store} (hm : Mem σ w) (h1 : ∀ b c, σ1 b = some c → σ b = some c) (h2 : ∀ b, σ (.b b) = none → σ1 (.b b) = none) (e : TypeId) (n cap sz : Nat) (cs : List AV) (cur : Array Value) (hl : cs.length = n * sz) (hn : n ≤ cap) (hc : cap ≤ maxLen) (hs : cur.size = cap * sz)
    (hr : ∀ i, i < cs.length → Rd σ w (cs.getD i .any) (cur.getD i undef)) (h : ∀ q, σ1 q = none → K (.vw q 0 n sz) (upd σ1 q ⟨e, cs⟩)) :
    ∃ r σ', K r σ' ∧ Rd σ' (w.drew.alloc (.cells cur e)) r (.slice (some ⟨w.heap.size, 0, none⟩) n cap) ∧ Mem σ' (w.drew.alloc (.cells cur e)) ∧ Stp σ w σ' (w.drew.alloc (.cells cur e)) := by
  have hf : σ1 (.b w.heap.size) = none := h2 _ (hm.fresh (Nat.le_refl _))
  have s1 := Stp.forget σ σ1 w h2
  have hm1 : Mem σ1 w.drew := (hm.forget h1).drew
  have s2 := Stp.alloc σ1 w.drew ⟨e, cs⟩ cur
  refine ⟨_, _, h _ hf, ?_, hm1.alloc ⟨e, cs⟩ cur ?_ (fun i hi => (hr i hi).mono s1.drew), s1.drew.trans s2⟩
  · exact .vw _ _ _ _ cap cur e (heap_alloc_new w.drew _) hn hc (by omega)
  · rw [hl, hs]; exact Nat.mul_le_mul_right _ hn
theorem zeros_app {zv : Value} {news : List Value} {m cap sz : Nat} (hz : zv.cells.size = sz) (hl : news.length = m * sz) (hc : m ≤ cap) : (news.toArray ++ Builtin.zeroCells zv.cells (cap - m)).size = cap * sz := by
  rw [Array.size_append, size_zeroCells, hz, List.size_toArray, hl, ← Nat.add_mul]
  congr 1; omega
theorem app_getD {news : List Value} {a : Array Value} {i : Nat} (h : i < news.length) : (news.toArray ++ a).getD i undef = news.getD i undef := by
  simp only [Array.getD_eq_getD_getElem?, List.getD_eq_getElem?_getD]
  rw [Array.getElem?_append_left (by simpa using h)]
  simp
/-- append on nil. -/
theorem app_nil {t ty e : TypeId} {jt : TypeInfo} {zv vx : Value} {m : Nat} {xs : List AV} {K : AV → Store → Prop} (σ1 : Store) (hm : Mem σ w) (hs1 : ∀ b c, σ1 b = some c → σ b = some c) (hs2 : ∀ b, σ (.b b) = none → σ1 (.b b) = none)
    (hu : P.underlying t = some (.slice e)) (q1 : P.info? e = some jt) (q4 : jt.zero = some zv) (hz : zv.cells.size = jt.size)
    (hxl : xs.length = m * jt.size) (hone : (xs.all AV.one) = true) (hv : (vx = .slice none 0 0 ∧ m = 0 ∧ xs = []) ∨ ∃ b off cap, vx = .slice (some ⟨b, off, none⟩) m cap ∧ Cells σ w b off xs)
    (hb : m * jt.bytes ≤ 140737488355328) (hmx : m ≤ 4611686018427387904) (h : ∀ q, σ1 q = none → K (.vw q 0 m jt.size) (upd σ1 q ⟨e, xs⟩)) : DoneV P (Builtin.append_ #[t, t] ty #[.slice none 0 0, vx]) σ w K := by
  have hempty : m = 0 → (Builtin.append_ #[t, t] ty #[.slice none 0 0, vx]).run P w = .ok (.slice none 0 0) w → DoneV P (Builtin.append_ #[t, t] ty #[.slice none 0 0, vx]) σ w K := by
    intro h0 hr
    subst h0
    obtain rfl : xs = [] := List.eq_nil_of_length_eq_zero (by simpa using hxl)
    have hm1 := hm.forget hs1
    obtain ⟨B, hB⟩ := hm1.fin
    refine ⟨_, w, .vw (.v B) 0 0 jt.size, upd σ1 (.v B) ⟨e, []⟩, hr, h _ (hB B (Nat.le_refl _)), .vwnil _ _, ?_, ?_⟩
    · refine ⟨fun p c hp => ?_, fun k c hk => ?_, fin_upd hm1.fin _ _⟩
      · rw [upd_ne _ _ (by simp)] at hp
        obtain ⟨cur, k1, k2, k3⟩ := hm1.pl p c hp
        exact ⟨cur, k1, k2, fun i hi => (k3 i hi).mono (Stp.forget _ _ w fun b hb => by rw [upd_ne _ _ (by simp)]; exact hb)⟩
      · by_cases hk2 : k = B
        · subst hk2; rw [upd_same] at hk; cases hk; rfl
        · rw [upd_ne _ _ (by simp; exact hk2)] at hk; exact hm1.vl k c hk
    · exact Stp.forget _ _ w fun b hb => by rw [upd_ne _ _ (by simp)]; exact hs2 b hb
  rcases hv with ⟨rfl, rfl, rfl⟩ | ⟨b, off, cap, rfl, hcells⟩
  · exact hempty rfl (run_append_x_none t ty e jt hu q1 none 0 0 (Nat.le_refl _))
  · obtain ⟨news, n1, n2, n3, n4⟩ := hcells.vals hone
    by_cases hm0 : m = 0
    · subst hm0
      obtain rfl : xs = [] := List.eq_nil_of_length_eq_zero (by simpa using hxl)
      obtain rfl : news = [] := List.eq_nil_of_length_eq_zero (by simpa using n1)
      exact hempty rfl (by simp [Builtin.append_, run_underlying hu, sizeOf, typeInfo, q1, Builtin.lenOf, Builtin.firstCells, loadCells, loadCellsFrom])
    · have hr := run_append_nil (P := P) w t ty e jt zv hu q1 q4 ⟨b, off, none⟩ m cap news (by rw [n1, hxl]) n2 (by omega) (by omega) (by omega)
      have hge := grownCap_ge w m 0 e
      have hcm := grownCap_le_maxLen w m 0 e (by unfold maxLen; omega)
      obtain ⟨r, σ', k1, k2, k3, k4⟩ := new_row hm hs1 hs2 e m (grownCap w m 0 e) jt.size xs (news.toArray ++ Builtin.zeroCells zv.cells (grownCap w m 0 e - m)) hxl hge hcm (zeros_app hz (by rw [n1, hxl]) hge)
        (fun i hi => by rw [app_getD (by omega)]; exact n4 i hi) h
      exact ⟨_, _, r, σ', hr, k1, k2, k3, k4⟩
set_option maxHeartbeats 1000000 in
theorem AAp.sound {t ty : TypeId} {d x : AV} {vd vx : Value} {K : AV → Store → Prop} (hT : TOk P T) (hm : Mem σ w) (hd : Rd σ w d vd) (hx : Rd σ w x vx) (h : AAp T t d x σ K) : DoneV P (Builtin.append_ #[t, t] ty #[vd, vx]) σ w K := by
  unfold AAp at h
  split at h
  case h_2 => exact h.elim
  rename_i sz0 by_ ag e z0 ht
  have hu := slice_of (hT t _ ht) rfl
  split at h
  case h_2 => exact h.elim
  rename_i j hj
  obtain ⟨jt, zv, q1, q2, q3, q4, q5, q6⟩ := (hT e j hj).info
  obtain ⟨hs0, m, xs, hsrc, hone, h⟩ := h
  obtain ⟨hxl, hv⟩ := hsrc.news hm hx
  rw [← q2] at q6
  rw [← q3, ← q2] at h
  rw [← q2] at hxl
  split at h
  · obtain ⟨hb, hmx, h⟩ := h
    cases hd
    exact app_nil σ hm (fun _ _ h => h) (fun _ h => h) hu q1 q4 q6 hxl hone hv hb hmx h.go
  · rename_i p off n sz
    obtain ⟨rfl, ⟨⟨ty, cs⟩, hp, hty, hlen, hb, hmx, h2, ⟨h⟩⟩⟩ := h
    obtain rfl : e = ty := hty.symm
    simp only at hlen h h2
    have es1 : ∀ b c, era σ p b = some c → σ b = some c := fun b c hc => by
      by_cases hbp : b = p
      · subst hbp; rw [era_same] at hc; cases hc
      · rw [era_ne _ hbp] at hc; exact hc
    have es2 : ∀ b, σ (.b b) = none → era σ p (.b b) = none := fun b hc => by
      by_cases hbp : Nm.b b = p
      · subst hbp; exact era_same _ _
      · rw [era_ne _ hbp]; exact hc
    cases hd with
    | vwnil k sz =>
      have hcs : cs = [] := hm.vl k _ hp
      subst hcs
      simp only [Nat.zero_add, List.drop_nil, List.take_nil, List.nil_append] at h hb hmx
      exact app_nil (era σ (.v k)) hm es1 es2 hu q1 q4 q6 hxl hone hv hb hmx h
    | vw p off n sz cap cur t' hcur hn hm' hs =>
      obtain ⟨cur2, k1, k2, k3⟩ := hm.pl p _ hp
      simp only at k1 k2 k3
      have hce : cur2 = cur ∧ e = t' := by rw [hcur] at k1; injection k1 with k1; injection k1 with k1 k4; exact ⟨k1.symm, k4.symm⟩
      obtain ⟨rfl, rfl⟩ := hce
      -- the row as it was, or written in place
      have inplace : ∀ (cur' : Array Value), cur'.size = cur2.size → (∀ i, i < (cs.take (off + n * jt.size) ++ xs).length → Rd σ w ((cs.take (off + n * jt.size) ++ xs).getD i .any) (cur'.getD i undef)) → off + n * jt.size + xs.length ≤ cur2.size → n + m ≤ cap →
          (Builtin.append_ #[t, t] ty #[.slice (some ⟨p, off, none⟩) n cap, vx]).run P w = .ok (.slice (some ⟨p, off, none⟩) (n + m) cap) (w.setRow p cur') → DoneV P (Builtin.append_ #[t, t] ty #[.slice (some ⟨p, off, none⟩) n cap, vx]) σ w K := by
        intro cur' hz hrd hfit hnm hr
        obtain ⟨m1, m2⟩ := place_set hm hp hcur cur' hz (cs.take (off + n * jt.size) ++ xs) (by simp; omega) hrd
        have hvw : Rd (upd σ (.b p) ⟨e, cs.take (off + n * jt.size) ++ xs⟩) (w.setRow p cur') (.vw (.b p) off (n + m) jt.size) (.slice (some ⟨p, off, none⟩) (n + m) cap) :=
          .vw p off _ _ cap cur' e (setRow_heap w p cur2 cur' e (0, 0) hcur) hnm hm' (by omega)
        by_cases ho : off = 0
        · subst ho
          have := h (.b p) (era_same _ _)
          rw [upd_era, List.drop_zero] at this
          rw [Nat.zero_add] at hvw m1 m2
          exact ⟨_, _, _, _, hr, this, hvw, m1, m2⟩
        · exact ⟨_, _, _, _, hr, h2 ho, hvw, m1, m2⟩
      have hold : ∀ i, i < off + n * jt.size → Rd σ w (cs.getD i .any) (cur2.getD i undef) := fun i hi => k3 i (by omega)
      have htl : (cs.take (off + n * jt.size)).length = off + n * jt.size := by simp; omega
      rcases hv with ⟨rfl, rfl, rfl⟩ | ⟨b, bo, bc, rfl, hcells⟩
      · refine inplace cur2 rfl (fun i hi => ?_) (by simp; omega) (by omega) ?_
        · rw [List.append_nil] at hi ⊢
          rw [htl] at hi
          rw [getD_take _ _ _ _ hi]
          exact hold i hi
        · rw [setRow_self w p cur2 e (0, 0) hcur]
          exact run_append_x_none t ty e jt hu q1 _ n cap hn
      · obtain ⟨news, n1, n2, n3, n4⟩ := hcells.vals hone
        by_cases hroom : n + m ≤ cap
        · have hfit : off + n * jt.size + news.length ≤ cur2.size := by
            rw [n1, hxl, Nat.add_assoc, ← Nat.add_mul]
            exact Nat.le_trans (Nat.add_le_add_left (Nat.mul_le_mul_right _ hroom) _) hs
          refine inplace _ ?_ (fun i hi => ?_) (by rw [← n1]; exact hfit) hroom (run_append_room_off t ty e jt hu q1 p off n cap cur2 hcur ⟨b, bo, none⟩ m bc news (by rw [n1, hxl]) n2 n3 hroom hfit)
          · simp; omega
          · rw [List.length_append, htl] at hi
            by_cases hlo : i < off + n * jt.size
            · have e1 : (cs.take (off + n * jt.size) ++ xs).getD i .any = cs.getD i .any := by
                simp only [List.getD_eq_getElem?_getD]
                rw [List.getElem?_append_left (by omega)]
                simp [hlo]
              have e2 : (cur2.toList.take (off + n * jt.size) ++ news ++ cur2.toList.drop (off + n * jt.size + news.length)).toArray.getD i undef = cur2.getD i undef := by
                simp only [Array.getD_eq_getD_getElem?, List.getElem?_toArray, List.append_assoc]
                rw [List.getElem?_append_left (by simp; omega)]
                simp [hlo]
              rw [e1, e2]
              exact hold i hlo
            · have e1 : (cs.take (off + n * jt.size) ++ xs).getD i .any = xs.getD (i - (off + n * jt.size)) .any := by
                simp only [List.getD_eq_getElem?_getD]
                rw [List.getElem?_append_right (by omega), htl]
              have e2 : (cur2.toList.take (off + n * jt.size) ++ news ++ cur2.toList.drop (off + n * jt.size + news.length)).toArray.getD i undef = news.getD (i - (off + n * jt.size)) undef := by
                simp only [Array.getD_eq_getD_getElem?, List.getElem?_toArray, List.append_assoc, List.getD_eq_getElem?_getD]
                rw [List.getElem?_append_right (by simp; omega), List.getElem?_append_left (by simp; omega)]
                congr 2; simp; omega
              rw [e1, e2]
              exact n4 _ (by omega)
        · obtain ⟨f, hf⟩ := ((hm.cells hp).sub off (n * jt.size)).fn
          simp only [Nat.zero_add] at hf
          have hol : ((cs.drop off).take (n * jt.size)).length = n * jt.size := by simp; omega
          have hr := run_append_grow (P := P) w t ty e jt zv hu q1 q4 ⟨p, off, none⟩ n cap ((List.range (n * jt.size)).map f) (by simp) (fun i v hi => by
              have hi1 : i < n * jt.size := by
                rcases Nat.lt_or_ge i (n * jt.size) with h9 | h9
                · exact h9
                · simp [List.getElem?_eq_none (show ((List.range (n * jt.size)).map f).length ≤ i by simpa using h9)] at hi
              simp [hi1] at hi
              subst hi
              rw [addr_plus]
              exact (hf i (by omega)).1) ⟨b, bo, none⟩ m bc news (by rw [n1, hxl]) n2 (by omega) (by omega) (growslice_fits (by omega) hb)
          have hge := grownCap_ge w (n + m) cap e
          have hcm := grownCap_le_maxLen w (n + m) cap e (by unfold maxLen; omega)
          have hcat : ((List.range (n * jt.size)).map f).toArray ++ news.toArray = (((List.range (n * jt.size)).map f) ++ news).toArray := by simp
          rw [hcat] at hr
          have hl2 : (((List.range (n * jt.size)).map f) ++ news).length = (n + m) * jt.size := by simp [n1, hxl, Nat.add_mul]
          obtain ⟨r, σ', g1, g2, g3, g4⟩ := new_row hm es1 es2 e (n + m) (grownCap w (n + m) cap e) jt.size ((cs.drop off).take (n * jt.size) ++ xs) ((((List.range (n * jt.size)).map f) ++ news).toArray ++ Builtin.zeroCells zv.cells (grownCap w (n + m) cap e - (n + m)))
            (by rw [List.length_append, hol, hxl, Nat.add_mul]) hge hcm (zeros_app q6 hl2 hge)
            (fun i hi => by
              rw [List.length_append, hol] at hi
              rw [app_getD (by rw [hl2, Nat.add_mul]; omega)]
              by_cases hlo : i < n * jt.size
              · have e1 : ((cs.drop off).take (n * jt.size) ++ xs).getD i .any = ((cs.drop off).take (n * jt.size)).getD i .any := by
                  simp only [List.getD_eq_getElem?_getD]
                  rw [List.getElem?_append_left (by omega)]
                have e2 : (((List.range (n * jt.size)).map f) ++ news).getD i undef = f i := by
                  simp only [List.getD_eq_getElem?_getD]
                  rw [List.getElem?_append_left (by simp; omega)]
                  simp [hlo]
                rw [e1, e2]
                exact (hf i (by omega)).2
              · have e1 : ((cs.drop off).take (n * jt.size) ++ xs).getD i .any = xs.getD (i - n * jt.size) .any := by
                  simp only [List.getD_eq_getElem?_getD]
                  rw [List.getElem?_append_right (by omega), hol]
                have e2 : (((List.range (n * jt.size)).map f) ++ news).getD i undef = news.getD (i - n * jt.size) undef := by
                  simp only [List.getD_eq_getElem?_getD]
                  rw [List.getElem?_append_right (by simp; omega)]
                  simp
                rw [e1, e2]
                exact n4 _ (by omega)) h
          exact ⟨_, _, r, σ', hr, g1, g2, g3, g4⟩
  · exact h.elim
/-- Cells of a place are written. -/
theorem cells_set {p : Nat} {c : Pl} (hm : Mem σ w) (h1 : σ (.b p) = some c) {off : Nat} {cs : List AV} {us : List Value} (hl : us.length = cs.length) (hr : ∀ i, i < cs.length → Rd σ w (cs.getD i .any) (us.getD i undef)) (hone : ∀ v ∈ us, v.oneCell' = true) (h3 : off + cs.length ≤ c.cs.length) :
    ∃ w', (storeCells ⟨p, off, none⟩ us 0).run P w = .ok () w' ∧ Mem (upd σ (.b p) ⟨c.ty, splice c.cs off cs⟩) w' ∧ Stp σ w (upd σ (.b p) ⟨c.ty, splice c.cs off cs⟩) w' := by
  obtain ⟨cur, k1, k2, k3⟩ := hm.pl p c h1
  have hs := run_storeCells_at (P := P) p off c.ty us 0 cur w k1 (by omega) hone
  simp only [Nat.add_zero] at hs
  have hps := place_set hm h1 k1 (cur.toList.take off ++ us ++ cur.toList.drop (off + us.length)).toArray
    (by simp; omega) (splice c.cs off cs) (by simp [splice]; omega) (fun j hj => by
      simp [splice] at hj
      simp only [splice, hl]
      rcases Nat.lt_or_ge j off with hlo | hlo
      · have e1 : (c.cs.take off ++ cs ++ c.cs.drop (off + cs.length)).getD j .any = c.cs.getD j .any := by
          simp only [List.getD_eq_getElem?_getD, List.append_assoc]
          rw [List.getElem?_append_left (by simp; omega)]
          simp [hlo]
        have e2 : (cur.toList.take off ++ us ++ cur.toList.drop (off + cs.length)).toArray.getD j undef = cur.getD j undef := by
          simp only [Array.getD_eq_getD_getElem?, List.getElem?_toArray, List.append_assoc]
          rw [List.getElem?_append_left (by simp; omega)]
          simp [hlo]
        rw [e1, e2]
        exact k3 j (by omega)
      · rcases Nat.lt_or_ge j (off + cs.length) with hmid | hmid
        · have e1 : (c.cs.take off ++ cs ++ c.cs.drop (off + cs.length)).getD j .any = cs.getD (j - off) .any := by
            simp only [List.getD_eq_getElem?_getD, List.append_assoc]
            rw [List.getElem?_append_right (by simp; omega), List.getElem?_append_left (by simp; omega)]
            congr 2; simp; omega
          have e2 : (cur.toList.take off ++ us ++ cur.toList.drop (off + cs.length)).toArray.getD j undef = us.getD (j - off) undef := by
            simp only [Array.getD_eq_getD_getElem?, List.getElem?_toArray, List.append_assoc, List.getD_eq_getElem?_getD]
            rw [List.getElem?_append_right (by simp; omega), List.getElem?_append_left (by simp; omega)]
            congr 2; simp; omega
          rw [e1, e2]
          exact hr (j - off) (by omega)
        · have e1 : (c.cs.take off ++ cs ++ c.cs.drop (off + cs.length)).getD j .any = c.cs.getD j .any := by
            simp only [List.getD_eq_getElem?_getD, List.append_assoc]
            rw [List.getElem?_append_right (by simp; omega), List.getElem?_append_right (by simp; omega)]
            simp
            congr 2; omega
          have e2 : (cur.toList.take off ++ us ++ cur.toList.drop (off + cs.length)).toArray.getD j undef = cur.getD j undef := by
            simp only [Array.getD_eq_getD_getElem?, List.getElem?_toArray, List.append_assoc]
            rw [List.getElem?_append_right (by simp; omega), List.getElem?_append_right (by simp; omega)]
            simp
            congr 2; omega
          rw [e1, e2]
          exact k3 j (by omega))
  exact ⟨_, hs, hps.1, hps.2⟩
/-- copy. -/
def ACp (T : Tys) (t : TypeId) (d x : AV) (σ : Store) (K : AV → Store → Prop) : Prop :=
  match T t with
  | some ⟨_, _, _, .slice e, _⟩ =>
    match T e with
    | some j => ∃ m xs, Src σ j.size x m xs ∧ (xs.all AV.one) = true ∧ (match d with
      | .vw p off n sz | .ap p off n sz => sz = j.size ∧ AHas σ p fun c => off + n * sz ≤ c.cs.length ∧ K (.int .i64 (Nat.min m n : Nat)) (upd σ p ⟨c.ty, splice c.cs off (xs.take (Nat.min m n * sz))⟩)
      | _ => False)
    | none => False
  | _ => False
theorem splice_nil (l : List AV) (off : Nat) : splice l off [] = l := by simp [splice]
theorem upd_self (σ : Store) {p : Nm} {c : Pl} (h : σ p = some c) : upd σ p c = σ := by
  funext x; unfold upd; split
  · rename_i hx; subst hx; exact h.symm
  · rfl
theorem ACp.sound {t t' ty : TypeId} {d x : AV} {vd vx : Value} {K : AV → Store → Prop} (hT : TOk P T) (hm : Mem σ w) (hd : Rd σ w d vd) (hx : Rd σ w x vx) (h : ACp T t d x σ K) : DoneV P (Builtin.copy_ #[t, t'] ty #[vd, vx]) σ w K := by
  unfold ACp at h
  split at h
  case h_2 => exact h.elim
  rename_i sz0 by_ ag e z0 ht
  have hu := slice_of (hT t _ ht) rfl
  split at h
  case h_2 => exact h.elim
  rename_i j hj
  have hsz := (hT e j hj).size
  obtain ⟨m, xs, hsrc, hone, h⟩ := h
  obtain ⟨hxl, hv⟩ := hsrc.news hm hx
  have main : ∀ (p : Nat) (off n cap : Nat) (c : Pl), σ (.b p) = some c → off + n * j.size ≤ c.cs.length → K (.int .i64 (Nat.min m n : Nat)) (upd σ (.b p) ⟨c.ty, splice c.cs off (xs.take (Nat.min m n * j.size))⟩) →
      DoneV P (Builtin.copy_ #[t, t'] ty #[.slice (some ⟨p, off, none⟩) n cap, vx]) σ w K := by
    intro p off n cap c hp hlen hk
    rcases hv with ⟨rfl, rfl, rfl⟩ | ⟨b, bo, bc, rfl, hcells⟩
    · simp only [List.take_nil, splice_nil] at hk
      rw [upd_self σ hp] at hk
      refine DoneV.same hm (v := goInt 0) ?_ (.int _ _) (by simpa using hk)
      simp [Builtin.copy_, run_underlying hu, Builtin.lenOf, Builtin.firstCells, hsz, storeCells]
    · obtain ⟨news, n1, n2, n3, n4⟩ := hcells.vals hone
      have hle : Nat.min m n * j.size ≤ xs.length := by rw [hxl]; exact Nat.mul_le_mul_right _ (Nat.min_le_left _ _)
      have hle2 : Nat.min m n * j.size ≤ n * j.size := Nat.mul_le_mul_right _ (Nat.min_le_right _ _)
      have hlt : (news.take (Nat.min m n * j.size)).length = Nat.min m n * j.size := by simp only [List.length_take]; omega
      have hlx : (xs.take (Nat.min m n * j.size)).length = Nat.min m n * j.size := by simp only [List.length_take]; omega
      obtain ⟨w', g1, g2, g3⟩ := cells_set (P := P) hm hp (off := off) (cs := xs.take (Nat.min m n * j.size)) (us := news.take (Nat.min m n * j.size)) (by omega) (fun i hi => by
        rw [hlx] at hi
        have e1 : (xs.take (Nat.min m n * j.size)).getD i .any = xs.getD i .any := getD_take _ _ _ _ hi
        have e2 : (news.take (Nat.min m n * j.size)).getD i undef = news.getD i undef := by simp [List.getD_eq_getElem?_getD, hi]
        rw [e1, e2]
        exact n4 i (by omega)) (fun v hv => n3 v (List.mem_of_mem_take hv)) (by omega)
      have hf := run_firstCells_some (P := P) (w := w) j.size (Nat.min m n) ⟨b, bo, none⟩ m bc (news.take (Nat.min m n * j.size)) hlt (fun i v hi => n2 i v (by
        rw [List.getElem?_take] at hi
        split at hi
        · exact hi
        · cases hi))
      refine ⟨goInt (Nat.min m n : Nat), w', _, _, ?_, hk, .int _ _, g2, g3⟩
      simp only [Builtin.copy_, Builtin.lenOf]
      simp [run_underlying hu, hsz, hf, g1]
  split at h
  · rename_i p off n sz
    obtain ⟨rfl, ⟨c, hp, hlen, hk⟩⟩ := h
    cases hd with
    | vw p off n sz cap cur t' hcur hn hm' hs => exact main p off n cap c hp hlen hk
    | vwnil k sz =>
      have hcs : c.cs = [] := hm.vl k _ hp
      have hz : Nat.min m 0 = 0 := Nat.min_zero m
      rw [hz] at hk
      simp only [Nat.zero_mul, List.take_zero, splice_nil] at hk
      rw [upd_self σ hp] at hk
      refine DoneV.same hm (v := goInt 0) ?_ (.int _ _) (by simpa using hk)
      have hld : ∀ a : Addr, (loadCells a 0).run P w = .ok #[] w := fun a => by simpa using run_loadCells_list (P := P) w a [] (by simp)
      rcases hv with ⟨rfl, rfl, rfl⟩ | ⟨b, bo, bc, rfl, hcells⟩
      · simp [Builtin.copy_, run_underlying hu, Builtin.lenOf, Builtin.firstCells, hsz]
      · simp [Builtin.copy_, run_underlying hu, Builtin.lenOf, Builtin.firstCells, hsz, hld]
  · rename_i p off n sz
    obtain ⟨rfl, ⟨c, hp, hlen, hk⟩⟩ := h
    cases hd with
    | ap p off n sz cap hn hm' => exact main p off n cap c hp hlen hk
  · exact h.elim
end
end Go.Proofs.YtdpfcpkedaolfaaDoor
