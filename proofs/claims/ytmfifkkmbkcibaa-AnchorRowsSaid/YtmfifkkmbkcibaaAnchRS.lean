/-
  Plain: what the rows of AnchorRows are.
-/
import Derived.Test.YtmfifkkmbkcibaaAnchW
namespace Go.Proofs.Ytmfifkkmbkcibaa
set_option linter.unusedVariables false
set_option linter.unusedSimpArgs false

/-- The messages on the way, numbered from n on, put at the ticks. -/
def onWay (d : Int) : Nat → List Int → List Msg
  | _, [] => []
  | n, a :: r => ⟨a + d, 0, 0, 0, n, [], []⟩ :: onWay d (n + 1) r
theorem onWay_len (d : Int) : ∀ (ts : List Int) (n : Nat), (onWay d n ts).length = ts.length
  | [], _ => rfl
  | a :: r, n => by simp [onWay, onWay_len d r (n + 1)]
theorem onWay_get (d : Int) : ∀ (ts : List Int) (n i : Nat) (h : i < ts.length), (onWay d n ts)[i]'(by rw [onWay_len]; exact h) = ⟨ts[i] + d, 0, 0, 0, (n + i : Nat), [], []⟩
  | [], n, i, h => by simp at h
  | a :: r, n, 0, h => rfl
  | a :: r, n, i + 1, h => by
    have := onWay_get d r (n + 1) i (by simpa using h)
    simp only [onWay, List.getElem_cons_succ]
    rw [this]
    congr 2
    omega
theorem onWay_append (d : Int) (x : Int) : ∀ (ts : List Int) (n : Nat), onWay d n (ts ++ [x]) = onWay d n ts ++ [⟨x + d, 0, 0, 0, (n + ts.length : Nat), [], []⟩]
  | [], n => by simp [onWay]
  | a :: r, n => by
    simp only [List.cons_append, onWay, onWay_append d x r (n + 1), List.length_cons]
    rw [show n + 1 + r.length = n + (r.length + 1) by omega]
theorem onWay_drop (d : Int) : ∀ (ts : List Int) (n u : Nat), (onWay d n ts).drop u = onWay d (n + u) (ts.drop u)
  | [], n, u => by simp [onWay]
  | a :: r, n, 0 => rfl
  | a :: r, n, u + 1 => by
    simp only [onWay, List.drop_succ_cons, onWay_drop d r (n + 1) u]
    rw [show n + 1 + u = n + (u + 1) by omega]
theorem onWay_ok (d : Int) (hd : 0 ≤ d) (hd1 : d ≤ 11) : ∀ (ts : List Int) (n : Nat) (l : Int), ts.Pairwise (· ≤ ·) → (∀ a ∈ ts, l ≤ a + d ∧ a ≤ 100) → okm l (onWay d n ts) = true
  | [], _, _, _, _ => rfl
  | a :: r, n, l, hp, hb => by
    have h1 := hb a (by simp)
    simp only [onWay, okm]
    rw [if_neg (by omega)]
    rw [List.pairwise_cons] at hp
    exact onWay_ok d hd hd1 r (n + 1) (a + d) hp.2 (fun x hx => ⟨by have := hp.1 x hx; omega, (hb x (by simp [hx])).2⟩)
theorem onWay_last (d : Int) : ∀ (ts : List Int) (n : Nat) (m : Msg), (onWay d n ts).getLast? = some m → ∃ a ∈ ts, m.arr = a + d
  | [], n, m, h => by simp [onWay] at h
  | [a], n, m, h => by simp [onWay] at h; subst h; exact ⟨a, by simp, rfl⟩
  | a :: b :: r, n, m, h => by
    have : (onWay d (n + 1) (b :: r)).getLast? = some m := by
      simp only [onWay] at h ⊢
      rw [List.getLast?_cons_cons] at h
      exact h
    obtain ⟨x, hx, e⟩ := onWay_last d (b :: r) (n + 1) m this
    exact ⟨x, by simp at hx ⊢; exact .inr hx, e⟩

/-- The state of the row: ticks so far, how many have come. -/
structure Good (d : Int) (ts : List Int) (nx : Nat) (t : Int) : Prop where
  le : nx ≤ ts.length
  few : ts.length ≤ 60
  up : ts.Pairwise (· ≤ ·)
  rng : ∀ a ∈ ts, 0 ≤ a ∧ a ≤ t ∧ a ≤ 79
theorem Good.bgn {d : Int} {ts : List Int} {nx : Nat} {t : Int} (g : Good d ts nx t) (hd : 0 ≤ d) (hd1 : d ≤ 11) (ht : 0 ≤ t) (ht1 : t ≤ 99) : bgn d (onWay d nx (ts.drop nx)) t = 0 := by
  have hc : chk d (onWay d nx (ts.drop nx)) = 0 := by
    unfold chk
    have := g.few
    rw [if_neg (by omega), if_neg (by rw [onWay_len, List.length_drop]; omega), onWay_ok d hd hd1 _ _ _ (g.up.sublist (List.drop_sublist _ _)) (fun a ha => by have := g.rng a (List.mem_of_mem_drop ha); omega)]
    rfl
  unfold Go.Proofs.Ytmfifkkmbkcibaa.bgn
  rw [if_pos hc, if_neg (by omega)]
theorem Good.put {d : Int} {ts : List Int} {nx : Nat} {t : Int} (g : Good d ts nx t) (hd : 0 ≤ d) (hd1 : d ≤ 11) (ht : 0 ≤ t) (ht1 : t ≤ 99) : put d (onWay d nx (ts.drop nx)) ⟨0, 0, 0, 0, ts.length, [], []⟩ t = (onWay d nx ((ts ++ [t]).drop nx), 0) := by
  unfold Go.Proofs.Ytmfifkkmbkcibaa.put
  have hf := g.few
  have hle := g.le
  rw [if_pos (g.bgn hd hd1 ht ht1), if_neg (by rw [onWay_len, List.length_drop]; omega), List.drop_append_of_le_length g.le, onWay_append]
  have hdue : due d (onWay d nx (ts.drop nx)) t = t + d := by
    unfold due
    cases h : (onWay d nx (ts.drop nx)).getLast? with
    | none => rfl
    | some m =>
      obtain ⟨a, ha, e⟩ := onWay_last d _ _ _ h
      have := g.rng a (List.mem_of_mem_drop ha)
      simp only []
      omega
  rw [hdue, List.length_drop, show nx + (ts.length - nx) = ts.length by omega]
theorem Good.push {d : Int} {ts : List Int} {nx : Nat} {t : Int} (g : Good d ts nx t) (h1 : ts.length < 60) (ht : 0 ≤ t) (ht1 : t ≤ 79) : Good d (ts ++ [t]) nx t where
  le := by have := g.le; simp; omega
  few := by simp; omega
  up := by
    rw [List.pairwise_append]
    exact ⟨g.up, by simp, fun a ha b hb => by simp at hb; subst hb; exact (g.rng a ha).2.1⟩
  rng := fun a ha => by
    rcases List.mem_append.1 ha with h | h
    · exact g.rng a h
    · simp at h; subst h; omega
theorem Good.step {d : Int} {ts : List Int} {nx : Nat} {t : Int} (g : Good d ts nx t) : Good d ts nx (t + 1) := ⟨g.le, g.few, g.up, fun a ha => by have := g.rng a ha; omega⟩
theorem Good.take {d : Int} {ts : List Int} {nx : Nat} {t : Int} (g : Good d ts nx t) (hd : 0 ≤ d) (hd1 : d ≤ 11) (ht : 0 ≤ t) (ht1 : t ≤ 99) :
    ∃ u, nx + u ≤ ts.length ∧ take d (onWay d nx (ts.drop nx)) t = (onWay d (nx + u) (ts.drop (nx + u)), (onWay d nx (ts.drop nx)).take u, 0) ∧ (∀ i (h : i < ts.length), nx ≤ i → i < nx + u → ts[i] + d ≤ t) ∧ (∀ h : nx + u < ts.length, ¬ ts[nx + u] + d ≤ t) ∧ (t = 99 → nx + u = ts.length) ∧ Good d ts (nx + u) t := by
  refine ⟨upto t (onWay d nx (ts.drop nx)), ?_⟩
  have hle := upto_le t (onWay d nx (ts.drop nx))
  have hend := upto_end t (onWay d nx (ts.drop nx))
  have hlt := upto_lt t (onWay d nx (ts.drop nx))
  have hl : (onWay d nx (ts.drop nx)).length = ts.length - nx := by rw [onWay_len, List.length_drop]
  have htk : Go.Proofs.Ytmfifkkmbkcibaa.take d (onWay d nx (ts.drop nx)) t = ((onWay d nx (ts.drop nx)).drop (upto t (onWay d nx (ts.drop nx))), (onWay d nx (ts.drop nx)).take (upto t (onWay d nx (ts.drop nx))), 0) := by
    unfold Go.Proofs.Ytmfifkkmbkcibaa.take; rw [if_pos (g.bgn hd hd1 ht ht1)]
  rw [htk]
  generalize upto t (onWay d nx (ts.drop nx)) = u at *
  have hnl := g.le
  have hend : ∀ h : nx + u < ts.length, ¬ ts[nx + u] + d ≤ t := fun h => by
    have h1 := hend (by omega)
    rw [onWay_get d _ _ _ (by rw [List.length_drop]; omega)] at h1
    simpa using h1
  refine ⟨by omega, by rw [onWay_drop, List.drop_drop], fun i h h1 h2 => ?_, hend, fun ht => ?_, ⟨by omega, g.few, g.up, g.rng⟩⟩
  · obtain ⟨j, rfl⟩ := Nat.exists_eq_add_of_le h1
    have h3 := hlt j (by omega) (by omega)
    rw [onWay_get d _ _ _ (by rw [List.length_drop]; omega)] at h3
    simpa using h3
  · by_cases h : nx + u < ts.length
    · have h1 := hend h
      have := g.rng ts[nx + u] (List.getElem_mem _)
      omega
    · omega
/-- How many puts come ahead of a tick; how many of the first i at it. -/
def ahead (ps : List UInt8) (t : Nat) : Nat := (ps.filter fun p => decide (p.toNat % 80 < t)).length
def here (ps : List UInt8) (t i : Nat) : Nat := ((ps.take i).filter fun p => decide (p.toNat % 80 = t)).length
theorem ahead_here : ∀ (ps : List UInt8) (t i : Nat), ahead ps t + here ps t i ≤ ps.length
  | [], t, i => by simp [ahead, here]
  | p :: ps, t, 0 => by have := List.length_filter_le (fun p : UInt8 => decide (p.toNat % 80 < t)) (p :: ps); simp [ahead, here] at *; omega
  | p :: ps, t, i + 1 => by
    have := ahead_here ps t i
    simp only [ahead, here, List.filter_cons, List.take_succ_cons, List.length_cons] at *
    split <;> split <;> simp at * <;> omega
theorem here_step (ps : List UInt8) (t i : Nat) (h : i < ps.length) : here ps t (i + 1) = here ps t i + (if ps[i].toNat % 80 = t then 1 else 0) := by
  unfold here
  rw [List.take_succ_eq_append_getElem h, List.filter_append, List.length_append]
  congr 1
  rw [List.filter_cons]
  split <;> simp_all
theorem here_zero (ps : List UInt8) (t : Nat) : here ps t 0 = 0 := by simp [here]
theorem ahead_next : ∀ (ps : List UInt8) (t : Nat), ahead ps (t + 1) = ahead ps t + here ps t ps.length
  | [], t => by simp [ahead, here]
  | p :: ps, t => by
    have := ahead_next ps t
    simp only [ahead, here, List.filter_cons, List.take_length] at *
    by_cases h1 : p.toNat % 80 < t
    · have h2 : p.toNat % 80 < t + 1 := by omega
      have h3 : ¬ p.toNat % 80 = t := by omega
      simp [h1, h2, h3]; omega
    · by_cases h3 : p.toNat % 80 = t
      · have h2 : p.toNat % 80 < t + 1 := by omega
        simp [h1, h2, h3]; omega
      · have h2 : ¬ p.toNat % 80 < t + 1 := by omega
        simp [h1, h2, h3]; omega
theorem ahead_zero (ps : List UInt8) : ahead ps 0 = 0 := by simp [ahead]
end Go.Proofs.Ytmfifkkmbkcibaa
