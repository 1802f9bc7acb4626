/-
  Plain facts: appending to a row of the call's own, elements of any shape; readings of integers and bytes.
-/
import Derived.Test.YtmfifkkmbkcibaaRep
import Derived.Laws.AppendOwnNone
namespace Go.Proofs.Ytmfifkkmbkcibaa
set_option linter.unusedVariables false
open Go.RowKit

section
variable {P : Program} {w : World}
/-- Behind an append the row is the old one, or a new one. -/
theorem append_where (base : Nat) (t ty e : TypeId) (i : TypeInfo) (z : Value) (size bytes : Nat) (ht : P.underlying t = some (.slice e)) (hi : P.info? e = some i) (hz : i.zero = some z)
    (hsize : i.size = size) (hby : i.bytes = bytes)
    (v : Value) (n : Nat) (xs : List Value) (hown : w.ownsRow base e size v n xs)
    (a : Addr) (m c : Nat) (news : List Value) (hl : news.length = m * size) (hnews : ∀ j u, news[j]? = some u → w.cell? (a.add j) = some u) (h1 : ∀ u ∈ news, u.oneCell' = true)
    (h63 : n + m ≤ maxLen) (hbytes : (n + m) * bytes ≤ 140737488355328) {v' : Value} {w' : World}
    (hr : (Builtin.append_ #[t, t] ty #[v, .slice (some a) m c]).run P w = .ok v' w') : v'.ownBlock = v.ownBlock ∨ v'.ownBlock = some w.heap.size := by
  subst hsize
  subst hby
  have hsmall : n + m ≤ 9223372036854775807 := by simp only [maxLen] at h63; omega
  rcases hown.2 with ⟨rfl, rfl⟩ | ⟨g, cap, cur, rfl, hbg, hg, hnc, hcm, hcs, htake⟩
  · by_cases hm : m = 0
    · subst hm
      obtain rfl : news = [] := List.eq_nil_of_length_eq_zero (by simpa using hl)
      have h2 : (Builtin.append_ #[t, t] ty #[.slice none 0 0, .slice (some a) 0 c]).run P w = .ok (.slice none 0 0) w := by
        simp [Builtin.append_, run_underlying ht, sizeOf, typeInfo, hi, Builtin.lenOf, Builtin.firstCells, loadCells, loadCellsFrom]
      rw [h2] at hr
      injection hr with e1 e2
      exact .inl (by rw [← e1])
    · have h2 := run_append_nil (P := P) w t ty e i z ht hi hz a m c news hl hnews (by omega) (by omega) (by have hb := hbytes; simp only [Nat.zero_add] at hb; omega)
      rw [h2] at hr
      injection hr with e1 e2
      exact .inr (by rw [← e1]; rfl)
  · by_cases hroom : n + m ≤ cap
    · have hfit : n * i.size + news.length ≤ cur.size := by rw [hl, hcs, ← Nat.add_mul]; exact Nat.mul_le_mul_right _ hroom
      have h2 := run_append_room (P := P) w t ty e i ht hi g n cap cur hg a m c news hl hnews h1 hroom hfit
      rw [h2] at hr
      injection hr with e1 e2
      exact .inl (by rw [← e1]; rfl)
    · have holds : ∀ j u, xs[j]? = some u → w.cell? ((⟨g, 0, none⟩ : Addr).add j) = some u := hown.cells (g := g) rfl
      have h2 := run_append_grow (P := P) w t ty e i z ht hi hz ⟨g, 0, none⟩ n cap xs hown.1 holds a m c news hl hnews (by omega) (by omega) (growslice_fits (by omega) hbytes)
      rw [h2] at hr
      injection hr with e1 e2
      exact .inr (by rw [← e1]; rfl)
end

section
variable {α : Type} {R : Rep α} {S : Nat → Prop} {w : World}
variable {P : Program} {ops : Array Oper} {rest : List Oper} {o : Oper} {a : Act} {Q : Exit → Act → World → Prop}
theorem addr_add (b off j : Nat) : (⟨b, off, none⟩ : Addr).add j = ⟨b, off + j, none⟩ := by unfold Addr.add; split <;> simp_all

theorem run_appR (t ty : TypeId) (base : Nat) (e : TypeId) (i : TypeInfo) (z : Value) (bytes : Nat) (ht : P.underlying t = some (.slice e)) (hi : P.info? e = some i) (hz : i.zero = some z)
    (hsize : i.size = R.n) (hby : i.bytes = bytes) (hzs : z.cells.size = R.n) (hn : 0 < R.n)
    (dv : Value) (xs : List α) (hown : Own R S base e w dv xs) (v : Value) (ys : List α) (hsl : Sl R S w v ys) (hne : ∀ b, S b → b < w.heap.size → some b ≠ dv.ownBlock)
    (h63 : xs.length + ys.length ≤ maxLen) (hbytes : (xs.length + ys.length) * bytes ≤ 140737488355328) (hbase : base ≤ w.heap.size) :
    ∃ v' w', (Builtin.append_ #[t, t] ty #[dv, v]).run P w = .ok v' w' ∧ Own R S base e w' v' (xs ++ ys) ∧ w.grownBy w' dv.ownBlock ∧ (v'.ownBlock = dv.ownBlock ∨ v'.ownBlock = some w.heap.size) := by
  obtain ⟨cs, h1, h2⟩ := hown
  obtain ⟨av, cap, rfl, hc1, hc2, hc3, hc4⟩ := hsl
  have main : ∀ (ad : Addr) (news : List Value), av = some ad → RdL R S w news ys → (∀ j u, news[j]? = some u → w.cell? (ad.add j) = some u) → ∃ v' w', (Builtin.append_ #[t, t] ty #[dv, .slice av ys.length cap]).run P w = .ok v' w' ∧ Own R S base e w' v' (xs ++ ys) ∧ w.grownBy w' dv.ownBlock ∧ (v'.ownBlock = dv.ownBlock ∨ v'.ownBlock = some w.heap.size) := fun ad news hav hr hnews => by
    subst hav
    obtain ⟨v', w', hrun, h3, h4, h5⟩ := run_append_own (P := P) w base t ty e i z R.n bytes ht hi hz hsize hby hzs hn dv xs.length cs h1 ad ys.length cap news hr.len hnews hr.one h63 hbytes hbase
    have hwh := append_where base t ty e i z R.n bytes ht hi hz hsize hby dv xs.length cs h1 ad ys.length cap news hr.len hnews hr.one h63 hbytes hrun
    refine ⟨v', w', hrun, ⟨cs ++ news, by rw [List.length_append]; exact h3, RdL.append ?_ ?_⟩, h4, hwh⟩
    · refine (h2.lt (S' := fun b => (S b ∧ some b ≠ v'.ownBlock) ∧ some b ≠ dv.ownBlock) (fun b hb hlt => ⟨⟨hb.1, ?_⟩, hb.2⟩)).kept (fun b hb hlt => h4.block b hlt hb.2) |>.lt (fun b hb _ => hb.1)
      rcases hwh with h | h
      · rw [h]; exact hb.2
      · rw [h]; intro h6; injection h6 with h6; omega
    · refine (hr.lt (S' := fun b => (S b ∧ some b ≠ v'.ownBlock) ∧ some b ≠ dv.ownBlock) (fun b hb hlt => ⟨⟨hb, ?_⟩, hne b hb hlt⟩)).kept (fun b hb hlt => h4.block b hlt hb.2) |>.lt (fun b hb _ => hb.1)
      rcases hwh with h | h
      · rw [h]; exact hne b hb hlt
      · rw [h]; intro h6; injection h6 with h6; omega
  by_cases hp : 0 < ys.length
  · obtain ⟨b, off, rfl, hb, ds, hr, hcell⟩ := hc4 hp
    exact main ⟨b, off, none⟩ ds rfl hr (fun j u hj => by
      rw [addr_add, hcell j (List.getElem?_eq_some_iff.1 hj).1]; exact hj)
  · obtain rfl : ys = [] := List.eq_nil_of_length_eq_zero (by omega)
    cases av with
    | none =>
      obtain rfl := hc3 rfl
      refine ⟨dv, w, run_append_owned_none (P := P) w base t ty e i R.n ht hi dv xs.length cs h1, ⟨cs, ?_, ?_⟩, World.grownBy.refl _ _, .inl rfl⟩
      · simpa using h1
      · simpa using h2
    | some ad => exact main ad [] rfl rfl (fun j u hj => by simp at hj)

/-- append(x, y...) onto a row of the call's own. -/
theorem wpList_appR (hgd : o.guard = none) (s x : Operand) (t : TypeId)
    (ho : o.op = .call { callee := .builtin .append, args := #[s, x], argTypes := #[t, t] })
    (base : Nat) (e : TypeId) (i : TypeInfo) (z : Value) (bytes : Nat) (ht : P.underlying t = some (.slice e)) (hi : P.info? e = some i) (hz : i.zero = some z)
    (hsize : i.size = R.n) (hby : i.bytes = bytes) (hzs : z.cells.size = R.n) (hn : 0 < R.n)
    (dv : Value) (xs : List α) (hs : a.eval s = dv) (hown : Own R S base e w dv xs) (v : Value) (ys : List α) (hx : a.eval x = v) (hsl : Sl R S w v ys) (hne : ∀ b, S b → b < w.heap.size → some b ≠ dv.ownBlock)
    (h63 : xs.length + ys.length ≤ maxLen) (hbytes : (xs.length + ys.length) * bytes ≤ 140737488355328) (hbase : base ≤ w.heap.size)
    (h : ∀ v' w', Own R S base e w' v' (xs ++ ys) → w.grownBy w' dv.ownBlock → (v'.ownBlock = dv.ownBlock ∨ v'.ownBlock = some w.heap.size) → wpList P ops Q rest (a.put o.dst v') w') : wpList P ops Q (o :: rest) a w := by
  refine wpList_plain hgd fun K hK => ?_
  obtain ⟨v', w', hr, h2, h3, h4⟩ := run_appR (P := P) t o.type base e i z bytes ht hi hz hsize hby hzs hn dv xs hown v ys hsl hne h63 hbytes hbase
  unfold Oper.wp execOp
  simp only [ho, resolve, invoke, builtin, Sem.run_bind, Sem.run_pure, Result.andThen_ok, List.map_toArray, List.map_cons, List.map_nil, hs, hx, hr]
  exact hK _ _ (h v' w' h2 h3 h4)
end

/-- Integers and bytes. -/
def intR : Rep Int where
  n := 1
  rd _ _ cs x := cs = [.int .i64 x] ∧ -9223372036854775808 ≤ x ∧ x ≤ 9223372036854775807
  len h := by rw [h.1]; rfl
  one h := by rw [h.1]; simp [Value.oneCell']
  kept h _ := h
  lt h _ := h
def byteR : Rep UInt8 where
  n := 1
  rd _ _ cs x := cs = [.int .u8 (B x)]
  len h := by rw [h]; rfl
  one h := by rw [h]; simp [Value.oneCell']
  kept h _ := h
  lt h _ := h
/-- A slice as one cell. -/
def slR {α : Type} (R : Rep α) (hn : 0 < R.n) : Rep (List α) where
  n := 1
  rd S w cs xs := ∃ v, cs = [v] ∧ Sl R S w v xs
  len h := by obtain ⟨v, rfl, _⟩ := h; rfl
  one h := by obtain ⟨v, rfl, h⟩ := h; obtain ⟨a, cap, rfl, _⟩ := h.len; simp [Value.oneCell']
  kept h hk := by obtain ⟨v, rfl, h⟩ := h; exact ⟨v, rfl, h.kept hk⟩
  lt h hk := by obtain ⟨v, rfl, h⟩ := h; exact ⟨v, rfl, h.lt hn hk⟩
end Go.Proofs.Ytmfifkkmbkcibaa
