/-
  Plain facts: laws for the walk over rows of the call's own, brought into the forms in which these proofs use them.
-/
import Derived.Test.YtmfifkkmbkcibaaBytes
import Derived.WalkKit
namespace Go.Proofs.Ytmfifkkmbkcibaa
open Go.RowKit

section
variable {P : Program} {ops : Array Oper} {rest : List Oper} {o : Oper} {a : Act} {Q : Exit → Act → World → Prop}

/-- append of one new element (of one cell) to a row of the call's own. -/
theorem wpList_app1 (w : World) (hgd : o.guard = none) (s x : Operand) (t : TypeId)
    (ho : o.op = .call { callee := .builtin .append, args := #[s, x], argTypes := #[t, t] })
    (base : Nat) (e : TypeId) (i : TypeInfo) (z : Value) (bytes : Nat) (ht : P.underlying t = some (.slice e)) (hi : P.info? e = some i) (hz : i.zero = some z)
    (hsize : i.size = 1) (hby : i.bytes = bytes) (hzs : z.cells.size = 1)
    (v : Value) (n : Nat) (xs : List Value) (hs : a.eval s = v) (hown : w.ownsRow base e 1 v n xs)
    (g : Nat) (u : Value) (hx : a.eval x = .slice (some ⟨g, 0, none⟩) 1 1) (hu : w.cell? ⟨g, 0, none⟩ = some u) (h1 : u.oneCell' = true)
    (h63 : n + 1 ≤ maxLen) (hbytes : (n + 1) * bytes ≤ 140737488355328) (hbase : base ≤ w.heap.size)
    (h : ∀ v' w', w'.ownsRow base e 1 v' (n + 1) (xs ++ [u]) → w.grownBy w' v.ownBlock → wpList P ops Q rest (a.put o.dst v') w') : wpList P ops Q (o :: rest) a w := by
  refine wpList_append_own w hgd s x t ho base e i z 1 bytes ht hi hz hsize hby hzs (by decide) v n xs hs hown ⟨g, 0, none⟩ 1 1 [u] hx rfl ?_ ?_ h63 hbytes hbase (fun v' w' h2 h3 _ => h v' w' h2 h3)
  · intro j u' hj
    match j, hj with
    | 0, hj => simp at hj; subst hj; simpa [Addr.add] using hu
  · intro u' hu'
    simp at hu'
    subst hu'
    exact h1

/-- append(nil, b...): a row of the call's own, with the bytes of b. -/
theorem wpList_clone (w : World) (hgd : o.guard = none) (s x : Operand) (t : TypeId)
    (ho : o.op = .call { callee := .builtin .append, args := #[s, x], argTypes := #[t, t] })
    (e : TypeId) (i : TypeInfo) (ht : P.underlying t = some (.slice e)) (hi : P.info? e = some i) (hz : i.zero = some (.int .u8 0))
    (hsize : i.size = 1) (hby : i.bytes = 1)
    (hs : a.eval s = .slice none 0 0) (v : Value) (l : List UInt8) (hx : a.eval x = v) (hb : Bts w v l) (hl : 0 < l.length) (hmax : l.length ≤ 100000000)
    (h : ∀ v' w', w'.ownsRow w.heap.size e 1 v' l.length (l.map fun c => Value.int .u8 (B c)) → Below w.heap.size w w' → wpList P ops Q rest (a.put o.dst v') w') : wpList P ops Q (o :: rest) a w := by
  rcases hb with ⟨rfl, rfl⟩ | ⟨b, off, cap, rfl, h1, h2, h3⟩
  · simp at hl
  refine wpList_append_own w hgd s x t ho w.heap.size e i (.int .u8 0) 1 1 ht hi hz hsize hby rfl (by decide) (.slice none 0 0) 0 [] hs (World.ownsRow_nil _ _ _ _) ⟨b, off, none⟩ l.length cap (l.map fun c => Value.int .u8 (B c)) hx (by simp) ?_ ?_ (by unfold maxLen; omega) (by omega) (Nat.le_refl _) (fun v' w' h4 h5 _ => ?_)
  · intro j u hj
    have hadd : (⟨b, off, none⟩ : Addr).add j = ⟨b, off + j, none⟩ := by unfold Addr.add; split <;> simp_all
    obtain ⟨hjl, -⟩ := List.getElem?_eq_some_iff.1 hj
    rw [mapB_get l j (by simpa using hjl)] at hj
    rw [hadd, h3 j (by simpa using hjl)]
    exact hj
  · intro u hu
    simp at hu
    obtain ⟨c, _, rfl⟩ := hu
    rfl
  · rw [Nat.zero_add, List.nil_append] at h4
    exact h v' w' h4 ⟨h5.os, h5.tape, h5.output, h5.size, fun k hk => h5.block k hk (by simp [Value.ownBlock])⟩
end

/-- A new block of one cell. -/
theorem new_cell (w : World) (u : Value) (t : TypeId) : (w.alloc (.cells #[u] t)).cell? ⟨w.heap.size, 0, none⟩ = some u := by
  have h : (w.alloc (.cells #[u] t)).heap[w.heap.size]? = some (.cells #[u] t) := heap_alloc_new w _
  unfold World.cell?
  rw [h]
  rfl

/-- What a round with one append does to 'Below'. -/
theorem below_app {B : Nat} {w wr w' : World} {o : Obj} {v : Value} {e : TypeId} {size n : Nat} {xs : List Value} (hb : Below B w wr) (hw : B ≤ w.heap.size) (hown : wr.ownsRow B e size v n xs) (hg : (wr.alloc o).grownBy w' v.ownBlock) : Below B w w' := by
  have h1 := hb.size
  refine (hb.alloc (by omega) o).grown hg (by simp; omega) (fun k hk => (hown.lt k hk).1)

theorem own_below {w w' : World} {base : Nat} {e : TypeId} {size : Nat} {v : Value} {n : Nat} {xs : List Value} (h : w.ownsRow base e size v n xs) (hb : Below w.heap.size w w') : w'.ownsRow base e size v n xs := by
  refine ⟨h.1, ?_⟩
  rcases h.2 with h2 | ⟨g, cap, cur, hv, hg, hh, r⟩
  · exact .inl h2
  · exact .inr ⟨g, cap, cur, hv, hg, by rw [hb.block g (Array.getElem?_eq_some_iff.1 hh).1]; exact hh, r⟩
theorem own_on {w w' : World} {base b : Nat} {e : TypeId} {size : Nat} {v : Value} {n : Nat} {xs : List Value} (h : w.ownsRow base e size v n xs) (hb : On b w w') (hlt : b < base) : w'.ownsRow base e size v n xs := by
  refine ⟨h.1, ?_⟩
  rcases h.2 with h2 | ⟨g, cap, cur, hv, hg, hh, r⟩
  · exact .inl h2
  · exact .inr ⟨g, cap, cur, hv, hg, by rw [hb.block g (by omega)]; exact hh, r⟩
/-- Where the bytes of a slice lie that is not empty. -/
theorem Bts.src {w : World} {a : Option Addr} {n cap : Nat} {l : List UInt8} (h : Bts w (.slice a n cap) l) (hl : 0 < l.length) :
    ∃ ad, a = some ad ∧ ∀ j c, l[j]? = some c → w.cell? (ad.add j) = some (Value.int .u8 (B c)) := by
  rcases h with ⟨_, rfl⟩ | ⟨b, off, cap', hv, h1, h2, h3⟩
  · simp at hl
  · simp at hv
    obtain ⟨rfl, -, -⟩ := hv
    refine ⟨_, rfl, fun j c hc => ?_⟩
    obtain ⟨hjl, -⟩ := List.getElem?_eq_some_iff.1 hc
    have hadd : (⟨b, off, none⟩ : Addr).add j = ⟨b, off + j, none⟩ := by unfold Addr.add; split <;> simp_all
    rw [hadd, h3 j hjl]
    simp [List.getD_eq_getElem?_getD, hc]

/-- Block g holds just these cells, and may be written. -/
structure Row (w : World) (g : Nat) (t : TypeId) (cs : List Value) : Prop where
  blk : w.heap[g]? = some (.cells cs.toArray t (0, 0))
section
variable {w w' : World} {g : Nat} {t : TypeId} {cs : List Value}
theorem Row.cell (h : Row w g t cs) (i : Nat) : w.cell? ⟨g, i, none⟩ = cs[i]? := by simp [World.cell?, h.blk]
theorem Row.frz (h : Row w g t cs) (i : Nat) : w.frozen? ⟨g, i, none⟩ = false := by simp [World.frozen?, h.blk]
theorem Row.lt (h : Row w g t cs) : g < w.heap.size := (Array.getElem?_eq_some_iff.1 h.blk).1
theorem Row.set (h : Row w g t cs) (i : Nat) (u : Value) : Row (w.setCell ⟨g, i, none⟩ u) g t (cs.set i u) := ⟨by simp [World.setCell, Array.getElem?_modify, h.blk]⟩
theorem Row.drew (h : Row w g t cs) : Row w.drew g t cs := ⟨h.blk⟩
theorem Row.below (h : Row w g t cs) {n : Nat} (hb : Below n w w') (hg : g < n) : Row w' g t cs := ⟨by rw [hb.block g hg]; exact h.blk⟩
theorem Row.on (h : Row w g t cs) {b : Nat} (hb : On b w w') (hg : g ≠ b) : Row w' g t cs := ⟨by rw [hb.block g hg]; exact h.blk⟩
theorem Row.new (w : World) (t : TypeId) (cs : List Value) : Row (w.alloc (.cells cs.toArray t)) w.heap.size t cs := ⟨heap_alloc_new w _⟩
theorem Row.bts {l : List UInt8} (h : Row w g t (l.map fun c => Value.int .u8 (B c))) (hl : l.length ≤ 9223372036854775807) : Bts w (.slice (some ⟨g, 0, none⟩) l.length l.length) l := by
  refine Bts.mk (Nat.le_refl _) hl (fun i hi => ?_)
  rw [Nat.zero_add, h.cell]
  simp [List.getD_eq_getElem?_getD, hi]
end
end Go.Proofs.Ytmfifkkmbkcibaa
