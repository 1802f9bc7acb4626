/-
  Contracts of the functions that the laws reach.
-/
import Derived.Test.YtnmifddidgofaaaDoorRows
import Derived.Test.YtnmifddidgofaaaDoorDz01
import Derived.Test.YtnmifddidgofaaaDoorDz02
import Derived.Test.YtnmifddidgofaaaDoorDz03
import Derived.Test.YtnmifddidgofaaaDoorDz04
import Derived.Test.YtnmifddidgofaaaDoorDz05
import Derived.Test.YtnmifddidgofaaaDoorDz06
import Derived.Test.YtnmifddidgofaaaDoorDz07
import Derived.Test.YtnmifddidgofaaaDoorDz08
import Derived.Test.YtnmifddidgofaaaDoorDz09
import Derived.Test.YtnmifddidgofaaaDoorDz10
import Derived.Test.YtnmifddidgofaaaDoorDz11
set_option linter.all false
namespace Go.Proofs.YtnmifddidgofaaaDoor
open Go.ChangeShapes Go.WideShapes Go.ChangeAt Go.RowKit
def sum2 : List (TypeId × Nat) → Nat
 | [] => 0
 | x :: l => x.2 + sum2 l
def offs : List (TypeId × Nat) → Nat → List (TypeId × Nat)
 | [], _ => []
 | x :: l, o => (x.1, o) :: offs l (o + x.2)
section
variable {H : Type} {enc : TypeId × Value → H} {P : Program} {W : World} {base : Nat} {sp : Nat → Bool} {held : Bool} {b0 : Nat} {r : Reach}
def IntT (enc : TypeId × Value → H) (P : Program) (W : World) (base : Nat) (sp : Nat → Bool) (held : Bool) (x : TypeId × Nat) : Prop :=
 P.cellsOf x.1 = x.2 ∧ ∀ (fuel : Nat) (cs : List Value) (y : DataW H × List MemPlace), DataW.trod enc P W base sp held fuel x.1 cs = some y → ∃ ns : List Int, ns.length = x.2 ∧ cs = ns.map fun z => Value.int .i64 z
theorem IntT.int {t : TypeId} (hu : P.underlying t = some (.int .i64)) (hc : P.cellsOf t = 1) : IntT enc P W base sp held (t, 1) := by
 refine ⟨hc, fun fuel cs y h => ?_⟩
 obtain ⟨n, h1, -, -⟩ := DataW.trod_int hu h
 exact ⟨[n], rfl, h1⟩
theorem IntT.fields {t : TypeId} {fs : Array Field} (ht : P.underlying t = some (.struct fs)) {fuel : Nat} {cs : List Value} {y : DataW H × List MemPlace} (h : DataW.trod enc P W base sp held fuel t cs = some y) : ∀ (L : List (TypeId × Nat)) (i o : Nat),
   (∀ x ∈ L, IntT enc P W base sp held x) → (fs.toList.drop i).map (fun f => (f.type, f.offset)) = offs L o → o + sum2 L = cs.length → ∃ ns : List Int, ns.length = sum2 L ∧ cs.drop o = ns.map fun z => Value.int .i64 z
 | [], i, o, _, _, hs => ⟨[], rfl, by rw [List.drop_eq_nil_of_le (by simp [sum2] at hs; omega)]; rfl⟩
 | x :: L, i, o, hx, hf, hs => by
   have h0 : fs[i]? = (fs.toList.drop i)[0]? := by simp
   cases hd : fs.toList.drop i with
   | nil => rw [hd] at hf; cases hf
   | cons f l =>
     rw [hd] at hf h0
     simp only [offs, List.map_cons, List.cons.injEq, Prod.mk.injEq] at hf
     obtain ⟨⟨h1, h2⟩, h3⟩ := hf
     obtain ⟨n, y', h4⟩ := trod_fields ht h i f (by rw [h0]; rfl)
     obtain ⟨k2, k1⟩ := hx x (List.mem_cons_self ..)
     rw [h1, h2, k2] at h4
     obtain ⟨ns, h5, h6⟩ := k1 n _ _ h4
     obtain ⟨ms, h7, h8⟩ := IntT.fields ht h L (i + 1) (o + x.2) (fun z hz => hx z (List.mem_cons_of_mem _ hz)) (by
       have e : fs.toList.drop (i + 1) = l := by rw [← List.drop_drop, hd]; rfl
       rw [e, h3]) (by rw [← hs]; show _ = o + (x.2 + sum2 L); omega)
     refine ⟨ns ++ ms, by rw [List.length_append, h5, h7]; rfl, ?_⟩
     rw [List.map_append, ← h6, ← h8, ← List.drop_drop, List.take_append_drop]
theorem IntT.struct {t : TypeId} {n : Nat} {fs : Array Field} (ht : P.underlying t = some (.struct fs)) (hc : P.cellsOf t = n) (L : List (TypeId × Nat)) (hx : ∀ x ∈ L, IntT enc P W base sp held x) (hf : fs.toList.map (fun f => (f.type, f.offset)) = offs L 0) (hn : sum2 L = n) : IntT enc P W base sp held (t, n) := by
 refine ⟨hc, fun fuel cs y h => ?_⟩
 obtain ⟨xs, m, -, -, hl, -, -⟩ := DataW.trod_struct ht h
 obtain ⟨ns, h1, h2⟩ := IntT.fields ht h L 0 0 hx hf (by rw [hl, hc, hn, Nat.zero_add])
 exact ⟨ns, by rw [h1]; exact hn, h2⟩
end
open Go.ChangeShapes Go.WideShapes Go.ChangeAt Go.RowKit
theorem array_ints {H : Type} {enc : TypeId × Value → H} {P : Program} {w : World} {base : Nat} {sp : Nat → Bool} {held : Bool} {t e n : Nat} (ht : P.underlying t = some (.array n e)) (he : P.underlying e = some (.int .i64)) (hc : P.cellsOf e = 1) {fuel : Nat} {cs : List Value} {zs : List Int} {p : List MemPlace}
   (h : DataW.trod enc P w base sp held fuel t cs = some (.agg (zs.map fun z => DataW.lit (Lit.int .i64 z)), p)) : ∀ (k : Nat) (z : Int), zs[k]? = some z → cs[k]? = some (.int .i64 z) := by
 obtain ⟨xs, m, -, hx, hl, hn, hel⟩ := DataW.trod_array ht h
 injection hx with hx1 hx2
 injection hx1 with hx1
 intro k z hz
 have hk : k < zs.length := (List.getElem?_eq_some_iff.1 hz).1
 have hlen : xs.length = zs.length := by simpa using (congrArg List.length hx1).symm
 have h1 := hel k (by omega)
 rw [hc, Nat.mul_one, List.getElem?_eq_getElem (by omega)] at h1
 obtain ⟨i, h2, h3, -⟩ := DataW.trod_int he h1
 have h4 : (xs.map (·.1))[k]? = some (.lit (.int .i64 i)) := by
   rw [List.getElem?_map, List.getElem?_eq_getElem (by omega)]
   simp [h3]
 rw [← hx1, List.getElem?_map, hz] at h4
 simp at h4
 subst h4
 have h5 := congrArg (·[0]?) h2
 simpa [List.getElem?_take, List.getElem?_drop] using h5
theorem gLanes : Tryd.prog.globalNamed "radiolink/stream.lanes" = some 0 := by kernel_rfl
theorem tLanes : (Tryd.prog.globals[0]?).map (·.type) = some 104 := by kernel_rfl
theorem lanes_of {W : World} (h : laidMetH Tryd.prog [("radiolink/stream.lanes", Rows.laid_radiolink_stream_lanes)] W) : Glob gl (fun _ => none) W := by
 rw [MakeChecks.laidMetH_plain _ _ _ (by kernel_rfl)] at h
 obtain ⟨ps, ⟨g0, t0, cs0, f0, p0, q0, hg0, ht0, hv0, hd0, -, -⟩, -, -⟩ := h
 obtain rfl := Option.some.inj (gLanes.symm.trans hg0)
 obtain rfl := Option.some.inj (tLanes.symm.trans ht0)
 obtain ⟨xs, m, -, hx, hl, hn, hel⟩ := DataW.trod_array Tryd.underlying104 hd0
 injection hx with hx1 hx2
 have hall : ∀ i : Nat, i < 8 → ∀ k z, ([[0, 4, 8, 12], [1, 5, 9, 13], [2, 6, 10, 14], [3, 7, 11, 15], [0, 5, 10, 15], [1, 6, 11, 12], [2, 7, 8, 13], [3, 4, 9, 14]] : List (List Int))[i]?.bind (·[k]?) = some z → cs0.toList[i * 4 + k]? = some (.int .i64 z) := by
   intro i hi k z hz
   obtain ⟨zs, hzs, hk⟩ := Option.bind_eq_some_iff.1 hz
   have h1 := hel i hi
   rw [show Tryd.prog.cellsOf 103 = 4 by kernel_rfl, List.getElem?_eq_getElem (by omega)] at h1
   have hmap : xs.map (·.1) = ([[0, 4, 8, 12], [1, 5, 9, 13], [2, 6, 10, 14], [3, 7, 11, 15], [0, 5, 10, 15], [1, 6, 11, 12], [2, 7, 8, 13], [3, 4, 9, 14]] : List (List Int)).map fun zs => DataW.agg (zs.map fun z => DataW.lit (Lit.int .i64 z)) := by
     injection hx1 with hx1
     exact hx1.symm
   have h2 : (xs.map (·.1))[i]? = some (.agg (zs.map fun z => DataW.lit (Lit.int .i64 z))) := by
     rw [hmap, List.getElem?_map, hzs]; rfl
   rw [List.getElem?_map, List.getElem?_eq_getElem (by omega)] at h2
   have h3 : (xs[i]'(by omega)).1 = .agg (zs.map fun z => DataW.lit (Lit.int .i64 z)) := Option.some.inj h2
   have h4 : DataW.trod (fun _ => ()) Tryd.prog W 0 (fun _ => true) false m 103 ((cs0.toList.drop (i * 4)).take 4) = some (.agg (zs.map fun z => DataW.lit (Lit.int .i64 z)), (xs[i]'(by omega)).2) := by
     rw [h1, ← h3]
   have h5 := array_ints Tryd.underlying103 Tryd.underlying3 (by kernel_rfl) h4 k z hk
   have hk4 : k < 4 := by
     have := (List.getElem?_eq_some_iff.1 h5).1
     simp at this
     omega
   simpa [List.getElem?_take, hk4, List.getElem?_drop] using h5
 have hcell : ∀ o z, tblN[o]? = some z → W.cell? ⟨0, 0 + o, none⟩ = some (.int .i64 z) := by
   intro o z hz
   have ho : o < 32 := (List.getElem?_eq_some_iff.1 hz).1
   have h1 := hall (o / 4) (by omega) (o % 4) z (by
     rw [← hz]
     have : ∀ o, o < 32 → (([[0, 4, 8, 12], [1, 5, 9, 13], [2, 6, 10, 14], [3, 7, 11, 15], [0, 5, 10, 15], [1, 6, 11, 12], [2, 7, 8, 13], [3, 4, 9, 14]] : List (List Int))[o / 4]?.bind (·[o % 4]?)) = tblN[o]? := by decide
     exact this o ho)
   have h2 := World.var?_cell hg0 hv0 o
   rw [show o / 4 * 4 + o % 4 = o by omega] at h1
   rw [Nat.zero_add, h2]
   simpa using h1
 refine Glob.of (fun g => by unfold gl; split <;> rfl) ?_
 intro g
 by_cases hg : g = 0
 · subst hg
   show Rd _ W (.ip (tblN.map iAV)) _
   refine .ip _ _ 0 (fun i => .int .i64 (tblN.getD i 0)) (fun _ => rfl) (fun i hi => ?_) (fun i hi => ?_)
   · have hi : i < tblN.length := by simpa using hi
     exact hcell i _ (by rw [List.getD_eq_getElem?_getD, List.getElem?_eq_getElem hi]; rfl)
   · have hi : i < tblN.length := by simpa using hi
     rw [List.getD_eq_getElem?_getD, List.getElem?_map, List.getD_eq_getElem?_getD, List.getElem?_eq_getElem hi]
     exact .int _ _
 · have : gl g = .any := by
     unfold gl
     split
     · rename_i hb
       exact absurd (Nat.eq_of_beq_eq_true hb) hg
     · rfl
   rw [this]
   exact .any _
theorem door_met (os : Os) (args : Array Value) : laidMetH Tryd.prog [("radiolink/stream.lanes", Rows.laid_radiolink_stream_lanes)] ((World.doorLaid Tryd.prog 400 os).forCall (fun _ _ => 0) ⟨#[], args, []⟩).memory :=
 laidMetH_of_parts3 (fuel := 8) (laidMet_of_run' 8 (by kernel_rfl) (by kernel_rfl)) (by kernel_rfl) (by kernel_rfl)
end Go.Proofs.YtnmifddidgofaaaDoor
