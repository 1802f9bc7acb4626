/-
  Contracts of the functions that the laws reach.
-/
import Derived.ProofKit
import Derived.OpenShut
import Derived.LaidMore
import Derived.Stop.Joined
import Derived.Test.YtbagbjacmakfhaaGreatDoorRows
import Derived.WideKeyElems2
import Derived.Test.YtbagbjacmakfhaaGreatDoorCq01
import Derived.Test.YtbagbjacmakfhaaGreatDoorCq02
import Derived.Test.YtbagbjacmakfhaaGreatDoorCq03
import Derived.Test.YtbagbjacmakfhaaGreatDoorCq04
import Derived.Test.YtbagbjacmakfhaaGreatDoorCq05
import Derived.Test.YtbagbjacmakfhaaGreatDoorCq06
import Derived.Test.YtbagbjacmakfhaaGreatDoorCq08
import Derived.Test.YtbagbjacmakfhaaGreatDoorCq10
import Derived.Test.YtbagbjacmakfhaaGreatDoorCq13
import Derived.Test.YtbagbjacmakfhaaGreatDoorCq14
import Derived.Test.YtbagbjacmakfhaaGreatDoorCq15
import Derived.Test.YtbagbjacmakfhaaGreatDoorCq18
import Derived.Test.YtbagbjacmakfhaaGreatDoorCq36
set_option linter.all false
namespace Go.Proofs.YtbagbjacmakfhaaGreatDoor
open Go.ChangeShapes Go.WideShapes Go.ChangeAt Go.RowKit
theorem LP.stmt {P : Program} {G : Nat → AV} {f : FuncId} {args : List AV} (h : LP P G f args [] (fun _ => (.bool true, []))) {W : World} {vs : Array Value} (hg : Glob G (fun _ => none) W) (hr : RdL (fun _ => none) W args vs) :
   Calls P f vs W fun e W' => e = .returned (.bool true) ∧ Below W.heap.size W W' := by
 unfold LP at h
 refine (h.2.2 (fun _ => none) W vs ⟨nofun, nofun, 0, fun _ _ => rfl⟩ hg (by simp) (by simp) hr).mono ?_
 rintro e W' ⟨v, q, rfl, -, -, hv, -, hs⟩
 have hv : Rd _ W' (.bool true) v := hv
 cases hv
 exact ⟨rfl, hs.os, hs.tape, hs.output, hs.size, fun k hk => (hs.old k hk rfl).2⟩
theorem RdL.nil0 {σ : q9} {W : World} : RdL σ W [] #[] := ⟨rfl, fun i hi => by simp at hi⟩
theorem RdL.cons0 {σ : q9} {W : World} {a : AV} {v : Value} {al : List AV} {vs : List Value} (h : Rd σ W a v) (hs : RdL σ W al vs.toArray) : RdL σ W (a :: al) (v :: vs).toArray :=
 ⟨by have := hs.1; simp at this ⊢; omega, fun i hi => by
   cases i with
   | zero => simpa using h
   | succ i =>
     have h2 := hs.2 i (by simp at hi; omega)
     simpa using h2⟩
theorem yL {α : Type} (p : Nat → α → Prop) : ∀ (n : Nat), (∀ i, i < n → ∃ x, p i x) → ∃ l : List α, l.length = n ∧ ∀ i x, l[i]? = some x → p i x
 | 0, _ => ⟨[], rfl, by simp⟩
 | n + 1, h => by
   obtain ⟨l, h1, h2⟩ := yL p n fun i hi => h i (by omega)
   obtain ⟨x, hx⟩ := h n (by omega)
   refine ⟨l ++ [x], by simp [h1], fun i y hy => ?_⟩
   by_cases hi : i < l.length
   · rw [List.getElem?_append_left hi] at hy
     exact h2 i y hy
   · rw [List.getElem?_append_right (by omega)] at hy
     by_cases h0 : i - l.length = 0
     · rw [h0] at hy
       simp at hy
       subst hy
       have : i = n := by omega
       subst this
       exact hx
     · obtain ⟨k, hk⟩ := Nat.exists_eq_succ_of_ne_zero h0
       rw [hk] at hy
       simp at hy
section
variable {H : Type} {enc : TypeId × Value → H} {P : Program} {W : World} {base : Nat} {sp : Nat → Bool} {held : Bool} {b0 : Nat} {r : Reach}
theorem cell_row {α : Type} {A : α → AV} {u e : TypeId} (hu : P.underlying u = some (.slice e)) (hc : P.cellsOf e = 1) (he : ∀ (fuel : Nat) (c : Value) (y : DataW H × List MemPlace), DataW.trod enc P W base sp held fuel e [c] = some y → ∃ x, Rd (fun _ => none) W (A x) c)
   {c : Value} (hv : Cell.okWide P W r b0 u c) {fuel : Nat} {y : DataW H × List MemPlace} (h : DataW.trod enc P W base sp held fuel u [c] = some y) : ∃ l : List α, Rd (fun _ => none) W (.sl l.length (l.map A)) c := by
 rcases DataW.trod_slice hu h with ⟨h0, -⟩ | ⟨a, len, cap, elems, rest, n, -, h0, -, -, hl, hm, hlen, hel, -⟩
 · obtain rfl := (List.cons.inj h0).1
   exact ⟨[], .slnil⟩
 · obtain rfl := (List.cons.inj h0).1
   have hspot : a.spot = none := by
     simp only [Cell.okWide, hu, Cell.ok] at hv
     exact hv.2.2.2.1
   obtain ⟨b, off, spot⟩ := a
   simp only at hspot
   subst hspot
   have hadd : ∀ i, (⟨b, off, none⟩ : Addr).add i = ⟨b, off + i, none⟩ := fun i => by unfold Addr.add; split <;> simp_all
   obtain ⟨l, h1, h2⟩ := yL (fun i x => ∃ v, W.cell? ⟨b, off + i, none⟩ = some v ∧ Rd (fun _ => none) W (A x) v) len (fun i hi => by
     have hE := hel i hi
     rw [List.getElem?_eq_getElem (by omega)] at hE
     obtain ⟨c1, hc1, hy1⟩ := Option.bind_eq_some_iff.1 hE
     obtain ⟨-, h4, h5⟩ := World.cells?_some hc1
     rw [hc] at h4 h5
     match c1, h4 with
     | [v], _ =>
       have h6 := h5 0 (by omega)
       rw [Nat.mul_one, hadd] at h6
       have e0 : (⟨b, off + i, none⟩ : Addr).add 0 = ⟨b, off + i, none⟩ := by simp [Addr.add]
       rw [e0] at h6
       obtain ⟨x, hx⟩ := he n v _ hy1
       exact ⟨x, v, by simpa using h6, hx⟩)
   refine ⟨l, ?_⟩
   rw [h1]
   have h3 : ∀ i (hi : i < l.length), ∃ v, W.cell? ⟨b, off + i, none⟩ = some v ∧ Rd (fun _ => none) W (A l[i]) v := fun i hi => h2 i l[i] (List.getElem?_eq_getElem hi)
   refine .sl len _ b off cap (fun i => (W.cell? ⟨b, off + i, none⟩).getD undef) (fun _ => rfl) hl hm (fun i hi => ?_) (fun i hi => ?_)
   · obtain ⟨v, k1, -⟩ := h3 i (by simpa using hi)
     rw [k1]; rfl
   · have hi' : i < l.length := by simpa using hi
     obtain ⟨v, k1, k2⟩ := h3 i hi'
     rw [k1]
     simpa [List.getD_eq_getElem?_getD, hi'] using k2
theorem cell_bytes {u e : TypeId} (hu : P.underlying u = some (.slice e)) (he : P.underlying e = some (.int .u8)) (hc : P.cellsOf e = 1) {c : Value} (hv : Cell.okWide P W r b0 u c) {fuel : Nat} {y : DataW H × List MemPlace} (h : DataW.trod enc P W base sp held fuel u [c] = some y) : ∃ l : List UInt8, Rd (fun _ => none) W (bv l) c :=
 cell_row (A := bAV) hu hc (fun fuel c y h => by
   obtain ⟨n, h1, -, h2⟩ := DataW.trod_int he h
   obtain rfl := (List.cons.inj h1).1
   have h3 : 0 ≤ n ∧ n ≤ 255 := by simpa [Lit.wf, IntKind.min, IntKind.max, IntKind.signed, IntKind.bits] using h2
   refine ⟨b8 n, ?_⟩
   rw [qR, IntKind.wrap_u8, Int.emod_eq_of_lt (by omega) (by omega)]
   exact .int _ _) hv h
theorem cell_ints {u e : TypeId} (hu : P.underlying u = some (.slice e)) (he : P.underlying e = some (.int .i64)) (hc : P.cellsOf e = 1) {c : Value} (hv : Cell.okWide P W r b0 u c) {fuel : Nat} {y : DataW H × List MemPlace} (h : DataW.trod enc P W base sp held fuel u [c] = some y) : ∃ l : List Int, Rd (fun _ => none) W (iv l) c :=
 cell_row (A := iAV) hu hc (fun fuel c y h => by
   obtain ⟨n, h1, -, -⟩ := DataW.trod_int he h
   obtain rfl := (List.cons.inj h1).1
   exact ⟨n, .int _ _⟩) hv h
end
section
variable {H : Type} {enc : TypeId × Value → H} {P : Program} {W : World} {base : Nat} {sp : Nat → Bool} {held : Bool} {b0 : Nat} {r : Reach} {v : Value} {d : DataW H} {p : List MemPlace}
theorem arg_bytes {u e : TypeId} (hu : P.underlying u = some (.slice e)) (he : P.underlying e = some (.int .u8)) (hc : P.cellsOf e = 1) (hv : Value.okWide P W r b0 u v) (h : DataW.Trod enc P W base sp held u v d p) : ∃ l : List UInt8, Rd (fun _ => none) W (bv l) v := by
 obtain ⟨a, len, cap, rfl⟩ := okWide_slice hu hv
 obtain ⟨fuel, hf⟩ := h
 have hv : Cell.okWide P W r b0 u (.slice a len cap) := by simpa only [Value.okWide, hu] using hv
 exact cell_bytes hu he hc hv hf
theorem arg_ints {u e : TypeId} (hu : P.underlying u = some (.slice e)) (he : P.underlying e = some (.int .i64)) (hc : P.cellsOf e = 1) (hv : Value.okWide P W r b0 u v) (h : DataW.Trod enc P W base sp held u v d p) : ∃ l : List Int, Rd (fun _ => none) W (iv l) v := by
 obtain ⟨a, len, cap, rfl⟩ := okWide_slice hu hv
 obtain ⟨fuel, hf⟩ := h
 have hv : Cell.okWide P W r b0 u (.slice a len cap) := by simpa only [Value.okWide, hu] using hv
 exact cell_ints hu he hc hv hf
theorem arg_int {u : TypeId} (hu : P.underlying u = some (.int .i64)) (hv : Value.okWide P W r b0 u v) (h : DataW.Trod enc P W base sp held u v d p) : ∃ n : Int, Rd (fun _ => none) W (iAV n) v := by
 obtain ⟨n, rfl, -⟩ := open_int hu hv h
 exact ⟨n, .int _ _⟩
end
open Go.ChangeShapes Go.WideShapes Go.ChangeAt Go.RowKit Go.MapKept
theorem gPoly : Tryz.prog.globalNamed "radiolink/check.polynomials" = some 0 := by kernel_rfl
theorem tPoly : (Tryz.prog.globals[0]?).map (·.type) = some 138 := by kernel_rfl
set_option maxRecDepth 100000 in
theorem key_int {v : Value} {y : Go.Lit} (h : keyOf Tryz.prog 3 v = some y) : ∃ m : Int, v = .int .i64 m ∧ y = .int .i64 m := by
 unfold keyOf mapKey at h
 rw [Tryz.underlying3] at h
 cases v with
 | int q m =>
   simp only at h
   split at h
   · rename_i hq
     obtain ⟨rfl, -⟩ := hq
     exact ⟨m, rfl, (Option.some.inj h).symm⟩
   · cases h
 | _ => cases h
set_option maxRecDepth 100000 in
theorem val_int {H : Type} {enc : TypeId × Value → H} {W : World} {n : Nat} {v : Value} {z : DataW H × List MemPlace} (h : WideElems.elemAt enc Tryz.prog W 0 (fun _ => true) false n 3 v = some z) : ∃ m : Int, v = .int .i64 m ∧ z.1 = .lit (.int .i64 m) := by
 unfold WideElems.elemAt at h
 split at h
 · rename_i hf
   obtain ⟨d, p⟩ := z
   obtain ⟨i, h2, h3, -⟩ := DataW.trod_int Tryz.underlying3 h
   refine ⟨i, ?_, congrArg Prod.fst h3⟩
   cases v with
   | agg cs =>
     unfold Value.formed at hf
     rw [Tryz.underlying3] at hf
     cases hf
   | int q m =>
     have h4 : [Value.int q m] = [.int .i64 i] := h2
     injection h4
   | _ => cases h2
 · cases h
theorem poly_in {n v : Int} : kr n = some v ↔ (n, v) ∈ [((3 : Int), (3 : Int)), (7, 9), (8, 7), (16, 4129), (24, 8801531)] := by
 unfold kr
 simp only [List.mem_cons, Prod.mk.injEq, List.not_mem_nil, or_false]
 constructor
 · intro h
   (repeat' split at h) <;> first | (cases h; omega) | cases h
 · intro h
   rcases h with ⟨rfl, rfl⟩ | ⟨rfl, rfl⟩ | ⟨rfl, rfl⟩ | ⟨rfl, rfl⟩ | ⟨rfl, rfl⟩ <;> rfl
set_option maxRecDepth 100000 in
theorem vF {W : World} (h : laidMetH Tryz.prog [("radiolink/check.polynomials", Rows.laid_radiolink_check_polynomials)] W) : Glob gm (fun _ => none) W := by
 rw [MakeChecks.laidMetH_plain _ _ _ (by kernel_rfl)] at h
 obtain ⟨ps, ⟨g0, t0, cs0, f0, p0, q0, hg0, ht0, hv0, hd0, -, -⟩, -, -⟩ := h
 obtain rfl := Option.some.inj (gPoly.symm.trans hg0)
 obtain rfl := Option.some.inj (tPoly.symm.trans ht0)
 rcases WideElems.open_map Tryz.underlying138 hd0 with ⟨h1, h2⟩ | ⟨b, es, clock, n, rfl, hcs, hb, -, hF, hx⟩
 · cases h2
 · have hx1 := (congrArg Prod.fst hx)
   have hx2 : ([(.int .i64 3, .lit (.int .i64 3)), (.int .i64 7, .lit (.int .i64 9)), (.int .i64 8, .lit (.int .i64 7)), (.int .i64 16, .lit (.int .i64 4129)), (.int .i64 24, .lit (.int .i64 8801531))] : List (Go.Lit × DataW Unit)) = _ := DataW.map.inj hx1
   have hperm := sorted_perm (es.toList.map (WideElems.rg Tryz.prog 3 (WideElems.elemAt (fun _ => ()) Tryz.prog W 0 (fun _ => true) false n 3)))
   rw [← hx2] at hperm
   have key : ∀ x ∈ es.toList, ∃ m z, x.key = .int .i64 m ∧ x.val = .int .i64 z ∧ WideElems.rg Tryz.prog 3 (WideElems.elemAt (fun _ => ()) Tryz.prog W 0 (fun _ => true) false n 3) x = (.int .i64 m, .lit (.int .i64 z)) := fun x hxm => by
     obtain ⟨y, hy⟩ := hF.reads x hxm
     obtain ⟨m, k1, k2⟩ := key_int (WideElems.rd_key hy)
     obtain ⟨u, k3, k4⟩ := WideElems.rd_val hy
     obtain ⟨z, k5, k6⟩ := val_int k3
     refine ⟨m, z, k1, k5, ?_⟩
     rw [WideElems.rg_of hy]
     exact Prod.ext k2 (k4.trans k6)
   have in1 : ∀ x ∈ es.toList, ∀ m z, x.key = .int .i64 m → x.val = .int .i64 z → kr m = some z := fun x hxm m z e1 e2 => by
     obtain ⟨m', z', k1, k2, k3⟩ := key x hxm
     rw [k1] at e1; rw [k2] at e2
     cases e1; cases e2
     have : ((Go.Lit.int .i64 m, DataW.lit (Go.Lit.int .i64 z)) : Go.Lit × DataW Unit) ∈ es.toList.map (WideElems.rg Tryz.prog 3 (WideElems.elemAt (fun _ => ()) Tryz.prog W 0 (fun _ => true) false n 3)) := List.mem_map.2 ⟨x, hxm, k3⟩
     have := hperm.mem_iff.2 this
     rw [poly_in]
     simp only [List.mem_cons, Prod.mk.injEq, Go.Lit.int.injEq, DataW.lit.injEq, List.not_mem_nil, or_false, true_and] at this ⊢
     exact this
   have in2 : ∀ m z, kr m = some z → ∃ x ∈ es.toList, x.key = .int .i64 m := fun m z e => by
     have h3 : ((Go.Lit.int .i64 m, DataW.lit (Go.Lit.int .i64 z)) : Go.Lit × DataW Unit) ∈ ([(.int .i64 3, .lit (.int .i64 3)), (.int .i64 7, .lit (.int .i64 9)), (.int .i64 8, .lit (.int .i64 7)), (.int .i64 16, .lit (.int .i64 4129)), (.int .i64 24, .lit (.int .i64 8801531))] : List (Go.Lit × DataW Unit)) := by
       rw [poly_in] at e
       simp only [List.mem_cons, Prod.mk.injEq, Go.Lit.int.injEq, DataW.lit.injEq, List.not_mem_nil, or_false, true_and] at e ⊢
       exact e
     obtain ⟨x, hxm, k⟩ := List.mem_map.1 (hperm.mem_iff.1 h3)
     obtain ⟨m', z', k1, k2, k3⟩ := key x hxm
     rw [k3] at k
     refine ⟨x, hxm, ?_⟩
     rw [k1]
     have := congrArg Prod.fst k
     cases this
     rfl
   intro g
   by_cases hg : g = 0
   · subst hg
     show Rd _ W (.ip [.mp kr]) _
     refine .ip _ _ 0 (fun _ => .map (some b)) (fun _ => rfl) (fun i hi => ?_) (fun i hi => ?_)
     · obtain rfl : i = 0 := by have : i < 1 := hi; omega
       have h2 := World.var?_cell hg0 hv0 0
       rw [Nat.zero_add]
       rw [h2]
       have h5 := congrArg (·[0]?) hcs
       simpa using h5
     · obtain rfl : i = 0 := by have : i < 1 := hi; omega
       refine .mp kr b es clock rfl hb fun m => ?_
       rcases findNow_spec (d := .int .i64) (k := .int .i64 m) rfl es.toList 0 (fun x hxm => by obtain ⟨m', z', k1, -, -⟩ := key x hxm; rw [k1]; rfl) with ⟨h1, h2⟩ | ⟨j, e, h1, h2, h3⟩
       · refine .inr ⟨?_, h1⟩
         cases hp : kr m with
         | none => rfl
         | some z =>
           obtain ⟨x, hxm, k⟩ := in2 m z hp
           exact absurd k (h2 x hxm)
       · have hem : e ∈ es.toList := List.mem_of_getElem? h2
         obtain ⟨m', z', k1, k2, -⟩ := key e hem
         refine .inl ⟨0 + j, z', in1 e hem m z' h3 k2, ?_⟩
         rw [h1, k2]
   · have : gm g = .any := by
       unfold gm
       split
       · rename_i hb
         exact absurd (Nat.eq_of_beq_eq_true hb) hg
       · rfl
     rw [this]
     exact .any _
theorem door_met (os : Os) (args : Array Value) : laidMetH Tryz.prog [("radiolink/check.polynomials", Rows.laid_radiolink_check_polynomials)] ((World.doorLaid Tryz.prog 400 os).forCall (fun _ _ => 0) ⟨#[], args, []⟩).memory :=
 laidMetH_of_parts3 (fuel := 8) (laidMet_of_run' 8 (by kernel_rfl) (by kernel_rfl)) (by kernel_rfl) (by kernel_rfl)
end Go.Proofs.YtbagbjacmakfhaaGreatDoor
