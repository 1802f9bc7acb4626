import Derived.Test.YtkfpgdckdmlhkaaGreatDoorDp36
import Derived.Test.YtkfpgdckdmlhkaaGreatDoorDp20
import Derived.Test.YtkfpgdckdmlhkaaGreatDoorRows
import Derived.WideKeyElems2
namespace Go.Proofs.YtkfpgdckdmlhkaaGreatDoor
open Go.ChangeShapes Go.WideShapes Go.ChangeAt Go.RowKit Go.MapKept
set_option linter.all false
theorem gPoly : Tryz.prog.globalNamed "radiolink/check.polynomials" = some 0 := by kernel_rfl
theorem tPoly : (Tryz.prog.globals[0]?).map (·.type) = some 165 := by kernel_rfl
set_option maxRecDepth 100000 in
theorem key_int {v : Value} {y : Go.Lit} (h : keyOf Tryz.prog 3 v = some y) : ∃ m : Int, v = .int .i64 m ∧ y = .int .i64 m := by
 unfold keyOf mapKey at h
 rw [Tryz.underlying3] at h
 cases v with
 | int q m =>
   simp only at h
   split at h
   · rename_i hq
     obtain ⟨rfl, -⟩ := hq
     exact ⟨m, rfl, (Option.some.inj h).symm⟩
   · cases h
 | _ => cases h
set_option maxRecDepth 100000 in
theorem val_int {H : Type} {enc : TypeId × Value → H} {W : World} {n : Nat} {v : Value} {z : DataW H × List MemPlace} (h : WideElems.elemAt enc Tryz.prog W 0 (fun _ => true) false n 3 v = some z) : ∃ m : Int, v = .int .i64 m ∧ z.1 = .lit (.int .i64 m) := by
 unfold WideElems.elemAt at h
 split at h
 · rename_i hf
   obtain ⟨d, p⟩ := z
   obtain ⟨i, h2, h3, -⟩ := DataW.trod_int Tryz.underlying3 h
   refine ⟨i, ?_, congrArg Prod.fst h3⟩
   cases v with
   | agg cs =>
     unfold Value.formed at hf
     rw [Tryz.underlying3] at hf
     cases hf
   | int q m =>
     have h4 : [Value.int q m] = [.int .i64 i] := h2
     injection h4
   | _ => cases h2
 · cases h
theorem poly_in {n v : Int} : polyF n = some v ↔ (n, v) ∈ [((3 : Int), (3 : Int)), (7, 9), (8, 7), (16, 4129), (24, 8801531)] := by
 unfold polyF
 simp only [List.mem_cons, Prod.mk.injEq, List.not_mem_nil, or_false]
 constructor
 · intro h
   (repeat' split at h) <;> first | (cases h; omega) | cases h
 · intro h
   rcases h with ⟨rfl, rfl⟩ | ⟨rfl, rfl⟩ | ⟨rfl, rfl⟩ | ⟨rfl, rfl⟩ | ⟨rfl, rfl⟩ <;> rfl
set_option maxRecDepth 100000 in
theorem polys_of {W : World} (h : laidMetH Tryz.prog [("radiolink/check.polynomials", Rows.laid_radiolink_check_polynomials)] W) : Glob gm (fun _ => none) W := by
 rw [MakeChecks.laidMetH_plain _ _ _ (by kernel_rfl)] at h
 obtain ⟨ps, ⟨g0, t0, cs0, f0, p0, q0, hg0, ht0, hv0, hd0, -, -⟩, -, -⟩ := h
 obtain rfl := Option.some.inj (gPoly.symm.trans hg0)
 obtain rfl := Option.some.inj (tPoly.symm.trans ht0)
 rcases WideElems.open_map Tryz.underlying165 hd0 with ⟨h1, h2⟩ | ⟨b, es, clock, n, rfl, hcs, hb, -, hF, hx⟩
 · cases h2
 · have hx1 := (congrArg Prod.fst hx)
   have hx2 : ([(.int .i64 3, .lit (.int .i64 3)), (.int .i64 7, .lit (.int .i64 9)), (.int .i64 8, .lit (.int .i64 7)), (.int .i64 16, .lit (.int .i64 4129)), (.int .i64 24, .lit (.int .i64 8801531))] : List (Go.Lit × DataW Unit)) = _ := DataW.map.inj hx1
   have hperm := sorted_perm (es.toList.map (WideElems.rg Tryz.prog 3 (WideElems.elemAt (fun _ => ()) Tryz.prog W 0 (fun _ => true) false n 3)))
   rw [← hx2] at hperm
   have key : ∀ x ∈ es.toList, ∃ m z, x.key = .int .i64 m ∧ x.val = .int .i64 z ∧ WideElems.rg Tryz.prog 3 (WideElems.elemAt (fun _ => ()) Tryz.prog W 0 (fun _ => true) false n 3) x = (.int .i64 m, .lit (.int .i64 z)) := fun x hxm => by
     obtain ⟨y, hy⟩ := hF.reads x hxm
     obtain ⟨m, k1, k2⟩ := key_int (WideElems.rd_key hy)
     obtain ⟨u, k3, k4⟩ := WideElems.rd_val hy
     obtain ⟨z, k5, k6⟩ := val_int k3
     refine ⟨m, z, k1, k5, ?_⟩
     rw [WideElems.rg_of hy]
     exact Prod.ext k2 (k4.trans k6)
   have in1 : ∀ x ∈ es.toList, ∀ m z, x.key = .int .i64 m → x.val = .int .i64 z → polyF m = some z := fun x hxm m z e1 e2 => by
     obtain ⟨m', z', k1, k2, k3⟩ := key x hxm
     rw [k1] at e1; rw [k2] at e2
     cases e1; cases e2
     have : ((Go.Lit.int .i64 m, DataW.lit (Go.Lit.int .i64 z)) : Go.Lit × DataW Unit) ∈ es.toList.map (WideElems.rg Tryz.prog 3 (WideElems.elemAt (fun _ => ()) Tryz.prog W 0 (fun _ => true) false n 3)) := List.mem_map.2 ⟨x, hxm, k3⟩
     have := hperm.mem_iff.2 this
     rw [poly_in]
     simp only [List.mem_cons, Prod.mk.injEq, Go.Lit.int.injEq, DataW.lit.injEq, List.not_mem_nil, or_false, true_and] at this ⊢
     exact this
   have in2 : ∀ m z, polyF m = some z → ∃ x ∈ es.toList, x.key = .int .i64 m := fun m z e => by
     have h3 : ((Go.Lit.int .i64 m, DataW.lit (Go.Lit.int .i64 z)) : Go.Lit × DataW Unit) ∈ ([(.int .i64 3, .lit (.int .i64 3)), (.int .i64 7, .lit (.int .i64 9)), (.int .i64 8, .lit (.int .i64 7)), (.int .i64 16, .lit (.int .i64 4129)), (.int .i64 24, .lit (.int .i64 8801531))] : List (Go.Lit × DataW Unit)) := by
       rw [poly_in] at e
       simp only [List.mem_cons, Prod.mk.injEq, Go.Lit.int.injEq, DataW.lit.injEq, List.not_mem_nil, or_false, true_and] at e ⊢
       exact e
     obtain ⟨x, hxm, k⟩ := List.mem_map.1 (hperm.mem_iff.1 h3)
     obtain ⟨m', z', k1, k2, k3⟩ := key x hxm
     rw [k3] at k
     refine ⟨x, hxm, ?_⟩
     rw [k1]
     have := congrArg Prod.fst k
     cases this
     rfl
   intro g
   by_cases hg : g = 0
   · subst hg
     show Rd _ W (.ip [.mp polyF]) _
     refine .ip _ _ 0 (fun _ => .map (some b)) (fun _ => rfl) (fun i hi => ?_) (fun i hi => ?_)
     · obtain rfl : i = 0 := by have : i < 1 := hi; omega
       have h2 := World.var?_cell hg0 hv0 0
       rw [Nat.zero_add]
       rw [h2]
       have h5 := congrArg (·[0]?) hcs
       simpa using h5
     · obtain rfl : i = 0 := by have : i < 1 := hi; omega
       refine .mp polyF b es clock rfl hb fun m => ?_
       rcases findNow_spec (d := .int .i64) (k := .int .i64 m) rfl es.toList 0 (fun x hxm => by obtain ⟨m', z', k1, -, -⟩ := key x hxm; rw [k1]; rfl) with ⟨h1, h2⟩ | ⟨j, e, h1, h2, h3⟩
       · refine .inr ⟨?_, h1⟩
         cases hp : polyF m with
         | none => rfl
         | some z =>
           obtain ⟨x, hxm, k⟩ := in2 m z hp
           exact absurd k (h2 x hxm)
       · have hem : e ∈ es.toList := List.mem_of_getElem? h2
         obtain ⟨m', z', k1, k2, -⟩ := key e hem
         refine .inl ⟨0 + j, z', in1 e hem m z' h3 k2, ?_⟩
         rw [h1, k2]
   · have : gm g = .any := by
       unfold gm
       split
       · rename_i hb
         exact absurd (Nat.eq_of_beq_eq_true hb) hg
       · rfl
     rw [this]
     exact .any _
theorem door_met (os : Os) (args : Array Value) : laidMetH Tryz.prog [("radiolink/check.polynomials", Rows.laid_radiolink_check_polynomials)] ((World.doorLaid Tryz.prog 400 os).forCall (fun _ _ => 0) ⟨#[], args, []⟩).memory :=
 laidMetH_of_parts3 (fuel := 8) (laidMet_of_run' 8 (by kernel_rfl) (by kernel_rfl)) (by kernel_rfl) (by kernel_rfl)
end Go.Proofs.YtkfpgdckdmlhkaaGreatDoor
