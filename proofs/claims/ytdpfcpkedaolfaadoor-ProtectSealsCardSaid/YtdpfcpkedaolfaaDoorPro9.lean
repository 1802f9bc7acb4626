import Derived.Test.YtdpfcpkedaolfaaDoorPro8
namespace Go.Proofs.YtdpfcpkedaolfaaDoor
open Go.RowKit
set_option linter.all false
theorem iadd_in (a b : Int) (h : -9223372036854775808 ≤ a + b) (h2 : a + b < 9223372036854775808) : iarith .add .i64 a b = a + b := by (exact T.num)
theorem someR_ok (t : List Int) (a : Nat) (m : Int) (h0 : 1 ≤ m) (h1 : m ≤ 1000) : dataOk (someR t a m) = true := by
  have e : iarith .sub .i64 m 1 = m - 1 := by (exact T.num)
  have hb := nextR_lt t (adv t a 1) (iarith .add .i64 (iarith .sub .i64 m 1) 1) (by (exact T.num)) (by (exact T.num))
  have hN : manyR t (adv t a 1) (iarith .sub .i64 m 1) ≤ 1000 := by unfold manyR; (exact T.num)
  simp [dataOk, someR]
  omega
theorem low_mod (b n : Int) (hb : bitsOk b = true) (hn : countOk n = true) : lowR b n = modR n (IntKind.i64.wrap (1 * 2 ^ min (IntKind.u64.wrap b).toNat IntKind.i64.bits)) := by
  rw [lowR_eq b n hb hn]
  have h : 0 ≤ n := by simp [countOk] at hn; omega
  have key : ∀ m : Int, 0 < m → n % m = modR n m := fun m hm => by
    unfold modR
    rw [if_neg (by omega), Int.tmod_eq_emod_of_nonneg h, if_neg (by have := Int.emod_nonneg n (show m ≠ 0 by omega); omega)]
  rcases bits_cases hb with rfl | rfl | rfl | rfl | rfl
  · exact key 32 (by decide)
  · exact key 64 (by decide)
  · exact key 128 (by decide)
  · exact key 256 (by decide)
  · exact key 512 (by decide)
set_option maxHeartbeats 2000000 in
theorem returns_c (t : List Int) (count : Int) : LSpec Tryd.prog gl 5 [iv t, iAV count] [] (fun _ => (.bool true, [])) := by
  by_cases ht : t.length ≤ 400
  · have hm := modR_lt count 1048571 (by decide) (by decide)
    have hb := bitsR_ok t 0
    have hk := keyR_ok t (nextA t 0)
    have hkey := fun p => dkey_c (G := gl) t (nextA t 0) ht p
    have hbits := fun p => dbits_c (G := gl) t 0 ht p
    generalize keyR t (nextA t 0) = K at *
    generalize bitsR t 0 = B at *
    have hmod := mod_c (G := gl) count 1048571
    generalize modR count 1048571 = n0 at *
    have hw : 0 ≤ IntKind.u64.wrap B := by rw [IntKind.wrap_u64]; omega
    have hsome := fun a => someR_ok t a 60 (by decide) (by decide)
    have hc : ∀ n : Int, 0 ≤ n → n ≤ 1048574 → countOk n = true := fun n h0 h1 => by simp [countOk]; omega
    have hok : ∀ n : Int, 0 ≤ n → n ≤ 1048574 → (⟨B, K, n⟩ : Ot).ok = true := fun n h0 h1 => by simp [Ot.ok, hb, hk, nextOk]; omega
    have hp : ∀ (n : Int) (a : Nat), 0 ≤ n → n ≤ 1048574 → LSpec Tryd.prog gl 29 [(⟨B, K, n⟩ : Ot).av, bv (someR t a 60)] [] (fun _ => (protAV (⟨B, K, n + 1⟩, sealL K B n (someR t a 60), 0), [])) := fun n a h0 h1 => by
      have h := protect_c ⟨B, K, n⟩ (someR t a 60)
      have e : protR ⟨B, K, n⟩ (someR t a 60) = (⟨B, K, n + 1⟩, sealL K B n (someR t a 60), 0) := by
        unfold protR
        simp only [hok n h0 h1, hsome a, if_true]
        rw [if_neg (show ¬ n = 1048576 by omega)]
      rw [e] at h
      exact h
    have ho : ∀ (n : Int) (a : Nat), 0 ≤ n → n ≤ 1048574 → LSpec Tryd.prog gl 21 [K.av, iAV B, iAV n, bv (sealL K B n (someR t a 60))] [] (fun _ => (be (someR t a 60, 0), [])) := fun n a h0 h1 => by
      have h := open_c K B n (sealL K B n (someR t a 60))
      rw [open_seal K B n _ hk hb (hc n h0 h1) (hsome a)] at h
      exact h
    have hu : ∀ (n : Int) (a : Nat), 0 ≤ n → n ≤ 1048574 → LSpec Tryd.prog gl 23 [iAV B, bv (sealL K B n (someR t a 60))] [] (fun _ => (.tup [iAV (modR n (IntKind.i64.wrap (1 * 2 ^ min (IntKind.u64.wrap B).toNat IntKind.i64.bits))), iAV 0], [])) := fun n a h0 h1 => by
      have h := number_c B (sealL K B n (someR t a 60))
      rw [num_seal K B n _ hk hb (hc n h0 h1) (hsome a), low_mod B n hb (hc n h0 h1)] at h
      exact h
    have hlen : ∀ (n : Int) (a : Nat), (sealL K B n (someR t a 60)).length = (someR t a 60).length + 6 := fun n a => sealL_len K B n _ hk (hsome a)
    have hll : ∀ a, (someR t a 60).length ≤ 2048 := fun a => by have := hsome a; simp [dataOk] at this; omega
    generalize hS : (fun n a => sealL K B n (someR t a 60)) = S at *
    have hS2 : ∀ n a, sealL K B n (someR t a 60) = S n a := fun n a => by rw [← hS]
    simp only [hS2] at hp ho hu hlen
    generalize hD : (fun a => someR t a 60) = D at *
    have hD2 : ∀ a, someR t a 60 = D a := fun a => by rw [← hD]
    have hds := fun a p => dsome_c (G := gl) t a 60 (by decide) (by decide) ht p
    simp only [hD2] at hp ho hu hlen hds hll
    clear hS hS2 hD hD2 hsome hok hc
    refine LSpec.introL tyOk Tryd.func5 rfl (by kernel_rfl) (by simp) (fun q => ⟨by simp, by simp⟩) ?_
    refine AWpL.sound tyOk _ _ _ _ ?_
    conv => whnf
    repeat' first
      | (show LHas _ _ _; ((try show LHas _ _ _); repeat (with_reducible show LHas _ _ _); first | apply LHas.here | apply LHas.next); conv => whnf)
      | (refine And.intro ?_ ?_; (focus (first | exact T.side)); conv => whnf)
      | (show LCall _ _ _ _ _ _; first | (refine LCall.pure (awake_c) ?_; conv => whnf) | (refine LCall.pure (light_c t) ?_; conv => whnf) | (refine LCall.own (roll_c t) ?_; conv => whnf) | (apply LCall.upd (hkey _); ((try show LHas _ _ _); repeat (with_reducible show LHas _ _ _); first | apply LHas.here | apply LHas.next); refine And.intro rfl ?_; conv => whnf) | (apply LCall.upd (hbits _); ((try show LHas _ _ _); repeat (with_reducible show LHas _ _ _); first | apply LHas.here | apply LHas.next); refine And.intro rfl ?_; conv => whnf) | (refine LCall.pure (hmod) ?_; conv => whnf) | (apply LCall.upd (hds a _); ((try show LHas _ _ _); repeat (with_reducible show LHas _ _ _); first | apply LHas.here | apply LHas.next); refine And.intro rfl ?_; conv => whnf) | (refine LCall.pure (hp n a (by omega) (by omega)) ?_; conv => whnf) | (refine LCall.pure (ho n a (by omega) (by omega)) ?_; conv => whnf) | (refine LCall.pure (hu n a (by omega) (by omega)) ?_; conv => whnf) | (refine LCall.pure (mod_c _ _) ?_; conv => whnf) | (refine LCall.pure (same_c _ _) ?_; conv => whnf) | (apply LCall.eq; (focus (repeat first | (apply cons_congr; (focus (first | exact sl_bv rfl | exact sl_bv (by first | (simp; done) | (simp; (exact T.num))) | exact rfl))) | exact rfl)); first | (refine LCall.pure (awake_c) ?_; conv => whnf) | (refine LCall.pure (light_c t) ?_; conv => whnf) | (refine LCall.own (roll_c t) ?_; conv => whnf) | (apply LCall.upd (hkey _); ((try show LHas _ _ _); repeat (with_reducible show LHas _ _ _); first | apply LHas.here | apply LHas.next); refine And.intro rfl ?_; conv => whnf) | (apply LCall.upd (hbits _); ((try show LHas _ _ _); repeat (with_reducible show LHas _ _ _); first | apply LHas.here | apply LHas.next); refine And.intro rfl ?_; conv => whnf) | (refine LCall.pure (hmod) ?_; conv => whnf) | (apply LCall.upd (hds a _); ((try show LHas _ _ _); repeat (with_reducible show LHas _ _ _); first | apply LHas.here | apply LHas.next); refine And.intro rfl ?_; conv => whnf) | (refine LCall.pure (hp n a (by omega) (by omega)) ?_; conv => whnf) | (refine LCall.pure (ho n a (by omega) (by omega)) ?_; conv => whnf) | (refine LCall.pure (hu n a (by omega) (by omega)) ?_; conv => whnf) | (refine LCall.pure (mod_c _ _) ?_; conv => whnf) | (refine LCall.pure (same_c _ _) ?_; conv => whnf)))
      | (show ABr _ _ _; first | (refine ABr.tt ?_; conv => whnf) | (refine ABr.ff ?_; conv => whnf) | (refine ABr.byN ?_) | ((with_reducible refine ABr.lssT (by assumption) ?_); conv => whnf) | ((with_reducible refine ABr.lssF (by assumption) ?_); conv => whnf) | ((with_reducible refine ABr.lss (fun h => ?_) (fun h => ?_)) <;> first | (exfalso; omega) | conv => whnf) | ((with_reducible refine ABr.neqT (by assumption) ?_); conv => whnf) | ((with_reducible refine ABr.neqF (by assumption) ?_); conv => whnf) | ((with_reducible refine ABr.neq (fun h => ?_) (fun h => ?_)) <;> first | (exfalso; omega) | conv => whnf) | (refine ABr.byT (by with_reducible assumption) ?_; conv => whnf) | (refine ABr.byF (by with_reducible assumption) ?_; conv => whnf) | ((with_reducible refine ABr.decT rfl ?_); conv => whnf) | ((with_reducible refine ABr.decT (by assumption) ?_); conv => whnf) | ((with_reducible refine ABr.decF (by assumption) ?_); conv => whnf) | (refine ABr.dec (fun h => ?_) (fun h => ?_) <;> first | (exfalso; omega) | conv => whnf) | (refine ABr.gen (fun h => ?_) (fun h => ?_) <;> conv => whnf))
      | (show ACell _ _ _; first | (refine ACell.cell 0 ?_ ?_; (focus (first | exact T.side)); conv => whnf) | (refine ACell.mk ?_; conv => whnf))
      | (show AList _ _; first | (refine AList.app ?_ ?_; (focus (first | exact T.side)); conv => whnf) | (refine AList.set (x := b8 _) (bAV_b8 _).symm ?_ ?_; (focus (first | exact T.side)); conv => whnf) | (refine AList.set (f := iAV) rfl ?_ ?_; (focus (first | exact T.side)); conv => whnf) | (refine AList.part ?_; conv => whnf) | (refine AList.force ?_; (conv => whnf); refine Lit.mk ?_; conv => whnf) | (refine AList.full ?_ ?_; (focus (first | exact Nat.le_of_ble_eq_true rfl | (simp; done) | (simp; omega))); conv => whnf) | (refine AList.mk ?_; conv => whnf))
      | (refine LFresh.mk fun r => ?_; conv => whnf)
      | (show SWpL _ _ _ _ _ _ _; first | (apply SWpL.loopC 6 (S := Nat × Nat × Int × Nm × Nm) [] (fun zz => match zz with | (i, a, n, p, q) => [(7, .int .i64 i), (5, .ptr p 0), (6, .ptr q 0)]) (fun zz => match zz with | (i, a, n, p, q) => [(p, dice t a), (q, ⟨53, [iAV B, bv K.s, bv K.g, iAV K.n, iAV K.b, iAV K.d, iAV n]⟩)]) (fun zz => match zz with | (i, a, n, p, q) => i ≤ 5 ∧ 0 ≤ n ∧ n ≤ 1048570 + i) (fun zz => match zz with | (i, a, n, p, q) => 5 - i) ((0, _, _, _, _)) (by rfl); (focus ((repeat' first | exact trivial | (refine And.intro ?_ ?_) | exact LSub.nil | (with_reducible exact LSub.refl) | (apply LSub.cons; ((try show LHas _ _ _); repeat (with_reducible show LHas _ _ _); first | apply LHas.here | apply LHas.next); refine And.intro ?_ ?_; (focus (try (first | (with_reducible rfl) | (refine congrArg (Pl.mk _) ?_; (first | rfl | (simp; done))) | rfl | (with_reducible refine congrArg (Pl.mk _) ?_))))) | assumption | (first | rfl | ((conv => lhs; whnf); first | rfl | (refine congrArg (AV.int _) ?_; (exact T.num)) | (refine congrArg AV.bool ?_; (exact T.num)) | (refine vw_congr ?_; first | (exact T.num) | (first | rfl | (simp; done))) | (refine sl_congr ?_ ?_ <;> first | (exact T.num) | (first | rfl | (simp; done))) | (first | rfl | (simp; done)))) | (exact T.num) | (dsimp only; (exact T.num)) | (first | rfl | (simp; done))); done)); (rintro ⟨i, a, n, p, q⟩ hok; ((try dsimp only at hok); repeat (have hk := And.left hok; replace hok := And.right hok)); refine AtL.step tyOk ?_; conv => whnf)))
      | (show AtL _ _ _ _ _ _ _ _ _ _; first | (apply AtL.mk' (id := 6) (S := Nat × Nat × Int × Nm × Nm) ((i + 1, _, n + 1, _, _)); (repeat' first | exact trivial | (refine And.intro ?_ ?_) | exact LSub.nil | (with_reducible exact LSub.refl) | (apply LSub.cons; ((try show LHas _ _ _); repeat (with_reducible show LHas _ _ _); first | apply LHas.here | apply LHas.next); refine And.intro ?_ ?_; (focus (try (first | (with_reducible rfl) | (refine congrArg (Pl.mk _) ?_; (first | rfl | (simp; done))) | rfl | (with_reducible refine congrArg (Pl.mk _) ?_))))) | assumption | (first | rfl | ((conv => lhs; whnf); first | rfl | (refine congrArg (AV.int _) ?_; (exact T.num)) | (refine congrArg AV.bool ?_; (exact T.num)) | (refine vw_congr ?_; first | (exact T.num) | (first | rfl | (simp; done))) | (refine sl_congr ?_ ?_ <;> first | (exact T.num) | (first | rfl | (simp; done))) | (first | rfl | (simp; done)))) | (exact T.num) | (dsimp only; (exact T.num)) | (first | rfl | (simp; done))); done) | (apply AtL.mk' (id := 6) (S := Nat × Nat × Int × Nm × Nm) ((i + 1, _, n + 1, _, _)); (repeat' first | exact trivial | (refine And.intro ?_ ?_) | exact LSub.nil | (with_reducible exact LSub.refl) | (apply LSub.cons; ((try show LHas _ _ _); repeat (with_reducible show LHas _ _ _); first | apply LHas.here | apply LHas.next); refine And.intro ?_ ?_; (focus (try (first | (with_reducible rfl) | (refine congrArg (Pl.mk _) ?_; (first | rfl | (simp; done))) | rfl | (with_reducible refine congrArg (Pl.mk _) ?_))))) | assumption | (first | rfl | ((conv => lhs; whnf); first | rfl | (refine congrArg (AV.int _) ?_; (exact T.num)) | (refine congrArg AV.bool ?_; (exact T.num)) | (refine vw_congr ?_; first | (exact T.num) | (first | rfl | (simp; done))) | (refine sl_congr ?_ ?_ <;> first | (exact T.num) | (first | rfl | (simp; done))) | (first | rfl | (simp; done)))) | (exact T.num) | (dsimp only; (exact T.num)) | (first | rfl | (simp; done)))))
      | (show KeepL _ _ _; first | (refine KeepL.cons ?_; ((try show LHas _ _ _); repeat (with_reducible show LHas _ _ _); first | apply LHas.here | apply LHas.next); ((try show LHas _ _ _); repeat (with_reducible show LHas _ _ _); first | apply LHas.here | apply LHas.next); refine And.intro rfl ?_) | exact KeepL.nil)
      | (show InL _ _; first | exact InL.here | refine InL.next ?_)
      | (show False; (exact T.num))
      | (refine ⟨_, rfl, rfl, ?_⟩; conv => whnf)
    all_goals (try dsimp only)
    · exact absurd (iadd_in n 1 (by omega) (by omega)).symm h
    · exact absurd (show ((S n a).length : Int) = _ by rw [iadd_in _ _ (by omega) (by have := hll a; omega), hlen n a]; rfl) h
    · (refine RetL.val ?_ ?_; rotate_left; (focus ((repeat' first | exact LSub.nil | (with_reducible exact LSub.refl) | (apply LSub.cons; ((try show LHas _ _ _); repeat (with_reducible show LHas _ _ _); first | apply LHas.here | apply LHas.next); refine And.intro ?_ ?_; (focus (try (first | (with_reducible rfl) | (refine congrArg (Pl.mk _) ?_; (first | rfl | (simp; done))) | rfl | (with_reducible refine congrArg (Pl.mk _) ?_)))))))))
      rfl
  · refine LSpec.introL tyOk Tryd.func5 rfl (by kernel_rfl) (by simp) (fun q => ⟨by simp, by simp⟩) ?_
    refine AWpL.sound tyOk _ _ _ _ ?_
    conv => whnf
    repeat' first
      | (show LHas _ _ _; ((try show LHas _ _ _); repeat (with_reducible show LHas _ _ _); first | apply LHas.here | apply LHas.next); conv => whnf)
      | (refine And.intro ?_ ?_; (focus (first | exact T.side)); conv => whnf)
      | (show LCall _ _ _ _ _ _; first | (refine LCall.pure (awake_c) ?_; conv => whnf) | (refine LCall.pure (light_c t) ?_; conv => whnf) | (apply LCall.eq; (focus (repeat first | (apply cons_congr; (focus (first | exact sl_bv rfl | exact sl_bv (by first | (simp; done) | (simp; (exact T.num))) | exact rfl))) | exact rfl)); first | (refine LCall.pure (awake_c) ?_; conv => whnf) | (refine LCall.pure (light_c t) ?_; conv => whnf)))
      | (show ABr _ _ _; first | (refine ABr.tt ?_; conv => whnf) | (refine ABr.ff ?_; conv => whnf) | (refine ABr.byN ?_) | ((with_reducible refine ABr.lssT (by assumption) ?_); conv => whnf) | ((with_reducible refine ABr.lssF (by assumption) ?_); conv => whnf) | ((with_reducible refine ABr.lss (fun h => ?_) (fun h => ?_)) <;> first | (exfalso; omega) | conv => whnf) | ((with_reducible refine ABr.neqT (by assumption) ?_); conv => whnf) | ((with_reducible refine ABr.neqF (by assumption) ?_); conv => whnf) | ((with_reducible refine ABr.neq (fun h => ?_) (fun h => ?_)) <;> first | (exfalso; omega) | conv => whnf) | (refine ABr.byT (by with_reducible assumption) ?_; conv => whnf) | (refine ABr.byF (by with_reducible assumption) ?_; conv => whnf) | ((with_reducible refine ABr.decT rfl ?_); conv => whnf) | ((with_reducible refine ABr.decT (by assumption) ?_); conv => whnf) | ((with_reducible refine ABr.decF (by assumption) ?_); conv => whnf) | (refine ABr.dec (fun h => ?_) (fun h => ?_) <;> first | (exfalso; omega) | conv => whnf) | (refine ABr.gen (fun h => ?_) (fun h => ?_) <;> conv => whnf))
      | (show ACell _ _ _; first | (refine ACell.cell 0 ?_ ?_; (focus (first | exact T.side)); conv => whnf) | (refine ACell.mk ?_; conv => whnf))
      | (show AList _ _; first | (refine AList.app ?_ ?_; (focus (first | exact T.side)); conv => whnf) | (refine AList.set (x := b8 _) (bAV_b8 _).symm ?_ ?_; (focus (first | exact T.side)); conv => whnf) | (refine AList.set (f := iAV) rfl ?_ ?_; (focus (first | exact T.side)); conv => whnf) | (refine AList.part ?_; conv => whnf) | (refine AList.force ?_; (conv => whnf); refine Lit.mk ?_; conv => whnf) | (refine AList.full ?_ ?_; (focus (first | exact Nat.le_of_ble_eq_true rfl | (simp; done) | (simp; omega))); conv => whnf) | (refine AList.mk ?_; conv => whnf))
      | (refine LFresh.mk fun r => ?_; conv => whnf)
      | (show KeepL _ _ _; first | (refine KeepL.cons ?_; ((try show LHas _ _ _); repeat (with_reducible show LHas _ _ _); first | apply LHas.here | apply LHas.next); ((try show LHas _ _ _); repeat (with_reducible show LHas _ _ _); first | apply LHas.here | apply LHas.next); refine And.intro rfl ?_) | exact KeepL.nil)
      | (show InL _ _; first | exact InL.here | refine InL.next ?_)
      | (show False; (exact T.num))
      | (refine ⟨_, rfl, rfl, ?_⟩; conv => whnf)
    all_goals (try dsimp only)
    (refine RetL.val ?_ ?_; rotate_left; (focus ((repeat' first | exact LSub.nil | (with_reducible exact LSub.refl) | (apply LSub.cons; ((try show LHas _ _ _); repeat (with_reducible show LHas _ _ _); first | apply LHas.here | apply LHas.next); refine And.intro ?_ ?_; (focus (try (first | (with_reducible rfl) | (refine congrArg (Pl.mk _) ?_; (first | rfl | (simp; done))) | rfl | (with_reducible refine congrArg (Pl.mk _) ?_)))))))))
    rfl
set_option maxHeartbeats 2000000 in
theorem sidesm_c (t : List Int) : LSpec Tryd.prog gl 7 [iv t] [] (fun _ => (.bool true, [])) := by
  by_cases ht : t.length ≤ 400
  · have hs : ∀ b s g n kb d nx s2 g2 n2 b2 d2 data, LSpec Tryd.prog gl 6 [.agg [iAV b, bv s, bv g, iAV n, iAV kb, iAV d, iAV nx], .agg [bv s2, bv g2, iAV n2, iAV b2, iAV d2], bv data] [] (fun _ => (.bool true, [])) := fun b s g n kb d nx s2 g2 n2 b2 d2 data => sides_c ⟨b, ⟨s, g, n, kb, d⟩, nx⟩ ⟨s2, g2, n2, b2, d2⟩ data
    have hks : ∀ a, (keyR t a).s.length = 32 ∧ (keyR t a).g.length = 16 := fun a => ⟨((keyR t a).of (keyR_ok t a)).1, ((keyR t a).of (keyR_ok t a)).2.1⟩
    have ho : ∀ a c p, LSpec Tryd.prog gl 19 [.ptr p 0, (keyR t c).av] [(p, dice t a)] (fun _ => ((oddR t a (keyR t c)).av, [(p, dice t (oddA t a))])) := fun a c p => doddkey_c t a (keyR t c) (by have := hks c; omega) (by have := hks c; omega) ht p
    have hn : ∀ a, 0 ≤ nextR t a 5 ∧ nextR t a 5 < 5 := fun a => nextR_lt t a 5 (by decide) (by decide)
    have hn3 : ∀ a, 0 ≤ nextR t a 3 ∧ nextR t a 3 < 3 := fun a => nextR_lt t a 3 (by decide) (by decide)
    have hn2 : ∀ a, 0 ≤ nextR t a 2 ∧ nextR t a 2 < 2 := fun a => nextR_lt t a 2 (by decide) (by decide)
    have h3c : ∀ a, 0 + (nextR t a 3).toNat * 1 < [4, 10, 9].length := fun a => by have := hn3 a; show _ < 3; omega
    have h2c : ∀ a, 0 + (nextR t a 2).toNat * 1 < [(-1 : Int), 1048577].length := fun a => by have := hn2 a; show _ < 2; omega
    have h3l : ∀ a (x y z : AV), 0 + (nextR t a 3).toNat * 1 + 1 ≤ [x, y, z].length := fun a x y z => by have := hn3 a; show _ ≤ 3; omega
    have h2l : ∀ a (x y : AV), 0 + (nextR t a 2).toNat * 1 + 1 ≤ [x, y].length := fun a x y => by have := hn2 a; show _ ≤ 2; omega
    have hf : ∀ a, LSpec Tryd.prog gl 39 [iAV (iarith .add .i64 2046 (nextR t a 5)), iAV 3] [] (fun _ => (bv (filled (iarith .add .i64 2046 (nextR t a 5)) 3), [])) := fun a => filled_c _ _ (by have := hn a; (exact T.num))
    refine LSpec.introL tyOk Tryd.func7 rfl (by kernel_rfl) (by simp) (fun q => ⟨by simp, by simp⟩) ?_
    refine AWpL.sound tyOk _ _ _ _ ?_
    conv => whnf
    repeat' first
      | (show LHas _ _ _; ((try show LHas _ _ _); repeat (with_reducible show LHas _ _ _); first | apply LHas.here | apply LHas.next); conv => whnf)
      | (refine And.intro ?_ ?_; (focus (first | (with_reducible exact h3l _ _ _ _) | (with_reducible exact h2l _ _ _) | (with_reducible exact (hn3 _).1) | (with_reducible exact (hn2 _).1) | (with_reducible exact Int.lt_of_lt_of_le (hn3 _).2 (by decide)) | (with_reducible exact Int.lt_of_lt_of_le (hn2 _).2 (by decide)) | exact T.side)); conv => whnf)
      | (show LCall _ _ _ _ _ _; first | (refine LCall.pure (awake_c) ?_; conv => whnf) | (refine LCall.pure (light_c t) ?_; conv => whnf) | (refine LCall.own (roll_c t) ?_; conv => whnf) | (apply LCall.upd (dkey_c t _ ht _); ((try show LHas _ _ _); repeat (with_reducible show LHas _ _ _); first | apply LHas.here | apply LHas.next); refine And.intro rfl ?_; conv => whnf) | (apply LCall.upd (dbits_c t _ ht _); ((try show LHas _ _ _); repeat (with_reducible show LHas _ _ _); first | apply LHas.here | apply LHas.next); refine And.intro rfl ?_; conv => whnf) | (apply LCall.upd (next_c t _ _ ht _); ((try show LHas _ _ _); repeat (with_reducible show LHas _ _ _); first | apply LHas.here | apply LHas.next); refine And.intro rfl ?_; conv => whnf) | (apply LCall.upd (one_c t _ _ ht _); ((try show LHas _ _ _); repeat (with_reducible show LHas _ _ _); first | apply LHas.here | apply LHas.next); refine And.intro rfl ?_; conv => whnf) | (apply LCall.upd (ho _ _ _); ((try show LHas _ _ _); repeat (with_reducible show LHas _ _ _); first | apply LHas.here | apply LHas.next); refine And.intro rfl ?_; conv => whnf) | (apply LCall.upd (dbytes_c t _ 20 (by decide) (by decide) ht _); ((try show LHas _ _ _); repeat (with_reducible show LHas _ _ _); first | apply LHas.here | apply LHas.next); refine And.intro rfl ?_; conv => whnf) | (refine LCall.pure (hf _) ?_; conv => whnf) | (refine LCall.pure (hs _ _ _ _ _ _ _ _ _ _ _ _ _) ?_; conv => whnf) | (apply LCall.eq; (focus (repeat first | (apply cons_congr; (focus (first | exact sl_bv rfl | exact sl_bv (by first | (simp; done) | (simp; (exact T.num))) | exact rfl))) | exact rfl)); first | (refine LCall.pure (awake_c) ?_; conv => whnf) | (refine LCall.pure (light_c t) ?_; conv => whnf) | (refine LCall.own (roll_c t) ?_; conv => whnf) | (apply LCall.upd (dkey_c t _ ht _); ((try show LHas _ _ _); repeat (with_reducible show LHas _ _ _); first | apply LHas.here | apply LHas.next); refine And.intro rfl ?_; conv => whnf) | (apply LCall.upd (dbits_c t _ ht _); ((try show LHas _ _ _); repeat (with_reducible show LHas _ _ _); first | apply LHas.here | apply LHas.next); refine And.intro rfl ?_; conv => whnf) | (apply LCall.upd (next_c t _ _ ht _); ((try show LHas _ _ _); repeat (with_reducible show LHas _ _ _); first | apply LHas.here | apply LHas.next); refine And.intro rfl ?_; conv => whnf) | (apply LCall.upd (one_c t _ _ ht _); ((try show LHas _ _ _); repeat (with_reducible show LHas _ _ _); first | apply LHas.here | apply LHas.next); refine And.intro rfl ?_; conv => whnf) | (apply LCall.upd (ho _ _ _); ((try show LHas _ _ _); repeat (with_reducible show LHas _ _ _); first | apply LHas.here | apply LHas.next); refine And.intro rfl ?_; conv => whnf) | (apply LCall.upd (dbytes_c t _ 20 (by decide) (by decide) ht _); ((try show LHas _ _ _); repeat (with_reducible show LHas _ _ _); first | apply LHas.here | apply LHas.next); refine And.intro rfl ?_; conv => whnf) | (refine LCall.pure (hf _) ?_; conv => whnf) | (refine LCall.pure (hs _ _ _ _ _ _ _ _ _ _ _ _ _) ?_; conv => whnf)))
      | (show ABr _ _ _; first | (refine ABr.tt ?_; conv => whnf) | (refine ABr.ff ?_; conv => whnf) | (refine ABr.byN ?_) | ((with_reducible refine ABr.eqlT (by assumption) ?_); conv => whnf) | ((with_reducible refine ABr.eqlF (by assumption) ?_); conv => whnf) | ((with_reducible refine ABr.eql (fun h => ?_) (fun h => ?_)) <;> first | (exfalso; omega) | conv => whnf) | (refine ABr.byT (by with_reducible assumption) ?_; conv => whnf) | (refine ABr.byF (by with_reducible assumption) ?_; conv => whnf) | ((with_reducible refine ABr.decT rfl ?_); conv => whnf) | ((with_reducible refine ABr.decT (by assumption) ?_); conv => whnf) | ((with_reducible refine ABr.decF (by assumption) ?_); conv => whnf) | (refine ABr.dec (fun h => ?_) (fun h => ?_) <;> first | (exfalso; omega) | conv => whnf) | (refine ABr.gen (fun h => ?_) (fun h => ?_) <;> conv => whnf))
      | (show ACell _ _ _; first | (refine ACell.elem (l := [4, 10, 9]) (f := iAV) 0 ?_ ?_; (focus (exact h3c _)); conv => whnf) | (refine ACell.elem (l := [-1, 1048577]) (f := iAV) 0 ?_ ?_; (focus (exact h2c _)); conv => whnf) | (refine ACell.cell 0 ?_ ?_; (focus (first | exact T.side)); conv => whnf) | (refine ACell.mk ?_; conv => whnf))
      | (show AList _ _; first | (refine AList.app ?_ ?_; (focus (first | exact T.side)); conv => whnf) | (refine AList.set (x := b8 _) (bAV_b8 _).symm ?_ ?_; (focus (first | exact T.side)); conv => whnf) | (refine AList.set (f := iAV) rfl ?_ ?_; (focus (first | exact T.side)); conv => whnf) | (refine AList.part ?_; conv => whnf) | (refine AList.force ?_; (conv => whnf); refine Lit.mk ?_; conv => whnf) | (refine AList.full ?_ ?_; (focus (first | exact Nat.le_of_ble_eq_true rfl | (simp; done) | (simp; omega))); conv => whnf) | (refine AList.mk ?_; conv => whnf))
      | (refine LFresh.mk fun r => ?_; conv => whnf)
      | (show KeepL _ _ _; first | (refine KeepL.cons ?_; ((try show LHas _ _ _); repeat (with_reducible show LHas _ _ _); first | apply LHas.here | apply LHas.next); ((try show LHas _ _ _); repeat (with_reducible show LHas _ _ _); first | apply LHas.here | apply LHas.next); refine And.intro rfl ?_) | exact KeepL.nil)
      | (show InL _ _; first | exact InL.here | refine InL.next ?_)
      | (show False; (exact T.num))
    all_goals (try dsimp only)
    all_goals
      (refine RetL.val ?_ ?_; rotate_left; (focus ((repeat' first | exact LSub.nil | (with_reducible exact LSub.refl) | (apply LSub.cons; ((try show LHas _ _ _); repeat (with_reducible show LHas _ _ _); first | apply LHas.here | apply LHas.next); refine And.intro ?_ ?_; (focus (try (first | (with_reducible rfl) | (refine congrArg (Pl.mk _) ?_; (first | rfl | (simp; done))) | rfl | (with_reducible refine congrArg (Pl.mk _) ?_)))))))))
      rfl
  · refine LSpec.introL tyOk Tryd.func7 rfl (by kernel_rfl) (by simp) (fun q => ⟨by simp, by simp⟩) ?_
    refine AWpL.sound tyOk _ _ _ _ ?_
    conv => whnf
    repeat' first
      | (show LHas _ _ _; ((try show LHas _ _ _); repeat (with_reducible show LHas _ _ _); first | apply LHas.here | apply LHas.next); conv => whnf)
      | (refine And.intro ?_ ?_; (focus (first | exact T.side)); conv => whnf)
      | (show LCall _ _ _ _ _ _; first | (refine LCall.pure (awake_c) ?_; conv => whnf) | (refine LCall.pure (light_c t) ?_; conv => whnf) | (apply LCall.eq; (focus (repeat first | (apply cons_congr; (focus (first | exact sl_bv rfl | exact sl_bv (by first | (simp; done) | (simp; (exact T.num))) | exact rfl))) | exact rfl)); first | (refine LCall.pure (awake_c) ?_; conv => whnf) | (refine LCall.pure (light_c t) ?_; conv => whnf)))
      | (show ABr _ _ _; first | (refine ABr.tt ?_; conv => whnf) | (refine ABr.ff ?_; conv => whnf) | (refine ABr.byN ?_) | ((with_reducible refine ABr.eqlT (by assumption) ?_); conv => whnf) | ((with_reducible refine ABr.eqlF (by assumption) ?_); conv => whnf) | ((with_reducible refine ABr.eql (fun h => ?_) (fun h => ?_)) <;> first | (exfalso; omega) | conv => whnf) | (refine ABr.byT (by with_reducible assumption) ?_; conv => whnf) | (refine ABr.byF (by with_reducible assumption) ?_; conv => whnf) | ((with_reducible refine ABr.decT rfl ?_); conv => whnf) | ((with_reducible refine ABr.decT (by assumption) ?_); conv => whnf) | ((with_reducible refine ABr.decF (by assumption) ?_); conv => whnf) | (refine ABr.dec (fun h => ?_) (fun h => ?_) <;> first | (exfalso; omega) | conv => whnf) | (refine ABr.gen (fun h => ?_) (fun h => ?_) <;> conv => whnf))
      | (show ACell _ _ _; first | (refine ACell.cell 0 ?_ ?_; (focus (first | exact T.side)); conv => whnf) | (refine ACell.mk ?_; conv => whnf))
      | (show AList _ _; first | (refine AList.app ?_ ?_; (focus (first | exact T.side)); conv => whnf) | (refine AList.set (x := b8 _) (bAV_b8 _).symm ?_ ?_; (focus (first | exact T.side)); conv => whnf) | (refine AList.set (f := iAV) rfl ?_ ?_; (focus (first | exact T.side)); conv => whnf) | (refine AList.part ?_; conv => whnf) | (refine AList.force ?_; (conv => whnf); refine Lit.mk ?_; conv => whnf) | (refine AList.full ?_ ?_; (focus (first | exact Nat.le_of_ble_eq_true rfl | (simp; done) | (simp; omega))); conv => whnf) | (refine AList.mk ?_; conv => whnf))
      | (refine LFresh.mk fun r => ?_; conv => whnf)
      | (show KeepL _ _ _; first | (refine KeepL.cons ?_; ((try show LHas _ _ _); repeat (with_reducible show LHas _ _ _); first | apply LHas.here | apply LHas.next); ((try show LHas _ _ _); repeat (with_reducible show LHas _ _ _); first | apply LHas.here | apply LHas.next); refine And.intro rfl ?_) | exact KeepL.nil)
      | (show InL _ _; first | exact InL.here | refine InL.next ?_)
      | (show False; (exact T.num))
    all_goals (try dsimp only)
    (refine RetL.val ?_ ?_; rotate_left; (focus ((repeat' first | exact LSub.nil | (with_reducible exact LSub.refl) | (apply LSub.cons; ((try show LHas _ _ _); repeat (with_reducible show LHas _ _ _); first | apply LHas.here | apply LHas.next); refine And.intro ?_ ?_; (focus (try (first | (with_reducible rfl) | (refine congrArg (Pl.mk _) ?_; (first | rfl | (simp; done))) | rfl | (with_reducible refine congrArg (Pl.mk _) ?_)))))))))
    rfl
end Go.Proofs.YtdpfcpkedaolfaaDoor
