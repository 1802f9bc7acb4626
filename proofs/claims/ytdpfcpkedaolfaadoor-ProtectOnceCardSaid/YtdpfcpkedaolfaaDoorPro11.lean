import Derived.Test.YtdpfcpkedaolfaaDoorPro9
namespace Go.Proofs.YtdpfcpkedaolfaaDoor
open Go.RowKit
set_option linter.all false
theorem b8_inj {x y : Int} (h : b8 x = b8 y) : x % 256 = y % 256 := by
  have h2 := congrArg UInt8.toNat h
  unfold b8 at h2
  simp at h2
  omega
theorem putB_inj {a b : Int} (ha : 0 ≤ a ∧ a < 4294967296) (hb : 0 ≤ b ∧ b < 4294967296) (h : putB a 4 = putB b 4) : a = b := by
  simp only [putB, List.cons.injEq, and_true] at h
  obtain ⟨h3, h2, h1, h0⟩ := h
  have e3 := b8_inj h3
  have e2 := b8_inj h2
  have e1 := b8_inj h1
  have e0 := b8_inj h0
  have k : ∀ n : Int, n.fdiv (2 ^ min (8 * 3) 64) = n / 16777216 ∧ n.fdiv (2 ^ min (8 * 2) 64) = n / 65536 ∧ n.fdiv (2 ^ min (8 * 1) 64) = n / 256 ∧ n.fdiv (2 ^ min (8 * 0) 64) = n := fun n => by
    refine ⟨?_, ?_, ?_, ?_⟩
    · rw [Int.fdiv_eq_ediv_of_nonneg _ (by decide)]; rfl
    · rw [Int.fdiv_eq_ediv_of_nonneg _ (by decide)]; rfl
    · rw [Int.fdiv_eq_ediv_of_nonneg _ (by decide)]; rfl
    · rw [Int.fdiv_eq_ediv_of_nonneg _ (by decide)]; simp
  rw [(k a).1, (k b).1] at e3
  rw [(k a).2.1, (k b).2.1] at e2
  rw [(k a).2.2.1, (k b).2.2.1] at e1
  rw [(k a).2.2.2, (k b).2.2.2] at e0
  omega
theorem nonceL_inj {s g : List UInt8} {m b d m' c c' : Int} (hm : 0 ≤ m ∧ m < 4294967296) (hm' : 0 ≤ m' ∧ m' < 4294967296) (hc : 0 ≤ c ∧ c < 4294967296) (hc' : 0 ≤ c' ∧ c' < 4294967296) (h : nonceL ⟨s, g, m, b, d⟩ c = nonceL ⟨s, g, m', b, d⟩ c') : m = m' ∧ c = c' := by
  unfold nonceL at h
  obtain ⟨h1, h2⟩ := List.append_inj h (by simp)
  obtain ⟨h3, -⟩ := List.append_inj h1 (by simp)
  exact ⟨putB_inj hm hm' h3, putB_inj hc hc' h2⟩
/-- The nonces that were used: each of an earlier key, or of this key and an earlier count. -/
def Used (N : Int → Int → List UInt8) (us : List (List UInt8)) (m c : Int) : Prop := ∀ u ∈ us, ∃ m' c', u = N m' c' ∧ 0 ≤ m' ∧ m' ≤ m ∧ 0 ≤ c' ∧ c' ≤ 200 ∧ (m' < m ∨ c' < c)
theorem Used.nil {N : Int → Int → List UInt8} {m c : Int} : Used N [] m c := fun u h => by cases h
theorem Used.up {N : Int → Int → List UInt8} {us : List (List UInt8)} {m m' c c' : Int} (h : Used N us m c) (hm : m < m') : Used N us m' c' := fun u hu => by
  obtain ⟨m1, c1, h1, h2, h3, h4, h5, -⟩ := h u hu
  exact ⟨m1, c1, h1, h2, by omega, h4, h5, .inl (by omega)⟩
theorem Used.add {N : Int → Int → List UInt8} {us : List (List UInt8)} {m c : Int} (h : Used N us m c) (hm : 0 ≤ m) (hc : 0 ≤ c ∧ c ≤ 200) : Used N (us ++ [N m c]) m (c + 1) := fun u hu => by
  rcases List.mem_append.1 hu with hu | hu
  · obtain ⟨m1, c1, h1, h2, h3, h4, h5, h6⟩ := h u hu
    exact ⟨m1, c1, h1, h2, h3, h4, h5, by omega⟩
  · obtain rfl := List.mem_singleton.1 hu
    exact ⟨m, c, rfl, hm, by omega, hc.1, hc.2, .inr (by omega)⟩
set_option maxHeartbeats 4000000 in
theorem once_c (t : List Int) : LSpec Tryd.prog gl 8 [iv t] [] (fun _ => (.bool true, [])) := by
  by_cases ht : t.length ≤ 400
  · have hb := bitsR_ok t (adv t 0 5)
    have hk := keyR_ok t 0
    have hn5 : 0 ≤ (keyR t 0).n ∧ (keyR t 0).n < 5 := nextR_lt t (adv t 0 2) 5 (by decide) (by decide)
    have hn50 := nextR_lt t (nextA t (adv t 0 5)) 50 (by decide) (by decide)
    have hkey := fun p => dkey_c (G := gl) t 0 ht p
    have hbits := fun p => dbits_c (G := gl) t (adv t 0 5) ht p
    generalize keyR t 0 = K at *
    generalize bitsR t (adv t 0 5) = B at *
    obtain ⟨s, g, m0, b, d⟩ := K
    have hm0 : 0 ≤ m0 ∧ m0 < 5 := hn5
    clear hn5
    have hK : ∀ m : Int, 0 ≤ m → m ≤ 100 → (⟨s, g, m, b, d⟩ : Ky).ok = true := fun m h0 h1 => by
      simp [Ky.ok] at hk ⊢
      omega
    have hO : ∀ m c : Int, 0 ≤ m → m ≤ 100 → 0 ≤ c → c ≤ 200 → (⟨B, ⟨s, g, m, b, d⟩, c⟩ : Ot).ok = true := fun m c h0 h1 h2 h3 => by simp [Ot.ok, hb, hK m h0 h1, nextOk]; omega
    obtain ⟨N, hN⟩ : ∃ N : Int → Int → List UInt8, N = fun m c => nonceL ⟨s, g, m, b, d⟩ c := ⟨_, rfl⟩
    have hne : ∀ us m c (j : Nat), Used N us m c → 0 ≤ m → m ≤ 100 → 0 ≤ c → c ≤ 200 → j < us.length → ¬ us.getD j [] = N m c := fun us m c j hu h0 h1 h2 h3 hj he => by
      have hj' : us.getD j [] ∈ us := by rw [List.getD_eq_getElem?_getD, List.getElem?_eq_getElem hj]; exact List.getElem_mem hj
      obtain ⟨m1, c1, k1, k2, k3, k4, k5, k6⟩ := hu _ hj'
      rw [k1, hN] at he
      obtain ⟨e1, e2⟩ := nonceL_inj ⟨by omega, by omega⟩ ⟨by omega, by omega⟩ ⟨by omega, by omega⟩ ⟨by omega, by omega⟩ he
      omega
    have hnon : ∀ m c : Int, 0 ≤ m → m ≤ 100 → 0 ≤ c → c ≤ 200 → LSpec Tryd.prog gl 26 [.agg [bv s, bv g, iAV m, iAV b, iAV d], iAV c] [] (fun _ => (.tup [bv (N m c), iAV 0], [])) := fun m c h0 h1 h2 h3 => by
      rw [hN]
      exact rnonce_c ⟨s, g, m, b, d⟩ c (hK m h0 h1) (by simp [countOk]; omega)
    obtain ⟨S, hS⟩ : ∃ S : Int → Int → List UInt8, S = fun m c => sealL ⟨s, g, m, b, d⟩ B c [1] := ⟨_, rfl⟩
    have hpro : ∀ m c : Int, 0 ≤ m → m ≤ 100 → 0 ≤ c → c ≤ 200 → LSpec Tryd.prog gl 29 [.agg [iAV B, bv s, bv g, iAV m, iAV b, iAV d, iAV c], .sl 1 [.int .u8 1]] [] (fun _ => (.tup [.agg [iAV B, bv s, bv g, iAV m, iAV b, iAV d, iAV (c + 1)], bv (S m c), iAV 0], [])) := fun m c h0 h1 h2 h3 => by
      rw [hS, show AV.sl 1 [.int .u8 1] = bv [1] from rfl]
      have h := protect_c ⟨B, ⟨s, g, m, b, d⟩, c⟩ [1]
      have e : protR ⟨B, ⟨s, g, m, b, d⟩, c⟩ [1] = (⟨B, ⟨s, g, m, b, d⟩, c + 1⟩, sealL ⟨s, g, m, b, d⟩ B c [1], 0) := by
        unfold protR
        rw [if_pos (hO m c h0 h1 h2 h3), if_pos (show dataOk [1] = true by decide), if_neg (show ¬ c = 1048576 by omega)]
      rw [e] at h
      exact h
    have hrek : ∀ m c m' : Int, 0 ≤ m → m ≤ 100 → 0 ≤ c → c ≤ 200 → 0 ≤ m' → m' ≤ 100 → ¬ m' = m → LSpec Tryd.prog gl 31 [.agg [iAV B, bv s, bv g, iAV m, iAV b, iAV d, iAV c], .agg [bv s, bv g, iAV m', iAV b, iAV d]] [] (fun _ => (.tup [.agg [iAV B, bv s, bv g, iAV m', iAV b, iAV d, iAV c], iAV 0], [])) := fun m c m' h0 h1 h2 h3 h4 h5 h6 => by
      have h := rekey_c (G := gl) ⟨B, ⟨s, g, m, b, d⟩, c⟩ ⟨s, g, m', b, d⟩
      have e : rekR ⟨B, ⟨s, g, m, b, d⟩, c⟩ ⟨s, g, m', b, d⟩ = (⟨B, ⟨s, g, m', b, d⟩, c⟩, 0) := by
        unfold rekR
        rw [if_pos (hO m c h0 h1 h2 h3), if_pos (hK m' h4 h5), if_neg h6]
      rw [e] at h
      exact h
    have hrst : ∀ m c m' : Int, 0 ≤ m → m ≤ 100 → 0 ≤ c → c ≤ 200 → 0 ≤ m' → m' ≤ 100 → ¬ m' = m → LSpec Tryd.prog gl 33 [.agg [iAV B, bv s, bv g, iAV m, iAV b, iAV d, iAV c], .agg [bv s, bv g, iAV m', iAV b, iAV d]] [] (fun _ => (.tup [.agg [iAV B, bv s, bv g, iAV m', iAV b, iAV d, iAV 0], iAV 0], [])) := fun m c m' h0 h1 h2 h3 h4 h5 h6 => by
      have h := restart_c (G := gl) ⟨B, ⟨s, g, m, b, d⟩, c⟩ ⟨s, g, m', b, d⟩
      have e : rstR ⟨B, ⟨s, g, m, b, d⟩, c⟩ ⟨s, g, m', b, d⟩ = (⟨B, ⟨s, g, m', b, d⟩, 0⟩, 0) := by
        unfold rstR rekR
        rw [if_pos (hO m c h0 h1 h2 h3), if_pos (hK m' h4 h5), if_neg h6]
      rw [e] at h
      exact h
    have hrek9 : ∀ m c : Int, 0 ≤ m → m ≤ 100 → 0 ≤ c → c ≤ 200 → LSpec Tryd.prog gl 31 [.agg [iAV B, bv s, bv g, iAV m, iAV b, iAV d, iAV c], .agg [bv s, bv g, iAV m, iAV b, iAV d]] [] (fun _ => (.tup [.agg [iAV 0, bv [], bv [], iAV 0, iAV 0, iAV 0, iAV 0], iAV 9], [])) := fun m c h0 h1 h2 h3 => by
      have h := rekey_c (G := gl) ⟨B, ⟨s, g, m, b, d⟩, c⟩ ⟨s, g, m, b, d⟩
      have e : rekR ⟨B, ⟨s, g, m, b, d⟩, c⟩ ⟨s, g, m, b, d⟩ = (Ot.zero, 9) := by
        unfold rekR
        rw [if_pos (hO m c h0 h1 h2 h3), if_pos (hK m h0 h1), if_pos rfl]
      rw [e] at h
      exact h
    have hnl : ∀ m c, (N m c).length = 12 := fun m c => by rw [hN]; exact nonceL_len _ _
    clear hN hS hK hO hk hb
    refine LSpec.introL tyOk Tryd.func8 rfl (by kernel_rfl) (by simp) (fun q => ⟨by simp, by simp⟩) ?_
    refine AWpL.sound tyOk _ _ _ _ ?_
    conv => whnf
    repeat' first
      | (show LEra _ _ _; conv => whnf)
      | (show LHas _ _ _; ((try show LHas _ _ _); repeat (with_reducible show LHas _ _ _); first | apply LHas.here | apply LHas.next); conv => whnf)
      | (refine And.intro ?_ ?_; (focus (first | exact T.side)); conv => whnf)
      | (show LCall _ _ _ _ _ _; first | (refine LCall.pure (awake_c) ?_; conv => whnf) | (refine LCall.pure (light_c t) ?_; conv => whnf) | (refine LCall.own (roll_c t) ?_; conv => whnf) | (apply LCall.upd (hkey _); ((try show LHas _ _ _); repeat (with_reducible show LHas _ _ _); first | apply LHas.here | apply LHas.next); refine And.intro rfl ?_; conv => whnf) | (apply LCall.upd (hbits _); ((try show LHas _ _ _); repeat (with_reducible show LHas _ _ _); first | apply LHas.here | apply LHas.next); refine And.intro rfl ?_; conv => whnf) | (apply LCall.upd (next_c t _ _ ht _); ((try show LHas _ _ _); repeat (with_reducible show LHas _ _ _); first | apply LHas.here | apply LHas.next); refine And.intro rfl ?_; conv => whnf) | (apply LCall.upd (one_c t _ _ ht _); ((try show LHas _ _ _); repeat (with_reducible show LHas _ _ _); first | apply LHas.here | apply LHas.next); refine And.intro rfl ?_; conv => whnf) | (refine LCall.pure (hnon _ _ (by (exact T.num)) (by (exact T.num)) (by (exact T.num)) (by (exact T.num))) ?_; conv => whnf) | (refine LCall.mk' (hpro _ _ (by (exact T.num)) (by (exact T.num)) (by (exact T.num)) (by (exact T.num))) [_] ⟨LF.eq rfl, LF.row InL.here ?_, trivial⟩ ?_) | (refine LCall.pure (hrek9 _ _ (by (exact T.num)) (by (exact T.num)) (by (exact T.num)) (by (exact T.num))) ?_; conv => whnf) | (refine LCall.pure (hrek _ _ _ (by (exact T.num)) (by (exact T.num)) (by (exact T.num)) (by (exact T.num)) (by (exact T.num)) (by (exact T.num)) (by (exact T.num))) ?_; conv => whnf) | (refine LCall.pure (hrst _ _ _ (by (exact T.num)) (by (exact T.num)) (by (exact T.num)) (by (exact T.num)) (by (exact T.num)) (by (exact T.num)) (by (exact T.num))) ?_; conv => whnf) | (refine LCall.pure (same_c _ _) ?_; conv => whnf) | (apply LCall.eq; (focus (repeat first | (apply cons_congr; (focus (first | exact sl_bv rfl | exact sl_bv (by first | (simp; done) | (simp; (exact T.num))) | exact rfl))) | exact rfl)); first | (refine LCall.pure (awake_c) ?_; conv => whnf) | (refine LCall.pure (light_c t) ?_; conv => whnf) | (refine LCall.own (roll_c t) ?_; conv => whnf) | (apply LCall.upd (hkey _); ((try show LHas _ _ _); repeat (with_reducible show LHas _ _ _); first | apply LHas.here | apply LHas.next); refine And.intro rfl ?_; conv => whnf) | (apply LCall.upd (hbits _); ((try show LHas _ _ _); repeat (with_reducible show LHas _ _ _); first | apply LHas.here | apply LHas.next); refine And.intro rfl ?_; conv => whnf) | (apply LCall.upd (next_c t _ _ ht _); ((try show LHas _ _ _); repeat (with_reducible show LHas _ _ _); first | apply LHas.here | apply LHas.next); refine And.intro rfl ?_; conv => whnf) | (apply LCall.upd (one_c t _ _ ht _); ((try show LHas _ _ _); repeat (with_reducible show LHas _ _ _); first | apply LHas.here | apply LHas.next); refine And.intro rfl ?_; conv => whnf) | (refine LCall.pure (hnon _ _ (by (exact T.num)) (by (exact T.num)) (by (exact T.num)) (by (exact T.num))) ?_; conv => whnf) | (refine LCall.mk' (hpro _ _ (by (exact T.num)) (by (exact T.num)) (by (exact T.num)) (by (exact T.num))) [_] ⟨LF.eq rfl, LF.row InL.here ?_, trivial⟩ ?_) | (refine LCall.pure (hrek9 _ _ (by (exact T.num)) (by (exact T.num)) (by (exact T.num)) (by (exact T.num))) ?_; conv => whnf) | (refine LCall.pure (hrek _ _ _ (by (exact T.num)) (by (exact T.num)) (by (exact T.num)) (by (exact T.num)) (by (exact T.num)) (by (exact T.num)) (by (exact T.num))) ?_; conv => whnf) | (refine LCall.pure (hrst _ _ _ (by (exact T.num)) (by (exact T.num)) (by (exact T.num)) (by (exact T.num)) (by (exact T.num)) (by (exact T.num)) (by (exact T.num))) ?_; conv => whnf) | (refine LCall.pure (same_c _ _) ?_; conv => whnf)))
      | (show ABr _ _ _; first | (refine ABr.tt ?_; conv => whnf) | (refine ABr.ff ?_; conv => whnf) | (refine ABr.byN ?_) | ((with_reducible refine ABr.lssT (by assumption) ?_); conv => whnf) | ((with_reducible refine ABr.lssF (by assumption) ?_); conv => whnf) | ((with_reducible refine ABr.lss (fun h => ?_) (fun h => ?_)) <;> first | (exfalso; omega) | conv => whnf) | ((with_reducible refine ABr.eqlT (by assumption) ?_); conv => whnf) | ((with_reducible refine ABr.eqlF (by assumption) ?_); conv => whnf) | ((with_reducible refine ABr.eql (fun h => ?_) (fun h => ?_)) <;> first | (exfalso; omega) | conv => whnf) | ((with_reducible refine ABr.neqT (by assumption) ?_); conv => whnf) | ((with_reducible refine ABr.neqF (by assumption) ?_); conv => whnf) | ((with_reducible refine ABr.neq (fun h => ?_) (fun h => ?_)) <;> first | (exfalso; omega) | conv => whnf) | (refine ABr.byT (by with_reducible assumption) ?_; conv => whnf) | (refine ABr.byF (by with_reducible assumption) ?_; conv => whnf) | ((with_reducible refine ABr.decT rfl ?_); conv => whnf) | ((with_reducible refine ABr.decT (by assumption) ?_); conv => whnf) | ((with_reducible refine ABr.decF (by assumption) ?_); conv => whnf) | (refine ABr.dec (fun h => ?_) (fun h => ?_) <;> first | (exfalso; omega) | conv => whnf) | (refine ABr.gen (fun h => ?_) (fun h => ?_) <;> conv => whnf))
      | (show ACell _ _ _; first | (refine ACell.cell [] ?_ ?_; (focus ((exact T.num))); conv => whnf) | (refine ACell.cell 0 ?_ ?_; (focus (first | exact T.side)); conv => whnf) | (refine ACell.mk ?_; conv => whnf))
      | (show AList _ _; first | (refine AList.app ?_ ?_; (focus (first | exact T.side)); conv => whnf) | (refine AList.set (x := b8 _) (bAV_b8 _).symm ?_ ?_; (focus (first | exact T.side)); conv => whnf) | (refine AList.set (f := iAV) rfl ?_ ?_; (focus (first | exact T.side)); conv => whnf) | (refine AList.part ?_; conv => whnf) | (refine AList.force ?_; (conv => whnf); refine Lit.mk ?_; conv => whnf) | (refine AList.full ?_ ?_; (focus (first | exact Nat.le_of_ble_eq_true rfl | (simp; done) | (simp; omega))); conv => whnf) | (refine AList.mk ?_; conv => whnf))
      | (refine LFresh.mk fun r => ?_; conv => whnf)
      | (show SWpL _ _ _ _ _ _ _; first | (refine SWpL.adopt 6 1 22 (by rfl) fun q => ?_) | (apply SWpL.loopC 8 (S := Nat × Nat × Int × Int × (List (List UInt8)) × Nm × Nm × Nm × Nm) [103, 104] (fun zz => match zz with | (i, a, m, c, us, p, pk, po, q) => [(7, .int .i64 i), (6, .vw q 0 us.length 1), (3, .ptr p 0), (4, .ptr pk 0), (5, .ptr po 0)]) (fun zz => match zz with | (i, a, m, c, us, p, pk, po, q) => [(p, dice t a), (pk, ⟨24, [bv s, bv g, iAV m, iAV b, iAV d]⟩), (po, ⟨53, [iAV B, bv s, bv g, iAV m, iAV b, iAV d, iAV c]⟩), (q, ⟨22, us.map bv⟩)]) (fun zz => match zz with | (i, a, m, c, us, p, pk, po, q) => i ≤ 30 ∧ 0 ≤ m ∧ m ≤ 5 + i ∧ 0 ≤ c ∧ c ≤ 50 + i ∧ us.length = i ∧ Used N us m c) (fun zz => match zz with | (i, a, m, c, us, p, pk, po, q) => 30 - i) ((0, _, _, _, [], _, _, _, _)) (by rfl); (focus ((repeat' first | exact trivial | (refine And.intro ?_ ?_) | exact LSub.nil | (with_reducible exact LSub.refl) | (apply LSub.cons; ((try show LHas _ _ _); repeat (with_reducible show LHas _ _ _); first | apply LHas.here | apply LHas.next); refine And.intro ?_ ?_; (focus (try (first | (with_reducible rfl) | (refine congrArg (Pl.mk _) ?_; (first | rfl | (simp [bv]; done))) | rfl | (with_reducible refine congrArg (Pl.mk _) ?_))))) | assumption | (exact Used.nil) | (refine Used.add ?_ ?_ ⟨?_, ?_⟩ <;> first | assumption | (exact T.num)) | (apply Used.up; (focus assumption); (exact T.num)) | (first | rfl | ((conv => lhs; whnf); first | rfl | (refine congrArg (AV.int _) ?_; (exact T.num)) | (refine congrArg AV.bool ?_; (exact T.num)) | (refine vw_congr ?_; first | (exact T.num) | (first | rfl | (simp [bv]; done))) | (refine sl_congr ?_ ?_ <;> first | (exact T.num) | (first | rfl | (simp [bv]; done))) | (first | rfl | (simp [bv]; done)))) | (exact T.num) | (dsimp only; (exact T.num)) | (first | rfl | (simp [bv]; done))); done)); (rintro ⟨i, a, m, c, us, p, pk, po, q⟩ hok; ((try dsimp only at hok); repeat (have hk := And.left hok; replace hok := And.right hok)); refine AtL.step tyOk ?_; conv => whnf)) | (apply SWpL.loopC 23 (S := Nat × Nat × Int × Int × Nm × Nm × Nm × Nm × Nm) [7, 75, 76, 103, 104] (fun zz => match zz with | (j, a2, m2, c2, p, pk, po, px, q) => [(14, .int .i64 j), (6, .vw q 0 us.length 1), (3, .ptr p 0), (4, .ptr pk 0), (5, .ptr po 0), (11, .ptr px 0), (9, bv (N m2 c2))]) (fun zz => match zz with | (j, a2, m2, c2, p, pk, po, px, q) => [(p, dice t a2), (pk, ⟨24, [bv s, bv g, iAV m2, iAV b, iAV d]⟩), (po, ⟨53, [iAV B, bv s, bv g, iAV m2, iAV b, iAV d, iAV c2]⟩), (px, ⟨53, [iAV B, bv s, bv g, iAV m2, iAV b, iAV d, iAV (c2 + 1)]⟩), (q, ⟨22, us.map bv⟩)]) (fun zz => match zz with | (j, a2, m2, c2, p, pk, po, px, q) => j ≤ us.length ∧ 0 ≤ m2 ∧ m2 ≤ 6 + i ∧ 0 ≤ c2 ∧ c2 ≤ 50 + i ∧ Used N us m2 c2) (fun zz => match zz with | (j, a2, m2, c2, p, pk, po, px, q) => us.length - j) ((0, _, _, _, _, _, _, _, _)) (by rfl); (focus ((repeat' first | exact trivial | (refine And.intro ?_ ?_) | exact LSub.nil | (with_reducible exact LSub.refl) | (apply LSub.cons; ((try show LHas _ _ _); repeat (with_reducible show LHas _ _ _); first | apply LHas.here | apply LHas.next); refine And.intro ?_ ?_; (focus (try (first | (with_reducible rfl) | (refine congrArg (Pl.mk _) ?_; (first | rfl | (simp [bv]; done))) | rfl | (with_reducible refine congrArg (Pl.mk _) ?_))))) | assumption | (exact Used.nil) | (refine Used.add ?_ ?_ ⟨?_, ?_⟩ <;> first | assumption | (exact T.num)) | (apply Used.up; (focus assumption); (exact T.num)) | (first | rfl | ((conv => lhs; whnf); first | rfl | (refine congrArg (AV.int _) ?_; (exact T.num)) | (refine congrArg AV.bool ?_; (exact T.num)) | (refine vw_congr ?_; first | (exact T.num) | (first | rfl | (simp [bv]; done))) | (refine sl_congr ?_ ?_ <;> first | (exact T.num) | (first | rfl | (simp [bv]; done))) | (first | rfl | (simp [bv]; done)))) | (exact T.num) | (dsimp only; (exact T.num)) | (first | rfl | (simp [bv]; done))); done)); (rintro ⟨j, a2, m2, c2, p, pk, po, px, q⟩ hok; ((try dsimp only at hok); repeat (have hk := And.left hok; replace hok := And.right hok)); refine AtL.step tyOk ?_; conv => whnf)) | (apply SWpL.draw tyOk mixed (id := 5) [[], [0], [], [], [3, 1, 0], [1, 0, 2, 4, 3], [], [6, 5, 1, 0, 2, 4, 3]] [2, 1, 4] [0, 2, 3, 1, 4, 5, 6, 7] [_] (by kernel_rfl); conv => whnf) | (apply SWpL.draw tyOk mixed (id := 5) [[], [0], [], [], [3, 1, 0], [1, 0, 2, 4, 3], [], [6, 5, 1, 0, 2, 4, 3]] [2, 1, 4] [0, 2, 3, 1, 4, 5, 6, 7] [] (by kernel_rfl); conv => whnf))
      | (show AtL _ _ _ _ _ _ _ _ _ _; first | (apply AtL.mk' (id := 8) (S := Nat × Nat × Int × Int × (List (List UInt8)) × Nm × Nm × Nm × Nm) ((i + 1, a2, m2, c2 + 1, us ++ [N m2 c2], _, _, _, _)); (repeat' first | exact trivial | (refine And.intro ?_ ?_) | exact LSub.nil | (with_reducible exact LSub.refl) | (apply LSub.cons; ((try show LHas _ _ _); repeat (with_reducible show LHas _ _ _); first | apply LHas.here | apply LHas.next); refine And.intro ?_ ?_; (focus (try (first | (with_reducible rfl) | (refine congrArg (Pl.mk _) ?_; (first | rfl | (simp [bv]; done))) | rfl | (with_reducible refine congrArg (Pl.mk _) ?_))))) | assumption | (exact Used.nil) | (refine Used.add ?_ ?_ ⟨?_, ?_⟩ <;> first | assumption | (exact T.num)) | (apply Used.up; (focus assumption); (exact T.num)) | (first | rfl | ((conv => lhs; whnf); first | rfl | (refine congrArg (AV.int _) ?_; (exact T.num)) | (refine congrArg AV.bool ?_; (exact T.num)) | (refine vw_congr ?_; first | (exact T.num) | (first | rfl | (simp [bv]; done))) | (refine sl_congr ?_ ?_ <;> first | (exact T.num) | (first | rfl | (simp [bv]; done))) | (first | rfl | (simp [bv]; done)))) | (exact T.num) | (dsimp only; (exact T.num)) | (first | rfl | (simp [bv]; done))); done) | (apply AtL.mk' (id := 23) (S := Nat × Nat × Int × Int × Nm × Nm × Nm × Nm × Nm) ((j + 1, _, _, _, _, _, _, _, _)); (repeat' first | exact trivial | (refine And.intro ?_ ?_) | exact LSub.nil | (with_reducible exact LSub.refl) | (apply LSub.cons; ((try show LHas _ _ _); repeat (with_reducible show LHas _ _ _); first | apply LHas.here | apply LHas.next); refine And.intro ?_ ?_; (focus (try (first | (with_reducible rfl) | (refine congrArg (Pl.mk _) ?_; (first | rfl | (simp [bv]; done))) | rfl | (with_reducible refine congrArg (Pl.mk _) ?_))))) | assumption | (exact Used.nil) | (refine Used.add ?_ ?_ ⟨?_, ?_⟩ <;> first | assumption | (exact T.num)) | (apply Used.up; (focus assumption); (exact T.num)) | (first | rfl | ((conv => lhs; whnf); first | rfl | (refine congrArg (AV.int _) ?_; (exact T.num)) | (refine congrArg AV.bool ?_; (exact T.num)) | (refine vw_congr ?_; first | (exact T.num) | (first | rfl | (simp [bv]; done))) | (refine sl_congr ?_ ?_ <;> first | (exact T.num) | (first | rfl | (simp [bv]; done))) | (first | rfl | (simp [bv]; done)))) | (exact T.num) | (dsimp only; (exact T.num)) | (first | rfl | (simp [bv]; done))); done) | (apply AtL.mk' (id := 8) (S := Nat × Nat × Int × Int × (List (List UInt8)) × Nm × Nm × Nm × Nm) ((i + 1, a2, m2, c2 + 1, us ++ [N m2 c2], _, _, _, _)); (repeat' first | exact trivial | (refine And.intro ?_ ?_) | exact LSub.nil | (with_reducible exact LSub.refl) | (apply LSub.cons; ((try show LHas _ _ _); repeat (with_reducible show LHas _ _ _); first | apply LHas.here | apply LHas.next); refine And.intro ?_ ?_; (focus (try (first | (with_reducible rfl) | (refine congrArg (Pl.mk _) ?_; (first | rfl | (simp [bv]; done))) | rfl | (with_reducible refine congrArg (Pl.mk _) ?_))))) | assumption | (exact Used.nil) | (refine Used.add ?_ ?_ ⟨?_, ?_⟩ <;> first | assumption | (exact T.num)) | (apply Used.up; (focus assumption); (exact T.num)) | (first | rfl | ((conv => lhs; whnf); first | rfl | (refine congrArg (AV.int _) ?_; (exact T.num)) | (refine congrArg AV.bool ?_; (exact T.num)) | (refine vw_congr ?_; first | (exact T.num) | (first | rfl | (simp [bv]; done))) | (refine sl_congr ?_ ?_ <;> first | (exact T.num) | (first | rfl | (simp [bv]; done))) | (first | rfl | (simp [bv]; done)))) | (exact T.num) | (dsimp only; (exact T.num)) | (first | rfl | (simp [bv]; done)))) | (apply AtL.mk' (id := 23) (S := Nat × Nat × Int × Int × Nm × Nm × Nm × Nm × Nm) ((j + 1, _, _, _, _, _, _, _, _)); (repeat' first | exact trivial | (refine And.intro ?_ ?_) | exact LSub.nil | (with_reducible exact LSub.refl) | (apply LSub.cons; ((try show LHas _ _ _); repeat (with_reducible show LHas _ _ _); first | apply LHas.here | apply LHas.next); refine And.intro ?_ ?_; (focus (try (first | (with_reducible rfl) | (refine congrArg (Pl.mk _) ?_; (first | rfl | (simp [bv]; done))) | rfl | (with_reducible refine congrArg (Pl.mk _) ?_))))) | assumption | (exact Used.nil) | (refine Used.add ?_ ?_ ⟨?_, ?_⟩ <;> first | assumption | (exact T.num)) | (apply Used.up; (focus assumption); (exact T.num)) | (first | rfl | ((conv => lhs; whnf); first | rfl | (refine congrArg (AV.int _) ?_; (exact T.num)) | (refine congrArg AV.bool ?_; (exact T.num)) | (refine vw_congr ?_; first | (exact T.num) | (first | rfl | (simp [bv]; done))) | (refine sl_congr ?_ ?_ <;> first | (exact T.num) | (first | rfl | (simp [bv]; done))) | (first | rfl | (simp [bv]; done)))) | (exact T.num) | (dsimp only; (exact T.num)) | (first | rfl | (simp [bv]; done)))))
      | (show KeepL _ _ _; first | (refine KeepL.cons ?_; ((try show LHas _ _ _); repeat (with_reducible show LHas _ _ _); first | apply LHas.here | apply LHas.next); ((try show LHas _ _ _); repeat (with_reducible show LHas _ _ _); first | apply LHas.here | apply LHas.next); refine And.intro rfl ?_) | exact KeepL.nil)
      | (show InL _ _; first | exact InL.here | refine InL.next ?_)
      | (show False; (exact T.num))
      | exact Nm.b 0
    all_goals (try dsimp only)
    all_goals first
      | ((refine RetL.val ?_ ?_; rotate_left; (focus ((repeat' first | exact LSub.nil | (with_reducible exact LSub.refl) | (apply LSub.cons; ((try show LHas _ _ _); repeat (with_reducible show LHas _ _ _); first | apply LHas.here | apply LHas.next); refine And.intro ?_ ?_; (focus (try (first | (with_reducible rfl) | (refine congrArg (Pl.mk _) ?_; (first | rfl | (simp; done))) | rfl | (with_reducible refine congrArg (Pl.mk _) ?_))))))))); (focus (exact rfl)))
      | (exfalso; refine hne us m2 c2 j (by assumption) (by omega) (by omega) (by omega) (by omega) (by omega) ?_; rw [← h]; congr 1; show j = 0 + (j : Int).toNat * 1; omega)
  · refine LSpec.introL tyOk Tryd.func8 rfl (by kernel_rfl) (by simp) (fun q => ⟨by simp, by simp⟩) ?_
    refine AWpL.sound tyOk _ _ _ _ ?_
    conv => whnf
    repeat' first
      | (show LHas _ _ _; ((try show LHas _ _ _); repeat (with_reducible show LHas _ _ _); first | apply LHas.here | apply LHas.next); conv => whnf)
      | (refine And.intro ?_ ?_; (focus (first | exact T.side)); conv => whnf)
      | (show LCall _ _ _ _ _ _; first | (refine LCall.pure (awake_c) ?_; conv => whnf) | (refine LCall.pure (light_c t) ?_; conv => whnf) | (apply LCall.eq; (focus (repeat first | (apply cons_congr; (focus (first | exact sl_bv rfl | exact sl_bv (by first | (simp; done) | (simp; (exact T.num))) | exact rfl))) | exact rfl)); first | (refine LCall.pure (awake_c) ?_; conv => whnf) | (refine LCall.pure (light_c t) ?_; conv => whnf)))
      | (show ABr _ _ _; first | (refine ABr.tt ?_; conv => whnf) | (refine ABr.ff ?_; conv => whnf) | (refine ABr.byN ?_) | ((with_reducible refine ABr.lssT (by assumption) ?_); conv => whnf) | ((with_reducible refine ABr.lssF (by assumption) ?_); conv => whnf) | ((with_reducible refine ABr.lss (fun h => ?_) (fun h => ?_)) <;> first | (exfalso; omega) | conv => whnf) | ((with_reducible refine ABr.eqlT (by assumption) ?_); conv => whnf) | ((with_reducible refine ABr.eqlF (by assumption) ?_); conv => whnf) | ((with_reducible refine ABr.eql (fun h => ?_) (fun h => ?_)) <;> first | (exfalso; omega) | conv => whnf) | ((with_reducible refine ABr.neqT (by assumption) ?_); conv => whnf) | ((with_reducible refine ABr.neqF (by assumption) ?_); conv => whnf) | ((with_reducible refine ABr.neq (fun h => ?_) (fun h => ?_)) <;> first | (exfalso; omega) | conv => whnf) | (refine ABr.byT (by with_reducible assumption) ?_; conv => whnf) | (refine ABr.byF (by with_reducible assumption) ?_; conv => whnf) | ((with_reducible refine ABr.decT rfl ?_); conv => whnf) | ((with_reducible refine ABr.decT (by assumption) ?_); conv => whnf) | ((with_reducible refine ABr.decF (by assumption) ?_); conv => whnf) | (refine ABr.dec (fun h => ?_) (fun h => ?_) <;> first | (exfalso; omega) | conv => whnf) | (refine ABr.gen (fun h => ?_) (fun h => ?_) <;> conv => whnf))
      | (show ACell _ _ _; first | (refine ACell.cell 0 ?_ ?_; (focus (first | exact T.side)); conv => whnf) | (refine ACell.mk ?_; conv => whnf))
      | (show AList _ _; first | (refine AList.app ?_ ?_; (focus (first | exact T.side)); conv => whnf) | (refine AList.set (x := b8 _) (bAV_b8 _).symm ?_ ?_; (focus (first | exact T.side)); conv => whnf) | (refine AList.set (f := iAV) rfl ?_ ?_; (focus (first | exact T.side)); conv => whnf) | (refine AList.part ?_; conv => whnf) | (refine AList.force ?_; (conv => whnf); refine Lit.mk ?_; conv => whnf) | (refine AList.full ?_ ?_; (focus (first | exact Nat.le_of_ble_eq_true rfl | (simp; done) | (simp; omega))); conv => whnf) | (refine AList.mk ?_; conv => whnf))
      | (refine LFresh.mk fun r => ?_; conv => whnf)
      | (show SWpL _ _ _ _ _ _ _; first | (apply SWpL.draw tyOk mixed (id := 5) [[], [0], [], [], [3, 1, 0], [1, 0, 2, 4, 3], [], [6, 5, 1, 0, 2, 4, 3]] [2, 1, 4] [0, 2, 3, 1, 4, 5, 6, 7] [] (by kernel_rfl); conv => whnf))
      | (show KeepL _ _ _; first | (refine KeepL.cons ?_; ((try show LHas _ _ _); repeat (with_reducible show LHas _ _ _); first | apply LHas.here | apply LHas.next); ((try show LHas _ _ _); repeat (with_reducible show LHas _ _ _); first | apply LHas.here | apply LHas.next); refine And.intro rfl ?_) | exact KeepL.nil)
      | (show InL _ _; first | exact InL.here | refine InL.next ?_)
      | (show False; (exact T.num))
      | exact Nm.b 0
    all_goals (try dsimp only)
    (refine RetL.val ?_ ?_; rotate_left; (focus ((repeat' first | exact LSub.nil | (with_reducible exact LSub.refl) | (apply LSub.cons; ((try show LHas _ _ _); repeat (with_reducible show LHas _ _ _); first | apply LHas.here | apply LHas.next); refine And.intro ?_ ?_; (focus (try (first | (with_reducible rfl) | (refine congrArg (Pl.mk _) ?_; (first | rfl | (simp; done))) | rfl | (with_reducible refine congrArg (Pl.mk _) ?_)))))))))
    rfl
end Go.Proofs.YtdpfcpkedaolfaaDoor
