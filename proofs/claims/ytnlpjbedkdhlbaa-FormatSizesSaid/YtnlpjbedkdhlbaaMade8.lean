import Derived.Test.YtnlpjbedkdhlbaaMade7
import Derived.Test.YtnlpjbedkdhlbaaFmt8
namespace Go.Proofs.Ytnlpjbedkdhlbaa
open Go.RowKit
set_option linter.all false
theorem hkd_12 (fl : Int) : hkdR fl = 1 ∨ hkdR fl = 2 := by
  have h := modR_lt fl 2 (by decide) (by decide)
  have e : hkdR fl = 1 + modR fl 2 := by unfold hkdR; (exact T.num)
  omega
theorem hck_rng (t : List Int) (a : Nat) : 0 ≤ hckR t a ∧ hckR t a ≤ 65535 := by
  unfold hckR
  have h := nextR_lt t (adv t a 6) 65535 (by decide) (by decide)
  split
  · have e : iarith .add .i64 1 (nextR t (adv t a 6) 65535) = 1 + nextR t (adv t a 6) 65535 := by (exact T.num)
    omega
  · omega
theorem hdrR_ok (t : List Int) (a : Nat) (fl : Int) (h : 0 ≤ fl ∧ fl ≤ 1000) : (hdrR t a fl).ok = true := by
  have a1 := nextR_lt t a 2 (by decide) (by decide)
  have a2 := nextR_lt t (adv t a 1) 2 (by decide) (by decide)
  have a3 := nextR_lt t (adv t a 2) 2 (by decide) (by decide)
  have w1 := wordR_rng t (adv t a 3) 65535 (by decide) (by decide)
  have w2 := wordR_rng t (adv t a (hckN t a)) 65535 (by decide) (by decide)
  have w3 := wordR_rng t (adv t a (hckN t a + 2)) 4294967295 (by decide) (by decide)
  have a5 := nextR_lt t (adv t a (hckN t a + 4)) 2 (by decide) (by decide)
  have c := hck_rng t a
  have e1 : iarith .add .i64 64 (nextR t (adv t a 1) 2) = 64 + nextR t (adv t a 1) 2 := by (exact T.num)
  have e2 : IntKind.i64.wrap (fl.tdiv 2) = fl / 2 := by
    rw [Int.tdiv_eq_ediv_of_nonneg h.1, IntKind.wrap_i64]
    omega
  have e3 : iarith .add .i64 167772162 (fl / 2) = 167772162 + fl / 2 := by (exact T.num)
  have e4 : iarith .add .i64 6000 fl = 6000 + fl := by (exact T.num)
  have e5 : iarith .add .i64 77 fl = 77 + fl := by (exact T.num)
  unfold Hd.ok
  rcases hkd_12 fl with hk | hk
  · have hk' : (hdrR t a fl).k = 1 := hk
    rw [if_pos hk']
    simp only [comR, udpR, Bool.and_eq_true, in_iff, decide_eq_true_eq, hdrR, hk, e1, e2, e3, e4, e5, reduceIte]
    omega
  · have hk' : (hdrR t a fl).k = 2 := hk
    rw [if_neg (by omega), if_pos hk']
    simp only [comR, rtpR, Bool.and_eq_true, in_iff, decide_eq_true_eq, hdrR, hk, e1, e2, e3, e4, e5, reduceIte]
    omega
theorem ok_z (h : Hd) (k : h.ok = true) : ({ h with fr := 0, to := 0, fp := 0, tp := 0, sr := 0 } : Hd).ok = true := by
  unfold Hd.ok at k ⊢
  split at k
  · rename_i h1
    rw [if_pos h1]
    simp only [comR, udpR, Bool.and_eq_true, in_iff, decide_eq_true_eq, and_true] at k ⊢
    omega
  · split at k
    · rename_i h1 h2
      rw [if_neg h1, if_pos h2]
      simp only [comR, rtpR, Bool.and_eq_true, in_iff, decide_eq_true_eq, and_true] at k ⊢
      omega
    · cases k
theorem dyd_ok (t : List Int) (a : Nat) (k : Int) : (dydR t a k).ok = true := by
  have h := nextR_lt t a 5 (by decide) (by decide)
  have h2 := nextR_lt t (adv t a 1) 2 (by decide) (by decide)
  unfold dydR
  split
  · have e : (nextR t a 5).toNat = 0 ∨ (nextR t a 5).toNat = 1 ∨ (nextR t a 5).toNat = 2 ∨ (nextR t a 5).toNat = 3 ∨ (nextR t a 5).toNat = 4 := by omega
    simp only [Dy.ok, Bool.and_eq_true, in_iff, decide_eq_true_eq]
    refine ⟨?_, by omega⟩
    rcases e with e | e | e | e | e <;> rw [e] <;> decide
  · simp only [Dy.ok, Bool.and_eq_true, in_iff, decide_eq_true_eq]
    decide
theorem ok_low (s : Sm) (hf : s.f = 1 ∨ s.f = 2 ∨ s.f = 3) (h1 : 0 ≤ s.cx ∧ s.cx < 16 ∧ s.pl.length ≤ 1500) (h2 : fitR (cbR s.f) s.ck = true) (h3 : lowbR s = true) (hk : s.h.k = 1 ∨ s.h.k = 2) (hz : hzR s.h s.h.k = true) (hd : dzR s.d = true) : s.ok = true := by
  unfold Sm.ok topR
  rw [if_pos hf, h2, h3, hz, hd, decide_eq_true h1, decide_eq_true hk]
  rfl
theorem ok_big (s : Sm) (hf : s.f = 4 ∨ s.f = 5) (h1 : 0 ≤ s.cx ∧ s.cx < 16 ∧ s.pl.length ≤ 1500) (h2 : fitR (cbR s.f) s.ck = true) (h3 : noneR s = true) (h4 : wholeR s = true) : s.ok = true := by
  unfold Sm.ok topR
  rw [if_neg (by omega), if_pos hf, h2, h3, h4, decide_eq_true h1]
  rfl
theorem ok_raw (s : Sm) (hf : s.f = 6) (h1 : 0 ≤ s.cx ∧ s.cx < 16 ∧ s.pl.length ≤ 1500) (h2 : fitR (cbR s.f) s.ck = true) (h3 : noneR s = true) (h4 : s.cx = 0 ∧ s.ck = 0) (hz : hzR s.h 0 = true) (hd : dzR s.d = true) : s.ok = true := by
  unfold Sm.ok topR
  rw [if_neg (by omega), if_neg (by omega), if_pos hf, h2, h3, hz, hd, decide_eq_true h1, decide_eq_true h4]
  rfl
theorem fitN (n : Nat) (v : Int) : fitR (n : Int) v = true ↔ 0 ≤ v ∧ v ≤ 2 ^ n - 1 := by rw [fit_in, in_iff]
theorem hz_z (k : Int) : hzR (Hd.z k) k = true := by simp [hzR]
theorem dz_z : dzR ⟨0, 0⟩ = true := by decide
theorem smcx_rng (t : List Int) (a : Nat) : 0 ≤ smcx t a ∧ smcx t a < 16 := by
  have h := nextR_lt t a 4 (by decide) (by decide)
  unfold smcx
  have e : 0 + (nextR t a 4).toNat * 1 = 0 ∨ 0 + (nextR t a 4).toNat * 1 = 1 ∨ 0 + (nextR t a 4).toNat * 1 = 2 ∨ 0 + (nextR t a 4).toNat * 1 = 3 := by omega
  rcases e with e | e | e | e <;> rw [e] <;> decide
theorem smpl_len (t : List Int) (a : Nat) : (smpl t a).length ≤ 12 := by
  have h := nextR_lt t (adv t a 2) 13 (by decide) (by decide)
  unfold smpl smN manyR
  rw [bytesL_len]
  have e : iarith .add .i64 12 1 = 13 := by decide
  rw [e]
  omega
theorem smH_ok (t : List Int) (a : Nat) : (smH t a).ok = true := by
  have h := nextR_lt t (adv t (adv t a 3) (smN t a)) 4 (by decide) (by decide)
  exact hdrR_ok _ _ _ (by unfold smF; omega)
theorem smfm_rng (t : List Int) (a : Nat) : 1 ≤ smfm t a ∧ smfm t a ≤ 6 := by
  have h := nextR_lt t (adv t a 1) 6 (by decide) (by decide)
  have e : smfm t a = 1 + nextR t (adv t a 1) 6 := by unfold smfm; (exact T.num)
  omega
theorem smallM_ok (t : List Int) (a : Nat) : (smallM t a).ok = true := by
  have hcx := smcx_rng t a
  have hpl := smpl_len t a
  have hH := smH_ok t a
  have hr := smfm_rng t a
  have hk := (smH t a).of hH
  have n16 := nextR_lt t (sm2 t a) 16 (by decide) (by decide)
  have n8 := nextR_lt t (adv t (sm2 t a) 1) 8 (by decide) (by decide)
  have n32 := nextR_lt t (sm2 t a) 32 (by decide) (by decide)
  have n128 := nextR_lt t (adv t (sm2 t a) 1) 128 (by decide) (by decide)
  have n256 := nextR_lt t (adv t (sm2 t a) 1) 256 (by decide) (by decide)
  have n65536 := nextR_lt t (sm2 t a) 65536 (by decide) (by decide)
  have m65536 := nextR_lt t (adv t (sm2 t a) 2) 65536 (by decide) (by decide)
  have m2 := nextR_lt t (adv t (sm2 t a) 3) 2 (by decide) (by decide)
  have m256 := nextR_lt t (adv t (sm2 t a) 2) 256 (by decide) (by decide)
  have mw := wordR_rng t (adv t (sm2 t a) 3) 4294967295 (by decide) (by decide)
  have p2 := nextR_lt t (adv t (sm2 t a) 5) 2 (by decide) (by decide)
  have p65536 := nextR_lt t (adv t (sm2 t a) 6) 65536 (by decide) (by decide)
  have d256 := nextR_lt t (dydA t (sm2 t a) (smH t a).k) 256 (by decide) (by decide)
  have hy := dyd_ok t (sm2 t a) (smH t a).k
  have hz1 : (smH t a).k = 1 → dydR t (sm2 t a) (smH t a).k = ⟨0, 0⟩ := fun e => by unfold dydR; rw [if_neg (by omega)]
  have big : ∀ h : Hd, h.ok = true → h.k = (smH t a).k → (smfm t a = 5 ∨ szR h = true) → (smfm t a = 4 ∨ smfm t a = 5) → (⟨smcx t a, smfm t a, 0, 0, 0, 0, 0, h, dydR t (sm2 t a) (smH t a).k, nextR t (dydA t (sm2 t a) (smH t a).k) 256, smpl t a⟩ : Sm).ok = true := by
    intro h g1 g2 g3 g4
    refine ok_big _ g4 ⟨hcx.1, hcx.2, by show (smpl t a).length ≤ 1500; omega⟩ ?_ (by simp [noneR]) ?_
    · show fitR (cbR (smfm t a)) _ = true
      have e : cbR (smfm t a) = (8 : Nat) := by rcases g4 with e | e <;> rw [e] <;> rfl
      rw [e, fitN]
      first | omega | (dsimp only; omega)
    · unfold wholeR
      simp only [g1, hy, Bool.true_and]
      have e : (decide ((smfm t a) = 5) || szR h) = true := by
        rcases g3 with e | e
        · rw [decide_eq_true e]; rfl
        · rw [e, Bool.or_true]
      rw [e, g2]
      by_cases e1 : (smH t a).k = 1
      · rw [hz1 e1, dz_z]; simp
      · simp [e1]
  unfold smallM
  generalize smfm t a = f at *
  split
  · rename_i h6
    subst h6
    refine ok_raw _ rfl ⟨by show (0 : Int) ≤ 0; decide, by show (0 : Int) < 16; decide, by show (smpl t a).length ≤ 1500; omega⟩ ?_ (by simp [noneR]) ⟨rfl, rfl⟩ (hz_z 0) dz_z
    exact (fitN 8 0).2 (by decide)
  · split
    · rename_i h6 h4
      exact big _ (ok_z _ hH) rfl (.inr (by simp [szR])) (.inl h4)
    · split
      · rename_i h6 h4 h5
        exact big _ hH rfl (.inl h5) (.inr h5)
      · split
        · rename_i h1
          subst h1
          refine ok_low _ (.inl rfl) ⟨hcx.1, hcx.2, by show (smpl t a).length ≤ 1500; omega⟩ ((fitN 3 _).2 (by first | omega | (dsimp only; omega))) ?_ hk.1 (hz_z _) dz_z
          unfold lowbR
          simp only [Bool.and_eq_true]
          exact ⟨(fitN 4 _).2 (by first | omega | (dsimp only; omega)), (fitN 0 _).2 (by first | omega | (dsimp only; omega)), (fitN 0 _).2 (by first | omega | (dsimp only; omega)), (fitN 0 _).2 (by first | omega | (dsimp only; omega)), (fitN 16 _).2 (by first | omega | (dsimp only; omega))⟩
        · split
          · rename_i h2
            subst h2
            split
            · rename_i h7
              rw [h7]
              refine ok_low _ (.inr (.inl rfl)) ⟨hcx.1, hcx.2, by show (smpl t a).length ≤ 1500; omega⟩ ((fitN 7 _).2 (by first | omega | (dsimp only; omega))) ?_ (.inr rfl) (hz_z _) dz_z
              unfold lowbR
              simp only [Bool.and_eq_true]
              exact ⟨(fitN 5 _).2 (by first | omega | (dsimp only; omega)), (fitN 16 _).2 (by first | omega | (dsimp only; omega)), (fitN 1 _).2 (by first | omega | (dsimp only; omega)), (fitN 0 _).2 (by first | omega | (dsimp only; omega)), (fitN 16 _).2 (by first | omega | (dsimp only; omega))⟩
            · have h7 : (smH t a).k = 1 := by omega
              rw [h7]
              refine ok_low _ (.inr (.inl rfl)) ⟨hcx.1, hcx.2, by show (smpl t a).length ≤ 1500; omega⟩ ((fitN 7 _).2 (by first | omega | (dsimp only; omega))) ?_ (.inl rfl) (hz_z _) dz_z
              unfold lowbR
              simp only [Bool.and_eq_true]
              exact ⟨(fitN 5 _).2 (by first | omega | (dsimp only; omega)), (fitN 0 _).2 (by first | omega | (dsimp only; omega)), (fitN 0 _).2 (by first | omega | (dsimp only; omega)), (fitN 0 _).2 (by first | omega | (dsimp only; omega)), (fitN 16 _).2 (by first | omega | (dsimp only; omega))⟩
          · obtain rfl : f = 3 := by omega
            split
            · rename_i h7
              rw [h7]
              refine ok_low _ (.inr (.inr rfl)) ⟨hcx.1, hcx.2, by show (smpl t a).length ≤ 1500; omega⟩ ((fitN 8 _).2 (by first | omega | (dsimp only; omega))) ?_ (.inr rfl) (hz_z _) dz_z
              unfold lowbR
              simp only [Bool.and_eq_true]
              exact ⟨(fitN 8 _).2 (by first | omega | (dsimp only; omega)), (fitN 32 _).2 (by first | omega | (dsimp only; omega)), (fitN 1 _).2 (by first | omega | (dsimp only; omega)), (fitN 16 _).2 (by first | omega | (dsimp only; omega)), (fitN 16 _).2 (by first | omega | (dsimp only; omega))⟩
            · have h7 : (smH t a).k = 1 := by omega
              rw [h7]
              refine ok_low _ (.inr (.inr rfl)) ⟨hcx.1, hcx.2, by show (smpl t a).length ≤ 1500; omega⟩ ((fitN 8 _).2 (by first | omega | (dsimp only; omega))) ?_ (.inl rfl) (hz_z _) dz_z
              unfold lowbR
              simp only [Bool.and_eq_true]
              exact ⟨(fitN 16 _).2 (by first | omega | (dsimp only; omega)), (fitN 0 _).2 (by first | omega | (dsimp only; omega)), (fitN 0 _).2 (by first | omega | (dsimp only; omega)), (fitN 0 _).2 (by first | omega | (dsimp only; omega)), (fitN 16 _).2 (by first | omega | (dsimp only; omega))⟩
end Go.Proofs.Ytnlpjbedkdhlbaa
