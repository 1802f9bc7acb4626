/-
  Contracts of the functions that the laws reach.
-/
import Derived.Test.YtnmifddidgofaaaGreatDoorDx01
import Derived.Test.YtnmifddidgofaaaGreatDoorDx02
import Derived.Test.YtnmifddidgofaaaGreatDoorDx03
import Derived.Test.YtnmifddidgofaaaGreatDoorDx04
import Derived.Test.YtnmifddidgofaaaGreatDoorDx05
import Derived.Test.YtnmifddidgofaaaGreatDoorDx06
import Derived.Test.YtnmifddidgofaaaGreatDoorDx07
import Derived.Test.YtnmifddidgofaaaGreatDoorDx08
set_option linter.all false
namespace Go.Proofs.YtnmifddidgofaaaGreatDoor
open Go.RowKit
variable {G : Nat → AV}
theorem rtag_c (k : Ky) (nonce h data : List UInt8) (h1 : nonce.length ≤ 100) (h3 : h.length ≤ 100) (h2 : data.length ≤ 5000) : LSpec Tryz.prog G 57 [k.av, bv nonce, bv h, bv data] [] (fun _ => (bv (markH k nonce h data), [])) := by
 refine goW [] Tryz.func57 rfl ?_
 conv => whnf
 repeat' ((first | (show LEra _ _ _; conv => whnf) | (show _ = List.length (_ ++ _); simp only [List.length_append]; done) | (show _ = List.map _ (_ ++ _); simp only [List.map_append]; done) | (show LCall _ _ _ _ _ _; first | refine LCall.mk' (rshort_c k.g (nonce ++ h ++ data)) [_] ⟨LF.eq rfl, LF.rowF InL.here ?_, trivial⟩ ?_ | refine goE ?_) | refine T.s ?_ | ((first | apply goB | apply ABr.dec | apply ABr.gen) <;> intro h <;> try (exfalso; omega)) | refine LFresh.mk fun r => ?_ | exact T.z | fail) <;> conv => whnf)
 all_goals (try dsimp only)
 (show RetL _ _ _; refine goR ?_)
 rfl
theorem rtag_p (k : Ky) (nonce h data : List UInt8) (h1 : nonce.length ≤ 100) (h3 : h.length = 2) (h2 : data.length ≤ 5000) (p : Nm) : LSpec Tryz.prog G 57 [k.av, bv nonce, .vw p 0 2 1, bv data] [(p, ⟨5, h.map bAV⟩)] (fun _ => (bv (markH k nonce h data), [(p, ⟨5, h.map bAV⟩)])) := by
 refine goW [] Tryz.func57 rfl ?_
 conv => whnf
 repeat' ((first | (show LEra _ _ _; conv => whnf) | (show _ = List.length (_ ++ _); simp only [List.length_append, h3]; done) | (show _ = List.map _ (_ ++ _); simp only [List.map_append]; done) | (refine And.intro ?_ ?_; (focus (first | (rw [List.length_map, h3]; exact Nat.le_refl _) | exact T.kx | exact T.side))) | (show LCall _ _ _ _ _ _; first | refine LCall.mk' (rshort_c k.g (nonce ++ h ++ data)) [_] ⟨LF.eq rfl, LF.rowF InL.here ?_, trivial⟩ ?_ | refine goE ?_) | (show AList _ _; first | (refine AList.headE 2 ?_ ?_ ?_; (focus rfl); (focus rfl); rw [List.take_of_length_le (by omega)])) | refine T.s ?_ | ((first | apply goB | apply ABr.dec | apply ABr.gen) <;> intro h <;> try (exfalso; omega)) | refine LFresh.mk fun r => ?_ | exact T.z | fail) <;> conv => whnf)
 all_goals (try dsimp only)
 (show RetL _ _ _; refine goR ?_)
 rfl
theorem and_ff {a b : Bool} (h : (a && b) = false) : a = false ∨ (a = true ∧ b = false) := by
 cases a <;> simp_all
theorem rdata_no {data : List UInt8} (h : dataOk data = false) : data.length < 1 ∨ 2048 < data.length := by
 simp [dataOk] at h; omega
theorem rseal_c (k : Ky) (b n : Int) (data : List UInt8) : LSpec Tryz.prog gl 15 [k.av, iAV b, iAV n, bv data] [] (fun _ => (be (sealR k b n data), [])) := by
 cases h1 : k.ok
 · rw [sealR_key b n data h1]
   refine goW [] Tryz.func15 rfl ?_
   conv => whnf
   repeat' ((first | exact Nm.b 0 | (show LCall _ _ _ _ _ _; first | refine LCall.pure (h1 ▸ rvalid_c k) ?_ | refine goE ?_) | refine T.s ?_ | ((first | apply goB | apply ABr.dec | apply ABr.gen) <;> intro h <;> try (exfalso; omega)) | refine LFresh.mk fun r => ?_ | (show SWpL _ _ _ _ _ _ _; first | (refine goD tyOk mixed 10 [1, 8, 9] [0, 1, 2, 3, 4, 5, 6, 7, 8, 9, 10, 11, 12, 13, 14, 15] [] (by kernel_rfl) ?_)) | exact T.z | fail) <;> conv => whnf)
   all_goals (try dsimp only)
   exact RetL.frz [] (LF.tup ⟨LF.nils rfl rfl, LF.eq rfl, trivial⟩) LSub.nil
 · cases h2 : (bitsOk b && countOk n)
   · rw [sealR_num data h1 h2]
     rcases and_ff h2 with g | ⟨g, g2⟩
     · refine goW [] Tryz.func15 rfl ?_
       conv => whnf
       repeat' ((first | exact Nm.b 0 | (show LCall _ _ _ _ _ _; first | refine LCall.pure (h1 ▸ rvalid_c k) ?_ | refine LCall.pure (g ▸ rbits_c b) ?_ | refine LCall.pure (rcount_c n) ?_ | refine goE ?_) | refine T.s ?_ | ((first | apply goB | apply ABr.dec | apply ABr.gen) <;> intro h <;> try (exfalso; omega)) | refine LFresh.mk fun r => ?_ | (show SWpL _ _ _ _ _ _ _; first | (refine goD tyOk mixed 10 [1, 8, 9] [0, 1, 2, 3, 4, 5, 6, 7, 8, 9, 10, 11, 12, 13, 14, 15] [] (by kernel_rfl) ?_)) | exact T.z | fail) <;> conv => whnf)
       all_goals (try dsimp only)
       all_goals exact RetL.frz [] (LF.tup ⟨LF.nils rfl rfl, LF.eq rfl, trivial⟩) LSub.nil
     · refine goW [] Tryz.func15 rfl ?_
       conv => whnf
       repeat' ((first | exact Nm.b 0 | (show LCall _ _ _ _ _ _; first | refine LCall.pure (h1 ▸ rvalid_c k) ?_ | refine LCall.pure (g ▸ rbits_c b) ?_ | refine LCall.pure (g2 ▸ rcount_c n) ?_ | refine goE ?_) | refine T.s ?_ | ((first | apply goB | apply ABr.dec | apply ABr.gen) <;> intro h <;> try (exfalso; omega)) | refine LFresh.mk fun r => ?_ | (show SWpL _ _ _ _ _ _ _; first | (refine goD tyOk mixed 10 [1, 8, 9] [0, 1, 2, 3, 4, 5, 6, 7, 8, 9, 10, 11, 12, 13, 14, 15] [] (by kernel_rfl) ?_)) | exact T.z | fail) <;> conv => whnf)
       all_goals (try dsimp only)
       all_goals exact RetL.frz [] (LF.tup ⟨LF.nils rfl rfl, LF.eq rfl, trivial⟩) LSub.nil
   · obtain ⟨g, hn⟩ : bitsOk b = true ∧ countOk n = true := by simpa using h2
     cases h3 : dataOk data
     · rw [sealR_size h1 h2 h3]
       have hd := rdata_no h3
       refine goW [] Tryz.func15 rfl ?_
       conv => whnf
       repeat' ((first | exact Nm.b 0 | (show LCall _ _ _ _ _ _; first | refine LCall.pure (h1 ▸ rvalid_c k) ?_ | refine LCall.pure (g ▸ rbits_c b) ?_ | refine LCall.pure (hn ▸ rcount_c n) ?_ | refine goE ?_) | refine T.s ?_ | ((first | apply goB | apply ABr.dec | apply ABr.gen) <;> intro h <;> try (exfalso; omega)) | refine LFresh.mk fun r => ?_ | (show SWpL _ _ _ _ _ _ _; first | (refine goD tyOk mixed 10 [1, 8, 9] [0, 1, 2, 3, 4, 5, 6, 7, 8, 9, 10, 11, 12, 13, 14, 15] [] (by kernel_rfl) ?_)) | exact T.z | fail) <;> conv => whnf)
       all_goals (try dsimp only)
       all_goals exact RetL.frz [] (LF.tup ⟨LF.nils rfl rfl, LF.eq rfl, trivial⟩) LSub.nil
     · rw [sealR_ok h1 h2 h3]
       have hd : 1 ≤ data.length ∧ data.length ≤ 2048 := by simpa [dataOk] using h3
       have hN := nonceL_len k n
       have hM := markH_len k (nonceL k n) (headL (lowR b n)) data h1 (by simp; omega)
       have hb5 : 1 ≤ b ∧ b ≤ 32 := by rcases bits_cases g with h | h | h | h | h <;> omega
       have hlow := lowR_lt b n g hn
       have hput : LSpec Tryz.prog gl 44 [.nils, iAV 2, iAV (iarith .add .i64 32768 (lowR b n))] [] (fun q => (.vw q 0 2 1, [(q, ⟨5, (headL (lowR b n)).map bAV⟩)])) := by
         have e : iarith .add .i64 32768 (lowR b n) = 32768 + lowR b n := by (exact T.num)
         rw [e, headL_put _ hlow.1 hlow.2]
         exact put2n_c _
       unfold sealL
       have hmk := fun p => rtag_p (G := gl) k (nonceL k n) (headL (lowR b n)) data (by omega) (headL_len _) (by omega) p
       generalize markH k (nonceL k n) (headL (lowR b n)) data = M at *
       have hx := rxor_c k.s (nonceL k n) (data ++ M)
       rw [xorR_ok _ _ _ (k.of h1).1 hN (by simp; omega)] at hx
       clear hlow
       refine goW [] Tryz.func15 rfl ?_
       conv => whnf
       repeat' ((first | (show LEra _ _ _; conv => whnf) | (show _ = List.length (_ ++ _); simp only [List.length_append]; done) | (show _ = List.map _ (_ ++ _); simp only [List.map_append]; done) | exact Nm.b 0 | (show LCall _ _ _ _ _ _; first | refine LCall.pure (h1 ▸ rvalid_c k) ?_ | refine LCall.pure (g ▸ rbits_c b) ?_ | refine LCall.pure (hn ▸ rcount_c n) ?_ | refine LCall.pure (rlow_c b n hb5.1 hb5.2) ?_ | refine LCall.own (hput) ?_ | refine LCall.pure (rnonce_c k n h1 hn) ?_ | (apply LCall.upd (hmk _); (repeat first | refine goH ?_ | apply LHas.here | apply LHas.next); refine ⟨rfl, ?_⟩) | refine LCall.mk' (hx) [_] ⟨LF.eq rfl, LF.eq rfl, LF.rowF InL.here ?_, trivial⟩ ?_ | refine goE ?_) | refine T.s ?_ | ((first | apply goB | apply ABr.dec | apply ABr.gen) <;> intro h <;> try (exfalso; omega)) | refine LFresh.mk fun r => ?_ | (show SWpL _ _ _ _ _ _ _; first | (apply goD tyOk mixed 10 [1, 8, 9] [0, 1, 2, 3, 4, 5, 6, 7, 8, 9, 10, 11, 12, 13, 14, 15] [_] (by kernel_rfl)) | (refine goD tyOk mixed 10 [1, 8, 9] [0, 1, 2, 3, 4, 5, 6, 7, 8, 9, 10, 11, 12, 13, 14, 15] [] (by kernel_rfl) ?_)) | exact T.z | fail) <;> try (show (_ : Prop); conv => whnf))
       all_goals (try dsimp only)
       refine RetL.frz [r] (LF.tup ⟨LF.rowF InL.here ?_, LF.eq rfl, trivial⟩) ?_
       · apply LHas.here
         exact ⟨by rw [List.map_append], by simp⟩
       · apply LHas.here
         exact LSub.nil
theorem take2_of (u : List UInt8) (sn : Int) (hl : 2 ≤ u.length) (h : numV u = sn) (h0 : 0 ≤ sn) (h1 : sn < 512) : u.take 2 = headL sn := by
 rw [headL_put sn h0 h1, ← h]
 unfold numV
 rw [show (32768 : Int) + (256 * ((u.getD 0 0).toNat : Int) + (u.getD 1 0).toNat - 32768) = 256 * ((u.getD 0 0).toNat : Int) + (u.getD 1 0).toNat by omega, putB_two]
 match u, hl with
 | x :: y :: u, _ => rfl
theorem ropen_c (k : Ky) (b n : Int) (u : List UInt8) : LSpec Tryz.prog gl 49 [k.av, iAV b, iAV n, bv u] [] (fun _ => (be (openR k b n u), [])) := by
 have hnum := rnumber_c b u
 cases h1 : k.ok
 · rw [openR_key b n u h1]
   refine goW [] Tryz.func49 rfl ?_
   conv => whnf
   repeat' ((first | exact Nm.b 0 | (show LCall _ _ _ _ _ _; first | refine LCall.pure (h1 ▸ rvalid_c k) ?_ | refine goE ?_) | refine T.s ?_ | ((first | apply goB | apply ABr.dec | apply ABr.gen) <;> intro h <;> try (exfalso; omega)) | refine LFresh.mk fun r => ?_ | (show SWpL _ _ _ _ _ _ _; first | (refine goD tyOk mixed 11 [] [0, 1, 2, 3, 4, 5, 6, 7, 8, 9, 10] [] (by kernel_rfl) ?_) | (refine goD tyOk mixed 13 [] [0, 1, 2, 3, 4, 5, 6, 7, 8, 9, 10, 11, 12] [] (by kernel_rfl) ?_)) | (show (_ → _) ∧ (¬ _ → _); first | refine T.y ?_ | refine dec_both (fun h => ?_) (fun h => ?_)) | exact T.z | fail) <;> conv => whnf)
   all_goals (try dsimp only)
   exact RetL.frz [] (LF.tup ⟨LF.nils rfl rfl, LF.eq rfl, trivial⟩) LSub.nil
 · cases h2 : (bitsOk b && countOk n)
   · rw [openR_num u h1 h2]
     rcases and_ff h2 with g | ⟨g, g2⟩
     · refine goW [] Tryz.func49 rfl ?_
       conv => whnf
       repeat' ((first | exact Nm.b 0 | (show LCall _ _ _ _ _ _; first | refine LCall.pure (h1 ▸ rvalid_c k) ?_ | refine LCall.pure (g ▸ rbits_c b) ?_ | refine LCall.pure (rcount_c n) ?_ | refine goE ?_) | refine T.s ?_ | ((first | apply goB | apply ABr.dec | apply ABr.gen) <;> intro h <;> try (exfalso; omega)) | refine LFresh.mk fun r => ?_ | (show SWpL _ _ _ _ _ _ _; first | (refine goD tyOk mixed 11 [] [0, 1, 2, 3, 4, 5, 6, 7, 8, 9, 10] [] (by kernel_rfl) ?_) | (refine goD tyOk mixed 13 [] [0, 1, 2, 3, 4, 5, 6, 7, 8, 9, 10, 11, 12] [] (by kernel_rfl) ?_)) | (show (_ → _) ∧ (¬ _ → _); first | refine T.y ?_ | refine dec_both (fun h => ?_) (fun h => ?_)) | exact T.z | fail) <;> conv => whnf)
       all_goals (try dsimp only)
       all_goals exact RetL.frz [] (LF.tup ⟨LF.nils rfl rfl, LF.eq rfl, trivial⟩) LSub.nil
     · refine goW [] Tryz.func49 rfl ?_
       conv => whnf
       repeat' ((first | exact Nm.b 0 | (show LCall _ _ _ _ _ _; first | refine LCall.pure (h1 ▸ rvalid_c k) ?_ | refine LCall.pure (g ▸ rbits_c b) ?_ | refine LCall.pure (g2 ▸ rcount_c n) ?_ | refine goE ?_) | refine T.s ?_ | ((first | apply goB | apply ABr.dec | apply ABr.gen) <;> intro h <;> try (exfalso; omega)) | refine LFresh.mk fun r => ?_ | (show SWpL _ _ _ _ _ _ _; first | (refine goD tyOk mixed 11 [] [0, 1, 2, 3, 4, 5, 6, 7, 8, 9, 10] [] (by kernel_rfl) ?_) | (refine goD tyOk mixed 13 [] [0, 1, 2, 3, 4, 5, 6, 7, 8, 9, 10, 11, 12] [] (by kernel_rfl) ?_)) | (show (_ → _) ∧ (¬ _ → _); first | refine T.y ?_ | refine dec_both (fun h => ?_) (fun h => ?_)) | exact T.z | fail) <;> conv => whnf)
       all_goals (try dsimp only)
       all_goals exact RetL.frz [] (LF.tup ⟨LF.nils rfl rfl, LF.eq rfl, trivial⟩) LSub.nil
   · obtain ⟨g, hn⟩ : bitsOk b = true ∧ countOk n = true := by simpa using h2
     have hb5 : 1 ≤ b ∧ b ≤ 32 := by rcases bits_cases g with h | h | h | h | h <;> omega
     by_cases h3 : (numR b u).2 = 0
     · by_cases h4 : (numR b u).1 = lowR b n
       · rw [openR_ok h1 h2 h3 h4]
         obtain ⟨-, g2, g3, g4, g5, g6⟩ := numR_ok h3
         have hN := nonceL_len k n
         have hlow := lowR_lt b n g hn
         have htake := take2_of u (lowR b n) (by omega) (g4.symm.trans h4) hlow.1 hlow.2
         rw [h3, h4] at hnum
         have hx := rxor_c k.s (nonceL k n) (u.drop 2)
         rw [xorR_ok _ _ _ (k.of h1).1 hN (by simp; omega)] at hx
         have hP : (xorL k.s (nonceL k n) (u.drop 2)).length = u.length - 6 + 4 := by simp; omega
         have hd : (u.drop 2).length = u.length - 2 := by simp
         generalize xorL k.s (nonceL k n) (u.drop 2) = P at *
         generalize hm : u.length - 6 = m at *
         have hl : (P.take m).length = m := by simp; omega
         have hmk := rtag_c (G := gl) k (nonceL k n) (u.take 2) (P.take m) (by omega) (by simp; omega) (by omega)
         have e3 : markH k (nonceL k n) (u.take 2) (P.take m) = markH k (nonceL k n) (headL (lowR b n)) (P.take m) := by rw [htake]
         rw [e3] at hmk
         clear e3
         generalize markH k (nonceL k n) (headL (lowR b n)) (P.take m) = M at *
         have hi : (iarith .sub .i64 ((P.length : Nat) : Int) 4).toNat = m := by (exact T.num)
         have hi0 : 0 ≤ iarith .sub .i64 ((P.length : Nat) : Int) 4 := by (exact T.num)
         have hi1 : iarith .sub .i64 ((P.length : Nat) : Int) 4 ≤ P.length := by (exact T.num)
         clear g4 g5 g6 h3 h4 hlow htake
         refine goW [] Tryz.func49 rfl ?_
         conv => whnf
         repeat' ((first | exact Nm.b 0 | (refine And.intro ?_ ?_; (focus (first | (simp; omega) | exact T.kx | exact T.side))) | (show LCall _ _ _ _ _ _; first | refine LCall.pure (h1 ▸ rvalid_c k) ?_ | refine LCall.pure (g ▸ rbits_c b) ?_ | refine LCall.pure (hn ▸ rcount_c n) ?_ | refine LCall.pure (hnum) ?_ | refine LCall.pure (rlow_c b n hb5.1 hb5.2) ?_ | refine LCall.pure (rnonce_c k n h1 hn) ?_ | refine LCall.pure (hx) ?_ | refine LCall.pure (hmk) ?_ | refine LCall.pure (same_c _ _) ?_ | refine goE ?_) | (show AList _ _; first | (refine AList.tailE 2 ?_ ?_ ?_; (focus rfl); (focus (simp; omega))) | (refine AList.tailE m ?_ ?_ ?_; (focus (rw [hi, Nat.mul_one])); (focus (simp; omega))) | (refine AList.headE 2 ?_ ?_ ?_; (focus rfl); (focus rfl)) | (refine AList.headE m ?_ ?_ ?_; (focus rfl); (focus (rw [hi] <;> simp)))) | refine T.s ?_ | ((first | apply goB | apply ABr.dec | apply ABr.gen) <;> intro h <;> try (exfalso; omega)) | refine LFresh.mk fun r => ?_ | (show SWpL _ _ _ _ _ _ _; first | (apply goD tyOk mixed 11 [] [0, 1, 2, 3, 4, 5, 6, 7, 8, 9, 10] [_] (by kernel_rfl)) | (refine goD tyOk mixed 11 [] [0, 1, 2, 3, 4, 5, 6, 7, 8, 9, 10] [] (by kernel_rfl) ?_) | (apply goD tyOk mixed 13 [] [0, 1, 2, 3, 4, 5, 6, 7, 8, 9, 10, 11, 12] [_] (by kernel_rfl)) | (refine goD tyOk mixed 13 [] [0, 1, 2, 3, 4, 5, 6, 7, 8, 9, 10, 11, 12] [] (by kernel_rfl) ?_)) | (show (_ → _) ∧ (¬ _ → _); first | refine T.y ?_ | refine dec_both (fun h => ?_) (fun h => ?_)) | exact T.z | fail) <;> try (show (_ : Prop); conv => whnf))
         all_goals (try dsimp only)
         · rw [if_pos (by assumption)]
           refine RetL.frz [r] (LF.tup ⟨LF.rowF InL.here ?_, LF.eq rfl, trivial⟩) ?_
           · apply LHas.here
             exact ⟨rfl, by rw [hi, hl]; rfl⟩
           · apply LHas.here
             exact LSub.nil
         · rw [if_neg (by assumption)]
           exact RetL.frz [] (LF.tup ⟨LF.nils rfl rfl, LF.eq rfl, trivial⟩) LSub.nil
       · rw [openR_sn h1 h2 h3 h4]
         rw [h3] at hnum
         generalize (numR b u).1 = v at *
         refine goW [] Tryz.func49 rfl ?_
         conv => whnf
         repeat' ((first | exact Nm.b 0 | (show LCall _ _ _ _ _ _; first | refine LCall.pure (h1 ▸ rvalid_c k) ?_ | refine LCall.pure (g ▸ rbits_c b) ?_ | refine LCall.pure (hn ▸ rcount_c n) ?_ | refine LCall.pure (hnum) ?_ | refine LCall.pure (rlow_c b n hb5.1 hb5.2) ?_ | refine goE ?_) | refine T.s ?_ | ((first | apply goB | apply ABr.dec | apply ABr.gen) <;> intro h <;> try (exfalso; omega)) | refine LFresh.mk fun r => ?_ | (show SWpL _ _ _ _ _ _ _; first | (refine goD tyOk mixed 11 [] [0, 1, 2, 3, 4, 5, 6, 7, 8, 9, 10] [] (by kernel_rfl) ?_) | (refine goD tyOk mixed 13 [] [0, 1, 2, 3, 4, 5, 6, 7, 8, 9, 10, 11, 12] [] (by kernel_rfl) ?_)) | (show (_ → _) ∧ (¬ _ → _); first | refine T.y ?_ | refine dec_both (fun h => ?_) (fun h => ?_)) | exact T.z | fail) <;> conv => whnf)
         all_goals (try dsimp only)
         exact RetL.frz [] (LF.tup ⟨LF.nils rfl rfl, LF.eq rfl, trivial⟩) LSub.nil
     · rw [openR_err h1 h2 h3]
       generalize (numR b u).1 = v at *
       generalize (numR b u).2 = w at *
       refine goW [] Tryz.func49 rfl ?_
       conv => whnf
       repeat' ((first | exact Nm.b 0 | (show LCall _ _ _ _ _ _; first | refine LCall.pure (h1 ▸ rvalid_c k) ?_ | refine LCall.pure (g ▸ rbits_c b) ?_ | refine LCall.pure (hn ▸ rcount_c n) ?_ | refine LCall.pure (hnum) ?_ | refine goE ?_) | refine T.s ?_ | ((first | apply goB | apply ABr.dec | apply ABr.gen) <;> intro h <;> try (exfalso; omega)) | refine LFresh.mk fun r => ?_ | (show SWpL _ _ _ _ _ _ _; first | (refine goD tyOk mixed 11 [] [0, 1, 2, 3, 4, 5, 6, 7, 8, 9, 10] [] (by kernel_rfl) ?_) | (refine goD tyOk mixed 13 [] [0, 1, 2, 3, 4, 5, 6, 7, 8, 9, 10, 11, 12] [] (by kernel_rfl) ?_)) | (show (_ → _) ∧ (¬ _ → _); first | refine T.y ?_ | refine dec_both (fun h => ?_) (fun h => ?_)) | exact T.z | fail) <;> conv => whnf)
       all_goals (try dsimp only)
       exact RetL.frz [] (LF.tup ⟨LF.nils rfl rfl, LF.eq rfl, trivial⟩) LSub.nil
open Go.RowKit
variable {G : Nat → AV}
structure Ot where
 b : Int
 k : Ky
 n : Int
def Ot.av (o : Ot) : AV := .agg [iAV o.b, bv o.k.s, bv o.k.g, iAV o.k.n, iAV o.k.b, iAV o.k.d, iAV o.n]
def Ot.zero : Ot := ⟨0, ⟨[], [], 0, 0, 0⟩, 0⟩
def nextOk (n : Int) : Bool := decide (0 ≤ n ∧ n ≤ 1048576)
def Ot.ok (o : Ot) : Bool := bitsOk o.b && (o.k.ok && nextOk o.n)
attribute [irreducible] Ot.ok
theorem pclone_c (k : Ky) (hk : k.ok = true) : LSpec Tryz.prog G 37 [k.av] [] (fun _ => (k.av, [])) := by
 have h1 := (k.of hk).1
 have h2 := (k.of hk).2.1
 refine goW [] Tryz.func37 rfl ?_
 conv => whnf
 repeat' ((first | exact Nm.b 0 | (show LCall _ _ _ _ _ _; first | refine LCall.own (clone_c k.s (by omega) (by omega)) ?_ | refine LCall.own (clone_c k.g (by omega) (by omega)) ?_ | refine goE ?_) | refine T.s ?_ | ((first | apply goB | apply ABr.dec | apply ABr.gen) <;> intro h <;> try (exfalso; omega)) | refine LFresh.mk fun r => ?_ | (show SWpL _ _ _ _ _ _ _; first | (apply goD tyOk mixed 1 [4, 2] [0, 1, 3, 4, 2, 6, 5, 7, 8, 9] [_] (by kernel_rfl)) | (refine goD tyOk mixed 1 [4, 2] [0, 1, 3, 4, 2, 6, 5, 7, 8, 9] [] (by kernel_rfl) ?_)) | exact T.z | fail) <;> try (show (_ : Prop); conv => whnf))
 all_goals (try dsimp only)
 rename_i q
 refine RetL.frz [q, r] (LF.agg ⟨LF.rowF InL.here ?_, LF.rowF (InL.next InL.here) ?_, LF.eq rfl, LF.eq rfl, LF.eq rfl, trivial⟩) ?_
 · (repeat first | refine goH ?_ | apply LHas.here | apply LHas.next)
   exact ⟨rfl, rfl⟩
 · (repeat first | refine goH ?_ | apply LHas.here | apply LHas.next)
   exact ⟨rfl, rfl⟩
 · (repeat first | refine goH ?_ | apply LHas.here | apply LHas.next)
   try (show LHas _ _ _; (repeat first | refine goH ?_ | apply LHas.here | apply LHas.next))
   exact LSub.nil
theorem rcopy_c (k : Ky) (hk : k.ok = true) : LSpec Tryz.prog G 59 [k.av] [] (fun _ => (k.av, [])) := by
 have h1 := (k.of hk).1
 have h2 := (k.of hk).2.1
 refine goW [] Tryz.func59 rfl ?_
 conv => whnf
 repeat' ((first | refine T.s ?_ | ((first | apply goB | apply ABr.dec | apply ABr.gen) <;> intro h <;> try (exfalso; omega)) | refine LFresh.mk fun r => ?_ | exact T.z | fail) <;> conv => whnf)
 all_goals (try dsimp only)
 rename_i q
 refine RetL.frz [q, r] (LF.agg ⟨LF.rowF InL.here ?_, LF.rowF (InL.next InL.here) ?_, LF.eq rfl, LF.eq rfl, LF.eq rfl, trivial⟩) ?_
 · (repeat first | refine goH ?_ | apply LHas.here | apply LHas.next)
   exact ⟨rfl, rfl⟩
 · (repeat first | refine goH ?_ | apply LHas.here | apply LHas.next)
   exact ⟨rfl, rfl⟩
 · (repeat first | refine goH ?_ | apply LHas.here | apply LHas.next)
   try (show LHas _ _ _; (repeat first | refine goH ?_ | apply LHas.here | apply LHas.next))
   exact LSub.nil
theorem Ot.of (o : Ot) (h : o.ok = true) : bitsOk o.b = true ∧ o.k.ok = true ∧ 0 ≤ o.n ∧ o.n ≤ 1048576 := by
 simpa [Ot.ok, nextOk] using h
open Go.RowKit
variable {G : Nat → AV}
def sameK (a b : Ky) : Bool := decide (a.s = b.s ∧ a.g = b.g ∧ a.n = b.n ∧ a.b = b.b ∧ a.d = b.d)
theorem samekey_c (a b : Ky) : LSpec Tryz.prog G 61 [a.av, b.av] [] (fun _ => (.bool (sameK a b), [])) := by
 refine goW [] Tryz.func61 rfl ?_
 conv => whnf
 repeat' ((first | (show LCall _ _ _ _ _ _; first | refine LCall.pure (same_c _ _) ?_ | refine goE ?_) | refine T.s ?_ | ((first | apply goB | apply ABr.dec | apply ABr.gen) <;> intro h <;> try (exfalso; omega)) | refine LFresh.mk fun r => ?_ | exact T.z | fail) <;> conv => whnf)
 all_goals (try dsimp only)
 all_goals first
   | contradiction
   | ((show RetL _ _ _; refine goR ?_); refine congrArg AV.bool ?_; rw [Bool.eq_iff_iff]; simp [sameK, icmp, *])
attribute [irreducible] sameK
open Go.RowKit
def strB (key nonce : List UInt8) (i : Nat) : UInt8 := (blockL key ((i / 64 : Nat) : Int) nonce).getD (i % 64) 0
theorem xorQ_map (key nonce b : List UInt8) (i : Nat) : xorQ key nonce b i = (List.range i).map fun j => b.getD j 0 ^^^ strB key nonce j := by
 induction i with
 | zero => rw [xorQ_zero]; rfl
 | succ i ih => rw [xorQ_succ, ih, List.range_succ, List.map_append]; rfl
theorem xorL_map (key nonce b : List UInt8) : xorL key nonce b = (List.range b.length).map fun j => b.getD j 0 ^^^ strB key nonce j := by
 unfold xorL
 exact xorQ_map _ _ _ _
theorem xorL_xorL (key nonce b : List UInt8) : xorL key nonce (xorL key nonce b) = b := by
 have hl : (xorL key nonce b).length = b.length := xorL_len _ _ _
 rw [xorL_map key nonce (xorL key nonce b), hl]
 apply List.ext_getElem
 · simp
 · intro i h1 h2
   simp only [List.length_map, List.length_range] at h1
   simp only [List.getElem_map, List.getElem_range]
   rw [xorL_map]
   simp only [List.getD_eq_getElem?_getD]
   rw [List.getElem?_map, List.getElem?_range h1]
   simp only [Option.map_some, Option.getD_some]
   rw [List.getElem?_eq_getElem h2, Option.getD_some, UInt8.xor_assoc, UInt8.xor_self, UInt8.xor_zero]
theorem headL_num (sn : Int) (h0 : 0 ≤ sn) (h1 : sn < 512) (r : List UInt8) : numV (headL sn ++ r) = sn := by
 have h : ∀ m : Nat, m < 512 → 256 * (((headL ((m : Nat) : Int)).getD 0 0).toNat : Int) + ((headL ((m : Nat) : Int)).getD 1 0).toNat - 32768 = (m : Int) := by decide +kernel
 have h2 := h sn.toNat (by omega)
 rw [show ((sn.toNat : Nat) : Int) = sn by omega] at h2
 unfold numV
 have e : ∀ i, i < 2 → (headL sn ++ r).getD i 0 = (headL sn).getD i 0 := fun i hi => by
   simp only [List.getD_eq_getElem?_getD]
   rw [List.getElem?_append_left (by rw [headL_len]; exact hi)]
 rw [e 0 (by omega), e 1 (by omega)]
 exact h2
theorem lowR_pow (b n : Int) (hb : bitsOk b = true) (hn : countOk n = true) : lowR b n < IntKind.i64.wrap (1 * 2 ^ min b.toNat IntKind.i64.bits) := by
 rw [lowR_eq b n hb hn]
 rcases bits_cases hb with rfl | rfl | rfl | rfl | rfl
 · show n % 32 < 32; omega
 · show n % 64 < 64; omega
 · show n % 128 < 128; omega
 · show n % 256 < 256; omega
 · show n % 512 < 512; omega
theorem sealL_len (k : Ky) (b n : Int) (data : List UInt8) (hk : k.ok = true) (hd : dataOk data = true) : (sealL k b n data).length = data.length + 6 := by
 have hd : 1 ≤ data.length ∧ data.length ≤ 2048 := by simpa [dataOk] using hd
 unfold sealL
 rw [List.length_append, headL_len, xorL_len, List.length_append, markH_len _ _ _ _ hk (by rw [nonceL_len, headL_len]; omega)]
 omega
theorem num_seal (k : Ky) (b n : Int) (data : List UInt8) (hk : k.ok = true) (hb : bitsOk b = true) (hn : countOk n = true) (hd : dataOk data = true) : numR b (sealL k b n data) = (lowR b n, 0) := by
 have hl := sealL_len k b n data hk hd
 have hd : 1 ≤ data.length ∧ data.length ≤ 2048 := by simpa [dataOk] using hd
 have h := lowR_lt b n hb hn
 have hv : numV (sealL k b n data) = lowR b n := headL_num _ h.1 h.2 _
 have hp := lowR_pow b n hb hn
 unfold numR
 rw [hv, if_pos hb, if_neg (by omega), if_neg (by omega)]
theorem open_seal (k : Ky) (b n : Int) (data : List UInt8) (hk : k.ok = true) (hb : bitsOk b = true) (hn : countOk n = true) (hd : dataOk data = true) : openR k b n (sealL k b n data) = (data, 0) := by
 have hns := num_seal k b n data hk hb hn hd
 have hl := sealL_len k b n data hk hd
 rw [openR_ok hk (by rw [hb, hn]; rfl) (by rw [hns]) (by rw [hns]), hl]
 have e : (sealL k b n data).drop 2 = xorL k.s (nonceL k n) (data ++ markH k (nonceL k n) (headL (lowR b n)) data) := by
   unfold sealL
   rw [← headL_len (lowR b n), List.drop_left]
 rw [e, xorL_xorL, show data.length + 6 - 6 = data.length by omega, List.drop_left, List.take_left, if_pos rfl]
@[simp] theorem filled_len (n seed : Int) : (filled n seed).length = n.toNat := by simp [filled]
def awK : Ky := ⟨filled 32 1, filled 16 2, 0, 0, 0⟩
theorem awK_ok : awK.ok = true := by simp [awK, Ky.ok]
end Go.Proofs.YtnmifddidgofaaaGreatDoor
