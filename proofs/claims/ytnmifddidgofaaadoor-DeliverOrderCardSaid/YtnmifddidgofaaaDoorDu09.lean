/-
  Contracts of the functions that the laws reach.
-/
import Derived.Test.YtnmifddidgofaaaDoorDu01
import Derived.Test.YtnmifddidgofaaaDoorDu02
import Derived.Test.YtnmifddidgofaaaDoorDu03
import Derived.Test.YtnmifddidgofaaaDoorDu04
import Derived.Test.YtnmifddidgofaaaDoorDu05
import Derived.Test.YtnmifddidgofaaaDoorDu06
import Derived.Test.YtnmifddidgofaaaDoorDu07
import Derived.Test.YtnmifddidgofaaaDoorDu08
set_option maxHeartbeats 4000000
set_option linter.all false
namespace Go.Proofs.YtnmifddidgofaaaDoor
open Go.RowKit
variable {G : Nat → AV}
theorem rtag_p (k : Ky) (nonce h data : List UInt8) (h1 : nonce.length ≤ 100) (h3 : h.length = 2) (h2 : data.length ≤ 5000) (p : Nm) : LSpec Tryd.prog G 55 [k.av, bv nonce, .vw p 0 2 1, bv data] [(p, ⟨5, h.map bAV⟩)] (fun _ => (bv (markH k nonce h data), [(p, ⟨5, h.map bAV⟩)])) := by
 refine goW [] Tryd.func55 rfl ?_
 conv => whnf
 repeat' ((first | (show LEra _ _ _; conv => whnf) | (show _ = List.length (_ ++ _); simp only [List.length_append, h3]; done) | (show _ = List.map _ (_ ++ _); simp only [List.map_append]; done) | (refine And.intro ?_ ?_; (focus (first | (rw [List.length_map, h3]; exact Nat.le_refl _) | exact T.kx | exact T.side))) | (show LCall _ _ _ _ _ _; first | refine LCall.mk' (rshort_c k.g (nonce ++ h ++ data)) [_] ⟨LF.eq rfl, LF.rowF InL.here ?_, trivial⟩ ?_ | refine goE ?_) | (show AList _ _; first | (refine AList.headE 2 ?_ ?_ ?_; (focus rfl); (focus rfl); rw [List.take_of_length_le (by omega)])) | refine T.s ?_ | ((first | apply goB | apply ABr.dec | apply ABr.gen) <;> intro h <;> try (exfalso; omega)) | refine LFresh.mk fun r => ?_ | exact T.z | fail) <;> conv => whnf)
 all_goals (try dsimp only)
 (show RetL _ _ _; refine goR ?_)
 rfl
theorem and_ff {a b : Bool} (h : (a && b) = false) : a = false ∨ (a = true ∧ b = false) := by
 cases a <;> simp_all
theorem rdata_no {data : List UInt8} (h : dataOk data = false) : data.length < 1 ∨ 2048 < data.length := by
 simp [dataOk] at h; omega
theorem rseal_c (k : Ky) (b n : Int) (data : List UInt8) : LSpec Tryd.prog gl 30 [k.av, iAV b, iAV n, bv data] [] (fun _ => (be (sealR k b n data), [])) := by
 cases h1 : k.ok
 · rw [sealR_key b n data h1]
   refine goW [] Tryd.func30 rfl ?_
   conv => whnf
   repeat' ((first | exact Nm.b 0 | (show LCall _ _ _ _ _ _; first | refine LCall.pure (h1 ▸ rvalid_c k) ?_ | refine goE ?_) | refine T.s ?_ | ((first | apply goB | apply ABr.dec | apply ABr.gen) <;> intro h <;> try (exfalso; omega)) | refine LFresh.mk fun r => ?_ | (show SWpL _ _ _ _ _ _ _; first | (refine goD tyOk mixed 10 [1, 8, 9] [0, 1, 2, 3, 4, 5, 6, 7, 8, 9, 10, 11, 12, 13, 14, 15] [] (by kernel_rfl) ?_)) | exact T.z | fail) <;> conv => whnf)
   all_goals (try dsimp only)
   exact RetL.frz [] (LF.tup ⟨LF.nils rfl rfl, LF.eq rfl, trivial⟩) LSub.nil
 · cases h2 : (bitsOk b && countOk n)
   · rw [sealR_num data h1 h2]
     rcases and_ff h2 with g | ⟨g, g2⟩
     · refine goW [] Tryd.func30 rfl ?_
       conv => whnf
       repeat' ((first | exact Nm.b 0 | (show LCall _ _ _ _ _ _; first | refine LCall.pure (h1 ▸ rvalid_c k) ?_ | refine LCall.pure (g ▸ rbits_c b) ?_ | refine LCall.pure (rcount_c n) ?_ | refine goE ?_) | refine T.s ?_ | ((first | apply goB | apply ABr.dec | apply ABr.gen) <;> intro h <;> try (exfalso; omega)) | refine LFresh.mk fun r => ?_ | (show SWpL _ _ _ _ _ _ _; first | (refine goD tyOk mixed 10 [1, 8, 9] [0, 1, 2, 3, 4, 5, 6, 7, 8, 9, 10, 11, 12, 13, 14, 15] [] (by kernel_rfl) ?_)) | exact T.z | fail) <;> conv => whnf)
       all_goals (try dsimp only)
       all_goals exact RetL.frz [] (LF.tup ⟨LF.nils rfl rfl, LF.eq rfl, trivial⟩) LSub.nil
     · refine goW [] Tryd.func30 rfl ?_
       conv => whnf
       repeat' ((first | exact Nm.b 0 | (show LCall _ _ _ _ _ _; first | refine LCall.pure (h1 ▸ rvalid_c k) ?_ | refine LCall.pure (g ▸ rbits_c b) ?_ | refine LCall.pure (g2 ▸ rcount_c n) ?_ | refine goE ?_) | refine T.s ?_ | ((first | apply goB | apply ABr.dec | apply ABr.gen) <;> intro h <;> try (exfalso; omega)) | refine LFresh.mk fun r => ?_ | (show SWpL _ _ _ _ _ _ _; first | (refine goD tyOk mixed 10 [1, 8, 9] [0, 1, 2, 3, 4, 5, 6, 7, 8, 9, 10, 11, 12, 13, 14, 15] [] (by kernel_rfl) ?_)) | exact T.z | fail) <;> conv => whnf)
       all_goals (try dsimp only)
       all_goals exact RetL.frz [] (LF.tup ⟨LF.nils rfl rfl, LF.eq rfl, trivial⟩) LSub.nil
   · obtain ⟨g, hn⟩ : bitsOk b = true ∧ countOk n = true := by simpa using h2
     cases h3 : dataOk data
     · rw [sealR_size h1 h2 h3]
       have hd := rdata_no h3
       refine goW [] Tryd.func30 rfl ?_
       conv => whnf
       repeat' ((first | exact Nm.b 0 | (show LCall _ _ _ _ _ _; first | refine LCall.pure (h1 ▸ rvalid_c k) ?_ | refine LCall.pure (g ▸ rbits_c b) ?_ | refine LCall.pure (hn ▸ rcount_c n) ?_ | refine goE ?_) | refine T.s ?_ | ((first | apply goB | apply ABr.dec | apply ABr.gen) <;> intro h <;> try (exfalso; omega)) | refine LFresh.mk fun r => ?_ | (show SWpL _ _ _ _ _ _ _; first | (refine goD tyOk mixed 10 [1, 8, 9] [0, 1, 2, 3, 4, 5, 6, 7, 8, 9, 10, 11, 12, 13, 14, 15] [] (by kernel_rfl) ?_)) | exact T.z | fail) <;> conv => whnf)
       all_goals (try dsimp only)
       all_goals exact RetL.frz [] (LF.tup ⟨LF.nils rfl rfl, LF.eq rfl, trivial⟩) LSub.nil
     · rw [sealR_ok h1 h2 h3]
       have hd : 1 ≤ data.length ∧ data.length ≤ 2048 := by simpa [dataOk] using h3
       have hN := nonceL_len k n
       have hM := markH_len k (nonceL k n) (headL (lowR b n)) data h1 (by simp; omega)
       have hb5 : 1 ≤ b ∧ b ≤ 32 := by rcases bits_cases g with h | h | h | h | h <;> omega
       have hlow := lowR_lt b n g hn
       have hput : LSpec Tryd.prog gl 31 [.nils, iAV 2, iAV (iarith .add .i64 32768 (lowR b n))] [] (fun q => (.vw q 0 2 1, [(q, ⟨5, (headL (lowR b n)).map bAV⟩)])) := by
         have e : iarith .add .i64 32768 (lowR b n) = 32768 + lowR b n := by (exact T.num)
         rw [e, headL_put _ hlow.1 hlow.2]
         exact put2n_c _
       unfold sealL
       have hmk := fun p => rtag_p (G := gl) k (nonceL k n) (headL (lowR b n)) data (by omega) (headL_len _) (by omega) p
       generalize markH k (nonceL k n) (headL (lowR b n)) data = M at *
       have hx := rxor_c k.s (nonceL k n) (data ++ M)
       rw [xorR_ok _ _ _ (k.of h1).1 hN (by simp; omega)] at hx
       clear hlow
       refine goW [] Tryd.func30 rfl ?_
       conv => whnf
       repeat' ((first | (show LEra _ _ _; conv => whnf) | (show _ = List.length (_ ++ _); simp only [List.length_append]; done) | (show _ = List.map _ (_ ++ _); simp only [List.map_append]; done) | exact Nm.b 0 | (show LCall _ _ _ _ _ _; first | refine LCall.pure (h1 ▸ rvalid_c k) ?_ | refine LCall.pure (g ▸ rbits_c b) ?_ | refine LCall.pure (hn ▸ rcount_c n) ?_ | refine LCall.pure (rlow_c b n hb5.1 hb5.2) ?_ | refine LCall.own (hput) ?_ | refine LCall.pure (rnonce_c k n h1 hn) ?_ | (apply LCall.upd (hmk _); (repeat first | refine goH ?_ | apply LHas.here | apply LHas.next); refine ⟨rfl, ?_⟩) | refine LCall.mk' (hx) [_] ⟨LF.eq rfl, LF.eq rfl, LF.rowF InL.here ?_, trivial⟩ ?_ | refine goE ?_) | refine T.s ?_ | ((first | apply goB | apply ABr.dec | apply ABr.gen) <;> intro h <;> try (exfalso; omega)) | refine LFresh.mk fun r => ?_ | (show SWpL _ _ _ _ _ _ _; first | (apply goD tyOk mixed 10 [1, 8, 9] [0, 1, 2, 3, 4, 5, 6, 7, 8, 9, 10, 11, 12, 13, 14, 15] [_] (by kernel_rfl)) | (refine goD tyOk mixed 10 [1, 8, 9] [0, 1, 2, 3, 4, 5, 6, 7, 8, 9, 10, 11, 12, 13, 14, 15] [] (by kernel_rfl) ?_)) | exact T.z | fail) <;> try (show (_ : Prop); conv => whnf))
       all_goals (try dsimp only)
       refine RetL.frz [r] (LF.tup ⟨LF.rowF InL.here ?_, LF.eq rfl, trivial⟩) ?_
       · apply LHas.here
         exact ⟨by rw [List.map_append], by simp⟩
       · apply LHas.here
         exact LSub.nil
open Go.RowKit
variable {G : Nat → AV}
structure Ot where
 b : Int
 k : Ky
 n : Int
def Ot.av (o : Ot) : AV := .agg [iAV o.b, bv o.k.s, bv o.k.g, iAV o.k.n, iAV o.k.b, iAV o.k.d, iAV o.n]
def Ot.zero : Ot := ⟨0, ⟨[], [], 0, 0, 0⟩, 0⟩
def nextOk (n : Int) : Bool := decide (0 ≤ n ∧ n ≤ 1048576)
def Ot.ok (o : Ot) : Bool := bitsOk o.b && (o.k.ok && nextOk o.n)
attribute [irreducible] Ot.ok
theorem pclone_c (k : Ky) (hk : k.ok = true) : LSpec Tryd.prog G 21 [k.av] [] (fun _ => (k.av, [])) := by
 have h1 := (k.of hk).1
 have h2 := (k.of hk).2.1
 refine goW [] Tryd.func21 rfl ?_
 conv => whnf
 repeat' ((first | exact Nm.b 0 | (show LCall _ _ _ _ _ _; first | refine LCall.own (clone_c k.s (by omega) (by omega)) ?_ | refine LCall.own (clone_c k.g (by omega) (by omega)) ?_ | refine goE ?_) | refine T.s ?_ | ((first | apply goB | apply ABr.dec | apply ABr.gen) <;> intro h <;> try (exfalso; omega)) | refine LFresh.mk fun r => ?_ | (show SWpL _ _ _ _ _ _ _; first | (apply goD tyOk mixed 1 [4, 2] [0, 1, 3, 4, 2, 6, 5, 7, 8, 9] [_] (by kernel_rfl)) | (refine goD tyOk mixed 1 [4, 2] [0, 1, 3, 4, 2, 6, 5, 7, 8, 9] [] (by kernel_rfl) ?_)) | exact T.z | fail) <;> try (show (_ : Prop); conv => whnf))
 all_goals (try dsimp only)
 rename_i q
 refine RetL.frz [q, r] (LF.agg ⟨LF.rowF InL.here ?_, LF.rowF (InL.next InL.here) ?_, LF.eq rfl, LF.eq rfl, LF.eq rfl, trivial⟩) ?_
 · (repeat first | refine goH ?_ | apply LHas.here | apply LHas.next)
   exact ⟨rfl, rfl⟩
 · (repeat first | refine goH ?_ | apply LHas.here | apply LHas.next)
   exact ⟨rfl, rfl⟩
 · (repeat first | refine goH ?_ | apply LHas.here | apply LHas.next)
   try (show LHas _ _ _; (repeat first | refine goH ?_ | apply LHas.here | apply LHas.next))
   exact LSub.nil
theorem Ot.of (o : Ot) (h : o.ok = true) : bitsOk o.b = true ∧ o.k.ok = true ∧ 0 ≤ o.n ∧ o.n ≤ 1048576 := by
 simpa [Ot.ok, nextOk] using h
open Go.RowKit
def strB (key nonce : List UInt8) (i : Nat) : UInt8 := (blockL key ((i / 64 : Nat) : Int) nonce).getD (i % 64) 0
theorem xorQ_map (key nonce b : List UInt8) (i : Nat) : xorQ key nonce b i = (List.range i).map fun j => b.getD j 0 ^^^ strB key nonce j := by
 induction i with
 | zero => rw [xorQ_zero]; rfl
 | succ i ih => rw [xorQ_succ, ih, List.range_succ, List.map_append]; rfl
theorem xorL_map (key nonce b : List UInt8) : xorL key nonce b = (List.range b.length).map fun j => b.getD j 0 ^^^ strB key nonce j := by
 unfold xorL
 exact xorQ_map _ _ _ _
theorem xorL_xorL (key nonce b : List UInt8) : xorL key nonce (xorL key nonce b) = b := by
 have hl : (xorL key nonce b).length = b.length := xorL_len _ _ _
 rw [xorL_map key nonce (xorL key nonce b), hl]
 apply List.ext_getElem
 · simp
 · intro i h1 h2
   simp only [List.length_map, List.length_range] at h1
   simp only [List.getElem_map, List.getElem_range]
   rw [xorL_map]
   simp only [List.getD_eq_getElem?_getD]
   rw [List.getElem?_map, List.getElem?_range h1]
   simp only [Option.map_some, Option.getD_some]
   rw [List.getElem?_eq_getElem h2, Option.getD_some, UInt8.xor_assoc, UInt8.xor_self, UInt8.xor_zero]
theorem headL_num (sn : Int) (h0 : 0 ≤ sn) (h1 : sn < 512) (r : List UInt8) : numV (headL sn ++ r) = sn := by
 have h : ∀ m : Nat, m < 512 → 256 * (((headL ((m : Nat) : Int)).getD 0 0).toNat : Int) + ((headL ((m : Nat) : Int)).getD 1 0).toNat - 32768 = (m : Int) := by decide +kernel
 have h2 := h sn.toNat (by omega)
 rw [show ((sn.toNat : Nat) : Int) = sn by omega] at h2
 unfold numV
 have e : ∀ i, i < 2 → (headL sn ++ r).getD i 0 = (headL sn).getD i 0 := fun i hi => by
   simp only [List.getD_eq_getElem?_getD]
   rw [List.getElem?_append_left (by rw [headL_len]; exact hi)]
 rw [e 0 (by omega), e 1 (by omega)]
 exact h2
theorem lowR_pow (b n : Int) (hb : bitsOk b = true) (hn : countOk n = true) : lowR b n < IntKind.i64.wrap (1 * 2 ^ min b.toNat IntKind.i64.bits) := by
 rw [lowR_eq b n hb hn]
 rcases bits_cases hb with rfl | rfl | rfl | rfl | rfl
 · show n % 32 < 32; omega
 · show n % 64 < 64; omega
 · show n % 128 < 128; omega
 · show n % 256 < 256; omega
 · show n % 512 < 512; omega
theorem sealL_len (k : Ky) (b n : Int) (data : List UInt8) (hk : k.ok = true) (hd : dataOk data = true) : (sealL k b n data).length = data.length + 6 := by
 have hd : 1 ≤ data.length ∧ data.length ≤ 2048 := by simpa [dataOk] using hd
 unfold sealL
 rw [List.length_append, headL_len, xorL_len, List.length_append, markH_len _ _ _ _ hk (by rw [nonceL_len, headL_len]; omega)]
 omega
theorem num_seal (k : Ky) (b n : Int) (data : List UInt8) (hk : k.ok = true) (hb : bitsOk b = true) (hn : countOk n = true) (hd : dataOk data = true) : numR b (sealL k b n data) = (lowR b n, 0) := by
 have hl := sealL_len k b n data hk hd
 have hd : 1 ≤ data.length ∧ data.length ≤ 2048 := by simpa [dataOk] using hd
 have h := lowR_lt b n hb hn
 have hv : numV (sealL k b n data) = lowR b n := headL_num _ h.1 h.2 _
 have hp := lowR_pow b n hb hn
 unfold numR
 rw [hv, if_pos hb, if_neg (by omega), if_neg (by omega)]
theorem open_seal (k : Ky) (b n : Int) (data : List UInt8) (hk : k.ok = true) (hb : bitsOk b = true) (hn : countOk n = true) (hd : dataOk data = true) : openR k b n (sealL k b n data) = (data, 0) := by
 have hns := num_seal k b n data hk hb hn hd
 have hl := sealL_len k b n data hk hd
 rw [openR_ok hk (by rw [hb, hn]; rfl) (by rw [hns]) (by rw [hns]), hl]
 have e : (sealL k b n data).drop 2 = xorL k.s (nonceL k n) (data ++ markH k (nonceL k n) (headL (lowR b n)) data) := by
   unfold sealL
   rw [← headL_len (lowR b n), List.drop_left]
 rw [e, xorL_xorL, show data.length + 6 - 6 = data.length by omega, List.drop_left, List.take_left, if_pos rfl]
@[simp] theorem filled_len (n seed : Int) : (filled n seed).length = n.toNat := by simp [filled]
def awK : Ky := ⟨filled 32 1, filled 16 2, 0, 0, 0⟩
theorem awK_ok : awK.ok = true := by simp [awK, Ky.ok]
open Go.RowKit
theorem bitsR_ok (t : List Int) (a : Nat) : bitsOk (bitsR t a) = true := by
 have h := nextR_lt t a 4 (by decide) (by decide)
 unfold bitsR
 generalize nextR t a 4 = x at *
 have : x = 0 ∨ x = 1 ∨ x = 2 ∨ x = 3 := by omega
 rcases this with rfl | rfl | rfl | rfl <;> decide +kernel
open Go.RowKit
theorem iadd_in (a b : Int) (h : -9223372036854775808 ≤ a + b) (h2 : a + b < 9223372036854775808) : iarith .add .i64 a b = a + b := by (exact T.num)
open Go.RowKit
section
variable {α : Type} {f : α → List AV} {n : Nat}
theorem fm_len (hf : ∀ x, (f x).length = n) : ∀ l : List α, (l.flatMap f).length = l.length * n
 | [] => by simp
 | x :: l => by rw [List.flatMap_cons, List.length_append, fm_len hf l, hf, List.length_cons, Nat.succ_mul, Nat.add_comm]
theorem fm_drop (hf : ∀ x, (f x).length = n) : ∀ (l : List α) (i : Nat), (l.flatMap f).drop (i * n) = (l.drop i).flatMap f
 | _, 0 => by simp
 | [], i + 1 => by simp
 | x :: l, i + 1 => by
   rw [List.flatMap_cons, List.drop_append, hf, List.drop_of_length_le (by rw [hf, Nat.succ_mul]; omega), List.nil_append, show (i + 1) * n - n = i * n by rw [Nat.succ_mul]; omega, fm_drop hf l i]
   rfl
theorem fm_take (hf : ∀ x, (f x).length = n) : ∀ (l : List α) (i : Nat), (l.flatMap f).take (i * n) = (l.take i).flatMap f
 | _, 0 => by simp
 | [], i + 1 => by simp
 | x :: l, i + 1 => by
   rw [List.flatMap_cons, List.take_append, hf, List.take_of_length_le (by rw [hf, Nat.succ_mul]; omega), show (i + 1) * n - n = i * n by rw [Nat.succ_mul]; omega, fm_take hf l i]
   rfl
theorem drop_getD (l : List α) (i : Nat) (d : α) (h : i < l.length) : l.drop i = l.getD i d :: l.drop (i + 1) := by
 rw [List.drop_eq_getElem_cons h]
 simp [List.getD_eq_getElem?_getD, h]
theorem fm_at (hf : ∀ x, (f x).length = n) (l : List α) (i : Nat) (d : α) (h : i < l.length) : (l.flatMap f).drop (i * n) = f (l.getD i d) ++ (l.drop (i + 1)).flatMap f := by
 rw [fm_drop hf, drop_getD l i d h, List.flatMap_cons]
theorem ACell.recd {agg : Bool} {l : List α} {o m : Nat} {K : AV → Prop} (hf : ∀ x, (f x).length = n) (i : Nat) (d : α) (ho : o = i * n) (hm : m = n) (h : i < l.length) (k : K (mkv agg (f (l.getD i d)))) : ACell agg (((l.flatMap f).drop o).take m) K := ⟨by
 subst ho hm
 rw [fm_at hf l i d h, List.take_append_of_le_length (by rw [hf]; omega), List.take_of_length_le (by rw [hf]; omega)]
 exact k⟩
theorem ACell.fld {l : List α} {o m : Nat} {K : AV → Prop} (hf : ∀ x, (f x).length = n) (i j : Nat) (d : α) (v : AV) (ho : o = i * n + j) (hj : j + m ≤ n) (h : i < l.length) (hv : mkv false (((f (l.getD i d)).drop j).take m) = v) (k : K v) : ACell false (((l.flatMap f).drop o).take m) K := ⟨by
 subst ho
 rw [← List.drop_drop, fm_at hf l i d h, List.drop_append_of_le_length (by rw [hf]; omega), List.take_append_of_le_length (by simp [hf]; omega), hv]
 exact k⟩
end
theorem drop_behind {A B : List AV} {o k : Nat} (h : o = A.length) : (A ++ B).drop (o + k) = B.drop k := by subst h; rw [List.drop_append]; simp
theorem splice_behind {A B xs : List AV} {o k : Nat} (h : o = A.length) : splice (A ++ B) (o + k) xs = A ++ splice B k xs := by
 subst h
 unfold splice
 rw [List.take_append, List.take_of_length_le (by omega), Nat.add_assoc, List.drop_append, List.drop_of_length_le (by omega)]
 simp [List.append_assoc]
theorem ACell.behind {agg : Bool} {A B : List AV} {o k m : Nat} {K : AV → Prop} (h : o = A.length) (g : ACell agg ((B.drop k).take m) K) : ACell agg (((A ++ B).drop (o + k)).take m) K := ⟨by rw [drop_behind h]; exact g.go⟩
theorem AList.behind {A B xs : List AV} {o k : Nat} {K : List AV → Prop} (h : o = A.length) (g : AList (splice B k xs) fun cs => K (A ++ cs)) : AList (splice (A ++ B) (o + k) xs) K := ⟨by rw [splice_behind h]; exact g.go⟩
open Go.RowKit
variable {G : Nat → AV}
structure Hl where
 c : Int
 d : List UInt8
def Hl.z : Hl := ⟨0, []⟩
def Hl.cs (h : Hl) : List AV := [iAV h.c, bv h.d]
theorem Hl.cs_len (h : Hl) : h.cs.length = 2 := rfl
structure In where
 b : Int
 k : Ky
 f : Int
 n : Int
 m : Int
 l : Int
 t : Int
 h : List Hl
def hlv (l : List Hl) : AV := .sl l.length (l.flatMap Hl.cs)
def In.cs (i : In) : List AV := [iAV i.b, bv i.k.s, bv i.k.g, iAV i.k.n, iAV i.k.b, iAV i.k.d, iAV i.f, iAV i.n, iAV i.m, iAV i.l, iAV i.t, hlv i.h]
def In.av (i : In) : AV := .agg i.cs
def lastC (b : Int) (l : List Hl) : Nat → Int
 | 0 => b
 | k + 1 => (l.getD k Hl.z).c
def hlOk (n b : Int) (h : Hl) : Bool := decide (b < h.c ∧ h.c < n ∧ 1 ≤ h.d.length ∧ h.d.length ≤ 2048)
def hldTo (i : In) (k : Nat) : Bool := (List.range k).all fun j => hlOk i.n (lastC i.f i.h j) (i.h.getD j Hl.z)
def heldOk (i : In) : Bool := hldTo i i.h.length && (if i.f < i.n then decide (lastC i.f i.h i.h.length = iarith .sub .i64 i.n 1 ∧ 0 < i.h.length) else decide (i.h.length = 0))
theorem hldTo_succ (i : In) (k : Nat) : hldTo i (k + 1) = (hldTo i k && hlOk i.n (lastC i.f i.h k) (i.h.getD k Hl.z)) := by
 unfold hldTo
 rw [List.range_succ, List.all_append]
 simp
theorem hldTo_no {i : In} {k : Nat} (hk : k < i.h.length) (h : hlOk i.n (lastC i.f i.h k) (i.h.getD k Hl.z) = false) : heldOk i = false := by
 unfold heldOk
 have : hldTo i i.h.length = false := by
   unfold hldTo
   rw [List.all_eq_false]
   exact ⟨k, List.mem_range.2 hk, by rw [h]; simp⟩
 rw [this]; rfl
theorem hldTo_yes {i : In} {k : Nat} (h : hldTo i k = true) (h1 : ¬ (i.h.getD k Hl.z).c ≤ lastC i.f i.h k) (h2 : ¬ i.n ≤ (i.h.getD k Hl.z).c) (h3 : ¬ ((i.h.getD k Hl.z).d.length : Int) < 1) (h4 : ¬ 2048 < ((i.h.getD k Hl.z).d.length : Int)) : hldTo i (k + 1) = true := by
 rw [hldTo_succ, h]
 simp only [hlOk, Bool.true_and, decide_eq_true_eq]
 omega
theorem hldTo_bad {i : In} {k : Nat} (hk : (k : Int) < (i.h.length : Int)) (h : (i.h.getD k Hl.z).c ≤ lastC i.f i.h k ∨ i.n ≤ (i.h.getD k Hl.z).c ∨ ((i.h.getD k Hl.z).d.length : Int) < 1 ∨ 2048 < ((i.h.getD k Hl.z).d.length : Int)) : AV.bool false = AV.bool (heldOk i) := by
 refine congrArg AV.bool (hldTo_no (k := k) (by omega) ?_).symm
 simp only [hlOk, decide_eq_false_iff_not]
 omega
theorem held_end {i : In} {k : Nat} (hk : k ≤ i.h.length) (hn : ¬ (k : Int) < (i.h.length : Int)) (h : hldTo i k = true) : heldOk i = (if i.f < i.n then decide (lastC i.f i.h k = iarith .sub .i64 i.n 1 ∧ 0 < i.h.length) else decide (i.h.length = 0)) := by
 obtain rfl : k = i.h.length := by omega
 unfold heldOk
 rw [h]
 rfl
attribute [local irreducible] hldTo hlOk heldOk
theorem EDel1_1 {p : Prop} (h : p := by (repeat' first | exact trivial | (refine And.intro ?_ ?_) | exact LSub.nil | (with_reducible exact LSub.refl) | (apply LSub.cons; (repeat first | refine goH ?_ | apply LHas.here | apply LHas.next); refine And.intro ?_ ?_; (focus (try (first | (with_reducible rfl) | (refine congrArg (Pl.mk _) ?_; (first | rfl | (simp; done))) | rfl | (with_reducible refine congrArg (Pl.mk _) ?_))))) | (with_reducible assumption) | (exact h0) | (exact hldTo_yes (by assumption) (by assumption) (by assumption) (by assumption) (by assumption)) | (show (_ : AV) = _; (first | (focus (apply Eq.trans; (conv => lhs; whnf); (conv => rhs; whnf); done)) | rfl | ((conv => lhs; whnf); first | rfl | (refine congrArg (AV.int _) ?_; (exact T.num)) | (refine congrArg AV.bool ?_; (exact T.num)) | (refine vw_congr ?_; first | (exact T.num) | (first | rfl | (simp; done))) | (refine sl_congr ?_ ?_ <;> first | (exact T.num) | (first | rfl | (simp; done))) | (first | rfl | (simp; done))))) | ((with_reducible first | (show (_ : Int) ≤ _) | (show (_ : Int) < _) | (show (_ : Nat) ≤ _) | (show (_ : Nat) < _) | (show (_ : Int) = _) | (show (_ : Nat) = _)); (exact T.num)) | (first | rfl | (simp; done))); first | done | fail) : p := h
theorem dheld_c (i : In) (hl : i.h.length ≤ 100000) : LSpec Tryd.prog G 34 [i.av] [] (fun _ => (.bool (heldOk i), [])) := by
 have h0 : hldTo i 0 = true := by with_unfolding_all rfl
 refine goW [] Tryd.func34 rfl ?_
 conv => whnf
 repeat' ((first | (refine And.intro ?_ ?_; (focus (first | (show _ ≤ (List.drop _ (List.flatMap Hl.cs _)).length; rw [List.length_drop, fm_len Hl.cs_len]; (try dsimp only); omega) | exact T.kx | exact T.side))) | (show ACell _ _ _; first | (refine ACell.recd Hl.cs_len k Hl.z rfl rfl ?_ ?_; (focus omega))) | refine T.s ?_ | ((first | apply goB | apply ABr.dec | apply ABr.gen) <;> intro h <;> try (exfalso; omega)) | refine LFresh.mk fun r => ?_ | (show SWpL _ _ _ (.loop _) _ _ _; first | (apply goO tyOk [] 3 (S := Nat × Nm) [] (fun (k, q) => ⟨[(1, .ptr q 0), (9, hlv i.h), (10, .int .i64 i.h.length), (3, .int .i64 (lastC i.f i.h k)), (11, .int .i64 k)], [(q, ⟨32, i.cs⟩)], k ≤ i.h.length ∧ hldTo i k = true, i.h.length - k⟩) ((0, _)) (by rfl); (focus ((repeat' first | exact trivial | (refine And.intro ?_ ?_) | exact LSub.nil | (with_reducible exact LSub.refl) | (apply LSub.cons; (repeat first | refine goH ?_ | apply LHas.here | apply LHas.next); refine And.intro ?_ ?_; (focus (try (first | (with_reducible rfl) | (refine congrArg (Pl.mk _) ?_; (first | rfl | (simp; done))) | rfl | (with_reducible refine congrArg (Pl.mk _) ?_))))) | assumption | (exact h0) | (exact hldTo_yes (by assumption) (by assumption) (by assumption) (by assumption) (by assumption)) | (first | (focus (apply Eq.trans; (conv => lhs; whnf); (conv => rhs; whnf); done)) | rfl | ((conv => lhs; whnf); first | rfl | (refine congrArg (AV.int _) ?_; (exact T.num)) | (refine congrArg AV.bool ?_; (exact T.num)) | (refine vw_congr ?_; first | (exact T.num) | (first | rfl | (simp; done))) | (refine sl_congr ?_ ?_ <;> first | (exact T.num) | (first | rfl | (simp; done))) | (first | rfl | (simp; done)))) | (exact T.num) | (dsimp only; (exact T.num)) | (first | rfl | (simp; done))); done)); rintro ⟨k, q⟩ ⟨hk, hok⟩)) | (show AtL 3 _ _ _ _ _ _ _ _ _; first | (apply AtL.mk' (id := 3) (S := Nat × Nm) ((k + 1, _)); focus (refine T.a5 ?_ ?_ ?_ ?_ <;> exact EDel1_1))) | exact T.z | fail) <;> conv => whnf)
 all_goals (try dsimp only)
 all_goals
   (show RetL _ _ _; refine goR ?_)
   first
     | exact hldTo_bad (by assumption) (.inl (by assumption))
     | exact hldTo_bad (by assumption) (.inr (.inl (by assumption)))
     | exact hldTo_bad (by assumption) (.inr (.inr (.inl (by assumption))))
     | exact hldTo_bad (by assumption) (.inr (.inr (.inr (by assumption))))
     | (rw [held_end (by assumption) (by assumption) (by assumption)]; refine congrArg AV.bool ?_; rw [Bool.eq_iff_iff]; simp [icmp, *]; done)
     | (rw [held_end (by assumption) (by assumption) (by assumption)]; refine congrArg AV.bool ?_; rw [Bool.eq_iff_iff]; simp [icmp, *] <;> omega)
     | trace_state
end Go.Proofs.YtnmifddidgofaaaDoor
namespace Go.Proofs.YtnmifddidgofaaaDoor
open Go.RowKit
variable {G : Nat → AV}
def winR (b : Int) : Int := IntKind.i64.wrap (1 * 2 ^ min (iarith .sub .i64 b 1).toNat IntKind.i64.bits)
def In.ok (i : In) : Bool := bitsOk i.b && (i.k.ok && (decide (0 ≤ i.f ∧ i.f ≤ 1048576 ∧ i.f ≤ i.n ∧ i.n ≤ iarith .add .i64 i.f (winR i.b) ∧ i.n ≤ 1048576 ∧ 0 ≤ i.t ∧ i.t ≤ 1000 ∧ 0 ≤ i.l ∧ i.l ≤ i.t) && (if 0 < i.l then decide (i.f < i.m ∧ i.m ≤ i.n) && heldOk i else decide (i.m = 0) && heldOk i)))
attribute [local irreducible] heldOk
theorem dvalid_c (i : In) (hl : i.h.length ≤ 100000) : LSpec Tryd.prog G 18 [i.av] [] (fun _ => (.bool i.ok, [])) := by
 have hh := dheld_c (G := G) i hl
 have hb := cbits_c (G := G) i.b
 have hv := cvalid_c (G := G) i.k
 obtain ⟨B, hB⟩ : ∃ B, bitsOk i.b = B := ⟨_, rfl⟩
 obtain ⟨K, hK⟩ : ∃ K, i.k.ok = K := ⟨_, rfl⟩
 obtain ⟨H, hH⟩ : ∃ H, heldOk i = H := ⟨_, rfl⟩
 have hok : i.ok = (B && (K && (decide (0 ≤ i.f ∧ i.f ≤ 1048576 ∧ i.f ≤ i.n ∧ i.n ≤ iarith .add .i64 i.f (winR i.b) ∧ i.n ≤ 1048576 ∧ 0 ≤ i.t ∧ i.t ≤ 1000 ∧ 0 ≤ i.l ∧ i.l ≤ i.t) && (if 0 < i.l then decide (i.f < i.m ∧ i.m ≤ i.n) && H else decide (i.m = 0) && H)))) := by
   rw [← hB, ← hK, ← hH]; rfl
 rw [hB] at hb; rw [hK] at hv; rw [hH] at hh; rw [hok]
 have hb2 : B = true → 5 ≤ i.b ∧ i.b ≤ 9 := fun h => by rw [← hB] at h; with_unfolding_all exact of_decide_eq_true h
 clear hok
 cases B with
 | false =>
   refine goW [] Tryd.func18 rfl ?_
   conv => whnf
   repeat' ((first | exact Nm.b 0 | (show LCall _ _ _ _ _ _; first | refine LCall.pure (hh) ?_ | refine LCall.pure (hb) ?_ | refine LCall.pure (hv) ?_ | refine goE ?_) | refine T.s ?_ | ((first | apply goB | apply ABr.dec | apply ABr.gen) <;> intro h) | refine LFresh.mk fun r => ?_ | (show SWpL _ _ _ _ _ _ _; first | refine gX 3 [] [0, 1, 2, 3, 4, 5, 6, 7, 8, 9, 10, 11, 12, 13, 14, 15, 16, 17, 18, 19, 20, 21] [] ?_) | exact T.z | fail) <;> conv => whnf)
   all_goals (try dsimp only)
   all_goals first | ((show RetL _ _ _; refine goR ?_); rfl) | ((show RetL _ _ _; refine goR ?_); simp [icmp, *]; done) | trace_state
 | true =>
   obtain ⟨hb5, hb9⟩ := hb2 rfl
   cases K <;> cases H
   all_goals
     refine goW [] Tryd.func18 rfl ?_
     conv => whnf
     repeat' ((first | exact Nm.b 0 | (show LCall _ _ _ _ _ _; first | refine LCall.pure (hh) ?_ | refine LCall.pure (hb) ?_ | refine LCall.pure (hv) ?_ | refine goE ?_) | refine T.s ?_ | ((first | apply goB | apply ABr.dec | apply ABr.gen) <;> intro h <;> try (exfalso; omega)) | refine LFresh.mk fun r => ?_ | (show SWpL _ _ _ _ _ _ _; first | refine gX 3 [] [0, 1, 2, 3, 4, 5, 6, 7, 8, 9, 10, 11, 12, 13, 14, 15, 16, 17, 18, 19, 20, 21] [] ?_) | exact T.z | fail) <;> conv => whnf)
     all_goals (try dsimp only)
     all_goals
       (show RetL _ _ _; refine goR ?_)
       refine congrArg AV.bool ?_
       unfold winR
       generalize iarith .add .i64 i.f (IntKind.i64.wrap (1 * 2 ^ min (iarith .sub .i64 i.b 1).toNat IntKind.i64.bits)) = W at *
       rw [Bool.eq_iff_iff]
       first
         | (simp [icmp, *]; done)
         | (simp [icmp, *] <;> omega)
         | (by_cases hl0 : 0 < i.l <;> simp [icmp, hl0] <;> omega)
         | trace_state
end Go.Proofs.YtnmifddidgofaaaDoor
namespace Go.Proofs.YtnmifddidgofaaaDoor
open Go.RowKit
variable {G : Nat → AV}
def sdC (i : In) (hd out : AV) : List AV := [iAV i.b, bv i.k.s, bv i.k.g, iAV i.k.n, iAV i.k.b, iAV i.k.d, iAV i.f, iAV i.n, iAV i.m, iAV i.l, iAV i.t, hd, out]
theorem dwant_c (c : Int) (b s : Nm) (i : In) (hd out : AV) (hn : [b, s].Nodup) : LSpec Tryd.prog G 48 [iAV c, .ptr b 0] [(b, ⟨54, [.ptr s 0]⟩), (s, ⟨57, sdC i hd out⟩)] (fun _ => (.bool (decide (c = i.f)), [(b, ⟨54, [.ptr s 0]⟩), (s, ⟨57, sdC i hd out⟩)])) := by
 have hbs : ¬ b = s := by simpa using hn
 refine goW [] Tryd.func48 rfl ?_
 conv => whnf
 repeat' ((first | refine T.s ?_ | ((first | apply goB | apply ABr.dec | apply ABr.gen) <;> intro h <;> try (exfalso; omega)) | refine LFresh.mk fun r => ?_ | exact T.z | fail) <;> conv => whnf)
 all_goals (try dsimp only)
 all_goals first | ((show RetL _ _ _; refine goR ?_); rfl) | ((show RetL _ _ _; refine goR ?_); simp [icmp]; done) | trace_state
theorem dwantT_c (c : Int) (b s : Nm) (i : In) (hd out : AV) (hn : [b, s].Nodup) : LSpec Tryd.prog G 33 [iAV c, .ptr b 0] [(b, ⟨54, [.ptr s 0]⟩), (s, ⟨57, sdC i hd out⟩)] (fun _ => (.bool (decide (c < i.m)), [(b, ⟨54, [.ptr s 0]⟩), (s, ⟨57, sdC i hd out⟩)])) := by
 have hbs : ¬ b = s := by simpa using hn
 refine goW [] Tryd.func33 rfl ?_
 conv => whnf
 repeat' ((first | refine T.s ?_ | ((first | apply goB | apply ABr.dec | apply ABr.gen) <;> intro h <;> try (exfalso; omega)) | refine LFresh.mk fun r => ?_ | exact T.z | fail) <;> conv => whnf)
 all_goals (try dsimp only)
 all_goals first | ((show RetL _ _ _; refine goR ?_); rfl) | ((show RetL _ _ _; refine goR ?_); simp [icmp]; done) | trace_state
theorem dfind1_c (h : Hl) (n : Int) : LSpec Tryd.prog G 45 [.agg h.cs, iAV n] [] (fun _ => (iAV (iarith .sub .i64 h.c n), [])) := by
 refine goW [] Tryd.func45 rfl ?_
 conv => whnf
 repeat' ((first | refine T.s ?_ | ((first | apply goB | apply ABr.dec | apply ABr.gen) <;> intro h <;> try (exfalso; omega)) | refine LFresh.mk fun r => ?_ | exact T.z | fail) <;> conv => whnf)
 all_goals (try dsimp only)
 all_goals first | ((show RetL _ _ _; refine goR ?_); rfl) | ((show RetL _ _ _; refine goR ?_); simp [icmp]; done) | trace_state
open Go.RowKit
variable {G : Nat → AV}
theorem hls_one (l : List Hl) : ((l.flatMap Hl.cs).all AV.one) = true := by
 induction l with
 | nil => rfl
 | cons x l ih => rw [List.flatMap_cons, List.all_append, ih]; rfl
theorem hls_len (l : List Hl) : (l.flatMap Hl.cs).length = l.length * 2 := fm_len Hl.cs_len l
def insL (l : List Hl) (i : Nat) (h : Hl) : List Hl := l.take i ++ h :: l.drop i
theorem ins_shift (l : List Hl) (i : Nat) (hi : i < l.length) (j1 m1 m2 j2 : Nat) (e1 : j1 = i * 2) (e2 : m1 = (l.length + 1 - i) * 2) (e3 : m2 = (l.length - i) * 2) (e4 : j2 = (i + 1) * 2) : splice (l.flatMap Hl.cs ++ [.any, .any]) j2 (List.take m2 (List.take m1 (List.drop j1 (l.flatMap Hl.cs ++ [.any, .any])))) = (l.take (i + 1) ++ l.drop i).flatMap Hl.cs := by
 subst e1 e2 e3 e4
 have hl := hls_len l
 have h1 : List.drop (i * 2) (l.flatMap Hl.cs ++ [.any, .any]) = (l.drop i).flatMap Hl.cs ++ [.any, .any] := by
   rw [List.drop_append_of_le_length (by omega), fm_drop Hl.cs_len]
 have h2 : List.take ((l.length - i) * 2) (List.take ((l.length + 1 - i) * 2) (List.drop (i * 2) (l.flatMap Hl.cs ++ [.any, .any]))) = (l.drop i).flatMap Hl.cs := by
   rw [List.take_take, Nat.min_eq_left (by omega), h1, List.take_append_of_le_length (by rw [hls_len, List.length_drop]; omega), List.take_of_length_le (by rw [hls_len, List.length_drop]; omega)]
 have h3 : List.take ((i + 1) * 2) (l.flatMap Hl.cs ++ [.any, .any]) = (l.take (i + 1)).flatMap Hl.cs := by
   rw [List.take_append_of_le_length (by omega), fm_take Hl.cs_len]
 unfold splice
 rw [h2, h3]
 have h4 : List.drop ((i + 1) * 2 + ((l.drop i).flatMap Hl.cs).length) (l.flatMap Hl.cs ++ [.any, .any]) = [] := List.drop_eq_nil_of_le (by rw [hls_len, List.length_drop, List.length_append, hl]; simp; omega)
 rw [h4, List.append_nil, List.flatMap_append]
theorem ins_src (l : List Hl) (i : Nat) (hi : i < l.length) (j1 m1 m2 : Nat) (e1 : j1 = i * 2) (e2 : m1 = (l.length + 1 - i) * 2) (e3 : m2 = (l.length - i) * 2) : (((List.take m2 (List.take m1 (List.drop j1 (l.flatMap Hl.cs ++ [.any, .any])))).all AV.one)) = true := by
 subst e1 e2 e3
 have hl := hls_len l
 have h1 : List.drop (i * 2) (l.flatMap Hl.cs ++ [.any, .any]) = (l.drop i).flatMap Hl.cs ++ [.any, .any] := by
   rw [List.drop_append_of_le_length (by omega), fm_drop Hl.cs_len]
 rw [List.take_take, Nat.min_eq_left (by omega), h1, List.take_append_of_le_length (by rw [hls_len, List.length_drop]; omega), List.take_of_length_le (by rw [hls_len, List.length_drop]; omega)]
 exact hls_one _
theorem ins_put (l : List Hl) (i : Nat) (hi : i < l.length) (h : Hl) (j : Nat) (xs : List AV) (e : j = i * 2) (hx : xs = h.cs) : splice ((l.take (i + 1) ++ l.drop i).flatMap Hl.cs) j xs = (insL l i h).flatMap Hl.cs := by
 subst e hx
 have hl := hls_len (l.take i)
 rw [List.length_take, Nat.min_eq_left (by omega)] at hl
 have h1 : l.take (i + 1) ++ l.drop i = l.take i ++ l.getD i Hl.z :: l.drop i := by
   rw [List.take_succ, List.getD_eq_getElem?_getD, List.append_assoc]
   simp [List.getElem?_eq_getElem hi]
 rw [h1]
 unfold splice insL
 simp only [List.flatMap_append, List.flatMap_cons]
 rw [List.take_append_of_le_length (by omega), List.take_of_length_le (by omega), List.drop_append, List.drop_eq_nil_of_le (by rw [Hl.cs_len]; omega), Hl.cs_len]
 rw [show i * 2 + 2 - (List.flatMap Hl.cs (List.take i l)).length = 2 by omega]
 simp [Hl.cs]
theorem ins_end (l : List Hl) (h : Hl) (m : Nat) (e : m = l.length * 2) : List.take m (List.drop 0 (l.flatMap Hl.cs)) ++ h.cs = (insL l l.length h).flatMap Hl.cs := by
 subst e
 unfold insL
 rw [List.drop_zero, List.take_of_length_le (by rw [hls_len]; omega), List.take_length, List.drop_length, List.flatMap_append]
 simp [Hl.cs]
theorem nmin (a b : Nat) : Nat.min a b = if a ≤ b then a else b := Nat.min_def
theorem min_one {x : Nat} (h : 1 ≤ x) : Nat.min 1 x = 1 := Nat.min_eq_left h
theorem min_of {a b c : Nat} (h : (a ≤ b ∧ c = a) ∨ (b ≤ a ∧ c = b)) : Nat.min a b = c := by rw [nmin]; split <;> omega
theorem take_min1 (h : Hl) {x : Nat} (hx : 1 ≤ x) : List.take (Nat.min 1 x * 2) h.cs = h.cs := by rw [min_one hx]; rfl
theorem vw_congr2 {p : Nm} {a b c d z : Nat} (h1 : a = b) (h2 : c = d) : AV.vw p a c z = AV.vw p b d z := by subst h1 h2; rfl
theorem zc_len (z : List AV) (n : Nat) : (zcells z n).length = n := by simp [zcells]
theorem ins_g1 (l : List Hl) (i : Nat) (hi : i < l.length) (h : Hl) (z : List AV) (a k j : Nat) (xs : List AV) (ha : a = i * 2) (hk : k = (l.length + 1 - i) * 2) (hj : j = i * 2) (hx : xs = h.cs) : splice (List.take a (List.drop 0 (l.flatMap Hl.cs)) ++ zcells z k) j xs = (l.take i ++ [h]).flatMap Hl.cs ++ (zcells z ((l.length + 1 - i) * 2)).drop 2 := by
 subst ha hk hj hx
 have hl := hls_len l
 have ht : (List.take (i * 2) (l.flatMap Hl.cs)) = (l.take i).flatMap Hl.cs := fm_take Hl.cs_len _ _
 have hl2 : ((l.take i).flatMap Hl.cs).length = i * 2 := by rw [hls_len, List.length_take, Nat.min_eq_left (by omega)]
 unfold splice
 rw [List.drop_zero, ht, List.take_append_of_le_length (by omega), List.take_of_length_le (by omega), Hl.cs_len, List.drop_append, List.drop_eq_nil_of_le (by omega), hl2, List.flatMap_append]
 simp [Hl.cs]
theorem ins_g2 (l : List Hl) (i : Nat) (hi : i < l.length) (h : Hl) (z : List AV) (j m1 m2 o : Nat) (hj : j = (i + 1) * 2) (h1 : m1 = (l.length - i) * 2) (h2 : m2 = (l.length - i) * 2) (ho : o = i * 2) : splice ((l.take i ++ [h]).flatMap Hl.cs ++ (zcells z ((l.length + 1 - i) * 2)).drop 2) j (List.take m2 (List.take m1 (List.drop o (l.flatMap Hl.cs)))) = (insL l i h).flatMap Hl.cs := by
 subst hj h1 h2 ho
 have hl2 : ((l.take i ++ [h]).flatMap Hl.cs).length = (i + 1) * 2 := by rw [hls_len, List.length_append, List.length_take, Nat.min_eq_left (by omega)]; simp
 have hd : List.drop (i * 2) (l.flatMap Hl.cs) = (l.drop i).flatMap Hl.cs := fm_drop Hl.cs_len _ _
 have hl3 : ((l.drop i).flatMap Hl.cs).length = (l.length - i) * 2 := by rw [hls_len, List.length_drop]
 have hz : ((zcells z ((l.length + 1 - i) * 2)).drop 2).length = (l.length - i) * 2 := by rw [List.length_drop, zc_len]; omega
 unfold splice
 rw [List.take_take, Nat.min_self, hd, List.take_of_length_le (l := (l.drop i).flatMap Hl.cs) (by omega), List.take_append_of_le_length (by omega), List.take_of_length_le (by omega), show List.drop ((i + 1) * 2 + ((l.drop i).flatMap Hl.cs).length) ((l.take i ++ [h]).flatMap Hl.cs ++ (zcells z ((l.length + 1 - i) * 2)).drop 2) = [] from List.drop_eq_nil_of_le (by rw [List.length_append]; omega), List.append_nil, ← List.flatMap_append]
 congr 1
 simp [insL]
theorem hins_c (l : List Hl) (i : Nat) (x0 : Hl) (hi : i ≤ l.length) (hl : l.length ≤ 100000) (p r : Nm) (hn : [p, r].Nodup) : LSpec Tryd.prog G 28 [.vw p 0 l.length 2, iAV i, .vw r 0 1 2] [(p, ⟨67, l.flatMap Hl.cs⟩), (r, ⟨67, x0.cs⟩)]
   (fun q => (.vw q 0 (l.length + 1) 2, [(q, ⟨67, (insL l i x0).flatMap Hl.cs⟩)])) := by
 have hpr : ¬ p = r := by simpa using hn
 have hcl := hls_len l
 have hA : iarith .add .i64 (l.length : Int) ((1 : Nat) : Int) = (l.length : Int) + 1 := by (exact T.num)
 have hB : iarith .add .i64 (i : Int) ((1 : Nat) : Int) = (i : Int) + 1 := by (exact T.num)
 by_cases hin : i = l.length
 · subst hin
   refine goW [] Tryd.func28 rfl ?_
   conv => whnf
   repeat' ((first | exact Nm.b 0 | (refine And.intro ?_ ?_; (focus (first | exact hls_one _ | (rw [hls_len]; omega) | exact T.kx | exact T.side))) | (show AList _ _; first | (refine AList.eq (ins_end l x0 _ ?_) ?_; (focus (first | exact rfl | omega)))) | refine T.s ?_ | ((first | apply goB | apply ABr.dec | apply ABr.gen) <;> intro h <;> try (exfalso; omega)) | refine LFresh.mk fun r => ?_ | (show SWpL _ _ _ _ _ _ _; first | (refine goD tyOk mixed 11 [] [0, 1, 2, 3, 4, 5, 6, 7, 8] [] (by kernel_rfl) ?_) | (refine goD tyOk mixed 15 [] [0, 1, 2, 3, 4, 5, 6, 7, 8] [] (by kernel_rfl) ?_)) | (show (_ → _) ∧ (¬ _ → _); first | refine T.y ?_ | refine dec_both (fun h => ?_) (fun h => ?_)) | exact T.z | fail) <;> conv => whnf)
   all_goals (try dsimp only)
   all_goals
     refine RetL.own r ?_ ?_ ?_
     · rfl
     · (repeat first | refine goH ?_ | apply LHas.here | apply LHas.next); trivial
     · (repeat' first | exact LSub.nil | (with_reducible exact LSub.refl) | (apply LSub.cons; (repeat first | refine goH ?_ | apply LHas.here | apply LHas.next); refine And.intro ?_ ?_; (focus (try (first | (with_reducible rfl) | (refine congrArg (Pl.mk _) ?_; (first | rfl | (simp; done))) | rfl | (with_reducible refine congrArg (Pl.mk _) ?_))))))
 · have hi2 : (i : Int) < (l.length : Int) := by omega
   have hi3 : ¬ (i : Int) = (l.length : Int) := by omega
   refine LSpec.room (fun cap => if l.length + 1 ≤ cap then 1 else 0) (fun cap h => by split <;> omega) (by omega) (by omega) (by unfold maxLen; omega) fun cap hc hm => ?_
   unfold maxLen at hm
   by_cases hroom : l.length + 1 ≤ cap
   · rw [if_pos hroom]
     show LSpec _ _ _ _ ((p, ⟨_, l.flatMap Hl.cs ++ [.any, .any]⟩) :: _) _
     have hcl2 : (l.flatMap Hl.cs ++ [AV.any, AV.any]).length = l.length * 2 + 2 := by rw [List.length_append, hcl]; rfl
     refine goW [14] Tryd.func28 rfl ?_
     conv => whnf
     repeat' ((first | (show CutL _ _ _ _ _ _ _ _; refine CutL.ovl (t := 30) (t' := 4) (e1 := 67) tyOk [14] 6 rfl rfl rfl Tryd.func46 (by kernel_rfl) (by kernel_rfl) (by kernel_rfl) (by kernel_rfl) rfl rfl rfl ?_) | (show AOvL _ _ _ _ _ _ _; refine AOvL.mk' ?_) | exact Nm.b 0 | (refine And.intro ?_ ?_; (focus (first | exact hls_one _ | ((try dsimp only); rw [hls_len]; omega) | ((try dsimp only); rw [hcl2]; omega) | ((try dsimp only); rw [hls_len, List.length_append, List.length_take, List.length_drop]; omega) | ((try dsimp only); refine ins_src l i (by omega) _ _ _ ?_ ?_ ?_; (focus ((try dsimp only); omega)); (focus ((try dsimp only); omega)); (focus ((try dsimp only); refine congrArg (· * 2) (min_of ?_); omega))) | exact T.kx | exact T.side))) | (show AList _ _; first | (refine AList.eq (ins_shift l i (by omega) _ _ _ _ ?_ ?_ ?_ ?_) ?_; (focus ((try dsimp only); omega)); (focus ((try dsimp only); omega)); (focus ((try dsimp only); refine congrArg (· * 2) (min_of ?_); omega)); (focus ((try dsimp only); omega))) | (refine AList.eq (ins_put l i (by omega) x0 _ _ ?_ ?_) ?_; (focus ((try dsimp only); omega)); (focus ((try dsimp only); exact take_min1 x0 (by omega))))) | refine T.s ?_ | ((first | apply goB | apply ABr.dec | apply ABr.gen) <;> intro h <;> try (exfalso; omega)) | refine LFresh.mk fun r => ?_ | (show SWpL _ _ _ _ _ _ _; first | refine gX 11 [] [0, 1, 2, 3, 4, 5, 6, 7, 8] [p] ?_ | refine gX 15 [] [0, 1, 2, 3, 4, 5, 6, 7, 8] [p] ?_) | (show CutL _ _ _ _ _ _ _ _; first | refine CutL.go tyOk [14] ?_) | (show (_ → _) ∧ (¬ _ → _); first | refine T.y ?_ | refine dec_both (fun h => ?_) (fun h => ?_)) | exact T.z | fail) <;> conv => whnf)
     all_goals (try dsimp only)
     all_goals
       refine RetL.own p ?_ ?_ ?_
       · refine vw_congr2 ?_ ?_ <;> omega
       · (repeat first | refine goH ?_ | apply LHas.here | apply LHas.next); trivial
       · (repeat' first | exact LSub.nil | (with_reducible exact LSub.refl) | (apply LSub.cons; (repeat first | refine goH ?_ | apply LHas.here | apply LHas.next); refine And.intro ?_ ?_; (focus (try (first | (with_reducible rfl) | (refine congrArg (Pl.mk _) ?_; (first | rfl | (simp; done))) | rfl | (with_reducible refine congrArg (Pl.mk _) ?_))))))
   · rw [if_neg hroom]
     have hr2 : (cap : Int) < iarith .add .i64 l.length ((1 : Nat) : Int) := by omega
     have hK : iarith .sub .i64 (iarith .add .i64 (l.length : Int) ((1 : Nat) : Int)) (i : Int) = (l.length : Int) + 1 - i := by rw [hA]; (exact T.num)
     rw [Nat.zero_mul, List.replicate_zero, List.append_nil]
     refine goW [14] Tryd.func28 rfl ?_
     conv => whnf
     repeat' ((first | exact Nm.b 0 | (refine And.intro ?_ ?_; (focus (first | exact all_take _ (all_take _ (all_drop _ (hls_one _))) | exact hls_one _ | (rw [hls_len]; omega) | ((try dsimp only); rw [List.length_append, List.length_take, zc_len, List.length_drop, hcl]; omega) | ((try dsimp only); rw [List.length_append, hls_len, List.length_append, List.length_take, List.length_drop, zc_len]; simp only [List.length_cons, List.length_nil]; omega) | exact T.kx | exact T.side))) | (show AList _ _; first | (refine AList.eq (ins_g1 l i (by omega) x0 _ _ _ _ _ ?_ ?_ ?_ ?_) ?_; (focus ((try dsimp only); omega)); (focus ((try dsimp only); omega)); (focus ((try dsimp only); omega)); (focus ((try dsimp only); exact take_min1 x0 (by omega)))) | (refine AList.eq (ins_g2 l i (by omega) x0 _ _ _ _ _ ?_ ?_ ?_ ?_) ?_; (focus ((try dsimp only); omega)); (focus ((try dsimp only); omega)); (focus ((try dsimp only); refine congrArg (· * 2) (min_of ?_); omega)); (focus ((try dsimp only); omega)))) | refine T.s ?_ | ((first | apply goB | apply ABr.dec | apply ABr.gen) <;> intro h <;> try (exfalso; omega)) | refine LFresh.mk fun r => ?_ | (show SWpL _ _ _ _ _ _ _; first | refine gX 11 [] [0, 1, 2, 3, 4, 5, 6, 7, 8] [r] ?_ | refine gX 15 [] [0, 1, 2, 3, 4, 5, 6, 7, 8] [r] ?_) | (show CutL _ _ _ _ _ _ _ _; first | refine CutL.go tyOk [14] ?_) | (show (_ → _) ∧ (¬ _ → _); first | refine T.y ?_ | refine dec_both (fun h => ?_) (fun h => ?_)) | exact T.z | fail) <;> conv => whnf)
     all_goals (try dsimp only)
     all_goals
       refine RetL.own r ?_ ?_ ?_
       · refine vw_congr ?_; omega
       · (repeat first | refine goH ?_ | apply LHas.here | apply LHas.next); trivial
       · (repeat' first | exact LSub.nil | (with_reducible exact LSub.refl) | (apply LSub.cons; (repeat first | refine goH ?_ | apply LHas.here | apply LHas.next); refine And.intro ?_ ?_; (focus (try (first | (with_reducible rfl) | (refine congrArg (Pl.mk _) ?_; (first | rfl | (simp; done))) | rfl | (with_reducible refine congrArg (Pl.mk _) ?_))))))
open Go.RowKit
variable {G : Nat → AV}
theorem sg_rng {n a b : Int} (h1 : 1 ≤ n) (h2 : n ≤ 32) : -4294967296 ≤ sg n a b ∧ sg n a b < 4294967296 := by
 have h3 := lw_rng n (b - a)
 have h4 := pw_le (m := 32) h2
 have h5 := pw_pos n
 unfold sg
 split <;> omega
theorem snear_c (n c x : Int) (h1 : 1 ≤ n) (h2 : n ≤ 32) (hc : 0 ≤ c) (hc2 : c ≤ 1048576) : LSpec Tryd.prog G 37 [iAV n, iAV c, iAV x] [] (fun _ => (.tup [iAV (c + sg n c x), .bool true], [])) := by
 have h3 := sg_rng (a := c) (b := x) h1 h2
 refine goW [] Tryd.func37 rfl ?_
 conv => whnf
 repeat' ((first | (show LCall _ _ _ _ _ _; first | refine LCall.pure (svalid_c _ h1 h2) ?_ | refine LCall.pure (ssigned_c _ _ _ h1 h2) ?_ | refine goE ?_) | refine T.s ?_ | ((first | apply goB | apply ABr.dec | apply ABr.gen) <;> intro h <;> try (exfalso; omega)) | refine LFresh.mk fun r => ?_ | exact T.z | fail) <;> conv => whnf)
 all_goals (try dsimp only)
 all_goals
   (show RetL _ _ _; refine goR ?_)
   rw [show c + sg n c x = iarith .add .i64 c (sg n c x) by (exact T.num)]
   rfl
def infR (b f x : Int) : Int × Int := if bitsOk b = true ∧ 0 ≤ f ∧ f ≤ 1048576 ∧ 0 ≤ x ∧ x < 2 ^ b.toNat then (if f + sg b f x < 0 then (0, 11) else if countOk (f + sg b f x) = true then (f + sg b f x, 0) else (0, 10)) else (0, 3)
theorem infer_c (b f x : Int) : LSpec Tryd.prog G 25 [iAV b, iAV f, iAV x] [] (fun _ => (.tup [iAV (infR b f x).1, iAV (infR b f x).2], [])) := by
 cases hb : bitsOk b with
 | false =>
   rw [show infR b f x = (0, 3) by unfold infR; rw [if_neg (by rw [hb]; simp)]]
   refine goW [] Tryd.func25 rfl ?_
   conv => whnf
   repeat' ((first | (show LCall _ _ _ _ _ _; first | refine LCall.pure (cbits_c _) ?_ | refine goE ?_) | refine T.s ?_ | ((first | apply goB | apply ABr.dec | apply ABr.gen) <;> intro h <;> try (exfalso; omega)) | refine LFresh.mk fun r => ?_ | exact T.z | fail) <;> conv => whnf)
   all_goals (try dsimp only)
   all_goals ((show RetL _ _ _; refine goR ?_); rfl)
 | true =>
   obtain ⟨h5, h9⟩ : 5 ≤ b ∧ b ≤ 9 := by rcases bits_cases hb with h | h | h | h | h <;> omega
   have hs : IntKind.i64.wrap (1 * 2 ^ min b.toNat IntKind.i64.bits) = 2 ^ b.toNat := shl1 (by omega)
   by_cases hin : 0 ≤ f ∧ f ≤ 1048576 ∧ 0 ≤ x ∧ x < 2 ^ b.toNat
   · obtain ⟨f0, f1, x0, x1⟩ := hin
     have e : infR b f x = if f + sg b f x < 0 then (0, 11) else if countOk (f + sg b f x) = true then (f + sg b f x, 0) else (0, 10) := by unfold infR; rw [if_pos ⟨hb, f0, f1, x0, x1⟩]
     rw [e]
     have hn := snear_c (G := G) b f x (by omega) (by omega) f0 f1
     generalize f + sg b f x = N at *
     have hx2 : ¬ IntKind.i64.wrap (1 * 2 ^ min b.toNat IntKind.i64.bits) ≤ x := by rw [hs]; omega
     refine goW [] Tryd.func25 rfl ?_
     conv => whnf
     repeat' ((first | (show LCall _ _ _ _ _ _; first | refine LCall.pure (cbits_c _) ?_ | refine LCall.pure (ccount_c _) ?_ | refine LCall.pure (hn) ?_ | refine goE ?_) | refine T.s ?_ | ((first | apply goB | apply ABr.dec | apply ABr.gen) <;> intro h <;> try (exfalso; omega)) | refine LFresh.mk fun r => ?_ | exact T.z | fail) <;> conv => whnf)
     all_goals (try dsimp only)
     all_goals first
       | (exfalso; omega)
       | (rw [if_pos (by assumption)]; (show RetL _ _ _; refine goR ?_); rfl)
       | (rw [if_neg (by assumption), if_pos (by assumption)]; (show RetL _ _ _; refine goR ?_); rfl)
       | (rw [if_neg (by assumption), if_neg (by simp [*])]; (show RetL _ _ _; refine goR ?_); rfl)
       | trace_state
   · rw [show infR b f x = (0, 3) by unfold infR; rw [if_neg (fun h => hin h.2)]]
     have hx2 : 0 ≤ f → f ≤ 1048576 → 0 ≤ x → IntKind.i64.wrap (1 * 2 ^ min b.toNat IntKind.i64.bits) ≤ x := fun a1 a2 a3 => by rw [hs]; exact Int.not_lt.1 fun h => hin ⟨a1, a2, a3, h⟩
     refine goW [] Tryd.func25 rfl ?_
     conv => whnf
     repeat' ((first | (show LCall _ _ _ _ _ _; first | refine LCall.pure (cbits_c _) ?_ | refine goE ?_) | refine T.s ?_ | ((first | apply goB | apply ABr.dec | apply ABr.gen) <;> intro h <;> try (exfalso; omega)) | refine LFresh.mk fun r => ?_ | exact T.z | fail) <;> conv => whnf)
     all_goals (try dsimp only)
     all_goals first
       | ((show RetL _ _ _; refine goR ?_); rfl)
       | (exfalso; have := hx2 (by omega) (by omega) (by omega); omega)
       | trace_state
open Go.RowKit
variable {G : Nat → AV}
section
variable {P : Program}
theorem LSpec.adoptN {f : FuncId} {args : List AV} (t : TypeId) (sz : Nat) (h : LSpec P G f args [] (fun _ => (.nils, []))) : LSpec P G f args [] (fun q => (.vw q 0 0 sz, [(q, ⟨t, []⟩)])) := by
 unfold LSpec at h ⊢
 refine ⟨h.1, fun q => ⟨by simp, by simp⟩, fun τ w vs h1 h2 h3 h4 h5 => (h.2.2 τ w vs h1 h2 h3 h4 h5).mono ?_⟩
 rintro e w' ⟨v, q, k1, -, -, k4, k5, k6⟩
 have k4 : Rd τ w' .nils v := k4
 have k5 : Mem τ w' := k5
 have k6 : Stp τ w τ w' := k6
 obtain ⟨B, hB⟩ := k5.fin
 have hk := hB B (Nat.le_refl _)
 have hst : Stp τ w' (Go.Proofs.YtnmifddidgofaaaDoor.upd τ (.v B) ⟨t, []⟩) w' := Stp.forget _ _ w' fun b hb => by rw [upd_ne _ _ (by simp)]; exact hb
 refine ⟨v, .v B, k1, hk, by simp, ?_, ?_, k6.trans hst⟩
 · cases k4
   exact .vwnil _ _
 · show Mem (Go.Proofs.YtnmifddidgofaaaDoor.upd τ (.v B) ⟨t, []⟩) w'
   refine ⟨fun q c hq => ?_, fun m c hm => ?_, fin_upd k5.fin _ _⟩
   · rw [upd_ne _ _ (by simp)] at hq
     obtain ⟨cur, k1, k2, k3⟩ := k5.pl q c hq
     exact ⟨cur, k1, k2, fun i hi => (k3 i hi).mono hst⟩
   · by_cases hmk : m = B
     · subst hmk; rw [upd_same] at hm; cases hm; rfl
     · rw [upd_ne _ _ (by simp; exact hmk)] at hm
       exact k5.vl m c hm
end
theorem Rd.cloN {σ : Store} {w : World} {f : FuncId} {v : Value} (h : Rd σ w (.lit (.func (.func f) #[] #[])) v) : Rd σ w (.clo (.func f) [] []) v := by
 cases h
 exact .clo (.func f) [] [] #[] #[] rfl rfl (fun i hi => by simp at hi) (fun i hi => by simp at hi)
theorem LSpec.argN {P : Program} {g : FuncId} {args : List AV} {f : FuncId} {ps : LS} {post : Nm → AV × LS} (h : LSpec P G g (args ++ [.clo (.func f) [] []]) ps post) : LSpec P G g (args ++ [.lit (.func (.func f) #[] #[])]) ps post := by
 unfold LSpec at h ⊢
 refine ⟨h.1, h.2.1, fun τ w vs h1 h2 h3 h4 h5 => h.2.2 τ w vs h1 h2 h3 h4 ⟨by have := h5.1; simp at this ⊢; exact this, fun i hi => ?_⟩⟩
 have hi2 : i < args.length + 1 := by simpa using hi
 have h6 := h5.2 i (by simpa using hi)
 by_cases hlt : i < args.length
 · have e1 : (args ++ [AV.clo (.func f) [] []]).getD i .any = args.getD i .any := by simp only [List.getD_eq_getElem?_getD]; rw [List.getElem?_append_left hlt]
   have e2 : (args ++ [AV.lit (.func (.func f) #[] #[])]).getD i .any = args.getD i .any := by simp only [List.getD_eq_getElem?_getD]; rw [List.getElem?_append_left hlt]
   rw [e1]; rw [e2] at h6; exact h6
 · obtain rfl : i = args.length := by omega
   have e1 : (args ++ [AV.clo (.func f) [] []]).getD args.length .any = .clo (.func f) [] [] := by simp
   have e2 : (args ++ [AV.lit (.func (.func f) #[] #[])]).getD args.length .any = .lit (.func (.func f) #[] #[]) := by simp
   rw [e1]; rw [e2] at h6; exact h6.cloN
theorem hlclone_o (l : List Hl) (hl : l.length ≤ 100000) : LSpec Tryd.prog G 36 [hlv l] [] (fun q => (.vw q 0 l.length 2, [(q, ⟨67, l.flatMap Hl.cs⟩)])) := by
 by_cases h : 0 < l.length
 · refine goW [] Tryd.func36 rfl ?_
   conv => whnf
   repeat' ((first | (refine And.intro ?_ ?_; (focus (first | exact hls_len _ | exact hls_one _ | (rw [hls_len]; omega) | omega | exact T.kx | exact T.side))) | refine T.s ?_ | ((first | apply goB | apply ABr.dec | apply ABr.gen) <;> intro h <;> try (exfalso; omega)) | refine LFresh.mk fun r => ?_ | exact T.z | fail) <;> conv => whnf)
   all_goals (try dsimp only)
   all_goals
     refine RetL.own r ?_ ?_ ?_
     · rw [Nat.zero_add]
     · (repeat first | refine goH ?_ | apply LHas.here | apply LHas.next); trivial
     · (repeat' first | exact LSub.nil | (with_reducible exact LSub.refl) | (apply LSub.cons; (repeat first | refine goH ?_ | apply LHas.here | apply LHas.next); refine And.intro ?_ ?_; (focus (try (first | (with_reducible rfl) | (refine congrArg (Pl.mk _) ?_; (first | rfl | (simp; done))) | rfl | (with_reducible refine congrArg (Pl.mk _) ?_))))))
 · obtain rfl : l = [] := List.eq_nil_of_length_eq_zero (by omega)
   refine LSpec.empty ?_ fun a0 cap hc => ?_
   · refine LSpec.adoptN 67 2 ?_
     refine goW [] Tryd.func36 rfl ?_
     conv => whnf
     repeat' ((first | refine T.s ?_ | ((first | apply goB | apply ABr.dec | apply ABr.gen) <;> intro h <;> try (exfalso; omega)) | refine LFresh.mk fun r => ?_ | exact T.z | fail) <;> conv => whnf)
     all_goals (try dsimp only)
     exact RetL.val rfl LSub.nil
   · refine goW [] Tryd.func36 rfl ?_
     conv => whnf
     repeat' ((first | refine T.s ?_ | ((first | apply goB | apply ABr.dec | apply ABr.gen) <;> intro h <;> try (exfalso; omega)) | refine LFresh.mk fun r => ?_ | exact T.z | fail) <;> conv => whnf)
     all_goals (try dsimp only)
     refine RetL.own r ?_ ?_ ?_
     · rfl
     · (repeat first | refine goH ?_ | apply LHas.here | apply LHas.next); trivial
     · (repeat' first | exact LSub.nil | (with_reducible exact LSub.refl) | (apply LSub.cons; (repeat first | refine goH ?_ | apply LHas.here | apply LHas.next); refine And.intro ?_ ?_; (focus (try (first | (with_reducible rfl) | (refine congrArg (Pl.mk _) ?_; (first | rfl | (simp; done))) | rfl | (with_reducible refine congrArg (Pl.mk _) ?_))))))
theorem bclone_c (l : List UInt8) (hl : l.length ≤ 100000) : LSpec Tryd.prog G 35 [bv l] [] (fun _ => (bv l, [])) := by
 by_cases h : 0 < l.length
 · refine goW [] Tryd.func35 rfl ?_
   conv => whnf
   repeat' ((first | refine T.s ?_ | ((first | apply goB | apply ABr.dec | apply ABr.gen) <;> intro h <;> try (exfalso; omega)) | refine LFresh.mk fun r => ?_ | exact T.z | fail) <;> conv => whnf)
   all_goals (try dsimp only)
   all_goals
     refine RetL.frz [r] (LF.row InL.here ?_) ?_
     · (repeat first | refine goH ?_ | apply LHas.here | apply LHas.next)
       exact ⟨by decide, by simp, by simp, by simp⟩
     · (repeat first | refine goH ?_ | apply LHas.here | apply LHas.next)
       exact LSub.nil
 · obtain rfl : l = [] := List.eq_nil_of_length_eq_zero (by omega)
   refine LSpec.empty ?_ fun a0 cap hc => ?_
   · refine goW [] Tryd.func35 rfl ?_
     conv => whnf
     repeat' ((first | refine T.s ?_ | ((first | apply goB | apply ABr.dec | apply ABr.gen) <;> intro h <;> try (exfalso; omega)) | refine LFresh.mk fun r => ?_ | exact T.z | fail) <;> conv => whnf)
     all_goals (try dsimp only)
     exact RetL.frz [] (LF.nils rfl rfl) LSub.nil
   · refine goW [] Tryd.func35 rfl ?_
     conv => whnf
     repeat' ((first | refine T.s ?_ | ((first | apply goB | apply ABr.dec | apply ABr.gen) <;> intro h <;> try (exfalso; omega)) | refine LFresh.mk fun r => ?_ | exact T.z | fail) <;> conv => whnf)
     all_goals (try dsimp only)
     refine RetL.frz [r] (LF.row InL.here ?_) ?_
     · (repeat first | refine goH ?_ | apply LHas.here | apply LHas.next)
       exact ⟨by decide, rfl, rfl, rfl⟩
     · (repeat first | refine goH ?_ | apply LHas.here | apply LHas.next)
       exact LSub.nil
def inC (i : In) (h : AV) : List AV := [iAV i.b, bv i.k.s, bv i.k.g, iAV i.k.n, iAV i.k.b, iAV i.k.d, iAV i.f, iAV i.n, iAV i.m, iAV i.l, iAV i.t, h]
def zIn : List AV := [iAV 0, .nils, .nils, iAV 0, iAV 0, iAV 0, iAV 0, iAV 0, iAV 0, iAV 0, iAV 0, .nils]
theorem hl_same (l : List Hl) (k j : Nat) (hk : k < l.length) (hj : j = k * 2 + 1) : splice (l.flatMap Hl.cs) j [bv (l.getD k Hl.z).d] = l.flatMap Hl.cs := by
 subst hj
 have h1 : l = l.take k ++ l.getD k Hl.z :: l.drop (k + 1) := by
   rw [List.getD_eq_getElem?_getD, List.getElem?_eq_getElem hk]
   simp
 have hl : ((l.take k).flatMap Hl.cs).length = k * 2 := by rw [hls_len, List.length_take, Nat.min_eq_left (by omega)]
 generalize l.getD k Hl.z = x at *
 generalize l.take k = a at *
 generalize l.drop (k + 1) = b at *
 subst h1
 simp only [List.flatMap_append, List.flatMap_cons, splice]
 have h2 : List.drop (k * 2 + 1 + [bv x.d].length) (a.flatMap Hl.cs ++ (x.cs ++ b.flatMap Hl.cs)) = b.flatMap Hl.cs := by
   rw [List.drop_append, List.drop_eq_nil_of_le (by rw [hl]; simp only [List.length_cons, List.length_nil]; omega), hl]
   simp only [List.length_cons, List.length_nil]
   rw [show k * 2 + 1 + (0 + 1) - k * 2 = 2 by omega]
   rfl
 rw [h2, List.take_append, List.take_of_length_le (by omega), hl, show k * 2 + 1 - k * 2 = 1 by omega]
 simp [Hl.cs]
theorem dclone_o (i : In) (hk : i.k.ok = true) (hl : i.h.length ≤ 100000) (hd : ∀ k, k < i.h.length → (i.h.getD k Hl.z).d.length ≤ 100000) : LSpec Tryd.prog G 23 [i.av] [] (fun q => (.agg (inC i (.vw q 0 i.h.length 2)), [(q, ⟨67, i.h.flatMap Hl.cs⟩)])) := by
 have hh := hlclone_o (G := G) i.h hl
 refine goW [] Tryd.func23 rfl ?_
 conv => whnf
 repeat' ((first | exact Nm.b 0 | (refine And.intro ?_ ?_; (focus (first | ((try dsimp only); rw [hls_len]; omega) | exact T.kx | exact T.side))) | (show LCall _ _ _ _ _ _; first | refine LCall.pure (pclone_c _ hk) ?_ | refine LCall.own (hh) ?_ | refine LCall.pure (bclone_c _ (hd _ (by omega))) ?_ | refine goE ?_) | (show ACell _ _ _; first | (refine ACell.fld Hl.cs_len k 1 Hl.z (bv (i.h.getD k Hl.z).d) ?_ (by decide) ?_ rfl ?_; (focus ((try dsimp only); omega)); (focus omega))) | (show AList _ _; first | (refine AList.eq (hl_same _ _ _ ?_ ?_) ?_; (focus ((try dsimp only); omega)); (focus ((try dsimp only); omega)))) | refine T.s ?_ | ((first | apply goB | apply ABr.dec | apply ABr.gen) <;> intro h <;> try (exfalso; omega)) | refine LFresh.mk fun r => ?_ | (show SWpL _ _ _ (.loop _) _ _ _; first | (apply goO tyOk [] 4 (S := Nat × Nm × Nm × Nm) [14] (fun (k, a, b, q) => ⟨[(15, .int .i64 k), (1, .ptr a 0), (2, .ptr b 0)], [(a, ⟨32, inC i (.vw q 0 i.h.length 2)⟩), (b, ⟨32, zIn⟩), (q, ⟨67, i.h.flatMap Hl.cs⟩)], k ≤ i.h.length, i.h.length - k⟩) ((0, _, _, _)) (by rfl); (focus ((repeat' first | exact trivial | (refine And.intro ?_ ?_) | exact LSub.nil | (with_reducible exact LSub.refl) | (apply LSub.cons; (repeat first | refine goH ?_ | apply LHas.here | apply LHas.next); refine And.intro ?_ ?_; (focus (try (first | (with_reducible rfl) | (refine congrArg (Pl.mk _) ?_; (first | rfl | (simp; done))) | rfl | (with_reducible refine congrArg (Pl.mk _) ?_))))) | assumption | (rfl) | (first | (focus (apply Eq.trans; (conv => lhs; whnf); (conv => rhs; whnf); done)) | rfl | ((conv => lhs; whnf); first | rfl | (refine congrArg (AV.int _) ?_; (exact T.num)) | (refine congrArg AV.bool ?_; (exact T.num)) | (refine vw_congr ?_; first | (exact T.num) | (first | rfl | (simp; done))) | (refine sl_congr ?_ ?_ <;> first | (exact T.num) | (first | rfl | (simp; done))) | (first | rfl | (simp; done)))) | (exact T.num) | (dsimp only; (exact T.num)) | (first | rfl | (simp; done))); done)); rintro ⟨k, a, b, q⟩ hok; (try dsimp only at hok))) | (show SWpL _ _ _ _ _ _ _; first | refine gX 6 [1, 9] [0, 1, 2, 3, 4, 5, 6, 7, 8, 9, 10, 11, 12] [q] ?_) | (show AtL _ _ _ _ _ _ _ _ _ _; first | (apply AtL.mk' (id := 4) (S := Nat × Nm × Nm × Nm) ((k + 1, a, b, q)); (repeat' first | exact trivial | (refine And.intro ?_ ?_) | exact LSub.nil | (with_reducible exact LSub.refl) | (apply LSub.cons; (repeat first | refine goH ?_ | apply LHas.here | apply LHas.next); refine And.intro ?_ ?_; (focus (try (first | (with_reducible rfl) | (refine congrArg (Pl.mk _) ?_; (first | rfl | (simp; done))) | rfl | (with_reducible refine congrArg (Pl.mk _) ?_))))) | assumption | (rfl) | (first | (focus (apply Eq.trans; (conv => lhs; whnf); (conv => rhs; whnf); done)) | rfl | ((conv => lhs; whnf); first | rfl | (refine congrArg (AV.int _) ?_; (exact T.num)) | (refine congrArg AV.bool ?_; (exact T.num)) | (refine vw_congr ?_; first | (exact T.num) | (first | rfl | (simp; done))) | (refine sl_congr ?_ ?_ <;> first | (exact T.num) | (first | rfl | (simp; done))) | (first | rfl | (simp; done)))) | (exact T.num) | (dsimp only; (exact T.num)) | (first | rfl | (simp; done))); done) | (apply AtL.mk' (id := 4) (S := Nat × Nm × Nm × Nm) ((k + 1, a, b, q)); (repeat' first | exact trivial | (refine And.intro ?_ ?_) | exact LSub.nil | (with_reducible exact LSub.refl) | (apply LSub.cons; (repeat first | refine goH ?_ | apply LHas.here | apply LHas.next); refine And.intro ?_ ?_; (focus (try (first | (with_reducible rfl) | (refine congrArg (Pl.mk _) ?_; (first | rfl | (simp; done))) | rfl | (with_reducible refine congrArg (Pl.mk _) ?_))))) | assumption | (rfl) | (first | (focus (apply Eq.trans; (conv => lhs; whnf); (conv => rhs; whnf); done)) | rfl | ((conv => lhs; whnf); first | rfl | (refine congrArg (AV.int _) ?_; (exact T.num)) | (refine congrArg AV.bool ?_; (exact T.num)) | (refine vw_congr ?_; first | (exact T.num) | (first | rfl | (simp; done))) | (refine sl_congr ?_ ?_ <;> first | (exact T.num) | (first | rfl | (simp; done))) | (first | rfl | (simp; done)))) | (exact T.num) | (dsimp only; (exact T.num)) | (first | rfl | (simp; done))))) | exact T.z | fail) <;> conv => whnf)
 all_goals (try dsimp only)
 all_goals
   refine RetL.own q ?_ ?_ ?_
   · rfl
   · (repeat first | refine goH ?_ | apply LHas.here | apply LHas.next); trivial
   · (repeat' first | exact LSub.nil | (with_reducible exact LSub.refl) | (apply LSub.cons; (repeat first | refine goH ?_ | apply LHas.here | apply LHas.next); refine And.intro ?_ ?_; (focus (try (first | (with_reducible rfl) | (refine congrArg (Pl.mk _) ?_; (first | rfl | (simp; done))) | rfl | (with_reducible refine congrArg (Pl.mk _) ?_))))))
def ascH (l : List Hl) : Prop := ∀ i j, i < j → j < l.length → (l.getD i Hl.z).c < (l.getD j Hl.z).c
def rngH (l : List Hl) : Prop := ∀ i, i < l.length → 0 ≤ (l.getD i Hl.z).c ∧ (l.getD i Hl.z).c ≤ 1048576
def posR (l : List Hl) (c : Int) : Nat := (l.takeWhile fun h => decide (h.c < c)).length
def hitR (l : List Hl) (c : Int) : Bool := decide (posR l c < l.length ∧ (l.getD (posR l c) Hl.z).c = c)
theorem tw_le {α : Type} (p : α → Bool) (l : List α) : (l.takeWhile p).length ≤ l.length := by
 induction l with
 | nil => simp
 | cons x l ih => rw [List.takeWhile_cons]; split <;> simp <;> omega
theorem tw_yes {α : Type} (p : α → Bool) (d : α) (l : List α) (i : Nat) (h : i < (l.takeWhile p).length) : p (l.getD i d) = true := by
 induction l generalizing i with
 | nil => simp at h
 | cons x l ih =>
   rw [List.takeWhile_cons] at h
   split at h
   · cases i with
     | zero => simpa
     | succ i => simp at h; simpa using ih i (by omega)
   · simp at h
theorem tw_no {α : Type} (p : α → Bool) (d : α) (l : List α) (h : (l.takeWhile p).length < l.length) : p (l.getD (l.takeWhile p).length d) = false := by
 induction l with
 | nil => simp at h
 | cons x l ih =>
   rw [List.takeWhile_cons] at h ⊢
   split
   · rename_i hx
     rw [if_pos hx] at h
     simp at h
     simpa using ih (by omega)
   · rename_i hx
     simpa using hx
theorem pos_le (l : List Hl) (c : Int) : posR l c ≤ l.length := tw_le _ l
theorem pos_lt (l : List Hl) (c : Int) (i : Nat) (h : i < posR l c) : (l.getD i Hl.z).c < c := by
 have h1 := tw_yes (fun h : Hl => decide (h.c < c)) Hl.z l i h
 exact of_decide_eq_true h1
theorem pos_ge (l : List Hl) (c : Int) (h : posR l c < l.length) : c ≤ (l.getD (posR l c) Hl.z).c := by
 have h1 := tw_no (fun h : Hl => decide (h.c < c)) Hl.z l h
 have h2 : ¬ (l.getD (posR l c) Hl.z).c < c := of_decide_eq_false h1
 omega
theorem pos_eq {l : List Hl} (hs : ascH l) {c : Int} {i : Nat} (hi : i ≤ l.length) (h1 : ∀ k, k < i → (l.getD k Hl.z).c < c) (h2 : ∀ k, i ≤ k → k < l.length → c ≤ (l.getD k Hl.z).c) : i = posR l c := by
 rcases Nat.lt_trichotomy i (posR l c) with h | h | h
 · have := pos_lt l c i h
   have := h2 i (Nat.le_refl _) (Nat.lt_of_lt_of_le h (pos_le l c))
   omega
 · exact h
 · have := h1 _ h
   have := pos_ge l c (by omega)
   omega
attribute [irreducible] posR
def srch (l : List Hl) (c : Int) (i j : Nat) : Prop := i ≤ j ∧ j ≤ l.length ∧ (∀ k, k < i → (l.getD k Hl.z).c < c) ∧ (∀ k, j ≤ k → k < l.length → c ≤ (l.getD k Hl.z).c)
theorem srch_lo {l : List Hl} (hs : ascH l) {c : Int} {i j m : Nat} (h : srch l c i j) (hm : m < j) (hc : (l.getD m Hl.z).c < c) (hi : i ≤ m) : srch l c (m + 1) j := by
 obtain ⟨h1, h2, h3, h4⟩ := h
 refine ⟨by omega, h2, fun k hk => ?_, h4⟩
 by_cases e : k = m
 · subst e; exact hc
 · have := hs k m (by omega) (by omega); omega
theorem srch_hi {l : List Hl} (hs : ascH l) {c : Int} {i j m : Nat} (h : srch l c i j) (hm : m < j) (hc : ¬ (l.getD m Hl.z).c < c) (hi : i ≤ m) : srch l c i m := by
 obtain ⟨h1, h2, h3, h4⟩ := h
 refine ⟨hi, by omega, h3, fun k hk hk2 => ?_⟩
 by_cases e : k = m
 · subst e; omega
 · have := hs m k (by omega) hk2; omega
theorem srch_end {l : List Hl} (hs : ascH l) {c : Int} {i j : Nat} (h : srch l c i j) (he : ¬ i < j) : i = posR l c := by
 obtain ⟨h1, h2, h3, h4⟩ := h
 exact pos_eq hs (by omega) h3 fun k hk => h4 k (by omega)
theorem srch_0 (l : List Hl) (c : Int) : srch l c 0 l.length := ⟨Nat.zero_le _, Nat.le_refl _, fun k hk => by omega, fun k h1 h2 => by omega⟩
theorem srch_b {l : List Hl} {c : Int} {i j : Nat} (h : srch l c i j) : i ≤ j ∧ j ≤ l.length := ⟨h.1, h.2.1⟩
def midV (i j : Nat) : Int := IntKind.i64.wrap ((IntKind.u64.wrap (iarith .add .i64 (i : Int) (j : Int))).fdiv (2 ^ min (Int.toNat 1) IntKind.u64.bits))
theorem mid_e {i j : Nat} (hi : i ≤ 100000) (hj : j ≤ 100000) : midV i j = (((i + j) / 2 : Nat) : Int) := by
 have e1 : IntKind.u64.wrap (iarith .add .i64 (i : Int) (j : Int)) = ((i + j : Nat) : Int) := by (exact T.num)
 unfold midV
 rw [e1, show min (Int.toNat 1) IntKind.u64.bits = 1 from rfl, Int.fdiv_eq_ediv_of_nonneg _ (by decide)]
 rw [IntKind.wrap_i64]
 omega
theorem sub_e {a b : Int} (ha : 0 ≤ a ∧ a ≤ 1048576) (hb : 0 ≤ b ∧ b ≤ 1048576) : iarith .sub .i64 a b = a - b := by (exact T.num)
attribute [local irreducible] srch
theorem bsearch_c (l : List Hl) (c : Int) (hl : l.length ≤ 100000) (hs : ascH l) (hr : rngH l) (hc : 0 ≤ c ∧ c ≤ 1048576) : LSpec Tryd.prog G 44 [hlv l, iAV c, .clo (.func 45) [] []] [] (fun _ => (.tup [iAV (posR l c), .bool (hitR l c)], [])) := by
 have h0 := srch_0 l c
 refine goW [] Tryd.func44 rfl ?_
 conv => whnf
 repeat' ((first | (refine And.intro ?_ ?_; (focus (first | ((try dsimp only); rw [List.length_drop, hls_len]; omega) | exact T.kx | exact T.side))) | (show LCall _ _ _ _ _ _; first | refine LCall.pure (dfind1_c _ _) ?_ | refine goE ?_) | (show ACell _ _ _; first | (refine ACell.recd Hl.cs_len ((i + j) / 2) Hl.z ?_ rfl ?_ ?_; (focus ((try dsimp only); omega)); (focus omega)) | (refine ACell.recd Hl.cs_len i Hl.z ?_ rfl ?_ ?_; (focus ((try dsimp only); omega)); (focus omega))) | refine T.s ?_ | ((first | apply goB | apply ABr.dec | apply ABr.gen) <;> intro h <;> try (exfalso; omega)) | refine LFresh.mk fun r => ?_ | (show SWpL _ _ _ (.loop _) _ _ _; first | (apply goO tyOk [] 3 (S := Nat × Nat) [0, 1, 2, 8] (fun (i, j) => ⟨[(9, .int .i64 i), (10, .int .i64 j)], [], srch l c i j, j - i⟩) ((0, l.length)) (by rfl); (focus ((repeat' first | exact trivial | (refine And.intro ?_ ?_) | exact LSub.nil | (with_reducible exact LSub.refl) | (apply LSub.cons; (repeat first | refine goH ?_ | apply LHas.here | apply LHas.next); refine And.intro ?_ ?_; (focus (try (first | (with_reducible rfl) | (refine congrArg (Pl.mk _) ?_; (first | rfl | (simp; done))) | rfl | (with_reducible refine congrArg (Pl.mk _) ?_))))) | assumption | (exact srch_lo hs (by assumption) (m := (i + j) / 2) (by omega) (by have h9 := sub_e (hr ((i + j) / 2) (by omega)) hc; omega) (by omega)) | (exact srch_hi hs (by assumption) (m := (i + j) / 2) (by omega) (by have h9 := sub_e (hr ((i + j) / 2) (by omega)) hc; omega) (by omega)) | (exact h0) | (first | (focus (apply Eq.trans; (conv => lhs; whnf); (conv => rhs; whnf); done)) | rfl | ((conv => lhs; whnf); first | rfl | (refine congrArg (AV.int _) ?_; (exact T.num)) | (refine congrArg AV.bool ?_; (exact T.num)) | (refine vw_congr ?_; first | (exact T.num) | (first | rfl | (simp; done))) | (refine sl_congr ?_ ?_ <;> first | (exact T.num) | (first | rfl | (simp; done))) | (first | rfl | (simp; done)))) | (exact T.num) | (dsimp only; (exact T.num)) | (first | rfl | (simp; done))); done)); rintro ⟨i, j⟩ hok; (try dsimp only at hok); (obtain ⟨hi1, hj1⟩ := srch_b hok; have hM := mid_e (i := i) (j := j) (by omega) (by omega); have hM2 : iarith .add .i64 (midV i j) 1 = (((i + j) / 2 + 1 : Nat) : Int) := (by rw [hM]; (exact T.num)); unfold midV at hM hM2))) | (show AtL _ _ _ _ _ _ _ _ _ _; first | (apply AtL.mk' (id := 3) (S := Nat × Nat) (((i + j) / 2 + 1, j)); (repeat' first | exact trivial | (refine And.intro ?_ ?_) | exact LSub.nil | (with_reducible exact LSub.refl) | (apply LSub.cons; (repeat first | refine goH ?_ | apply LHas.here | apply LHas.next); refine And.intro ?_ ?_; (focus (try (first | (with_reducible rfl) | (refine congrArg (Pl.mk _) ?_; (first | rfl | (simp; done))) | rfl | (with_reducible refine congrArg (Pl.mk _) ?_))))) | assumption | (exact srch_lo hs (by assumption) (m := (i + j) / 2) (by omega) (by have h9 := sub_e (hr ((i + j) / 2) (by omega)) hc; omega) (by omega)) | (exact srch_hi hs (by assumption) (m := (i + j) / 2) (by omega) (by have h9 := sub_e (hr ((i + j) / 2) (by omega)) hc; omega) (by omega)) | (exact h0) | (first | (focus (apply Eq.trans; (conv => lhs; whnf); (conv => rhs; whnf); done)) | rfl | ((conv => lhs; whnf); first | rfl | (refine congrArg (AV.int _) ?_; (exact T.num)) | (refine congrArg AV.bool ?_; (exact T.num)) | (refine vw_congr ?_; first | (exact T.num) | (first | rfl | (simp; done))) | (refine sl_congr ?_ ?_ <;> first | (exact T.num) | (first | rfl | (simp; done))) | (first | rfl | (simp; done)))) | (exact T.num) | (dsimp only; (exact T.num)) | (first | rfl | (simp; done))); done) | (apply AtL.mk' (id := 3) (S := Nat × Nat) ((i, (i + j) / 2)); (repeat' first | exact trivial | (refine And.intro ?_ ?_) | exact LSub.nil | (with_reducible exact LSub.refl) | (apply LSub.cons; (repeat first | refine goH ?_ | apply LHas.here | apply LHas.next); refine And.intro ?_ ?_; (focus (try (first | (with_reducible rfl) | (refine congrArg (Pl.mk _) ?_; (first | rfl | (simp; done))) | rfl | (with_reducible refine congrArg (Pl.mk _) ?_))))) | assumption | (exact srch_lo hs (by assumption) (m := (i + j) / 2) (by omega) (by have h9 := sub_e (hr ((i + j) / 2) (by omega)) hc; omega) (by omega)) | (exact srch_hi hs (by assumption) (m := (i + j) / 2) (by omega) (by have h9 := sub_e (hr ((i + j) / 2) (by omega)) hc; omega) (by omega)) | (exact h0) | (first | (focus (apply Eq.trans; (conv => lhs; whnf); (conv => rhs; whnf); done)) | rfl | ((conv => lhs; whnf); first | rfl | (refine congrArg (AV.int _) ?_; (exact T.num)) | (refine congrArg AV.bool ?_; (exact T.num)) | (refine vw_congr ?_; first | (exact T.num) | (first | rfl | (simp; done))) | (refine sl_congr ?_ ?_ <;> first | (exact T.num) | (first | rfl | (simp; done))) | (first | rfl | (simp; done)))) | (exact T.num) | (dsimp only; (exact T.num)) | (first | rfl | (simp; done))); done) | (apply AtL.mk' (id := 3) (S := Nat × Nat) (((i + j) / 2 + 1, j)); (repeat' first | exact trivial | (refine And.intro ?_ ?_) | exact LSub.nil | (with_reducible exact LSub.refl) | (apply LSub.cons; (repeat first | refine goH ?_ | apply LHas.here | apply LHas.next); refine And.intro ?_ ?_; (focus (try (first | (with_reducible rfl) | (refine congrArg (Pl.mk _) ?_; (first | rfl | (simp; done))) | rfl | (with_reducible refine congrArg (Pl.mk _) ?_))))) | assumption | (exact srch_lo hs (by assumption) (m := (i + j) / 2) (by omega) (by have h9 := sub_e (hr ((i + j) / 2) (by omega)) hc; omega) (by omega)) | (exact srch_hi hs (by assumption) (m := (i + j) / 2) (by omega) (by have h9 := sub_e (hr ((i + j) / 2) (by omega)) hc; omega) (by omega)) | (exact h0) | (first | (focus (apply Eq.trans; (conv => lhs; whnf); (conv => rhs; whnf); done)) | rfl | ((conv => lhs; whnf); first | rfl | (refine congrArg (AV.int _) ?_; (exact T.num)) | (refine congrArg AV.bool ?_; (exact T.num)) | (refine vw_congr ?_; first | (exact T.num) | (first | rfl | (simp; done))) | (refine sl_congr ?_ ?_ <;> first | (exact T.num) | (first | rfl | (simp; done))) | (first | rfl | (simp; done)))) | (exact T.num) | (dsimp only; (exact T.num)) | (first | rfl | (simp; done)))) | (apply AtL.mk' (id := 3) (S := Nat × Nat) ((i, (i + j) / 2)); (repeat' first | exact trivial | (refine And.intro ?_ ?_) | exact LSub.nil | (with_reducible exact LSub.refl) | (apply LSub.cons; (repeat first | refine goH ?_ | apply LHas.here | apply LHas.next); refine And.intro ?_ ?_; (focus (try (first | (with_reducible rfl) | (refine congrArg (Pl.mk _) ?_; (first | rfl | (simp; done))) | rfl | (with_reducible refine congrArg (Pl.mk _) ?_))))) | assumption | (exact srch_lo hs (by assumption) (m := (i + j) / 2) (by omega) (by have h9 := sub_e (hr ((i + j) / 2) (by omega)) hc; omega) (by omega)) | (exact srch_hi hs (by assumption) (m := (i + j) / 2) (by omega) (by have h9 := sub_e (hr ((i + j) / 2) (by omega)) hc; omega) (by omega)) | (exact h0) | (first | (focus (apply Eq.trans; (conv => lhs; whnf); (conv => rhs; whnf); done)) | rfl | ((conv => lhs; whnf); first | rfl | (refine congrArg (AV.int _) ?_; (exact T.num)) | (refine congrArg AV.bool ?_; (exact T.num)) | (refine vw_congr ?_; first | (exact T.num) | (first | rfl | (simp; done))) | (refine sl_congr ?_ ?_ <;> first | (exact T.num) | (first | rfl | (simp; done))) | (first | rfl | (simp; done)))) | (exact T.num) | (dsimp only; (exact T.num)) | (first | rfl | (simp; done))))) | exact T.z | refine ⟨_, rfl, rfl, ?_⟩ | fail) <;> conv => whnf)
 all_goals (try dsimp only)
 · have he := srch_end hs hok (by omega)
   have h9 := sub_e (hr ((i + j) / 2) (by omega)) hc
   (show RetL _ _ _; refine goR ?_)
   rw [h9]
   have e2 : (i + j) / 2 = posR l c := by omega
   rw [e2, ← he]
   simp only [iAV, hitR, ← he]
   refine congrArg (fun b => AV.tup [_, AV.bool b]) ?_
   rw [Bool.eq_iff_iff]
   simp only [icmp, decide_eq_true_eq, beq_iff_eq]
   omega
 · have he := srch_end hs hok (by omega)
   (show RetL _ _ _; refine goR ?_)
   simp only [iAV, hitR, ← he]
   refine congrArg (fun b => AV.tup [_, AV.bool b]) ?_
   symm
   rw [decide_eq_false_iff_not]
   omega
theorem find_c (l : List Hl) (c : Int) (hl : l.length ≤ 100000) (hs : ascH l) (hr : rngH l) (hc : 0 ≤ c ∧ c ≤ 1048576) : LSpec Tryd.prog G 27 [hlv l, iAV c] [] (fun _ => (.tup [iAV (posR l c), .bool (hitR l c)], [])) := by
 have h := bsearch_c (G := G) l c hl hs hr hc
 refine goW [] Tryd.func27 rfl ?_
 conv => whnf
 repeat' ((first | (show LCall _ _ _ _ _ _; first | refine LCall.pure (LSpec.argN (args := [hlv l, iAV c]) h) ?_ | refine goE ?_) | refine T.s ?_ | ((first | apply goB | apply ABr.dec | apply ABr.gen) <;> intro h <;> try (exfalso; omega)) | refine LFresh.mk fun r => ?_ | exact T.z | fail) <;> conv => whnf)
 all_goals (try dsimp only)
 (show RetL _ _ _; refine goR ?_)
 rfl
end Go.Proofs.YtnmifddidgofaaaDoor
