import Derived.Test.YtdpfcpkedaolfaaDoorPro6
namespace Go.Proofs.YtdpfcpkedaolfaaDoor
open Go.RowKit
set_option linter.all false
/-- What the stream gives for one place. -/
def strB (key nonce : List UInt8) (i : Nat) : UInt8 := (blockL key ((i / 64 : Nat) : Int) nonce).getD (i % 64) 0
theorem xorQ_map (key nonce b : List UInt8) (i : Nat) : xorQ key nonce b i = (List.range i).map fun j => b.getD j 0 ^^^ strB key nonce j := by
  induction i with
  | zero => rw [xorQ_zero]; rfl
  | succ i ih => rw [xorQ_succ, ih, List.range_succ, List.map_append]; rfl
theorem xorL_map (key nonce b : List UInt8) : xorL key nonce b = (List.range b.length).map fun j => b.getD j 0 ^^^ strB key nonce j := by
  unfold xorL
  exact xorQ_map _ _ _ _
theorem xorL_xorL (key nonce b : List UInt8) : xorL key nonce (xorL key nonce b) = b := by
  have hl : (xorL key nonce b).length = b.length := xorL_len _ _ _
  rw [xorL_map key nonce (xorL key nonce b), hl]
  apply List.ext_getElem
  · simp
  · intro i h1 h2
    simp only [List.length_map, List.length_range] at h1
    simp only [List.getElem_map, List.getElem_range]
    rw [xorL_map]
    simp only [List.getD_eq_getElem?_getD]
    rw [List.getElem?_map, List.getElem?_range h1]
    simp only [Option.map_some, Option.getD_some]
    rw [List.getElem?_eq_getElem h2, Option.getD_some, UInt8.xor_assoc, UInt8.xor_self, UInt8.xor_zero]
theorem xorL_take (key nonce a b : List UInt8) : (xorL key nonce (a ++ b)).take a.length = xorL key nonce a := by
  rw [xorL_map, xorL_map, ← List.map_take, List.take_range]
  simp only [List.length_append]
  rw [Nat.min_eq_left (by omega)]
  apply List.map_congr_left
  intro j hj
  have : j < a.length := List.mem_range.1 hj
  simp only [List.getD_eq_getElem?_getD]
  rw [List.getElem?_append_left this]
theorem headL_num (sn : Int) (h0 : 0 ≤ sn) (h1 : sn < 512) (r : List UInt8) : numV (headL sn ++ r) = sn := by
  have h : ∀ m : Nat, m < 512 → 256 * (((headL ((m : Nat) : Int)).getD 0 0).toNat : Int) + ((headL ((m : Nat) : Int)).getD 1 0).toNat - 32768 = (m : Int) := by decide +kernel
  have h2 := h sn.toNat (by omega)
  rw [show ((sn.toNat : Nat) : Int) = sn by omega] at h2
  unfold numV
  have e : ∀ i, i < 2 → (headL sn ++ r).getD i 0 = (headL sn).getD i 0 := fun i hi => by
    simp only [List.getD_eq_getElem?_getD]
    rw [List.getElem?_append_left (by rw [headL_len]; exact hi)]
  rw [e 0 (by omega), e 1 (by omega)]
  exact h2
theorem lowR_pow (b n : Int) (hb : bitsOk b = true) (hn : countOk n = true) : lowR b n < IntKind.i64.wrap (1 * 2 ^ min b.toNat IntKind.i64.bits) := by
  rw [lowR_eq b n hb hn]
  rcases bits_cases hb with rfl | rfl | rfl | rfl | rfl
  · show n % 32 < 32; omega
  · show n % 64 < 64; omega
  · show n % 128 < 128; omega
  · show n % 256 < 256; omega
  · show n % 512 < 512; omega
theorem sealL_len (k : Ky) (b n : Int) (data : List UInt8) (hk : k.ok = true) (hd : dataOk data = true) : (sealL k b n data).length = data.length + 6 := by
  have hd : 1 ≤ data.length ∧ data.length ≤ 2048 := by simpa [dataOk] using hd
  unfold sealL
  rw [List.length_append, headL_len, xorL_len, List.length_append, markH_len _ _ _ _ hk (by rw [nonceL_len, headL_len]; omega)]
  omega
theorem num_seal (k : Ky) (b n : Int) (data : List UInt8) (hk : k.ok = true) (hb : bitsOk b = true) (hn : countOk n = true) (hd : dataOk data = true) : numR b (sealL k b n data) = (lowR b n, 0) := by
  have hl := sealL_len k b n data hk hd
  have hd : 1 ≤ data.length ∧ data.length ≤ 2048 := by simpa [dataOk] using hd
  have h := lowR_lt b n hb hn
  have hv : numV (sealL k b n data) = lowR b n := headL_num _ h.1 h.2 _
  have hp := lowR_pow b n hb hn
  unfold numR
  rw [hv, if_pos hb, if_neg (by omega), if_neg (by omega)]
theorem open_seal (k : Ky) (b n : Int) (data : List UInt8) (hk : k.ok = true) (hb : bitsOk b = true) (hn : countOk n = true) (hd : dataOk data = true) : openR k b n (sealL k b n data) = (data, 0) := by
  have hns := num_seal k b n data hk hb hn hd
  have hl := sealL_len k b n data hk hd
  rw [openR_ok hk (by rw [hb, hn]; rfl) (by rw [hns]) (by rw [hns]), hl]
  have e : (sealL k b n data).drop 2 = xorL k.s (nonceL k n) (data ++ markH k (nonceL k n) (headL (lowR b n)) data) := by
    unfold sealL
    rw [← headL_len (lowR b n), List.drop_left]
  rw [e, xorL_xorL, show data.length + 6 - 6 = data.length by omega, List.drop_left, List.take_left, if_pos rfl]
theorem open_other (k : Ky) (b n m : Int) (data : List UInt8) (hk : k.ok = true) (hb : bitsOk b = true) (hn : countOk n = true) (hm : countOk m = true) (hd : dataOk data = true) (h : ¬ lowR b n = lowR b m) : openR k b m (sealL k b n data) = ([], 6) := by
  have hns := num_seal k b n data hk hb hn hd
  exact openR_sn hk (by rw [hb, hm]; rfl) (by rw [hns]) (by rw [hns]; exact h)
@[simp] theorem filled_len (n seed : Int) : (filled n seed).length = n.toNat := by simp [filled]
/-- What the sanity check makes. -/
def awK : Ky := ⟨filled 32 1, filled 16 2, 0, 0, 0⟩
theorem awK_ok : awK.ok = true := by simp [awK, Ky.ok]
theorem low33 : lowR 5 33 = 1 := by decide +kernel
theorem low34 : lowR 5 34 = 2 := by decide +kernel
theorem head1 : headL 1 = [128, 1] := by decide +kernel
theorem awake_c : LSpec Tryd.prog gl 10 [] [] (fun _ => (.bool true, [])) := by
  have hb : bitsOk 5 = true := by decide +kernel
  have hn : countOk 33 = true := by decide +kernel
  have hm : countOk 34 = true := by decide +kernel
  have hd : dataOk [7, 8] = true := rfl
  have hs := seal_c awK 5 33 [7, 8]
  rw [sealR_ok awK_ok (by rw [hb, hn]; rfl) hd] at hs
  have ho1 := open_c awK 5 33 (sealL awK 5 33 [7, 8])
  rw [open_seal awK 5 33 [7, 8] awK_ok hb hn hd] at ho1
  have ho2 := open_c awK 5 34 (sealL awK 5 33 [7, 8])
  rw [open_other awK 5 33 34 [7, 8] awK_ok hb hn hm hd (by rw [low33, low34]; decide)] at ho2
  have hl := sealL_len awK 5 33 [7, 8] awK_ok hd
  obtain ⟨r, hr⟩ : ∃ r, sealL awK 5 33 [7, 8] = 128 :: 1 :: r := ⟨xorL awK.s (nonceL awK 33) ([7, 8] ++ markH awK (nonceL awK 33) (headL (lowR 5 33)) [7, 8]), by
    unfold sealL; rw [low33, head1]; rfl⟩
  rw [hr] at hs ho1 ho2 hl
  refine LSpec.introL tyOk Tryd.func10 rfl (by kernel_rfl) (by simp) (fun q => ⟨by simp, by simp⟩) ?_
  refine AWpL.sound tyOk _ _ _ _ ?_
  conv => whnf
  repeat' first
    | (show LEra _ _ _; conv => whnf)
    | (show List.map bAV _ = _; exact rfl)
    | (show LHas _ _ _; ((try show LHas _ _ _); repeat (with_reducible show LHas _ _ _); first | apply LHas.here | apply LHas.next); conv => whnf)
    | (refine And.intro ?_ ?_; (focus (first | exact T.side)); conv => whnf)
    | (show LCall _ _ _ _ _ _; first | (refine LCall.pure (filled_c _ _ (by decide)) ?_; conv => whnf) | (refine LCall.mk' (hs) [_] ⟨LF.eq rfl, LF.eq rfl, LF.eq rfl, LF.row InL.here ?_, trivial⟩ ?_) | (refine LCall.pure (ho1) ?_; conv => whnf) | (refine LCall.pure (ho2) ?_; conv => whnf) | (apply LCall.eq; (focus (repeat first | (apply cons_congr; (focus (first | exact sl_bv rfl | exact sl_bv (by first | (simp; done) | (simp; (exact T.num))) | exact rfl))) | exact rfl)); first | (refine LCall.pure (filled_c _ _ (by decide)) ?_; conv => whnf) | (refine LCall.mk' (hs) [_] ⟨LF.eq rfl, LF.eq rfl, LF.eq rfl, LF.row InL.here ?_, trivial⟩ ?_) | (refine LCall.pure (ho1) ?_; conv => whnf) | (refine LCall.pure (ho2) ?_; conv => whnf)))
    | (show ABr _ _ _; first | (refine ABr.tt ?_; conv => whnf) | (refine ABr.ff ?_; conv => whnf) | (refine ABr.byN ?_) | ((with_reducible refine ABr.eqlT (by assumption) ?_); conv => whnf) | ((with_reducible refine ABr.eqlF (by assumption) ?_); conv => whnf) | ((with_reducible refine ABr.eql (fun h => ?_) (fun h => ?_)) <;> first | (exfalso; omega) | conv => whnf) | (refine ABr.byT (by with_reducible assumption) ?_; conv => whnf) | (refine ABr.byF (by with_reducible assumption) ?_; conv => whnf) | ((with_reducible refine ABr.decT rfl ?_); conv => whnf) | ((with_reducible refine ABr.decT (by assumption) ?_); conv => whnf) | ((with_reducible refine ABr.decF (by assumption) ?_); conv => whnf) | (refine ABr.dec (fun h => ?_) (fun h => ?_) <;> first | (exfalso; omega) | conv => whnf) | (refine ABr.gen (fun h => ?_) (fun h => ?_) <;> conv => whnf))
    | (show ACell _ _ _; first | (refine ACell.cell 0 ?_ ?_; (focus (first | exact T.side)); conv => whnf) | (refine ACell.mk ?_; conv => whnf))
    | (show AList _ _; first | (refine AList.app ?_ ?_; (focus (first | exact T.side)); conv => whnf) | (refine AList.set (x := b8 _) (bAV_b8 _).symm ?_ ?_; (focus (first | exact T.side)); conv => whnf) | (refine AList.set (f := iAV) rfl ?_ ?_; (focus (first | exact T.side)); conv => whnf) | (refine AList.part ?_; conv => whnf) | (refine AList.force ?_; (conv => whnf); refine Lit.mk ?_; conv => whnf) | (refine AList.full ?_ ?_; (focus (first | exact Nat.le_of_ble_eq_true rfl | (simp; done) | (simp; omega))); conv => whnf) | (refine AList.mk ?_; conv => whnf))
    | (refine LFresh.mk fun r => ?_; conv => whnf)
    | (show KeepL _ _ _; first | (refine KeepL.cons ?_; ((try show LHas _ _ _); repeat (with_reducible show LHas _ _ _); first | apply LHas.here | apply LHas.next); ((try show LHas _ _ _); repeat (with_reducible show LHas _ _ _); first | apply LHas.here | apply LHas.next); refine And.intro rfl ?_) | exact KeepL.nil)
    | (show InL _ _; first | exact InL.here | refine InL.next ?_)
    | (show False; (exact T.num))
  all_goals (try dsimp only)
  · (refine RetL.val ?_ ?_; rotate_left; (focus ((repeat' first | exact LSub.nil | (with_reducible exact LSub.refl) | (apply LSub.cons; ((try show LHas _ _ _); repeat (with_reducible show LHas _ _ _); first | apply LHas.here | apply LHas.next); refine And.intro ?_ ?_; (focus (try (first | (with_reducible rfl) | (refine congrArg (Pl.mk _) ?_; (first | rfl | (simp; done))) | rfl | (with_reducible refine congrArg (Pl.mk _) ?_)))))))))
    rfl
  · exfalso
    simp at h hl
    omega
end Go.Proofs.YtdpfcpkedaolfaaDoor
