/-
  Contracts of the functions that the laws reach.
-/
import Derived.Test.YtbagbjacmakfhaaGreatDoorCq01
import Derived.Test.YtbagbjacmakfhaaGreatDoorCq02
import Derived.Test.YtbagbjacmakfhaaGreatDoorCq03
import Derived.Test.YtbagbjacmakfhaaGreatDoorCq04
import Derived.Test.YtbagbjacmakfhaaGreatDoorCq05
import Derived.Test.YtbagbjacmakfhaaGreatDoorCq06
import Derived.Test.YtbagbjacmakfhaaGreatDoorCq07
import Derived.Test.YtbagbjacmakfhaaGreatDoorCq08
set_option maxHeartbeats 4000000
set_option linter.all false
namespace Go.Proofs.YtbagbjacmakfhaaGreatDoor
open Go.RowKit
variable {G : Nat → AV}
structure Seg (ws vs : List Int) (bs : List UInt8) : Prop where
 len : ws.length = vs.length
 fit : ∀ i, i < ws.length → (0 ≤ ws.getD i 0 ∧ ws.getD i 0 ≤ 32) ∧ 0 ≤ vs.getD i 0 ∧ vs.getD i 0 < 2 ^ (ws.getD i 0).toNat
 sum : zn ws = 8 * bs.length
 eq : ∀ rest, qq (xA ws vs ++ rest) = bs ++ qq rest
theorem Seg.nil : Seg [] [] [] := ⟨rfl, fun i hi => by simp at hi, rfl, fun _ => rfl⟩
theorem Seg.app {ws vs ws' vs' : List Int} {bs bs' : List UInt8} (h : Seg ws vs bs) (k : Seg ws' vs' bs') : Seg (ws ++ ws') (vs ++ vs') (bs ++ bs') := by
 refine ⟨by simp [h.len, k.len], fun i hi => ?_, by have := h.sum; have := k.sum; simp [zn] at *; omega, fun rest => ?_⟩
 · by_cases hc : i < ws.length
   · have := h.fit i hc
     simp only [List.getD_eq_getElem?_getD, List.getElem?_append_left hc, List.getElem?_append_left (show i < vs.length by rw [← h.len]; exact hc)] at *
     exact this
   · have := k.fit (i - ws.length) (by simp at hi; omega)
     simp only [List.getD_eq_getElem?_getD] at *
     rw [List.getElem?_append_right (by omega), List.getElem?_append_right (by rw [← h.len]; omega), ← h.len]
     exact this
 · rw [yo _ _ _ _ h.len, List.append_assoc, h.eq, k.eq, List.append_assoc]
theorem k9 (v : Int) (h : 0 ≤ v ∧ v < 256) : Seg [8] [v] [b8 v] := by
 refine ⟨rfl, fun i hi => ?_, rfl, fun rest => ?_⟩
 · obtain rfl : i = 0 := by simpa using hi
   exact ⟨by decide, h⟩
 · show qq ((qv 8 v ++ []) ++ rest) = _
   rw [List.append_nil, bytes8 v h.1]; rfl
theorem kZ (v : Int) (h : 0 ≤ v ∧ v < 65536) : Seg [16] [v] (qx v 2) := by
 refine ⟨rfl, fun i hi => ?_, rfl, fun rest => ?_⟩
 · obtain rfl : i = 0 := by simpa using hi
   exact ⟨by decide, h⟩
 · show qq ((qv 16 v ++ []) ++ rest) = _
   rw [List.append_nil, bytes16 v h.1]
theorem seg32 (v : Int) (h : 0 ≤ v ∧ v < 4294967296) : Seg [32] [v] (qx v 4) := by
 refine ⟨rfl, fun i hi => ?_, rfl, fun rest => ?_⟩
 · obtain rfl : i = 0 := by simpa using hi
   exact ⟨by decide, h⟩
 · show qq ((qv 32 v ++ []) ++ rest) = _
   rw [List.append_nil, bytes32 v h.1]
theorem seg53 (a b : Int) (ha : 0 ≤ a ∧ a < 32) (hb : 0 ≤ b ∧ b < 8) : Seg [5, 3] [a, b] [b8 (8 * a + b)] := by
 refine ⟨rfl, fun i hi => ?_, rfl, fun rest => ?_⟩
 · have hi : i < 2 := by simpa using hi
   rcases i with _ | _ | i
   · exact ⟨by decide, ha⟩
   · exact ⟨by decide, hb⟩
   · omega
 · show qq ((qv 5 a ++ (qv 3 b ++ [])) ++ rest) = _
   rw [List.append_nil, zV _ _ (by simp), byte53 a b ha hb]; rfl
theorem seg35 (a b : Int) (ha : 0 ≤ a ∧ a < 8) (hb : 0 ≤ b ∧ b < 32) : Seg [3, 5] [a, b] [b8 (32 * a + b)] := by
 refine ⟨rfl, fun i hi => ?_, rfl, fun rest => ?_⟩
 · have hi : i < 2 := by simpa using hi
   rcases i with _ | _ | i
   · exact ⟨by decide, ha⟩
   · exact ⟨by decide, hb⟩
   · omega
 · show qq ((qv 3 a ++ (qv 5 b ++ [])) ++ rest) = _
   rw [List.append_nil, zV _ _ (by simp), byte35 a b ha hb]; rfl
theorem segF (a b c d : Int) (ha : a = 0 ∨ a = 1) (hb : b = 0 ∨ b = 1) (hc : c = 0 ∨ c = 1) (hd : d = 0 ∨ d = 1) : Seg [1, 1, 1, 1, 4] [a, b, c, d, 0] [b8 (128 * a + 64 * b + 32 * c + 16 * d)] := by
 refine ⟨rfl, fun i hi => ?_, rfl, fun rest => ?_⟩
 · have hi : i < 5 := by simpa using hi
   rcases i with _ | _ | _ | _ | _ | i
   · exact ⟨by decide, by show 0 ≤ a ∧ a < 2; omega⟩
   · exact ⟨by decide, by show 0 ≤ b ∧ b < 2; omega⟩
   · exact ⟨by decide, by show 0 ≤ c ∧ c < 2; omega⟩
   · exact ⟨by decide, by show 0 ≤ d ∧ d < 2; omega⟩
   · exact ⟨by decide, by show (0 : Int) ≤ 0 ∧ (0 : Int) < 2 ^ 4; decide⟩
   · omega
 · show qq ((qv 1 a ++ (qv 1 b ++ (qv 1 c ++ (qv 1 d ++ (qv 4 0 ++ []))))) ++ rest) = _
   rw [List.append_nil, zV _ _ (by simp), byteF a b c d ha hb hc hd]; rfl
theorem seg_if {p : Prop} [Decidable p] {ws vs ws' vs' : List Int} {bs bs' : List UInt8} (h : p → Seg ws vs bs) (k : ¬ p → Seg ws' vs' bs') : Seg (if p then ws else ws') (if p then vs else vs') (if p then bs else bs') := by
 by_cases hp : p
 · simp only [if_pos hp]; exact h hp
 · simp only [if_neg hp]; exact k hp
theorem or224 (c : Int) (h : 0 ≤ c ∧ c < 16) : qu .or .i64 224 c = 224 + c := by
 have key : ∀ m : Nat, m < 16 → qu .or .i64 224 (m : Int) = 224 + (m : Int) := by decide +kernel
 have := key c.toNat (by omega)
 rwa [show ((c.toNat : Nat) : Int) = c by omega] at this
theorem or4 (c : Int) (h : c = 0 ∨ c = 1) : qu .or .i64 4 c = 4 + c := by rcases h with rfl | rfl <;> decide +kernel
theorem or192 (c : Int) (h : c = 0 ∨ c = 1) : qu .or .i64 192 c = 192 + c := by rcases h with rfl | rfl <;> decide +kernel
def jZ (h : Hd) (d : Dy) : List UInt8 := [b8 h.tos] ++ ([b8 h.ttl] ++ ([b8 (128 * h.fx + 64 * wh h.ck + 32 * d.fo + 16 * h.mr)] ++ (if h.k = 2 then [b8 h.ty] ++ (qx h.sq 2 ++ (qx h.id 2 ++ (qx h.tm 4 ++ qx d.st 2))) else qx h.id 2)))
def xJ (h : Hd) : List UInt8 := [b8 h.k] ++ (qx h.fr 4 ++ (qx h.to 4 ++ (qx h.fp 2 ++ (qx h.tp 2 ++ (if h.k = 2 then qx h.sr 4 else [])))))
theorem vM (n m : Int) : inR n m = true ↔ 0 ≤ n ∧ n ≤ m := by simp [inR]
theorem Hd.of (h : Hd) (k : h.ok = true) : (h.k = 1 ∨ h.k = 2) ∧ (0 ≤ h.tos ∧ h.tos ≤ 255) ∧ (0 ≤ h.ttl ∧ h.ttl ≤ 255) ∧ (0 ≤ h.id ∧ h.id ≤ 65535) ∧ (0 ≤ h.fp ∧ h.fp ≤ 65535) ∧ (0 ≤ h.tp ∧ h.tp ≤ 65535) ∧ (0 ≤ h.ck ∧ h.ck ≤ 65535) ∧ (0 ≤ h.fx ∧ h.fx ≤ 1) ∧ (0 ≤ h.fr ∧ h.fr ≤ 4294967295) ∧ (0 ≤ h.to ∧ h.to ≤ 4294967295) ∧
   (0 ≤ h.mr ∧ h.mr ≤ 1) ∧ (0 ≤ h.ty ∧ h.ty ≤ 127) ∧ (0 ≤ h.sq ∧ h.sq ≤ 65535) ∧ (0 ≤ h.tm ∧ h.tm ≤ 4294967295) ∧ (0 ≤ h.sr ∧ h.sr ≤ 4294967295) := by
 unfold Hd.ok at k
 split at k
 · rename_i h1
   simp only [comR, udpR, Bool.and_eq_true, vM, decide_eq_true_eq] at k
   omega
 · split at k
   · rename_i h1
     simp only [comR, rtpR, Bool.and_eq_true, vM] at k
     omega
   · cases k
theorem Dy.of (d : Dy) (k : d.ok = true) : (0 ≤ d.st ∧ d.st ≤ 65535) ∧ (d.fo = 0 ∨ d.fo = 1) := by
 simp only [Dy.ok, Bool.and_eq_true, vM, decide_eq_true_eq] at k
 exact k
theorem some01 (c : Int) (h : 0 ≤ c) : wh c = 0 ∨ wh c = 1 := by unfold wh; split <;> omega
theorem seg_dyn (h : Hd) (d : Dy) (hk : h.ok = true) (dk : d.ok = true) : Seg (dyW h) (dyV h d) (jZ h d) := by
 have a := h.of hk
 have b := d.of dk
 have c := some01 h.ck (by omega)
 unfold dyW dyV jZ
 refine Seg.app (ws := [8]) (vs := [h.tos]) (k9 _ (by omega)) ?_
 refine Seg.app (ws := [8]) (vs := [h.ttl]) (k9 _ (by omega)) ?_
 refine Seg.app (ws := [1, 1, 1, 1, 4]) (vs := [h.fx, wh h.ck, d.fo, h.mr, 0]) (segF _ _ _ _ (by omega) c b.2 (by omega)) ?_
 refine seg_if (fun _ => ?_) fun _ => kZ _ (by omega)
 exact Seg.app (ws := [8]) (vs := [h.ty]) (k9 _ (by omega)) (Seg.app (ws := [16]) (vs := [h.sq]) (kZ _ (by omega)) (Seg.app (ws := [16]) (vs := [h.id]) (kZ _ (by omega)) (Seg.app (ws := [32]) (vs := [h.tm]) (seg32 _ (by omega)) (kZ _ (by omega)))))
theorem seg_stat (h : Hd) (hk : h.ok = true) : Seg (stW h) (stV h) (xJ h) := by
 have a := h.of hk
 unfold stW stV xJ
 refine Seg.app (ws := [8]) (vs := [h.k]) (k9 _ (by omega)) (Seg.app (ws := [32]) (vs := [h.fr]) (seg32 _ (by omega)) (Seg.app (ws := [32]) (vs := [h.to]) (seg32 _ (by omega)) (Seg.app (ws := [16]) (vs := [h.fp]) (kZ _ (by omega)) (Seg.app (ws := [16]) (vs := [h.tp]) (kZ _ (by omega)) ?_))))
 exact seg_if (fun _ => seg32 _ (by omega)) fun _ => Seg.nil
def qG (s : Sm) : List UInt8 :=
 if s.f = 1 then [b8 (8 * s.n + s.ck)] else if s.f = 2 then [b8 (32 * (4 + s.mr) + s.n)] ++ ((if s.h.k = 2 then qx s.tm 2 else []) ++ [b8 s.ck])
 else if s.f = 3 then (if s.h.k = 2 then [b8 (192 + s.mr)] ++ [b8 s.n] else [b8 (192 + s.mr)] ++ qx s.n 2) ++ ((if s.h.k = 2 then qx s.tm 4 ++ qx s.id 2 else []) ++ [b8 s.ck])
 else if s.f = 4 then [b8 208] ++ (jZ s.h s.d ++ [b8 s.ck]) else if s.f = 5 then [b8 209] ++ (xJ s.h ++ (jZ s.h s.d ++ [b8 s.ck])) else [b8 210]
def xh (s : Sm) : List UInt8 := if 0 < s.cx then [b8 (224 + s.cx)] else []
def hdL (s : Sm) : List UInt8 := xh s ++ (qG s ++ (if jp s = 0 then [] else qx (jp s) 2))
theorem Sm.of (s : Sm) (h : s.ok = true) : (0 ≤ s.cx ∧ s.cx < 16 ∧ s.pl.length ≤ 1500) ∧ qO (cbR s.f) s.ck = true ∧
   ((s.f = 1 ∨ s.f = 2 ∨ s.f = 3) ∧ zq s = true ∧ (s.h.k = 1 ∨ s.h.k = 2) ∧ hzR s.h s.h.k = true ∧ dzR s.d = true ∨
     (s.f = 4 ∨ s.f = 5) ∧ jy s = true ∧ xF s = true ∨
     s.f = 6 ∧ jy s = true ∧ (s.cx = 0 ∧ s.ck = 0) ∧ hzR s.h 0 = true ∧ dzR s.d = true) := by
 unfold Sm.ok kV at h
 simp only [Bool.and_eq_true, decide_eq_true_eq] at h
 obtain ⟨⟨h1, h2⟩, h3⟩ := h
 refine ⟨h1, h2, ?_⟩
 split at h3
 · rename_i hf
   simp only [Bool.and_eq_true, decide_eq_true_eq] at h3
   exact .inl ⟨hf, h3.1, h3.2.1, h3.2.2.1, h3.2.2.2⟩
 · split at h3
   · rename_i hf
     simp only [Bool.and_eq_true] at h3
     exact .inr (.inl ⟨hf, h3.1, h3.2⟩)
   · split at h3
     · rename_i hf
       simp only [Bool.and_eq_true, decide_eq_true_eq] at h3
       exact .inr (.inr ⟨hf, h3.1, h3.2.1, h3.2.2.1, h3.2.2.2⟩)
     · cases h3
theorem fit_iff (n : Nat) (v : Int) : qO (n : Int) v = true ↔ 0 ≤ v ∧ v < 2 ^ n := by
 unfold qO
 rw [Int.toNat_natCast]
 simp
theorem seg_body (s : Sm) (h : s.ok = true) : Seg (zC s) (zD s) (qG s) := by
 obtain ⟨-, hck, hc⟩ := s.of h
 have g := fun n v => (fit_iff n v).1
 rcases hc with ⟨hf, hl, hk, -, -⟩ | ⟨hf, hn, hw⟩ | ⟨hf, -, -⟩
 · simp only [zq, Bool.and_eq_true] at hl
   obtain ⟨l0, l1, l2, l3, l4⟩ := hl
   rcases hf with hf | hf | hf
   · rw [hf] at l0 hck
     have a := g 4 _ l0
     have b := g 3 _ hck
     simp only [zC, zD, qG, if_pos hf]
     exact seg53 _ _ (by omega) (by omega)
   · rw [hf] at l0 l1 l2 hck
     have b := g 7 _ hck
     have h1 : ¬ s.f = 1 := by omega
     simp only [zC, zD, qG, if_neg h1, if_pos hf]
     rcases hk with hk | hk
     · rw [hk] at l0 l1 l2
       have a := g 5 _ l0
       have c := g 0 _ l2
       have hk2 : ¬ s.h.k = 2 := by omega
       simp only [if_neg hk2, or4 s.mr (by omega)]
       exact (seg35 _ _ (by omega) (by omega)).app (Seg.nil.app (k9 _ (by omega)))
     · rw [hk] at l0 l1 l2
       have a := g 5 _ l0
       have c := g 1 _ l2
       have d := g 16 _ l1
       simp only [if_pos hk, or4 s.mr (by omega)]
       exact (seg35 _ _ (by omega) (by omega)).app ((kZ _ (by omega)).app (k9 _ (by omega)))
   · rw [hf] at l0 l1 l2 l3 hck
     have b := g 8 _ hck
     have h1 : ¬ s.f = 1 := by omega
     have h2 : ¬ s.f = 2 := by omega
     simp only [zC, zD, qG, if_neg h1, if_neg h2, if_pos hf]
     rcases hk with hk | hk
     · rw [hk] at l0 l1 l2 l3
       have a := g 16 _ l0
       have c := g 0 _ l2
       have hk2 : ¬ s.h.k = 2 := by omega
       simp only [if_neg hk2, or192 s.mr (by omega), show wid 3 s.h.k 0 = 16 by rw [hk]; rfl]
       exact Seg.app (ws := [8, 16]) (vs := [192 + s.mr, s.n]) (Seg.app (ws := [8]) (vs := [192 + s.mr]) (k9 _ (by omega)) (kZ _ (by omega))) (Seg.nil.app (k9 _ (by omega)))
     · rw [hk] at l0 l1 l2 l3
       have a := g 8 _ l0
       have c := g 1 _ l2
       have d := g 32 _ l1
       have e := g 16 _ l3
       simp only [if_pos hk, or192 s.mr (by omega), show wid 3 s.h.k 0 = 8 by rw [hk]; rfl]
       exact Seg.app (ws := [8, 8]) (vs := [192 + s.mr, s.n]) (Seg.app (ws := [8]) (vs := [192 + s.mr]) (k9 _ (by omega)) (k9 _ (by omega))) (Seg.app (ws := [32, 16]) (vs := [s.tm, s.id]) (Seg.app (ws := [32]) (vs := [s.tm]) (seg32 _ (by omega)) (kZ _ (by omega))) (k9 _ (by omega)))
 · have b : 0 ≤ s.ck ∧ s.ck < 256 := by
     rcases hf with hf | hf <;> (rw [hf] at hck; exact g 8 _ hck)
   simp only [xF, Bool.and_eq_true] at hw
   rcases hf with hf | hf
   · simp only [zC, zD, qG, if_neg (show ¬ s.f = 1 by omega), if_neg (show ¬ s.f = 2 by omega), if_neg (show ¬ s.f = 3 by omega), if_pos hf]
     exact (k9 208 (by decide)).app ((seg_dyn _ _ hw.1 hw.2.1).app (k9 _ b))
   · simp only [zC, zD, qG, if_neg (show ¬ s.f = 1 by omega), if_neg (show ¬ s.f = 2 by omega), if_neg (show ¬ s.f = 3 by omega), if_neg (show ¬ s.f = 4 by omega), if_pos hf]
     exact (k9 209 (by decide)).app ((seg_stat _ hw.1).app ((seg_dyn _ _ hw.1 hw.2.1).app (k9 _ b)))
 · simp only [zC, zD, qG, if_neg (show ¬ s.f = 1 by omega), if_neg (show ¬ s.f = 2 by omega), if_neg (show ¬ s.f = 3 by omega), if_neg (show ¬ s.f = 4 by omega), if_neg (show ¬ s.f = 5 by omega)]
   exact k9 210 (by decide)
open Go.RowKit
variable {G : Nat → AV}
theorem sum_eq (s : Sm) : jp s = if s.f = 4 ∨ s.f = 5 then s.h.ck else s.ud := by unfold jp; rfl
theorem sum_rng (s : Sm) (h : s.ok = true) : 0 ≤ jp s ∧ jp s < 65536 := by
 obtain ⟨-, -, hc⟩ := s.of h
 rw [sum_eq]
 rcases hc with ⟨hf, hl, -⟩ | ⟨hf, hn, hw⟩ | ⟨hf, hn, -⟩
 · rw [if_neg (by omega)]
   simp only [zq, Bool.and_eq_true] at hl
   exact (fit_iff 16 _).1 hl.2.2.2.2
 · rw [if_pos hf]
   simp only [xF, Bool.and_eq_true] at hw
   have := s.h.of hw.1
   omega
 · rw [if_neg (by omega)]
   simp only [jy, decide_eq_true_eq] at hn
   omega
theorem seg_pre (s : Sm) (h : s.ok = true) : Seg (ki s) (kj s) (xh s) := by
 obtain ⟨h1, -⟩ := s.of h
 unfold ki kj xh
 refine seg_if (fun hp => ?_) fun _ => Seg.nil
 rw [or224 _ (by omega)]
 exact k9 _ (by omega)
theorem seg_enc (s : Sm) (h : s.ok = true) : Seg (wb s) (encV s) (hdL s) := by
 have hs := sum_rng s h
 exact (seg_pre s h).app ((seg_body s h).app (seg_if (fun _ => Seg.nil) fun _ => kZ _ hs))
theorem head_eq (s : Sm) (h : s.ok = true) : headB s = hdL s := by
 have := (seg_enc s h).eq []
 rw [List.append_nil, bytesB_nil, List.append_nil] at this
 unfold headB
 exact this
theorem dy_len (h : Hd) (d : Dy) : (dyW h).length ≤ 12 ∧ (dyV h d).length ≤ 12 ∧ (stW h).length ≤ 6 ∧ (stV h).length ≤ 6 := by
 unfold dyW dyV stW stV
 by_cases hk : h.k = 2 <;> simp [hk]
theorem body_len (s : Sm) : (0 < (zC s).length ∧ (zC s).length ≤ 30) ∧ 0 < (zD s).length ∧ (zD s).length ≤ 30 := by
 have hd := dy_len s.h s.d
 unfold zC zD
 by_cases hk : s.h.k = 2 <;> (repeat' split) <;> simp [hk] <;> omega
theorem pre_len (s : Sm) : (ki s).length ≤ 1 ∧ (kj s).length ≤ 1 := by
 unfold ki kj
 split <;> simp
theorem enc_len (s : Sm) : (wb s).length ≤ 40 := by
 have := body_len s
 have := pre_len s
 unfold wb
 simp only [List.length_append]
 split <;> simp <;> omega
theorem hd_len (s : Sm) (h : s.ok = true) : 0 < (hdL s).length ∧ (hdL s).length ≤ 1000 := by
 have hs := seg_enc s h
 have hb := (seg_body s h).sum
 have hw := body_len s
 have h1 := sumW_le (wb s) (fun i hi => (hs.fit i hi).1) (wb s).length (by omega)
 rw [List.take_of_length_le (by omega), hs.sum] at h1
 have := enc_len s
 refine ⟨?_, by omega⟩
 have : 0 < (qG s).length := by
   unfold qG
   (repeat' split) <;> simp
 simp [hdL]
 omega
def zd (s : Sm) : List UInt8 × Int := if s.ok then (hdL s ++ s.pl, 0) else ([], 1)
theorem zH (s : Sm) : LP Tryz.prog G 45 [s.av] [] (fun _ => (be (zd s), [])) := by
 have e : encP s = zd s := by
   unfold encP zd
   split
   · rename_i h; rw [head_eq s h]
   · rfl
 rw [← e]
 have hd := dy_len s.h s.d
 have hb := body_len s
 have hp := pre_len s
 refine enc_c s (fun h => ?_) (fun h => ?_) (fun h => (s.of h).1.2.2) (fun h => ?_) (by omega) (sum_eq s) (by simp only [List.length_append]; omega) (fun h => ?_) (fun h => ?_)
 · have hs := seg_enc s h
   have hl := hd_len s h
   have := pack_c (G := G) (wb s) (encV s) hs.len (by have := enc_len s; omega) (by rw [hs.sum]; omega) (by rw [hs.sum]; omega) hs.fit
   rw [hs.sum, show 8 * (hdL s).length / 8 = (hdL s).length by omega, ← head_eq s h, show qq (xA (wb s) (encV s)) = headB s by unfold headB; rfl] at this
   exact this
 · rw [head_eq s h]; exact hd_len s h
 · obtain ⟨-, -, hc⟩ := s.of h
   rcases hc with ⟨hf, -⟩ | ⟨hf, -⟩ | ⟨hf, -⟩ <;> omega
 · simp [wb, encV, h]
 · simp [wb, encV, h]
open Go.RowKit
variable {G : Nat → AV}
@[simp] theorem putB_ln (n : Int) (k : Nat) : (qx n k).length = k := by
 induction k with
 | zero => simp [qx]
 | succ k ih => simp [qx, ih]
theorem CutL.adopt {P : Program} {N : Nat} {e : Env} {l : LS} (x sz : Nat) (t : TypeId) {c d : Code} {Q : Exit → Env → LS → Prop} (hx : e x = .nils) (h : ∀ q, CutL P G N c d Q (put e x (.vw q 0 0 sz)) ((q, ⟨t, []⟩) :: l)) : CutL P G N c d Q e l := ⟨SQ.adopt x sz t hx fun q => (h q).run⟩
theorem put2_c (l : List UInt8) (n : Int) (hl : l.length ≤ 1000) (p : Nm) : LP Tryz.prog G 112 [.vw p 0 l.length 1, iAV 2, iAV n] [(p, ⟨5, l.map bAV⟩)] (fun q => (.vw q 0 (l.length + 2) 1, [(q, ⟨5, (l ++ qx n 2).map bAV⟩)])) := by
 refine goW [] Tryz.func112 rfl ?_
 conv => whnf
 repeat' ((first | refine T.s ?_ | ((first | apply goB | apply AB.dec | apply AB.gen) <;> intro h <;> try (exfalso; omega)) | refine LQ.mk fun r => ?_ | (show SQ _ _ _ _ _ _ _; first | refine SQ.times 2 3 (by rfl) ?_ | refine AtL.step tQ [] ?_) | exact T.z | refine ⟨_, rfl, rfl, ?_⟩ | fail) <;> conv => whnf)
 all_goals (try dsimp only)
 refine RL.own r rfl ?_ ?_
 · (repeat first | refine goH ?_ | apply LH.here | apply LH.next); trivial
 · apply LB.cons
   (repeat first | refine goH ?_ | apply LH.here | apply LH.next)
   refine And.intro (congrArg (Pl.mk _) ?_) LB.nil
   simp only [qx, List.map_append, List.map_cons, List.map_nil, qR, List.append_assoc, List.cons_append, List.nil_append]
   rfl
theorem put1r_c (l : List UInt8) (n : Int) (hl : l.length ≤ 1000) (p : Nm) : LP Tryz.prog G 112 [.vw p 0 l.length 1, iAV 1, iAV n] [(p, ⟨5, l.map bAV⟩)] (fun q => (.vw q 0 (l.length + 1) 1, [(q, ⟨5, (l ++ qx n 1).map bAV⟩)])) := by
 refine goW [] Tryz.func112 rfl ?_
 conv => whnf
 repeat' ((first | refine T.s ?_ | ((first | apply goB | apply AB.dec | apply AB.gen) <;> intro h <;> try (exfalso; omega)) | refine LQ.mk fun r => ?_ | (show SQ _ _ _ _ _ _ _; first | refine SQ.times 2 2 (by rfl) ?_ | refine AtL.step tQ [] ?_) | exact T.z | refine ⟨_, rfl, rfl, ?_⟩ | fail) <;> conv => whnf)
 all_goals (try dsimp only)
 refine RL.own r rfl ?_ ?_
 · (repeat first | refine goH ?_ | apply LH.here | apply LH.next); trivial
 · apply LB.cons
   (repeat first | refine goH ?_ | apply LH.here | apply LH.next)
   refine And.intro (congrArg (Pl.mk _) ?_) LB.nil
   simp only [qx, List.map_append, List.map_cons, List.map_nil, qR, List.append_assoc, List.cons_append, List.nil_append]
   rfl
theorem LC.putk {k : Int} (kn : Nat) {q : Nm} {n : Nat} {x : Int} {l : LS} {K : AV → LS → Prop} (hs : ∀ (bs : List UInt8) (p : Nm), bs.length ≤ 1000 → LP Tryz.prog G 112 [.vw p 0 bs.length 1, .int .i64 k, .int .i64 x] [(p, ⟨5, bs.map bAV⟩)] (fun q => (.vw q 0 (bs.length + kn) 1, [(q, ⟨5, (bs ++ qx x kn).map bAV⟩)])))
   (h : LH l q fun c _ r => ∃ bs : List UInt8, c = ⟨5, bs.map bAV⟩ ∧ n = bs.length ∧ bs.length ≤ 1000 ∧ LQ fun q' => K (.vw q' 0 (bs.length + kn) 1) ((q', ⟨5, (bs ++ qx x kn).map bAV⟩) :: r)) : LC Tryz.prog G 112 [.vw q 0 n 1, .int .i64 k, .int .i64 x] l K := by
 obtain ⟨l1, c, l2, rfl, bs, rfl, rfl, h1, h2⟩ := h.ex
 refine LC.mk' (hs bs q h1) [] (LFs.refl _) ?_
 exact ⟨l1, _, l2, rfl, rfl, h2⟩
theorem AQ.appB {bs : List UInt8} {m : Nat} {x : Int} {K : List AV → Prop} (h : bs.length ≤ m) (k : K ((bs ++ [b8 x]).map bAV)) : AQ (List.take m (List.drop 0 (bs.map bAV)) ++ [.int .u8 (IntKind.u8.wrap x)]) K := AQ.app h (by rw [← qR]; simpa using k)
theorem AQ.appM {bs cs : List UInt8} {m : Nat} {xs : List AV} {K : List AV → Prop} (h : bs.length ≤ m) (hx : xs = cs.map bAV) (k : K ((bs ++ cs).map bAV)) : AQ (List.take m (List.drop 0 (bs.map bAV)) ++ xs) K := AQ.app h (by rw [hx]; simpa using k)
theorem b8_1 (a b : Int) : b8 (q7 .add .i64 (q7 .mul .i64 8 a) b) = b8 (8 * a + b) := by
 unfold b8
 simp only [q7, IntKind.wrap_i64]
 congr 2
 omega
theorem b8_2 (a b : Int) : b8 (q7 .add .i64 (q7 .add .i64 128 (q7 .mul .i64 32 a)) b) = b8 (32 * (4 + a) + b) := by
 unfold b8
 simp only [q7, IntKind.wrap_i64]
 congr 2
 omega
theorem b8_3 (c a : Int) : b8 (q7 .add .i64 c a) = b8 (c + a) := by
 unfold b8
 simp only [q7, IntKind.wrap_i64]
 congr 2
 omega
theorem b8_f (a b c : Int) : b8 (q7 .add .i64 (q7 .add .i64 (q7 .mul .i64 128 a) (q7 .mul .i64 32 b)) (q7 .mul .i64 16 c)) = b8 (128 * a + 32 * b + 16 * c) := by
 unfold b8
 simp only [q7, IntKind.wrap_i64]
 congr 2
 omega
theorem b8_g (a b c : Int) : b8 (q7 .add .i64 (q7 .add .i64 (q7 .add .i64 (q7 .mul .i64 128 a) (q7 .mul .i64 32 b)) (q7 .mul .i64 16 c)) 64) = b8 (128 * a + 64 + 32 * b + 16 * c) := by
 unfold b8
 simp only [q7, IntKind.wrap_i64]
 congr 2
 omega
theorem rdyn_c (s : Sm) (hk : s.h.k = 1 ∨ s.h.k = 2) (hck : 0 ≤ s.h.ck) : LP Tryz.prog G 113 [s.av] [] (fun _ => (bv (jZ s.h s.d), [])) := by
 have w0 : wh s.h.ck = if s.h.ck = 0 then 0 else 1 := by unfold wh; split <;> split <;> omega
 refine goW [] Tryz.func113 rfl ?_
 conv => whnf
 repeat' ((first | (show LC _ _ _ _ _ _; refine LC.putk 2 (fun bs p hb => put2_c bs _ hb p) ?_; (repeat first | refine goH ?_ | apply LH.here | apply LH.next); refine ⟨_, rfl, (by first | exact rfl | (simp; done)), (by first | exact Nat.le_of_ble_eq_true rfl | (simp; omega) | (simp; done)), ?_⟩; conv => whnf) | (show LC _ _ _ _ _ _; refine LC.putk 4 (fun bs p hb => put4_c bs _ hb p) ?_; (repeat first | refine goH ?_ | apply LH.here | apply LH.next); refine ⟨_, rfl, (by first | exact rfl | (simp; done)), (by first | exact Nat.le_of_ble_eq_true rfl | (simp; omega) | (simp; done)), ?_⟩; conv => whnf) | exact Nm.b 0 | (show AQ _ _; first | (refine AQ.eq (show [_, _, _] = ([b8 _, b8 _, b8 _] : List UInt8).map bAV from (by simp only [List.map_cons, List.map_nil, qR]; rfl)) ?_) | (refine AQ.appB ?_ ?_; (focus (first | exact Nat.le_of_ble_eq_true rfl | (simp; done) | (simp; omega))))) | refine T.s ?_ | ((first | apply goB | apply AB.dec | apply AB.gen) <;> intro h <;> try (exfalso; omega)) | refine LQ.mk fun r => ?_ | (show SQ _ _ _ _ _ _ _; first | (apply goD tQ qd 9 [5, 3] [0, 1, 2, 4, 5, 3, 6, 7] [_] (by kernel_rfl)) | (refine goD tQ qd 9 [5, 3] [0, 1, 2, 4, 5, 3, 6, 7] [] (by kernel_rfl) ?_) | (apply goD tQ qd 10 [6, 3] [0, 1, 2, 4, 5, 6, 3, 7, 8] [_] (by kernel_rfl)) | (refine goD tQ qd 10 [6, 3] [0, 1, 2, 4, 5, 6, 3, 7, 8] [] (by kernel_rfl) ?_)) | exact T.z | refine ⟨_, rfl, rfl, ?_⟩ | fail) <;> try (show (_ : Prop); conv => whnf))
 all_goals (try dsimp only)
 all_goals
   refine RL.rowF (b := jZ s.h s.d) (f := bAV) ?_
   (repeat first | refine goH ?_ | apply LH.here | apply LH.next)
   refine And.intro ?_ (And.intro ?_ ?_)
   · refine congrArg (List.map bAV) ?_
     simp only [jZ, w0]
     first
       | (have hk2 : s.h.k = 2 := by omega
          simp [b8_f, b8_g, hk2, *]; done)
       | (have hk2 : ¬ s.h.k = 2 := by omega
          simp [b8_f, b8_g, hk2, *]; done)
   · simp only [jZ]
     first
       | (have hk2 : s.h.k = 2 := by omega
          simp [hk2]; done)
       | (have hk2 : ¬ s.h.k = 2 := by omega
          simp [hk2]; done)
   · exact LB.nil
open Go.RowKit
variable {G : Nat → AV}
theorem kg (n : Int) : qx n 1 = [b8 n] := by
 show [b8 (n.fdiv (2 ^ 0))] = _
 rw [Int.fdiv_eq_ediv_of_nonneg _ (by decide)]
 simp
theorem big_c (f : Int) : LP Tryz.prog G 114 [iAV f] [] (fun _ => (.bool (decide (f = 4 ∨ f = 5)), [])) := by
 refine goW [] Tryz.func114 rfl ?_
 conv => whnf
 repeat' ((first | refine T.s ?_ | ((first | apply goB | apply AB.dec | apply AB.gen) <;> intro h <;> try (exfalso; omega)) | refine LQ.mk fun r => ?_ | exact T.z | fail) <;> conv => whnf)
 all_goals (try dsimp only)
 all_goals
   ((show RL _ _ _; refine goR ?_); (focus (refine congrArg AV.bool ?_; rw [Bool.eq_iff_iff])))
   simp_all [qo]
theorem hd_parts (s : Sm) (h : s.ok = true) : (xh s).length ≤ 1 ∧ (qG s).length ≤ 60 := by
 constructor
 · unfold xh; split <;> simp
 · unfold qG xJ jZ
   by_cases hk : s.h.k = 2 <;> (repeat' split) <;> simp [hk]
def udL (s : Sm) : List UInt8 := if s.ud = 0 then [] else qx s.ud 2
theorem hdL_eq (s : Sm) (h : s.ok = true) : hdL s = xh s ++ qG s ++ udL s ++ (if (s.f = 4 ∨ s.f = 5) ∧ ¬ s.h.ck = 0 then qx s.h.ck 2 else []) := by
 obtain ⟨-, -, hc⟩ := s.of h
 unfold hdL udL
 rw [sum_eq]
 rcases hc with ⟨hf, -⟩ | ⟨hf, hn, -⟩ | ⟨hf, hn, -⟩
 · rw [if_neg (show ¬ ((s.f = 4 ∨ s.f = 5) ∧ ¬ s.h.ck = 0) by omega), if_neg (show ¬ (s.f = 4 ∨ s.f = 5) by omega)]
   simp
 · simp only [jy, decide_eq_true_eq] at hn
   rw [if_pos hf, if_pos hn.2.2.2.2]
   by_cases hz : s.h.ck = 0 <;> simp [hz, hf]
 · simp only [jy, decide_eq_true_eq] at hn
   rw [if_neg (show ¬ ((s.f = 4 ∨ s.f = 5) ∧ ¬ s.h.ck = 0) by omega), if_neg (show ¬ (s.f = 4 ∨ s.f = 5) by omega)]
   simp
theorem jq (s : Sm) : LP Tryz.prog G 61 [s.av] [] (fun _ => (be (zd s), [])) := by
 cases hok : s.ok with
 | false =>
   have e : zd s = ([], 1) := by unfold zd; rw [hok]; rfl
   rw [e]
   refine goW [] Tryz.func61 rfl ?_
   conv => whnf
   repeat' ((first | exact Nm.b 0 | (show LC _ _ _ _ _ _; first | refine LC.pure (hok ▸ rvalid8_c s) ?_ | refine goE ?_) | refine T.s ?_ | ((first | apply goB | apply AB.dec | apply AB.gen) <;> intro h <;> try (exfalso; omega)) | refine LQ.mk fun r => ?_ | (show SQ _ _ _ _ _ _ _; first | (refine goD tQ qd 19 [5, 8, 3, 6] [0, 1, 2, 4, 5, 7, 8, 3, 6, 9, 10] [] (by kernel_rfl) ?_) | (refine goD tQ qd 23 [3, 7, 2, 4, 5] [0, 3, 6, 7, 8, 1, 2, 4, 5, 9, 10, 11] [] (by kernel_rfl) ?_) | (refine goD tQ qd 27 [5, 3] [0, 1, 2, 4, 5, 3, 6, 7] [] (by kernel_rfl) ?_) | (refine goD tQ qd 28 [5, 3] [0, 1, 2, 4, 5, 3, 6, 7] [] (by kernel_rfl) ?_) | (refine goD tQ qd 31 [5, 2, 3] [0, 1, 4, 5, 6, 2, 3, 7, 8, 9] [] (by kernel_rfl) ?_)) | exact T.z | refine ⟨_, rfl, rfl, ?_⟩ | fail) <;> conv => whnf)
   all_goals (try dsimp only)
   exact RL.frz [] (LF.tup ⟨LF.nils rfl rfl, LF.eq rfl, trivial⟩) LB.nil
 | true =>
   have e : zd s = (hdL s ++ s.pl, 0) := by unfold zd; rw [hok]; rfl
   have hpl := (s.of hok).1.2.2
   have hh := hd_parts s hok
   have hu : (udL s).length ≤ 2 := by unfold udL; split <;> simp
   have hq := hdL_eq s hok
   have hdl : (jZ s.h s.d).length ≤ 14 := by
     unfold jZ
     split <;> simp
   have hhl := (hd_len s hok).2
   have hdy : s.f = 4 ∨ s.f = 5 → LP Tryz.prog G 113 [s.av] [] (fun _ => (bv (jZ s.h s.d), [])) := fun hf => by
     obtain ⟨-, -, hc⟩ := s.of hok
     rcases hc with ⟨hf, -⟩ | ⟨-, -, hw⟩ | ⟨hf, -⟩
     · omega
     · simp only [xF, Bool.and_eq_true] at hw
       have := s.h.of hw.1
       exact rdyn_c s this.1 (by omega)
     · omega
   rw [e]
   clear e
   refine goW [4, 7, 32, 34] Tryz.func61 rfl ?_
   conv => whnf
   repeat' ((first | (show CutL _ _ _ _ _ _ _ _; refine CutL.adopt 4 1 5 (by rfl) fun q => ?_) | (show LC _ _ _ _ _ _; refine LC.putk 1 (fun bs p hb => put1r_c bs _ hb p) ?_; (repeat first | refine goH ?_ | apply LH.here | apply LH.next); refine ⟨_, rfl, (by first | exact rfl | assumption | (simp; done) | (simp; omega)), (by first | exact Nat.le_of_ble_eq_true rfl | (simp; omega) | (simp; done)), ?_⟩; conv => whnf) | (show LC _ _ _ _ _ _; refine LC.putk 2 (fun bs p hb => put2_c bs _ hb p) ?_; (repeat first | refine goH ?_ | apply LH.here | apply LH.next); refine ⟨_, rfl, (by first | exact rfl | assumption | (simp; done) | (simp; omega)), (by first | exact Nat.le_of_ble_eq_true rfl | (simp; omega) | (simp; done)), ?_⟩; conv => whnf) | (show LC _ _ _ _ _ _; refine LC.putk 4 (fun bs p hb => put4_c bs _ hb p) ?_; (repeat first | refine goH ?_ | apply LH.here | apply LH.next); refine ⟨_, rfl, (by first | exact rfl | assumption | (simp; done) | (simp; omega)), (by first | exact Nat.le_of_ble_eq_true rfl | (simp; omega) | (simp; done)), ?_⟩; conv => whnf) | exact Nm.b 0 | (show LC _ _ _ _ _ _; first | refine LC.pure (hok ▸ rvalid8_c s) ?_ | refine LC.pure (hdy (by omega)) ?_ | refine LC.pure (big_c _) ?_ | refine goE ?_) | (show AQ _ _; first | (refine AQ.appB ?_ ?_; (focus (first | exact Nat.le_of_ble_eq_true rfl | (simp; done) | (simp; omega) | omega))) | (refine AQ.appM (cs := [b8 208]) ?_ rfl ?_; (focus (first | exact Nat.le_of_ble_eq_true rfl | (simp; done) | (simp; omega) | omega))) | (refine AQ.appM (cs := [b8 210]) ?_ rfl ?_; (focus (first | exact Nat.le_of_ble_eq_true rfl | (simp; done) | (simp; omega) | omega))) | (refine AQ.appM (cs := [b8 209, b8 s.h.k]) ?_ (by simp only [List.map_cons, List.map_nil, qR]; rfl) ?_; (focus (first | exact Nat.le_of_ble_eq_true rfl | (simp; done) | (simp; omega) | omega))) | (refine AQ.appM (cs := jZ s.h s.d) ?_ rfl ?_; (focus (first | exact Nat.le_of_ble_eq_true rfl | (simp; done) | (simp; omega) | omega))) | (refine AQ.appM (cs := s.pl) ?_ rfl ?_; (focus (first | exact Nat.le_of_ble_eq_true rfl | (simp; done) | (simp; omega) | omega)))) | refine T.s ?_ | ((first | apply goB | apply AB.dec | apply AB.gen) <;> intro h <;> try (exfalso; omega)) | refine LQ.mk fun r => ?_ | (show SQ _ _ _ _ _ _ _; first | (apply goD tQ qd 19 [5, 8, 3, 6] [0, 1, 2, 4, 5, 7, 8, 3, 6, 9, 10] [_] (by kernel_rfl)) | (refine goD tQ qd 19 [5, 8, 3, 6] [0, 1, 2, 4, 5, 7, 8, 3, 6, 9, 10] [] (by kernel_rfl) ?_) | (apply goD tQ qd 23 [3, 7, 2, 4, 5] [0, 3, 6, 7, 8, 1, 2, 4, 5, 9, 10, 11] [_] (by kernel_rfl)) | (refine goD tQ qd 23 [3, 7, 2, 4, 5] [0, 3, 6, 7, 8, 1, 2, 4, 5, 9, 10, 11] [] (by kernel_rfl) ?_) | (apply goD tQ qd 27 [5, 3] [0, 1, 2, 4, 5, 3, 6, 7] [_] (by kernel_rfl)) | (refine goD tQ qd 27 [5, 3] [0, 1, 2, 4, 5, 3, 6, 7] [] (by kernel_rfl) ?_) | (apply goD tQ qd 28 [5, 3] [0, 1, 2, 4, 5, 3, 6, 7] [_] (by kernel_rfl)) | (refine goD tQ qd 28 [5, 3] [0, 1, 2, 4, 5, 3, 6, 7] [] (by kernel_rfl) ?_) | (apply goD tQ qd 31 [5, 2, 3] [0, 1, 4, 5, 6, 2, 3, 7, 8, 9] [_] (by kernel_rfl)) | (refine goD tQ qd 31 [5, 2, 3] [0, 1, 4, 5, 6, 2, 3, 7, 8, 9] [] (by kernel_rfl) ?_)) | (show CutL _ _ _ _ _ _ _ _; first | (refine goK tQ [4, 7, 32, 34] 4 (S := Nm × Nm × Nat) [] (fun (p, q, n) => ⟨[(4, .vw q 0 n 1), (1, .ptr p 0)], [(p, ⟨81, s.cs⟩), (q, ⟨5, (xh s).map bAV⟩)], n = (xh s).length, 0⟩) ?_ ?_; (rintro ⟨p, q, n⟩ hok; (try dsimp only at hok)); rotate_left) | (refine goK tQ [4, 7, 32, 34] 7 (S := Nm × Nm × Nat) [] (fun (p, q, n) => ⟨[(4, .vw q 0 n 1), (1, .ptr p 0)], [(p, ⟨81, s.cs⟩), (q, ⟨5, (xh s ++ qG s).map bAV⟩)], n = (xh s ++ qG s).length, 0⟩) ?_ ?_; (rintro ⟨p, q, n⟩ hok; (try dsimp only at hok)); rotate_left) | (refine goK tQ [4, 7, 32, 34] 32 (S := Nm × Nm × Nat) [] (fun (p, q, n) => ⟨[(4, .vw q 0 n 1), (1, .ptr p 0)], [(p, ⟨81, s.cs⟩), (q, ⟨5, (xh s ++ qG s ++ udL s).map bAV⟩)], n = (xh s ++ qG s ++ udL s).length, 0⟩) ?_ ?_; (rintro ⟨p, q, n⟩ hok; (try dsimp only at hok)); rotate_left) | (refine goK tQ [4, 7, 32, 34] 34 (S := Nm × Nm × Nat) [] (fun (p, q, n) => ⟨[(4, .vw q 0 n 1), (1, .ptr p 0)], [(p, ⟨81, s.cs⟩), (q, ⟨5, (hdL s).map bAV⟩)], n = (hdL s).length, 0⟩) ?_ ?_; (rintro ⟨p, q, n⟩ hok; (try dsimp only at hok)); rotate_left) | refine CutL.go tQ [4, 7, 32, 34] ?_) | (show AtC _ _ _ _ _ _ _ _; first | (apply AtC.mk' (id := 4) (S := Nm × Nm × Nat) ((_, _, _)); all_goals (try exact K88D); done) | (apply AtC.mk' (id := 7) (S := Nm × Nm × Nat) ((_, _, _)); all_goals (try exact K88D); done) | (apply AtC.mk' (id := 32) (S := Nm × Nm × Nat) ((_, _, _)); all_goals (try exact K88D); done) | (apply AtC.mk' (id := 34) (S := Nm × Nm × Nat) ((_, _, _)); all_goals (try exact K88D); done) | (apply AtC.mk' (id := 4) (S := Nm × Nm × Nat) ((_, _, _)); all_goals (try exact K88D)) | (apply AtC.mk' (id := 7) (S := Nm × Nm × Nat) ((_, _, _)); all_goals (try exact K88D)) | (apply AtC.mk' (id := 32) (S := Nm × Nm × Nat) ((_, _, _)); all_goals (try exact K88D)) | (apply AtC.mk' (id := 34) (S := Nm × Nm × Nat) ((_, _, _)); all_goals (try exact K88D))) | exact T.z | refine ⟨_, rfl, rfl, ?_⟩ | fail) <;> try (show (_ : Prop); conv => whnf))
   all_goals (try dsimp only)
   refine RL.frz [r] ?_ ?_
   · show LF _ _ _ (.tup [.sl (hdL s ++ s.pl).length ((hdL s ++ s.pl).map bAV), iAV 0])
     apply LF.tup
     refine And.intro (LF.rowF InL.here ?_) (And.intro (LF.eq rfl) trivial)
     (repeat first | refine goH ?_ | apply LH.here | apply LH.next)
     exact ⟨rfl, by rw [List.length_append, ← hok]⟩
   · show LH _ _ _
     (repeat first | refine goH ?_ | apply LH.here | apply LH.next)
     exact LB.nil
open Go.RowKit
variable {G : Nat → AV}
theorem bclone_ne (a : List UInt8) (h0 : 0 < a.length) (ha : a.length ≤ 140737488355328) : LP Tryz.prog G 92 [bv a] [] (fun _ => (bv a, [])) := by
 refine goW [] Tryz.func92 rfl ?_
 conv => whnf
 repeat' ((first | refine T.s ?_ | ((first | apply goB | apply AB.dec | apply AB.gen) <;> intro h <;> try (exfalso; omega)) | refine LQ.mk fun r => ?_ | exact T.z | fail) <;> conv => whnf)
 all_goals (try dsimp only)
 all_goals
   (refine RL.rowF ?_; (repeat first | refine goH ?_ | apply LH.here | apply LH.next); refine And.intro ?_ (And.intro ?_ ?_); rotate_left; rotate_left; (focus ((repeat' first | exact LB.nil | (with_reducible exact LB.refl) | (apply LB.cons; (repeat first | refine goH ?_ | apply LH.here | apply LH.next); refine And.intro ?_ ?_; (focus (try (first | (with_reducible rfl) | (refine congrArg (Pl.mk _) ?_; (first | rfl | (simp; done))) | rfl | (with_reducible refine congrArg (Pl.mk _) ?_)))))))))
   · rfl
   · simp
theorem wZ (a : List UInt8) (ha : a.length ≤ 140737488355328) : LP Tryz.prog G 92 [bv a] [] (fun _ => (bv a, [])) := by
 by_cases h : 0 < a.length
 · exact bclone_ne a h ha
 · obtain rfl : a = [] := List.eq_nil_of_length_eq_zero (by omega)
   refine LP.empty ?_ fun a0 cap hc => ?_
   · refine goW [] Tryz.func92 rfl ?_
     conv => whnf
     repeat' ((first | refine T.s ?_ | ((first | apply goB | apply AB.dec | apply AB.gen) <;> intro h <;> try (exfalso; omega)) | refine LQ.mk fun r => ?_ | exact T.z | fail) <;> conv => whnf)
     all_goals (try dsimp only)
     exact RL.frz [] (LF.nils rfl rfl) LB.nil
   · refine goW [] Tryz.func92 rfl ?_
     conv => whnf
     repeat' ((first | refine T.s ?_ | ((first | apply goB | apply AB.dec | apply AB.gen) <;> intro h <;> try (exfalso; omega)) | refine LQ.mk fun r => ?_ | exact T.z | fail) <;> conv => whnf)
     all_goals (try dsimp only)
     refine RL.rowF (b := ([] : List UInt8)) (f := bAV) ?_
     (repeat first | refine goH ?_ | apply LH.here | apply LH.next)
     exact ⟨rfl, rfl, LB.nil⟩
open Go.RowKit
variable {G : Nat → AV}
def beN (l : List UInt8) : Int := l.foldl (fun a c => 256 * a + (c.toNat : Int)) 0
theorem beN_app (l : List UInt8) (c : UInt8) : beN (l ++ [c]) = 256 * beN l + (c.toNat : Int) := by simp [beN]
theorem beN_take (l : List UInt8) (i : Nat) (h : i < l.length) : beN (l.take (i + 1)) = 256 * beN (l.take i) + ((l.getD i 0).toNat : Int) := by
 rw [List.take_succ_eq_append_getElem h, beN_app]
 simp [List.getD_eq_getElem?_getD, h]
theorem beN_rng : ∀ (l : List UInt8), 0 ≤ beN l ∧ beN l < 256 ^ l.length := by
 intro l
 have key : ∀ n (l : List UInt8), l.length = n → 0 ≤ beN l ∧ beN l < 256 ^ n := by
   intro n
   induction n with
   | zero => intro l h; obtain rfl := List.eq_nil_of_length_eq_zero h; exact ⟨by decide, by decide⟩
   | succ n ih =>
     intro l h
     have h1 := ih (l.take n) (by simp; omega)
     have h2 := beN_take l n (by omega)
     rw [List.take_of_length_le (show l.length ≤ n + 1 by omega)] at h2
     have h3 := (l.getD n 0).toNat_lt
     have h4 : (256 : Int) ^ (n + 1) = 256 * 256 ^ n := by rw [Int.pow_succ]; omega
     omega
 exact key _ l rfl
def tkR (n : Nat) : Option (List UInt8) → Option (List UInt8)
 | none => none
 | some l => if l.length < n then none else some (l.drop n)
def rdB : Option (List UInt8) → Prop
 | none => True
 | some l => l.length ≤ 140737488355328
theorem rdB.take {X : Option (List UInt8)} (h : rdB X) (n : Nat) : rdB (tkR n X) := by
 cases X with
 | none => exact trivial
 | some l =>
   show rdB (if l.length < n then none else some (l.drop n))
   split
   · exact trivial
   · exact Nat.le_trans (by simp) h
open Go.RowKit
variable {G : Nat → AV}
@[reducible] def Sm.fs (s : Sm) : List AV := [iAV s.cx, iAV s.f, iAV s.n, iAV s.tm, iAV s.mr, iAV s.id, iAV s.ud, iAV s.h.k, iAV s.h.tos, iAV s.h.id, iAV s.h.fx, iAV s.h.ttl, iAV s.h.fr, iAV s.h.to, iAV s.h.fp, iAV s.h.tp, iAV s.h.ck, iAV s.h.mr, iAV s.h.ty, iAV s.h.sq, iAV s.h.tm, iAV s.h.sr, iAV s.d.st, iAV s.d.fo, iAV s.ck, .nils]
theorem LC.two {P : Program} {f : FuncId} {args : List AV} {x : AV} {r p : Nm} {c d c' d' : Pl} {l : LS} {K : AV → LS → Prop} (hs : r ≠ p → LP P G f args [(r, c), (p, d)] fun _ => (x, [(r, c'), (p, d')])) (hk : LH l r fun c1 _ rest => c1 = c ∧ LH rest p fun d1 _ rest' => d1 = d ∧ LQ fun _ => K x ((r, c') :: (p, d') :: rest')) : LC P G f args l K := by
 refine ⟨fun φ hsp => ?_⟩
 have hne : r ≠ p := by
   obtain ⟨l1, c1, l2, rfl, -, h1⟩ := hk.ex
   obtain ⟨l3, c3, l4, e, -⟩ := h1.ex
   have hm : p ∈ (l1 ++ l2).map (·.1) := by rw [e]; simp
   rintro rfl
   have h3 := xY hsp.nd
   rw [List.map_append, List.mem_append] at hm
   exact hm.elim h3.1 h3.2.1
 exact (LC.mk' (hs hne) [] (.refl _) hk).run φ hsp
end Go.Proofs.YtbagbjacmakfhaaGreatDoor
