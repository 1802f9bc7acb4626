import Derived.Test.YtkfpgdckdmlhkaaGreatDoorDp23
import Derived.Test.YtkfpgdckdmlhkaaGreatDoorDp33
import Derived.Test.YtkfpgdckdmlhkaaGreatDoorDp32
import Derived.Test.YtkfpgdckdmlhkaaGreatDoorDp20
import Derived.Test.YtkfpgdckdmlhkaaGreatDoorDp34
import Derived.Test.YtkfpgdckdmlhkaaGreatDoorDp28
import Derived.Test.YtkfpgdckdmlhkaaGreatDoorDp35
import Derived.Test.YtkfpgdckdmlhkaaGreatDoorDp04
import Derived.ProofKit
import Derived.OpenShut
import Derived.LaidMore
import Derived.Stop.Joined
set_option maxHeartbeats 8000000
namespace Go.Proofs.YtkfpgdckdmlhkaaGreatDoor
open Go.RowKit
set_option linter.all false
theorem crc_fit (f : Int) (l : List UInt8) : fitR (cbR f) (crcS (cbR f) l) = true := by
 have key : ∀ (n : Nat) (p : Nat), p < 2 ^ n → (polyV (n : Int)).toNat = p → fitR (n : Int) (crcS (n : Int) l) = true := fun n p hp he => by
   have h1 : crcL n p (2 ^ n - 1) l < 2 ^ n := crcL_lt hp l (by have := Nat.pow_pos (n := n) (show 0 < 2 by decide); omega)
   rw [← crcS_eq, he, fitN]
   have h2 : ((crcL n p (2 ^ n - 1) l : Nat) : Int) < (2 : Int) ^ n := by
     have := Int.ofNat_lt.2 h1
     rw [Int.natCast_pow] at this
     exact this
   exact ⟨Int.natCast_nonneg _, by show _ ≤ (2 : Int) ^ n - 1; simp only [Int.toNat_natCast]; omega⟩
 unfold cbR
 split
 · exact key 3 3 (by decide) rfl
 · split
   · exact key 7 9 (by decide) rfl
   · exact key 8 7 (by decide) rfl
theorem fit_w {n : Nat} {v : Int} (h : 0 ≤ v ∧ v ≤ 2 ^ n - 1) : fitR (n : Int) v = true := (fitN n v).2 h
theorem num_rng {h : Hd} (_ : h.ok = true) : 0 ≤ h.num ∧ h.num ≤ 65535 := by
 unfold Hd.num
 split
 · have := lw_rng 16 h.sq; have e : (2 : Int) ^ (16 : Int).toNat = 65536 := rfl; omega
 · have := lw_rng 16 h.id; have e : (2 : Int) ^ (16 : Int).toNat = 65536 := rfl; omega
theorem lw_r {k : Nat} (x : Int) : 0 ≤ lw k x ∧ lw k x ≤ 2 ^ k - 1 := by
 have := lw_rng (k : Int) x
 simp only [Int.toNat_natCast] at this
 omega
theorem hz_k (k : Int) : hzR { Hd.z with k := k } k = true := by unfold hzR; exact decide_eq_true ⟨rfl, rfl, rfl, rfl, rfl, rfl, rfl, rfl, rfl, rfl, rfl, rfl, rfl, rfl, rfl⟩
theorem dzz : dzR Dy.z = true := by decide
theorem low_ok (s : Sm) (hf : s.f = 1 ∨ s.f = 2 ∨ s.f = 3) (h1 : 0 ≤ s.cx ∧ s.cx < 16 ∧ s.pl.length ≤ 1500) (h2 : fitR (cbR s.f) s.ck = true) (hk : s.h.k = 1 ∨ s.h.k = 2) (hz : hzR s.h s.h.k = true) (hd : dzR s.d = true)
   (a : fitR (wid s.f s.h.k 0) s.n = true) (b : fitR (wid s.f s.h.k 1) s.tm = true) (c : fitR (wid s.f s.h.k 2) s.mr = true) (d : fitR (wid s.f s.h.k 3) s.id = true) (e : fitR 16 s.ud = true) : s.ok = true :=
 ok_low s hf h1 h2 (by unfold lowbR; rw [a, b, c, d, e]; rfl) hk hz hd
theorem fit0 : fitR 0 0 = true := (fitN 0 0).2 (by decide)
theorem parts_ok {dy : Dy} {c f : Int} {h : Hd} {pl : List UInt8} (ho : h.ok = true) (hd : dy.ok = true) (hz : h.k = 2 ∨ dy = Dy.z) (hc : 0 ≤ c ∧ c < 16) (hf : 1 ≤ f ∧ f ≤ 5) (hp : pl.length ≤ 1500) : (partsR dy c f h pl).ok = true := by
 have hk := ok_k ho
 have a := h.of ho
 have hn := num_rng ho
 have e16 : fitR 16 h.ck = true := fit_w (n := 16) (by omega)
 have hcrc : ∀ f, fitR (cbR f) (crcH f h) = true := fun f => crc_fit f _
 have hdd : (decide (h.k = 1) && !(dzR dy)) = false := by
   rcases hz with h2 | h2
   · rw [decide_eq_false (by omega)]; rfl
   · rw [h2, dzz]; simp
 unfold partsR
 split
 · exact ok_big _ (.inr rfl) ⟨hc.1, hc.2, hp⟩ (hcrc 5) rfl (by unfold wholeR; dsimp only; rw [ho, hd, hdd]; rfl)
 · split
   · refine ok_big _ (.inl rfl) ⟨hc.1, hc.2, hp⟩ (hcrc 4) rfl ?_
     have ho4 : ({ h with fr := 0, to := 0, fp := 0, tp := 0, sr := 0 } : Hd).ok = true := by
       have i0 : ∀ n : Int, 0 ≤ n → inR 0 n = true := fun n hn => inR_t ⟨by decide, hn⟩
       unfold Hd.ok comR udpR rtpR at ho ⊢
       dsimp only
       split at ho
       · rename_i k1
         rw [if_pos k1]
         simp only [Bool.and_eq_true, decide_eq_true_eq, i0 65535 (by decide), i0 4294967295 (by decide)] at ho ⊢
         simp only [ho, and_self, true_and]
       · rename_i k1
         split at ho
         · rename_i k2
           rw [if_neg k1, if_pos k2]
           simp only [Bool.and_eq_true, i0 65535 (by decide), i0 4294967295 (by decide)] at ho ⊢
           simp only [ho, and_self, true_and]
         · cases ho
     unfold wholeR; dsimp only; rw [ho4, hd, hdd]; rfl
   · split
     · refine low_ok _ (.inl rfl) ⟨hc.1, hc.2, hp⟩ (hcrc 1) hk (hz_k _) dzz (fit_w (n := 4) (lw_r (k := 4) _)) fit0 fit0 fit0 e16
     · split
       · split
         · rename_i k2
           have e0 : ∀ i, wid 2 h.k i = ([5, 16, 1, 0] : List Int).getD i 0 := fun i => by unfold wid; rw [if_neg (by decide), if_pos ⟨rfl, k2⟩]
           refine low_ok _ (.inr (.inl rfl)) ⟨hc.1, hc.2, hp⟩ (hcrc 2) hk (hz_k _) dzz ?_ ?_ ?_ ?_ e16
           · show fitR (wid 2 h.k 0) _ = true; rw [e0]; exact fit_w (n := 5) (lw_r (k := 5) _)
           · show fitR (wid 2 h.k 1) _ = true; rw [e0]; exact fit_w (n := 16) (lw_r (k := 16) _)
           · show fitR (wid 2 h.k 2) _ = true; rw [e0]; exact fit_w (n := 1) (by dsimp only; omega)
           · show fitR (wid 2 h.k 3) _ = true; rw [e0]; exact fit0
         · rename_i k2
           have e0 : ∀ i, wid 2 h.k i = ([5, 0, 0, 0] : List Int).getD i 0 := fun i => by unfold wid; rw [if_neg (by decide), if_neg (fun k => k2 k.2), if_pos rfl]
           refine low_ok _ (.inr (.inl rfl)) ⟨hc.1, hc.2, hp⟩ (hcrc 2) hk (hz_k _) dzz ?_ ?_ ?_ ?_ e16
           · show fitR (wid 2 h.k 0) _ = true; rw [e0]; exact fit_w (n := 5) (lw_r (k := 5) _)
           · show fitR (wid 2 h.k 1) _ = true; rw [e0]; exact fit0
           · show fitR (wid 2 h.k 2) _ = true; rw [e0]; exact fit0
           · show fitR (wid 2 h.k 3) _ = true; rw [e0]; exact fit0
       · split
         · rename_i k2
           have e0 : ∀ i, wid 3 h.k i = ([8, 32, 1, 16] : List Int).getD i 0 := fun i => by unfold wid; rw [if_neg (by decide), if_neg (by omega), if_neg (by decide), if_pos k2]
           refine low_ok _ (.inr (.inr rfl)) ⟨hc.1, hc.2, hp⟩ (hcrc 3) hk (hz_k _) dzz ?_ ?_ ?_ ?_ e16
           · show fitR (wid 3 h.k 0) _ = true; rw [e0]; exact fit_w (n := 8) (lw_r (k := 8) _)
           · show fitR (wid 3 h.k 1) _ = true; rw [e0]; exact fit_w (n := 32) (by dsimp only; omega)
           · show fitR (wid 3 h.k 2) _ = true; rw [e0]; exact fit_w (n := 1) (by dsimp only; omega)
           · show fitR (wid 3 h.k 3) _ = true; rw [e0]; exact fit_w (n := 16) (by dsimp only; omega)
         · rename_i k2
           have e0 : ∀ i, wid 3 h.k i = ([16, 0, 0, 0] : List Int).getD i 0 := fun i => by unfold wid; rw [if_neg (by decide), if_neg (by omega), if_neg (by decide), if_neg k2]
           refine low_ok _ (.inr (.inr rfl)) ⟨hc.1, hc.2, hp⟩ (hcrc 3) hk (hz_k _) dzz ?_ ?_ ?_ ?_ e16
           · show fitR (wid 3 h.k 0) _ = true; rw [e0]; exact fit_w (n := 16) (by dsimp only; omega)
           · show fitR (wid 3 h.k 1) _ = true; rw [e0]; exact fit0
           · show fitR (wid 3 h.k 2) _ = true; rw [e0]; exact fit0
           · show fitR (wid 3 h.k 3) _ = true; rw [e0]; exact fit0
section
variable {m w : Int} {s x : Sn} {h : Hd}
theorem csA_beg (hw : 1 ≤ w) (h1 : ¬ 0 < (csA w s h).1.full) (h2 : ¬ 0 < (csA w s h).1.refr) : csA w s h = (s, false) ∧ s.act = true ∧ chgR s.lst h = 0 := by
 unfold csA at h1 h2 ⊢
 cases ha : s.act with
 | false => rw [ha, if_pos rfl] at h1; exact absurd (show 0 < w by omega) h1
 | true =>
   rw [ha, if_neg (by decide)] at h1 h2
   rw [if_neg (by decide)]
   split
   · rename_i hc
     rw [if_pos hc] at h1 h2
     split at h1
     · exact absurd (show 0 < w by omega) h1
     · rename_i hf
       rw [if_neg hf] at h2
       exact absurd (show 0 < w by omega) h2
   · rename_i hc
     exact ⟨rfl, rfl, by by_cases k : chgR s.lst h = 0; exact k; exact absurd (.inl k) hc⟩
theorem ctx_lo (hw : 1 ≤ w) (h3 : (ctxR m w s h).2 ≤ 3) : s.act = true ∧ chgR s.lst h = 0 ∧ (ctxR m w s h).1 = s ∧ possR s h (ctxR m w s h).2 = true := by
 obtain ⟨A, hA⟩ : ∃ A, csA w s h = A := ⟨_, rfl⟩
 obtain ⟨B, hB⟩ : ∃ B, csB m w A = B := ⟨_, rfl⟩
 obtain ⟨C, hC⟩ : ∃ C, csC m w s.rf.length B = C := ⟨_, rfl⟩
 obtain ⟨D, hD⟩ : ∃ D, csD s.lst s.act h C = D := ⟨_, rfl⟩
 have e : ctxR m w s h = csE w s.lst s.act h D := by unfold ctxR; rw [hA, hB, hC, hD]
 rw [e] at h3 ⊢
 have e1 : ¬ 0 < D.full := fun k => by unfold csE at h3; rw [if_pos k] at h3; (dsimp only at h3; omega)
 have e2 : ¬ 0 < D.refr := fun k => by unfold csE at h3; rw [if_neg e1, if_pos k] at h3; (dsimp only at h3; omega)
 have d1 : D.full = C.1.full ∧ D.refr = C.1.refr := by rw [← hD]; unfold csD begR; split <;> exact ⟨rfl, rfl⟩
 have c1 : C = B := by
   rw [← hC]
   unfold csC
   split
   · rename_i k
     unfold csC at hC
     rw [if_pos k] at hC
     rw [← hC] at d1
     exact absurd (show 0 < D.full by rw [d1.1]; show 0 < w; omega) e1
   · rfl
 have b1 : B = A := by
   rw [← hB]
   unfold csB
   split
   · rename_i k
     unfold csB at hB
     rw [if_pos k] at hB
     rw [c1, ← hB] at d1
     exact absurd (show 0 < D.full by rw [d1.1]; show 0 < w; omega) e1
   · rfl
 rw [c1, b1] at d1
 have a1 := csA_beg (s := s) (h := h) hw (by rw [hA, ← d1.1]; exact e1) (by rw [hA, ← d1.2]; exact e2)
 rw [hA] at a1
 have dd : D = s := by
   rw [← hD, c1, b1, a1.1]
   refine (csD_n ?_).symm
   rintro (k | k)
   · exact absurd k (by decide)
   · rw [a1.1] at d1; dsimp only at k d1; omega
 rw [dd] at e1 e2 ⊢
 refine ⟨a1.2.1, a1.2.2, ?_⟩
 unfold csE at h3 ⊢
 rw [dd] at h3
 rw [if_neg e1, if_neg e2] at h3 ⊢
 split
 · exact ⟨rfl, by assumption⟩
 · split
   · exact ⟨rfl, by assumption⟩
   · split
     · exact ⟨rfl, by assumption⟩
     · rename_i k1 k2 k3
       rw [if_neg k1, if_neg k2, if_neg k3] at h3
       (dsimp only at h3; omega)
theorem ctx_act (hw : 1 ≤ w) (hs : s.ok m w = true) (ha : s.act = false) : (ctxR m w s h).2 = 5 := by
 have hh : s.act = true → sameR s.fst h = true := fun k => by rw [ha] at k; cases k
 obtain ⟨a1, a2, a3, a4, a5, a6, a7⟩ := sn_off hs ha
 have eA : csA w s h = ({ s with act := true, full := w }, true) := by unfold csA; rw [if_pos ha]
 unfold ctxR
 rw [eA]
 have eB : csB m w ({ s with act := true, full := w }, true) = (({ s with act := true, full := w } : Sn), true) := by
   unfold csB; rw [if_neg]; dsimp only; omega
 have eC : csC m w s.rf.length (({ s with act := true, full := w } : Sn), true) = (({ s with act := true, full := w } : Sn), true) := by
   unfold csC; rw [if_neg]; rw [a7]; simp
 rw [eB, eC]
 have eD : (csD s.lst s.act h (({ s with act := true, full := w } : Sn), true)).full = w := by unfold csD begR; split <;> rfl
 unfold csE
 rw [if_pos (by rw [eD]; omega)]
theorem chg_of {a b : Hd} (h : chgR a b = 0) : a.tos = b.tos ∧ a.ttl = b.ttl ∧ a.fx = b.fx ∧ a.ty = b.ty ∧ decide (a.ck = 0) = decide (b.ck = 0) := by
 unfold chgR at h
 refine ⟨?_, ?_, ?_, ?_, ?_⟩ <;> refine Decidable.byContradiction fun k => ?_ <;> rw [if_neg k] at h <;> (repeat' split at h) <;> omega
theorem fits_of {wd : Int} {l : List Int} {k v r : Int} (h : fitsR wd l k v = true) (hr : r ∈ l) : (lsbR wd r k (lw k v)).1 = v := by
 unfold fitsR at h
 simp only [Bool.and_eq_true, decide_eq_true_eq, List.all_eq_true] at h
 obtain ⟨h1, ⟨h2, h3⟩, h4, h5⟩ := h
 have h6 := h5 r hr
 have h7 : valB k (lw k v) = true := by unfold valB; exact decide_eq_true (lw_rng k v)
 rw [lsbR_g h1 h2 h3 h6.1 h7]
 exact h6.2
theorem num_sq {h : Hd} (k : h.k = 2) (ho : h.ok = true) : lw 16 h.num = h.sq := by
 have a := h.of ho
 unfold Hd.num
 rw [if_pos k, lw_lw, lw_small (by omega) (by show _ < (65536 : Int); omega)]
theorem num_id {h : Hd} (k : h.k = 1) (ho : h.ok = true) : lw 16 h.num = h.id := by
 have a := h.of ho
 unfold Hd.num
 rw [if_neg (by omega), lw_lw, lw_small (by omega) (by show _ < (65536 : Int); omega)]
theorem hdr_lo {r : Rc} {f : Int} {c : Int} {pl : List UInt8} {dy : Dy} (hl : r.la = s.lst) (hd : r.dy = s.dy) (hm : s.lst ∈ s.rf) (hok : r.la.ok = true) (hdo : s.dy.ok = true) (ho : h.ok = true) (hsm : sameR s.lst h = true) (hf : 1 ≤ f ∧ f ≤ 3) (hp : possR s h f = true) :
   hdrD r (partsR dy c f h pl) (numD r (partsR dy c f h pl)) = h := by
 have hkk := ok_k ho
 obtain ⟨q1, q2, q3, q4, q5, q6⟩ := sameR_iff.1 hsm
 have hka : r.la.k = h.k := by rw [hl]; exact q1
 unfold possR at hp
 simp only [Bool.and_eq_true, Bool.or_eq_true, decide_eq_true_eq, List.all_eq_true] at hp
 obtain ⟨h1, h2⟩ := hp
 have h3 := h1 _ hm
 unfold refB at h3
 simp only [Bool.and_eq_true, decide_eq_true_eq] at h3
 obtain ⟨h4, h5, h6⟩ := h3
 obtain ⟨c1, c2, c3, c4, c5⟩ := chg_of h4
 have hnum : f ≠ 3 ∨ h.k = 2 → (lsbR 16 r.la.num (wid f h.k 0) (lw (wid f h.k 0) h.num)).1 = h.num := fun k => by
   rcases h2 with h2 | h2
   · omega
   · rw [hl]; exact fits_of h2.1 (List.mem_map_of_mem hm)
 have hs := h.of ho
 have hlo : s.lst.ok = true := by rw [← hl]; exact hok
 have hpd : ∀ n, predR r.dy r.la n = if s.lst.k = 1 then { s.lst with mr := 0, ck := 0, id := lw 16 n } else { s.lst with mr := 0, ck := 0, sq := lw 16 n, tm := lw 32 (s.lst.tm + s.dy.st * stepR s.lst n), id := lw 16 (s.lst.id + s.dy.fo * stepR s.lst n) } := fun n => by
   unfold predR; rw [hl, hd, if_pos ⟨hlo, hdo⟩]
 rcases hkk with hk | hk
 · have hu := udp0 h ho hk
   have hul := udp0 s.lst hlo (by rw [q1]; exact hk)
   have hid := num_id hk ho
   have key : ({ predR r.dy r.la h.num with ck := h.ck } : Hd) = h := by
     rw [hpd, if_pos (by rw [q1]; exact hk)]
     obtain ⟨k, tos, id, fx, ttl, fr, to, fp, tp, ck, mr, ty, sq, tm, sr⟩ := h
     dsimp only at *
     simp only [Hd.mk.injEq]
     simp only [hid, true_and]
     omega
   have : f = 1 ∨ f = 2 ∨ f = 3 := by omega
   rcases this with rfl | rfl | rfl
   · have e : numD r (partsR dy c 1 h pl) = h.num := by
       unfold numD
       rw [if_neg (by show ¬ ((1 : Int) = 3 ∧ _); omega), hka]
       exact hnum (.inl (by decide))
     rw [e, hdr1 (by show ¬ (1 : Int) = 4; decide) (by show ¬ (1 : Int) = 5; decide) (by omega)]
     exact key
   · have e0 : partsR dy c 2 h pl = ⟨c, 2, lw 5 h.num, 0, 0, 0, h.ck, { Hd.z with k := h.k }, Dy.z, crcH 2 h, pl⟩ := by unfold partsR; rw [if_neg (by decide), if_neg (by decide), if_neg (by decide), if_pos rfl, if_neg (by omega)]
     have e : numD r (partsR dy c 2 h pl) = h.num := by
       rw [e0]
       unfold numD
       rw [if_neg (by show ¬ ((2 : Int) = 3 ∧ _); omega), hka]
       have := hnum (.inl (by decide))
       rw [show wid 2 h.k 0 = 5 by simp [wid, hk]] at this ⊢
       exact this
     rw [e, e0, hdr1 (by show ¬ (2 : Int) = 4; decide) (by show ¬ (2 : Int) = 5; decide) (by omega)]
     exact key
   · have e0 : partsR dy c 3 h pl = ⟨c, 3, h.num, 0, 0, 0, h.ck, { Hd.z with k := h.k }, Dy.z, crcH 3 h, pl⟩ := by unfold partsR; rw [if_neg (by decide), if_neg (by decide), if_neg (by decide), if_neg (by decide), if_neg (by omega)]
     have e : numD r (partsR dy c 3 h pl) = h.num := by
       rw [e0]
       unfold numD
       rw [if_pos ⟨rfl, by omega⟩]
     rw [e, e0, hdr1 (by show ¬ (3 : Int) = 4; decide) (by show ¬ (3 : Int) = 5; decide) (by omega)]
     exact key
 · have hsq := num_sq hk ho
   have pk2 : pckR s h s.lst = { predR r.dy r.la h.num with ck := h.ck } := by unfold pckR; rw [hl, hd]
   have : f = 1 ∨ f = 2 ∨ f = 3 := by omega
   rcases this with rfl | rfl | rfl
   · have e : numD r (partsR dy c 1 h pl) = h.num := by
       unfold numD
       rw [if_neg (by show ¬ ((1 : Int) = 3 ∧ _); omega), hka]
       exact hnum (.inl (by decide))
     rw [e, hdr1t rfl (by omega)]
     have := h5 rfl
     rw [pk2] at this
     exact this
   · have e0 : partsR dy c 2 h pl = ⟨c, 2, lw 5 h.num, lw 16 h.tm, h.mr, 0, h.ck, { Hd.z with k := h.k }, Dy.z, crcH 2 h, pl⟩ := by unfold partsR; rw [if_neg (by decide), if_neg (by decide), if_neg (by decide), if_pos rfl, if_pos hk]
     have e : numD r (partsR dy c 2 h pl) = h.num := by
       rw [e0]
       unfold numD
       rw [if_neg (by show ¬ ((2 : Int) = 3 ∧ _); omega), hka]
       have := hnum (.inl (by decide))
       rw [show wid 2 h.k 0 = 5 by simp [wid, hk]] at this ⊢
       exact this
     have et : (lsbR 32 r.la.tm 16 (lw 16 h.tm)).1 = h.tm := by
       rcases h2 with h2 | h2
       · omega
       · rcases h2.2 with h7 | h7
         · exact absurd ⟨rfl, hk⟩ h7
         · rw [hl]; exact fits_of h7 (List.mem_map_of_mem (f := fun x : Hd => x.tm) hm)
     have ei : (predR r.dy r.la h.num).id = h.id := by
       have := h6 ⟨rfl, hk⟩
       rw [pk2] at this
       exact this
     rw [e, e0, hdr2t rfl (by omega), et]
     rw [hpd, if_neg (by rw [q1]; omega)] at ei ⊢
     obtain ⟨k, tos, id, fx, ttl, fr, to, fp, tp, ck, mr, ty, sq, tm, sr⟩ := h
     dsimp only at *
     simp only [Hd.mk.injEq]
     simp only [hsq, ei, true_and, and_true]
     omega
   · have e0 : partsR dy c 3 h pl = ⟨c, 3, lw 8 h.num, h.tm, h.mr, h.id, h.ck, { Hd.z with k := h.k }, Dy.z, crcH 3 h, pl⟩ := by unfold partsR; rw [if_neg (by decide), if_neg (by decide), if_neg (by decide), if_neg (by decide), if_pos hk]
     have e : numD r (partsR dy c 3 h pl) = h.num := by
       rw [e0]
       unfold numD
       rw [if_neg (by show ¬ ((3 : Int) = 3 ∧ _); omega), hka]
       have := hnum (.inr hk)
       rw [show wid 3 h.k 0 = 8 by simp [wid, hk]] at this ⊢
       exact this
     rw [e, e0, hdr3t rfl (by omega)]
     rw [hpd, if_neg (by rw [q1]; omega)]
     obtain ⟨k, tos, id, fx, ttl, fr, to, fp, tp, ck, mr, ty, sq, tm, sr⟩ := h
     dsimp only at *
     simp only [Hd.mk.injEq]
     simp only [hsq, true_and, and_true]
     omega
end
open Go.RowKit
def Inv (c : Co) (d : De) : Prop := c.ok = true ∧ d.ok = true ∧ ∀ i, i < 16 → (c.at i).act = true → (d.cx.getD i Rc.z).st = 2 ∧ (d.cx.getD i Rc.z).la = (c.at i).lst ∧ (d.cx.getD i Rc.z).dy = (c.at i).dy
theorem decR_ck {b : List UInt8} {hb : b.length ≤ 140737488355328} {k : Int} {ck ck' : Bool} {c : Int} (hp : peekR b = (c, 4, 0)) : decR b hb k ck = decR b hb k ck' := by
 unfold decR
 rw [hp]
 unfold decB
 rfl
theorem decR_k5 {b : List UInt8} {hb : b.length ≤ 140737488355328} {k k' : Int} {ck ck' : Bool} {c : Int} (hp : peekR b = (c, 5, 0)) : decR b hb k ck = decR b hb k' ck' := by
 rw [decR_b hp (by omega), decR_b hp (by omega)]
 rfl
theorem raw_enc {b : List UInt8} (h : b.length ≤ 1500) : (encR (rawS b)).1 = 210 :: b := by
 have e : rawS b = rawD b := rfl
 rw [e, enc_ok (by rw [rawD_ok]; exact decide_eq_true h), rawD_hd]
 rfl
theorem raw_dec {d : De} {b : List UInt8} (hd : d.ok = true) (h0 : b ≠ []) (h : b.length ≤ 1500) (hb : (210 :: b).length ≤ 140737488355328) : decompR d (210 :: b) hb = ⟨d, b, [], 0⟩ := by
 have hp : peekR (210 :: b) = (0, 6, 0) := rfl
 have h1 : 1 ≤ b.length := by
   cases b with
   | nil => exact absurd rfl h0
   | cons _ _ => simp
 rw [dcp_6y hd hp ((dec6_e b hb).2 ⟨h1, h⟩), dec6_p b hb h]
 rfl
theorem partsR_f {dy : Dy} {c f : Int} {h : Hd} {pl : List UInt8} (hf : 1 ≤ f ∧ f ≤ 5) : (partsR dy c f h pl).f = f ∧ (partsR dy c f h pl).cx = c ∧ (partsR dy c f h pl).pl = pl ∧ (partsR dy c f h pl).ck = crcH f h := by
 have : f = 1 ∨ f = 2 ∨ f = 3 ∨ f = 4 ∨ f = 5 := by omega
 rcases this with rfl | rfl | rfl | rfl | rfl
 · exact ⟨rfl, rfl, rfl, rfl⟩
 · unfold partsR; rw [if_neg (by decide), if_neg (by decide), if_neg (by decide), if_pos rfl]; split <;> exact ⟨rfl, rfl, rfl, rfl⟩
 · unfold partsR; rw [if_neg (by decide), if_neg (by decide), if_neg (by decide), if_neg (by decide)]; split <;> exact ⟨rfl, rfl, rfl, rfl⟩
 · exact ⟨rfl, rfl, rfl, rfl⟩
 · exact ⟨rfl, rfl, rfl, rfl⟩
theorem partsR_lo {dy : Dy} {c f : Int} {h : Hd} {pl : List UInt8} (hf : 1 ≤ f ∧ f ≤ 3) : (partsR dy c f h pl).h.k = h.k ∧ (partsR dy c f h pl).ud = h.ck := by
 have : f = 1 ∨ f = 2 ∨ f = 3 := by omega
 rcases this with rfl | rfl | rfl
 · exact ⟨rfl, rfl⟩
 · unfold partsR; rw [if_neg (by decide), if_neg (by decide), if_neg (by decide), if_pos rfl]; split <;> exact ⟨rfl, rfl⟩
 · unfold partsR; rw [if_neg (by decide), if_neg (by decide), if_neg (by decide), if_neg (by decide)]; split <;> exact ⟨rfl, rfl⟩
theorem de_set {d : De} {i : Nat} {r : Rc} (hd : d.ok = true) (hr : r.ok = true) : (d.set i r).ok = true := by
 unfold De.ok at hd ⊢
 simp only [Bool.and_eq_true, decide_eq_true_eq, List.all_eq_true] at hd ⊢
 refine ⟨hd.1, ?_, fun x hx => ?_⟩
 · show (d.cx.set _ r).length = 16; rw [List.length_set]; exact hd.2.1
 · rcases List.mem_or_eq_of_mem_set hx with hx | rfl
   · exact hd.2.2 x hx
   · exact hr
theorem rc_mk {r : Rc} (he : r.er = 0) (hst : r.st = 2) (h1 : r.la.ok = true) (h2 : r.dy.ok = true) (h3 : r.la.k = 2 ∨ r.dy = Dy.z) : r.ok = true := by
 unfold Rc.ok
 rw [he, hst, if_neg (by decide), if_pos (.inr rfl), h1, h2, decide_eq_true h3]
 rfl
theorem set_getD {d : De} {i k : Nat} {r : Rc} (hl : d.cx.length = 16) (hi : i < 16) : (d.set i r).cx.getD k Rc.z = if k = i then r else d.cx.getD k Rc.z := by
 show (d.cx.set ((i : Int).toNat) r).getD k Rc.z = _
 rw [Int.toNat_natCast, List.getD_eq_getElem?_getD, List.getElem?_set]
 split
 · rename_i e; subst e; rw [if_pos (by omega), if_pos rfl]; rfl
 · rename_i e; rw [if_neg (fun k => e k.symm), List.getD_eq_getElem?_getD]
theorem co_at {c : Co} {i k : Nat} {s : Sn} (hl : c.cx.length = 16) (hi : i < 16) : (c.set i s).at k = if k = i then s else c.at k := by
 unfold Co.set Co.at
 rw [List.getD_eq_getElem?_getD, List.getElem?_set]
 split
 · rename_i e; subst e; rw [if_pos (by omega), if_pos rfl]; rfl
 · rename_i e; rw [if_neg (fun k => e k.symm), List.getD_eq_getElem?_getD]
theorem reb_lo {m : Int} {r : Rc} {s : Sm} {h : Hd} (h1 : ¬ (s.f = 4 ∨ s.f = 5)) (h2 : hdrD r s (numD r s) = h) (h3 : crcH s.f h = s.ck) : rebR m r s = (h, true) := by
 unfold rebR
 have h4 : fitD s h = true := by unfold fitD; exact decide_eq_true h3
 rw [if_neg h1, h2, if_pos h4]
theorem reb_hi {m : Int} {r : Rc} {s : Sm} {h : Hd} (h1 : s.f = 4 ∨ s.f = 5) (h2 : hdrD r s 0 = h) (h3 : crcH s.f h = s.ck) : rebR m r s = (h, true) := by
 unfold rebR
 have h4 : fitD s h = true := by unfold fitD; exact decide_eq_true h3
 rw [if_pos h1, h2, h4]
theorem inv_comp {c : Co} {d : De} {b pl : List UInt8} {h : Hd} {i : Nat} (hI : Inv c d) (hp : parsR b = ((h, pl), 0)) (hf : findR c.cx h = some i) (hb : (compC c i h pl).2.length ≤ 140737488355328) :
   ∃ d' fb, decompR d (compC c i h pl).2 hb = ⟨d', b, fb, 0⟩ ∧ Inv (compC c i h pl).1 d' := by
 obtain ⟨hc, hd, hI3⟩ := hI
 obtain ⟨ho, hbld, -, -, hpl⟩ := pars_ok hp
 obtain ⟨hi, hs, hh, hoth⟩ := find_of hc hf
 obtain ⟨w1, w2, w3, w4⟩ := co_w hc
 have hcl := co_len hc
 obtain ⟨f, hff⟩ : ∃ f, (ctxR c.m c.w (c.at i) h).2 = f := ⟨_, rfl⟩
 obtain ⟨x, hxx⟩ : ∃ x, (ctxR c.m c.w (c.at i) h).1 = x := ⟨_, rfl⟩
 have hm := ctx_mid w3 hs hh
 rw [hff, hxx] at hm
 obtain ⟨hmid, hf15, hf5, hf4, hm3⟩ := hm
 have hlo := ctx_lo (m := c.m) (s := c.at i) (h := h) w3
 rw [hff, hxx] at hlo
 have hoff : f ≠ 5 → (c.at i).act = true := fun k => by
   cases ha : (c.at i).act with
   | true => rfl
   | false => exact absurd (hff.symm.trans (ctx_act w3 hs ha)) k
 have hPok := parts_ok (dy := x.dy) (c := (i : Int)) (pl := pl) ho hmid.dok hmid.dz ⟨by omega, by omega⟩ hf15 hpl
 obtain ⟨p1, p2, p3, p4⟩ := partsR_f (dy := x.dy) (c := (i : Int)) (h := h) (pl := pl) hf15
 have hB : (compC c i h pl).2 = hdL (partsR x.dy i f h pl) ++ (partsR x.dy i f h pl).pl := by
   unfold compC
   rw [hff, hxx, enc_ok hPok]
 have hC : (compC c i h pl).1 = c.set i (csF c.m c.w h x f) := by unfold compC; rw [hff, hxx]
 obtain ⟨-, hdl, hrok⟩ := de_ctx (c := (i : Int)) hd (by omega) (by omega)
 rw [Int.toNat_natCast] at hrok
 obtain ⟨r, hr⟩ : ∃ r, d.cx.getD i Rc.z = r := ⟨_, rfl⟩
 rw [hr] at hrok
 have hr3 := hI3 i hi
 rw [hr] at hr3
 have hpk := ret_peek (partsR x.dy i f h pl) hPok (partsR x.dy i f h pl).pl
 rw [p1, p2, ← hB] at hpk
 have hretA : ∀ (B : List UInt8) (_ : hdL (partsR x.dy i f h pl) ++ (partsR x.dy i f h pl).pl = B) (hb' : B.length ≤ 140737488355328), decR B hb' (partsR x.dy i f h pl).h.k (decide ((partsR x.dy i f h pl).ud ≠ 0)) = .inl (partsR x.dy i f h pl) := fun B e hb' => by
   subst e
   exact ret_dec _ hPok hb'
 have hret := hretA _ hB.symm hb
 have hsame : (c.at i).act = true → sameR (c.at i).lst h = true := fun ha => (sn_refs hs ha (hh ha) _ (mem_lst (ok_rf hs ha))).2
 have hrc := rc_ok hrok
 -- what is decoded
 have hdec : decR (compC c i h pl).2 hb r.la.k (decide (r.la.ck ≠ 0)) = .inl (partsR x.dy i f h pl) := by
   by_cases k5 : f = 5
   · have hpk5 := hpk
     rw [k5] at hpk5
     rw [decR_k5 hpk5]
     exact hret
   · have ha := hoff k5
     obtain ⟨r1, r2, r3⟩ := hr3 ha
     have hk : r.la.k = h.k := by rw [r2]; exact (sameR_iff.1 (hsame ha)).1
     by_cases k4 : f = 4
     · have hpk4 := hpk
       rw [k4] at hpk4
       have e4 : (partsR x.dy i f h pl).h.k = h.k := by rw [k4]; rfl
       rw [e4] at hret
       rw [hk, decR_ck hpk4]
       exact hret
     · obtain ⟨l1, l2, l3, l4⟩ := hlo (by omega)
       obtain ⟨q1, q2⟩ := partsR_lo (dy := x.dy) (c := (i : Int)) (f := f) (h := h) (pl := pl) (by omega)
       rw [q1, q2] at hret
       have e : decide (r.la.ck ≠ 0) = decide (h.ck ≠ 0) := by
         have := (chg_of l2).2.2.2.2
         rw [← r2] at this
         simp only [ne_eq, decide_not, this]
       rw [hk, e]
       exact hret
 have hst : ¬ r.st < needR f := by
   have := hrc.2.1
   unfold needR
   split
   · omega
   · rename_i k5
     have := (hr3 (hoff k5)).1
     split <;> omega
 have hreb : rebR d.m r (partsR x.dy i f h pl) = (h, true) := by
   by_cases k3 : f ≤ 3
   · obtain ⟨l1, l2, l3, l4⟩ := hlo k3
     obtain ⟨r1, r2, r3⟩ := hr3 l1
     refine reb_lo (by omega) ?_ (by rw [p1, p4])
     rw [l3] at hPok ⊢
     exact hdr_lo r2 r3 (mem_lst (ok_rf hs l1)) ((hrc.2.2.2 (by omega)).1) (by rw [← r3]; exact (hrc.2.2.2 (by omega)).2.1) ho (hsame l1) ⟨hf15.1, k3⟩ l4
   · refine reb_hi (by omega) ?_ (by rw [p1, p4])
     by_cases k5 : f = 5
     · rw [hdr5 (by rw [p1]; exact k5), k5]
       rfl
     · have k4 : f = 4 := by omega
       have ha := hoff k5
       obtain ⟨r1, r2, r3⟩ := hr3 ha
       obtain ⟨q1, q2, q3, q4, q5, q6⟩ := sameR_iff.1 (hsame ha)
       rw [hdr4 (by rw [p1]; exact k4), k4, r2, q2, q3, q4, q5, q6]
       rfl
 refine ⟨d.set i (accR r (partsR x.dy i f h pl) h), ackR d.m i (partsR x.dy i f h pl) h, ?_, ?_⟩
 · rw [dcp_g hd hpk (by omega) (by rw [Int.toNat_natCast]; exact hr) hst hdec, decP_g hreb (by rw [p3, hbld]), p3, hbld]
 · have hacc : (accR r (partsR x.dy i f h pl) h).dy = x.dy := by
     unfold accR
     dsimp only
     rw [p1]
     split
     · rename_i k
       rcases k with k | k
       · rw [k]; rfl
       · rw [k]; rfl
     · obtain ⟨l1, l2, l3, l4⟩ := hlo (by omega)
       rw [l3]
       exact (hr3 l1).2.2
   have hF := csF_ok w3 w4 hmid ho (f := f) hf5.1 hf4.1 hm3
   rw [hC]
   refine ⟨?_, de_set hd (rc_mk rfl rfl ho (by rw [hacc]; exact hmid.dok) (by rw [hacc]; exact hmid.dz)), fun k hk ha => ?_⟩
   · rw [← hC]; exact comp_ok hc ho hf
   · rw [set_getD hdl hi]
     rw [co_at hcl hi] at ha ⊢
     split
     · rename_i e
       rw [if_pos e] at ha
       exact ⟨rfl, (csF_lst w3 f).symm, hacc⟩
     · rename_i e
       rw [if_neg e] at ha
       exact hI3 k hk ha
theorem inv_step {c : Co} {d : De} {b : List UInt8} (hI : Inv c d) (h0 : b ≠ []) (h1 : b.length ≤ 1500) : ∃ c' y, comprR c b = ((c', y), 0) ∧ y.length ≤ 3000 ∧ ∀ hb : y.length ≤ 140737488355328, ∃ d' fb, decompR d y hb = ⟨d', b, fb, 0⟩ ∧ Inv c' d' := by
 have hc := hI.1
 have raw : ∃ c' y, ((c, (encR (rawS b)).1), (0 : Int)) = ((c', y), 0) ∧ y.length ≤ 3000 ∧ ∀ hb : y.length ≤ 140737488355328, ∃ d' fb, decompR d y hb = ⟨d', b, fb, 0⟩ ∧ Inv c' d' := by
   refine ⟨c, 210 :: b, by rw [raw_enc h1], by simp; omega, fun hb => ⟨d, [], raw_dec hI.2.1 h0 h1 hb, hI⟩⟩
 unfold comprR
 rw [if_pos hc, if_neg (by rintro (k | k); exact h0 k; omega)]
 split
 · rename_i hp
   have hp2 : parsR b = (((parsR b).1.1, (parsR b).1.2), 0) := by rw [← hp]
   split
   · rename_i i hf
     split
     · exact raw
     · refine ⟨_, _, rfl, ?_, fun hb => inv_comp hI hp2 hf hb⟩
       obtain ⟨ho, -, -, -, hpl⟩ := pars_ok hp2
       obtain ⟨hi, hs, hh, -⟩ := find_of hc hf
       have hm := ctx_mid (co_w hc).2.2.1 hs hh
       have hPok := parts_ok (c := (i : Int)) (pl := (parsR b).1.2) ho hm.1.dok hm.1.dz ⟨by omega, by omega⟩ hm.2.1 hpl
       have h9 := hd_len _ hPok
       have h8 := (Sm.of _ hPok).1
       rw [enc_ok hPok]
       dsimp only
       rw [List.length_append]
       omega
   · exact raw
 · exact raw
open Go.RowKit
theorem wref_l (w q : Nm) (hne : w ≠ q) (l : List Rc) (i : Nat) (hi : i < l.length) (m c : Int) (s : Sm) (a : AV) (hr : (l.getD i Rc.z).ok = true) : LP Tryz.prog gm 66 [.ptr w 0] [(w, ⟨112, wkC m c s a q (i * 19)⟩), (q, ⟨71, l.flatMap Rc.cs⟩)] (fun _ => (.tup [], [(w, ⟨112, wkC m c s a q (i * 19)⟩), (q, ⟨71, (l.set i (refR (l.getD i Rc.z))).flatMap Rc.cs⟩)])) := by
 have h := wref_c (G := gm) w q hne l i hi m c s a (l.getD i Rc.z) (rc_ok hr).1 (rc_ok hr).2.1
 rwa [set_at hi] at h
theorem wacc_l (w q : Nm) (hne : w ≠ q) (l : List Rc) (i : Nat) (hi : i < l.length) (m c : Int) (s : Sm) (a : AV) (hd : Hd) : LP Tryz.prog gm 68 [.ptr w 0, hd.av] [(w, ⟨112, wkC m c s a q (i * 19)⟩), (q, ⟨71, l.flatMap Rc.cs⟩)] (fun _ => (fbv (ackR m c s hd), [(w, ⟨112, wkC m c s a q (i * 19)⟩), (q, ⟨71, (l.set i (accR (l.getD i Rc.z) s hd)).flatMap Rc.cs⟩)])) := by
 have h := wacc_c (G := gm) w q hne l i hi m c s a (l.getD i Rc.z) hd
 rwa [set_at hi] at h
section
variable (d : De) (b : List UInt8) (hb : b.length ≤ 140737488355328)
theorem dcmp_d (h : d.ok = true) (hl : d.cx.length = 16) (i : Nat) (f : Int) (hp : peekR b = ((i : Int), f, 0)) (hi : i < d.cx.length) (h6 : f ≠ 6) (hs : ¬ (d.cx.getD i Rc.z).st < needR f) (hD : dse (decR b hb (d.cx.getD i Rc.z).la.k (decide ((d.cx.getD i Rc.z).la.ck ≠ 0))) ≠ 0) : LP Tryz.prog gm 25 [d.av, bv b] [] (fun _ => (dre (decompR d b hb), [])) := by
 rw [dcp_d (r := d.cx.getD i Rc.z) h hp h6 rfl hs hD]
 have hv := dvalid_c (G := gm) d
 rw [h] at hv
 have hq := fpeek_c (G := gm) b
 rw [hp] at hq
 dsimp only [pe] at hq
 have hd := fdecode_d (G := gm) b hb (d.cx.getD i Rc.z).la.k (icmp .neq (d.cx.getD i Rc.z).la.ck 0)
 rw [neq_ck] at hd
 rw [← neq_ck] at hd
 have e0 := neq_ck (d.cx.getD i Rc.z).la.ck
 rw [← e0] at hD ⊢
 clear e0
 generalize dse (decR b hb (d.cx.getD i Rc.z).la.k (icmp .neq (d.cx.getD i Rc.z).la.ck 0)) = E at hd hD ⊢
 generalize dsm (decR b hb (d.cx.getD i Rc.z).la.k (icmp .neq (d.cx.getD i Rc.z).la.ck 0)) = S at hd
 refine goW [] Tryz.func25 rfl ?_
 conv => whnf
 repeat' ((first
   | (show LFresh _; rw [ix19 i]; refine LFresh.mk fun r => ?_)
   | exact Nm.b 0
   | (refine And.intro ?_ ?_; (focus (first | (show KeepX _ _ _; exact KeepX.refl) | (show _ ≤ (List.flatMap Rc.cs _).length; rw [fm_len Rc.cs_len]; (try dsimp only); omega) | exact T.kx | exact T.side)))
   | (show LC _ _ _ _ _ _; first | refine LC.pure (hv) ?_ | refine LC.own (rcclone_c d.cx (by omega) (by omega)) ?_ | refine LC.pure (hq) ?_ | refine LC.pure (needed_c _) ?_ | refine LC.pure (hd) ?_ | refine goE ?_)
   | (show AC _ _ _; first | (refine AC.sub Rc.cs_len i 0 Rc.z _ ?_ (by decide) hi rfl ?_; focus omega) | (refine AC.sub Rc.cs_len i 1 Rc.z _ ?_ (by decide) hi rfl ?_; focus omega) | (refine AC.sub Rc.cs_len i 10 Rc.z _ ?_ (by decide) hi rfl ?_; focus omega))
   | refine T.s ?_
   | ((first | refine goB (fun h => ?_) (fun h => ?_) | refine AB.dec (fun h => ?_) (fun h => ?_) | refine AB.gen (fun h => ?_) (fun h => ?_)) <;> try (exfalso; omega))
   | refine LFresh.mk fun r => ?_
   | (show SQ _ _ _ _ _ _ _; first | refine gX 12 [2, 3] [0, 1, 2, 3, 4, 5, 6] [] ?_ | refine gX 13 [] [0, 1, 2, 3, 4, 5, 6, 7, 8, 9] [] ?_ | refine gX 14 [3, 6, 8] [0, 1, 2, 3, 4, 5, 6, 7, 8, 9] [] ?_ | refine gX 15 [0, 2] [0, 1, 2, 3, 4, 5, 6] [] ?_ | refine gX 16 [] [0, 1, 2, 3, 4, 5, 6, 7, 8, 9, 10, 11, 12, 13, 14, 15, 16, 17, 18, 19, 20, 21, 22, 23, 24, 25, 26] [] ?_ | refine gX 22 [0, 2] [0, 1, 2, 3, 4, 5, 6] [] ?_ | refine gX 23 [] [0, 1, 2, 3, 4, 5, 6, 7, 8, 9, 10, 11] [] ?_ | refine gX 26 [0, 4] [0, 1, 2, 3, 4, 5, 6, 7, 8] [] ?_)
   | exact T.z
   | fail) <;> conv => whnf)
 all_goals (try dsimp only)
 all_goals
   refine RL.dre .n .n rfl ?_
   (repeat first | refine goH ?_ | apply LH.here | apply LH.next)
   rfl
theorem dcmp_g (h : d.ok = true) (hl : d.cx.length = 16) (i : Nat) (f : Int) (hp : peekR b = ((i : Int), f, 0)) (hi : i < d.cx.length) (h6 : f ≠ 6) (hs : ¬ (d.cx.getD i Rc.z).st < needR f) (s : Sm) (hD : decR b hb (d.cx.getD i Rc.z).la.k (decide ((d.cx.getD i Rc.z).la.ck ≠ 0)) = .inl s) (hf : 1 ≤ s.f ∧ s.f ≤ 5) (hn : 0 ≤ s.n ∧ s.n < 65536) (hpl : s.pl.length ≤ 1500) (hr : (d.cx.getD i Rc.z).ok = true) : LP Tryz.prog gm 25 [d.av, bv b] [] (fun _ => (dre (decompR d b hb), [])) := by
 rw [dcp_g (r := d.cx.getD i Rc.z) h hp h6 rfl hs hD]
 have hv := dvalid_c (G := gm) d
 rw [h] at hv
 have hq := fpeek_c (G := gm) b
 rw [hp] at hq
 dsimp only [pe] at hq
 have hd : LP Tryz.prog gm 62 [bv b, iAV (d.cx.getD i Rc.z).la.k, .bool (icmp .neq (d.cx.getD i Rc.z).la.ck 0)] [] (fun _ => (.tup [s.av, iAV 0], [])) := by
   have := fdecode_d (G := gm) b hb (d.cx.getD i Rc.z).la.k (icmp .neq (d.cx.getD i Rc.z).la.ck 0)
   rw [neq_ck, hD, dsm_inl] at this
   rw [neq_ck]
   exact this
 obtain ⟨⟨x, ok⟩, hx⟩ : ∃ y, rebR d.m (d.cx.getD i Rc.z) s = y := ⟨_, rfl⟩
 have hreb : ∀ w q : Nm, w ≠ q → _ := fun w q hne => wreb_c w q hne d.cx i hi d.m i s (bv s.pl) hf hn
 simp only [hx] at hreb
 clear hD hp
 cases ok with
 | false =>
   rw [decP_f hx]
   clear hx
   refine goW [] Tryz.func25 rfl ?_
   conv => whnf
   repeat' ((first
     | (show LFresh _; rw [ix19 i]; refine LFresh.mk fun r => ?_)
     | exact Nm.b 0
     | (refine And.intro ?_ ?_; (focus (first | (show KeepX _ _ _; exact KeepX.refl) | (show _ ≤ (List.flatMap Rc.cs _).length; rw [fm_len Rc.cs_len]; (try dsimp only); omega) | exact T.kx | exact T.side)))
     | (show LC _ _ _ _ _ _; first | refine LC.pure (hv) ?_ | refine LC.own (rcclone_c d.cx (by omega) (by omega)) ?_ | refine LC.pure (hq) ?_ | refine LC.pure (needed_c _) ?_ | refine LC.pure (hd) ?_ | (apply LC.twoK (fun hne => hreb _ _ hne); (repeat first | refine goH ?_ | apply LH.here | apply LH.next); refine ⟨rfl, ?_⟩; (repeat first | refine goH ?_ | apply LH.here | apply LH.next); refine ⟨rfl, ?_⟩; (repeat first | refine goH ?_ | apply LH.here | apply LH.next)) | (apply LC.twoK (fun hne => wref_l _ _ hne d.cx i hi _ _ s (bv s.pl) hr); (repeat first | refine goH ?_ | apply LH.here | apply LH.next); refine ⟨rfl, ?_⟩; (repeat first | refine goH ?_ | apply LH.here | apply LH.next); refine ⟨rfl, ?_⟩; (repeat first | refine goH ?_ | apply LH.here | apply LH.next)) | (apply LC.twoK (fun hne => wcomp_s _ _ hne d.cx i hi _ _ s (bv s.pl) _); (repeat first | refine goH ?_ | apply LH.here | apply LH.next); refine ⟨rfl, ?_⟩; (repeat first | refine goH ?_ | apply LH.here | apply LH.next); refine ⟨rfl, ?_⟩; (repeat first | refine goH ?_ | apply LH.here | apply LH.next)) | refine goE ?_)
     | (show AC _ _ _; first | (refine AC.sub Rc.cs_len i 0 Rc.z _ ?_ (by decide) hi rfl ?_; focus omega) | (refine AC.sub Rc.cs_len i 1 Rc.z _ ?_ (by decide) hi rfl ?_; focus omega) | (refine AC.sub Rc.cs_len i 10 Rc.z _ ?_ (by decide) hi rfl ?_; focus omega))
     | refine T.s ?_
     | ((first | refine goB (fun h => ?_) (fun h => ?_) | refine AB.dec (fun h => ?_) (fun h => ?_) | refine AB.gen (fun h => ?_) (fun h => ?_)) <;> try (exfalso; omega))
     | refine LFresh.mk fun r => ?_
     | (show SQ _ _ _ _ _ _ _; first | refine gX 12 [2, 3] [0, 1, 2, 3, 4, 5, 6] [] ?_ | refine gX 13 [] [0, 1, 2, 3, 4, 5, 6, 7, 8, 9] [] ?_ | refine gX 14 [3, 6, 8] [0, 1, 2, 3, 4, 5, 6, 7, 8, 9] [] ?_ | refine gX 15 [0, 2] [0, 1, 2, 3, 4, 5, 6] [] ?_ | refine gX 16 [] [0, 1, 2, 3, 4, 5, 6, 7, 8, 9, 10, 11, 12, 13, 14, 15, 16, 17, 18, 19, 20, 21, 22, 23, 24, 25, 26] [] ?_ | refine gX 22 [0, 2] [0, 1, 2, 3, 4, 5, 6] [] ?_ | refine gX 23 [] [0, 1, 2, 3, 4, 5, 6, 7, 8, 9, 10, 11] [] ?_ | refine gX 26 [0, 4] [0, 1, 2, 3, 4, 5, 6, 7, 8] [] ?_)
     | exact T.z
     | fail) <;> conv => whnf)
   all_goals (try dsimp only)
   all_goals
     refine RL.dre .n (.b _) (by simp) ?_
     (repeat first | refine goH ?_ | apply LH.here | apply LH.next)
     rfl
 | true =>
   have hB := pbuild_c (G := gm) x s.pl (by omega)
   have k1 := fun hz => decP_g (c := (i : Int)) hx hz
   have k2 := fun hz => decP_b (c := (i : Int)) hx hz
   generalize (bldR x s.pl).2 = E at hB k1 k2
   generalize (bldR x s.pl).1 = B at hB k1 k2
   clear hx
   by_cases hE : E = 0
   · subst hE
     rw [k1 rfl]
     clear k1 k2
     refine goW [23] Tryz.func25 rfl ?_
     conv => whnf
     repeat' ((first
       | (show LFresh _; rw [ix19 i]; refine LFresh.mk fun r => ?_)
       | exact Nm.b 0
       | (refine And.intro ?_ ?_; (focus (first | (show KeepX _ _ _; exact KeepX.refl) | (show _ ≤ (List.flatMap Rc.cs _).length; rw [fm_len Rc.cs_len]; (try dsimp only); omega) | exact T.kx | exact T.side)))
       | (show LC _ _ _ _ _ _; first | refine LC.pure (hv) ?_ | refine LC.own (rcclone_c d.cx (by omega) (by omega)) ?_ | refine LC.pure (hq) ?_ | refine LC.pure (needed_c _) ?_ | refine LC.pure (hd) ?_ | refine LC.pure (hB) ?_ | (apply LC.twoK (fun hne => hreb _ _ hne); (repeat first | refine goH ?_ | apply LH.here | apply LH.next); refine ⟨rfl, ?_⟩; (repeat first | refine goH ?_ | apply LH.here | apply LH.next); refine ⟨rfl, ?_⟩; (repeat first | refine goH ?_ | apply LH.here | apply LH.next)) | (apply LC.twoK (fun hne => wacc_l _ _ hne d.cx i hi _ _ s (bv s.pl) x); (repeat first | refine goH ?_ | apply LH.here | apply LH.next); refine ⟨rfl, ?_⟩; (repeat first | refine goH ?_ | apply LH.here | apply LH.next); refine ⟨rfl, ?_⟩; (repeat first | refine goH ?_ | apply LH.here | apply LH.next)) | refine goE ?_)
       | (show AC _ _ _; first | (refine AC.sub Rc.cs_len i 0 Rc.z _ ?_ (by decide) hi rfl ?_; focus omega) | (refine AC.sub Rc.cs_len i 1 Rc.z _ ?_ (by decide) hi rfl ?_; focus omega) | (refine AC.sub Rc.cs_len i 10 Rc.z _ ?_ (by decide) hi rfl ?_; focus omega))
       | refine T.s ?_
       | ((first | refine goB (fun h => ?_) (fun h => ?_) | refine AB.dec (fun h => ?_) (fun h => ?_) | refine AB.gen (fun h => ?_) (fun h => ?_)) <;> try (exfalso; omega))
       | refine LFresh.mk fun r => ?_
       | (show SQ _ _ _ _ _ _ _; first | refine gX 12 [2, 3] [0, 1, 2, 3, 4, 5, 6] [] ?_ | refine gX 13 [] [0, 1, 2, 3, 4, 5, 6, 7, 8, 9] [] ?_ | refine gX 14 [3, 6, 8] [0, 1, 2, 3, 4, 5, 6, 7, 8, 9] [] ?_ | refine gX 15 [0, 2] [0, 1, 2, 3, 4, 5, 6] [] ?_ | refine gX 16 [] [0, 1, 2, 3, 4, 5, 6, 7, 8, 9, 10, 11, 12, 13, 14, 15, 16, 17, 18, 19, 20, 21, 22, 23, 24, 25, 26] [] ?_ | refine gX 22 [0, 2] [0, 1, 2, 3, 4, 5, 6] [] ?_ | refine gX 23 [] [0, 1, 2, 3, 4, 5, 6, 7, 8, 9, 10, 11] [] ?_ | (refine goD tQ mixed 26 [0, 4] [0, 1, 2, 3, 4, 5, 6, 7, 8] [o, g] (by kernel_rfl) ?_))
       | (show CutL _ _ _ _ _ _ _ _; first | (refine goK tQ [23] 23 (S := Nm × Nm × Nm × Nm × Nm) [] (fun (a, o, w, g, q) => ⟨[(5, bv B), (7, iAV 0), (2, .ptr a 0), (4, .ptr o 0), (12, .ptr w 0), (13, .ptr g 0)], [(a, ⟨24, [iAV d.m, rcv d.cx]⟩), (o, ⟨24, [iAV d.m, .vw q 0 d.cx.length 19]⟩), (w, ⟨112, wkC d.m i s (bv s.pl) q (i * 19)⟩), (g, ⟨65, x.cs⟩), (q, ⟨71, d.cx.flatMap Rc.cs⟩)], True, 0⟩) ?_ ?_; (rintro ⟨a, o, w, g, q⟩ hok; (try dsimp only at hok); (repeat (have hk := And.left hok; replace hok := And.right hok))); rotate_left) | refine CutL.go tQ [23] ?_)
       | (show AtC _ _ _ _ _ _ _ _; first | (show AtC 23 _ _ _ _ _ _ _; exact goM 23 (S := Nm × Nm × Nm × Nm × Nm) ((_, _, _, _, _))) | (apply AtC.mk' (id := 23) (S := Nm × Nm × Nm × Nm × Nm) ((_, _, _, _, _)); all_goals (try exact KC12)))
       | exact T.z
       | fail) <;> conv => whnf)
     all_goals (try dsimp only)
     all_goals
       refine RL.dre (.b _) (.b _) (by simp) ?_
       (repeat first | refine goH ?_ | apply LH.here | apply LH.next)
       rfl
   · rw [k2 hE]
     clear k1 k2
     refine goW [] Tryz.func25 rfl ?_
     conv => whnf
     repeat' ((first
       | (show LFresh _; rw [ix19 i]; refine LFresh.mk fun r => ?_)
       | exact Nm.b 0
       | (refine And.intro ?_ ?_; (focus (first | (show KeepX _ _ _; exact KeepX.refl) | (show _ ≤ (List.flatMap Rc.cs _).length; rw [fm_len Rc.cs_len]; (try dsimp only); omega) | exact T.kx | exact T.side)))
       | (show LC _ _ _ _ _ _; first | refine LC.pure (hv) ?_ | refine LC.own (rcclone_c d.cx (by omega) (by omega)) ?_ | refine LC.pure (hq) ?_ | refine LC.pure (needed_c _) ?_ | refine LC.pure (hd) ?_ | refine LC.pure (hB) ?_ | (apply LC.twoK (fun hne => hreb _ _ hne); (repeat first | refine goH ?_ | apply LH.here | apply LH.next); refine ⟨rfl, ?_⟩; (repeat first | refine goH ?_ | apply LH.here | apply LH.next); refine ⟨rfl, ?_⟩; (repeat first | refine goH ?_ | apply LH.here | apply LH.next)) | refine goE ?_)
       | (show AC _ _ _; first | (refine AC.sub Rc.cs_len i 0 Rc.z _ ?_ (by decide) hi rfl ?_; focus omega) | (refine AC.sub Rc.cs_len i 1 Rc.z _ ?_ (by decide) hi rfl ?_; focus omega) | (refine AC.sub Rc.cs_len i 10 Rc.z _ ?_ (by decide) hi rfl ?_; focus omega))
       | refine T.s ?_
       | ((first | refine goB (fun h => ?_) (fun h => ?_) | refine AB.dec (fun h => ?_) (fun h => ?_) | refine AB.gen (fun h => ?_) (fun h => ?_)) <;> try (exfalso; omega))
       | refine LFresh.mk fun r => ?_
       | (show SQ _ _ _ _ _ _ _; first | refine gX 12 [2, 3] [0, 1, 2, 3, 4, 5, 6] [] ?_ | refine gX 13 [] [0, 1, 2, 3, 4, 5, 6, 7, 8, 9] [] ?_ | refine gX 14 [3, 6, 8] [0, 1, 2, 3, 4, 5, 6, 7, 8, 9] [] ?_ | refine gX 15 [0, 2] [0, 1, 2, 3, 4, 5, 6] [] ?_ | refine gX 16 [] [0, 1, 2, 3, 4, 5, 6, 7, 8, 9, 10, 11, 12, 13, 14, 15, 16, 17, 18, 19, 20, 21, 22, 23, 24, 25, 26] [] ?_ | refine gX 22 [0, 2] [0, 1, 2, 3, 4, 5, 6] [] ?_ | refine gX 23 [] [0, 1, 2, 3, 4, 5, 6, 7, 8, 9, 10, 11] [] ?_ | refine gX 26 [0, 4] [0, 1, 2, 3, 4, 5, 6, 7, 8] [] ?_)
       | exact T.z
       | fail) <;> conv => whnf)
     all_goals (try dsimp only)
     all_goals
       refine RL.dre .n .n rfl ?_
       (repeat first | refine goH ?_ | apply LH.here | apply LH.next)
       rfl
theorem dcmp_c_ : LP Tryz.prog gm 25 [d.av, bv b] [] (fun _ => (dre (decompR d b hb), [])) := by
 cases h : d.ok with
 | false => exact dcmp_n d b hb h
 | true =>
   obtain ⟨⟨c, f, e⟩, hp⟩ : ∃ y, peekR b = y := ⟨_, rfl⟩
   have hl : d.cx.length = 16 := (de_ctx (c := 0) h (by decide) (by decide)).2.1
   by_cases he : e = 0
   · subst he
     obtain ⟨hc, hf⟩ := peek_rng hp
     by_cases h6 : f = 6
     · subst h6
       obtain ⟨r, rfl, rfl⟩ := peek6 hp
       exact dcmp_6 d _ hb h hl hp
     · obtain ⟨i, rfl⟩ := Int.eq_ofNat_of_zero_le hc.1
       have hi : i < d.cx.length := by omega
       by_cases hs : (d.cx.getD i Rc.z).st < needR f
       · exact dcmp_c d b hb h hl i f hp hi h6 hs
       · by_cases hE : dse (decR b hb (d.cx.getD i Rc.z).la.k (decide ((d.cx.getD i Rc.z).la.ck ≠ 0))) = 0
         · obtain ⟨s, h1, h2, h3, h4⟩ := dec_good hE
           have e6 : s.f ≠ 6 := by
             rw [hp] at h4
             have : f = s.f := congrArg (fun y => y.2.1) h4
             omega
           obtain ⟨k1, k2⟩ := sm_n h2 e6
           exact dcmp_g d b hb h hl i f hp hi h6 hs s h1 k1 k2 (s.of h2).1.2.2 (de_ctx h hc.1 hc.2).2.2
         · exact dcmp_d d b hb h hl i f hp hi h6 hs hE
   · exact dcmp_e d b hb h hl c f e hp he
end
open Go.RowKit
def awH : Hd := ⟨1, 0, 5, 0, 64, 0, 0, 0, 0, 0, 0, 0, 0, 0, 0⟩
def awC : Co := ⟨3, 1, List.replicate 16 Sn.z⟩
def awD : De := ⟨3, List.replicate 16 Rc.z⟩
def awP : List UInt8 := pktL awH [9]
def awY : List UInt8 := (comprR awC awP).1.2
theorem awY_e : comprR awC awP = (((comprR awC awP).1.1, awY), 0) := by
 have h : (comprR awC awP).2 = 0 := by kernel_rfl
 unfold awY
 rw [← h]
theorem awY_len : awY.length ≤ 140737488355328 := by
 have h : Nat.ble awY.length 100 = true := by kernel_rfl
 have := Nat.le_of_ble_eq_true h
 omega
theorem aw_1 : decompR awD [83, 1] (by decide) = ⟨awD, [], [⟨0, 2, 0⟩], 8⟩ := by kernel_rfl
theorem aw_2 : ∃ d, decompR awD awY awY_len = ⟨d, awP, [⟨0, 0, 5⟩], 0⟩ ∧ d.ok = true := by
 refine ⟨(decompR awD awY awY_len).d, ?_, by kernel_rfl⟩
 have h1 : (decompR awD awY awY_len).p = awP := by kernel_rfl
 have h2 : (decompR awD awY awY_len).b = [⟨0, 0, 5⟩] := by kernel_rfl
 have h3 : (decompR awD awY awY_len).e = 0 := by kernel_rfl
 rw [← h1, ← h2, ← h3]
theorem awake10_c : LP Tryz.prog gm 8 [] [] (fun _ => (.bool true, [])) := by
 have hn : LP Tryz.prog gm 9 [iAV 3] [] (fun _ => (.tup [awD.av, iAV 0], [])) := by
   have := dnew_c (G := gm) 3
   rwa [show newR 3 = (awD, 0) by kernel_rfl] at this
 have hc : LP Tryz.prog gm 18 [iAV 3, iAV 1] [] (fun _ => (.tup [awC.av, iAV 0], [])) := by
   have := r9new_c (G := gm) 3 1
   rwa [show cnewR 3 1 = (awC, 0) by kernel_rfl] at this
 have hp : LP Tryz.prog gm 32 [awH.av, bv [9]] [] (fun _ => (bv awP, [])) := mpacket_c awH [9] (.inl rfl) (by decide)
 have hz := comp_dat (G := gm) awC awP
 rw [awY_e] at hz
 have h1 := dcmp_c_ awD [83, 1] (by decide)
 rw [aw_1] at h1
 obtain ⟨d, hd, ho⟩ := aw_2
 have h2 := dcmp_c_ awD awY awY_len
 rw [hd] at h2
 have hv := dvalid_c (G := gm) d
 rw [ho] at hv
 have hs := sameT_c (G := gm) awP
 clear hd ho
 generalize (comprR awC awP).1.1 = C1 at hz
 generalize awY = Y at hz h2
 generalize awP = P at hz h2 hp hs
 obtain ⟨dm, dcx⟩ := d
 refine goW [] Tryz.func8 rfl ?_
 conv => whnf
 repeat' ((first
   | (show LC _ _ _ _ _ _; first | refine LC.mk' (h1) [_] ⟨LF.eq rfl, LF.rowF InL.here ?_, trivial⟩ ?_ | refine LC.mk' (hp) [_] ⟨LF.eq rfl, LF.rowF InL.here ?_, trivial⟩ ?_ | refine LC.pure (hn) ?_ | refine LC.pure (hc) ?_ | refine LC.pure (hz) ?_ | refine LC.pure (h2) ?_ | refine LC.pure (hv) ?_ | refine LC.pure (hs) ?_ | refine goE ?_)
   | refine T.s ?_
   | refine goB (fun h => ?_) (fun h => ?_) | refine AB.dec (fun h => ?_) (fun h => ?_) | refine AB.gen (fun h => ?_) (fun h => ?_)
   | refine LFresh.mk fun r => ?_
   | exact T.z
   | fail) <;> conv => whnf)
 all_goals (try dsimp only)
 all_goals first
   | rfl
   | ((show RL _ _ _; refine goR ?_); rfl)
   | trace_state
open Go.RowKit
theorem packets_i {G : Nat → AV} (t : List Int) (a : Nat) (fl : Int) (cnt : Int) (reg : Bool) (h0 : 1 ≤ fl) (h1 : fl ≤ 10) (h2 : 0 ≤ cnt) (h3 : cnt ≤ 100) (ht : t.length ≤ 400) (p : Nm) : LP Tryz.prog G 19 [.ptr p 0, iAV fl, iAV cnt, .bool reg] [(p, dice t a)] (fun _ => (bbv (pksR t a fl.toNat cnt reg).bs, [(p, dice t (pksR t a fl.toNat cnt reg).a)])) := by
 have h := packets_c (G := G) t a fl.toNat cnt reg (by omega) (by omega) h2 h3 ht p
 rwa [show ((fl.toNat : Nat) : Int) = fl by omega] at h
def ndR (c : Co) (d : De) (b : List UInt8) : De := if h : (comprR c b).1.2.length ≤ 140737488355328 then (decompR d (comprR c b).1.2 h).d else d
def nfR (c : Co) (d : De) (b : List UInt8) : List Fb := if h : (comprR c b).1.2.length ≤ 140737488355328 then (decompR d (comprR c b).1.2 h).b else []
theorem step_c {c : Co} {d : De} {b : List UInt8} (hI : Inv c d) (hb : sizedP b) : LP Tryz.prog gm 21 [c.av, bv b] [] (fun _ => (.tup [(comprR c b).1.1.av, bv (comprR c b).1.2, iAV 0], [])) := by
 obtain ⟨c', y, h1, h2, h3⟩ := inv_step hI hb.1 hb.2
 have h := comp_dat (G := gm) c b
 rw [h1] at h ⊢
 exact h
theorem step_d {c : Co} {d : De} {b : List UInt8} (hI : Inv c d) (hb : sizedP b) : LP Tryz.prog gm 25 [d.av, bv (comprR c b).1.2] [] (fun _ => (.tup [(ndR c d b).av, bv b, fbv (nfR c d b), iAV 0], [])) := by
 obtain ⟨c', y, h1, h2, h3⟩ := inv_step hI hb.1 hb.2
 have hl : (comprR c b).1.2.length ≤ 140737488355328 := by rw [h1]; dsimp only; omega
 have h := dcmp_c_ d (comprR c b).1.2 hl
 have e : ndR c d b = (decompR d (comprR c b).1.2 hl).d := by unfold ndR; rw [dif_pos hl]
 have e2 : nfR c d b = (decompR d (comprR c b).1.2 hl).b := by unfold nfR; rw [dif_pos hl]
 rw [e, e2]
 obtain ⟨d', fb, h4, h5⟩ : ∃ d' fb, decompR d (comprR c b).1.2 hl = ⟨d', b, fb, 0⟩ ∧ True := by
   revert hl
   rw [h1]
   intro hl h e e2
   obtain ⟨d', fb, h4, h5⟩ := h3 hl
   exact ⟨d', fb, h4, trivial⟩
 rw [h4] at h ⊢
 exact h
theorem step_i {c : Co} {d : De} {b : List UInt8} (hI : Inv c d) (hb : sizedP b) : Inv (comprR c b).1.1 (ndR c d b) := by
 obtain ⟨c', y, h1, h2, h3⟩ := inv_step hI hb.1 hb.2
 unfold ndR
 rw [h1]
 dsimp only
 rw [dif_pos (by omega)]
 obtain ⟨d', fb, h4, h5⟩ := h3 (by omega)
 rw [h4]
 exact h5
theorem z_at {m w : Int} (i : Nat) : (⟨m, w, List.replicate 16 Sn.z⟩ : Co).at i = Sn.z := by
 unfold Co.at
 rw [List.getD_eq_getElem?_getD, List.getElem?_replicate]
 split <;> rfl
theorem inv_new {m w : Int} (hm : 1 ≤ m ∧ m ≤ 3) (hw : 1 ≤ w ∧ w ≤ 8) : Inv ⟨m, w, List.replicate 16 Sn.z⟩ ⟨m, List.replicate 16 Rc.z⟩ := by
 refine ⟨?_, ?_, fun i hi ha => ?_⟩
 · refine co_iff.2 ⟨⟨hm.1, hm.2, hw.1, hw.2⟩, by simp, fun i hi => ?_, fun i k hk hi => ?_⟩
   · rw [z_at]; rfl
   · rw [z_at]; rfl
 · unfold De.ok modeR
   simp only [Bool.and_eq_true, decide_eq_true_eq, List.all_eq_true]
   refine ⟨hm, by simp, fun x hx => ?_⟩
   obtain rfl := List.eq_of_mem_replicate hx
   rfl
 · rw [z_at] at ha
   cases ha
theorem sized_at {L : List (List UInt8)} (h : ∀ b ∈ L, sizedP b) {i : Nat} (hi : (i : Int) < (L.length : Int)) : sizedP (L.getD i []) := by
 refine h _ ?_
 rw [List.getD_eq_getElem?_getD, List.getElem?_eq_getElem (by omega)]
 exact List.getElem_mem _
attribute [local irreducible] comprR ndR nfR Inv
theorem EDlw1_1 {p : Prop} (h : p := by (repeat' first | exact trivial | (refine And.intro ?_ ?_) | exact LB.nil | (with_reducible exact LB.refl) | (apply LB.cons; (repeat first | refine goH ?_ | apply LH.here | apply LH.next); refine And.intro ?_ ?_; (focus (try (first | (with_reducible rfl) | (refine congrArg (Pl.mk _) ?_; (first | rfl | (simp; done))) | rfl | (with_reducible refine congrArg (Pl.mk _) ?_))))) | (with_reducible assumption) | (exact step_i (by assumption) (sized_at hZ (by assumption))) | (show (_ : AV) = _; (first | (focus (apply Eq.trans; (conv => lhs; whnf); (conv => rhs; whnf); done)) | rfl | ((conv => lhs; whnf); first | rfl | (refine congrArg (AV.int _) ?_; (exact T.num)) | (refine congrArg AV.bool ?_; (exact T.num)) | (refine vwc ?_; first | (exact T.num) | (first | rfl | (simp; done))) | (refine sl_congr ?_ ?_ <;> first | (exact T.num) | (first | rfl | (simp; done))) | (first | rfl | (simp; done))))) | ((with_reducible first | (show (_ : Int) ≤ _) | (show (_ : Int) < _) | (show (_ : Nat) ≤ _) | (show (_ : Nat) < _) | (show (_ : Int) = _) | (show (_ : Nat) = _)); (exact T.num)) | (first | rfl | (simp; done))); first | done | fail) : p := h
theorem returns10_t (t : List Int) (mode width : Int) (ht : t.length ≤ 400) : LP Tryz.prog gm 6 [iv t, iAV mode, iAV width] [] (fun _ => (.bool true, [])) := by
 have hl := light_c (G := gm) t
 rw [decide_eq_true ht] at hl
 have m1 := modR_lt mode 3 (by decide) (by decide)
 have m2 := modR_lt width 8 (by decide) (by decide)
 obtain ⟨m, hm⟩ : ∃ m, iarith .add .i64 1 (modR mode 3) = m := ⟨_, rfl⟩
 obtain ⟨w, hw⟩ : ∃ w, iarith .add .i64 1 (modR width 8) = w := ⟨_, rfl⟩
 have hm2 : 1 ≤ m ∧ m ≤ 3 := by rw [← hm]; (exact T.num)
 have hw2 : 1 ≤ w ∧ w ≤ 8 := by rw [← hw]; (exact T.num)
 have n1 := nextR_lt t 0 4 (by decide) (by decide)
 have hf : 1 ≤ iarith .add .i64 1 (nextR t 0 4) ∧ iarith .add .i64 1 (nextR t 0 4) ≤ 10 := by (exact T.num)
 have hN := dnew_c (G := gm) m
 rw [newR_t hm2] at hN
 have hM := r9new_c (G := gm) m w
 rw [shapR_t ⟨hm2.1, hm2.2, hw2.1, hw2.2⟩] at hM
 have hP := fun p => packets_i (G := gm) t (nextA t (nextA t 0)) _ 60 (oneR t (nextA t 0) 2) hf.1 hf.2 (by decide) (by decide) ht p
 have hZ := pks_sized t (nextA t (nextA t 0)) (iarith .add .i64 1 (nextR t 0 4)).toNat 60 (oneR t (nextA t 0) 2)
 have hY := pks_len t (nextA t (nextA t 0)) (iarith .add .i64 1 (nextR t 0 4)).toNat 60 (oneR t (nextA t 0) 2) (by decide) (by decide)
 generalize (pksR t (nextA t (nextA t 0)) (iarith .add .i64 1 (nextR t 0 4)).toNat 60 (oneR t (nextA t 0) 2)) = K at hP hZ hY
 obtain ⟨Kh, L, Ka⟩ := K
 dsimp only at hP hZ hY
 have hI := inv_new hm2 hw2
 refine goW [] Tryz.func6 rfl ?_
 conv => whnf
 repeat' ((first
   | (show LC _ _ 18 _ _ _; rw [hm, hw]; refine LC.pure hM ?_)
   | (show LC _ _ 9 _ _ _; (try rw [hm]); refine LC.pure hN ?_)
   | exact Nm.b 0
   | (show LC _ _ _ _ _ _; first | refine LC.pure (hl) ?_ | refine LC.own (roll_c t) ?_ | refine LC.pure (mod_c _ _) ?_ | (apply LC.upd (next_c t _ _ ht _); (repeat first | refine goH ?_ | apply LH.here | apply LH.next); refine ⟨rfl, ?_⟩) | (apply LC.upd (one_c t _ _ ht _); (repeat first | refine goH ?_ | apply LH.here | apply LH.next); refine ⟨rfl, ?_⟩) | (apply LC.upd (hP _); (repeat first | refine goH ?_ | apply LH.here | apply LH.next); refine ⟨rfl, ?_⟩) | refine LC.pure (awake10_c) ?_ | refine LC.pure (step_c (c := c) (d := d) (b := L.getD i []) (by assumption) (sized_at hZ (by assumption))) ?_ | refine LC.pure (step_d (c := c) (d := d) (b := L.getD i []) (by assumption) (sized_at hZ (by assumption))) ?_ | refine LC.pure (sameT_c (L.getD i [])) ?_ | refine goE ?_)
   | (show AC _ _ _; first | (refine AC.idx (f := bv) (l := L) i [] (by (try dsimp only); omega) ?_ ?_; (focus (have : (i : Int) < (L.length : Int) := (by assumption); omega))))
   | refine T.s ?_
   | refine goB (fun h => ?_) (fun h => ?_) | refine AB.dec (fun h => ?_) (fun h => ?_) | refine AB.gen (fun h => ?_) (fun h => ?_)
   | refine LFresh.mk fun r => ?_
   | (show SQ _ _ _ (.loop _) _ _ _; first | (apply goO tQ [] 9 (S := Nat × Co × De × Nm × Nm) [13] (fun (i, c, d, a, b) => ⟨[(12, .int .i64 0), (14, .int .i64 i), (9, .ptr a 0), (11, .ptr b 0)], [(a, ⟨41, [iAV c.m, iAV c.w, snv c.cx]⟩), (b, ⟨24, [iAV d.m, rcv d.cx]⟩)], i ≤ L.length ∧ L.length ≤ 202 ∧ Inv c d, L.length - i⟩) ((0, ⟨m, w, List.replicate 16 Sn.z⟩, ⟨m, List.replicate 16 Rc.z⟩, _, _)) (by rfl); (focus (all_goals (try exact KE53); done)); rintro ⟨i, c, d, a, b⟩ hok; (try dsimp only at hok); (repeat (have hk := And.left hok; replace hok := And.right hok))))
   | (show SQ _ _ _ _ _ _ _; first | refine gX 12 [] [0, 1, 2, 3, 4, 5, 6, 7, 8, 9, 10, 11] [a] ?_)
   | (show AtL 9 _ _ _ _ _ _ _ _ _; first | (apply AtL.mk' (id := 9) (S := Nat × Co × De × Nm × Nm) ((i + 1, (comprR c (L.getD i [])).1.1, ndR c d (L.getD i []), _, _)); focus (refine T.a5 ?_ ?_ ?_ ?_ <;> exact EDlw1_1)))
   | exact T.z
   | fail) <;> conv => whnf)
 all_goals (try dsimp only)
 all_goals first
   | ((show RL _ _ _; refine goR ?_); rfl)
   | trace_state
theorem returns10_c (t : List Int) (mode width : Int) : LP Tryz.prog gm 6 [iv t, iAV mode, iAV width] [] (fun _ => (.bool true, [])) := by
 by_cases ht : t.length ≤ 400
 · exact returns10_t t mode width ht
 · have hl := light_c (G := gm) t
   rw [decide_eq_false ht] at hl
   refine goW [] Tryz.func6 rfl ?_
   conv => whnf
   repeat' ((first
     | exact Nm.b 0
     | (show LC _ _ _ _ _ _; first | refine LC.pure (hl) ?_ | refine LC.pure (awake10_c) ?_ | refine goE ?_)
     | refine T.s ?_
     | ((first | refine goB (fun h => ?_) (fun h => ?_) | refine AB.dec (fun h => ?_) (fun h => ?_) | refine AB.gen (fun h => ?_) (fun h => ?_)) <;> try (exfalso; omega))
     | refine LFresh.mk fun r => ?_
     | (show SQ _ _ _ (.loop _) _ _ _; first | (refine goL tQ [] 9 (S := Nat) [9, 11, 13] (fun i => ⟨[(14, .int .i64 i)], [], False, 4 - i⟩) (0) ?_; rintro i hok; (try dsimp only at hok); (repeat (have hk := And.left hok; replace hok := And.right hok))))
     | (show SQ _ _ _ _ _ _ _; first | (refine goD tQ mixed 12 [] [0, 1, 2, 3, 4, 5, 6, 7, 8, 9, 10, 11] [] (by kernel_rfl) ?_))
     | (show AtL _ _ _ _ _ _ _ _ _ _; first | (show AtL 9 _ _ _ _ _ _ _ _ _; exact goN 9 (S := Nat) (i + 1)) | (apply AtL.mk' (id := 9) (S := Nat) (i + 1); all_goals (try exact KC12)))
     | exact T.z
     | fail) <;> conv => whnf)
   all_goals (try dsimp only)
   all_goals first | ((show RL _ _ _; refine goR ?_); rfl) | ((show RL _ _ _; refine goR ?_); simp; done) | (exfalso; simp_all; done) | trace_state
end Go.Proofs.YtkfpgdckdmlhkaaGreatDoor
namespace Go.Proofs.YtkfpgdckdmlhkaaGreatDoor
open Go.ChangeShapes Go.WideShapes Go.ChangeAt Go.RowKit
theorem LP.stmt {P : Program} {G : Nat → AV} {f : FuncId} {args : List AV} (h : LP P G f args [] (fun _ => (.bool true, []))) {W : World} {vs : Array Value} (hg : Glob G (fun _ => none) W) (hr : RdL (fun _ => none) W args vs) :
   Calls P f vs W fun e W' => e = .returned (.bool true) ∧ Below W.heap.size W W' := by
 unfold LP at h
 refine (h.2.2 (fun _ => none) W vs ⟨nofun, nofun, 0, fun _ _ => rfl⟩ hg (by simp) (by simp) hr).mono ?_
 rintro e W' ⟨v, q, rfl, -, -, hv, -, hs⟩
 have hv : Rd _ W' (.bool true) v := hv
 cases hv
 exact ⟨rfl, hs.os, hs.tape, hs.output, hs.size, fun k hk => (hs.old k hk rfl).2⟩
theorem RdL.nil0 {σ : Store} {W : World} : RdL σ W [] #[] := ⟨rfl, fun i hi => by simp at hi⟩
theorem RdL.cons0 {σ : Store} {W : World} {a : AV} {v : Value} {al : List AV} {vs : List Value} (h : Rd σ W a v) (hs : RdL σ W al vs.toArray) : RdL σ W (a :: al) (v :: vs).toArray :=
 ⟨by have := hs.1; simp at this ⊢; omega, fun i hi => by
   cases i with
   | zero => simpa using h
   | succ i =>
     have h2 := hs.2 i (by simp at hi; omega)
     simpa using h2⟩
theorem exists_list {α : Type} (p : Nat → α → Prop) : ∀ (n : Nat), (∀ i, i < n → ∃ x, p i x) → ∃ l : List α, l.length = n ∧ ∀ i x, l[i]? = some x → p i x
 | 0, _ => ⟨[], rfl, by simp⟩
 | n + 1, h => by
   obtain ⟨l, h1, h2⟩ := exists_list p n fun i hi => h i (by omega)
   obtain ⟨x, hx⟩ := h n (by omega)
   refine ⟨l ++ [x], by simp [h1], fun i y hy => ?_⟩
   by_cases hi : i < l.length
   · rw [List.getElem?_append_left hi] at hy
     exact h2 i y hy
   · rw [List.getElem?_append_right (by omega)] at hy
     by_cases h0 : i - l.length = 0
     · rw [h0] at hy
       simp at hy
       subst hy
       have : i = n := by omega
       subst this
       exact hx
     · obtain ⟨k, hk⟩ := Nat.exists_eq_succ_of_ne_zero h0
       rw [hk] at hy
       simp at hy
section
variable {H : Type} {enc : TypeId × Value → H} {P : Program} {W : World} {base : Nat} {sp : Nat → Bool} {held : Bool} {b0 : Nat} {r : Reach}
theorem cell_row {α : Type} {A : α → AV} {u e : TypeId} (hu : P.underlying u = some (.slice e)) (hc : P.cellsOf e = 1) (he : ∀ (fuel : Nat) (c : Value) (y : DataW H × List MemPlace), DataW.trod enc P W base sp held fuel e [c] = some y → ∃ x, Rd (fun _ => none) W (A x) c)
   {c : Value} (hv : Cell.okWide P W r b0 u c) {fuel : Nat} {y : DataW H × List MemPlace} (h : DataW.trod enc P W base sp held fuel u [c] = some y) : ∃ l : List α, Rd (fun _ => none) W (.sl l.length (l.map A)) c := by
 rcases DataW.trod_slice hu h with ⟨h0, -⟩ | ⟨a, len, cap, elems, rest, n, -, h0, -, -, hl, hm, hlen, hel, -⟩
 · obtain rfl := (List.cons.inj h0).1
   exact ⟨[], .slnil⟩
 · obtain rfl := (List.cons.inj h0).1
   have hspot : a.spot = none := by
     simp only [Cell.okWide, hu, Cell.ok] at hv
     exact hv.2.2.2.1
   obtain ⟨b, off, spot⟩ := a
   simp only at hspot
   subst hspot
   have hadd : ∀ i, (⟨b, off, none⟩ : Addr).add i = ⟨b, off + i, none⟩ := fun i => by unfold Addr.add; split <;> simp_all
   obtain ⟨l, h1, h2⟩ := exists_list (fun i x => ∃ v, W.cell? ⟨b, off + i, none⟩ = some v ∧ Rd (fun _ => none) W (A x) v) len (fun i hi => by
     have hE := hel i hi
     rw [List.getElem?_eq_getElem (by omega)] at hE
     obtain ⟨c1, hc1, hy1⟩ := Option.bind_eq_some_iff.1 hE
     obtain ⟨-, h4, h5⟩ := World.cells?_some hc1
     rw [hc] at h4 h5
     match c1, h4 with
     | [v], _ =>
       have h6 := h5 0 (by omega)
       rw [Nat.mul_one, hadd] at h6
       have e0 : (⟨b, off + i, none⟩ : Addr).add 0 = ⟨b, off + i, none⟩ := by simp [Addr.add]
       rw [e0] at h6
       obtain ⟨x, hx⟩ := he n v _ hy1
       exact ⟨x, v, by simpa using h6, hx⟩)
   refine ⟨l, ?_⟩
   rw [h1]
   have h3 : ∀ i (hi : i < l.length), ∃ v, W.cell? ⟨b, off + i, none⟩ = some v ∧ Rd (fun _ => none) W (A l[i]) v := fun i hi => h2 i l[i] (List.getElem?_eq_getElem hi)
   refine .sl len _ b off cap (fun i => (W.cell? ⟨b, off + i, none⟩).getD undef) (fun _ => rfl) hl hm (fun i hi => ?_) (fun i hi => ?_)
   · obtain ⟨v, k1, -⟩ := h3 i (by simpa using hi)
     rw [k1]; rfl
   · have hi' : i < l.length := by simpa using hi
     obtain ⟨v, k1, k2⟩ := h3 i hi'
     rw [k1]
     simpa [List.getD_eq_getElem?_getD, hi'] using k2
theorem cell_ints {u e : TypeId} (hu : P.underlying u = some (.slice e)) (he : P.underlying e = some (.int .i64)) (hc : P.cellsOf e = 1) {c : Value} (hv : Cell.okWide P W r b0 u c) {fuel : Nat} {y : DataW H × List MemPlace} (h : DataW.trod enc P W base sp held fuel u [c] = some y) : ∃ l : List Int, Rd (fun _ => none) W (iv l) c :=
 cell_row (A := iAV) hu hc (fun fuel c y h => by
   obtain ⟨n, h1, -, -⟩ := DataW.trod_int he h
   obtain rfl := (List.cons.inj h1).1
   exact ⟨n, .int _ _⟩) hv h
end
section
variable {H : Type} {enc : TypeId × Value → H} {P : Program} {W : World} {base : Nat} {sp : Nat → Bool} {held : Bool} {b0 : Nat} {r : Reach} {v : Value} {d : DataW H} {p : List MemPlace}
theorem arg_ints {u e : TypeId} (hu : P.underlying u = some (.slice e)) (he : P.underlying e = some (.int .i64)) (hc : P.cellsOf e = 1) (hv : Value.okWide P W r b0 u v) (h : DataW.Trod enc P W base sp held u v d p) : ∃ l : List Int, Rd (fun _ => none) W (iv l) v := by
 obtain ⟨a, len, cap, rfl⟩ := okWide_slice hu hv
 obtain ⟨fuel, hf⟩ := h
 have hv : Cell.okWide P W r b0 u (.slice a len cap) := by simpa only [Value.okWide, hu] using hv
 exact cell_ints hu he hc hv hf
theorem arg_int {u : TypeId} (hu : P.underlying u = some (.int .i64)) (hv : Value.okWide P W r b0 u v) (h : DataW.Trod enc P W base sp held u v d p) : ∃ n : Int, Rd (fun _ => none) W (iAV n) v := by
 obtain ⟨n, rfl, -⟩ := open_int hu hv h
 exact ⟨n, .int _ _⟩
end
end Go.Proofs.YtkfpgdckdmlhkaaGreatDoor
