/-
  Contracts of the functions that the laws reach.
-/
import Derived.Test.YtbagbjacmakfhaaDoorCr01
import Derived.Test.YtbagbjacmakfhaaDoorCr02
import Derived.Test.YtbagbjacmakfhaaDoorCr03
import Derived.Test.YtbagbjacmakfhaaDoorCr04
import Derived.Test.YtbagbjacmakfhaaDoorCr05
import Derived.Test.YtbagbjacmakfhaaDoorCr06
import Derived.Test.YtbagbjacmakfhaaDoorCr07
import Derived.Test.YtbagbjacmakfhaaDoorCr08
import Derived.Test.YtbagbjacmakfhaaDoorCr09
import Derived.Test.YtbagbjacmakfhaaDoorCr10
import Derived.Test.YtbagbjacmakfhaaDoorCr11
import Derived.Test.YtbagbjacmakfhaaDoorCr12
import Derived.Test.YtbagbjacmakfhaaDoorCr13
import Derived.Test.YtbagbjacmakfhaaDoorCr16
import Derived.Test.YtbagbjacmakfhaaDoorCr17
import Derived.Test.YtbagbjacmakfhaaDoorCr18
import Derived.Test.YtbagbjacmakfhaaDoorCr19
set_option maxHeartbeats 8000000
set_option linter.all false
namespace Go.Proofs.YtbagbjacmakfhaaDoor
open Go.RowKit
theorem crc_fit (f : Int) (l : List UInt8) : qL (cbR f) (vv (cbR f) l) = true := by
 have key : ∀ (n : Nat) (p : Nat), p < 2 ^ n → (j6 (n : Int)).toNat = p → qL (n : Int) (vv (n : Int) l) = true := fun n p hp he => by
   have h1 : xV n p (2 ^ n - 1) l < 2 ^ n := wm hp l (by have := Nat.pow_pos (n := n) (show 0 < 2 by decide); omega)
   rw [← crcS_eq, he, zE]
   have h2 : ((xV n p (2 ^ n - 1) l : Nat) : Int) < (2 : Int) ^ n := by
     have := Int.ofNat_lt.2 h1
     rw [Int.natCast_pow] at this
     exact this
   exact ⟨Int.natCast_nonneg _, by show _ ≤ (2 : Int) ^ n - 1; simp only [Int.toNat_natCast]; omega⟩
 unfold cbR
 split
 · exact key 3 3 (by decide) rfl
 · split
   · exact key 7 9 (by decide) rfl
   · exact key 8 7 (by decide) rfl
theorem jd {n : Nat} {v : Int} (h : 0 ≤ v ∧ v ≤ 2 ^ n - 1) : qL (n : Int) v = true := (zE n v).2 h
theorem v8 {h : Hd} (_ : h.ok = true) : 0 ≤ h.num ∧ h.num ≤ 65535 := by
 unfold Hd.num
 split
 · have := wG 16 h.sq; have e : (2 : Int) ^ (16 : Int).toNat = 65536 := rfl; omega
 · have := wG 16 h.id; have e : (2 : Int) ^ (16 : Int).toNat = 65536 := rfl; omega
theorem lw_r {k : Nat} (x : Int) : 0 ≤ lw k x ∧ lw k x ≤ 2 ^ k - 1 := by
 have := wG (k : Int) x
 simp only [Int.toNat_natCast] at this
 omega
theorem hz_k (k : Int) : hzR { Hd.z with k := k } k = true := by unfold hzR; exact decide_eq_true ⟨rfl, rfl, rfl, rfl, rfl, rfl, rfl, rfl, rfl, rfl, rfl, rfl, rfl, rfl, rfl⟩
theorem dzz : dzR Dy.z = true := by decide
theorem wH (s : Sm) (hf : s.f = 1 ∨ s.f = 2 ∨ s.f = 3) (h1 : 0 ≤ s.cx ∧ s.cx < 16 ∧ s.pl.length ≤ 1500) (h2 : qL (cbR s.f) s.ck = true) (hk : s.h.k = 1 ∨ s.h.k = 2) (hz : hzR s.h s.h.k = true) (hd : dzR s.d = true)
   (a : qL (wid s.f s.h.k 0) s.n = true) (b : qL (wid s.f s.h.k 1) s.tm = true) (c : qL (wid s.f s.h.k 2) s.mr = true) (d : qL (wid s.f s.h.k 3) s.id = true) (e : qL 16 s.ud = true) : s.ok = true :=
 ok_low s hf h1 h2 (by unfold zA; rw [a, b, c, d, e]; rfl) hk hz hd
theorem yi : qL 0 0 = true := (zE 0 0).2 (by decide)
theorem u7 {dy : Dy} {c f : Int} {h : Hd} {pl : List UInt8} (ho : h.ok = true) (hd : dy.ok = true) (hz : h.k = 2 ∨ dy = Dy.z) (hc : 0 ≤ c ∧ c < 16) (hf : 1 ≤ f ∧ f ≤ 5) (hp : pl.length ≤ 1500) : (qK dy c f h pl).ok = true := by
 have hk := ok_k ho
 have a := h.of ho
 have hn := v8 ho
 have e16 : qL 16 h.ck = true := jd (n := 16) (by omega)
 have hcrc : ∀ f, qL (cbR f) (kP f h) = true := fun f => crc_fit f _
 have hdd : (decide (h.k = 1) && !(dzR dy)) = false := by
   rcases hz with h2 | h2
   · rw [decide_eq_false (by omega)]; rfl
   · rw [h2, dzz]; simp
 unfold qK
 split
 · exact ok_big _ (.inr rfl) ⟨hc.1, hc.2, hp⟩ (hcrc 5) rfl (by unfold xM; dsimp only; rw [ho, hd, hdd]; rfl)
 · split
   · refine ok_big _ (.inl rfl) ⟨hc.1, hc.2, hp⟩ (hcrc 4) rfl ?_
     have ho4 : ({ h with fr := 0, to := 0, fp := 0, tp := 0, sr := 0 } : Hd).ok = true := by
       have i0 : ∀ n : Int, 0 ≤ n → inR 0 n = true := fun n hn => inR_t ⟨by decide, hn⟩
       unfold Hd.ok jL yM vU at ho ⊢
       dsimp only
       split at ho
       · rename_i k1
         rw [if_pos k1]
         simp only [Bool.and_eq_true, decide_eq_true_eq, i0 65535 (by decide), i0 4294967295 (by decide)] at ho ⊢
         simp only [ho, and_self, true_and]
       · rename_i k1
         split at ho
         · rename_i k2
           rw [if_neg k1, if_pos k2]
           simp only [Bool.and_eq_true, i0 65535 (by decide), i0 4294967295 (by decide)] at ho ⊢
           simp only [ho, and_self, true_and]
         · cases ho
     unfold xM; dsimp only; rw [ho4, hd, hdd]; rfl
   · split
     · refine wH _ (.inl rfl) ⟨hc.1, hc.2, hp⟩ (hcrc 1) hk (hz_k _) dzz (jd (n := 4) (lw_r (k := 4) _)) yi yi yi e16
     · split
       · split
         · rename_i k2
           have e0 : ∀ i, wid 2 h.k i = ([5, 16, 1, 0] : List Int).getD i 0 := fun i => by unfold wid; rw [if_neg (by decide), if_pos ⟨rfl, k2⟩]
           refine wH _ (.inr (.inl rfl)) ⟨hc.1, hc.2, hp⟩ (hcrc 2) hk (hz_k _) dzz ?_ ?_ ?_ ?_ e16
           · show qL (wid 2 h.k 0) _ = true; rw [e0]; exact jd (n := 5) (lw_r (k := 5) _)
           · show qL (wid 2 h.k 1) _ = true; rw [e0]; exact jd (n := 16) (lw_r (k := 16) _)
           · show qL (wid 2 h.k 2) _ = true; rw [e0]; exact jd (n := 1) (by dsimp only; omega)
           · show qL (wid 2 h.k 3) _ = true; rw [e0]; exact yi
         · rename_i k2
           have e0 : ∀ i, wid 2 h.k i = ([5, 0, 0, 0] : List Int).getD i 0 := fun i => by unfold wid; rw [if_neg (by decide), if_neg (fun k => k2 k.2), if_pos rfl]
           refine wH _ (.inr (.inl rfl)) ⟨hc.1, hc.2, hp⟩ (hcrc 2) hk (hz_k _) dzz ?_ ?_ ?_ ?_ e16
           · show qL (wid 2 h.k 0) _ = true; rw [e0]; exact jd (n := 5) (lw_r (k := 5) _)
           · show qL (wid 2 h.k 1) _ = true; rw [e0]; exact yi
           · show qL (wid 2 h.k 2) _ = true; rw [e0]; exact yi
           · show qL (wid 2 h.k 3) _ = true; rw [e0]; exact yi
       · split
         · rename_i k2
           have e0 : ∀ i, wid 3 h.k i = ([8, 32, 1, 16] : List Int).getD i 0 := fun i => by unfold wid; rw [if_neg (by decide), if_neg (by omega), if_neg (by decide), if_pos k2]
           refine wH _ (.inr (.inr rfl)) ⟨hc.1, hc.2, hp⟩ (hcrc 3) hk (hz_k _) dzz ?_ ?_ ?_ ?_ e16
           · show qL (wid 3 h.k 0) _ = true; rw [e0]; exact jd (n := 8) (lw_r (k := 8) _)
           · show qL (wid 3 h.k 1) _ = true; rw [e0]; exact jd (n := 32) (by dsimp only; omega)
           · show qL (wid 3 h.k 2) _ = true; rw [e0]; exact jd (n := 1) (by dsimp only; omega)
           · show qL (wid 3 h.k 3) _ = true; rw [e0]; exact jd (n := 16) (by dsimp only; omega)
         · rename_i k2
           have e0 : ∀ i, wid 3 h.k i = ([16, 0, 0, 0] : List Int).getD i 0 := fun i => by unfold wid; rw [if_neg (by decide), if_neg (by omega), if_neg (by decide), if_neg k2]
           refine wH _ (.inr (.inr rfl)) ⟨hc.1, hc.2, hp⟩ (hcrc 3) hk (hz_k _) dzz ?_ ?_ ?_ ?_ e16
           · show qL (wid 3 h.k 0) _ = true; rw [e0]; exact jd (n := 16) (by dsimp only; omega)
           · show qL (wid 3 h.k 1) _ = true; rw [e0]; exact yi
           · show qL (wid 3 h.k 2) _ = true; rw [e0]; exact yi
           · show qL (wid 3 h.k 3) _ = true; rw [e0]; exact yi
section
variable {m w : Int} {s x : Sn} {h : Hd}
theorem chg_of {a b : Hd} (h : xo a b = 0) : a.tos = b.tos ∧ a.ttl = b.ttl ∧ a.fx = b.fx ∧ a.ty = b.ty ∧ decide (a.ck = 0) = decide (b.ck = 0) := by
 unfold xo at h
 refine ⟨?_, ?_, ?_, ?_, ?_⟩ <;> refine Decidable.byContradiction fun k => ?_ <;> rw [if_neg k] at h <;> (repeat' split at h) <;> omega
end
open Go.RowKit
variable {G : Nat → AV}
theorem phead_d (h : Hd) (ko : h.ok = true) : LP Tryd.prog G 78 [h.av] [] (fun _ => (bv (qq h), [])) := by
 by_cases k : h.k = 1
 · have hl : (qq h).length = 28 := by rw [qT, if_neg (by omega)]
   refine LP.data (yY h ko k) fun q => LF.vc (LF.part InL.here (.here ⟨by decide, ?_, ?_, ?_⟩))
   · simp; omega
   · exact hl.symm ▸ rfl
   · show (qq h).map bAV = _
     rw [List.map_append, List.drop_zero, List.take_left' (by simp; omega)]
 · have k2 : h.k = 2 := by
     unfold Hd.ok at ko
     rw [if_neg k] at ko
     by_cases k2 : h.k = 2
     · exact k2
     · rw [if_neg k2] at ko; cases ko
   have hl : (qq h).length = 40 := by rw [qT, if_pos k2]
   refine LP.data (yX h ko k2) fun q => ?_
   have := LF.rowF (f := bAV) (b := qq h) (q := q) (n := 40) (l := [(q, ⟨5, (qq h).map bAV⟩)]) (F := [q]) InL.here (.here ⟨rfl, hl.symm⟩)
   exact this
theorem csum_h (f : Int) (h : Hd) (ko : h.ok = true) : LP Tryd.prog gm 76 [iAV (cbR f), bv (qq h)] [] (fun _ => (.tup [iAV (kP f h), iAV 0], [])) := by
 have h1 := csum_c (cbR f) (qq h) (by have := headL_le h; omega)
 rw [crcO_cb] at h1
 have ec : kP f h = vv (cbR f) (qq h) := by unfold kP headO; rw [if_pos ko]
 rw [ec]
 exact h1
theorem wt (p : Nm) (s : Sn) (R : AV) (m w : Int) (hd : Hd) (ko : hd.ok = true) (c f : Int) (pl : List UInt8) (hf : 1 ≤ f ∧ f ≤ 5) : LP Tryd.prog gm 38 [.ptr p 0, iAV c, iAV f, bv pl] [(p, ⟨75, wrV s R m w hd⟩)] (fun _ => ((qK s.dy c f hd pl).av, [(p, ⟨75, wrV s R m w hd⟩)])) := by
 have w1 : wid 1 hd.k 0 = 4 := by simp [wid]
 have w2 : wid 2 hd.k 0 = 5 := by simp [wid]; split <;> rfl
 have w3t : hd.k = 2 → wid 3 hd.k 0 = 8 := fun k => by simp [wid, k]
 have w3u : hd.k ≠ 2 → wid 3 hd.k 0 = 16 := fun k => by simp [wid, k]
 have w3 : 1 ≤ wid 3 hd.k 0 ∧ wid 3 hd.k 0 ≤ 32 := by by_cases k : hd.k = 2 <;> first | (rw [w3t k]; decide) | (rw [w3u k]; decide)
 have hn := v8 ko
 have h5 : f = 1 ∨ f = 2 ∨ f = 3 ∨ f = 4 ∨ f = 5 := by omega
 rcases h5 with rfl | rfl | rfl | rfl | rfl
 all_goals
   refine goW [] Tryd.func38 rfl ?_
   conv => whnf
   repeat' ((first | exact Nm.b 0 | (show LC _ _ _ _ _ _; first | refine LC.pure (cbits_c8 _) ?_ | refine LC.pure (phead_d hd ko) ?_ | refine LC.pure (csum_h _ hd ko) ?_ | refine LC.pure (ja _) ?_ | refine LC.pure (v9 _ _) ?_ | refine LC.pure (zZ (wid 1 hd.k 0) _ (by rw [w1]; decide) (by rw [w1]; decide)) ?_ | refine LC.pure (zZ (wid 2 hd.k 0) _ (by rw [w2]; decide) (by rw [w2]; decide)) ?_ | refine LC.pure (zZ (wid 3 hd.k 0) _ w3.1 w3.2) ?_ | refine LC.pure (zZ _ _ (by decide) (by decide)) ?_ | refine goE ?_) | refine T.s ?_ | ((first | apply goB | apply AB.dec | apply AB.gen) <;> intro h <;> try (exfalso; omega)) | refine LQ.mk fun r => ?_ | (show SQ _ _ _ _ _ _ _; first | refine gX 2 [5, 1] [0, 2, 3, 4, 5, 1, 6, 7, 8, 9, 10, 11, 12] [r] ?_ | refine gX 4 [8, 10] [0, 1, 2, 3, 4, 5, 6, 7, 8, 9, 10, 11, 12] [r] ?_ | refine gX 8 [9, 12] [0, 1, 2, 3, 4, 5, 6, 7, 8, 9, 10, 11, 12, 13, 14] [r] ?_ | refine gX 9 [10, 6] [0, 1, 2, 3, 4, 5, 7, 8, 9, 10, 6, 11, 12, 13, 14] [r] ?_ | refine gX 14 [4, 10] [0, 1, 2, 3, 4, 5, 6, 7, 8, 9, 11, 10, 12, 13, 14] [r] ?_ | refine gX 16 [9, 14, 16, 18] [0, 1, 2, 3, 4, 5, 6, 7, 8, 9, 10, 11, 12, 13, 14, 15, 16, 17, 18, 19, 20] [r] ?_) | exact T.z | fail) <;> conv => whnf)
   all_goals (try dsimp only)
   all_goals
     (show RL _ _ _; refine goR ?_)
     unfold qK
     (repeat first | rw [if_pos (by first | assumption | omega)] | rw [if_neg (by first | assumption | omega)])
     (try rw [w1])
     (try rw [w2])
     (try rw [w3t (by assumption)])
     (try rw [w3u (by assumption), lw_small (n := 16) hn.1 (show hd.num < 65536 by omega)])
     rfl
theorem LC.clnP {L : List Hd} {k : Nat} {q : Nm} {off n : Nat} {l : LS} {K : AV → LS → Prop} (ho : off = k * 15) (hn : n = L.length - k) (hk : k ≤ L.length) (hl : L.length ≤ 100000) (h : LH l q fun c _ r => c.cs = L.flatMap Hd.cs ∧ LQ fun r' => K (.vw r' 0 n 15) ((r', ⟨38, (L.drop k).flatMap Hd.cs⟩) :: r)) : LC Tryd.prog G 54 [.vw q off n 15] l K := by
 subst ho hn
 have e : (L.drop k).length = L.length - k := by simp
 have hc := hclone_o (G := G) (L.drop k) (by rw [e]; omega)
 rw [e] at hc
 refine LC.mk' hc [q] ⟨LF.part InL.here (LH.mono h fun c _ r hh => ⟨by decide, by rw [hh.1, qJ Hd.cs_len, ← Nat.add_mul]; exact Nat.mul_le_mul_right _ (by omega), e, ?_⟩), trivial⟩ (LH.mono h fun c _ r hh => hh.2)
 rw [hh.1, kk Hd.cs_len, List.take_of_length_le (by rw [qJ Hd.cs_len, e]; exact Nat.le_refl _)]
theorem xj {p : Prop} (h : p := by (repeat' first | exact trivial | (refine And.intro ?_ ?_) | exact LB.nil | (with_reducible exact LB.refl) | (apply LB.cons; (repeat first | refine goH ?_ | apply LH.here | apply LH.next); refine And.intro ?_ ?_; (focus (try (first | (with_reducible rfl) | (refine congrArg (Pl.mk _) ?_; (first | (with_reducible rfl) | ((try rw [jC hs1]); (try rw [ye hl2]); (try rw [s5 (by assumption)]); (try rw [s4 (by assumption)]); rfl) | rfl)) | rfl | (with_reducible refine congrArg (Pl.mk _) ?_))))) | (with_reducible assumption) | ((with_reducible show (_ : Sn) = fA _ _ _); first | (exact fA_5 hm3 (by assumption)) | (exact fA_4 hm3 (by assumption)) | (exact fA_0 (by omega) (by omega))) | ((with_reducible show (_ : Sn) = _); first | (rw [if_pos (by omega)]; done) | (rw [if_neg (by omega)]; done) | (rw [if_pos ⟨by omega, by assumption⟩]; done)) | (show (_ : AV) = _; (first | (focus (apply Eq.trans; (conv => lhs; whnf); (conv => rhs; whnf); done)) | rfl | ((conv => lhs; whnf); first | rfl | (refine congrArg (AV.int _) ?_; (exact T.num)) | (refine congrArg AV.bool ?_; (exact T.num)) | (refine vwc ?_; first | (exact T.num) | (first | (with_reducible rfl) | ((try rw [jC hs1]); (try rw [ye hl2]); (try rw [s5 (by assumption)]); (try rw [s4 (by assumption)]); rfl) | rfl)) | (refine qe ?_ ?_ <;> first | (exact T.num) | (first | (with_reducible rfl) | ((try rw [jC hs1]); (try rw [ye hl2]); (try rw [s5 (by assumption)]); (try rw [s4 (by assumption)]); rfl) | rfl)) | (first | (with_reducible rfl) | ((try rw [jC hs1]); (try rw [ye hl2]); (try rw [s5 (by assumption)]); (try rw [s4 (by assumption)]); rfl) | rfl)))) | ((with_reducible first | (show (_ : Int) ≤ _) | (show (_ : Int) < _) | (show (_ : Nat) ≤ _) | (show (_ : Nat) < _) | (show (_ : Int) = _) | (show (_ : Nat) = _)); (exact T.num)) | (first | (with_reducible rfl) | ((try rw [jC hs1]); (try rw [ye hl2]); (try rw [s5 (by assumption)]); (try rw [s4 (by assumption)]); rfl) | rfl)); first | done | fail) : p := h
theorem vK (p q : Nm) (hne : p ≠ q) (v : Sn) (m w : Int) (hd : Hd) (f : Int) (hs : 0 ≤ v.sin ∧ v.sin ≤ 32) (hg : 0 ≤ v.lng ∧ v.lng ≤ 3) (h5 : f = 5 → 0 < v.full ∧ v.full ≤ 8) (h4 : f = 4 → 0 < v.refr ∧ v.refr ≤ 8) (hq : 0 ≤ v.ser ∧ v.ser ≤ 1000) (hw : 1 ≤ w ∧ w ≤ 8) (hf : 1 ≤ f ∧ f ≤ 5) (hl : v.rf.length ≤ 100) :
   LP Tryd.prog G 39 [.ptr p 0, iAV f] [(p, ⟨75, wrV v (.vw q 0 v.rf.length 15) m w hd⟩), (q, ⟨38, v.rf.flatMap Hd.cs⟩)] (fun r => (.tup [], [(r, ⟨38, (csF m w hd v f).rf.flatMap Hd.cs⟩), (p, ⟨75, wrV (csF m w hd v f) (.vw r 0 (csF m w hd v f).rf.length 15) m w hd⟩)])) := by
 obtain ⟨F, hF⟩ : ∃ F, vu m hd v f = F := ⟨_, rfl⟩
 have hFr : F.rf = v.rf := (by rw [← hF]; exact F1_dy.2.2)
 have hFs : F.ser = v.ser := (by rw [← hF]; exact F1_dy.2.1)
 have hN := csF_n (m := m) (w := w) (v := v) (h := hd) (f := f)
 have hO := csF_o (m := m) (w := w) (v := v) (h := hd) (f := f)
 rw [hF] at hN hO
 rw [← hFs] at hO
 obtain ⟨NS, hNS⟩ : ∃ NS, csF m w hd v f = NS := ⟨_, rfl⟩
 rw [hNS] at hN hO ⊢
 have s5 : f = 5 → qc .sub .i64 v.full 1 = v.full - 1 := fun e => by have := h5 e; (exact T.num)
 have s4 : f = 4 → qc .sub .i64 v.refr 1 = v.refr - 1 := fun e => by have := h4 e; (exact T.num)
 have hov : qc .sub .i64 ((v.rf.length + 1 : Nat) : Int) w = (v.rf.length : Int) + 1 - w := by (exact T.num)
 by_cases hm3 : m = 3
 all_goals
   refine goW [0, 7, 9] Tryd.func39 rfl ?_
   conv => whnf
   repeat' ((first | ((with_reducible show AB (ql .neq m 3) _ _); first | refine AB.neqT hm3 ?_ | refine AB.neqF hm3 ?_) | (show LC _ _ 54 _ _ _; refine LC.clnP (L := v.rf ++ [hd]) (k := ((v.rf.length : Int) + 1 - w).toNat) ?_ ?_ (by simp; omega) (by simp; omega) ?_; (focus (rw [hov]; omega)); (focus (rw [hov]; simp only [List.length_append, List.length_cons, List.length_nil]; omega)); (repeat first | refine goH ?_ | apply LH.here | apply LH.next); refine And.intro rfl ?_) | exact Nm.b 0 | (refine And.intro ?_ ?_; (focus (first | (with_reducible exact rf_side _) | (with_reducible exact Nat.le_of_eq (qJ Hd.cs_len _).symm) | exact InL.here | exact T.kx | exact T.side))) | (show AQ _ _; first | ((with_reducible show AQ (_ ++ _) _); refine AQ.eq (rf_app v.rf hd rfl) ?_)) | refine T.s ?_ | ((first | apply goB | apply AB.dec | apply AB.gen) <;> intro h) | refine LQ.mk fun r => ?_ | (show SQ _ _ _ _ _ _ _; first | (apply goD tQ qf 12 [] [0, 1, 2, 3, 4, 5, 6, 7, 8, 9, 10, 11, 12, 13, 14, 15] [_] (by kernel_rfl)) | refine gX 13 [] [0, 1, 2, 3, 4, 5, 6, 7, 8, 9, 10, 11] [p] ?_) | (show CutL _ _ _ _ _ _ _ _; first | (refine goK tQ [0, 7, 9] 0 (S := Sn) [0, 1] (fun t1 => ⟨[], [(p, ⟨75, wrV t1 (.vw q 0 v.rf.length 15) m w hd⟩), (q, ⟨38, v.rf.flatMap Hd.cs⟩)], t1 = fA m v f, 0⟩) ?_ ?_; (rintro t1 hok; (try dsimp only at hok); (have q1 := hok; have hs1 : 0 ≤ t1.sin ∧ t1.sin ≤ 32 := (by rw [hok]; exact hs); have hl1 : 0 ≤ t1.lng ∧ t1.lng ≤ 3 := (by rw [hok]; exact hg))); rotate_left) | (refine goK tQ [0, 7, 9] 7 (S := Sn) [0, 1] (fun t2 => ⟨[], [(p, ⟨75, wrV t2 (.vw q 0 v.rf.length 15) m w hd⟩), (q, ⟨38, v.rf.flatMap Hd.cs⟩)], t2 = { t1 with sin := if f = 5 then 0 else min (t1.sin + 1) 32 }, 0⟩) ?_ ?_; (rintro t2 hok; (try dsimp only at hok); (have q2 := hok; have hl2 : 0 ≤ t2.lng ∧ t2.lng ≤ 3 := (by rw [hok]; exact hl1))); rotate_left) | (refine goK tQ [0, 7, 9] 9 (S := Sn) [0] (fun t3 => ⟨[], [(p, ⟨75, wrV t3 (.vw q 0 v.rf.length 15) m w hd⟩), (q, ⟨38, v.rf.flatMap Hd.cs⟩)], t3 = { t2 with lng := if (f = 2 ∨ f = 3) ∧ hd.k = 2 then min (t2.lng + 1) 3 else 0 }, 0⟩) ?_ ?_; (rintro t3 hok; (try dsimp only at hok); (have q3 : t3 = F := (by rw [hok, q2, q1, ← hF]; rfl); have q5 : t3.ser = v.ser := (by rw [q3]; exact hFs); have q6 : t3.rf = v.rf := (by rw [q3, hFr]); rw [← q3] at hN hO)); rotate_left) | refine CutL.go tQ [0, 7, 9] ?_) | (show AtC 0 _ _ _ _ _ _ _; first | (apply AtC.mk' (id := 0) (S := Sn) (v); focus (refine T.a4 ?_ ?_ ?_ <;> exact xj)) | (apply AtC.mk' (id := 0) (S := Sn) ({ v with full := v.full - 1 }); focus (refine T.a4 ?_ ?_ ?_ <;> exact xj)) | (apply AtC.mk' (id := 0) (S := Sn) ({ v with refr := v.refr - 1 }); focus (refine T.a4 ?_ ?_ ?_ <;> exact xj))) | (show AtC 7 _ _ _ _ _ _ _; first | (apply AtC.mk' (id := 7) (S := Sn) ({ t1 with sin := 0 }); focus (refine T.a4 ?_ ?_ ?_ <;> exact xj)) | (apply AtC.mk' (id := 7) (S := Sn) ({ t1 with sin := min (t1.sin + 1) 32 }); focus (refine T.a4 ?_ ?_ ?_ <;> exact xj))) | (show AtC 9 _ _ _ _ _ _ _; first | (apply AtC.mk' (id := 9) (S := Sn) ({ t2 with lng := 0 }); focus (refine T.a4 ?_ ?_ ?_ <;> exact xj)) | (apply AtC.mk' (id := 9) (S := Sn) ({ t2 with lng := min (t2.lng + 1) 3 }); focus (refine T.a4 ?_ ?_ ?_ <;> exact xj))) | (show (_ → _) ∧ (¬ _ → _); first | refine T.y ?_ | refine qE (fun h => ?_) (fun h => ?_)) | exact T.z | fail) <;> try (show (_ : Prop); conv => whnf))
   all_goals (try dsimp only)
   all_goals first
     | (rw [hN (by omega)]; refine RL.own r ?_ ?_ ?_; (focus (simp; done)); (focus ((repeat first | refine goH ?_ | apply LH.here | apply LH.next); trivial)); (focus (simp only [List.length_append, List.length_cons, List.length_nil]; rw [q6]; (repeat' first | exact LB.nil | (with_reducible exact LB.refl) | (apply LB.cons; (repeat first | refine goH ?_ | apply LH.here | apply LH.next); refine And.intro ?_ ?_; (focus (try (first | (with_reducible rfl) | (refine congrArg (Pl.mk _) ?_; (first | rfl | (simp; done))) | rfl | (with_reducible refine congrArg (Pl.mk _) ?_)))))))))
     | (rw [hov] at h; rw [hN (by omega)]; refine RL.own r ?_ ?_ ?_; (focus (simp; done)); (focus ((repeat first | refine goH ?_ | apply LH.here | apply LH.next); trivial)); (focus (simp only [List.length_append, List.length_cons, List.length_nil]; (repeat' first | exact LB.nil | (with_reducible exact LB.refl) | (apply LB.cons; (repeat first | refine goH ?_ | apply LH.here | apply LH.next); refine And.intro ?_ ?_; (focus (try (first | (with_reducible rfl) | (refine congrArg (Pl.mk _) ?_; (first | rfl | (simp; done))) | rfl | (with_reducible refine congrArg (Pl.mk _) ?_)))))))))
     | (rw [hov] at h; rw [hO ⟨hm3, by omega⟩, max0 (ser_e (by omega) hov (by omega)), over_n (l := v.rf) (h := hd) (k := ((v.rf.length : Int) + 1 - w).toNat) (hov.trans (by omega))]; refine RL.own r ?_ ?_ ?_; (focus rfl); (focus ((repeat first | refine goH ?_ | apply LH.here | apply LH.next); trivial)); (focus (repeat' first | exact LB.nil | (with_reducible exact LB.refl) | (apply LB.cons; (repeat first | refine goH ?_ | apply LH.here | apply LH.next); refine And.intro ?_ ?_; (focus (try (first | (with_reducible rfl) | (refine congrArg (Pl.mk _) ?_; (first | rfl | (simp; done))) | rfl | (with_reducible refine congrArg (Pl.mk _) ?_))))))))
     | trace_state
theorem xi {p : Prop} (h : p := by (repeat' first | exact trivial | (refine And.intro ?_ ?_) | exact LB.nil | (with_reducible exact LB.refl) | (apply LB.cons; (repeat first | refine goH ?_ | apply LH.here | apply LH.next); refine And.intro ?_ ?_; (focus (try (first | (with_reducible rfl) | (refine congrArg (Pl.mk _) ?_; (first | (with_reducible rfl) | ((try rw [jC hs1]); (try rw [ye hl2]); (try rw [s5 (by assumption)]); (try rw [s4 (by assumption)]); rfl) | rfl)) | rfl | (with_reducible refine congrArg (Pl.mk _) ?_))))) | (with_reducible assumption) | ((with_reducible show (_ : Sn) = fA _ _ _); first | (exact fA_5 hm3 (by assumption)) | (exact fA_4 hm3 (by assumption)) | (exact fA_0 (by omega) (by omega))) | ((with_reducible show (_ : Sn) = _); first | (rw [if_pos (by omega)]; done) | (rw [if_neg (by omega)]; done) | (rw [if_pos ⟨by omega, by assumption⟩]; done)) | (show (_ : AV) = _; (first | (focus (apply Eq.trans; (conv => lhs; whnf); (conv => rhs; whnf); done)) | rfl | ((conv => lhs; whnf); first | rfl | (refine congrArg (AV.int _) ?_; (exact T.num)) | (refine congrArg AV.bool ?_; (exact T.num)) | (refine vwc ?_; first | (exact T.num) | (first | (with_reducible rfl) | ((try rw [jC hs1]); (try rw [ye hl2]); (try rw [s5 (by assumption)]); (try rw [s4 (by assumption)]); rfl) | rfl)) | (refine qe ?_ ?_ <;> first | (exact T.num) | (first | (with_reducible rfl) | ((try rw [jC hs1]); (try rw [ye hl2]); (try rw [s5 (by assumption)]); (try rw [s4 (by assumption)]); rfl) | rfl)) | (first | (with_reducible rfl) | ((try rw [jC hs1]); (try rw [ye hl2]); (try rw [s5 (by assumption)]); (try rw [s4 (by assumption)]); rfl) | rfl)))) | ((with_reducible first | (show (_ : Int) ≤ _) | (show (_ : Int) < _) | (show (_ : Nat) ≤ _) | (show (_ : Nat) < _) | (show (_ : Int) = _) | (show (_ : Nat) = _)); (exact T.num)) | (first | (with_reducible rfl) | ((try rw [jC hs1]); (try rw [ye hl2]); (try rw [s5 (by assumption)]); (try rw [s4 (by assumption)]); rfl) | rfl)); first | done | fail) : p := h
theorem wcount_n (p : Nm) (v : Sn) (m w : Int) (hd : Hd) (f : Int) (hs : 0 ≤ v.sin ∧ v.sin ≤ 32) (hg : 0 ≤ v.lng ∧ v.lng ≤ 3) (h5 : f = 5 → 0 < v.full ∧ v.full ≤ 8) (h4 : f = 4 → 0 < v.refr ∧ v.refr ≤ 8) (hq : 0 ≤ v.ser ∧ v.ser ≤ 1000) (hw : 1 ≤ w ∧ w ≤ 8) (hf : 1 ≤ f ∧ f ≤ 5) (hm3 : m = 3) (hl : v.rf = []) :
   LP Tryd.prog G 39 [.ptr p 0, iAV f] [(p, ⟨75, wrV v .nils m w hd⟩)] (fun r => (.tup [], [(r, ⟨38, (csF m w hd v f).rf.flatMap Hd.cs⟩), (p, ⟨75, wrV (csF m w hd v f) (.vw r 0 (csF m w hd v f).rf.length 15) m w hd⟩)])) := by
 obtain ⟨F, hF⟩ : ∃ F, vu m hd v f = F := ⟨_, rfl⟩
 have hFr : F.rf = v.rf := (by rw [← hF]; exact F1_dy.2.2)
 have hFs : F.ser = v.ser := (by rw [← hF]; exact F1_dy.2.1)
 have hN := csF_n (m := m) (w := w) (v := v) (h := hd) (f := f)
 have hO := csF_o (m := m) (w := w) (v := v) (h := hd) (f := f)
 rw [hF] at hN hO
 rw [← hFs] at hO
 obtain ⟨NS, hNS⟩ : ∃ NS, csF m w hd v f = NS := ⟨_, rfl⟩
 rw [hNS] at hN hO ⊢
 have s5 : f = 5 → qc .sub .i64 v.full 1 = v.full - 1 := fun e => by have := h5 e; (exact T.num)
 have s4 : f = 4 → qc .sub .i64 v.refr 1 = v.refr - 1 := fun e => by have := h4 e; (exact T.num)
 rw [hl] at hN hO
 all_goals
   refine goW [0, 7, 9] Tryd.func39 rfl ?_
   conv => whnf
   repeat' ((first | ((with_reducible show AB (ql .neq m 3) _ _); first | refine AB.neqT hm3 ?_ | refine AB.neqF hm3 ?_) | exact Nm.b 0 | (refine And.intro ?_ ?_; (focus (first | (with_reducible exact rf_side _) | (with_reducible exact Nat.le_of_eq (qJ Hd.cs_len _).symm) | exact InL.here | exact T.kx | exact T.side))) | refine T.s ?_ | ((first | apply goB | apply AB.dec | apply AB.gen) <;> intro h) | refine LQ.mk fun r => ?_ | (show SQ _ _ _ _ _ _ _; first | (apply goD tQ qf 12 [] [0, 1, 2, 3, 4, 5, 6, 7, 8, 9, 10, 11, 12, 13, 14, 15] [_] (by kernel_rfl)) | refine gX 13 [] [0, 1, 2, 3, 4, 5, 6, 7, 8, 9, 10, 11] [p] ?_) | (show CutL _ _ _ _ _ _ _ _; first | (refine goK tQ [0, 7, 9] 0 (S := Sn) [0, 1] (fun t1 => ⟨[], [(p, ⟨75, wrV t1 .nils m w hd⟩)], t1 = fA m v f, 0⟩) ?_ ?_; (rintro t1 hok; (try dsimp only at hok); (have q1 := hok; have hs1 : 0 ≤ t1.sin ∧ t1.sin ≤ 32 := (by rw [hok]; exact hs); have hl1 : 0 ≤ t1.lng ∧ t1.lng ≤ 3 := (by rw [hok]; exact hg))); rotate_left) | (refine goK tQ [0, 7, 9] 7 (S := Sn) [0, 1] (fun t2 => ⟨[], [(p, ⟨75, wrV t2 .nils m w hd⟩)], t2 = { t1 with sin := if f = 5 then 0 else min (t1.sin + 1) 32 }, 0⟩) ?_ ?_; (rintro t2 hok; (try dsimp only at hok); (have q2 := hok; have hl2 : 0 ≤ t2.lng ∧ t2.lng ≤ 3 := (by rw [hok]; exact hl1))); rotate_left) | (refine goK tQ [0, 7, 9] 9 (S := Sn) [0] (fun t3 => ⟨[], [(p, ⟨75, wrV t3 .nils m w hd⟩)], t3 = { t2 with lng := if (f = 2 ∨ f = 3) ∧ hd.k = 2 then min (t2.lng + 1) 3 else 0 }, 0⟩) ?_ ?_; (rintro t3 hok; (try dsimp only at hok); (have q3 : t3 = F := (by rw [hok, q2, q1, ← hF]; rfl); have q5 : t3.ser = v.ser := (by rw [q3]; exact hFs); rw [← q3] at hN hO)); rotate_left) | refine CutL.go tQ [0, 7, 9] ?_) | (show AtC 0 _ _ _ _ _ _ _; first | (apply AtC.mk' (id := 0) (S := Sn) (v); focus (refine T.a4 ?_ ?_ ?_ <;> exact xi)) | (apply AtC.mk' (id := 0) (S := Sn) ({ v with full := v.full - 1 }); focus (refine T.a4 ?_ ?_ ?_ <;> exact xi)) | (apply AtC.mk' (id := 0) (S := Sn) ({ v with refr := v.refr - 1 }); focus (refine T.a4 ?_ ?_ ?_ <;> exact xi))) | (show AtC 7 _ _ _ _ _ _ _; first | (apply AtC.mk' (id := 7) (S := Sn) ({ t1 with sin := 0 }); focus (refine T.a4 ?_ ?_ ?_ <;> exact xi)) | (apply AtC.mk' (id := 7) (S := Sn) ({ t1 with sin := min (t1.sin + 1) 32 }); focus (refine T.a4 ?_ ?_ ?_ <;> exact xi))) | (show AtC 9 _ _ _ _ _ _ _; first | (apply AtC.mk' (id := 9) (S := Sn) ({ t2 with lng := 0 }); focus (refine T.a4 ?_ ?_ ?_ <;> exact xi)) | (apply AtC.mk' (id := 9) (S := Sn) ({ t2 with lng := min (t2.lng + 1) 3 }); focus (refine T.a4 ?_ ?_ ?_ <;> exact xi))) | (show (_ → _) ∧ (¬ _ → _); first | refine T.y ?_ | refine qE (fun h => ?_) (fun h => ?_)) | exact T.z | fail) <;> try (show (_ : Prop); conv => whnf))
   all_goals (try dsimp only)
   all_goals first
     | (rw [hN (by omega)]; refine RL.own r ?_ ?_ ?_; (focus (simp; done)); (focus ((repeat first | refine goH ?_ | apply LH.here | apply LH.next); trivial)); (focus (simp only [List.length_append, List.length_cons, List.length_nil]; (repeat' first | exact LB.nil | (with_reducible exact LB.refl) | (apply LB.cons; (repeat first | refine goH ?_ | apply LH.here | apply LH.next); refine And.intro ?_ ?_; (focus (try (first | (with_reducible rfl) | (refine congrArg (Pl.mk _) ?_; (first | rfl | (simp; done))) | rfl | (with_reducible refine congrArg (Pl.mk _) ?_)))))))))
     | (rw [hov] at h; rw [hN (by omega)]; refine RL.own r ?_ ?_ ?_; (focus (simp; done)); (focus ((repeat first | refine goH ?_ | apply LH.here | apply LH.next); trivial)); (focus (simp only [List.length_append, List.length_cons, List.length_nil]; (repeat' first | exact LB.nil | (with_reducible exact LB.refl) | (apply LB.cons; (repeat first | refine goH ?_ | apply LH.here | apply LH.next); refine And.intro ?_ ?_; (focus (try (first | (with_reducible rfl) | (refine congrArg (Pl.mk _) ?_; (first | rfl | (simp; done))) | rfl | (with_reducible refine congrArg (Pl.mk _) ?_)))))))))
     | (rw [hov] at h; rw [hO ⟨hm3, by omega⟩, max0 (ser_e (by omega) hov (by omega)), show ((v.rf.length + 1 : Nat) : Int).toNat - (qc .sub .i64 ((v.rf.length + 1 : Nat) : Int) w).toNat = ((v.rf ++ [hd]).drop ((v.rf.length : Int) + 1 - w).toNat).length by rw [hov]; simp; omega]; refine RL.own r ?_ ?_ ?_; (focus rfl); (focus ((repeat first | refine goH ?_ | apply LH.here | apply LH.next); trivial)); (focus (repeat' first | exact LB.nil | (with_reducible exact LB.refl) | (apply LB.cons; (repeat first | refine goH ?_ | apply LH.here | apply LH.next); refine And.intro ?_ ?_; (focus (try (first | (with_reducible rfl) | (refine congrArg (Pl.mk _) ?_; (first | rfl | (simp; done))) | rfl | (with_reducible refine congrArg (Pl.mk _) ?_))))))))
     | trace_state
open Go.RowKit
variable {G : Nat → AV}
open Go.RowKit
variable {G : Nat → AV}
theorem orShl (x c : Int) (hx : 0 ≤ x ∧ x < 16777216) (hc : 0 ≤ c ∧ c < 256) : qF .or .i64 (IntKind.i64.wrap (x * 2 ^ min (Int.toNat 8) IntKind.i64.bits)) c = 256 * x + c := by
 obtain ⟨a, rfl⟩ := Int.eq_ofNat_of_zero_le hx.1
 obtain ⟨b, rfl⟩ := Int.eq_ofNat_of_zero_le hc.1
 have e1 : IntKind.i64.wrap ((a : Int) * 2 ^ min (Int.toNat 8) IntKind.i64.bits) = ((2 ^ 8 * a : Nat) : Int) := by
   show IntKind.i64.wrap ((a : Int) * 256) = _
   rw [IntKind.wrap_i64]
   omega
 rw [e1]
 show IntKind.i64.wrap ((BitVec.ofInt 64 ((2 ^ 8 * a : Nat) : Int) ||| BitVec.ofInt 64 (b : Int)).toNat : Int) = _
 have e : (BitVec.ofInt 64 ((2 ^ 8 * a : Nat) : Int) ||| BitVec.ofInt 64 (b : Int)).toNat = 2 ^ 8 * a + b := by
   rw [BitVec.toNat_or, BitVec.ofInt_natCast, BitVec.ofInt_natCast, BitVec.toNat_ofNat, BitVec.toNat_ofNat, Nat.mod_eq_of_lt (show 2 ^ 8 * a < 2 ^ 64 by omega), Nat.mod_eq_of_lt (show b < 2 ^ 64 by omega), Nat.two_pow_add_eq_or_of_lt (by omega)]
 rw [e, IntKind.wrap_i64]
 omega
theorem qv (b : List UInt8) (a n : Nat) (h4 : n ≤ 4) (ha : a + n ≤ b.length) (hl : b.length ≤ 100000) : LP Tryd.prog G 61 [bv b, iAV a, iAV n] [] (fun _ => (iAV (gB b a n), [])) := by
 have hr : ∀ i, i < n → 0 ≤ gB b a i ∧ gB b a i < 16777216 := fun i hi => by
   have h := beN_rng ((b.drop a).take i)
   have hk : ((b.drop a).take i).length = i := by simp; omega
   rw [hk] at h
   unfold gB
   have : i = 0 ∨ i = 1 ∨ i = 2 ∨ i = 3 := by omega
   rcases this with rfl | rfl | rfl | rfl <;> omega
 have hz : gB b a 0 = 0 := by unfold gB; simp [beN]
 have hor : ∀ i, i < n → qF .or .i64 (IntKind.i64.wrap (gB b a i * 2 ^ min (Int.toNat 8) IntKind.i64.bits)) (IntKind.i64.wrap ((((b.drop a).take n).getD i 0).toNat : Int)) = gB b a (i + 1) := fun i hi => by
   have hg : ((b.drop a).take n).getD i 0 = b.getD (a + i) 0 := by simp [List.getD_eq_getElem?_getD, List.getElem?_take, hi]
   have := (b.getD (a + i) 0).toNat_lt
   have hw : IntKind.i64.wrap ((b.getD (a + i) 0).toNat : Int) = ((b.getD (a + i) 0).toNat : Int) := by rw [IntKind.wrap_i64]; omega
   have e1 : gB b a (i + 1) = 256 * gB b a i + ((b.getD (a + i) 0).toNat : Int) := by
     unfold gB
     rw [List.take_succ_eq_append_getElem (by simp; omega), beN_app]
     simp [List.getD_eq_getElem?_getD, show a + i < b.length by omega]
   rw [hg, hw, orShl _ _ (hr i hi) (by omega), e1]
 have es : ∀ i : Nat, (i : Int) < (((qc .add .i64 (a : Int) (n : Int)).toNat - (a : Int).toNat : Nat) : Int) → i < n := fun i h => by simp only [qc, IntKind.wrap_i64] at h; omega
 refine goW [] Tryd.func61 rfl ?_
 conv => whnf
 repeat' ((first | (show AC _ _ _; first | (refine AC.idx (i) (0) ?_ ?_ ?_; (focus (first | exact rfl | (simp; done) | (simp; omega))); (focus (first | omega | exact T.side)))) | (show AQ _ _; first | (refine AQ.subE a n ?_ ?_ ?_; (focus (first | exact rfl | ((simp only [qc, IntKind.wrap_i64]; omega)) | (simp; omega))); (focus (first | exact rfl | ((simp only [qc, IntKind.wrap_i64]; omega)) | (simp; omega))))) | refine T.s ?_ | ((first | apply goB | apply AB.dec | apply AB.gen) <;> intro h <;> try (exfalso; omega)) | refine LQ.mk fun r => ?_ | (show SQ _ _ _ (.loop _) _ _ _; first | (apply goO tQ [] 3 (S := Nat) [15, 16] (fun i => ⟨[(17, .int .i64 i), (7, .int .i64 (gB b a i))], [], i ≤ n, n - i⟩) (0) (by rfl); (focus (all_goals (try exact KB79); done)); rintro i hok; (try dsimp only at hok))) | (show AtL _ _ _ _ _ _ _ _ _ _; first | (apply AtL.mk' (id := 3) (S := Nat) (i + 1); all_goals (try exact KB79); done) | (apply AtL.mk' (id := 3) (S := Nat) (i + 1); all_goals (try exact KB79))) | (show (_ → _) ∧ (¬ _ → _); first | refine T.y ?_ | refine qE (fun h => ?_) (fun h => ?_)) | exact T.z | refine ⟨_, rfl, rfl, ?_⟩ | fail) <;> conv => whnf)
 all_goals (try dsimp only)
 all_goals (obtain rfl : i = n := (by first | (simp at h; omega) | (simp only [qc, IntKind.wrap_i64] at h; omega) | (have hh := h; (conv at hh => whnf); simp only [qc, IntKind.wrap_i64] at hh; omega) | (trace_state; fail)))
 all_goals (show RL _ _ _; refine goR ?_)
 all_goals rfl
theorem qh6 : ∀ x : Nat, x < 256 → qF .and .i64 ((IntKind.i64.wrap (x : Int)).fdiv (2 ^ min (6 : Int).toNat IntKind.i64.bits)) 1 = ((x / 64 % 2 : Nat) : Int) := by decide +kernel
theorem qh7 : ∀ x : Nat, x < 256 → (IntKind.i64.wrap (x : Int)).fdiv (2 ^ min (7 : Int).toNat IntKind.i64.bits) = ((x / 128 : Nat) : Int) := by decide +kernel
theorem qn7 : ∀ x : Nat, x < 256 → qF .and .i64 (IntKind.i64.wrap (x : Int)) 127 = ((x % 128 : Nat) : Int) := by decide +kernel
theorem bld_z {h : Hd} {p b : List UInt8} (h28 : 28 ≤ b.length) (e : (zC h p).1 = b) : (zC h p).2 = 0 := by
 subst e
 revert h28
 unfold zC
 (repeat' split) <;> intro h28 <;> first | rfl | (simp at h28)
theorem pparse_u (b : List UInt8) (h28 : 28 ≤ b.length) (hl : b.length ≤ 1500) (hr : j9 b = false) : LP Tryd.prog G 32 [bv b] [] (fun _ => (.tup [(qx b).1.1.av, bv (qx b).1.2, iAV (qx b).2], [])) := by
 have hX : (⟨1, IntKind.i64.wrap ((b.getD 1 0).toNat : Int), gB b 4 2, qF .and .i64 ((IntKind.i64.wrap ((b.getD 6 0).toNat : Int)).fdiv (2 ^ min (6 : Int).toNat IntKind.i64.bits)) 1, IntKind.i64.wrap ((b.getD 8 0).toNat : Int), gB b 12 4, gB b 16 4, gB b 20 2, gB b 22 2, gB b 26 2, 0, 0, 0, 0, 0⟩ : Hd) = xk b := by
   unfold xk
   rw [hr, qh6 _ (b.getD 6 0).toNat_lt, wr8 _ (b.getD 1 0).toNat_lt, wr8 _ (b.getD 8 0).toNat_lt]
   rfl
 have hN : wa b = 28 := by unfold wa; rw [hr]; rfl
 have hl : b.length ≤ 100000 := by omega
 have hB := u6 (G := G) (xk b) (b.drop 28) (by simp; omega)
 have hS := wV (G := G) (zC (xk b) (b.drop 28)).1 b
 have hZ : (zC (xk b) (b.drop 28)).1 = b → (zC (xk b) (b.drop 28)).2 = 0 := bld_z h28
 rw [yZ b (by omega) (by omega), hN]
 simp only [j9, Bool.and_eq_true, Bool.and_eq_false_iff, decide_eq_true_eq, decide_eq_false_iff_not, n128] at hr
 by_cases hc : zC (xk b) (b.drop 28) = (b, 0)
 · rw [if_pos hc]
   rw [hc] at hB hS
   rw [decide_eq_true rfl] at hS
   rw [← hX] at hB ⊢
   refine goW [] Tryd.func32 rfl ?_
   conv => whnf
   repeat' ((first | exact Nm.b 0 | (show LC _ _ _ _ _ _; first | refine LC.pure (qv b 4 2 (by decide) (by omega) hl) ?_ | refine LC.pure (qv b 12 4 (by decide) (by omega) hl) ?_ | refine LC.pure (qv b 16 4 (by decide) (by omega) hl) ?_ | refine LC.pure (qv b 20 2 (by decide) (by omega) hl) ?_ | refine LC.pure (qv b 22 2 (by decide) (by omega) hl) ?_ | refine LC.pure (qv b 26 2 (by decide) (by omega) hl) ?_ | refine LC.pure (qv b 30 2 (by decide) (by omega) hl) ?_ | refine LC.pure (qv b 32 4 (by decide) (by omega) hl) ?_ | refine LC.pure (qv b 36 4 (by decide) (by omega) hl) ?_ | refine LC.pure (hB) ?_ | refine LC.pure (hS) ?_ | refine LC.pure (kt (b.drop 28) (by simp; omega)) ?_ | refine goE ?_) | (show AC _ _ _; first | (refine AC.idx 1 0 rfl ?_ ?_; (focus omega)) | (refine AC.idx 6 0 rfl ?_ ?_; (focus omega)) | (refine AC.idx 8 0 rfl ?_ ?_; (focus omega)) | (refine AC.idx 28 0 rfl ?_ ?_; (focus omega)) | (refine AC.idx 29 0 rfl ?_ ?_; (focus omega))) | (show AQ _ _; first | (refine AQ.tailE 28 rfl ?_ ?_; (focus (simp; omega)))) | refine T.s ?_ | ((first | apply goB | apply AB.dec | apply AB.gen) <;> intro h <;> try (exfalso; omega)) | refine LQ.mk fun r => ?_ | (show SQ _ _ _ _ _ _ _; first | (refine goD tQ qf 3 [2, 8, 14, 5, 17, 19, 21, 23, 25] [0, 1, 2, 3, 4, 6, 7, 8, 9, 10, 11, 12, 13, 14, 15, 16, 18, 20, 22, 24, 5, 17, 19, 21, 23, 25, 26, 27] [r] (by kernel_rfl) ?_) | (refine goD tQ qf 3 [2, 8, 14, 5, 17, 19, 21, 23, 25] [0, 1, 2, 3, 4, 6, 7, 8, 9, 10, 11, 12, 13, 14, 15, 16, 18, 20, 22, 24, 5, 17, 19, 21, 23, 25, 26, 27] [] (by kernel_rfl) ?_) | (refine goD tQ qf 7 [7, 11] [0, 1, 2, 3, 4, 5, 6, 7, 8, 9, 10, 11, 12, 13] [] (by kernel_rfl) ?_) | (refine goD tQ qf 9 [] [0, 1, 2, 3, 4, 5, 6, 7, 8, 9] [r] (by kernel_rfl) ?_) | (refine goD tQ qf 9 [] [0, 1, 2, 3, 4, 5, 6, 7, 8, 9] [] (by kernel_rfl) ?_) | (refine goD tQ qf 12 [0, 4] [0, 1, 2, 3, 4, 5, 6, 7] [r] (by kernel_rfl) ?_) | (refine goD tQ qf 12 [0, 4] [0, 1, 2, 3, 4, 5, 6, 7] [] (by kernel_rfl) ?_)) | (show (_ → _) ∧ (¬ _ → _); first | refine T.y ?_ | refine qE (fun h => ?_) (fun h => ?_)) | exact T.z | refine ⟨_, rfl, rfl, ?_⟩ | fail) <;> conv => whnf)
   all_goals (try dsimp only)
   all_goals
     (show RL _ _ _; refine goR ?_)
     rfl
 · rw [if_neg hc]
   rw [decide_eq_false (fun e => hc (Prod.ext e (hZ e)))] at hS
   rw [← hX] at hB hS
   refine goW [] Tryd.func32 rfl ?_
   conv => whnf
   repeat' ((first | exact Nm.b 0 | (show LC _ _ _ _ _ _; first | refine LC.pure (qv b 4 2 (by decide) (by omega) hl) ?_ | refine LC.pure (qv b 12 4 (by decide) (by omega) hl) ?_ | refine LC.pure (qv b 16 4 (by decide) (by omega) hl) ?_ | refine LC.pure (qv b 20 2 (by decide) (by omega) hl) ?_ | refine LC.pure (qv b 22 2 (by decide) (by omega) hl) ?_ | refine LC.pure (qv b 26 2 (by decide) (by omega) hl) ?_ | refine LC.pure (qv b 30 2 (by decide) (by omega) hl) ?_ | refine LC.pure (qv b 32 4 (by decide) (by omega) hl) ?_ | refine LC.pure (qv b 36 4 (by decide) (by omega) hl) ?_ | refine LC.pure (hB) ?_ | refine LC.pure (hS) ?_ | refine LC.pure (kt (b.drop 28) (by simp; omega)) ?_ | refine goE ?_) | (show AC _ _ _; first | (refine AC.idx 1 0 rfl ?_ ?_; (focus omega)) | (refine AC.idx 6 0 rfl ?_ ?_; (focus omega)) | (refine AC.idx 8 0 rfl ?_ ?_; (focus omega)) | (refine AC.idx 28 0 rfl ?_ ?_; (focus omega)) | (refine AC.idx 29 0 rfl ?_ ?_; (focus omega))) | (show AQ _ _; first | (refine AQ.tailE 28 rfl ?_ ?_; (focus (simp; omega)))) | refine T.s ?_ | ((first | apply goB | apply AB.dec | apply AB.gen) <;> intro h <;> try (exfalso; omega)) | refine LQ.mk fun r => ?_ | (show SQ _ _ _ _ _ _ _; first | (refine goD tQ qf 3 [2, 8, 14, 5, 17, 19, 21, 23, 25] [0, 1, 2, 3, 4, 6, 7, 8, 9, 10, 11, 12, 13, 14, 15, 16, 18, 20, 22, 24, 5, 17, 19, 21, 23, 25, 26, 27] [r] (by kernel_rfl) ?_) | (refine goD tQ qf 3 [2, 8, 14, 5, 17, 19, 21, 23, 25] [0, 1, 2, 3, 4, 6, 7, 8, 9, 10, 11, 12, 13, 14, 15, 16, 18, 20, 22, 24, 5, 17, 19, 21, 23, 25, 26, 27] [] (by kernel_rfl) ?_) | (refine goD tQ qf 7 [7, 11] [0, 1, 2, 3, 4, 5, 6, 7, 8, 9, 10, 11, 12, 13] [] (by kernel_rfl) ?_) | (refine goD tQ qf 9 [] [0, 1, 2, 3, 4, 5, 6, 7, 8, 9] [r] (by kernel_rfl) ?_) | (refine goD tQ qf 9 [] [0, 1, 2, 3, 4, 5, 6, 7, 8, 9] [] (by kernel_rfl) ?_) | (refine goD tQ qf 12 [0, 4] [0, 1, 2, 3, 4, 5, 6, 7] [r] (by kernel_rfl) ?_) | (refine goD tQ qf 12 [0, 4] [0, 1, 2, 3, 4, 5, 6, 7] [] (by kernel_rfl) ?_)) | (show (_ → _) ∧ (¬ _ → _); first | refine T.y ?_ | refine qE (fun h => ?_) (fun h => ?_)) | exact T.z | refine ⟨_, rfl, rfl, ?_⟩ | fail) <;> conv => whnf)
   all_goals (try dsimp only)
   all_goals first
     | exact RL.hdn
     | trace_state
theorem pparse_t (b : List UInt8) (h28 : 28 ≤ b.length) (hl : b.length ≤ 1500) (hr : j9 b = true) : LP Tryd.prog G 32 [bv b] [] (fun _ => (.tup [(qx b).1.1.av, bv (qx b).1.2, iAV (qx b).2], [])) := by
 have hX : (⟨2, IntKind.i64.wrap ((b.getD 1 0).toNat : Int), gB b 4 2, qF .and .i64 ((IntKind.i64.wrap ((b.getD 6 0).toNat : Int)).fdiv (2 ^ min (6 : Int).toNat IntKind.i64.bits)) 1, IntKind.i64.wrap ((b.getD 8 0).toNat : Int), gB b 12 4, gB b 16 4, gB b 20 2, gB b 22 2, gB b 26 2, (IntKind.i64.wrap ((b.getD 29 0).toNat : Int)).fdiv (2 ^ min (7 : Int).toNat IntKind.i64.bits), qF .and .i64 (IntKind.i64.wrap ((b.getD 29 0).toNat : Int)) 127, gB b 30 2, gB b 32 4, gB b 36 4⟩ : Hd) = xk b := by
   unfold xk
   rw [hr, qh6 _ (b.getD 6 0).toNat_lt, wr8 _ (b.getD 1 0).toNat_lt, wr8 _ (b.getD 8 0).toNat_lt, qh7 _ (b.getD 29 0).toNat_lt, qn7 _ (b.getD 29 0).toNat_lt]
   rfl
 have hN : wa b = 40 := by unfold wa; rw [hr]; rfl
 have hl : b.length ≤ 100000 := by omega
 have hB := u6 (G := G) (xk b) (b.drop 40) (by simp; omega)
 have hS := wV (G := G) (zC (xk b) (b.drop 40)).1 b
 have hZ : (zC (xk b) (b.drop 40)).1 = b → (zC (xk b) (b.drop 40)).2 = 0 := bld_z h28
 rw [yZ b (by omega) (by omega), hN]
 simp only [j9, Bool.and_eq_true, Bool.and_eq_false_iff, decide_eq_true_eq, decide_eq_false_iff_not, n128] at hr
 by_cases hc : zC (xk b) (b.drop 40) = (b, 0)
 · rw [if_pos hc]
   rw [hc] at hB hS
   rw [decide_eq_true rfl] at hS
   rw [← hX] at hB ⊢
   refine goW [] Tryd.func32 rfl ?_
   conv => whnf
   repeat' ((first | exact Nm.b 0 | (show LC _ _ _ _ _ _; first | refine LC.pure (qv b 4 2 (by decide) (by omega) hl) ?_ | refine LC.pure (qv b 12 4 (by decide) (by omega) hl) ?_ | refine LC.pure (qv b 16 4 (by decide) (by omega) hl) ?_ | refine LC.pure (qv b 20 2 (by decide) (by omega) hl) ?_ | refine LC.pure (qv b 22 2 (by decide) (by omega) hl) ?_ | refine LC.pure (qv b 26 2 (by decide) (by omega) hl) ?_ | refine LC.pure (qv b 30 2 (by decide) (by omega) hl) ?_ | refine LC.pure (qv b 32 4 (by decide) (by omega) hl) ?_ | refine LC.pure (qv b 36 4 (by decide) (by omega) hl) ?_ | refine LC.pure (hB) ?_ | refine LC.pure (hS) ?_ | refine LC.pure (kt (b.drop 40) (by simp; omega)) ?_ | refine goE ?_) | (show AC _ _ _; first | (refine AC.idx 1 0 rfl ?_ ?_; (focus omega)) | (refine AC.idx 6 0 rfl ?_ ?_; (focus omega)) | (refine AC.idx 8 0 rfl ?_ ?_; (focus omega)) | (refine AC.idx 28 0 rfl ?_ ?_; (focus omega)) | (refine AC.idx 29 0 rfl ?_ ?_; (focus omega))) | (show AQ _ _; first | (refine AQ.tailE 40 rfl ?_ ?_; (focus (simp; omega)))) | refine T.s ?_ | ((first | apply goB | apply AB.dec | apply AB.gen) <;> intro h <;> try (exfalso; omega)) | refine LQ.mk fun r => ?_ | (show SQ _ _ _ _ _ _ _; first | (refine goD tQ qf 3 [2, 8, 14, 5, 17, 19, 21, 23, 25] [0, 1, 2, 3, 4, 6, 7, 8, 9, 10, 11, 12, 13, 14, 15, 16, 18, 20, 22, 24, 5, 17, 19, 21, 23, 25, 26, 27] [r] (by kernel_rfl) ?_) | (refine goD tQ qf 3 [2, 8, 14, 5, 17, 19, 21, 23, 25] [0, 1, 2, 3, 4, 6, 7, 8, 9, 10, 11, 12, 13, 14, 15, 16, 18, 20, 22, 24, 5, 17, 19, 21, 23, 25, 26, 27] [] (by kernel_rfl) ?_) | (refine goD tQ qf 7 [7, 11] [0, 1, 2, 3, 4, 5, 6, 7, 8, 9, 10, 11, 12, 13] [] (by kernel_rfl) ?_) | (refine goD tQ qf 9 [] [0, 1, 2, 3, 4, 5, 6, 7, 8, 9] [r] (by kernel_rfl) ?_) | (refine goD tQ qf 9 [] [0, 1, 2, 3, 4, 5, 6, 7, 8, 9] [] (by kernel_rfl) ?_) | (refine goD tQ qf 12 [0, 4] [0, 1, 2, 3, 4, 5, 6, 7] [r] (by kernel_rfl) ?_) | (refine goD tQ qf 12 [0, 4] [0, 1, 2, 3, 4, 5, 6, 7] [] (by kernel_rfl) ?_)) | (show (_ → _) ∧ (¬ _ → _); first | refine T.y ?_ | refine qE (fun h => ?_) (fun h => ?_)) | exact T.z | refine ⟨_, rfl, rfl, ?_⟩ | fail) <;> conv => whnf)
   all_goals (try dsimp only)
   all_goals
     (show RL _ _ _; refine goR ?_)
     rfl
 · rw [if_neg hc]
   rw [decide_eq_false (fun e => hc (Prod.ext e (hZ e)))] at hS
   rw [← hX] at hB hS
   refine goW [] Tryd.func32 rfl ?_
   conv => whnf
   repeat' ((first | exact Nm.b 0 | (show LC _ _ _ _ _ _; first | refine LC.pure (qv b 4 2 (by decide) (by omega) hl) ?_ | refine LC.pure (qv b 12 4 (by decide) (by omega) hl) ?_ | refine LC.pure (qv b 16 4 (by decide) (by omega) hl) ?_ | refine LC.pure (qv b 20 2 (by decide) (by omega) hl) ?_ | refine LC.pure (qv b 22 2 (by decide) (by omega) hl) ?_ | refine LC.pure (qv b 26 2 (by decide) (by omega) hl) ?_ | refine LC.pure (qv b 30 2 (by decide) (by omega) hl) ?_ | refine LC.pure (qv b 32 4 (by decide) (by omega) hl) ?_ | refine LC.pure (qv b 36 4 (by decide) (by omega) hl) ?_ | refine LC.pure (hB) ?_ | refine LC.pure (hS) ?_ | refine LC.pure (kt (b.drop 40) (by simp; omega)) ?_ | refine goE ?_) | (show AC _ _ _; first | (refine AC.idx 1 0 rfl ?_ ?_; (focus omega)) | (refine AC.idx 6 0 rfl ?_ ?_; (focus omega)) | (refine AC.idx 8 0 rfl ?_ ?_; (focus omega)) | (refine AC.idx 28 0 rfl ?_ ?_; (focus omega)) | (refine AC.idx 29 0 rfl ?_ ?_; (focus omega))) | (show AQ _ _; first | (refine AQ.tailE 40 rfl ?_ ?_; (focus (simp; omega)))) | refine T.s ?_ | ((first | apply goB | apply AB.dec | apply AB.gen) <;> intro h <;> try (exfalso; omega)) | refine LQ.mk fun r => ?_ | (show SQ _ _ _ _ _ _ _; first | (refine goD tQ qf 3 [2, 8, 14, 5, 17, 19, 21, 23, 25] [0, 1, 2, 3, 4, 6, 7, 8, 9, 10, 11, 12, 13, 14, 15, 16, 18, 20, 22, 24, 5, 17, 19, 21, 23, 25, 26, 27] [r] (by kernel_rfl) ?_) | (refine goD tQ qf 3 [2, 8, 14, 5, 17, 19, 21, 23, 25] [0, 1, 2, 3, 4, 6, 7, 8, 9, 10, 11, 12, 13, 14, 15, 16, 18, 20, 22, 24, 5, 17, 19, 21, 23, 25, 26, 27] [] (by kernel_rfl) ?_) | (refine goD tQ qf 7 [7, 11] [0, 1, 2, 3, 4, 5, 6, 7, 8, 9, 10, 11, 12, 13] [] (by kernel_rfl) ?_) | (refine goD tQ qf 9 [] [0, 1, 2, 3, 4, 5, 6, 7, 8, 9] [r] (by kernel_rfl) ?_) | (refine goD tQ qf 9 [] [0, 1, 2, 3, 4, 5, 6, 7, 8, 9] [] (by kernel_rfl) ?_) | (refine goD tQ qf 12 [0, 4] [0, 1, 2, 3, 4, 5, 6, 7] [r] (by kernel_rfl) ?_) | (refine goD tQ qf 12 [0, 4] [0, 1, 2, 3, 4, 5, 6, 7] [] (by kernel_rfl) ?_)) | (show (_ → _) ∧ (¬ _ → _); first | refine T.y ?_ | refine qE (fun h => ?_) (fun h => ?_)) | exact T.z | refine ⟨_, rfl, rfl, ?_⟩ | fail) <;> conv => whnf)
   all_goals (try dsimp only)
   all_goals first
     | exact RL.hdn
     | trace_state
theorem xA (b : List UInt8) (hl : b.length ≤ 100000) : LP Tryd.prog G 32 [bv b] [] (fun _ => (.tup [(qx b).1.1.av, bv (qx b).1.2, iAV (qx b).2], [])) := by
 by_cases h : b.length < 28 ∨ 1500 < b.length
 · rw [show qx b = ((Hd.z, []), 2) from if_pos h]
   refine goW [] Tryd.func32 rfl ?_
   conv => whnf
   repeat' ((first | exact Nm.b 0 | refine T.s ?_ | ((first | apply goB | apply AB.dec | apply AB.gen) <;> intro h <;> try (exfalso; omega)) | refine LQ.mk fun r => ?_ | (show SQ _ _ _ _ _ _ _; first | (refine goD tQ qf 3 [2, 8, 14, 5, 17, 19, 21, 23, 25] [0, 1, 2, 3, 4, 6, 7, 8, 9, 10, 11, 12, 13, 14, 15, 16, 18, 20, 22, 24, 5, 17, 19, 21, 23, 25, 26, 27] [] (by kernel_rfl) ?_) | (refine goD tQ qf 7 [7, 11] [0, 1, 2, 3, 4, 5, 6, 7, 8, 9, 10, 11, 12, 13] [] (by kernel_rfl) ?_) | (refine goD tQ qf 9 [] [0, 1, 2, 3, 4, 5, 6, 7, 8, 9] [] (by kernel_rfl) ?_) | (refine goD tQ qf 12 [0, 4] [0, 1, 2, 3, 4, 5, 6, 7] [] (by kernel_rfl) ?_)) | (show (_ → _) ∧ (¬ _ → _); first | refine T.y ?_ | refine qE (fun h => ?_) (fun h => ?_)) | exact T.z | refine ⟨_, rfl, rfl, ?_⟩ | fail) <;> conv => whnf)
   all_goals (try dsimp only)
   all_goals exact RL.hdn
 · cases hr : j9 b with
   | true => exact pparse_t b (by omega) (by omega) hr
   | false => exact pparse_u b (by omega) (by omega) hr
end Go.Proofs.YtbagbjacmakfhaaDoor
