import Derived.Test.YtnlpjbedkdhlbaaFmt6
namespace Go.Proofs.Ytnlpjbedkdhlbaa
open Go.RowKit
set_option linter.all false
variable {G : Nat → AV}
/-- Numbers that make whole bytes. -/
structure Seg (ws vs : List Int) (bs : List UInt8) : Prop where
  len : ws.length = vs.length
  fit : ∀ i, i < ws.length → (0 ≤ ws.getD i 0 ∧ ws.getD i 0 ≤ 32) ∧ 0 ≤ vs.getD i 0 ∧ vs.getD i 0 < 2 ^ (ws.getD i 0).toNat
  sum : sumW ws = 8 * bs.length
  eq : ∀ rest, bytesB (packB ws vs ++ rest) = bs ++ bytesB rest
theorem Seg.nil : Seg [] [] [] := ⟨rfl, fun i hi => by simp at hi, rfl, fun _ => rfl⟩
theorem Seg.app {ws vs ws' vs' : List Int} {bs bs' : List UInt8} (h : Seg ws vs bs) (k : Seg ws' vs' bs') : Seg (ws ++ ws') (vs ++ vs') (bs ++ bs') := by
  refine ⟨by simp [h.len, k.len], fun i hi => ?_, by have := h.sum; have := k.sum; simp [sumW] at *; omega, fun rest => ?_⟩
  · by_cases hc : i < ws.length
    · have := h.fit i hc
      simp only [List.getD_eq_getElem?_getD, List.getElem?_append_left hc, List.getElem?_append_left (show i < vs.length by rw [← h.len]; exact hc)] at *
      exact this
    · have := k.fit (i - ws.length) (by simp at hi; omega)
      simp only [List.getD_eq_getElem?_getD] at *
      rw [List.getElem?_append_right (by omega), List.getElem?_append_right (by rw [← h.len]; omega), ← h.len]
      exact this
  · rw [packB_app _ _ _ _ h.len, List.append_assoc, h.eq, k.eq, List.append_assoc]
theorem seg8 (v : Int) (h : 0 ≤ v ∧ v < 256) : Seg [8] [v] [b8 v] := by
  refine ⟨rfl, fun i hi => ?_, rfl, fun rest => ?_⟩
  · obtain rfl : i = 0 := by simpa using hi
    exact ⟨by decide, h⟩
  · show bytesB ((bitsW 8 v ++ []) ++ rest) = _
    rw [List.append_nil, bytes8 v h.1]; rfl
theorem seg16 (v : Int) (h : 0 ≤ v ∧ v < 65536) : Seg [16] [v] (putB v 2) := by
  refine ⟨rfl, fun i hi => ?_, rfl, fun rest => ?_⟩
  · obtain rfl : i = 0 := by simpa using hi
    exact ⟨by decide, h⟩
  · show bytesB ((bitsW 16 v ++ []) ++ rest) = _
    rw [List.append_nil, bytes16 v h.1]
theorem seg32 (v : Int) (h : 0 ≤ v ∧ v < 4294967296) : Seg [32] [v] (putB v 4) := by
  refine ⟨rfl, fun i hi => ?_, rfl, fun rest => ?_⟩
  · obtain rfl : i = 0 := by simpa using hi
    exact ⟨by decide, h⟩
  · show bytesB ((bitsW 32 v ++ []) ++ rest) = _
    rw [List.append_nil, bytes32 v h.1]
theorem seg53 (a b : Int) (ha : 0 ≤ a ∧ a < 32) (hb : 0 ≤ b ∧ b < 8) : Seg [5, 3] [a, b] [b8 (8 * a + b)] := by
  refine ⟨rfl, fun i hi => ?_, rfl, fun rest => ?_⟩
  · have hi : i < 2 := by simpa using hi
    rcases i with _ | _ | i
    · exact ⟨by decide, ha⟩
    · exact ⟨by decide, hb⟩
    · omega
  · show bytesB ((bitsW 5 a ++ (bitsW 3 b ++ [])) ++ rest) = _
    rw [List.append_nil, bytesB_cons _ _ (by simp), byte53 a b ha hb]; rfl
theorem seg35 (a b : Int) (ha : 0 ≤ a ∧ a < 8) (hb : 0 ≤ b ∧ b < 32) : Seg [3, 5] [a, b] [b8 (32 * a + b)] := by
  refine ⟨rfl, fun i hi => ?_, rfl, fun rest => ?_⟩
  · have hi : i < 2 := by simpa using hi
    rcases i with _ | _ | i
    · exact ⟨by decide, ha⟩
    · exact ⟨by decide, hb⟩
    · omega
  · show bytesB ((bitsW 3 a ++ (bitsW 5 b ++ [])) ++ rest) = _
    rw [List.append_nil, bytesB_cons _ _ (by simp), byte35 a b ha hb]; rfl
theorem segF (a b c d : Int) (ha : a = 0 ∨ a = 1) (hb : b = 0 ∨ b = 1) (hc : c = 0 ∨ c = 1) (hd : d = 0 ∨ d = 1) : Seg [1, 1, 1, 1, 4] [a, b, c, d, 0] [b8 (128 * a + 64 * b + 32 * c + 16 * d)] := by
  refine ⟨rfl, fun i hi => ?_, rfl, fun rest => ?_⟩
  · have hi : i < 5 := by simpa using hi
    rcases i with _ | _ | _ | _ | _ | i
    · exact ⟨by decide, by show 0 ≤ a ∧ a < 2; omega⟩
    · exact ⟨by decide, by show 0 ≤ b ∧ b < 2; omega⟩
    · exact ⟨by decide, by show 0 ≤ c ∧ c < 2; omega⟩
    · exact ⟨by decide, by show 0 ≤ d ∧ d < 2; omega⟩
    · exact ⟨by decide, by show (0 : Int) ≤ 0 ∧ (0 : Int) < 2 ^ 4; decide⟩
    · omega
  · show bytesB ((bitsW 1 a ++ (bitsW 1 b ++ (bitsW 1 c ++ (bitsW 1 d ++ (bitsW 4 0 ++ []))))) ++ rest) = _
    rw [List.append_nil, bytesB_cons _ _ (by simp), byteF a b c d ha hb hc hd]; rfl
theorem seg_if {p : Prop} [Decidable p] {ws vs ws' vs' : List Int} {bs bs' : List UInt8} (h : p → Seg ws vs bs) (k : ¬ p → Seg ws' vs' bs') : Seg (if p then ws else ws') (if p then vs else vs') (if p then bs else bs') := by
  by_cases hp : p
  · simp only [if_pos hp]; exact h hp
  · simp only [if_neg hp]; exact k hp
theorem or224 (c : Int) (h : 0 ≤ c ∧ c < 16) : ibits .or .i64 224 c = 224 + c := by
  have key : ∀ m : Nat, m < 16 → ibits .or .i64 224 (m : Int) = 224 + (m : Int) := by decide +kernel
  have := key c.toNat (by omega)
  rwa [show ((c.toNat : Nat) : Int) = c by omega] at this
theorem or4 (c : Int) (h : c = 0 ∨ c = 1) : ibits .or .i64 4 c = 4 + c := by rcases h with rfl | rfl <;> decide +kernel
theorem or192 (c : Int) (h : c = 0 ∨ c = 1) : ibits .or .i64 192 c = 192 + c := by rcases h with rfl | rfl <;> decide +kernel
/-- The dynamic part. -/
def dynL (h : Hd) (d : Dy) : List UInt8 := [b8 h.tos] ++ ([b8 h.ttl] ++ ([b8 (128 * h.fx + 64 * someM h.ck + 32 * d.fo + 16 * h.mr)] ++ (if h.k = 2 then [b8 h.ty] ++ (putB h.sq 2 ++ (putB h.id 2 ++ (putB h.tm 4 ++ putB d.st 2))) else putB h.id 2)))
def statL (h : Hd) : List UInt8 := [b8 h.k] ++ (putB h.fr 4 ++ (putB h.to 4 ++ (putB h.fp 2 ++ (putB h.tp 2 ++ (if h.k = 2 then putB h.sr 4 else [])))))
theorem in_iff (n m : Int) : inR n m = true ↔ 0 ≤ n ∧ n ≤ m := by simp [inR]
theorem Hd.of (h : Hd) (k : h.ok = true) : (h.k = 1 ∨ h.k = 2) ∧ (0 ≤ h.tos ∧ h.tos ≤ 255) ∧ (0 ≤ h.ttl ∧ h.ttl ≤ 255) ∧ (0 ≤ h.id ∧ h.id ≤ 65535) ∧ (0 ≤ h.fp ∧ h.fp ≤ 65535) ∧ (0 ≤ h.tp ∧ h.tp ≤ 65535) ∧ (0 ≤ h.ck ∧ h.ck ≤ 65535) ∧ (0 ≤ h.fx ∧ h.fx ≤ 1) ∧ (0 ≤ h.fr ∧ h.fr ≤ 4294967295) ∧ (0 ≤ h.to ∧ h.to ≤ 4294967295) ∧
    (0 ≤ h.mr ∧ h.mr ≤ 1) ∧ (0 ≤ h.ty ∧ h.ty ≤ 127) ∧ (0 ≤ h.sq ∧ h.sq ≤ 65535) ∧ (0 ≤ h.tm ∧ h.tm ≤ 4294967295) ∧ (0 ≤ h.sr ∧ h.sr ≤ 4294967295) := by
  unfold Hd.ok at k
  split at k
  · rename_i h1
    simp only [comR, udpR, Bool.and_eq_true, in_iff, decide_eq_true_eq] at k
    omega
  · split at k
    · rename_i h1
      simp only [comR, rtpR, Bool.and_eq_true, in_iff] at k
      omega
    · cases k
theorem Dy.of (d : Dy) (k : d.ok = true) : (0 ≤ d.st ∧ d.st ≤ 65535) ∧ (d.fo = 0 ∨ d.fo = 1) := by
  simp only [Dy.ok, Bool.and_eq_true, in_iff, decide_eq_true_eq] at k
  exact k
theorem some01 (c : Int) (h : 0 ≤ c) : someM c = 0 ∨ someM c = 1 := by unfold someM; split <;> omega
theorem seg_dyn (h : Hd) (d : Dy) (hk : h.ok = true) (dk : d.ok = true) : Seg (dyW h) (dyV h d) (dynL h d) := by
  have a := h.of hk
  have b := d.of dk
  have c := some01 h.ck (by omega)
  unfold dyW dyV dynL
  refine Seg.app (ws := [8]) (vs := [h.tos]) (seg8 _ (by omega)) ?_
  refine Seg.app (ws := [8]) (vs := [h.ttl]) (seg8 _ (by omega)) ?_
  refine Seg.app (ws := [1, 1, 1, 1, 4]) (vs := [h.fx, someM h.ck, d.fo, h.mr, 0]) (segF _ _ _ _ (by omega) c b.2 (by omega)) ?_
  refine seg_if (fun _ => ?_) fun _ => seg16 _ (by omega)
  exact Seg.app (ws := [8]) (vs := [h.ty]) (seg8 _ (by omega)) (Seg.app (ws := [16]) (vs := [h.sq]) (seg16 _ (by omega)) (Seg.app (ws := [16]) (vs := [h.id]) (seg16 _ (by omega)) (Seg.app (ws := [32]) (vs := [h.tm]) (seg32 _ (by omega)) (seg16 _ (by omega)))))
theorem seg_stat (h : Hd) (hk : h.ok = true) : Seg (stW h) (stV h) (statL h) := by
  have a := h.of hk
  unfold stW stV statL
  refine Seg.app (ws := [8]) (vs := [h.k]) (seg8 _ (by omega)) (Seg.app (ws := [32]) (vs := [h.fr]) (seg32 _ (by omega)) (Seg.app (ws := [32]) (vs := [h.to]) (seg32 _ (by omega)) (Seg.app (ws := [16]) (vs := [h.fp]) (seg16 _ (by omega)) (Seg.app (ws := [16]) (vs := [h.tp]) (seg16 _ (by omega)) ?_))))
  exact seg_if (fun _ => seg32 _ (by omega)) fun _ => Seg.nil
def bodyL (s : Sm) : List UInt8 :=
  if s.f = 1 then [b8 (8 * s.n + s.ck)] else if s.f = 2 then [b8 (32 * (4 + s.mr) + s.n)] ++ ((if s.h.k = 2 then putB s.tm 2 else []) ++ [b8 s.ck])
  else if s.f = 3 then (if s.h.k = 2 then [b8 (192 + s.mr)] ++ [b8 s.n] else [b8 (192 + s.mr)] ++ putB s.n 2) ++ ((if s.h.k = 2 then putB s.tm 4 ++ putB s.id 2 else []) ++ [b8 s.ck])
  else if s.f = 4 then [b8 208] ++ (dynL s.h s.d ++ [b8 s.ck]) else if s.f = 5 then [b8 209] ++ (statL s.h ++ (dynL s.h s.d ++ [b8 s.ck])) else [b8 210]
def preL (s : Sm) : List UInt8 := if 0 < s.cx then [b8 (224 + s.cx)] else []
def hdL (s : Sm) : List UInt8 := preL s ++ (bodyL s ++ (if sumR s = 0 then [] else putB (sumR s) 2))
/-- What valid parts are. -/
theorem Sm.of (s : Sm) (h : s.ok = true) : (0 ≤ s.cx ∧ s.cx < 16 ∧ s.pl.length ≤ 1500) ∧ fitR (cbR s.f) s.ck = true ∧
    ((s.f = 1 ∨ s.f = 2 ∨ s.f = 3) ∧ lowbR s = true ∧ (s.h.k = 1 ∨ s.h.k = 2) ∧ hzR s.h s.h.k = true ∧ dzR s.d = true ∨
      (s.f = 4 ∨ s.f = 5) ∧ noneR s = true ∧ wholeR s = true ∨
      s.f = 6 ∧ noneR s = true ∧ (s.cx = 0 ∧ s.ck = 0) ∧ hzR s.h 0 = true ∧ dzR s.d = true) := by
  unfold Sm.ok topR at h
  simp only [Bool.and_eq_true, decide_eq_true_eq] at h
  obtain ⟨⟨h1, h2⟩, h3⟩ := h
  refine ⟨h1, h2, ?_⟩
  split at h3
  · rename_i hf
    simp only [Bool.and_eq_true, decide_eq_true_eq] at h3
    exact .inl ⟨hf, h3.1, h3.2.1, h3.2.2.1, h3.2.2.2⟩
  · split at h3
    · rename_i hf
      simp only [Bool.and_eq_true] at h3
      exact .inr (.inl ⟨hf, h3.1, h3.2⟩)
    · split at h3
      · rename_i hf
        simp only [Bool.and_eq_true, decide_eq_true_eq] at h3
        exact .inr (.inr ⟨hf, h3.1, h3.2.1, h3.2.2.1, h3.2.2.2⟩)
      · cases h3
theorem fit_iff (n : Nat) (v : Int) : fitR (n : Int) v = true ↔ 0 ≤ v ∧ v < 2 ^ n := by
  unfold fitR
  rw [Int.toNat_natCast]
  simp
theorem seg_body (s : Sm) (h : s.ok = true) : Seg (bodyW s) (bodyV s) (bodyL s) := by
  obtain ⟨-, hck, hc⟩ := s.of h
  have g := fun n v => (fit_iff n v).1
  rcases hc with ⟨hf, hl, hk, -, -⟩ | ⟨hf, hn, hw⟩ | ⟨hf, -, -⟩
  · simp only [lowbR, Bool.and_eq_true] at hl
    obtain ⟨l0, l1, l2, l3, l4⟩ := hl
    rcases hf with hf | hf | hf
    · rw [hf] at l0 hck
      have a := g 4 _ l0
      have b := g 3 _ hck
      simp only [bodyW, bodyV, bodyL, if_pos hf]
      exact seg53 _ _ (by omega) (by omega)
    · rw [hf] at l0 l1 l2 hck
      have b := g 7 _ hck
      have h1 : ¬ s.f = 1 := by omega
      simp only [bodyW, bodyV, bodyL, if_neg h1, if_pos hf]
      rcases hk with hk | hk
      · rw [hk] at l0 l1 l2
        have a := g 5 _ l0
        have c := g 0 _ l2
        have hk2 : ¬ s.h.k = 2 := by omega
        simp only [if_neg hk2, or4 s.mr (by omega)]
        exact (seg35 _ _ (by omega) (by omega)).app (Seg.nil.app (seg8 _ (by omega)))
      · rw [hk] at l0 l1 l2
        have a := g 5 _ l0
        have c := g 1 _ l2
        have d := g 16 _ l1
        simp only [if_pos hk, or4 s.mr (by omega)]
        exact (seg35 _ _ (by omega) (by omega)).app ((seg16 _ (by omega)).app (seg8 _ (by omega)))
    · rw [hf] at l0 l1 l2 l3 hck
      have b := g 8 _ hck
      have h1 : ¬ s.f = 1 := by omega
      have h2 : ¬ s.f = 2 := by omega
      simp only [bodyW, bodyV, bodyL, if_neg h1, if_neg h2, if_pos hf]
      rcases hk with hk | hk
      · rw [hk] at l0 l1 l2 l3
        have a := g 16 _ l0
        have c := g 0 _ l2
        have hk2 : ¬ s.h.k = 2 := by omega
        simp only [if_neg hk2, or192 s.mr (by omega), show wid 3 s.h.k 0 = 16 by rw [hk]; rfl]
        exact Seg.app (ws := [8, 16]) (vs := [192 + s.mr, s.n]) (Seg.app (ws := [8]) (vs := [192 + s.mr]) (seg8 _ (by omega)) (seg16 _ (by omega))) (Seg.nil.app (seg8 _ (by omega)))
      · rw [hk] at l0 l1 l2 l3
        have a := g 8 _ l0
        have c := g 1 _ l2
        have d := g 32 _ l1
        have e := g 16 _ l3
        simp only [if_pos hk, or192 s.mr (by omega), show wid 3 s.h.k 0 = 8 by rw [hk]; rfl]
        exact Seg.app (ws := [8, 8]) (vs := [192 + s.mr, s.n]) (Seg.app (ws := [8]) (vs := [192 + s.mr]) (seg8 _ (by omega)) (seg8 _ (by omega))) (Seg.app (ws := [32, 16]) (vs := [s.tm, s.id]) (Seg.app (ws := [32]) (vs := [s.tm]) (seg32 _ (by omega)) (seg16 _ (by omega))) (seg8 _ (by omega)))
  · have b : 0 ≤ s.ck ∧ s.ck < 256 := by
      rcases hf with hf | hf <;> (rw [hf] at hck; exact g 8 _ hck)
    simp only [wholeR, Bool.and_eq_true] at hw
    rcases hf with hf | hf
    · simp only [bodyW, bodyV, bodyL, if_neg (show ¬ s.f = 1 by omega), if_neg (show ¬ s.f = 2 by omega), if_neg (show ¬ s.f = 3 by omega), if_pos hf]
      exact (seg8 208 (by decide)).app ((seg_dyn _ _ hw.1 hw.2.1).app (seg8 _ b))
    · simp only [bodyW, bodyV, bodyL, if_neg (show ¬ s.f = 1 by omega), if_neg (show ¬ s.f = 2 by omega), if_neg (show ¬ s.f = 3 by omega), if_neg (show ¬ s.f = 4 by omega), if_pos hf]
      exact (seg8 209 (by decide)).app ((seg_stat _ hw.1).app ((seg_dyn _ _ hw.1 hw.2.1).app (seg8 _ b)))
  · simp only [bodyW, bodyV, bodyL, if_neg (show ¬ s.f = 1 by omega), if_neg (show ¬ s.f = 2 by omega), if_neg (show ¬ s.f = 3 by omega), if_neg (show ¬ s.f = 4 by omega), if_neg (show ¬ s.f = 5 by omega)]
    exact seg8 210 (by decide)
end Go.Proofs.Ytnlpjbedkdhlbaa
