import Derived.Test.YtnlpjbedkdhlbaaFmt7
namespace Go.Proofs.Ytnlpjbedkdhlbaa
open Go.RowKit
set_option linter.all false
variable {G : Nat → AV}
theorem sum_eq (s : Sm) : sumR s = if s.f = 4 ∨ s.f = 5 then s.h.ck else s.ud := by unfold sumR; rfl
theorem sum_rng (s : Sm) (h : s.ok = true) : 0 ≤ sumR s ∧ sumR s < 65536 := by
  obtain ⟨-, -, hc⟩ := s.of h
  rw [sum_eq]
  rcases hc with ⟨hf, hl, -⟩ | ⟨hf, hn, hw⟩ | ⟨hf, hn, -⟩
  · rw [if_neg (by omega)]
    simp only [lowbR, Bool.and_eq_true] at hl
    exact (fit_iff 16 _).1 hl.2.2.2.2
  · rw [if_pos hf]
    simp only [wholeR, Bool.and_eq_true] at hw
    have := s.h.of hw.1
    omega
  · rw [if_neg (by omega)]
    simp only [noneR, decide_eq_true_eq] at hn
    omega
theorem seg_pre (s : Sm) (h : s.ok = true) : Seg (preW s) (preV s) (preL s) := by
  obtain ⟨h1, -⟩ := s.of h
  unfold preW preV preL
  refine seg_if (fun hp => ?_) fun _ => Seg.nil
  rw [or224 _ (by omega)]
  exact seg8 _ (by omega)
theorem seg_enc (s : Sm) (h : s.ok = true) : Seg (encW s) (encV s) (hdL s) := by
  have hs := sum_rng s h
  exact (seg_pre s h).app ((seg_body s h).app (seg_if (fun _ => Seg.nil) fun _ => seg16 _ hs))
theorem head_eq (s : Sm) (h : s.ok = true) : headB s = hdL s := by
  have := (seg_enc s h).eq []
  rw [List.append_nil, bytesB_nil, List.append_nil] at this
  unfold headB
  exact this
theorem dy_len (h : Hd) (d : Dy) : (dyW h).length ≤ 12 ∧ (dyV h d).length ≤ 12 ∧ (stW h).length ≤ 6 ∧ (stV h).length ≤ 6 := by
  unfold dyW dyV stW stV
  by_cases hk : h.k = 2 <;> simp [hk]
theorem body_len (s : Sm) : (0 < (bodyW s).length ∧ (bodyW s).length ≤ 30) ∧ 0 < (bodyV s).length ∧ (bodyV s).length ≤ 30 := by
  have hd := dy_len s.h s.d
  unfold bodyW bodyV
  by_cases hk : s.h.k = 2 <;> (repeat' split) <;> simp [hk] <;> omega
theorem pre_len (s : Sm) : (preW s).length ≤ 1 ∧ (preV s).length ≤ 1 := by
  unfold preW preV
  split <;> simp
theorem enc_len (s : Sm) : (encW s).length ≤ 40 := by
  have := body_len s
  have := pre_len s
  unfold encW
  simp only [List.length_append]
  split <;> simp <;> omega
theorem hd_len (s : Sm) (h : s.ok = true) : 0 < (hdL s).length ∧ (hdL s).length ≤ 1000 := by
  have hs := seg_enc s h
  have hb := (seg_body s h).sum
  have hw := body_len s
  have h1 := sumW_le (encW s) (fun i hi => (hs.fit i hi).1) (encW s).length (by omega)
  rw [List.take_of_length_le (by omega), hs.sum] at h1
  have := enc_len s
  refine ⟨?_, by omega⟩
  have : 0 < (bodyL s).length := by
    unfold bodyL
    (repeat' split) <;> simp
  simp [hdL]
  omega
def encR (s : Sm) : List UInt8 × Int := if s.ok then (hdL s ++ s.pl, 0) else ([], 1)
theorem fencode_c (s : Sm) : LSpec Try.prog G 10 [s.av] [] (fun _ => (be (encR s), [])) := by
  have e : encP s = encR s := by
    unfold encP encR
    split
    · rename_i h; rw [head_eq s h]
    · rfl
  rw [← e]
  have hd := dy_len s.h s.d
  have hb := body_len s
  have hp := pre_len s
  refine enc_c s (fun h => ?_) (fun h => ?_) (fun h => (s.of h).1.2.2) (fun h => ?_) (by omega) (sum_eq s) (by simp only [List.length_append]; omega) (fun h => ?_) (fun h => ?_)
  · have hs := seg_enc s h
    have hl := hd_len s h
    have := pack_c (G := G) (encW s) (encV s) hs.len (by have := enc_len s; omega) (by rw [hs.sum]; omega) (by rw [hs.sum]; omega) hs.fit
    rw [hs.sum, show 8 * (hdL s).length / 8 = (hdL s).length by omega, ← head_eq s h, show bytesB (packB (encW s) (encV s)) = headB s by unfold headB; rfl] at this
    exact this
  · rw [head_eq s h]; exact hd_len s h
  · obtain ⟨-, -, hc⟩ := s.of h
    rcases hc with ⟨hf, -⟩ | ⟨hf, -⟩ | ⟨hf, -⟩ <;> omega
  · simp [encW, encV, h]
  · simp [encW, encV, h]
end Go.Proofs.Ytnlpjbedkdhlbaa
