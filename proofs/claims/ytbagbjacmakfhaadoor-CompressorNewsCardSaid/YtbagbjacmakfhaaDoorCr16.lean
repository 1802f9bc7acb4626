/-
  Contracts of the functions that the laws reach.
-/
import Derived.Test.YtbagbjacmakfhaaDoorCr01
import Derived.Test.YtbagbjacmakfhaaDoorCr02
import Derived.Test.YtbagbjacmakfhaaDoorCr03
import Derived.Test.YtbagbjacmakfhaaDoorCr04
import Derived.Test.YtbagbjacmakfhaaDoorCr05
import Derived.Test.YtbagbjacmakfhaaDoorCr06
import Derived.Test.YtbagbjacmakfhaaDoorCr07
import Derived.Test.YtbagbjacmakfhaaDoorCr08
import Derived.Test.YtbagbjacmakfhaaDoorCr09
import Derived.Test.YtbagbjacmakfhaaDoorCr11
import Derived.Test.YtbagbjacmakfhaaDoorCr12
import Derived.Test.YtbagbjacmakfhaaDoorCr13
import Derived.Test.YtbagbjacmakfhaaDoorCr14
import Derived.Test.YtbagbjacmakfhaaDoorCr15
set_option maxHeartbeats 8000000
set_option linter.all false
namespace Go.Proofs.YtbagbjacmakfhaaDoor
open Go.RowKit
variable {G : Nat → AV}
def yc (c : Co) (i : Nat) : Bool := (c.at i).ok c.m c.w && (List.range i).all fun k => !qN (c.at i) (c.at k)
theorem oks_e (c : Co) (n : Nat) : c.oks n = (List.range n).all (yc c) := rfl
theorem j3 {g : Nat → Bool} (n : Nat) : (List.range (n + 1)).all g = ((List.range n).all g && g n) := by rw [List.range_succ, List.all_append]; simp
theorem jT {g : Nat → Bool} {n : Nat} (i : Nat) (hi : i < n) (hb : g i = false) : (List.range n).all g = false := by
 cases hc : (List.range n).all g with
 | false => rfl
 | true =>
   rw [List.all_eq_true] at hc
   have := hc i (List.mem_range.2 hi)
   rw [hb] at this; cases this
theorem wg {g : Nat → Bool} {n i : Nat} (h : (List.range n).all g = true) (hi : i < n) : g i = true := List.all_eq_true.1 h i (List.mem_range.2 hi)
theorem kV {m w : Int} {s : Sn} (h : s.ok m w = true) (ha : s.act = true) : 0 < s.rf.length := by
 have := ((Sn.ok_e ha).1 h).1.1
 omega
theorem oks_rf {c : Co} {n : Nat} (h : c.oks n = true) (j : Nat) (hj : j < n) (ha : (c.cx.getD j Sn.z).act = true) : 0 < (c.cx.getD j Sn.z).rf.length := by
 have h1 := wg h hj
 simp only [Bool.and_eq_true] at h1
 exact kV h1.1 ha
theorem okc {c : Co} (h1 : zj c.m c.w = true) (h2 : c.cx.length = 16) (h3 : c.oks 16 = true) : c.ok = true := by unfold Co.ok; rw [h1, h3, decide_eq_true h2]; rfl
theorem okc_n {c : Co} (h3 : c.oks 16 = false) : c.ok = false := by unfold Co.ok; rw [h3]; simp
theorem alike_y {s t : Sn} (h1 : s.act = true) (h2 : t.act = true) (h3 : qo s.fst t.fst = true) : qN s t = true := by unfold qN; rw [h1, h2, h3]; rfl
theorem alike_n1 {s t : Sn} (h1 : s.act = false) : qN s t = false := by unfold qN; rw [h1]; rfl
theorem alike_n2 {s t : Sn} (h1 : t.act = false) : qN s t = false := by unfold qN; rw [h1]; simp
theorem alike_n3 {s t : Sn} (h1 : qo s.fst t.fst = false) : qN s t = false := by unfold qN; rw [h1]; simp
theorem rf_i (c : Co) (i : Nat) (h : (c.at i).ok c.m c.w = true) (ha : (c.cx.getD i Sn.z).act = true) : 0 < (c.cx.getD i Sn.z).rf.length := kV h ha
theorem rf_k (c : Co) (i k : Nat) (h : c.oks i = true) (hk : (k : Int) < (i : Int)) (ha : (c.cx.getD k Sn.z).act = true) : 0 < (c.cx.getD k Sn.z).rf.length := oks_rf h k (by omega) ha
theorem oks_next {c : Co} {i k : Nat} (h1 : c.oks i = true) (h2 : (c.at i).ok c.m c.w = true) (h3 : ((List.range k).all fun k => !qN (c.at i) (c.at k)) = true) (h4 : ¬ (k : Int) < (i : Int)) (h5 : k ≤ i) : c.oks (i + 1) = true := by
 obtain rfl : k = i := by omega
 rw [oks_e, j3, ← oks_e, h1]
 unfold yc
 rw [h2, h3]
 rfl
theorem oksG_1 {c : Co} {i : Nat} (h : (c.at i).ok c.m c.w = false) : yc c i = false := by unfold yc; rw [h]; rfl
theorem oksG_2 {c : Co} {i k : Nat} (hk : (k : Int) < (i : Int)) (h : qN (c.at i) (c.at k) = true) : yc c i = false := by
 unfold yc
 rw [jT k (by omega) (by rw [h]; rfl), Bool.and_false]
attribute [local irreducible] qo
theorem r9valid_t (c : Co) (hs : zj c.m c.w = true) (hl : c.cx.length = 16) : LP Tryd.prog G 11 [c.av] [] (fun _ => (.bool c.ok, [])) := by
 have hs2 := hs
 simp only [zj, decide_eq_true_eq] at hs2
 have hW : 1 ≤ c.w ∧ c.w ≤ 8 := ⟨hs2.2.2.1, hs2.2.2.2⟩
 have hctx : ∀ i : Nat, LP Tryd.prog G 26 [c.av, (c.cx.getD i Sn.z).av] [] (fun _ => (.bool ((c.at i).ok c.m c.w), [])) := fun i => r9ctx_c c _ hW
 have hsm : ∀ i k : Nat, LP Tryd.prog G 27 [((c.cx.getD i Sn.z).rf.getD 0 Hd.z).av, ((c.cx.getD k Sn.z).rf.getD 0 Hd.z).av] [] (fun _ => (.bool (qo (c.at i).fst (c.at k).fst), [])) := fun i k => vX _ _
 refine goW [] Tryd.func11 rfl ?_
 conv => whnf
 repeat' ((first | exact Nm.b 0 | (refine And.intro ?_ ?_; (focus (first | exact xt Sn.cs_len (by assumption) | exact fld_le Sn.cs_len (by assumption) (by decide) | exact fld_le Sn.cs_len (by omega) (by decide) | exact xP (rf_i c i (by assumption) (by assumption)) | exact xP (rf_k c i k (by assumption) (by assumption) (by assumption)) | exact Int.ofNat_lt.2 (rf_i c i (by assumption) (by assumption)) | exact Int.ofNat_lt.2 (rf_k c i k (by assumption) (by assumption) (by assumption)) | exact T.kx | exact T.side))) | (show LC _ _ _ _ _ _; first | refine LC.pure (hctx i) ?_ | refine LC.pure (hsm i k) ?_ | refine goE ?_) | (show AC _ _ _; first | (refine AC.recd Sn.cs_len i Sn.z rfl rfl ?_ ?_; (focus omega)) | (refine AC.fld Sn.cs_len i 0 Sn.z _ rfl (by decide) (by omega) rfl ?_) | (refine AC.fld Sn.cs_len k 0 Sn.z _ rfl (by decide) (by omega) rfl ?_) | (refine AC.fld2 Sn.cs_len i 8 Sn.z _ rfl (by decide) (by omega) rfl ?_) | (refine AC.fld2 Sn.cs_len k 8 Sn.z _ rfl (by decide) (by omega) rfl ?_) | (refine AC.recd Hd.cs_len 0 Hd.z rfl rfl (rf_i c i (by assumption) (by assumption)) ?_) | (refine AC.recd Hd.cs_len 0 Hd.z rfl rfl (rf_k c i k (by assumption) (by assumption) (by assumption)) ?_)) | refine T.s ?_ | ((first | apply goB | apply AB.dec | apply AB.gen) <;> intro h <;> try (exfalso; omega)) | refine LQ.mk fun r => ?_ | (show SQ _ _ _ (.loop _) _ _ _; first | (apply goO tQ [] 4 (S := Nat × Nm) [] (fun (i, a) => ⟨[(3, .int .i64 i), (1, .ptr a 0)], [(a, ⟨24, [iAV c.m, iAV c.w, snv c.cx]⟩)], i ≤ 16 ∧ c.oks i = true, 16 - i⟩) ((0, _)) (by rfl); (focus (all_goals (try exact KBE0); done)); rintro ⟨i, a⟩ ⟨hk, hok⟩) | (apply goO tQ [] 9 (S := Nat × Nm) [3] (fun (k, a) => ⟨[(4, .int .i64 k), (1, .ptr a 0)], [(a, ⟨24, [iAV c.m, iAV c.w, snv c.cx]⟩)], k ≤ i ∧ ((List.range k).all fun k => !qN (c.at i) (c.at k)) = true, i - k⟩) ((0, _)) (by rfl); (focus (all_goals (try exact KBE0); done)); rintro ⟨k, a⟩ ⟨hk, hok⟩)) | (show SQ _ _ _ _ _ _ _; first | refine gX 6 [] [0, 1, 2, 3, 4, 5, 6, 7] [] ?_ | refine gX 11 [] [0, 1, 2, 3, 4, 5, 6, 7, 8, 9, 10, 11, 12, 13, 14, 15, 16, 17, 18, 19, 20, 21, 22, 23, 24, 25, 26, 27, 28, 29, 30, 31, 32] [] ?_) | (show AtL _ _ _ _ _ _ _ _ _ _; first | (apply AtL.mk' (id := 4) (S := Nat × Nm) ((i + 1, _)); all_goals (try exact KBE0); done) | (apply AtL.mk' (id := 9) (S := Nat × Nm) ((k + 1, _)); all_goals (try exact KBE0); done) | (apply AtL.mk' (id := 4) (S := Nat × Nm) ((i + 1, _)); all_goals (try exact KBE0)) | (apply AtL.mk' (id := 9) (S := Nat × Nm) ((k + 1, _)); all_goals (try exact KBE0))) | exact T.z | fail) <;> conv => whnf)
 all_goals (try dsimp only)
 all_goals first
   | ((show RL _ _ _; refine goR ?_); rw [okc_n (jT i (by omega) (oksG_1 (by assumption)))])
   | ((show RL _ _ _; refine goR ?_); rw [okc_n (jT i (by omega) (oksG_2 (k := k) (by assumption) (alike_y (by assumption) (by assumption) (by assumption))))])
   | ((show RL _ _ _; refine goR ?_); obtain rfl : i = 16 := (by omega); rw [okc hs hl (by assumption)])
   | trace_state
theorem r9valid_n (c : Co) (hs : ¬ (zj c.m c.w = true ∧ c.cx.length = 16)) : LP Tryd.prog G 11 [c.av] [] (fun _ => (.bool c.ok, [])) := by
 have hf : c.ok = false := by
   unfold Co.ok
   cases h : zj c.m c.w with
   | false => rfl
   | true => rw [decide_eq_false (fun e => hs ⟨h, e⟩)]; rfl
 rw [hf]
 simp only [zj, decide_eq_true_eq] at hs
 refine goW [] Tryd.func11 rfl ?_
 conv => whnf
 repeat' ((first | exact Nm.b 0 | refine T.s ?_ | ((first | apply goB | apply AB.dec | apply AB.gen) <;> intro h <;> try (exfalso; omega)) | refine LQ.mk fun r => ?_ | (show SQ _ _ _ (.loop _) _ _ _; first | (refine goL tQ [] 4 (S := Nat) [1] (fun i => ⟨[(3, .int .i64 i)], [], False, 16 - i⟩) (0) ?_; rintro i hok; (try dsimp only at hok))) | (show SQ _ _ _ _ _ _ _; first | refine gX 6 [] [0, 1, 2, 3, 4, 5, 6, 7] [] ?_ | refine gX 11 [] [0, 1, 2, 3, 4, 5, 6, 7, 8, 9, 10, 11, 12, 13, 14, 15, 16, 17, 18, 19, 20, 21, 22, 23, 24, 25, 26, 27, 28, 29, 30, 31, 32] [] ?_) | (show AtL _ _ _ _ _ _ _ _ _ _; first | (show AtL 4 _ _ _ _ _ _ _ _ _; exact goN 4 (S := Nat) (i + 1)) | (apply AtL.mk' (id := 4) (S := Nat) (i + 1); all_goals (try exact KC12))) | exact T.z | fail) <;> conv => whnf)
 all_goals (try dsimp only)
 all_goals first
   | ((show RL _ _ _; refine goR ?_); rfl)
   | (exfalso; omega)
   | trace_state
theorem r9valid_c (c : Co) : LP Tryd.prog G 11 [c.av] [] (fun _ => (.bool c.ok, [])) := by
 by_cases hs : zj c.m c.w = true ∧ c.cx.length = 16
 · exact r9valid_t c hs.1 hs.2
 · exact r9valid_n c hs
end Go.Proofs.YtbagbjacmakfhaaDoor
namespace Go.Proofs.YtbagbjacmakfhaaDoor
open Go.RowKit
variable {G : Nat → AV}
theorem Hd.eqz (h : Hd) : qH [(h.k, 0), (h.tos, 0), (h.id, 0), (h.fx, 0), (h.ttl, 0), (h.fr, 0), (h.to, 0), (h.fp, 0), (h.tp, 0), (h.ck, 0), (h.mr, 0), (h.ty, 0), (h.sq, 0), (h.tm, 0), (h.sr, 0)] = decide (h = Hd.z) := Hd.eqs h Hd.z
def De.at (d : De) (i : Nat) : Rc := d.cx.getD i Rc.z
open Go.RowKit
variable {G : Nat → AV}
theorem AC.sub {agg : Bool} {α : Type} {f : α → List AV} {n : Nat} {l : List α} {o m : Nat} {K : AV → Prop} (hf : ∀ x, (f x).length = n) (i j : Nat) (d : α) (v : AV) (ho : o = i * n + j) (hj : j + m ≤ n) (h : i < l.length) (hv : mkv agg (((f (l.getD i d)).drop j).take m) = v) (k : K v) : AC agg (((l.flatMap f).drop o).take m) K := ⟨by
 subst ho
 rw [← List.drop_drop, fm_at hf l i d h, List.drop_append_of_le_length (by rw [hf]; omega), List.take_append_of_le_length (by simp [hf]; omega), hv]
 exact k⟩
open Go.RowKit
theorem b8_nat (v : Int) : ((b8 v).toNat : Int) = v % 256 := by
 have h := zx v
 unfold bAV at h
 have h2 := (AV.int.inj h).2
 rwa [IntKind.wrap_u8] at h2
def sumL (s : Sm) : List UInt8 := if xN s = 0 then [] else qu (xN s) 2
theorem Sm.low (s : Sm) (h : s.ok = true) (hf : s.f = 1 ∨ s.f = 2 ∨ s.f = 3) : s = { s0 s.cx s.f with n := s.n, tm := s.tm, mr := s.mr, id := s.id, ud := s.ud, h := Hd.mk s.h.k 0 0 0 0 0 0 0 0 0 0 0 0 0 0, ck := s.ck, pl := s.pl } ∧ (s.h.k = 1 ∨ s.h.k = 2) ∧ (0 ≤ s.ud ∧ s.ud ≤ 65535) ∧ zA s = true ∧ qL (cbR s.f) s.ck = true := by
 obtain ⟨h1, h2, h3⟩ := s.of h
 rcases h3 with ⟨h3, h4, h5, h6, h7⟩ | ⟨h3, -⟩ | ⟨h3, -⟩
 · refine ⟨?_, h5, ?_, h4, h2⟩
   · unfold hzR at h6
     unfold dzR at h7
     simp only [decide_eq_true_eq] at h6 h7
     obtain ⟨cx, f, n, tm, mr, id, ud, ⟨k, tos, hid, fx, ttl, fr, to, fp, tp, hck, hmr, ty, sq, htm, sr⟩, ⟨st, fo⟩, ck, pl⟩ := s
     simp only at h6 h7
     obtain ⟨-, rfl, rfl, rfl, rfl, rfl, rfl, rfl, rfl, rfl, rfl, rfl, rfl, rfl, rfl⟩ := h6
     obtain ⟨rfl, rfl⟩ := h7
     rfl
   · unfold zA at h4
     simp only [Bool.and_eq_true] at h4
     have := (zE 16 s.ud).1 h4.2.2.2.2
     omega
 · omega
 · omega
theorem low1 (s : Sm) (hf : s.f = 1) (h : zA s = true) (hc : qL (cbR s.f) s.ck = true) : (0 ≤ s.n ∧ s.n ≤ 15) ∧ s.tm = 0 ∧ s.mr = 0 ∧ s.id = 0 ∧ 0 ≤ s.ck ∧ s.ck ≤ 7 := by
 unfold zA at h
 rw [hf] at h hc
 simp only [Bool.and_eq_true] at h
 have a := (zE 4 s.n).1 h.1
 have b := (zE 0 s.tm).1 h.2.1
 have c := (zE 0 s.mr).1 h.2.2.1
 have d := (zE 0 s.id).1 h.2.2.2.1
 have e := (zE 3 s.ck).1 hc
 omega
theorem low2T (s : Sm) (hf : s.f = 2) (hk : s.h.k = 2) (h : zA s = true) (hc : qL (cbR s.f) s.ck = true) : (0 ≤ s.n ∧ s.n ≤ 31) ∧ (0 ≤ s.tm ∧ s.tm ≤ 65535) ∧ (0 ≤ s.mr ∧ s.mr ≤ 1) ∧ s.id = 0 ∧ 0 ≤ s.ck ∧ s.ck ≤ 127 := by
 unfold zA at h
 rw [hf, hk] at h
 rw [hf] at hc
 simp only [Bool.and_eq_true] at h
 have a := (zE 5 s.n).1 h.1
 have b := (zE 16 s.tm).1 h.2.1
 have c := (zE 1 s.mr).1 h.2.2.1
 have d := (zE 0 s.id).1 h.2.2.2.1
 have e := (zE 7 s.ck).1 hc
 omega
theorem low2U (s : Sm) (hf : s.f = 2) (hk : s.h.k = 1) (h : zA s = true) (hc : qL (cbR s.f) s.ck = true) : (0 ≤ s.n ∧ s.n ≤ 31) ∧ s.tm = 0 ∧ s.mr = 0 ∧ s.id = 0 ∧ 0 ≤ s.ck ∧ s.ck ≤ 127 := by
 unfold zA at h
 rw [hf, hk] at h
 rw [hf] at hc
 simp only [Bool.and_eq_true] at h
 have a := (zE 5 s.n).1 h.1
 have b := (zE 0 s.tm).1 h.2.1
 have c := (zE 0 s.mr).1 h.2.2.1
 have d := (zE 0 s.id).1 h.2.2.2.1
 have e := (zE 7 s.ck).1 hc
 omega
theorem low3T (s : Sm) (hf : s.f = 3) (hk : s.h.k = 2) (h : zA s = true) (hc : qL (cbR s.f) s.ck = true) : (0 ≤ s.n ∧ s.n ≤ 255) ∧ (0 ≤ s.tm ∧ s.tm ≤ 4294967295) ∧ (0 ≤ s.mr ∧ s.mr ≤ 1) ∧ (0 ≤ s.id ∧ s.id ≤ 65535) ∧ 0 ≤ s.ck ∧ s.ck ≤ 255 := by
 unfold zA at h
 rw [hf, hk] at h
 rw [hf] at hc
 simp only [Bool.and_eq_true] at h
 have a := (zE 8 s.n).1 h.1
 have b := (zE 32 s.tm).1 h.2.1
 have c := (zE 1 s.mr).1 h.2.2.1
 have d := (zE 16 s.id).1 h.2.2.2.1
 have e := (zE 8 s.ck).1 hc
 omega
theorem low3U (s : Sm) (hf : s.f = 3) (hk : s.h.k = 1) (h : zA s = true) (hc : qL (cbR s.f) s.ck = true) : (0 ≤ s.n ∧ s.n ≤ 65535) ∧ s.tm = 0 ∧ s.mr = 0 ∧ s.id = 0 ∧ 0 ≤ s.ck ∧ s.ck ≤ 255 := by
 unfold zA at h
 rw [hf, hk] at h
 rw [hf] at hc
 simp only [Bool.and_eq_true] at h
 have a := (zE 16 s.n).1 h.1
 have b := (zE 0 s.tm).1 h.2.1
 have c := (zE 0 s.mr).1 h.2.2.1
 have d := (zE 0 s.id).1 h.2.2.2.1
 have e := (zE 8 s.ck).1 hc
 omega
theorem bL1 (s : Sm) (h : s.f = 1) : qW s = [b8 (8 * s.n + s.ck)] := by unfold qW; rw [if_pos h]
theorem bL2T (s : Sm) (h : s.f = 2) (hk : s.h.k = 2) : qW s = b8 (32 * (4 + s.mr) + s.n) :: (qu s.tm 2 ++ [b8 s.ck]) := by unfold qW; rw [if_neg (by omega), if_pos h, if_pos hk]; rfl
theorem bL2U (s : Sm) (h : s.f = 2) (hk : s.h.k = 1) : qW s = b8 (32 * (4 + s.mr) + s.n) :: [b8 s.ck] := by unfold qW; rw [if_neg (by omega), if_pos h, if_neg (by omega)]; rfl
theorem bL3T (s : Sm) (h : s.f = 3) (hk : s.h.k = 2) : qW s = b8 (192 + s.mr) :: b8 s.n :: (qu s.tm 4 ++ (qu s.id 2 ++ [b8 s.ck])) := by unfold qW; rw [if_neg (by omega), if_neg (by omega), if_pos h, if_pos hk, if_pos hk]; simp
theorem bL3U (s : Sm) (h : s.f = 3) (hk : s.h.k = 1) : qW s = b8 (192 + s.mr) :: (qu s.n 2 ++ [b8 s.ck]) := by unfold qW; rw [if_neg (by omega), if_neg (by omega), if_pos h, if_neg (by omega), if_neg (by omega)]; simp
theorem bL4 (s : Sm) (h : s.f = 4) : qW s = b8 208 :: (dynL s.h s.d ++ [b8 s.ck]) := by unfold qW; rw [if_neg (by omega), if_neg (by omega), if_neg (by omega), if_pos h]; rfl
theorem bL5 (s : Sm) (h : s.f = 5) : qW s = b8 209 :: (statL s.h ++ (dynL s.h s.d ++ [b8 s.ck])) := by unfold qW; rw [if_neg (by omega), if_neg (by omega), if_neg (by omega), if_neg (by omega), if_pos h]; rfl
theorem bL6 (s : Sm) (h : s.f = 6) : qW s = [b8 210] := by unfold qW; rw [if_neg (by omega), if_neg (by omega), if_neg (by omega), if_neg (by omega), if_neg (by omega)]
open Go.RowKit
theorem b8_v {v : Int} (h : 0 ≤ v ∧ v ≤ 255) : ((b8 v).toNat : Int) = v := by rw [b8_nat]; omega
theorem body_head (s : Sm) (h : s.ok = true) : ∃ c r, qW s = c :: r ∧ fmR c = s.f ∧ c.toNat < 224 ∧ (c.toNat = 210 → s.cx = 0) := by
 obtain ⟨h1, h2, h3⟩ := s.of h
 rcases h3 with ⟨h3, h4, h5, -, -⟩ | ⟨h3 | h3, -⟩ | ⟨h3, -, h4, -⟩
 · rcases h3 with hf | hf | hf
   · have a := low1 s hf h4 h2
     have e : ((b8 (8 * s.n + s.ck)).toNat : Int) = 8 * s.n + s.ck := b8_v (by omega)
     exact ⟨_, _, bL1 s hf, by rw [hf]; exact fm1 (by omega), by omega, by omega⟩
   · rcases h5 with hk | hk
     · have a := low2U s hf hk h4 h2
       have e : ((b8 (32 * (4 + s.mr) + s.n)).toNat : Int) = 32 * (4 + s.mr) + s.n := b8_v (by omega)
       exact ⟨_, _, bL2U s hf hk, by rw [hf]; exact fm2 (by omega), by omega, by omega⟩
     · have a := low2T s hf hk h4 h2
       have e : ((b8 (32 * (4 + s.mr) + s.n)).toNat : Int) = 32 * (4 + s.mr) + s.n := b8_v (by omega)
       exact ⟨_, _, bL2T s hf hk, by rw [hf]; exact fm2 (by omega), by omega, by omega⟩
   · rcases h5 with hk | hk
     · have a := low3U s hf hk h4 h2
       have e : ((b8 (192 + s.mr)).toNat : Int) = 192 + s.mr := b8_v (by omega)
       exact ⟨_, _, bL3U s hf hk, by rw [hf]; exact fm3 (by omega), by omega, by omega⟩
     · have a := low3T s hf hk h4 h2
       have e : ((b8 (192 + s.mr)).toNat : Int) = 192 + s.mr := b8_v (by omega)
       exact ⟨_, _, bL3T s hf hk, by rw [hf]; exact fm3 (by omega), by omega, by omega⟩
 · exact ⟨_, _, bL4 s h3, by rw [h3]; rfl, by decide, fun hh => absurd hh (by decide)⟩
 · exact ⟨_, _, bL5 s h3, by rw [h3]; rfl, by decide, fun hh => absurd hh (by decide)⟩
 · exact ⟨_, _, bL6 s h3, by rw [h3]; rfl, by decide, fun _ => h4.1⟩
theorem hdL_s (s : Sm) : hdL s = preL s ++ (qW s ++ sumL s) := rfl
theorem pre_pos {s : Sm} (h : 0 < s.cx) : preL s = [b8 (224 + s.cx)] := if_pos h
theorem pre_neg {s : Sm} (h : ¬ 0 < s.cx) : preL s = [] := if_neg h
theorem ret_peek (s : Sm) (h : s.ok = true) (l : List UInt8) : jB (hdL s ++ l) = (s.cx, s.f, 0) := by
 obtain ⟨c, r, e, hf, hc, h0⟩ := body_head s h
 obtain ⟨h1, -, -⟩ := s.of h
 have h6 : 1 ≤ s.f := by
   obtain ⟨-, -, h3⟩ := s.of h
   omega
 rw [hdL_s, e]
 by_cases hx : 0 < s.cx
 · rw [pre_pos hx]
   have e1 : ((b8 (224 + s.cx)).toNat : Int) = 224 + s.cx := b8_v (by omega)
   show (if 224 ≤ (b8 (224 + s.cx)).toNat ∧ (b8 (224 + s.cx)).toNat < 240 then (if (b8 (224 + s.cx)).toNat = 224 ∨ fmR c = 0 ∨ c.toNat = 210 then ((0, 0, 4) : Int × Int × Int) else (((b8 (224 + s.cx)).toNat : Int) - 224, fmR c, 0)) else if fmR (b8 (224 + s.cx)) = 0 then (0, 0, 4) else (0, fmR (b8 (224 + s.cx)), 0)) = _
   rw [if_pos (by omega), if_neg (by omega), hf, e1]
   rw [show 224 + s.cx - 224 = s.cx by omega]
 · rw [pre_neg hx]
   show (if 224 ≤ c.toNat ∧ c.toNat < 240 then _ else if fmR c = 0 then ((0, 0, 4) : Int × Int × Int) else (0, fmR c, 0)) = _
   rw [if_neg (by omega), if_neg (by omega), hf, show s.cx = 0 by omega]
open Go.RowKit
variable {G : Nat → AV}
theorem enc_ok {s : Sm} (h : s.ok = true) : xH s = (hdL s ++ s.pl, 0) := if_pos h
open Go.RowKit
variable {G : Nat → AV}
theorem LF.rcv {cx : List Rc} {n : Nat} {q : Nm} {l : LS} {F : List Nm} (hF : InL q F) (hn : n = cx.length) (hq : LH l q fun c _ _ => c.cs = cx.flatMap Rc.cs) : LF l F (.vw q 0 n 19) (Go.Proofs.YtbagbjacmakfhaaDoor.rcv cx) := by
 subst hn
 obtain ⟨l1, c, l2, rfl, h3⟩ := hq.ex
 exact LF.row hF ⟨l1, c, l2, rfl, by decide, by rw [h3, qJ Rc.cs_len], rfl, h3.symm⟩
open Go.RowKit
variable {G : Nat → AV}
attribute [local irreducible] kM hdrA xR xZ zQ xd qm zc
theorem pkt_len (h : Hd) (p : List UInt8) : 28 ≤ (xZ h p).length ∧ (xZ h p).length ≤ 40 + p.length := by
 have h1 : (pkT h).length = 0 ∨ (pkT h).length = 12 := by unfold pkT; split <;> simp
 unfold xZ
 simp only [List.length_append, st2_len, wE, putBlen]
 omega
end Go.Proofs.YtbagbjacmakfhaaDoor
