/-
  Contracts of the functions that the laws reach.
-/
import Derived.Test.YtbagbjacmakfhaaGreatDoorCq01
import Derived.Test.YtbagbjacmakfhaaGreatDoorCq02
import Derived.Test.YtbagbjacmakfhaaGreatDoorCq03
import Derived.Test.YtbagbjacmakfhaaGreatDoorCq04
import Derived.Test.YtbagbjacmakfhaaGreatDoorCq05
import Derived.Test.YtbagbjacmakfhaaGreatDoorCq06
import Derived.Test.YtbagbjacmakfhaaGreatDoorCq08
import Derived.Test.YtbagbjacmakfhaaGreatDoorCq09
import Derived.Test.YtbagbjacmakfhaaGreatDoorCq10
import Derived.Test.YtbagbjacmakfhaaGreatDoorCq13
import Derived.Test.YtbagbjacmakfhaaGreatDoorCq14
import Derived.Test.YtbagbjacmakfhaaGreatDoorCq15
import Derived.Test.YtbagbjacmakfhaaGreatDoorCq16
import Derived.Test.YtbagbjacmakfhaaGreatDoorCq17
set_option maxHeartbeats 8000000
set_option linter.all false
namespace Go.Proofs.YtbagbjacmakfhaaGreatDoor
open Go.RowKit
variable {G : Nat → AV}
def oksG (c : Co) (i : Nat) : Bool := (c.at i).ok c.m c.w && (List.range i).all fun k => !qW (c.at i) (c.at k)
theorem oks_e (c : Co) (n : Nat) : c.oks n = (List.range n).all (oksG c) := rfl
theorem kb {g : Nat → Bool} (n : Nat) : (List.range (n + 1)).all g = ((List.range n).all g && g n) := by rw [List.range_succ, List.all_append]; simp
theorem wo {g : Nat → Bool} {n : Nat} (i : Nat) (hi : i < n) (hb : g i = false) : (List.range n).all g = false := by
 cases hc : (List.range n).all g with
 | false => rfl
 | true =>
   rw [List.all_eq_true] at hc
   have := hc i (List.mem_range.2 hi)
   rw [hb] at this; cases this
theorem yZ {g : Nat → Bool} {n i : Nat} (h : (List.range n).all g = true) (hi : i < n) : g i = true := List.all_eq_true.1 h i (List.mem_range.2 hi)
theorem jf {m w : Int} {s : Sn} (h : s.ok m w = true) (ha : s.act = true) : 0 < s.rf.length := by
 have := ((Sn.ok_e ha).1 h).1.1
 omega
theorem oks_rf {c : Co} {n : Nat} (h : c.oks n = true) (j : Nat) (hj : j < n) (ha : (c.cx.getD j Sn.z).act = true) : 0 < (c.cx.getD j Sn.z).rf.length := by
 have h1 := yZ h hj
 simp only [Bool.and_eq_true] at h1
 exact jf h1.1 ha
theorem okc {c : Co} (h1 : zJ c.m c.w = true) (h2 : c.cx.length = 16) (h3 : c.oks 16 = true) : c.ok = true := by unfold Co.ok; rw [h1, h3, decide_eq_true h2]; rfl
theorem okc_n {c : Co} (h3 : c.oks 16 = false) : c.ok = false := by unfold Co.ok; rw [h3]; simp
theorem alike_y {s t : Sn} (h1 : s.act = true) (h2 : t.act = true) (h3 : qt s.fst t.fst = true) : qW s t = true := by unfold qW; rw [h1, h2, h3]; rfl
theorem alike_n1 {s t : Sn} (h1 : s.act = false) : qW s t = false := by unfold qW; rw [h1]; rfl
theorem alike_n2 {s t : Sn} (h1 : t.act = false) : qW s t = false := by unfold qW; rw [h1]; simp
theorem alike_n3 {s t : Sn} (h1 : qt s.fst t.fst = false) : qW s t = false := by unfold qW; rw [h1]; simp
theorem rf_i (c : Co) (i : Nat) (h : (c.at i).ok c.m c.w = true) (ha : (c.cx.getD i Sn.z).act = true) : 0 < (c.cx.getD i Sn.z).rf.length := jf h ha
theorem rf_k (c : Co) (i k : Nat) (h : c.oks i = true) (hk : (k : Int) < (i : Int)) (ha : (c.cx.getD k Sn.z).act = true) : 0 < (c.cx.getD k Sn.z).rf.length := oks_rf h k (by omega) ha
theorem oks_next {c : Co} {i k : Nat} (h1 : c.oks i = true) (h2 : (c.at i).ok c.m c.w = true) (h3 : ((List.range k).all fun k => !qW (c.at i) (c.at k)) = true) (h4 : ¬ (k : Int) < (i : Int)) (h5 : k ≤ i) : c.oks (i + 1) = true := by
 obtain rfl : k = i := by omega
 rw [oks_e, kb, ← oks_e, h1]
 unfold oksG
 rw [h2, h3]
 rfl
theorem oksG_1 {c : Co} {i : Nat} (h : (c.at i).ok c.m c.w = false) : oksG c i = false := by unfold oksG; rw [h]; rfl
theorem oksG_2 {c : Co} {i k : Nat} (hk : (k : Int) < (i : Int)) (h : qW (c.at i) (c.at k) = true) : oksG c i = false := by
 unfold oksG
 rw [wo k (by omega) (by rw [h]; rfl), Bool.and_false]
attribute [local irreducible] qt
theorem r9valid_t (c : Co) (hs : zJ c.m c.w = true) (hl : c.cx.length = 16) : LP Tryz.prog G 17 [c.av] [] (fun _ => (.bool c.ok, [])) := by
 have hs2 := hs
 simp only [zJ, decide_eq_true_eq] at hs2
 have hW : 1 ≤ c.w ∧ c.w ≤ 8 := ⟨hs2.2.2.1, hs2.2.2.2⟩
 have hctx : ∀ i : Nat, LP Tryz.prog G 42 [c.av, (c.cx.getD i Sn.z).av] [] (fun _ => (.bool ((c.at i).ok c.m c.w), [])) := fun i => r9ctx_c c _ hW
 have hsm : ∀ i k : Nat, LP Tryz.prog G 43 [((c.cx.getD i Sn.z).rf.getD 0 Hd.z).av, ((c.cx.getD k Sn.z).rf.getD 0 Hd.z).av] [] (fun _ => (.bool (qt (c.at i).fst (c.at k).fst), [])) := fun i k => wv _ _
 refine goW [] Tryz.func17 rfl ?_
 conv => whnf
 repeat' ((first | exact Nm.b 0 | (refine And.intro ?_ ?_; (focus (first | exact zx Sn.cs_len (by assumption) | exact fld_le Sn.cs_len (by assumption) (by decide) | exact fld_le Sn.cs_len (by omega) (by decide) | exact jc (rf_i c i (by assumption) (by assumption)) | exact jc (rf_k c i k (by assumption) (by assumption) (by assumption)) | exact Int.ofNat_lt.2 (rf_i c i (by assumption) (by assumption)) | exact Int.ofNat_lt.2 (rf_k c i k (by assumption) (by assumption) (by assumption)) | exact T.kx | exact T.side))) | (show LC _ _ _ _ _ _; first | refine LC.pure (hctx i) ?_ | refine LC.pure (hsm i k) ?_ | refine goE ?_) | (show AC _ _ _; first | (refine AC.recd Sn.cs_len i Sn.z rfl rfl ?_ ?_; (focus omega)) | (refine AC.fld Sn.cs_len i 0 Sn.z _ rfl (by decide) (by omega) rfl ?_) | (refine AC.fld Sn.cs_len k 0 Sn.z _ rfl (by decide) (by omega) rfl ?_) | (refine AC.fld2 Sn.cs_len i 8 Sn.z _ rfl (by decide) (by omega) rfl ?_) | (refine AC.fld2 Sn.cs_len k 8 Sn.z _ rfl (by decide) (by omega) rfl ?_) | (refine AC.recd Hd.cs_len 0 Hd.z rfl rfl (rf_i c i (by assumption) (by assumption)) ?_) | (refine AC.recd Hd.cs_len 0 Hd.z rfl rfl (rf_k c i k (by assumption) (by assumption) (by assumption)) ?_)) | refine T.s ?_ | ((first | apply goB | apply AB.dec | apply AB.gen) <;> intro h <;> try (exfalso; omega)) | refine LQ.mk fun r => ?_ | (show SQ _ _ _ (.loop _) _ _ _; first | (apply goO tQ [] 4 (S := Nat × Nm) [] (fun (i, a) => ⟨[(3, .int .i64 i), (1, .ptr a 0)], [(a, ⟨34, [iAV c.m, iAV c.w, snv c.cx]⟩)], i ≤ 16 ∧ c.oks i = true, 16 - i⟩) ((0, _)) (by rfl); (focus (all_goals (try exact KBE0); done)); rintro ⟨i, a⟩ ⟨hk, hok⟩) | (apply goO tQ [] 9 (S := Nat × Nm) [3] (fun (k, a) => ⟨[(4, .int .i64 k), (1, .ptr a 0)], [(a, ⟨34, [iAV c.m, iAV c.w, snv c.cx]⟩)], k ≤ i ∧ ((List.range k).all fun k => !qW (c.at i) (c.at k)) = true, i - k⟩) ((0, _)) (by rfl); (focus (all_goals (try exact KBE0); done)); rintro ⟨k, a⟩ ⟨hk, hok⟩)) | (show SQ _ _ _ _ _ _ _; first | refine gX 6 [] [0, 1, 2, 3, 4, 5, 6, 7] [] ?_ | refine gX 11 [] [0, 1, 2, 3, 4, 5, 6, 7, 8, 9, 10, 11, 12, 13, 14, 15, 16, 17, 18, 19, 20, 21, 22, 23, 24, 25, 26, 27, 28, 29, 30, 31, 32] [] ?_) | (show AtL _ _ _ _ _ _ _ _ _ _; first | (apply AtL.mk' (id := 4) (S := Nat × Nm) ((i + 1, _)); all_goals (try exact KBE0); done) | (apply AtL.mk' (id := 9) (S := Nat × Nm) ((k + 1, _)); all_goals (try exact KBE0); done) | (apply AtL.mk' (id := 4) (S := Nat × Nm) ((i + 1, _)); all_goals (try exact KBE0)) | (apply AtL.mk' (id := 9) (S := Nat × Nm) ((k + 1, _)); all_goals (try exact KBE0))) | exact T.z | fail) <;> conv => whnf)
 all_goals (try dsimp only)
 all_goals first
   | ((show RL _ _ _; refine goR ?_); rw [okc_n (wo i (by omega) (oksG_1 (by assumption)))])
   | ((show RL _ _ _; refine goR ?_); rw [okc_n (wo i (by omega) (oksG_2 (k := k) (by assumption) (alike_y (by assumption) (by assumption) (by assumption))))])
   | ((show RL _ _ _; refine goR ?_); obtain rfl : i = 16 := (by omega); rw [okc hs hl (by assumption)])
   | trace_state
theorem r9valid_n (c : Co) (hs : ¬ (zJ c.m c.w = true ∧ c.cx.length = 16)) : LP Tryz.prog G 17 [c.av] [] (fun _ => (.bool c.ok, [])) := by
 have hf : c.ok = false := by
   unfold Co.ok
   cases h : zJ c.m c.w with
   | false => rfl
   | true => rw [decide_eq_false (fun e => hs ⟨h, e⟩)]; rfl
 rw [hf]
 simp only [zJ, decide_eq_true_eq] at hs
 refine goW [] Tryz.func17 rfl ?_
 conv => whnf
 repeat' ((first | exact Nm.b 0 | refine T.s ?_ | ((first | apply goB | apply AB.dec | apply AB.gen) <;> intro h <;> try (exfalso; omega)) | refine LQ.mk fun r => ?_ | (show SQ _ _ _ (.loop _) _ _ _; first | (refine goL tQ [] 4 (S := Nat) [1] (fun i => ⟨[(3, .int .i64 i)], [], False, 16 - i⟩) (0) ?_; rintro i hok; (try dsimp only at hok))) | (show SQ _ _ _ _ _ _ _; first | refine gX 6 [] [0, 1, 2, 3, 4, 5, 6, 7] [] ?_ | refine gX 11 [] [0, 1, 2, 3, 4, 5, 6, 7, 8, 9, 10, 11, 12, 13, 14, 15, 16, 17, 18, 19, 20, 21, 22, 23, 24, 25, 26, 27, 28, 29, 30, 31, 32] [] ?_) | (show AtL _ _ _ _ _ _ _ _ _ _; first | (show AtL 4 _ _ _ _ _ _ _ _ _; exact goN 4 (S := Nat) (i + 1)) | (apply AtL.mk' (id := 4) (S := Nat) (i + 1); all_goals (try exact KC12))) | exact T.z | fail) <;> conv => whnf)
 all_goals (try dsimp only)
 all_goals first
   | ((show RL _ _ _; refine goR ?_); rfl)
   | (exfalso; omega)
   | trace_state
theorem zf (c : Co) : LP Tryz.prog G 17 [c.av] [] (fun _ => (.bool c.ok, [])) := by
 by_cases hs : zJ c.m c.w = true ∧ c.cx.length = 16
 · exact r9valid_t c hs.1 hs.2
 · exact r9valid_n c hs
end Go.Proofs.YtbagbjacmakfhaaGreatDoor
namespace Go.Proofs.YtbagbjacmakfhaaGreatDoor
open Go.RowKit
variable {G : Nat → AV}
theorem Hd.eqz (h : Hd) : qJ [(h.k, 0), (h.tos, 0), (h.id, 0), (h.fx, 0), (h.ttl, 0), (h.fr, 0), (h.to, 0), (h.fp, 0), (h.tp, 0), (h.ck, 0), (h.mr, 0), (h.ty, 0), (h.sq, 0), (h.tm, 0), (h.sr, 0)] = decide (h = Hd.z) := Hd.eqs h Hd.z
def De.at (d : De) (i : Nat) : Rc := d.cx.getD i Rc.z
open Go.RowKit
variable {G : Nat → AV}
theorem AC.sub {agg : Bool} {α : Type} {f : α → List AV} {n : Nat} {l : List α} {o m : Nat} {K : AV → Prop} (hf : ∀ x, (f x).length = n) (i j : Nat) (d : α) (v : AV) (ho : o = i * n + j) (hj : j + m ≤ n) (h : i < l.length) (hv : mkv agg (((f (l.getD i d)).drop j).take m) = v) (k : K v) : AC agg (((l.flatMap f).drop o).take m) K := ⟨by
 subst ho
 rw [← List.drop_drop, yK hf l i d h, List.drop_append_of_le_length (by rw [hf]; omega), List.take_append_of_le_length (by simp [hf]; omega), hv]
 exact k⟩
open Go.RowKit
theorem b8_nat (v : Int) : ((b8 v).toNat : Int) = v % 256 := by
 have h := qR v
 unfold bAV at h
 have h2 := (AV.int.inj h).2
 rwa [IntKind.wrap_u8] at h2
def sumL (s : Sm) : List UInt8 := if jp s = 0 then [] else qx (jp s) 2
theorem Sm.low (s : Sm) (h : s.ok = true) (hf : s.f = 1 ∨ s.f = 2 ∨ s.f = 3) : s = { s0 s.cx s.f with n := s.n, tm := s.tm, mr := s.mr, id := s.id, ud := s.ud, h := Hd.mk s.h.k 0 0 0 0 0 0 0 0 0 0 0 0 0 0, ck := s.ck, pl := s.pl } ∧ (s.h.k = 1 ∨ s.h.k = 2) ∧ (0 ≤ s.ud ∧ s.ud ≤ 65535) ∧ zq s = true ∧ qO (cbR s.f) s.ck = true := by
 obtain ⟨h1, h2, h3⟩ := s.of h
 rcases h3 with ⟨h3, h4, h5, h6, h7⟩ | ⟨h3, -⟩ | ⟨h3, -⟩
 · refine ⟨?_, h5, ?_, h4, h2⟩
   · unfold hzR at h6
     unfold dzR at h7
     simp only [decide_eq_true_eq] at h6 h7
     obtain ⟨cx, f, n, tm, mr, id, ud, ⟨k, tos, hid, fx, ttl, fr, to, fp, tp, hck, hmr, ty, sq, htm, sr⟩, ⟨st, fo⟩, ck, pl⟩ := s
     simp only at h6 h7
     obtain ⟨-, rfl, rfl, rfl, rfl, rfl, rfl, rfl, rfl, rfl, rfl, rfl, rfl, rfl, rfl⟩ := h6
     obtain ⟨rfl, rfl⟩ := h7
     rfl
   · unfold zq at h4
     simp only [Bool.and_eq_true] at h4
     have := (zW 16 s.ud).1 h4.2.2.2.2
     omega
 · omega
 · omega
theorem low1 (s : Sm) (hf : s.f = 1) (h : zq s = true) (hc : qO (cbR s.f) s.ck = true) : (0 ≤ s.n ∧ s.n ≤ 15) ∧ s.tm = 0 ∧ s.mr = 0 ∧ s.id = 0 ∧ 0 ≤ s.ck ∧ s.ck ≤ 7 := by
 unfold zq at h
 rw [hf] at h hc
 simp only [Bool.and_eq_true] at h
 have a := (zW 4 s.n).1 h.1
 have b := (zW 0 s.tm).1 h.2.1
 have c := (zW 0 s.mr).1 h.2.2.1
 have d := (zW 0 s.id).1 h.2.2.2.1
 have e := (zW 3 s.ck).1 hc
 omega
theorem low2T (s : Sm) (hf : s.f = 2) (hk : s.h.k = 2) (h : zq s = true) (hc : qO (cbR s.f) s.ck = true) : (0 ≤ s.n ∧ s.n ≤ 31) ∧ (0 ≤ s.tm ∧ s.tm ≤ 65535) ∧ (0 ≤ s.mr ∧ s.mr ≤ 1) ∧ s.id = 0 ∧ 0 ≤ s.ck ∧ s.ck ≤ 127 := by
 unfold zq at h
 rw [hf, hk] at h
 rw [hf] at hc
 simp only [Bool.and_eq_true] at h
 have a := (zW 5 s.n).1 h.1
 have b := (zW 16 s.tm).1 h.2.1
 have c := (zW 1 s.mr).1 h.2.2.1
 have d := (zW 0 s.id).1 h.2.2.2.1
 have e := (zW 7 s.ck).1 hc
 omega
theorem low2U (s : Sm) (hf : s.f = 2) (hk : s.h.k = 1) (h : zq s = true) (hc : qO (cbR s.f) s.ck = true) : (0 ≤ s.n ∧ s.n ≤ 31) ∧ s.tm = 0 ∧ s.mr = 0 ∧ s.id = 0 ∧ 0 ≤ s.ck ∧ s.ck ≤ 127 := by
 unfold zq at h
 rw [hf, hk] at h
 rw [hf] at hc
 simp only [Bool.and_eq_true] at h
 have a := (zW 5 s.n).1 h.1
 have b := (zW 0 s.tm).1 h.2.1
 have c := (zW 0 s.mr).1 h.2.2.1
 have d := (zW 0 s.id).1 h.2.2.2.1
 have e := (zW 7 s.ck).1 hc
 omega
theorem low3T (s : Sm) (hf : s.f = 3) (hk : s.h.k = 2) (h : zq s = true) (hc : qO (cbR s.f) s.ck = true) : (0 ≤ s.n ∧ s.n ≤ 255) ∧ (0 ≤ s.tm ∧ s.tm ≤ 4294967295) ∧ (0 ≤ s.mr ∧ s.mr ≤ 1) ∧ (0 ≤ s.id ∧ s.id ≤ 65535) ∧ 0 ≤ s.ck ∧ s.ck ≤ 255 := by
 unfold zq at h
 rw [hf, hk] at h
 rw [hf] at hc
 simp only [Bool.and_eq_true] at h
 have a := (zW 8 s.n).1 h.1
 have b := (zW 32 s.tm).1 h.2.1
 have c := (zW 1 s.mr).1 h.2.2.1
 have d := (zW 16 s.id).1 h.2.2.2.1
 have e := (zW 8 s.ck).1 hc
 omega
theorem low3U (s : Sm) (hf : s.f = 3) (hk : s.h.k = 1) (h : zq s = true) (hc : qO (cbR s.f) s.ck = true) : (0 ≤ s.n ∧ s.n ≤ 65535) ∧ s.tm = 0 ∧ s.mr = 0 ∧ s.id = 0 ∧ 0 ≤ s.ck ∧ s.ck ≤ 255 := by
 unfold zq at h
 rw [hf, hk] at h
 rw [hf] at hc
 simp only [Bool.and_eq_true] at h
 have a := (zW 16 s.n).1 h.1
 have b := (zW 0 s.tm).1 h.2.1
 have c := (zW 0 s.mr).1 h.2.2.1
 have d := (zW 0 s.id).1 h.2.2.2.1
 have e := (zW 8 s.ck).1 hc
 omega
theorem bL1 (s : Sm) (h : s.f = 1) : qG s = [b8 (8 * s.n + s.ck)] := by unfold qG; rw [if_pos h]
theorem bL2T (s : Sm) (h : s.f = 2) (hk : s.h.k = 2) : qG s = b8 (32 * (4 + s.mr) + s.n) :: (qx s.tm 2 ++ [b8 s.ck]) := by unfold qG; rw [if_neg (by omega), if_pos h, if_pos hk]; rfl
theorem bL2U (s : Sm) (h : s.f = 2) (hk : s.h.k = 1) : qG s = b8 (32 * (4 + s.mr) + s.n) :: [b8 s.ck] := by unfold qG; rw [if_neg (by omega), if_pos h, if_neg (by omega)]; rfl
theorem bL3T (s : Sm) (h : s.f = 3) (hk : s.h.k = 2) : qG s = b8 (192 + s.mr) :: b8 s.n :: (qx s.tm 4 ++ (qx s.id 2 ++ [b8 s.ck])) := by unfold qG; rw [if_neg (by omega), if_neg (by omega), if_pos h, if_pos hk, if_pos hk]; simp
theorem bL3U (s : Sm) (h : s.f = 3) (hk : s.h.k = 1) : qG s = b8 (192 + s.mr) :: (qx s.n 2 ++ [b8 s.ck]) := by unfold qG; rw [if_neg (by omega), if_neg (by omega), if_pos h, if_neg (by omega), if_neg (by omega)]; simp
theorem bL4 (s : Sm) (h : s.f = 4) : qG s = b8 208 :: (jZ s.h s.d ++ [b8 s.ck]) := by unfold qG; rw [if_neg (by omega), if_neg (by omega), if_neg (by omega), if_pos h]; rfl
theorem bL5 (s : Sm) (h : s.f = 5) : qG s = b8 209 :: (xJ s.h ++ (jZ s.h s.d ++ [b8 s.ck])) := by unfold qG; rw [if_neg (by omega), if_neg (by omega), if_neg (by omega), if_neg (by omega), if_pos h]; rfl
theorem bL6 (s : Sm) (h : s.f = 6) : qG s = [b8 210] := by unfold qG; rw [if_neg (by omega), if_neg (by omega), if_neg (by omega), if_neg (by omega), if_neg (by omega)]
end Go.Proofs.YtbagbjacmakfhaaGreatDoor
