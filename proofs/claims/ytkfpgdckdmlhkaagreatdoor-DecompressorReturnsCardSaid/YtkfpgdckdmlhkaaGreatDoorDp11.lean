import Derived.Test.YtkfpgdckdmlhkaaGreatDoorDp10
set_option maxHeartbeats 1000000
namespace Go.Proofs.YtkfpgdckdmlhkaaGreatDoor
open Go.RowKit
set_option linter.all false
variable {G : Nat → AV}
@[reducible] def hdk (s : Sm) (k : Int) : Sm := { s with h := { s.h with k := k } }
@[reducible] def stH (X : Rdr) (s : Sm) : Sm := { s with h := { s.h with k := rv 1 X, fr := rv 4 (rtk 1 X), to := rv 4 (rtk 4 (rtk 1 X)), fp := rv 2 (rtk 4 (rtk 4 (rtk 1 X))), tp := rv 2 (rtk 2 (rtk 4 (rtk 4 (rtk 1 X)))) } }
@[reducible] def stX (X : Rdr) : Rdr := rtk 2 (rtk 2 (rtk 4 (rtk 4 (rtk 1 X))))
@[reducible] def stT (X : Rdr) (s : Sm) : Sm := { stH X s with h := { (stH X s).h with sr := rv 4 (stX X) } }
theorem fstatF_c (r p : Nm) (X : Rdr) (s : Sm) (hrp : r ≠ p) (he : rE (rtk 1 X) = false) (h1 : rv 1 X ≠ 1) (h2 : rv 1 X ≠ 2) : LP Tryz.prog G 98 [.ptr r 0, .ptr p 7] [(r, ⟨142, rcs X⟩), (p, ⟨67, s.fs⟩)] (fun _ => (.bool false, [(r, ⟨142, rcs (rtk 1 X)⟩), (p, ⟨67, (hdk s (rv 1 X)).fs⟩)])) := by
 refine goW [] Tryz.func98 rfl ?_
 conv => whnf
 repeat' ((first
   | (show LC _ _ _ _ _ _; first | (apply LC.upd (ft1_c _ _); (repeat first | refine goH ?_ | apply LH.here | apply LH.next); refine ⟨rfl, ?_⟩) | (apply LC.upd (ft2_c _ _); (repeat first | refine goH ?_ | apply LH.here | apply LH.next); refine ⟨rfl, ?_⟩) | (apply LC.upd (ft4_c _ _); (repeat first | refine goH ?_ | apply LH.here | apply LH.next); refine ⟨rfl, ?_⟩) | refine goE ?_)
   | refine T.s ?_
   | ((first | refine goB (fun h => ?_) (fun h => ?_) | refine AB.dec (fun h => ?_) (fun h => ?_) | refine AB.gen (fun h => ?_) (fun h => ?_)) <;> try (exfalso; omega))
   | refine LFresh.mk fun r => ?_
   | exact T.z
   | fail) <;> conv => whnf)
 all_goals (try dsimp only)
 all_goals first
   | ((show RL _ _ _; refine goR ?_); rfl)
   | (exfalso; simp_all)
theorem fstatT_c (r p : Nm) (X : Rdr) (s : Sm) (hrp : r ≠ p) (hk : rv 1 X = 2) : LP Tryz.prog G 98 [.ptr r 0, .ptr p 7] [(r, ⟨142, rcs X⟩), (p, ⟨67, s.fs⟩)] (fun _ => (.bool true, [(r, ⟨142, rcs (rtk 4 (stX X))⟩), (p, ⟨67, (stT X s).fs⟩)])) := by
 refine goW [] Tryz.func98 rfl ?_
 conv => whnf
 repeat' ((first
   | (show LC _ _ _ _ _ _; first | (apply LC.upd (ft1_c _ _); (repeat first | refine goH ?_ | apply LH.here | apply LH.next); refine ⟨rfl, ?_⟩) | (apply LC.upd (ft2_c _ _); (repeat first | refine goH ?_ | apply LH.here | apply LH.next); refine ⟨rfl, ?_⟩) | (apply LC.upd (ft4_c _ _); (repeat first | refine goH ?_ | apply LH.here | apply LH.next); refine ⟨rfl, ?_⟩) | refine goE ?_)
   | refine T.s ?_
   | ((first | refine goB (fun h => ?_) (fun h => ?_) | refine AB.dec (fun h => ?_) (fun h => ?_) | refine AB.gen (fun h => ?_) (fun h => ?_)) <;> try (exfalso; omega))
   | refine LFresh.mk fun r => ?_
   | exact T.z
   | fail) <;> conv => whnf)
 all_goals (try dsimp only)
 all_goals first
   | ((show RL _ _ _; refine goR ?_); rfl)
   | (exfalso; simp_all)
theorem fstatU_c (r p : Nm) (X : Rdr) (s : Sm) (hrp : r ≠ p) (hk : rv 1 X ≠ 2) (h : rE (rtk 1 X) = true ∨ rv 1 X = 1) : LP Tryz.prog G 98 [.ptr r 0, .ptr p 7] [(r, ⟨142, rcs X⟩), (p, ⟨67, s.fs⟩)] (fun _ => (.bool true, [(r, ⟨142, rcs (stX X)⟩), (p, ⟨67, (stH X s).fs⟩)])) := by
 refine goW [] Tryz.func98 rfl ?_
 conv => whnf
 repeat' ((first
   | (show LC _ _ _ _ _ _; first | (apply LC.upd (ft1_c _ _); (repeat first | refine goH ?_ | apply LH.here | apply LH.next); refine ⟨rfl, ?_⟩) | (apply LC.upd (ft2_c _ _); (repeat first | refine goH ?_ | apply LH.here | apply LH.next); refine ⟨rfl, ?_⟩) | (apply LC.upd (ft4_c _ _); (repeat first | refine goH ?_ | apply LH.here | apply LH.next); refine ⟨rfl, ?_⟩) | refine goE ?_)
   | refine T.s ?_
   | ((first | refine goB (fun h => ?_) (fun h => ?_) | refine AB.dec (fun h => ?_) (fun h => ?_) | refine AB.gen (fun h => ?_) (fun h => ?_)) <;> try (exfalso; omega))
   | refine LFresh.mk fun r => ?_
   | exact T.z
   | fail) <;> conv => whnf)
 all_goals (try dsimp only)
 all_goals first
   | ((show RL _ _ _; refine goR ?_); rfl)
   | (exfalso; simp_all)
@[reducible] def lw1 (X : Rdr) (k : Int) (s : Sm) : Sm := { hdk s k with n := shR (rv 1 X) 3, ck := andR (rv 1 X) 7 }
@[reducible] def lw2T (X : Rdr) (k : Int) (s : Sm) : Sm := { hdk s k with mr := bitR (rv 1 X) 5, n := andR (rv 1 X) 31, tm := rv 2 (rtk 1 X), ck := rv 1 (rtk 2 (rtk 1 X)) }
@[reducible] def lw2U (X : Rdr) (k : Int) (s : Sm) : Sm := { hdk s k with mr := bitR (rv 1 X) 5, n := andR (rv 1 X) 31, ck := rv 1 (rtk 1 X) }
@[reducible] def lw3T (X : Rdr) (k : Int) (s : Sm) : Sm := { hdk s k with mr := andR (rv 1 X) 1, n := rv 1 (rtk 1 X), tm := rv 4 (rtk 1 (rtk 1 X)), id := rv 2 (rtk 4 (rtk 1 (rtk 1 X))), ck := rv 1 (rtk 2 (rtk 4 (rtk 1 (rtk 1 X)))) }
@[reducible] def lw3U (X : Rdr) (k : Int) (s : Sm) : Sm := { hdk s k with mr := andR (rv 1 X) 1, n := rv 2 (rtk 1 X), ck := rv 1 (rtk 2 (rtk 1 X)) }
theorem nb3T_c (k : Int) (h : k = 2) : LP Tryz.prog G 120 [iAV 3, iAV k] [] (fun _ => (iAV 8, [])) := by
 have := nbits_c (G := G) 3 k
 rwa [show wid 3 k 0 = 8 from by simp [wid, h]] at this
theorem nb3U_c (k : Int) (h : k ≠ 2) : LP Tryz.prog G 120 [iAV 3, iAV k] [] (fun _ => (iAV 16, [])) := by
 have := nbits_c (G := G) 3 k
 rwa [show wid 3 k 0 = 16 from by simp [wid, h]] at this
@[reducible] def lwX1 (X : Rdr) : Rdr := rtk 1 X
theorem flow1_c (r p : Nm) (X : Rdr) (R : List AV) (hR : R = rcs X) (k : Int) (s : Sm) (hrp : r ≠ p) (hf : s.f = 1)  : LP Tryz.prog G 100 [.ptr r 0, .ptr p 0, iAV k] [(r, ⟨142, R⟩), (p, ⟨67, s.fs⟩)] (fun _ => (.tup [], [(r, ⟨142, rcs (lwX1 X)⟩), (p, ⟨67, (lw1 X k s).fs⟩)])) := by
 subst hR
 obtain ⟨cx, f, n, tm, mr, id, ud, h, d, ck, pl⟩ := s
 obtain rfl : f = 1 := hf
 refine goW [] Tryz.func100 rfl ?_
 conv => whnf
 repeat' ((first
   | (show LC _ _ _ _ _ _; first | (apply LC.upd (ft1_c _ _); (repeat first | refine goH ?_ | apply LH.here | apply LH.next); refine ⟨rfl, ?_⟩) | (apply LC.upd (ft2_c _ _); (repeat first | refine goH ?_ | apply LH.here | apply LH.next); refine ⟨rfl, ?_⟩) | (apply LC.upd (ft4_c _ _); (repeat first | refine goH ?_ | apply LH.here | apply LH.next); refine ⟨rfl, ?_⟩) | refine goE ?_)
   | refine T.s ?_
   | ((first | refine goB (fun h => ?_) (fun h => ?_) | refine AB.dec (fun h => ?_) (fun h => ?_) | refine AB.gen (fun h => ?_) (fun h => ?_)) <;> try (exfalso; omega))
   | refine LFresh.mk fun r => ?_
   | exact T.z
   | fail) <;> conv => whnf)
 all_goals (try dsimp only)
 all_goals first
   | ((show RL _ _ _; refine goR ?_); rfl)
   | (exfalso; simp_all)
@[reducible] def lwX2T (X : Rdr) : Rdr := rtk 1 (rtk 2 (rtk 1 X))
theorem flow2T_c (r p : Nm) (X : Rdr) (R : List AV) (hR : R = rcs X) (k : Int) (s : Sm) (hrp : r ≠ p) (hf : s.f = 2) (hk : k = 2) : LP Tryz.prog G 100 [.ptr r 0, .ptr p 0, iAV k] [(r, ⟨142, R⟩), (p, ⟨67, s.fs⟩)] (fun _ => (.tup [], [(r, ⟨142, rcs (lwX2T X)⟩), (p, ⟨67, (lw2T X k s).fs⟩)])) := by
 subst hR
 obtain ⟨cx, f, n, tm, mr, id, ud, h, d, ck, pl⟩ := s
 obtain rfl : f = 2 := hf
 refine goW [] Tryz.func100 rfl ?_
 conv => whnf
 repeat' ((first
   | (show LC _ _ _ _ _ _; first | (apply LC.upd (ft1_c _ _); (repeat first | refine goH ?_ | apply LH.here | apply LH.next); refine ⟨rfl, ?_⟩) | (apply LC.upd (ft2_c _ _); (repeat first | refine goH ?_ | apply LH.here | apply LH.next); refine ⟨rfl, ?_⟩) | (apply LC.upd (ft4_c _ _); (repeat first | refine goH ?_ | apply LH.here | apply LH.next); refine ⟨rfl, ?_⟩) | refine goE ?_)
   | refine T.s ?_
   | ((first | refine goB (fun h => ?_) (fun h => ?_) | refine AB.dec (fun h => ?_) (fun h => ?_) | refine AB.gen (fun h => ?_) (fun h => ?_)) <;> try (exfalso; omega))
   | refine LFresh.mk fun r => ?_
   | exact T.z
   | fail) <;> conv => whnf)
 all_goals (try dsimp only)
 all_goals first
   | ((show RL _ _ _; refine goR ?_); rfl)
   | (exfalso; simp_all)
@[reducible] def lwX2U (X : Rdr) : Rdr := rtk 1 (rtk 1 X)
theorem flow2U_c (r p : Nm) (X : Rdr) (R : List AV) (hR : R = rcs X) (k : Int) (s : Sm) (hrp : r ≠ p) (hf : s.f = 2) (hk : k ≠ 2) : LP Tryz.prog G 100 [.ptr r 0, .ptr p 0, iAV k] [(r, ⟨142, R⟩), (p, ⟨67, s.fs⟩)] (fun _ => (.tup [], [(r, ⟨142, rcs (lwX2U X)⟩), (p, ⟨67, (lw2U X k s).fs⟩)])) := by
 subst hR
 obtain ⟨cx, f, n, tm, mr, id, ud, h, d, ck, pl⟩ := s
 obtain rfl : f = 2 := hf
 refine goW [] Tryz.func100 rfl ?_
 conv => whnf
 repeat' ((first
   | (show LC _ _ _ _ _ _; first | (apply LC.upd (ft1_c _ _); (repeat first | refine goH ?_ | apply LH.here | apply LH.next); refine ⟨rfl, ?_⟩) | (apply LC.upd (ft2_c _ _); (repeat first | refine goH ?_ | apply LH.here | apply LH.next); refine ⟨rfl, ?_⟩) | (apply LC.upd (ft4_c _ _); (repeat first | refine goH ?_ | apply LH.here | apply LH.next); refine ⟨rfl, ?_⟩) | refine goE ?_)
   | refine T.s ?_
   | ((first | refine goB (fun h => ?_) (fun h => ?_) | refine AB.dec (fun h => ?_) (fun h => ?_) | refine AB.gen (fun h => ?_) (fun h => ?_)) <;> try (exfalso; omega))
   | refine LFresh.mk fun r => ?_
   | exact T.z
   | fail) <;> conv => whnf)
 all_goals (try dsimp only)
 all_goals first
   | ((show RL _ _ _; refine goR ?_); rfl)
   | (exfalso; simp_all)
@[reducible] def lwX3T (X : Rdr) : Rdr := rtk 1 (rtk 2 (rtk 4 (rtk 1 (rtk 1 X))))
theorem flow3T_c (r p : Nm) (X : Rdr) (R : List AV) (hR : R = rcs X) (k : Int) (s : Sm) (hrp : r ≠ p) (hf : s.f = 3) (hk : k = 2) : LP Tryz.prog G 100 [.ptr r 0, .ptr p 0, iAV k] [(r, ⟨142, R⟩), (p, ⟨67, s.fs⟩)] (fun _ => (.tup [], [(r, ⟨142, rcs (lwX3T X)⟩), (p, ⟨67, (lw3T X k s).fs⟩)])) := by
 subst hR
 obtain ⟨cx, f, n, tm, mr, id, ud, h, d, ck, pl⟩ := s
 obtain rfl : f = 3 := hf
 refine goW [] Tryz.func100 rfl ?_
 conv => whnf
 repeat' ((first
   | (show LC _ _ _ _ _ _; first | refine LC.pure (nb3T_c k hk) ?_ | (apply LC.upd (ft1_c _ _); (repeat first | refine goH ?_ | apply LH.here | apply LH.next); refine ⟨rfl, ?_⟩) | (apply LC.upd (ft2_c _ _); (repeat first | refine goH ?_ | apply LH.here | apply LH.next); refine ⟨rfl, ?_⟩) | (apply LC.upd (ft4_c _ _); (repeat first | refine goH ?_ | apply LH.here | apply LH.next); refine ⟨rfl, ?_⟩) | refine goE ?_)
   | refine T.s ?_
   | ((first | refine goB (fun h => ?_) (fun h => ?_) | refine AB.dec (fun h => ?_) (fun h => ?_) | refine AB.gen (fun h => ?_) (fun h => ?_)) <;> try (exfalso; omega))
   | refine LFresh.mk fun r => ?_
   | exact T.z
   | fail) <;> conv => whnf)
 all_goals (try dsimp only)
 all_goals first
   | ((show RL _ _ _; refine goR ?_); rfl)
   | (exfalso; simp_all)
@[reducible] def lwX3U (X : Rdr) : Rdr := rtk 1 (rtk 2 (rtk 1 X))
theorem flow3U_c (r p : Nm) (X : Rdr) (R : List AV) (hR : R = rcs X) (k : Int) (s : Sm) (hrp : r ≠ p) (hf : s.f = 3) (hk : k ≠ 2) : LP Tryz.prog G 100 [.ptr r 0, .ptr p 0, iAV k] [(r, ⟨142, R⟩), (p, ⟨67, s.fs⟩)] (fun _ => (.tup [], [(r, ⟨142, rcs (lwX3U X)⟩), (p, ⟨67, (lw3U X k s).fs⟩)])) := by
 subst hR
 obtain ⟨cx, f, n, tm, mr, id, ud, h, d, ck, pl⟩ := s
 obtain rfl : f = 3 := hf
 refine goW [] Tryz.func100 rfl ?_
 conv => whnf
 repeat' ((first
   | (show LC _ _ _ _ _ _; first | refine LC.pure (nb3U_c k hk) ?_ | (apply LC.upd (ft1_c _ _); (repeat first | refine goH ?_ | apply LH.here | apply LH.next); refine ⟨rfl, ?_⟩) | (apply LC.upd (ft2_c _ _); (repeat first | refine goH ?_ | apply LH.here | apply LH.next); refine ⟨rfl, ?_⟩) | (apply LC.upd (ft4_c _ _); (repeat first | refine goH ?_ | apply LH.here | apply LH.next); refine ⟨rfl, ?_⟩) | refine goE ?_)
   | refine T.s ?_
   | ((first | refine goB (fun h => ?_) (fun h => ?_) | refine AB.dec (fun h => ?_) (fun h => ?_) | refine AB.gen (fun h => ?_) (fun h => ?_)) <;> try (exfalso; omega))
   | refine LFresh.mk fun r => ?_
   | exact T.z
   | fail) <;> conv => whnf)
 all_goals (try dsimp only)
 all_goals first
   | ((show RL _ _ _; refine goR ?_); rfl)
   | (exfalso; simp_all)
def fmR (c : UInt8) : Int := if c.toNat < 128 then 1 else if c.toNat < 192 then 2 else if c.toNat = 192 ∨ c.toNat = 193 then 3 else if c.toNat = 208 then 4 else if c.toNat = 209 then 5 else if c.toNat = 210 then 6 else 0
set_option maxRecDepth 100000 in
theorem fmt_c (c : UInt8) : LP Tryz.prog G 96 [bAV c] [] (fun _ => (.tup [iAV (fmR c), .bool (decide (fmR c ≠ 0))], [])) := by
 refine goW [] Tryz.func96 rfl ?_
 conv => whnf
 repeat' ((first
   | refine T.s ?_
   | ((first | refine goB (fun h => ?_) (fun h => ?_) | refine AB.dec (fun h => ?_) (fun h => ?_) | refine AB.gen (fun h => ?_) (fun h => ?_)) <;> try (exfalso; omega))
   | refine LFresh.mk fun r => ?_
   | exact T.z
   | fail) <;> conv => whnf)
 all_goals (try dsimp only)
 all_goals
   (show RL _ _ _; refine goR ?_)
   have hlt : c.toNat < 256 := c.toNat_lt
   refine congrArg AV.tup ?_
   first
     | (have e : fmR c = 0 := (by unfold fmR; (repeat' split) <;> omega)
        rw [e]; rfl)
     | (have e : fmR c = 1 := (by unfold fmR; (repeat' split) <;> omega)
        rw [e]; rfl)
     | (have e : fmR c = 2 := (by unfold fmR; (repeat' split) <;> omega)
        rw [e]; rfl)
     | (have e : fmR c = 3 := (by unfold fmR; (repeat' split) <;> omega)
        rw [e]; rfl)
     | (have e : fmR c = 4 := (by unfold fmR; (repeat' split) <;> omega)
        rw [e]; rfl)
     | (have e : fmR c = 5 := (by unfold fmR; (repeat' split) <;> omega)
        rw [e]; rfl)
     | (have e : fmR c = 6 := (by unfold fmR; (repeat' split) <;> omega)
        rw [e]; rfl)
def peekR : List UInt8 → Int × Int × Int
 | [] => (0, 0, 5)
 | a :: r => if 224 ≤ a.toNat ∧ a.toNat < 240 then (match r with | [] => (0, 0, 5) | b :: _ => if a.toNat = 224 ∨ fmR b = 0 ∨ b.toNat = 210 then (0, 0, 4) else ((a.toNat : Int) - 224, fmR b, 0)) else if fmR a = 0 then (0, 0, 4) else (0, fmR a, 0)
def pe (x : Int × Int × Int) : AV := .tup [iAV x.1, iAV x.2.1, iAV x.2.2]
theorem and240 : ∀ n : Nat, n < 256 → (ibits .and .u8 (n : Int) 240 = 224 ↔ (224 ≤ n ∧ n < 240)) := by decide +kernel
theorem nand240 : ∀ n : Nat, n < 256 → (224 ≤ n ∧ n < 240) → IntKind.i64.wrap (ibits .andNot .u8 (n : Int) 240) = (n : Int) - 224 := by decide +kernel
theorem fpeek_c (l : List UInt8) : LP Tryz.prog G 61 [bv l] [] (fun _ => (pe (peekR l), [])) := by
 match l with
 | [] =>
   refine goW [] Tryz.func61 rfl ?_
   conv => whnf
   repeat' ((first
     | exact Nm.b 0
     | refine T.s ?_
     | ((first | refine goB (fun h => ?_) (fun h => ?_) | refine AB.dec (fun h => ?_) (fun h => ?_) | refine AB.gen (fun h => ?_) (fun h => ?_)) <;> try (exfalso; omega))
     | refine LFresh.mk fun r => ?_
     | (show SQ _ _ _ _ _ _ _; first | (refine goD tQ mixed 7 [] [0, 1, 2, 3, 4, 5, 6, 7] [] (by kernel_rfl) ?_))
     | exact T.z
     | refine ⟨_, rfl, rfl, ?_⟩
     | fail) <;> conv => whnf)
   all_goals (try dsimp only)
   (show RL _ _ _; refine goR ?_)
   rfl
 | [a] =>
   have hlt : a.toNat < 256 := a.toNat_lt
   have ha := and240 _ hlt
   refine goW [] Tryz.func61 rfl ?_
   conv => whnf
   repeat' ((first
     | exact Nm.b 0
     | (show LC _ _ _ _ _ _; first | refine LC.pure (fmt_c _) ?_ | refine goE ?_)
     | refine T.s ?_
     | ((first | refine goB (fun h => ?_) (fun h => ?_) | refine AB.dec (fun h => ?_) (fun h => ?_) | refine AB.gen (fun h => ?_) (fun h => ?_)) <;> try (exfalso; omega))
     | refine LFresh.mk fun r => ?_
     | (show SQ _ _ _ _ _ _ _; first | (refine goD tQ mixed 7 [] [0, 1, 2, 3, 4, 5, 6, 7] [] (by kernel_rfl) ?_))
     | exact T.z
     | refine ⟨_, rfl, rfl, ?_⟩
     | fail) <;> conv => whnf)
   all_goals (try dsimp only)
   all_goals
     dsimp only at *
     simp only [show Int.toNat 0 * 1 = 0 from rfl, show Int.toNat 1 * 1 = 1 from rfl, List.getD_cons_zero, List.getD_cons_succ] at *
     (show RL _ _ _; refine goR ?_)
     refine congrArg AV.tup ?_
     simp only [peekR, iAV]
     first
       | (have hA : 224 ≤ a.toNat ∧ a.toNat < 240 := ha.1 (by assumption)
          rewrite [if_pos hA]
          (try rewrite [hb hA] at *)
          first
            | rfl
            | (split <;> first | rfl | (exfalso; omega) | (simp only [List.cons.injEq, AV.int.injEq, true_and, and_true]; omega)))
       | (have hA : ¬ (224 ≤ a.toNat ∧ a.toNat < 240) := fun h => absurd (ha.2 h) (by assumption)
          rewrite [if_neg hA]
          (split <;> first | rfl | (exfalso; omega) | (simp only [List.cons.injEq, AV.int.injEq, true_and, and_true]; omega)))
 | a :: b :: r =>
   have hlt : a.toNat < 256 := a.toNat_lt
   have ha := and240 _ hlt
   have hb := nand240 _ hlt
   refine goW [] Tryz.func61 rfl ?_
   conv => whnf
   repeat' ((first
     | exact Nm.b 0
     | (show LC _ _ _ _ _ _; first | refine LC.pure (fmt_c _) ?_ | refine goE ?_)
     | refine T.s ?_
     | ((first | refine goB (fun h => ?_) (fun h => ?_) | refine AB.dec (fun h => ?_) (fun h => ?_) | refine AB.gen (fun h => ?_) (fun h => ?_)) <;> try (exfalso; omega))
     | refine LFresh.mk fun r => ?_
     | (show SQ _ _ _ _ _ _ _; first | (refine goD tQ mixed 7 [] [0, 1, 2, 3, 4, 5, 6, 7] [] (by kernel_rfl) ?_))
     | exact T.z
     | refine ⟨_, rfl, rfl, ?_⟩
     | fail) <;> conv => whnf)
   all_goals (try dsimp only)
   all_goals
     dsimp only at *
     simp only [show Int.toNat 0 * 1 = 0 from rfl, show Int.toNat 1 * 1 = 1 from rfl, List.getD_cons_zero, List.getD_cons_succ] at *
     (show RL _ _ _; refine goR ?_)
     refine congrArg AV.tup ?_
     simp only [peekR, iAV]
     first
       | (have hA : 224 ≤ a.toNat ∧ a.toNat < 240 := ha.1 (by assumption)
          rewrite [if_pos hA]
          (try rewrite [hb hA] at *)
          first
            | rfl
            | (split <;> first | rfl | (exfalso; omega) | (simp only [List.cons.injEq, AV.int.injEq, true_and, and_true]; omega)))
       | (have hA : ¬ (224 ≤ a.toNat ∧ a.toNat < 240) := fun h => absurd (ha.2 h) (by assumption)
          rewrite [if_neg hA]
          (split <;> first | rfl | (exfalso; omega) | (simp only [List.cons.injEq, AV.int.injEq, true_and, and_true]; omega)))
open Go.RowKit
variable {G : Nat → AV}
@[reducible] def s0 (c f : Int) : Sm := ⟨c, f, 0, 0, 0, 0, 0, ⟨0, 0, 0, 0, 0, 0, 0, 0, 0, 0, 0, 0, 0, 0, 0⟩, ⟨0, 0⟩, 0, []⟩
@[reducible] def wpl (s : Sm) (X : Rdr) : Sm := { s with pl := rL X }
@[reducible] def wud (s : Sm) (n : Int) : Sm := { s with ud := n }
@[reducible] def wck (s : Sm) (n : Int) : Sm := { s with ck := n }
@[reducible] def whc (s : Sm) (n : Int) : Sm := { s with h := { s.h with ck := n } }
def finR (X : Rdr) (s : Sm) (b : List UInt8) : Sm ⊕ Int :=
 if rE X = true then .inr 5 else if encR (wpl s X) = (b, 0) then .inl (wpl s X) else .inr 4
def smallR (ck : Bool) (X : Rdr) (s : Sm) (b : List UInt8) : Sm ⊕ Int :=
 if ck = true then (if rE (rtk 2 X) = true then .inr 5 else if rv 2 X = 0 then .inr 4 else finR (rtk 2 X) (wud s (rv 2 X)) b) else finR X s b
def bigR (X : Rdr) (s : Sm) (fl : Int) (b : List UInt8) : Sm ⊕ Int :=
 if bitR fl 6 = 1 then finR (rtk 2 (rtk 1 X)) (whc (wck s (rv 1 X)) (rv 2 (rtk 1 X))) b else finR (rtk 1 X) (wck s (rv 1 X)) b
def fullR (c : Int) (Y : Rdr) (b : List UInt8) : Sm ⊕ Int :=
 if rE (rtk 1 Y) = true then .inr 5
 else if rv 1 Y = 2 then bigR (dynTX (rtk 4 (stX Y))) (dynT (rtk 4 (stX Y)) (stT Y (s0 c 5))) (dynF (rtk 4 (stX Y))) b
 else if rv 1 Y = 1 then bigR (dynUX (stX Y)) (dynU (stX Y) (stH Y (s0 c 5))) (dynF (stX Y)) b
 else .inr 4
def decB (f c : Int) (X : Rdr) (b : List UInt8) (k : Int) (ck : Bool) : Sm ⊕ Int :=
 if f = 1 then smallR ck (lwX1 X) (lw1 X k (s0 c 1)) b
 else if f = 2 then (if k = 2 then smallR ck (lwX2T X) (lw2T X k (s0 c 2)) b else smallR ck (lwX2U X) (lw2U X k (s0 c 2)) b)
 else if f = 3 then (if k = 2 then smallR ck (lwX3T X) (lw3T X k (s0 c 3)) b else smallR ck (lwX3U X) (lw3U X k (s0 c 3)) b)
 else if f = 4 then (if k = 2 then bigR (dynTX (rtk 1 X)) (dynT (rtk 1 X) (hdk (s0 c 4) k)) (dynF (rtk 1 X)) b else bigR (dynUX (rtk 1 X)) (dynU (rtk 1 X) (hdk (s0 c 4) k)) (dynF (rtk 1 X)) b)
 else if f = 5 then fullR c (rtk 1 X) b
 else finR (rtk 1 X) (s0 c 6) b
def decR (b : List UInt8) (hb : b.length ≤ 140737488355328) (k : Int) (ck : Bool) : Sm ⊕ Int :=
 if (peekR b).2.2 ≠ 0 then .inr (peekR b).2.2
 else if (peekR b).2.1 ≤ 4 ∧ k ≠ 1 ∧ k ≠ 2 then .inr 7
 else decB (peekR b).2.1 (peekR b).1 (if 0 < (peekR b).1 then rtk 1 (rdr b hb) else rdr b hb) b k ck
def zAV : AV := .agg [iAV 0, iAV 0, iAV 0, iAV 0, iAV 0, iAV 0, iAV 0, iAV 0, iAV 0, iAV 0, iAV 0, iAV 0, iAV 0, iAV 0, iAV 0, iAV 0, iAV 0, iAV 0, iAV 0, iAV 0, iAV 0, iAV 0, iAV 0, iAV 0, iAV 0, .nils]
def dsv : Sm ⊕ Int → AV
 | .inl s => s.av
 | .inr _ => zAV
def dse : Sm ⊕ Int → Int
 | .inl _ => 0
 | .inr e => e
def de (x : Sm ⊕ Int) : AV := .tup [dsv x, iAV (dse x)]
theorem rv_end (n : Nat) (X : Rdr) (h : rE (rtk n X) = true) : rv n X = 0 := by
 obtain ⟨_ | l, hl⟩ := X
 · unfold rv; rfl
 · unfold rv
   unfold rE rtk at h
   show (if l.length < n then 0 else beN (l.take n)) = 0
   by_cases hn : l.length < n
   · exact if_pos hn
   · exfalso
     have : tkR n (some l) = some (l.drop n) := if_neg hn
     simp [this] at h
theorem rcs_ok {X : Rdr} (h : rE X = false) : rcs X = [bv (rL X), .bool false] := by
 show [rV X, .bool (rE X)] = _
 rw [rV_some X h, h]
def smallP (ck : Bool) (X : Rdr) (s : Sm) (b : List UInt8) : Sm ⊕ Int :=
 if ck = true then finR (rtk 2 X) (wud s (rv 2 X)) b else finR X s b
theorem fin_e {X : Rdr} {s : Sm} {b : List UInt8} (h : rE X = true) : finR X s b = .inr 5 := if_pos h
theorem fin_k {X : Rdr} {s : Sm} {b : List UInt8} (h : rE X = false) (h2 : (encR (wpl s X)).2 = 0) (h1 : (encR (wpl s X)).1 = b) : finR X s b = .inl (wpl s X) := by
 unfold finR
 rw [if_neg (by rw [h]; decide), if_pos (Prod.ext h1 h2)]
theorem fin_n1 {X : Rdr} {s : Sm} {b : List UInt8} (h : rE X = false) (h1 : ¬ (encR (wpl s X)).1 = b) : finR X s b = .inr 4 := by
 unfold finR
 rw [if_neg (by rw [h]; decide), if_neg (fun e => h1 (congrArg Prod.fst e))]
theorem fin_n2 {X : Rdr} {s : Sm} {b : List UInt8} (h : rE X = false) (h1 : ¬ (encR (wpl s X)).2 = 0) : finR X s b = .inr 4 := by
 unfold finR
 rw [if_neg (by rw [h]; decide), if_neg (fun e => h1 (congrArg Prod.snd e))]
theorem big_t {X : Rdr} {s : Sm} {fl : Int} {b : List UInt8} (h : bitR fl 6 = 1) : bigR X s fl b = finR (rtk 2 (rtk 1 X)) (whc (wck s (rv 1 X)) (rv 2 (rtk 1 X))) b := if_pos h
theorem big_f {X : Rdr} {s : Sm} {fl : Int} {b : List UInt8} (h : ¬ bitR fl 6 = 1) : bigR X s fl b = finR (rtk 1 X) (wck s (rv 1 X)) b := if_neg h
theorem small_e {X : Rdr} {s : Sm} {b : List UInt8} (h : rE (rtk 2 X) = true) : smallR true X s b = .inr 5 := if_pos h
theorem small_0 {X : Rdr} {s : Sm} {b : List UInt8} (h : rE (rtk 2 X) = false) (h0 : rv 2 X = 0) : smallR true X s b = .inr 4 := by
 unfold smallR
 rw [if_pos rfl, if_neg (by rw [h]; decide), if_pos h0]
theorem small_t {X : Rdr} {s : Sm} {b : List UInt8} (h : rE (rtk 2 X) = false) (h0 : ¬ rv 2 X = 0) : smallR true X s b = finR (rtk 2 X) (wud s (rv 2 X)) b := by
 unfold smallR
 rw [if_pos rfl, if_neg (by rw [h]; decide), if_neg h0]
theorem bequal_c (a b : List UInt8) : LP Tryz.prog G 103 [bv a, bv b] [] (fun _ => (.bool (decide (a = b)), [])) := by
 refine goW [] Tryz.func103 rfl ?_
 conv => whnf
 repeat' ((first
   | refine T.s ?_
   | ((first | refine goB (fun h => ?_) (fun h => ?_) | refine AB.dec (fun h => ?_) (fun h => ?_) | refine AB.gen (fun h => ?_) (fun h => ?_)) <;> try (exfalso; omega))
   | refine LFresh.mk fun r => ?_
   | exact T.z
   | refine ⟨_, rfl, rfl, ?_⟩
   | fail) <;> conv => whnf)
 all_goals (try dsimp only)
 (show RL _ _ _; refine goR ?_)
 refine congrArg AV.bool ?_
 rw [ByteArray.toList_eq, ByteArray.toList_eq, Bool.eq_iff_iff]
 simp
theorem fpk {b : List UInt8} {c f e : Int} (h : peekR b = (c, f, e)) : LP Tryz.prog G 61 [bv b] [] (fun _ => (.tup [iAV c, iAV f, iAV e], [])) := by
 have := fpeek_c (G := G) b
 rwa [h] at this
end Go.Proofs.YtkfpgdckdmlhkaaGreatDoor
