/-
  Contracts of the functions that the laws reach.
-/
import Derived.Test.YtbagbjacmakfhaaGreatDoorCq01
import Derived.Test.YtbagbjacmakfhaaGreatDoorCq02
import Derived.Test.YtbagbjacmakfhaaGreatDoorCq03
import Derived.Test.YtbagbjacmakfhaaGreatDoorCq04
import Derived.Test.YtbagbjacmakfhaaGreatDoorCq06
import Derived.Test.YtbagbjacmakfhaaGreatDoorCq09
set_option maxHeartbeats 1000000
set_option linter.all false
namespace Go.Proofs.YtbagbjacmakfhaaGreatDoor
open Go.RowKit
variable {G : Nat → AV}
def fmR (c : UInt8) : Int := if c.toNat < 128 then 1 else if c.toNat < 192 then 2 else if c.toNat = 192 ∨ c.toNat = 193 then 3 else if c.toNat = 208 then 4 else if c.toNat = 209 then 5 else if c.toNat = 210 then 6 else 0
set_option maxRecDepth 100000 in
theorem fmt_c (c : UInt8) : LP Tryz.prog G 71 [bAV c] [] (fun _ => (.tup [iAV (fmR c), .bool (decide (fmR c ≠ 0))], [])) := by
 refine goW [] Tryz.func71 rfl ?_
 conv => whnf
 repeat' ((first | refine T.s ?_ | ((first | apply goB | apply AB.dec | apply AB.gen) <;> intro h <;> try (exfalso; omega)) | refine LQ.mk fun r => ?_ | exact T.z | fail) <;> conv => whnf)
 all_goals (try dsimp only)
 all_goals
   (show RL _ _ _; refine goR ?_)
   have hlt : c.toNat < 256 := c.toNat_lt
   refine congrArg AV.tup ?_
   first
     | (have e : fmR c = 0 := (by unfold fmR; (repeat' split) <;> omega)
        rw [e]; rfl)
     | (have e : fmR c = 1 := (by unfold fmR; (repeat' split) <;> omega)
        rw [e]; rfl)
     | (have e : fmR c = 2 := (by unfold fmR; (repeat' split) <;> omega)
        rw [e]; rfl)
     | (have e : fmR c = 3 := (by unfold fmR; (repeat' split) <;> omega)
        rw [e]; rfl)
     | (have e : fmR c = 4 := (by unfold fmR; (repeat' split) <;> omega)
        rw [e]; rfl)
     | (have e : fmR c = 5 := (by unfold fmR; (repeat' split) <;> omega)
        rw [e]; rfl)
     | (have e : fmR c = 6 := (by unfold fmR; (repeat' split) <;> omega)
        rw [e]; rfl)
def jx : List UInt8 → Int × Int × Int
 | [] => (0, 0, 5)
 | a :: r => if 224 ≤ a.toNat ∧ a.toNat < 240 then (match r with | [] => (0, 0, 5) | b :: _ => if a.toNat = 224 ∨ fmR b = 0 ∨ b.toNat = 210 then (0, 0, 4) else ((a.toNat : Int) - 224, fmR b, 0)) else if fmR a = 0 then (0, 0, 4) else (0, fmR a, 0)
def pe (x : Int × Int × Int) : AV := .tup [iAV x.1, iAV x.2.1, iAV x.2.2]
theorem and240 : ∀ n : Nat, n < 256 → (qu .and .u8 (n : Int) 240 = 224 ↔ (224 ≤ n ∧ n < 240)) := by decide +kernel
theorem nand240 : ∀ n : Nat, n < 256 → (224 ≤ n ∧ n < 240) → IntKind.i64.wrap (qu .andNot .u8 (n : Int) 240) = (n : Int) - 224 := by decide +kernel
theorem fpeek_c (l : List UInt8) : LP Tryz.prog G 34 [bv l] [] (fun _ => (pe (jx l), [])) := by
 match l with
 | [] =>
   refine goW [] Tryz.func34 rfl ?_
   conv => whnf
   repeat' ((first | exact Nm.b 0 | refine T.s ?_ | ((first | apply goB | apply AB.dec | apply AB.gen) <;> intro h <;> try (exfalso; omega)) | refine LQ.mk fun r => ?_ | (show SQ _ _ _ _ _ _ _; first | (refine goD tQ qd 7 [] [0, 1, 2, 3, 4, 5, 6, 7] [] (by kernel_rfl) ?_)) | exact T.z | refine ⟨_, rfl, rfl, ?_⟩ | fail) <;> conv => whnf)
   all_goals (try dsimp only)
   (show RL _ _ _; refine goR ?_)
   rfl
 | [a] =>
   have hlt : a.toNat < 256 := a.toNat_lt
   have ha := and240 _ hlt
   refine goW [] Tryz.func34 rfl ?_
   conv => whnf
   repeat' ((first | exact Nm.b 0 | (show LC _ _ _ _ _ _; first | refine LC.pure (fmt_c _) ?_ | refine goE ?_) | refine T.s ?_ | ((first | apply goB | apply AB.dec | apply AB.gen) <;> intro h <;> try (exfalso; omega)) | refine LQ.mk fun r => ?_ | (show SQ _ _ _ _ _ _ _; first | (refine goD tQ qd 7 [] [0, 1, 2, 3, 4, 5, 6, 7] [] (by kernel_rfl) ?_)) | exact T.z | refine ⟨_, rfl, rfl, ?_⟩ | fail) <;> conv => whnf)
   all_goals (try dsimp only)
   all_goals
     dsimp only at *
     simp only [show Int.toNat 0 * 1 = 0 from rfl, show Int.toNat 1 * 1 = 1 from rfl, List.getD_cons_zero, List.getD_cons_succ] at *
     (show RL _ _ _; refine goR ?_)
     refine congrArg AV.tup ?_
     simp only [jx, iAV]
     first
       | (have hA : 224 ≤ a.toNat ∧ a.toNat < 240 := ha.1 (by assumption)
          rewrite [if_pos hA]
          (try rewrite [hb hA] at *)
          first
            | rfl
            | (split <;> first | rfl | (exfalso; omega) | (simp only [List.cons.injEq, AV.int.injEq, true_and, and_true]; omega)))
       | (have hA : ¬ (224 ≤ a.toNat ∧ a.toNat < 240) := fun h => absurd (ha.2 h) (by assumption)
          rewrite [if_neg hA]
          (split <;> first | rfl | (exfalso; omega) | (simp only [List.cons.injEq, AV.int.injEq, true_and, and_true]; omega)))
 | a :: b :: r =>
   have hlt : a.toNat < 256 := a.toNat_lt
   have ha := and240 _ hlt
   have hb := nand240 _ hlt
   refine goW [] Tryz.func34 rfl ?_
   conv => whnf
   repeat' ((first | exact Nm.b 0 | (show LC _ _ _ _ _ _; first | refine LC.pure (fmt_c _) ?_ | refine goE ?_) | refine T.s ?_ | ((first | apply goB | apply AB.dec | apply AB.gen) <;> intro h <;> try (exfalso; omega)) | refine LQ.mk fun r => ?_ | (show SQ _ _ _ _ _ _ _; first | (refine goD tQ qd 7 [] [0, 1, 2, 3, 4, 5, 6, 7] [] (by kernel_rfl) ?_)) | exact T.z | refine ⟨_, rfl, rfl, ?_⟩ | fail) <;> conv => whnf)
   all_goals (try dsimp only)
   all_goals
     dsimp only at *
     simp only [show Int.toNat 0 * 1 = 0 from rfl, show Int.toNat 1 * 1 = 1 from rfl, List.getD_cons_zero, List.getD_cons_succ] at *
     (show RL _ _ _; refine goR ?_)
     refine congrArg AV.tup ?_
     simp only [jx, iAV]
     first
       | (have hA : 224 ≤ a.toNat ∧ a.toNat < 240 := ha.1 (by assumption)
          rewrite [if_pos hA]
          (try rewrite [hb hA] at *)
          first
            | rfl
            | (split <;> first | rfl | (exfalso; omega) | (simp only [List.cons.injEq, AV.int.injEq, true_and, and_true]; omega)))
       | (have hA : ¬ (224 ≤ a.toNat ∧ a.toNat < 240) := fun h => absurd (ha.2 h) (by assumption)
          rewrite [if_neg hA]
          (split <;> first | rfl | (exfalso; omega) | (simp only [List.cons.injEq, AV.int.injEq, true_and, and_true]; omega)))
open Go.RowKit
variable {G : Nat → AV}
@[reducible] def s0 (c f : Int) : Sm := ⟨c, f, 0, 0, 0, 0, 0, ⟨0, 0, 0, 0, 0, 0, 0, 0, 0, 0, 0, 0, 0, 0, 0⟩, ⟨0, 0⟩, 0, []⟩
theorem bequal_c (a b : List UInt8) : LP Tryz.prog G 91 [bv a, bv b] [] (fun _ => (.bool (decide (a = b)), [])) := by
 refine goW [] Tryz.func91 rfl ?_
 conv => whnf
 repeat' ((first | refine T.s ?_ | ((first | apply goB | apply AB.dec | apply AB.gen) <;> intro h <;> try (exfalso; omega)) | refine LQ.mk fun r => ?_ | exact T.z | refine ⟨_, rfl, rfl, ?_⟩ | fail) <;> conv => whnf)
 all_goals (try dsimp only)
 (show RL _ _ _; refine goR ?_)
 refine congrArg AV.bool ?_
 rw [ByteArray.toList_eq, ByteArray.toList_eq, Bool.eq_iff_iff]
 simp
open Go.RowKit
section
variable {P : Program} {T : Tys} {G : Nat → AV} {N : Nat} {e : Env} {l : LS}
structure Halt (G : Nat → AV) (N : Nat) (K : Env → LS → Prop) (e : Env) (l : LS) : Prop where
 run : WksL G N e l K
theorem Halt.go {K : Env → LS → Prop} (h : K e l) : Halt G N K e l := ⟨⟨fun φ hs => ⟨fun σ0 w0 a w hr => ⟨e, _, ⟨l, rfl, hs, h⟩, hr⟩⟩⟩⟩
theorem Halt.frz {K : Env → LS → Prop} {q p : Nm} (t : TypeId) {c0 : Pl} {rest : LS} {cs' : List AV} (h : LH rest p fun c s _ => c.ty = t ∧ LFs ((q, c0) :: rest) [q] c.cs cs' ∧ K e (s ⟨c.ty, cs'⟩)) : Halt G N K e ((q, c0) :: rest) := by
 obtain ⟨l1, c, l2, rfl, -, h1, h2⟩ := h.ex
 refine ⟨⟨fun φ hs => ⟨fun σ0 w0 a w hr => ?_⟩⟩⟩
 have hs1 : Sep φ (l1 ++ (p, c) :: l2) := ⟨(List.nodup_cons.1 hs.nd).2, fun x hx => hs.fr x (List.mem_cons_of_mem _ hx)⟩
 have hfz := (h1.frz hs).all
 have he : eraN (pQ φ ((q, c0) :: (l1 ++ (p, c) :: l2))) [q] = pQ φ (l1 ++ (p, c) :: l2) := Sep.era' (l1 := []) hs
 have hsub : Sub (pQ φ (l1 ++ (p, c) :: l2)) (pQ φ ((q, c0) :: (l1 ++ (p, c) :: l2))) := fun b d hb => xE _ [q] b d (by rw [he]; exact hb)
 have hr1 := hr.sub hsub
 have hset : pQ φ (l1 ++ (p, ⟨c.ty, cs'⟩) :: l2) = upd (pQ φ (l1 ++ (p, c) :: l2)) p ⟨c.ty, cs'⟩ := (Sep.set' hs1 _).symm
 have hst : Stp (pQ φ (l1 ++ (p, c) :: l2)) w (pQ φ (l1 ++ (p, ⟨c.ty, cs'⟩) :: l2)) w := Stp.forget _ _ w fun b hb => by
   rw [hset, qk]
   · exact hb
   · intro hbp
     subst hbp
     rw [hs1.get] at hb
     cases hb
 have hcs : ∀ {v : Value} (i : Nat), i < c.cs.length → Rd (pQ φ ((q, c0) :: (l1 ++ (p, c) :: l2))) w (c.cs.getD i .any) v → Rd (pQ φ (l1 ++ (p, ⟨c.ty, cs'⟩) :: l2)) w (cs'.getD i .any) v := fun i hi hv => by
   have h3 := (hfz.2 i hi).sound hr.mem hv
   rw [he] at h3
   exact h3.mono hst
 have hp0 : pQ φ ((q, c0) :: (l1 ++ (p, c) :: l2)) p = some c := hsub _ _ hs1.get
 refine ⟨e, _, ⟨_, rfl, hs1.set, h2⟩, hr1.n, hr1.d, fun x => (hr1.env x).mono hst, ⟨fun b d hb => ?_, fun k d hk => ?_, ?_⟩, hr1.st.trans hst, hr1.glob.mono hst⟩
 · rw [hset] at hb
   by_cases hbp : Nm.b b = p
   · subst hbp
     rw [qw] at hb; cases hb
     obtain ⟨cur, k1, k2, k3⟩ := hr.mem.pl b c hp0
     have hl : cs'.length = c.cs.length := hfz.1.symm
     exact ⟨cur, k1, by show cs'.length ≤ _; omega, fun i hi => hcs i (by have hi : i < cs'.length := hi; omega) (k3 i (by have hi : i < cs'.length := hi; omega))⟩
   · rw [qk _ _ hbp] at hb
     obtain ⟨cur, k1, k2, k3⟩ := hr1.mem.pl b d hb
     exact ⟨cur, k1, k2, fun i hi => (k3 i hi).mono hst⟩
 · rw [hset] at hk
   by_cases hkp : Nm.v k = p
   · subst hkp
     rw [qw] at hk; cases hk
     have hl : cs'.length = c.cs.length := hfz.1.symm
     rw [hr.mem.vl k c hp0] at hl
     exact List.eq_nil_of_length_eq_zero hl
   · rw [qk _ _ hkp] at hk
     exact hr1.mem.vl k d hk
 · rw [hset]; exact xL hr1.mem.fin _ _
theorem LFs.cons {F : List Nm} {x y : AV} {xs ys : List AV} (h : LF l F x y) (k : LFs l F xs ys) : LFs l F (x :: xs) (y :: ys) := ⟨h, k⟩
theorem LFs.nil {F : List Nm} : LFs l F [] [] := trivial
end
end Go.Proofs.YtbagbjacmakfhaaGreatDoor
