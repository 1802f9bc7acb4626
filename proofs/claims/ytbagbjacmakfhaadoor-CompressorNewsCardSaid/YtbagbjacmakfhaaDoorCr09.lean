/-
  Contracts of the functions that the laws reach.
-/
import Derived.Test.YtbagbjacmakfhaaDoorCr01
import Derived.Test.YtbagbjacmakfhaaDoorCr02
import Derived.Test.YtbagbjacmakfhaaDoorCr03
import Derived.Test.YtbagbjacmakfhaaDoorCr04
import Derived.Test.YtbagbjacmakfhaaDoorCr05
import Derived.Test.YtbagbjacmakfhaaDoorCr06
import Derived.Test.YtbagbjacmakfhaaDoorCr08
set_option maxHeartbeats 4000000
set_option linter.all false
namespace Go.Proofs.YtbagbjacmakfhaaDoor
open Go.RowKit
variable {G : Nat → AV}
def fmR (c : UInt8) : Int := if c.toNat < 128 then 1 else if c.toNat < 192 then 2 else if c.toNat = 192 ∨ c.toNat = 193 then 3 else if c.toNat = 208 then 4 else if c.toNat = 209 then 5 else if c.toNat = 210 then 6 else 0
set_option maxRecDepth 100000 in
theorem fmt_c (c : UInt8) : LP Tryd.prog G 41 [bAV c] [] (fun _ => (.tup [iAV (fmR c), .bool (decide (fmR c ≠ 0))], [])) := by
 refine goW [] Tryd.func41 rfl ?_
 conv => whnf
 repeat' ((first | refine T.s ?_ | ((first | apply goB | apply AB.dec | apply AB.gen) <;> intro h <;> try (exfalso; omega)) | refine LQ.mk fun r => ?_ | exact T.z | fail) <;> conv => whnf)
 all_goals (try dsimp only)
 all_goals
   (show RL _ _ _; refine goR ?_)
   have hlt : c.toNat < 256 := c.toNat_lt
   refine congrArg AV.tup ?_
   first
     | (have e : fmR c = 0 := (by unfold fmR; (repeat' split) <;> omega)
        rw [e]; rfl)
     | (have e : fmR c = 1 := (by unfold fmR; (repeat' split) <;> omega)
        rw [e]; rfl)
     | (have e : fmR c = 2 := (by unfold fmR; (repeat' split) <;> omega)
        rw [e]; rfl)
     | (have e : fmR c = 3 := (by unfold fmR; (repeat' split) <;> omega)
        rw [e]; rfl)
     | (have e : fmR c = 4 := (by unfold fmR; (repeat' split) <;> omega)
        rw [e]; rfl)
     | (have e : fmR c = 5 := (by unfold fmR; (repeat' split) <;> omega)
        rw [e]; rfl)
     | (have e : fmR c = 6 := (by unfold fmR; (repeat' split) <;> omega)
        rw [e]; rfl)
def jB : List UInt8 → Int × Int × Int
 | [] => (0, 0, 5)
 | a :: r => if 224 ≤ a.toNat ∧ a.toNat < 240 then (match r with | [] => (0, 0, 5) | b :: _ => if a.toNat = 224 ∨ fmR b = 0 ∨ b.toNat = 210 then (0, 0, 4) else ((a.toNat : Int) - 224, fmR b, 0)) else if fmR a = 0 then (0, 0, 4) else (0, fmR a, 0)
def pe (x : Int × Int × Int) : AV := .tup [iAV x.1, iAV x.2.1, iAV x.2.2]
theorem and240 : ∀ n : Nat, n < 256 → (qF .and .u8 (n : Int) 240 = 224 ↔ (224 ≤ n ∧ n < 240)) := by decide +kernel
theorem nand240 : ∀ n : Nat, n < 256 → (224 ≤ n ∧ n < 240) → IntKind.i64.wrap (qF .andNot .u8 (n : Int) 240) = (n : Int) - 224 := by decide +kernel
theorem fpeek_c (l : List UInt8) : LP Tryd.prog G 19 [bv l] [] (fun _ => (pe (jB l), [])) := by
 match l with
 | [] =>
   refine goW [] Tryd.func19 rfl ?_
   conv => whnf
   repeat' ((first | exact Nm.b 0 | refine T.s ?_ | ((first | apply goB | apply AB.dec | apply AB.gen) <;> intro h <;> try (exfalso; omega)) | refine LQ.mk fun r => ?_ | (show SQ _ _ _ _ _ _ _; first | (refine goD tQ qf 7 [] [0, 1, 2, 3, 4, 5, 6, 7] [] (by kernel_rfl) ?_)) | exact T.z | refine ⟨_, rfl, rfl, ?_⟩ | fail) <;> conv => whnf)
   all_goals (try dsimp only)
   (show RL _ _ _; refine goR ?_)
   rfl
 | [a] =>
   have hlt : a.toNat < 256 := a.toNat_lt
   have ha := and240 _ hlt
   refine goW [] Tryd.func19 rfl ?_
   conv => whnf
   repeat' ((first | exact Nm.b 0 | (show LC _ _ _ _ _ _; first | refine LC.pure (fmt_c _) ?_ | refine goE ?_) | refine T.s ?_ | ((first | apply goB | apply AB.dec | apply AB.gen) <;> intro h <;> try (exfalso; omega)) | refine LQ.mk fun r => ?_ | (show SQ _ _ _ _ _ _ _; first | (refine goD tQ qf 7 [] [0, 1, 2, 3, 4, 5, 6, 7] [] (by kernel_rfl) ?_)) | exact T.z | refine ⟨_, rfl, rfl, ?_⟩ | fail) <;> conv => whnf)
   all_goals (try dsimp only)
   all_goals
     dsimp only at *
     simp only [show Int.toNat 0 * 1 = 0 from rfl, show Int.toNat 1 * 1 = 1 from rfl, List.getD_cons_zero, List.getD_cons_succ] at *
     (show RL _ _ _; refine goR ?_)
     refine congrArg AV.tup ?_
     simp only [jB, iAV]
     first
       | (have hA : 224 ≤ a.toNat ∧ a.toNat < 240 := ha.1 (by assumption)
          rewrite [if_pos hA]
          (try rewrite [hb hA] at *)
          first
            | rfl
            | (split <;> first | rfl | (exfalso; omega) | (simp only [List.cons.injEq, AV.int.injEq, true_and, and_true]; omega)))
       | (have hA : ¬ (224 ≤ a.toNat ∧ a.toNat < 240) := fun h => absurd (ha.2 h) (by assumption)
          rewrite [if_neg hA]
          (split <;> first | rfl | (exfalso; omega) | (simp only [List.cons.injEq, AV.int.injEq, true_and, and_true]; omega)))
 | a :: b :: r =>
   have hlt : a.toNat < 256 := a.toNat_lt
   have ha := and240 _ hlt
   have hb := nand240 _ hlt
   refine goW [] Tryd.func19 rfl ?_
   conv => whnf
   repeat' ((first | exact Nm.b 0 | (show LC _ _ _ _ _ _; first | refine LC.pure (fmt_c _) ?_ | refine goE ?_) | refine T.s ?_ | ((first | apply goB | apply AB.dec | apply AB.gen) <;> intro h <;> try (exfalso; omega)) | refine LQ.mk fun r => ?_ | (show SQ _ _ _ _ _ _ _; first | (refine goD tQ qf 7 [] [0, 1, 2, 3, 4, 5, 6, 7] [] (by kernel_rfl) ?_)) | exact T.z | refine ⟨_, rfl, rfl, ?_⟩ | fail) <;> conv => whnf)
   all_goals (try dsimp only)
   all_goals
     dsimp only at *
     simp only [show Int.toNat 0 * 1 = 0 from rfl, show Int.toNat 1 * 1 = 1 from rfl, List.getD_cons_zero, List.getD_cons_succ] at *
     (show RL _ _ _; refine goR ?_)
     refine congrArg AV.tup ?_
     simp only [jB, iAV]
     first
       | (have hA : 224 ≤ a.toNat ∧ a.toNat < 240 := ha.1 (by assumption)
          rewrite [if_pos hA]
          (try rewrite [hb hA] at *)
          first
            | rfl
            | (split <;> first | rfl | (exfalso; omega) | (simp only [List.cons.injEq, AV.int.injEq, true_and, and_true]; omega)))
       | (have hA : ¬ (224 ≤ a.toNat ∧ a.toNat < 240) := fun h => absurd (ha.2 h) (by assumption)
          rewrite [if_neg hA]
          (split <;> first | rfl | (exfalso; omega) | (simp only [List.cons.injEq, AV.int.injEq, true_and, and_true]; omega)))
open Go.RowKit
variable {G : Nat → AV}
@[reducible] def s0 (c f : Int) : Sm := ⟨c, f, 0, 0, 0, 0, 0, ⟨0, 0, 0, 0, 0, 0, 0, 0, 0, 0, 0, 0, 0, 0, 0⟩, ⟨0, 0⟩, 0, []⟩
theorem wV (a b : List UInt8) : LP Tryd.prog G 63 [bv a, bv b] [] (fun _ => (.bool (decide (a = b)), [])) := by
 refine goW [] Tryd.func63 rfl ?_
 conv => whnf
 repeat' ((first | refine T.s ?_ | ((first | apply goB | apply AB.dec | apply AB.gen) <;> intro h <;> try (exfalso; omega)) | refine LQ.mk fun r => ?_ | exact T.z | refine ⟨_, rfl, rfl, ?_⟩ | fail) <;> conv => whnf)
 all_goals (try dsimp only)
 (show RL _ _ _; refine goR ?_)
 refine congrArg AV.bool ?_
 rw [ByteArray.toList_eq, ByteArray.toList_eq, Bool.eq_iff_iff]
 simp
theorem fpk {b : List UInt8} {c f e : Int} (h : jB b = (c, f, e)) : LP Tryd.prog G 19 [bv b] [] (fun _ => (.tup [iAV c, iAV f, iAV e], [])) := by
 have := fpeek_c (G := G) b
 rwa [h] at this
open Go.RowKit
section
variable {P : Program} {T : Tys} {G : Nat → AV} {N : Nat} {e : Env} {l : LS}
structure Halt (G : Nat → AV) (N : Nat) (K : Env → LS → Prop) (e : Env) (l : LS) : Prop where
 run : WksL G N e l K
theorem Halt.go {K : Env → LS → Prop} (h : K e l) : Halt G N K e l := ⟨⟨fun φ hs => ⟨fun σ0 w0 a w hr => ⟨e, _, ⟨l, rfl, hs, h⟩, hr⟩⟩⟩⟩
theorem Halt.frz {K : Env → LS → Prop} {q p : Nm} (t : TypeId) {c0 : Pl} {rest : LS} {cs' : List AV} (h : LH rest p fun c s _ => c.ty = t ∧ LFs ((q, c0) :: rest) [q] c.cs cs' ∧ K e (s ⟨c.ty, cs'⟩)) : Halt G N K e ((q, c0) :: rest) := by
 obtain ⟨l1, c, l2, rfl, -, h1, h2⟩ := h.ex
 refine ⟨⟨fun φ hs => ⟨fun σ0 w0 a w hr => ?_⟩⟩⟩
 have hs1 : Sep φ (l1 ++ (p, c) :: l2) := ⟨(List.nodup_cons.1 hs.nd).2, fun x hx => hs.fr x (List.mem_cons_of_mem _ hx)⟩
 have hfz := (h1.frz hs).all
 have he : eraN (pQ φ ((q, c0) :: (l1 ++ (p, c) :: l2))) [q] = pQ φ (l1 ++ (p, c) :: l2) := Sep.era' (l1 := []) hs
 have hsub : Sub (pQ φ (l1 ++ (p, c) :: l2)) (pQ φ ((q, c0) :: (l1 ++ (p, c) :: l2))) := fun b d hb => zN _ [q] b d (by rw [he]; exact hb)
 have hr1 := hr.sub hsub
 have hset : pQ φ (l1 ++ (p, ⟨c.ty, cs'⟩) :: l2) = upd (pQ φ (l1 ++ (p, c) :: l2)) p ⟨c.ty, cs'⟩ := (Sep.set' hs1 _).symm
 have hst : Stp (pQ φ (l1 ++ (p, c) :: l2)) w (pQ φ (l1 ++ (p, ⟨c.ty, cs'⟩) :: l2)) w := Stp.forget _ _ w fun b hb => by
   rw [hset, qg]
   · exact hb
   · intro hbp
     subst hbp
     rw [hs1.get] at hb
     cases hb
 have hcs : ∀ {v : Value} (i : Nat), i < c.cs.length → Rd (pQ φ ((q, c0) :: (l1 ++ (p, c) :: l2))) w (c.cs.getD i .any) v → Rd (pQ φ (l1 ++ (p, ⟨c.ty, cs'⟩) :: l2)) w (cs'.getD i .any) v := fun i hi hv => by
   have h3 := (hfz.2 i hi).sound hr.mem hv
   rw [he] at h3
   exact h3.mono hst
 have hp0 : pQ φ ((q, c0) :: (l1 ++ (p, c) :: l2)) p = some c := hsub _ _ hs1.get
 refine ⟨e, _, ⟨_, rfl, hs1.set, h2⟩, hr1.n, hr1.d, fun x => (hr1.env x).mono hst, ⟨fun b d hb => ?_, fun k d hk => ?_, ?_⟩, hr1.st.trans hst, hr1.glob.mono hst⟩
 · rw [hset] at hb
   by_cases hbp : Nm.b b = p
   · subst hbp
     rw [qp] at hb; cases hb
     obtain ⟨cur, k1, k2, k3⟩ := hr.mem.pl b c hp0
     have hl : cs'.length = c.cs.length := hfz.1.symm
     exact ⟨cur, k1, by show cs'.length ≤ _; omega, fun i hi => hcs i (by have hi : i < cs'.length := hi; omega) (k3 i (by have hi : i < cs'.length := hi; omega))⟩
   · rw [qg _ _ hbp] at hb
     obtain ⟨cur, k1, k2, k3⟩ := hr1.mem.pl b d hb
     exact ⟨cur, k1, k2, fun i hi => (k3 i hi).mono hst⟩
 · rw [hset] at hk
   by_cases hkp : Nm.v k = p
   · subst hkp
     rw [qp] at hk; cases hk
     have hl : cs'.length = c.cs.length := hfz.1.symm
     rw [hr.mem.vl k c hp0] at hl
     exact List.eq_nil_of_length_eq_zero hl
   · rw [qg _ _ hkp] at hk
     exact hr1.mem.vl k d hk
 · rw [hset]; exact xT hr1.mem.fin _ _
theorem LFs.cons {F : List Nm} {x y : AV} {xs ys : List AV} (h : LF l F x y) (k : LFs l F xs ys) : LFs l F (x :: xs) (y :: ys) := ⟨h, k⟩
theorem LFs.nil {F : List Nm} : LFs l F [] [] := trivial
end
open Go.RowKit
variable {G : Nat → AV}
theorem fm1 {c : UInt8} (h : c.toNat < 128) : fmR c = 1 := by
 unfold fmR
 repeat' split
 all_goals omega
theorem fm2 {c : UInt8} (h : ¬ c.toNat < 128 ∧ c.toNat < 192) : fmR c = 2 := by
 unfold fmR
 repeat' split
 all_goals omega
theorem fm3 {c : UInt8} (h : c.toNat = 192 ∨ c.toNat = 193) : fmR c = 3 := by
 unfold fmR
 repeat' split
 all_goals omega
open Go.RowKit
variable {G : Nat → AV}
theorem LP.weak {P : Program} {f : FuncId} {args : List AV} {x y : AV} (h : LP P G f args [] (fun _ => (x, []))) (hw : ∀ σ w v, Rd σ w x v → Rd σ w y v) : LP P G f args [] (fun _ => (y, [])) := by
 unfold LP at h ⊢
 exact ⟨h.1, fun q => ⟨by simp, by simp⟩, fun τ w vs h1 h2 h3 h4 h5 => (h.2.2 τ w vs h1 h2 h3 h4 h5).mono fun e w' ⟨v, q, k1, k2, k3, k4, k5, k6⟩ => ⟨v, q, k1, k2, k3, hw _ _ _ k4, k5, k6⟩⟩
theorem LP.warg {P : Program} {f : FuncId} {args args' : List AV} {x : AV} (h : LP P G f args [] (fun _ => (x, []))) (hw : ∀ σ w vs, RdL σ w args' vs → RdL σ w args vs) : LP P G f args' [] (fun _ => (x, [])) := by
 unfold LP at h ⊢
 exact ⟨h.1, fun q => ⟨by simp, by simp⟩, fun τ w vs h1 h2 h3 h4 h5 => h.2.2 τ w vs h1 h2 h3 h4 (hw _ _ _ h5)⟩
open Go.RowKit
variable {G : Nat → AV}
def st2 (l : List UInt8) (a : Nat) (x : Int) : List UInt8 := (l.set (a + 1) (b8 x)).set a (b8 (x.fdiv 256))
def st4 (l : List UInt8) (a : Nat) (x : Int) : List UInt8 := (((l.set (a + 3) (b8 x)).set (a + 2) (b8 (x.fdiv 256))).set (a + 1) (b8 ((x.fdiv 256).fdiv 256))).set a (b8 (((x.fdiv 256).fdiv 256).fdiv 256))
@[simp] theorem st2_len (l : List UInt8) (a : Nat) (x : Int) : (st2 l a x).length = l.length := by simp [st2]
@[simp] theorem st4_len (l : List UInt8) (a : Nat) (x : Int) : (st4 l a x).length = l.length := by simp [st4]
theorem ix {a n : Nat} {k : Int} (ha : a ≤ 100000) (hk : k = (n : Int)) (hn : n ≤ 10) : 0 + (qc .add .i64 (a : Int) k).toNat * 1 = a + n := by
 have : qc .add .i64 (a : Int) k = ((a + n : Nat) : Int) := by (exact T.num)
 rw [this]; omega
theorem yW (l : List UInt8) (a n : Nat) (x : Int) (h : a + 2 ≤ n) (hn : n ≤ l.length) (ha : a ≤ 100000) (p : Nm) : LP Tryd.prog G 88 [.vw p 0 n 1, iAV a, iAV 2, iAV x] [(p, ⟨5, l.map bAV⟩)] (fun _ => (.tup [], [(p, ⟨5, (st2 l a x).map bAV⟩)])) := by
 refine goW [] Tryd.func88 rfl ?_
 conv => whnf
 repeat' ((first | refine T.s ?_ | ((first | apply goB | apply AB.dec | apply AB.gen) <;> intro h <;> try (exfalso; omega)) | refine LQ.mk fun r => ?_ | (show SQ _ _ _ _ _ _ _; first | refine SQ.times 1 3 (by rfl) ?_ | refine AtL.step tQ [] ?_) | exact T.z | refine ⟨_, rfl, rfl, ?_⟩ | fail) <;> conv => whnf)
 all_goals (try dsimp only)
 all_goals
   refine RL.val rfl (LB.cons ?_)
   (repeat first | refine goH ?_ | apply LH.here | apply LH.next)
   refine And.intro (congrArg (Pl.mk _) ?_) LB.nil
   rw [ix ha (show qc .sub .i64 (qc .sub .i64 2 1) 1 = ((0 : Nat) : Int) from rfl) (by decide), ix ha (show qc .sub .i64 2 1 = ((1 : Nat) : Int) from rfl) (by decide)]
   rfl
theorem pput4_c (l : List UInt8) (a n : Nat) (x : Int) (h : a + 4 ≤ n) (hn : n ≤ l.length) (ha : a ≤ 100000) (p : Nm) : LP Tryd.prog G 88 [.vw p 0 n 1, iAV a, iAV 4, iAV x] [(p, ⟨5, l.map bAV⟩)] (fun _ => (.tup [], [(p, ⟨5, (st4 l a x).map bAV⟩)])) := by
 refine goW [] Tryd.func88 rfl ?_
 conv => whnf
 repeat' ((first | refine T.s ?_ | ((first | apply goB | apply AB.dec | apply AB.gen) <;> intro h <;> try (exfalso; omega)) | refine LQ.mk fun r => ?_ | (show SQ _ _ _ _ _ _ _; first | refine SQ.times 1 5 (by rfl) ?_ | refine AtL.step tQ [] ?_) | exact T.z | refine ⟨_, rfl, rfl, ?_⟩ | fail) <;> conv => whnf)
 all_goals (try dsimp only)
 all_goals
   refine RL.val rfl (LB.cons ?_)
   (repeat first | refine goH ?_ | apply LH.here | apply LH.next)
   refine And.intro (congrArg (Pl.mk _) ?_) LB.nil
   rw [ix ha (show qc .sub .i64 (qc .sub .i64 (qc .sub .i64 (qc .sub .i64 4 1) 1) 1) 1 = ((0 : Nat) : Int) from rfl) (by decide), ix ha (show qc .sub .i64 (qc .sub .i64 (qc .sub .i64 4 1) 1) 1 = ((1 : Nat) : Int) from rfl) (by decide), ix ha (show qc .sub .i64 (qc .sub .i64 4 1) 1 = ((2 : Nat) : Int) from rfl) (by decide), ix ha (show qc .sub .i64 4 1 = ((3 : Nat) : Int) from rfl) (by decide)]
   rfl
theorem vZ (l : List UInt8) (a n m : Nat) (x : Int) (h : a + 2 ≤ n) (hn : n ≤ l.length) (ha : a ≤ 100000) (p : Nm) : LP Tryd.prog G 88 [.vc p 0 n m 1, iAV a, iAV 2, iAV x] [(p, ⟨5, l.map bAV⟩)] (fun _ => (.tup [], [(p, ⟨5, (st2 l a x).map bAV⟩)])) := by
 refine goW [] Tryd.func88 rfl ?_
 conv => whnf
 repeat' ((first | refine T.s ?_ | ((first | apply goB | apply AB.dec | apply AB.gen) <;> intro h <;> try (exfalso; omega)) | refine LQ.mk fun r => ?_ | (show SQ _ _ _ _ _ _ _; first | refine SQ.times 1 3 (by rfl) ?_ | refine AtL.step tQ [] ?_) | exact T.z | refine ⟨_, rfl, rfl, ?_⟩ | fail) <;> conv => whnf)
 all_goals (try dsimp only)
 all_goals
   refine RL.val rfl (LB.cons ?_)
   (repeat first | refine goH ?_ | apply LH.here | apply LH.next)
   refine And.intro (congrArg (Pl.mk _) ?_) LB.nil
   rw [ix ha (show qc .sub .i64 (qc .sub .i64 2 1) 1 = ((0 : Nat) : Int) from rfl) (by decide), ix ha (show qc .sub .i64 2 1 = ((1 : Nat) : Int) from rfl) (by decide)]
   rfl
theorem vY (l : List UInt8) (a n m : Nat) (x : Int) (h : a + 4 ≤ n) (hn : n ≤ l.length) (ha : a ≤ 100000) (p : Nm) : LP Tryd.prog G 88 [.vc p 0 n m 1, iAV a, iAV 4, iAV x] [(p, ⟨5, l.map bAV⟩)] (fun _ => (.tup [], [(p, ⟨5, (st4 l a x).map bAV⟩)])) := by
 refine goW [] Tryd.func88 rfl ?_
 conv => whnf
 repeat' ((first | refine T.s ?_ | ((first | apply goB | apply AB.dec | apply AB.gen) <;> intro h <;> try (exfalso; omega)) | refine LQ.mk fun r => ?_ | (show SQ _ _ _ _ _ _ _; first | refine SQ.times 1 5 (by rfl) ?_ | refine AtL.step tQ [] ?_) | exact T.z | refine ⟨_, rfl, rfl, ?_⟩ | fail) <;> conv => whnf)
 all_goals (try dsimp only)
 all_goals
   refine RL.val rfl (LB.cons ?_)
   (repeat first | refine goH ?_ | apply LH.here | apply LH.next)
   refine And.intro (congrArg (Pl.mk _) ?_) LB.nil
   rw [ix ha (show qc .sub .i64 (qc .sub .i64 (qc .sub .i64 (qc .sub .i64 4 1) 1) 1) 1 = ((0 : Nat) : Int) from rfl) (by decide), ix ha (show qc .sub .i64 (qc .sub .i64 (qc .sub .i64 4 1) 1) 1 = ((1 : Nat) : Int) from rfl) (by decide), ix ha (show qc .sub .i64 (qc .sub .i64 4 1) 1 = ((2 : Nat) : Int) from rfl) (by decide), ix ha (show qc .sub .i64 4 1 = ((3 : Nat) : Int) from rfl) (by decide)]
   rfl
attribute [irreducible] st2 st4
open Go.RowKit
variable {G : Nat → AV}
theorem fdiv2 (x : Int) : (x.fdiv 256).fdiv 256 = x.fdiv 65536 := by
 rw [Int.fdiv_eq_ediv_of_nonneg _ (by decide), Int.fdiv_eq_ediv_of_nonneg _ (by decide), Int.fdiv_eq_ediv_of_nonneg _ (by decide)]
 omega
theorem fdiv3 (x : Int) : ((x.fdiv 256).fdiv 256).fdiv 256 = x.fdiv 16777216 := by
 rw [fdiv2, Int.fdiv_eq_ediv_of_nonneg _ (by decide), Int.fdiv_eq_ediv_of_nonneg _ (by decide), Int.fdiv_eq_ediv_of_nonneg _ (by decide)]
 omega
theorem putB2 (x : Int) : qu x 2 = [b8 (x.fdiv 256), b8 x] := by
 show [b8 (x.fdiv 256), b8 (x.fdiv 1)] = _
 rw [Int.fdiv_one]
theorem putB4 (x : Int) : qu x 4 = [b8 (((x.fdiv 256).fdiv 256).fdiv 256), b8 ((x.fdiv 256).fdiv 256), b8 (x.fdiv 256), b8 x] := by
 rw [fdiv3, fdiv2]
 show [b8 (x.fdiv 16777216), b8 (x.fdiv 65536), b8 (x.fdiv 256), b8 (x.fdiv 1)] = _
 rw [Int.fdiv_one]
theorem headL_1 {h : Hd} (k : h.k = 1) : qq h = [69, b8 h.tos, 0, 0, b8 (h.id.fdiv 256), b8 h.id, b8 (64 * h.fx), 0, b8 h.ttl, 17, 0, 0, b8 (((h.fr.fdiv 256).fdiv 256).fdiv 256), b8 ((h.fr.fdiv 256).fdiv 256), b8 (h.fr.fdiv 256), b8 h.fr,
   b8 (((h.to.fdiv 256).fdiv 256).fdiv 256), b8 ((h.to.fdiv 256).fdiv 256), b8 (h.to.fdiv 256), b8 h.to, b8 (h.fp.fdiv 256), b8 h.fp, b8 (h.tp.fdiv 256), b8 h.tp, 0, 0, b8 (h.ck.fdiv 256), b8 h.ck] := by
 unfold qq
 rw [if_neg (by omega)]
 simp only [putB2, putB4]
 rfl
theorem headL_2 {h : Hd} (k : h.k = 2) : qq h = [69, b8 h.tos, 0, 0, b8 (h.id.fdiv 256), b8 h.id, b8 (64 * h.fx), 0, b8 h.ttl, 17, 0, 0, b8 (((h.fr.fdiv 256).fdiv 256).fdiv 256), b8 ((h.fr.fdiv 256).fdiv 256), b8 (h.fr.fdiv 256), b8 h.fr,
   b8 (((h.to.fdiv 256).fdiv 256).fdiv 256), b8 ((h.to.fdiv 256).fdiv 256), b8 (h.to.fdiv 256), b8 h.to, b8 (h.fp.fdiv 256), b8 h.fp, b8 (h.tp.fdiv 256), b8 h.tp, 0, 0, b8 (h.ck.fdiv 256), b8 h.ck,
   128, b8 (128 * h.mr + h.ty), b8 (h.sq.fdiv 256), b8 h.sq, b8 (((h.tm.fdiv 256).fdiv 256).fdiv 256), b8 ((h.tm.fdiv 256).fdiv 256), b8 (h.tm.fdiv 256), b8 h.tm, b8 (((h.sr.fdiv 256).fdiv 256).fdiv 256), b8 ((h.sr.fdiv 256).fdiv 256), b8 (h.sr.fdiv 256), b8 h.sr] := by
 unfold qq
 rw [if_pos k]
 simp only [putB2, putB4]
 rfl
theorem vO {P : Program} {f : FuncId} {args : List AV} {p : Nm} {n t : Nat} {R : List UInt8 → List UInt8} {K : AV → LS → Prop} {l : LS} (hs : ∀ L : List UInt8, n ≤ L.length → LP P G f args [(p, ⟨t, L.map bAV⟩)] fun _ => (.tup [], [(p, ⟨t, (R L).map bAV⟩)]))
   (hk : LH l p fun c s _ => ∃ L : List UInt8, c = ⟨t, L.map bAV⟩ ∧ n ≤ L.length ∧ K (.tup []) (s ⟨t, (R L).map bAV⟩)) : LC P G f args l K := by
 obtain ⟨l1, c, l2, rfl, L, rfl, h2, h3⟩ := hk.ex
 exact LC.upd (hs L h2) ⟨l1, _, l2, rfl, rfl, h3⟩
theorem phead_n (h : Hd) (k : h.ok = false) : LP Tryd.prog G 78 [h.av] [] (fun _ => (.nils, [])) := by
 have hv := zt (G := G) h
 rw [k] at hv
 refine goW [] Tryd.func78 rfl ?_
 conv => whnf
 repeat' ((first | exact Nm.b 0 | (show LC _ _ _ _ _ _; first | refine LC.pure (hv) ?_ | refine goE ?_) | refine T.s ?_ | ((first | apply goB | apply AB.dec | apply AB.gen) <;> intro h <;> try (exfalso; omega)) | refine LQ.mk fun r => ?_ | (show SQ _ _ _ _ _ _ _; first | (refine goD tQ qf 4 [3, 6] [0, 1, 2, 3, 4, 5, 6, 7, 8] [] (by kernel_rfl) ?_) | (refine goD tQ qf 15 [3, 6, 10] [0, 1, 2, 3, 4, 5, 6, 7, 8, 9, 10, 11, 12] [] (by kernel_rfl) ?_)) | (show (_ → _) ∧ (¬ _ → _); first | refine T.y ?_ | refine qE (fun h => ?_) (fun h => ?_)) | exact T.z | refine ⟨_, rfl, rfl, ?_⟩ | fail) <;> conv => whnf)
 all_goals (try dsimp only)
 all_goals
   (show RL _ _ _; refine goR ?_)
   rfl
theorem bAV69 : AV.int .u8 69 = bAV (69 : UInt8) := rfl
theorem bAV17 : AV.int .u8 17 = bAV (17 : UInt8) := rfl
theorem bAV128 : AV.int .u8 128 = bAV (128 : UInt8) := rfl
theorem fx64 {x : Int} (h : 0 ≤ x ∧ x ≤ 1) : qc .mul .i64 64 x = 64 * x := by (exact T.num)
theorem mt128 {x y : Int} (h : 0 ≤ x ∧ x ≤ 1) (h2 : 0 ≤ y ∧ y ≤ 127) : qc .add .i64 (qc .mul .i64 128 x) y = 128 * x + y := by (exact T.num)
theorem yY (h : Hd) (ko : h.ok = true) (k : h.k = 1) : LP Tryd.prog G 78 [h.av] [] (fun q => (.vc q 0 28 40 1, [(q, ⟨5, (qq h ++ List.replicate 12 0).map bAV⟩)])) := by
 have hv := zt (G := G) h
 rw [ko] at hv
 have hfx := fx64 (h.of ko).2.2.2.2.2.2.2.1
 refine goW [] Tryd.func78 rfl ?_
 conv => whnf
 repeat' ((first | (show LC _ _ _ _ _ _; refine vO (fun l h1 => vZ l _ _ _ _ (by decide) h1 (by decide) _) ?_; (repeat first | refine goH ?_ | apply LH.here | apply LH.next); refine ⟨_, rfl, (by simp), ?_⟩; conv => whnf) | (show LC _ _ _ _ _ _; refine vO (fun l h1 => vY l _ _ _ _ (by decide) h1 (by decide) _) ?_; (repeat first | refine goH ?_ | apply LH.here | apply LH.next); refine ⟨_, rfl, (by simp), ?_⟩; conv => whnf) | exact Nm.b 0 | (show LC _ _ _ _ _ _; first | refine LC.pure (hv) ?_ | refine goE ?_) | (show AQ _ _; first | (refine AQ.eq (cs' := (List.replicate 40 (0 : UInt8)).map bAV) rfl ?_) | (with_reducible refine AQ.set (x := b8 _) (zx _).symm ?_ ?_; (focus (simp; done))) | (with_reducible refine AQ.set (f := bAV) (x := (69 : UInt8)) bAV69 ?_ ?_; (focus (simp; done))) | (with_reducible refine AQ.set (f := bAV) (x := (17 : UInt8)) bAV17 ?_ ?_; (focus (simp; done)))) | refine T.s ?_ | ((first | apply goB | apply AB.dec | apply AB.gen) <;> intro h <;> try (exfalso; omega)) | refine LQ.mk fun r => ?_ | (show SQ _ _ _ _ _ _ _; first | refine gX 4 [3, 6] [0, 1, 2, 3, 4, 5, 6, 7, 8] [r] ?_ | refine gX 15 [3, 6, 10] [0, 1, 2, 3, 4, 5, 6, 7, 8, 9, 10, 11, 12] [r] ?_) | (show (_ → _) ∧ (¬ _ → _); first | refine T.y ?_ | refine qE (fun h => ?_) (fun h => ?_)) | exact T.z | refine ⟨_, rfl, rfl, ?_⟩ | fail) <;> conv => whnf)
 all_goals (try dsimp only)
 all_goals
   refine RL.own r rfl ?_ ?_
   · (repeat first | refine goH ?_ | apply LH.here | apply LH.next); trivial
   · refine LB.cons ?_
     (repeat first | refine goH ?_ | apply LH.here | apply LH.next)
     refine And.intro (congrArg (Pl.mk _) (congrArg (List.map bAV) ?_)) LB.nil
     rw [hfx, headL_1 k]
     kernel_rfl
theorem yX (h : Hd) (ko : h.ok = true) (k : h.k = 2) : LP Tryd.prog G 78 [h.av] [] (fun q => (.vw q 0 40 1, [(q, ⟨5, (qq h).map bAV⟩)])) := by
 have hv := zt (G := G) h
 rw [ko] at hv
 have hfx := fx64 (h.of ko).2.2.2.2.2.2.2.1
 have hmt := mt128 (h.of ko).2.2.2.2.2.2.2.2.2.2.1 (h.of ko).2.2.2.2.2.2.2.2.2.2.2.1
 refine goW [] Tryd.func78 rfl ?_
 conv => whnf
 repeat' ((first | (show LC _ _ _ _ _ _; refine vO (fun l h1 => vZ l _ _ _ _ (by decide) h1 (by decide) _) ?_; (repeat first | refine goH ?_ | apply LH.here | apply LH.next); refine ⟨_, rfl, (by simp), ?_⟩; conv => whnf) | (show LC _ _ _ _ _ _; refine vO (fun l h1 => yW l _ _ _ (by decide) h1 (by decide) _) ?_; (repeat first | refine goH ?_ | apply LH.here | apply LH.next); refine ⟨_, rfl, (by simp), ?_⟩; conv => whnf) | (show LC _ _ _ _ _ _; refine vO (fun l h1 => pput4_c l _ _ _ (by decide) h1 (by decide) _) ?_; (repeat first | refine goH ?_ | apply LH.here | apply LH.next); refine ⟨_, rfl, (by simp), ?_⟩; conv => whnf) | (show LC _ _ _ _ _ _; refine vO (fun l h1 => vY l _ _ _ _ (by decide) h1 (by decide) _) ?_; (repeat first | refine goH ?_ | apply LH.here | apply LH.next); refine ⟨_, rfl, (by simp), ?_⟩; conv => whnf) | exact Nm.b 0 | (show LC _ _ _ _ _ _; first | refine LC.pure (hv) ?_ | refine goE ?_) | (show AQ _ _; first | (refine AQ.eq (cs' := (List.replicate 40 (0 : UInt8)).map bAV) rfl ?_) | (with_reducible refine AQ.set (x := b8 _) (zx _).symm ?_ ?_; (focus (simp; done))) | (with_reducible refine AQ.set (f := bAV) (x := (69 : UInt8)) bAV69 ?_ ?_; (focus (simp; done))) | (with_reducible refine AQ.set (f := bAV) (x := (17 : UInt8)) bAV17 ?_ ?_; (focus (simp; done))) | (with_reducible refine AQ.set (f := bAV) (x := (128 : UInt8)) bAV128 ?_ ?_; (focus (simp; done)))) | refine T.s ?_ | ((first | apply goB | apply AB.dec | apply AB.gen) <;> intro h <;> try (exfalso; omega)) | refine LQ.mk fun r => ?_ | (show SQ _ _ _ _ _ _ _; first | refine gX 4 [3, 6] [0, 1, 2, 3, 4, 5, 6, 7, 8] [r] ?_ | refine gX 15 [3, 6, 10] [0, 1, 2, 3, 4, 5, 6, 7, 8, 9, 10, 11, 12] [r] ?_) | (show (_ → _) ∧ (¬ _ → _); first | refine T.y ?_ | refine qE (fun h => ?_) (fun h => ?_)) | exact T.z | refine ⟨_, rfl, rfl, ?_⟩ | fail) <;> conv => whnf)
 all_goals (try dsimp only)
 all_goals
   refine RL.own r rfl ?_ ?_
   · (repeat first | refine goH ?_ | apply LH.here | apply LH.next); trivial
   · refine LB.cons ?_
     (repeat first | refine goH ?_ | apply LH.here | apply LH.next)
     refine And.intro (congrArg (Pl.mk _) (congrArg (List.map bAV) ?_)) LB.nil
     rw [hfx, hmt, headL_2 k]
     kernel_rfl
end Go.Proofs.YtbagbjacmakfhaaDoor
