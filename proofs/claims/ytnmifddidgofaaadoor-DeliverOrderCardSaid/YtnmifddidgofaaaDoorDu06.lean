/-
  Contracts of the functions that the laws reach.
-/
import Derived.Test.YtnmifddidgofaaaDoorDu01
import Derived.Test.YtnmifddidgofaaaDoorDu02
import Derived.Test.YtnmifddidgofaaaDoorDu03
import Derived.Test.YtnmifddidgofaaaDoorDu04
import Derived.Test.YtnmifddidgofaaaDoorDu05
set_option linter.all false
namespace Go.Proofs.YtnmifddidgofaaaDoor
open Go.RowKit
variable {G : Nat → AV}
def lowR (b n : Int) : Int := ibits .and .i64 n (iarith .sub .i64 (IntKind.i64.wrap (1 * 2 ^ min b.toNat 64)) 1)
def highR (b n : Int) : Int := n.fdiv (2 ^ min b.toNat 64)
theorem split_c (b n : Int) (hb : 5 ≤ b) (hb2 : b ≤ 9) (h0 : 0 ≤ n) (h1 : n < 1048576) : LSpec Tryd.prog G 59 [iAV b, iAV n] [] (fun _ => (.tup [iAV (highR b n), iAV (lowR b n), iAV 0], [])) := by
 have e1 : bitsOk b = true := by simp [bitsOk]; omega
 have e2 : countOk n = true := by simp [countOk]; omega
 refine goW [] Tryd.func59 rfl ?_
 conv => whnf
 repeat' ((first | exact Nm.b 0 | (show LCall _ _ _ _ _ _; first | refine LCall.pure (cbits_c _) ?_ | refine LCall.pure (ccount_c _) ?_ | refine goE ?_) | refine T.s ?_ | ((first | apply goB | apply ABr.dec | apply ABr.gen) <;> intro h <;> try (exfalso; omega)) | refine LFresh.mk fun r => ?_ | (show SWpL _ _ _ _ _ _ _; first | (refine goD tyOk mixed 3 [] [0, 1, 2, 3, 4, 5, 6, 7, 8, 9, 10] [] (by kernel_rfl) ?_)) | exact T.z | fail) <;> conv => whnf)
 all_goals (try dsimp only)
 (show RetL _ _ _; refine goR ?_)
 rfl
theorem rlow_valid (b : Int) (hb : 1 ≤ b) (hb2 : b ≤ 32) : LSpec Tryd.prog G 67 [iAV b] [] (fun _ => (.bool true, [])) := by
 refine goW [] Tryd.func67 rfl ?_
 conv => whnf
 repeat' ((first | refine T.s ?_ | ((first | apply goB | apply ABr.dec | apply ABr.gen) <;> intro h <;> try (exfalso; omega)) | refine LFresh.mk fun r => ?_ | exact T.z | fail) <;> conv => whnf)
 all_goals (try dsimp only)
 all_goals
   (show RetL _ _ _; refine goR ?_)
   simp [icmp] <;> omega
theorem rlow_c (b n : Int) (hb : 1 ≤ b) (hb2 : b ≤ 32) : LSpec Tryd.prog G 52 [iAV b, iAV n] [] (fun _ => (iAV (lowR b n), [])) := by
 refine goW [] Tryd.func52 rfl ?_
 conv => whnf
 repeat' ((first | (show LCall _ _ _ _ _ _; first | refine LCall.pure (rlow_valid _ hb hb2) ?_ | refine goE ?_) | refine T.s ?_ | ((first | apply goB | apply ABr.dec | apply ABr.gen) <;> intro h <;> try (exfalso; omega)) | refine LFresh.mk fun r => ?_ | exact T.z | refine ⟨_, rfl, rfl, ?_⟩ | fail) <;> conv => whnf)
 all_goals (try dsimp only)
 (show RetL _ _ _; refine goR ?_)
 rw [show (IntKind.u64.wrap b).toNat = b.toNat by rw [IntKind.wrap_u64]; omega]
 rfl
def putB (n : Int) : Nat → List UInt8
 | 0 => []
 | k + 1 => b8 (n.fdiv (2 ^ min (8 * k) 64)) :: putB n k
theorem cput_c (l : List UInt8) (n : Int) (hl : l.length ≤ 1000) (p : Nm) : LSpec Tryd.prog G 60 [.vw p 0 l.length 1, iAV n] [(p, ⟨5, l.map bAV⟩)] (fun q => (.vw q 0 (l.length + 4) 1, [(q, ⟨5, (l ++ putB n 4).map bAV⟩)])) := by
 refine goW [] Tryd.func60 rfl ?_
 conv => whnf
 repeat' ((first | refine T.s ?_ | ((first | apply goB | apply ABr.dec | apply ABr.gen) <;> intro h <;> try (exfalso; omega)) | refine LFresh.mk fun r => ?_ | exact T.z | refine ⟨_, rfl, rfl, ?_⟩ | fail) <;> conv => whnf)
 all_goals (try dsimp only)
 refine RetL.own r rfl ?_ ?_
 · (repeat first | refine goH ?_ | apply LHas.here | apply LHas.next); trivial
 · (repeat' first | exact LSub.nil | (with_reducible exact LSub.refl) | (apply LSub.cons; (repeat first | refine goH ?_ | apply LHas.here | apply LHas.next); refine And.intro ?_ ?_; (focus (try (first | (with_reducible rfl) | (refine congrArg (Pl.mk _) ?_; (first | rfl | (simp; done))) | rfl | (with_reducible refine congrArg (Pl.mk _) ?_))))))
   simp [putB, bAV_b8, IntKind.bits]
attribute [irreducible] lowR highR
open Go.RowKit
variable {G : Nat → AV}
theorem put4_c (l : List UInt8) (n : Int) (hl : l.length ≤ 1000) (p : Nm) : LSpec Tryd.prog G 31 [.vw p 0 l.length 1, iAV 4, iAV n] [(p, ⟨5, l.map bAV⟩)] (fun q => (.vw q 0 (l.length + 4) 1, [(q, ⟨5, (l ++ putB n 4).map bAV⟩)])) := by
 refine goW [] Tryd.func31 rfl ?_
 conv => whnf
 repeat' ((first | refine T.s ?_ | ((first | apply goB | apply ABr.dec | apply ABr.gen) <;> intro h <;> try (exfalso; omega)) | refine LFresh.mk fun r => ?_ | (show SWpL _ _ _ _ _ _ _; first | refine SWpL.times 2 5 (by rfl) ?_ | refine AtL.step tyOk [] ?_) | exact T.z | refine ⟨_, rfl, rfl, ?_⟩ | fail) <;> conv => whnf)
 all_goals (try dsimp only)
 refine RetL.own r rfl ?_ ?_
 · (repeat first | refine goH ?_ | apply LHas.here | apply LHas.next); trivial
 · apply LSub.cons
   (repeat first | refine goH ?_ | apply LHas.here | apply LHas.next)
   refine And.intro (congrArg (Pl.mk _) ?_) LSub.nil
   simp only [putB, List.map_append, List.map_cons, List.map_nil, bAV_b8, List.append_assoc, List.cons_append, List.nil_append]
   rfl
theorem put4n_c (n : Int) : LSpec Tryd.prog G 31 [.nils, iAV 4, iAV n] [] (fun q => (.vw q 0 4 1, [(q, ⟨5, (putB n 4).map bAV⟩)])) := by
 refine goW [] Tryd.func31 rfl ?_
 conv => whnf
 repeat' ((first | refine T.s ?_ | ((first | apply goB | apply ABr.dec | apply ABr.gen) <;> intro h <;> try (exfalso; omega)) | refine LFresh.mk fun r => ?_ | (show SWpL _ _ _ _ _ _ _; first | refine SWpL.times 2 5 (by rfl) ?_ | refine AtL.step tyOk [] ?_) | exact T.z | refine ⟨_, rfl, rfl, ?_⟩ | fail) <;> conv => whnf)
 all_goals (try dsimp only)
 refine RetL.own r rfl ?_ ?_
 · (repeat first | refine goH ?_ | apply LHas.here | apply LHas.next); trivial
 · apply LSub.cons
   (repeat first | refine goH ?_ | apply LHas.here | apply LHas.next)
   refine And.intro (congrArg (Pl.mk _) ?_) LSub.nil
   simp only [putB, List.map_append, List.map_cons, List.map_nil, bAV_b8, List.append_assoc, List.cons_append, List.nil_append]
   rfl
theorem put2n_c (n : Int) : LSpec Tryd.prog G 31 [.nils, iAV 2, iAV n] [] (fun q => (.vw q 0 2 1, [(q, ⟨5, (putB n 2).map bAV⟩)])) := by
 refine goW [] Tryd.func31 rfl ?_
 conv => whnf
 repeat' ((first | refine T.s ?_ | ((first | apply goB | apply ABr.dec | apply ABr.gen) <;> intro h <;> try (exfalso; omega)) | refine LFresh.mk fun r => ?_ | (show SWpL _ _ _ _ _ _ _; first | refine SWpL.times 2 3 (by rfl) ?_ | refine AtL.step tyOk [] ?_) | exact T.z | refine ⟨_, rfl, rfl, ?_⟩ | fail) <;> conv => whnf)
 all_goals (try dsimp only)
 refine RetL.own r rfl ?_ ?_
 · (repeat first | refine goH ?_ | apply LHas.here | apply LHas.next); trivial
 · apply LSub.cons
   (repeat first | refine goH ?_ | apply LHas.here | apply LHas.next)
   refine And.intro (congrArg (Pl.mk _) ?_) LSub.nil
   simp only [putB, List.map_append, List.map_cons, List.map_nil, bAV_b8, List.append_assoc, List.cons_append, List.nil_append]
   rfl
open Go.RowKit
variable {G : Nat → AV}
@[simp] theorem putB_len (n : Int) (k : Nat) : (putB n k).length = k := by
 induction k with
 | zero => simp [putB]
 | succ k ih => simp [putB, ih]
def nonceL (k : Ky) (n : Int) : List UInt8 := putB k.n 4 ++ [b8 k.b, b8 k.d, 0, 0] ++ putB n 4
@[simp] theorem nonceL_len (k : Ky) (n : Int) : (nonceL k n).length = 12 := by simp [nonceL]
theorem nonce_mid (k : Ky) : List.map bAV (putB k.n 4) ++ [AV.int .u8 (IntKind.u8.wrap k.b), AV.int .u8 (IntKind.u8.wrap k.d), AV.int .u8 0, AV.int .u8 0] = (putB k.n 4 ++ [b8 k.b, b8 k.d, 0, 0]).map bAV := by
 rw [List.map_append]
 simp only [List.map_cons, List.map_nil, bAV_b8]
 rfl
theorem cnonce_c (k : Ky) (n : Int) (hk : k.ok = true) (hn : countOk n = true) : LSpec Tryd.prog G 40 [k.av, iAV n] [] (fun _ => (.tup [bv (nonceL k n), iAV 0], [])) := by
 refine goW [] Tryd.func40 rfl ?_
 conv => whnf
 repeat' ((first | exact Nm.b 0 | (show LCall _ _ _ _ _ _; first | refine LCall.pure (cvalid_c k) ?_ | refine LCall.pure (ccount_c n) ?_ | (apply LCall.take (cput_c [] k.n (by decide) _); (repeat first | refine goH ?_ | apply LHas.here | apply LHas.next); refine ⟨rfl, ?_⟩) | (apply LCall.take (cput_c (putB k.n 4 ++ [b8 k.b, b8 k.d, 0, 0]) n (by simp) _); (repeat first | refine goH ?_ | apply LHas.here | apply LHas.next); refine ⟨rfl, ?_⟩) | refine goE ?_) | (show AList _ _; first | (refine AList.eq (nonce_mid k) ?_)) | refine T.s ?_ | ((first | apply goB | apply ABr.dec | apply ABr.gen) <;> intro h <;> try (exfalso; omega)) | refine LFresh.mk fun r => ?_ | (show SWpL _ _ _ _ _ _ _; first | (apply goD tyOk mixed 5 [] [1, 2, 0, 3, 4] [_] (by kernel_rfl)) | (refine goD tyOk mixed 5 [] [1, 2, 0, 3, 4] [] (by kernel_rfl) ?_)) | exact T.z | refine ⟨_, rfl, rfl, ?_⟩ | fail) <;> try (show (_ : Prop); conv => whnf))
 all_goals (try dsimp only)
 refine RetL.frz [r] ?_ ?_
 · apply LF.tup
   refine And.intro (LF.rowF InL.here ?_) (And.intro (LF.eq rfl) trivial)
   apply LHas.here
   exact ⟨rfl, by simp⟩
 · apply LHas.here
   exact LSub.nil
theorem rnonce_c (k : Ky) (n : Int) (hk : k.ok = true) (hn : countOk n = true) : LSpec Tryd.prog G 53 [k.av, iAV n] [] (fun _ => (.tup [bv (nonceL k n), iAV 0], [])) := by
 refine goW [] Tryd.func53 rfl ?_
 conv => whnf
 repeat' ((first | (show LCall _ _ _ _ _ _; first | refine LCall.pure (rvalid_c k) ?_ | refine LCall.pure (rcount_c n) ?_ | refine LCall.own (put4n_c k.n) ?_ | (apply LCall.take (put4_c (putB k.n 4 ++ [b8 k.b, b8 k.d, 0, 0]) n (by simp) _); (repeat first | refine goH ?_ | apply LHas.here | apply LHas.next); refine ⟨rfl, ?_⟩) | refine goE ?_) | (show AList _ _; first | (refine AList.eq (nonce_mid k) ?_)) | refine T.s ?_ | ((first | apply goB | apply ABr.dec | apply ABr.gen) <;> intro h <;> try (exfalso; omega)) | refine LFresh.mk fun r => ?_ | exact T.z | refine ⟨_, rfl, rfl, ?_⟩ | fail) <;> conv => whnf)
 all_goals (try dsimp only)
 refine RetL.frz [r] ?_ ?_
 · apply LF.tup
   refine And.intro (LF.rowF InL.here ?_) (And.intro (LF.eq rfl) trivial)
   apply LHas.here
   exact ⟨rfl, by simp⟩
 · apply LHas.here
   exact LSub.nil
open Go.RowKit
variable {G : Nat → AV}
def rot64 (x n : Int) : Int := ibits .or .u64 (IntKind.u64.wrap (x * 2 ^ min n.toNat 64)) (x.fdiv (2 ^ min (iarith .sub .u64 64 n).toNat 64))
def dAV (x : Int) : AV := .int .u64 x
theorem rot64_c (x n : Int) (hn : ibits .and .u64 (IntKind.u64.wrap n) 63 = n) (h0 : 0 ≤ n) : LSpec Tryd.prog G 93 [dAV x, iAV n] [] (fun _ => (dAV (rot64 x n), [])) := by
 refine goW [] Tryd.func93 rfl ?_
 conv => whnf
 repeat' ((first | refine T.s ?_ | ((first | apply goB | apply ABr.dec | apply ABr.gen) <;> intro h <;> try (exfalso; omega)) | refine LFresh.mk fun r => ?_ | exact T.z | refine ⟨_, rfl, rfl, ?_⟩ | fail) <;> conv => whnf)
 all_goals (try dsimp only)
 (show RetL _ _ _; refine goR ?_)
 rw [hn]
 rfl
theorem turn64_c (x n : Int) (h0 : 0 ≤ n) : LSpec Tryd.prog G 94 [dAV x, .int .u64 n] [] (fun _ => (dAV (rot64 x n), [])) := by
 refine goW [] Tryd.func94 rfl ?_
 conv => whnf
 repeat' ((first | refine T.s ?_ | ((first | apply goB | apply ABr.dec | apply ABr.gen) <;> intro h <;> try (exfalso; omega)) | refine LFresh.mk fun r => ?_ | exact T.z | fail) <;> conv => whnf)
 all_goals (try dsimp only)
 (show RetL _ _ _; refine goR ?_)
 rfl
structure W4 where
 a : Int
 b : Int
 c : Int
 d : Int
def W4.cs (s : W4) : List AV := [dAV s.a, dAV s.b, dAV s.c, dAV s.d]
def rnd1 (s : W4) : W4 :=
 let a := iarith .add .u64 s.a s.b
 let b := ibits .xor .u64 (rot64 s.b 13) a
 let a := rot64 a 32
 let c := iarith .add .u64 s.c s.d
 let d := ibits .xor .u64 (rot64 s.d 16) c
 let a := iarith .add .u64 a d
 let d := ibits .xor .u64 (rot64 d 21) a
 let c := iarith .add .u64 c b
 let b := ibits .xor .u64 (rot64 b 17) c
 let c := rot64 c 32
 ⟨a, b, c, d⟩
attribute [irreducible] rot64
def rndN (s : W4) : Nat → W4
 | 0 => s
 | n + 1 => rnd1 (rndN s n)
theorem rndN_zero (s : W4) : rndN s 0 = s := rfl
theorem rndN_succ (s : W4) (n : Nat) : rndN s (n + 1) = rnd1 (rndN s n) := rfl
attribute [irreducible] rndN
theorem rounds_c (s : W4) (n : Nat) (hn : n ≤ 100) (p : Nm) : LSpec Tryd.prog G 87 [.ptr p 0, iAV n] [(p, ⟨117, s.cs⟩)] (fun _ => (.tup [], [(p, ⟨117, (rndN s n).cs⟩)])) := by
 refine goW [] Tryd.func87 rfl ?_
 conv => whnf
 repeat' ((first | exact Nm.b 0 | (show LCall _ _ _ _ _ _; first | refine LCall.pure (rot64_c _ _ (by decide) (by decide)) ?_ | refine goE ?_) | refine T.s ?_ | ((first | apply goB | apply ABr.dec | apply ABr.gen) <;> intro h <;> try (exfalso; omega)) | refine LFresh.mk fun r => ?_ | (show SWpL _ _ _ (.loop _) _ _ _; first | (apply goO tyOk [] 1 (S := Nat) [0, 4] (fun i => ⟨[(5, .int .i64 i)], [(p, ⟨117, (rndN s i).cs⟩)], i ≤ n, n - i⟩) (0) (by rfl); (focus ((repeat' first | exact trivial | (refine And.intro ?_ ?_) | exact LSub.nil | (with_reducible exact LSub.refl) | (apply LSub.cons; (repeat first | refine goH ?_ | apply LHas.here | apply LHas.next); refine And.intro ?_ ?_; (focus (try (first | (with_reducible rfl) | (refine congrArg (Pl.mk _) ?_; (first | (with_reducible rfl) | (rw [rndN_zero]; simp only [W4.cs, dAV]; done) | (rw [rndN_succ]; simp only [rnd1, W4.cs, dAV]; done) | (rw [rndN_zero]) | (simp only [W4.cs, dAV]; done) | rfl)) | rfl | (with_reducible refine congrArg (Pl.mk _) ?_))))) | assumption | (first | (focus (apply Eq.trans; (conv => lhs; whnf); (conv => rhs; whnf); done)) | rfl | ((conv => lhs; whnf); first | rfl | (refine congrArg (AV.int _) ?_; (exact T.num)) | (refine congrArg AV.bool ?_; (exact T.num)) | (refine vw_congr ?_; first | (exact T.num) | (first | (with_reducible rfl) | (rw [rndN_zero]; simp only [W4.cs, dAV]; done) | (rw [rndN_succ]; simp only [rnd1, W4.cs, dAV]; done) | (rw [rndN_zero]) | (simp only [W4.cs, dAV]; done) | rfl)) | (refine sl_congr ?_ ?_ <;> first | (exact T.num) | (first | (with_reducible rfl) | (rw [rndN_zero]; simp only [W4.cs, dAV]; done) | (rw [rndN_succ]; simp only [rnd1, W4.cs, dAV]; done) | (rw [rndN_zero]) | (simp only [W4.cs, dAV]; done) | rfl)) | (first | (with_reducible rfl) | (rw [rndN_zero]; simp only [W4.cs, dAV]; done) | (rw [rndN_succ]; simp only [rnd1, W4.cs, dAV]; done) | (rw [rndN_zero]) | (simp only [W4.cs, dAV]; done) | rfl))) | (exact T.num) | (dsimp only; (exact T.num)) | (first | (with_reducible rfl) | (rw [rndN_zero]; simp only [W4.cs, dAV]; done) | (rw [rndN_succ]; simp only [rnd1, W4.cs, dAV]; done) | (rw [rndN_zero]) | (simp only [W4.cs, dAV]; done) | rfl)); done)); rintro i hok; (try dsimp only at hok))) | (show SWpL _ _ _ _ _ _ _; first | (apply goD tyOk mixed 2 [] [0, 1, 2, 3, 4, 5, 6, 7, 8, 9, 10, 11] [_] (by kernel_rfl)) | (refine goD tyOk mixed 2 [] [0, 1, 2, 3, 4, 5, 6, 7, 8, 9, 10, 11] [] (by kernel_rfl) ?_) | (apply goD tyOk mixed 3 [9, 5] [0, 1, 2, 3, 4, 6, 7, 8, 9, 5, 10, 11, 12, 13] [_] (by kernel_rfl)) | (refine goD tyOk mixed 3 [9, 5] [0, 1, 2, 3, 4, 6, 7, 8, 9, 5, 10, 11, 12, 13] [] (by kernel_rfl) ?_) | (apply goD tyOk mixed 5 [] [0, 1, 2, 3, 4, 5, 6, 7, 8, 9, 10, 11] [_] (by kernel_rfl)) | (refine goD tyOk mixed 5 [] [0, 1, 2, 3, 4, 5, 6, 7, 8, 9, 10, 11] [] (by kernel_rfl) ?_) | (apply goD tyOk mixed 6 [9, 5] [0, 1, 2, 3, 4, 6, 7, 8, 9, 5, 10, 11, 12, 13] [_] (by kernel_rfl)) | (refine goD tyOk mixed 6 [9, 5] [0, 1, 2, 3, 4, 6, 7, 8, 9, 5, 10, 11, 12, 13] [] (by kernel_rfl) ?_) | (apply goD tyOk mixed 7 [] [0, 1, 2, 3, 4, 5, 6, 7, 8, 9, 10, 11] [_] (by kernel_rfl)) | (refine goD tyOk mixed 7 [] [0, 1, 2, 3, 4, 5, 6, 7, 8, 9, 10, 11] [] (by kernel_rfl) ?_) | (apply goD tyOk mixed 8 [9, 5] [0, 1, 2, 3, 4, 6, 7, 8, 9, 5, 10, 11, 12, 13] [_] (by kernel_rfl)) | (refine goD tyOk mixed 8 [9, 5] [0, 1, 2, 3, 4, 6, 7, 8, 9, 5, 10, 11, 12, 13] [] (by kernel_rfl) ?_) | (apply goD tyOk mixed 9 [] [0, 1, 2, 3, 4, 5, 6, 7, 8, 9, 10, 11] [_] (by kernel_rfl)) | (refine goD tyOk mixed 9 [] [0, 1, 2, 3, 4, 5, 6, 7, 8, 9, 10, 11] [] (by kernel_rfl) ?_) | (apply goD tyOk mixed 10 [9, 5] [0, 1, 2, 3, 4, 6, 7, 8, 9, 5, 10, 11, 12, 13] [_] (by kernel_rfl)) | (refine goD tyOk mixed 10 [9, 5] [0, 1, 2, 3, 4, 6, 7, 8, 9, 5, 10, 11, 12, 13] [] (by kernel_rfl) ?_)) | (show AtL _ _ _ _ _ _ _ _ _ _; first | (apply AtL.mk' (id := 1) (S := Nat) (i + 1); (repeat' first | exact trivial | (refine And.intro ?_ ?_) | exact LSub.nil | (with_reducible exact LSub.refl) | (apply LSub.cons; (repeat first | refine goH ?_ | apply LHas.here | apply LHas.next); refine And.intro ?_ ?_; (focus (try (first | (with_reducible rfl) | (refine congrArg (Pl.mk _) ?_; (first | (with_reducible rfl) | (rw [rndN_zero]; simp only [W4.cs, dAV]; done) | (rw [rndN_succ]; simp only [rnd1, W4.cs, dAV]; done) | (rw [rndN_zero]) | (simp only [W4.cs, dAV]; done) | rfl)) | rfl | (with_reducible refine congrArg (Pl.mk _) ?_))))) | assumption | (first | (focus (apply Eq.trans; (conv => lhs; whnf); (conv => rhs; whnf); done)) | rfl | ((conv => lhs; whnf); first | rfl | (refine congrArg (AV.int _) ?_; (exact T.num)) | (refine congrArg AV.bool ?_; (exact T.num)) | (refine vw_congr ?_; first | (exact T.num) | (first | (with_reducible rfl) | (rw [rndN_zero]; simp only [W4.cs, dAV]; done) | (rw [rndN_succ]; simp only [rnd1, W4.cs, dAV]; done) | (rw [rndN_zero]) | (simp only [W4.cs, dAV]; done) | rfl)) | (refine sl_congr ?_ ?_ <;> first | (exact T.num) | (first | (with_reducible rfl) | (rw [rndN_zero]; simp only [W4.cs, dAV]; done) | (rw [rndN_succ]; simp only [rnd1, W4.cs, dAV]; done) | (rw [rndN_zero]) | (simp only [W4.cs, dAV]; done) | rfl)) | (first | (with_reducible rfl) | (rw [rndN_zero]; simp only [W4.cs, dAV]; done) | (rw [rndN_succ]; simp only [rnd1, W4.cs, dAV]; done) | (rw [rndN_zero]) | (simp only [W4.cs, dAV]; done) | rfl))) | (exact T.num) | (dsimp only; (exact T.num)) | (first | (with_reducible rfl) | (rw [rndN_zero]; simp only [W4.cs, dAV]; done) | (rw [rndN_succ]; simp only [rnd1, W4.cs, dAV]; done) | (rw [rndN_zero]) | (simp only [W4.cs, dAV]; done) | rfl)); done) | (apply AtL.mk' (id := 1) (S := Nat) (i + 1); (repeat' first | exact trivial | (refine And.intro ?_ ?_) | exact LSub.nil | (with_reducible exact LSub.refl) | (apply LSub.cons; (repeat first | refine goH ?_ | apply LHas.here | apply LHas.next); refine And.intro ?_ ?_; (focus (try (first | (with_reducible rfl) | (refine congrArg (Pl.mk _) ?_; (first | (with_reducible rfl) | (rw [rndN_zero]; simp only [W4.cs, dAV]; done) | (rw [rndN_succ]; simp only [rnd1, W4.cs, dAV]; done) | (rw [rndN_zero]) | (simp only [W4.cs, dAV]; done) | rfl)) | rfl | (with_reducible refine congrArg (Pl.mk _) ?_))))) | assumption | (first | (focus (apply Eq.trans; (conv => lhs; whnf); (conv => rhs; whnf); done)) | rfl | ((conv => lhs; whnf); first | rfl | (refine congrArg (AV.int _) ?_; (exact T.num)) | (refine congrArg AV.bool ?_; (exact T.num)) | (refine vw_congr ?_; first | (exact T.num) | (first | (with_reducible rfl) | (rw [rndN_zero]; simp only [W4.cs, dAV]; done) | (rw [rndN_succ]; simp only [rnd1, W4.cs, dAV]; done) | (rw [rndN_zero]) | (simp only [W4.cs, dAV]; done) | rfl)) | (refine sl_congr ?_ ?_ <;> first | (exact T.num) | (first | (with_reducible rfl) | (rw [rndN_zero]; simp only [W4.cs, dAV]; done) | (rw [rndN_succ]; simp only [rnd1, W4.cs, dAV]; done) | (rw [rndN_zero]) | (simp only [W4.cs, dAV]; done) | rfl)) | (first | (with_reducible rfl) | (rw [rndN_zero]; simp only [W4.cs, dAV]; done) | (rw [rndN_succ]; simp only [rnd1, W4.cs, dAV]; done) | (rw [rndN_zero]) | (simp only [W4.cs, dAV]; done) | rfl))) | (exact T.num) | (dsimp only; (exact T.num)) | (first | (with_reducible rfl) | (rw [rndN_zero]; simp only [W4.cs, dAV]; done) | (rw [rndN_succ]; simp only [rnd1, W4.cs, dAV]; done) | (rw [rndN_zero]) | (simp only [W4.cs, dAV]; done) | rfl)))) | exact T.z | fail) <;> try (show (_ : Prop); conv => whnf))
 all_goals (try dsimp only)
 have hi : i = n := by omega
 subst hi
 (show RetL _ _ _; refine goR ?_)
 rfl
theorem rrounds_c (s : W4) (n : Nat) (hn : n ≤ 100) (p : Nm) : LSpec Tryd.prog G 91 [.ptr p 0, iAV n] [(p, ⟨123, s.cs⟩)] (fun _ => (.tup [], [(p, ⟨123, (rndN s n).cs⟩)])) := by
 refine goW [] Tryd.func91 rfl ?_
 conv => whnf
 repeat' ((first | exact Nm.b 0 | (show LCall _ _ _ _ _ _; first | refine LCall.pure (turn64_c _ _ (by decide)) ?_ | refine goE ?_) | refine T.s ?_ | ((first | apply goB | apply ABr.dec | apply ABr.gen) <;> intro h <;> try (exfalso; omega)) | refine LFresh.mk fun r => ?_ | (show SWpL _ _ _ (.loop _) _ _ _; first | (apply goO tyOk [] 0 (S := Nat) [0] (fun i => ⟨[(1, .int .i64 (n - i : Nat))], [(p, ⟨123, (rndN s i).cs⟩)], i ≤ n, n - i⟩) (0) (by rfl); (focus ((repeat' first | exact trivial | (refine And.intro ?_ ?_) | exact LSub.nil | (with_reducible exact LSub.refl) | (apply LSub.cons; (repeat first | refine goH ?_ | apply LHas.here | apply LHas.next); refine And.intro ?_ ?_; (focus (try (first | (with_reducible rfl) | (refine congrArg (Pl.mk _) ?_; (first | (with_reducible rfl) | (rw [rndN_zero]; simp only [W4.cs, dAV]; done) | (rw [rndN_succ]; simp only [rnd1, W4.cs, dAV]; done) | (rw [rndN_zero]) | (simp only [W4.cs, dAV]; done) | rfl)) | rfl | (with_reducible refine congrArg (Pl.mk _) ?_))))) | assumption | (first | (focus (apply Eq.trans; (conv => lhs; whnf); (conv => rhs; whnf); done)) | rfl | ((conv => lhs; whnf); first | rfl | (refine congrArg (AV.int _) ?_; (exact T.num)) | (refine congrArg AV.bool ?_; (exact T.num)) | (refine vw_congr ?_; first | (exact T.num) | (first | (with_reducible rfl) | (rw [rndN_zero]; simp only [W4.cs, dAV]; done) | (rw [rndN_succ]; simp only [rnd1, W4.cs, dAV]; done) | (rw [rndN_zero]) | (simp only [W4.cs, dAV]; done) | rfl)) | (refine sl_congr ?_ ?_ <;> first | (exact T.num) | (first | (with_reducible rfl) | (rw [rndN_zero]; simp only [W4.cs, dAV]; done) | (rw [rndN_succ]; simp only [rnd1, W4.cs, dAV]; done) | (rw [rndN_zero]) | (simp only [W4.cs, dAV]; done) | rfl)) | (first | (with_reducible rfl) | (rw [rndN_zero]; simp only [W4.cs, dAV]; done) | (rw [rndN_succ]; simp only [rnd1, W4.cs, dAV]; done) | (rw [rndN_zero]) | (simp only [W4.cs, dAV]; done) | rfl))) | (exact T.num) | (dsimp only; (exact T.num)) | (first | (with_reducible rfl) | (rw [rndN_zero]; simp only [W4.cs, dAV]; done) | (rw [rndN_succ]; simp only [rnd1, W4.cs, dAV]; done) | (rw [rndN_zero]) | (simp only [W4.cs, dAV]; done) | rfl)); done)); rintro i hok; (try dsimp only at hok))) | (show SWpL _ _ _ _ _ _ _; first | (apply goD tyOk mixed 2 [] [0, 1, 2, 3, 4, 5, 6, 7, 8, 9, 10, 11] [_] (by kernel_rfl)) | (refine goD tyOk mixed 2 [] [0, 1, 2, 3, 4, 5, 6, 7, 8, 9, 10, 11] [] (by kernel_rfl) ?_) | (apply goD tyOk mixed 3 [9, 5] [0, 1, 2, 3, 4, 6, 7, 8, 9, 5, 10, 11, 12, 13] [_] (by kernel_rfl)) | (refine goD tyOk mixed 3 [9, 5] [0, 1, 2, 3, 4, 6, 7, 8, 9, 5, 10, 11, 12, 13] [] (by kernel_rfl) ?_) | (apply goD tyOk mixed 5 [] [0, 1, 2, 3, 4, 5, 6, 7, 8, 9, 10, 11] [_] (by kernel_rfl)) | (refine goD tyOk mixed 5 [] [0, 1, 2, 3, 4, 5, 6, 7, 8, 9, 10, 11] [] (by kernel_rfl) ?_) | (apply goD tyOk mixed 6 [9, 5] [0, 1, 2, 3, 4, 6, 7, 8, 9, 5, 10, 11, 12, 13] [_] (by kernel_rfl)) | (refine goD tyOk mixed 6 [9, 5] [0, 1, 2, 3, 4, 6, 7, 8, 9, 5, 10, 11, 12, 13] [] (by kernel_rfl) ?_) | (apply goD tyOk mixed 7 [] [0, 1, 2, 3, 4, 5, 6, 7, 8, 9, 10, 11] [_] (by kernel_rfl)) | (refine goD tyOk mixed 7 [] [0, 1, 2, 3, 4, 5, 6, 7, 8, 9, 10, 11] [] (by kernel_rfl) ?_) | (apply goD tyOk mixed 8 [9, 5] [0, 1, 2, 3, 4, 6, 7, 8, 9, 5, 10, 11, 12, 13] [_] (by kernel_rfl)) | (refine goD tyOk mixed 8 [9, 5] [0, 1, 2, 3, 4, 6, 7, 8, 9, 5, 10, 11, 12, 13] [] (by kernel_rfl) ?_) | (apply goD tyOk mixed 9 [] [0, 1, 2, 3, 4, 5, 6, 7, 8, 9, 10, 11] [_] (by kernel_rfl)) | (refine goD tyOk mixed 9 [] [0, 1, 2, 3, 4, 5, 6, 7, 8, 9, 10, 11] [] (by kernel_rfl) ?_) | (apply goD tyOk mixed 10 [9, 5] [0, 1, 2, 3, 4, 6, 7, 8, 9, 5, 10, 11, 12, 13] [_] (by kernel_rfl)) | (refine goD tyOk mixed 10 [9, 5] [0, 1, 2, 3, 4, 6, 7, 8, 9, 5, 10, 11, 12, 13] [] (by kernel_rfl) ?_)) | (show AtL _ _ _ _ _ _ _ _ _ _; first | (apply AtL.mk' (id := 0) (S := Nat) (i + 1); (repeat' first | exact trivial | (refine And.intro ?_ ?_) | exact LSub.nil | (with_reducible exact LSub.refl) | (apply LSub.cons; (repeat first | refine goH ?_ | apply LHas.here | apply LHas.next); refine And.intro ?_ ?_; (focus (try (first | (with_reducible rfl) | (refine congrArg (Pl.mk _) ?_; (first | (with_reducible rfl) | (rw [rndN_zero]; simp only [W4.cs, dAV]; done) | (rw [rndN_succ]; simp only [rnd1, W4.cs, dAV]; done) | (rw [rndN_zero]) | (simp only [W4.cs, dAV]; done) | rfl)) | rfl | (with_reducible refine congrArg (Pl.mk _) ?_))))) | assumption | (first | (focus (apply Eq.trans; (conv => lhs; whnf); (conv => rhs; whnf); done)) | rfl | ((conv => lhs; whnf); first | rfl | (refine congrArg (AV.int _) ?_; (exact T.num)) | (refine congrArg AV.bool ?_; (exact T.num)) | (refine vw_congr ?_; first | (exact T.num) | (first | (with_reducible rfl) | (rw [rndN_zero]; simp only [W4.cs, dAV]; done) | (rw [rndN_succ]; simp only [rnd1, W4.cs, dAV]; done) | (rw [rndN_zero]) | (simp only [W4.cs, dAV]; done) | rfl)) | (refine sl_congr ?_ ?_ <;> first | (exact T.num) | (first | (with_reducible rfl) | (rw [rndN_zero]; simp only [W4.cs, dAV]; done) | (rw [rndN_succ]; simp only [rnd1, W4.cs, dAV]; done) | (rw [rndN_zero]) | (simp only [W4.cs, dAV]; done) | rfl)) | (first | (with_reducible rfl) | (rw [rndN_zero]; simp only [W4.cs, dAV]; done) | (rw [rndN_succ]; simp only [rnd1, W4.cs, dAV]; done) | (rw [rndN_zero]) | (simp only [W4.cs, dAV]; done) | rfl))) | (exact T.num) | (dsimp only; (exact T.num)) | (first | (with_reducible rfl) | (rw [rndN_zero]; simp only [W4.cs, dAV]; done) | (rw [rndN_succ]; simp only [rnd1, W4.cs, dAV]; done) | (rw [rndN_zero]) | (simp only [W4.cs, dAV]; done) | rfl)); done) | (apply AtL.mk' (id := 0) (S := Nat) (i + 1); (repeat' first | exact trivial | (refine And.intro ?_ ?_) | exact LSub.nil | (with_reducible exact LSub.refl) | (apply LSub.cons; (repeat first | refine goH ?_ | apply LHas.here | apply LHas.next); refine And.intro ?_ ?_; (focus (try (first | (with_reducible rfl) | (refine congrArg (Pl.mk _) ?_; (first | (with_reducible rfl) | (rw [rndN_zero]; simp only [W4.cs, dAV]; done) | (rw [rndN_succ]; simp only [rnd1, W4.cs, dAV]; done) | (rw [rndN_zero]) | (simp only [W4.cs, dAV]; done) | rfl)) | rfl | (with_reducible refine congrArg (Pl.mk _) ?_))))) | assumption | (first | (focus (apply Eq.trans; (conv => lhs; whnf); (conv => rhs; whnf); done)) | rfl | ((conv => lhs; whnf); first | rfl | (refine congrArg (AV.int _) ?_; (exact T.num)) | (refine congrArg AV.bool ?_; (exact T.num)) | (refine vw_congr ?_; first | (exact T.num) | (first | (with_reducible rfl) | (rw [rndN_zero]; simp only [W4.cs, dAV]; done) | (rw [rndN_succ]; simp only [rnd1, W4.cs, dAV]; done) | (rw [rndN_zero]) | (simp only [W4.cs, dAV]; done) | rfl)) | (refine sl_congr ?_ ?_ <;> first | (exact T.num) | (first | (with_reducible rfl) | (rw [rndN_zero]; simp only [W4.cs, dAV]; done) | (rw [rndN_succ]; simp only [rnd1, W4.cs, dAV]; done) | (rw [rndN_zero]) | (simp only [W4.cs, dAV]; done) | rfl)) | (first | (with_reducible rfl) | (rw [rndN_zero]; simp only [W4.cs, dAV]; done) | (rw [rndN_succ]; simp only [rnd1, W4.cs, dAV]; done) | (rw [rndN_zero]) | (simp only [W4.cs, dAV]; done) | rfl))) | (exact T.num) | (dsimp only; (exact T.num)) | (first | (with_reducible rfl) | (rw [rndN_zero]; simp only [W4.cs, dAV]; done) | (rw [rndN_succ]; simp only [rnd1, W4.cs, dAV]; done) | (rw [rndN_zero]) | (simp only [W4.cs, dAV]; done) | rfl)))) | exact T.z | fail) <;> try (show (_ : Prop); conv => whnf))
 all_goals (try dsimp only)
 have hi : i = n := by omega
 subst hi
 (show RetL _ _ _; refine goR ?_)
 rfl
def tk (s : W4) (m : Int) : W4 :=
 let t := rndN ⟨s.a, s.b, s.c, ibits .xor .u64 s.d m⟩ 2
 ⟨ibits .xor .u64 t.a m, t.b, t.c, t.d⟩
theorem sword_c (s : W4) (m : Int) (p : Nm) : LSpec Tryd.prog G 86 [.ptr p 0, dAV m] [(p, ⟨117, s.cs⟩)] (fun _ => (.tup [], [(p, ⟨117, (tk s m).cs⟩)])) := by
 have key : ∀ t : W4, rndN ⟨s.a, s.b, s.c, ibits .xor .u64 s.d m⟩ 2 = t → LSpec Tryd.prog G 86 [.ptr p 0, dAV m] [(p, ⟨117, s.cs⟩)] (fun _ => (.tup [], [(p, ⟨117, [dAV (ibits .xor .u64 t.a m), dAV t.b, dAV t.c, dAV t.d]⟩)])) := by
   intro t ht
   have hc := rounds_c (G := G) ⟨s.a, s.b, s.c, ibits .xor .u64 s.d m⟩ 2 (by decide) p
   rw [ht] at hc
   clear ht
   refine goW [] Tryd.func86 rfl ?_
   conv => whnf
   repeat' ((first | (show LCall _ _ _ _ _ _; first | (apply LCall.upd (hc); (repeat first | refine goH ?_ | apply LHas.here | apply LHas.next); refine ⟨rfl, ?_⟩) | refine goE ?_) | refine T.s ?_ | ((first | apply goB | apply ABr.dec | apply ABr.gen) <;> intro h <;> try (exfalso; omega)) | refine LFresh.mk fun r => ?_ | exact T.z | fail) <;> conv => whnf)
   all_goals (try dsimp only)
   (show RetL _ _ _; refine goR ?_)
   rfl
 have h := key _ rfl
 unfold tk W4.cs
 exact h
theorem stake_c (s : W4) (m : Int) (p : Nm) : LSpec Tryd.prog G 90 [.ptr p 0, dAV m] [(p, ⟨123, s.cs⟩)] (fun _ => (.tup [], [(p, ⟨123, (tk s m).cs⟩)])) := by
 have key : ∀ t : W4, rndN ⟨s.a, s.b, s.c, ibits .xor .u64 s.d m⟩ 2 = t → LSpec Tryd.prog G 90 [.ptr p 0, dAV m] [(p, ⟨123, s.cs⟩)] (fun _ => (.tup [], [(p, ⟨123, [dAV (ibits .xor .u64 t.a m), dAV t.b, dAV t.c, dAV t.d]⟩)])) := by
   intro t ht
   have hc := rrounds_c (G := G) ⟨s.a, s.b, s.c, ibits .xor .u64 s.d m⟩ 2 (by decide) p
   rw [ht] at hc
   clear ht
   refine goW [] Tryd.func90 rfl ?_
   conv => whnf
   repeat' ((first | (show LCall _ _ _ _ _ _; first | (apply LCall.upd (hc); (repeat first | refine goH ?_ | apply LHas.here | apply LHas.next); refine ⟨rfl, ?_⟩) | refine goE ?_) | refine T.s ?_ | ((first | apply goB | apply ABr.dec | apply ABr.gen) <;> intro h <;> try (exfalso; omega)) | refine LFresh.mk fun r => ?_ | exact T.z | fail) <;> conv => whnf)
   all_goals (try dsimp only)
   (show RetL _ _ _; refine goR ?_)
   rfl
 have h := key _ rfl
 unfold tk W4.cs
 exact h
attribute [irreducible] tk rnd1
open Go.RowKit
variable {G : Nat → AV}
def ldN (l : List UInt8) : Nat → Int
 | 0 => 0
 | i + 1 => ibits .or .u64 (ldN l i) (IntKind.u64.wrap (IntKind.u64.wrap ((l.getD i 0).toNat : Int) * 2 ^ min (8 * i) 64))
theorem ldN_zero (l : List UInt8) : ldN l 0 = 0 := rfl
theorem ldN_succ (l : List UInt8) (i : Nat) : ldN l (i + 1) = ibits .or .u64 (ldN l i) (IntKind.u64.wrap (IntKind.u64.wrap ((l.getD i 0).toNat : Int) * 2 ^ min (8 * i) 64)) := rfl
theorem ldN_congr (l m : List UInt8) (n : Nat) (h : ∀ i, i < n → l.getD i 0 = m.getD i 0) : ldN l n = ldN m n := by
 induction n with
 | zero => rfl
 | succ n ih => rw [ldN_succ, ldN_succ, ih (fun i hi => h i (by omega)), h n (by omega)]
theorem ldN_take (l : List UInt8) (n : Nat) : ldN (l.take n) n = ldN l n := ldN_congr _ _ _ fun i hi => by simp [List.getD_eq_getElem?_getD, List.getElem?_take, hi]
theorem sh8 (i : Nat) (h : i ≤ 8) : (iarith .mul .i64 8 (i : Int)).toNat = 8 * i := by simp only [iarith, IntKind.wrap_i64]; omega
theorem sh8u (i : Nat) (h : i ≤ 8) : (IntKind.u64.wrap (iarith .mul .i64 8 (i : Int))).toNat = 8 * i := by simp only [iarith, IntKind.wrap_i64, IntKind.wrap_u64]; omega
attribute [irreducible] ldN
theorem tload_c (l : List UInt8) (hl : 8 ≤ l.length) : LSpec Tryd.prog G 92 [bv l] [] (fun _ => (dAV (ldN l 8), [])) := by
 have h8 : (l.take 8).length = 8 := by simp; omega
 refine goW [] Tryd.func92 rfl ?_
 conv => whnf
 repeat' ((first | (show ACell _ _ _; first | (refine ACell.cell 0 ?_ ?_; (focus (rw [h8]; (exact T.num))))) | (show AList _ _; first | (refine AList.headE 8 ?_ ?_ ?_; (focus rfl); (focus rfl))) | refine T.s ?_ | ((first | apply goB | apply ABr.dec | apply ABr.gen) <;> intro h <;> try (exfalso; omega)) | refine LFresh.mk fun r => ?_ | (show SWpL _ _ _ (.loop _) _ _ _; first | (apply goO tyOk [] 3 (S := Nat) [7, 8] (fun i => ⟨[(3, dAV (ldN (l.take 8) i)), (9, .int .i64 i)], [], i ≤ 8, 8 - i⟩) (0) (by rfl); (focus ((repeat' first | exact trivial | (refine And.intro ?_ ?_) | exact LSub.nil | (with_reducible exact LSub.refl) | (apply LSub.cons; (repeat first | refine goH ?_ | apply LHas.here | apply LHas.next); refine And.intro ?_ ?_; (focus (try (first | (with_reducible rfl) | (refine congrArg (Pl.mk _) ?_; (first | (with_reducible rfl) | (rw [ldN_zero]; rfl) | (rw [ldN_succ, ← sh8 i (by omega)]; simp only [Nat.mul_one, Nat.zero_add, Int.toNat_natCast] <;> rfl) | rfl)) | rfl | (with_reducible refine congrArg (Pl.mk _) ?_))))) | assumption | (first | (focus (apply Eq.trans; (conv => lhs; whnf); (conv => rhs; whnf); done)) | rfl | ((conv => lhs; whnf); first | rfl | (refine congrArg (AV.int _) ?_; (exact T.num)) | (refine congrArg AV.bool ?_; (exact T.num)) | (refine vw_congr ?_; first | (exact T.num) | (first | (with_reducible rfl) | (rw [ldN_zero]; rfl) | (rw [ldN_succ, ← sh8 i (by omega)]; simp only [Nat.mul_one, Nat.zero_add, Int.toNat_natCast] <;> rfl) | rfl)) | (refine sl_congr ?_ ?_ <;> first | (exact T.num) | (first | (with_reducible rfl) | (rw [ldN_zero]; rfl) | (rw [ldN_succ, ← sh8 i (by omega)]; simp only [Nat.mul_one, Nat.zero_add, Int.toNat_natCast] <;> rfl) | rfl)) | (first | (with_reducible rfl) | (rw [ldN_zero]; rfl) | (rw [ldN_succ, ← sh8 i (by omega)]; simp only [Nat.mul_one, Nat.zero_add, Int.toNat_natCast] <;> rfl) | rfl))) | (exact T.num) | (dsimp only; (exact T.num)) | (first | (with_reducible rfl) | (rw [ldN_zero]; rfl) | (rw [ldN_succ, ← sh8 i (by omega)]; simp only [Nat.mul_one, Nat.zero_add, Int.toNat_natCast] <;> rfl) | rfl)); done)); rintro i hok; (try dsimp only at hok))) | (show AtL _ _ _ _ _ _ _ _ _ _; first | (apply AtL.mk' (id := 3) (S := Nat) (i + 1); (repeat' first | exact trivial | (refine And.intro ?_ ?_) | exact LSub.nil | (with_reducible exact LSub.refl) | (apply LSub.cons; (repeat first | refine goH ?_ | apply LHas.here | apply LHas.next); refine And.intro ?_ ?_; (focus (try (first | (with_reducible rfl) | (refine congrArg (Pl.mk _) ?_; (first | (with_reducible rfl) | (rw [ldN_zero]; rfl) | (rw [ldN_succ, ← sh8 i (by omega)]; simp only [Nat.mul_one, Nat.zero_add, Int.toNat_natCast] <;> rfl) | rfl)) | rfl | (with_reducible refine congrArg (Pl.mk _) ?_))))) | assumption | (first | (focus (apply Eq.trans; (conv => lhs; whnf); (conv => rhs; whnf); done)) | rfl | ((conv => lhs; whnf); first | rfl | (refine congrArg (AV.int _) ?_; (exact T.num)) | (refine congrArg AV.bool ?_; (exact T.num)) | (refine vw_congr ?_; first | (exact T.num) | (first | (with_reducible rfl) | (rw [ldN_zero]; rfl) | (rw [ldN_succ, ← sh8 i (by omega)]; simp only [Nat.mul_one, Nat.zero_add, Int.toNat_natCast] <;> rfl) | rfl)) | (refine sl_congr ?_ ?_ <;> first | (exact T.num) | (first | (with_reducible rfl) | (rw [ldN_zero]; rfl) | (rw [ldN_succ, ← sh8 i (by omega)]; simp only [Nat.mul_one, Nat.zero_add, Int.toNat_natCast] <;> rfl) | rfl)) | (first | (with_reducible rfl) | (rw [ldN_zero]; rfl) | (rw [ldN_succ, ← sh8 i (by omega)]; simp only [Nat.mul_one, Nat.zero_add, Int.toNat_natCast] <;> rfl) | rfl))) | (exact T.num) | (dsimp only; (exact T.num)) | (first | (with_reducible rfl) | (rw [ldN_zero]; rfl) | (rw [ldN_succ, ← sh8 i (by omega)]; simp only [Nat.mul_one, Nat.zero_add, Int.toNat_natCast] <;> rfl) | rfl)); done) | (apply AtL.mk' (id := 3) (S := Nat) (i + 1); (repeat' first | exact trivial | (refine And.intro ?_ ?_) | exact LSub.nil | (with_reducible exact LSub.refl) | (apply LSub.cons; (repeat first | refine goH ?_ | apply LHas.here | apply LHas.next); refine And.intro ?_ ?_; (focus (try (first | (with_reducible rfl) | (refine congrArg (Pl.mk _) ?_; (first | (with_reducible rfl) | (rw [ldN_zero]; rfl) | (rw [ldN_succ, ← sh8 i (by omega)]; simp only [Nat.mul_one, Nat.zero_add, Int.toNat_natCast] <;> rfl) | rfl)) | rfl | (with_reducible refine congrArg (Pl.mk _) ?_))))) | assumption | (first | (focus (apply Eq.trans; (conv => lhs; whnf); (conv => rhs; whnf); done)) | rfl | ((conv => lhs; whnf); first | rfl | (refine congrArg (AV.int _) ?_; (exact T.num)) | (refine congrArg AV.bool ?_; (exact T.num)) | (refine vw_congr ?_; first | (exact T.num) | (first | (with_reducible rfl) | (rw [ldN_zero]; rfl) | (rw [ldN_succ, ← sh8 i (by omega)]; simp only [Nat.mul_one, Nat.zero_add, Int.toNat_natCast] <;> rfl) | rfl)) | (refine sl_congr ?_ ?_ <;> first | (exact T.num) | (first | (with_reducible rfl) | (rw [ldN_zero]; rfl) | (rw [ldN_succ, ← sh8 i (by omega)]; simp only [Nat.mul_one, Nat.zero_add, Int.toNat_natCast] <;> rfl) | rfl)) | (first | (with_reducible rfl) | (rw [ldN_zero]; rfl) | (rw [ldN_succ, ← sh8 i (by omega)]; simp only [Nat.mul_one, Nat.zero_add, Int.toNat_natCast] <;> rfl) | rfl))) | (exact T.num) | (dsimp only; (exact T.num)) | (first | (with_reducible rfl) | (rw [ldN_zero]; rfl) | (rw [ldN_succ, ← sh8 i (by omega)]; simp only [Nat.mul_one, Nat.zero_add, Int.toNat_natCast] <;> rfl) | rfl)))) | (show (_ → _) ∧ (¬ _ → _); first | refine T.y ?_ | refine dec_both (fun h => ?_) (fun h => ?_)) | exact T.z | refine ⟨_, rfl, rfl, ?_⟩ | fail) <;> conv => whnf)
 all_goals (try dsimp only)
 have hi : i = 8 := by omega
 subst hi
 rw [ldN_take]
 (show RetL _ _ _; refine goR ?_)
 rfl
theorem tword_c (l : List UInt8) (hl : l.length ≤ 8) : LSpec Tryd.prog G 89 [bv l] [] (fun _ => (dAV (ldN l l.length), [])) := by
 refine goW [] Tryd.func89 rfl ?_
 conv => whnf
 repeat' ((first | refine T.s ?_ | ((first | apply goB | apply ABr.dec | apply ABr.gen) <;> intro h <;> try (exfalso; omega)) | refine LFresh.mk fun r => ?_ | (show SWpL _ _ _ (.loop _) _ _ _; first | (apply goO tyOk [] 3 (S := Nat) [0] (fun i => ⟨[(3, dAV (ldN l i)), (4, .int .i64 i)], [], i ≤ l.length, l.length - i⟩) (0) (by rfl); (focus ((repeat' first | exact trivial | (refine And.intro ?_ ?_) | exact LSub.nil | (with_reducible exact LSub.refl) | (apply LSub.cons; (repeat first | refine goH ?_ | apply LHas.here | apply LHas.next); refine And.intro ?_ ?_; (focus (try (first | (with_reducible rfl) | (refine congrArg (Pl.mk _) ?_; (first | (with_reducible rfl) | (rw [ldN_zero]; rfl) | (rw [ldN_succ, ← sh8u i (by omega)]; simp only [Nat.mul_one, Nat.zero_add, Int.toNat_natCast] <;> rfl) | rfl)) | rfl | (with_reducible refine congrArg (Pl.mk _) ?_))))) | assumption | (first | (focus (apply Eq.trans; (conv => lhs; whnf); (conv => rhs; whnf); done)) | rfl | ((conv => lhs; whnf); first | rfl | (refine congrArg (AV.int _) ?_; (exact T.num)) | (refine congrArg AV.bool ?_; (exact T.num)) | (refine vw_congr ?_; first | (exact T.num) | (first | (with_reducible rfl) | (rw [ldN_zero]; rfl) | (rw [ldN_succ, ← sh8u i (by omega)]; simp only [Nat.mul_one, Nat.zero_add, Int.toNat_natCast] <;> rfl) | rfl)) | (refine sl_congr ?_ ?_ <;> first | (exact T.num) | (first | (with_reducible rfl) | (rw [ldN_zero]; rfl) | (rw [ldN_succ, ← sh8u i (by omega)]; simp only [Nat.mul_one, Nat.zero_add, Int.toNat_natCast] <;> rfl) | rfl)) | (first | (with_reducible rfl) | (rw [ldN_zero]; rfl) | (rw [ldN_succ, ← sh8u i (by omega)]; simp only [Nat.mul_one, Nat.zero_add, Int.toNat_natCast] <;> rfl) | rfl))) | (exact T.num) | (dsimp only; (exact T.num)) | (first | (with_reducible rfl) | (rw [ldN_zero]; rfl) | (rw [ldN_succ, ← sh8u i (by omega)]; simp only [Nat.mul_one, Nat.zero_add, Int.toNat_natCast] <;> rfl) | rfl)); done)); rintro i hok; (try dsimp only at hok))) | (show AtL _ _ _ _ _ _ _ _ _ _; first | (apply AtL.mk' (id := 3) (S := Nat) (i + 1); (repeat' first | exact trivial | (refine And.intro ?_ ?_) | exact LSub.nil | (with_reducible exact LSub.refl) | (apply LSub.cons; (repeat first | refine goH ?_ | apply LHas.here | apply LHas.next); refine And.intro ?_ ?_; (focus (try (first | (with_reducible rfl) | (refine congrArg (Pl.mk _) ?_; (first | (with_reducible rfl) | (rw [ldN_zero]; rfl) | (rw [ldN_succ, ← sh8u i (by omega)]; simp only [Nat.mul_one, Nat.zero_add, Int.toNat_natCast] <;> rfl) | rfl)) | rfl | (with_reducible refine congrArg (Pl.mk _) ?_))))) | assumption | (first | (focus (apply Eq.trans; (conv => lhs; whnf); (conv => rhs; whnf); done)) | rfl | ((conv => lhs; whnf); first | rfl | (refine congrArg (AV.int _) ?_; (exact T.num)) | (refine congrArg AV.bool ?_; (exact T.num)) | (refine vw_congr ?_; first | (exact T.num) | (first | (with_reducible rfl) | (rw [ldN_zero]; rfl) | (rw [ldN_succ, ← sh8u i (by omega)]; simp only [Nat.mul_one, Nat.zero_add, Int.toNat_natCast] <;> rfl) | rfl)) | (refine sl_congr ?_ ?_ <;> first | (exact T.num) | (first | (with_reducible rfl) | (rw [ldN_zero]; rfl) | (rw [ldN_succ, ← sh8u i (by omega)]; simp only [Nat.mul_one, Nat.zero_add, Int.toNat_natCast] <;> rfl) | rfl)) | (first | (with_reducible rfl) | (rw [ldN_zero]; rfl) | (rw [ldN_succ, ← sh8u i (by omega)]; simp only [Nat.mul_one, Nat.zero_add, Int.toNat_natCast] <;> rfl) | rfl))) | (exact T.num) | (dsimp only; (exact T.num)) | (first | (with_reducible rfl) | (rw [ldN_zero]; rfl) | (rw [ldN_succ, ← sh8u i (by omega)]; simp only [Nat.mul_one, Nat.zero_add, Int.toNat_natCast] <;> rfl) | rfl)); done) | (apply AtL.mk' (id := 3) (S := Nat) (i + 1); (repeat' first | exact trivial | (refine And.intro ?_ ?_) | exact LSub.nil | (with_reducible exact LSub.refl) | (apply LSub.cons; (repeat first | refine goH ?_ | apply LHas.here | apply LHas.next); refine And.intro ?_ ?_; (focus (try (first | (with_reducible rfl) | (refine congrArg (Pl.mk _) ?_; (first | (with_reducible rfl) | (rw [ldN_zero]; rfl) | (rw [ldN_succ, ← sh8u i (by omega)]; simp only [Nat.mul_one, Nat.zero_add, Int.toNat_natCast] <;> rfl) | rfl)) | rfl | (with_reducible refine congrArg (Pl.mk _) ?_))))) | assumption | (first | (focus (apply Eq.trans; (conv => lhs; whnf); (conv => rhs; whnf); done)) | rfl | ((conv => lhs; whnf); first | rfl | (refine congrArg (AV.int _) ?_; (exact T.num)) | (refine congrArg AV.bool ?_; (exact T.num)) | (refine vw_congr ?_; first | (exact T.num) | (first | (with_reducible rfl) | (rw [ldN_zero]; rfl) | (rw [ldN_succ, ← sh8u i (by omega)]; simp only [Nat.mul_one, Nat.zero_add, Int.toNat_natCast] <;> rfl) | rfl)) | (refine sl_congr ?_ ?_ <;> first | (exact T.num) | (first | (with_reducible rfl) | (rw [ldN_zero]; rfl) | (rw [ldN_succ, ← sh8u i (by omega)]; simp only [Nat.mul_one, Nat.zero_add, Int.toNat_natCast] <;> rfl) | rfl)) | (first | (with_reducible rfl) | (rw [ldN_zero]; rfl) | (rw [ldN_succ, ← sh8u i (by omega)]; simp only [Nat.mul_one, Nat.zero_add, Int.toNat_natCast] <;> rfl) | rfl))) | (exact T.num) | (dsimp only; (exact T.num)) | (first | (with_reducible rfl) | (rw [ldN_zero]; rfl) | (rw [ldN_succ, ← sh8u i (by omega)]; simp only [Nat.mul_one, Nat.zero_add, Int.toNat_natCast] <;> rfl) | rfl)))) | exact T.z | refine ⟨_, rfl, rfl, ?_⟩ | fail) <;> conv => whnf)
 all_goals (try dsimp only)
 have hi : i = l.length := by omega
 subst hi
 (show RetL _ _ _; refine goR ?_)
 rfl
def ini (k : List UInt8) : W4 := ⟨ibits .xor .u64 (ldN k 8) 8317987319222330741, ibits .xor .u64 (ldN (k.drop 8) 8) 7237128888997146477, ibits .xor .u64 (ldN k 8) 7816392313619706465, ibits .xor .u64 (ldN (k.drop 8) 8) 8387220255154660723⟩
theorem begin_c (k : List UInt8) (hk : k.length = 16) : LSpec Tryd.prog G 84 [bv k] [] (fun q => (.ptr q 0, [(q, ⟨117, (ini k).cs⟩)])) := by
 refine goW [] Tryd.func84 rfl ?_
 conv => whnf
 repeat' ((first | exact Nm.b 0 | (show LCall _ _ _ _ _ _; first | refine LCall.pure (tload_c k (by omega)) ?_ | refine LCall.pure (tload_c (k.drop 8) (by simp; omega)) ?_ | refine goE ?_) | (show AList _ _; first | (refine AList.tailE 8 ?_ ?_ ?_; (focus rfl); (focus (simp; omega)))) | refine T.s ?_ | ((first | apply goB | apply ABr.dec | apply ABr.gen) <;> intro h <;> try (exfalso; omega)) | refine LFresh.mk fun r => ?_ | (show SWpL _ _ _ _ _ _ _; first | (refine goD tyOk mixed 1 [] [0, 2, 3, 1, 4, 5, 6] [] (by kernel_rfl) ?_)) | (show (_ → _) ∧ (¬ _ → _); first | refine T.y ?_ | refine dec_both (fun h => ?_) (fun h => ?_)) | exact T.z | fail) <;> conv => whnf)
 all_goals (try dsimp only)
 refine RetL.own r rfl ?_ ?_
 · (repeat first | refine goH ?_ | apply LHas.here | apply LHas.next); trivial
 · (repeat' first | exact LSub.nil | (with_reducible exact LSub.refl) | (apply LSub.cons; (repeat first | refine goH ?_ | apply LHas.here | apply LHas.next); refine And.intro ?_ ?_; (focus (try (first | (with_reducible rfl) | (refine congrArg (Pl.mk _) ?_; (first | rfl | (simp; done))) | rfl | (with_reducible refine congrArg (Pl.mk _) ?_))))))
theorem ini_eq (k : List UInt8) : ini k = ⟨ibits .xor .u64 (ldN k 8) 8317987319222330741, ibits .xor .u64 (ldN (k.drop 8) 8) 7237128888997146477, ibits .xor .u64 (ldN k 8) 7816392313619706465, ibits .xor .u64 (ldN (k.drop 8) 8) 8387220255154660723⟩ := rfl
attribute [irreducible] ini
def lastW (r : List UInt8) (n : Nat) : Int := ibits .or .u64 (ldN r r.length) (IntKind.u64.wrap (IntKind.u64.wrap ((n : Int).tmod 256) * 2 ^ min 56 64))
def wholeW (l : List UInt8) (k : Nat) : List Int := (List.range k).map fun i => ldN (l.drop (8 * i)) 8
theorem wholeW_zero (l : List UInt8) : wholeW l 0 = [] := rfl
theorem wholeW_succ (l : List UInt8) (k : Nat) : wholeW l (k + 1) = wholeW l k ++ [ldN (l.drop (8 * k)) 8] := by simp [wholeW, List.range_succ]
@[simp] theorem wholeW_len (l : List UInt8) (k : Nat) : (wholeW l k).length = k := by simp [wholeW]
theorem wholeW_eq (l : List UInt8) (k : Nat) : wholeW l k = (List.range k).map fun i => ldN (l.drop (8 * i)) 8 := rfl
attribute [irreducible] wholeW
def wds (l : List UInt8) : List Int := wholeW l (l.length / 8) ++ [lastW (l.drop (8 * (l.length / 8))) l.length]
theorem wds_eq (l : List UInt8) : wds l = wholeW l (l.length / 8) ++ [lastW (l.drop (8 * (l.length / 8))) l.length] := rfl
@[simp] theorem wds_len (l : List UInt8) : (wds l).length = l.length / 8 + 1 := by simp [wds]
attribute [irreducible] wds
theorem or0 (x : Int) (h0 : 0 ≤ x) (h1 : x < 18446744073709551616) : ibits .or .u64 x 0 = x := by
 unfold ibits
 show IntKind.u64.wrap ((BitVec.ofInt 64 x ||| BitVec.ofInt 64 0).toNat : Int) = x
 rw [show BitVec.ofInt 64 0 = 0#64 from rfl, BitVec.or_zero, BitVec.toNat_ofInt, IntKind.wrap_u64]
 omega
theorem ibits_u64 (op : BinOp) (a b : Int) : 0 ≤ ibits op .u64 a b ∧ ibits op .u64 a b < 18446744073709551616 := by
 unfold ibits
 cases op <;> simp only [IntKind.wrap_u64] <;> omega
theorem ldN_rng (l : List UInt8) (n : Nat) : 0 ≤ ldN l n ∧ ldN l n < 18446744073709551616 := by
 cases n with
 | zero => rw [ldN_zero]; omega
 | succ n => rw [ldN_succ]; exact ibits_u64 _ _ _
theorem ldN_zeros (l : List UInt8) (k n : Nat) (h : ∀ i, k ≤ i → i < n → l.getD i 0 = 0) (hk : k ≤ n) : ldN l n = ldN l k := by
 induction n with
 | zero => rw [show k = 0 by omega]
 | succ n ih =>
   by_cases hkn : k = n + 1
   · rw [hkn]
   · rw [ldN_succ, h n (by omega) (by omega), show IntKind.u64.wrap (IntKind.u64.wrap (((0 : UInt8).toNat : Nat) : Int) * 2 ^ min (8 * n) 64) = 0 by simp [IntKind.wrap_u64], or0 _ (ldN_rng _ _).1 (ldN_rng _ _).2]
     exact ih (fun i h1 h2 => h i h1 (by omega)) (by omega)
theorem lastW_eq (r : List UInt8) (n : Nat) (hr : r.length ≤ 7) : ldN ((r ++ List.replicate (7 - r.length) 0) ++ [b8 n]) 8 = lastW r n := by
 have hz : (r ++ List.replicate (7 - r.length) (0 : UInt8)).length = 7 := by simp; omega
 rw [ldN_succ, lastW]
 have e1 : ldN ((r ++ List.replicate (7 - r.length) 0) ++ [b8 n]) 7 = ldN r r.length := by
   rw [ldN_zeros _ r.length 7 _ hr]
   · exact ldN_congr _ _ _ fun i hi => by simp only [List.getD_eq_getElem?_getD]; rw [List.append_assoc, List.getElem?_append_left hi]
   · intro i h1 h2
     simp only [List.getD_eq_getElem?_getD]
     rw [List.getElem?_append_left (by omega), List.getElem?_append_right h1]
     rw [List.getElem?_replicate]
     split <;> rfl
 have e2 : ((r ++ List.replicate (7 - r.length) 0) ++ [b8 n]).getD 7 0 = b8 n := by
   simp only [List.getD_eq_getElem?_getD]
   rw [List.getElem?_append_right (by omega), hz]
   rfl
 have e3 : ((b8 (n : Int)).toNat : Int) = (n : Int).tmod 256 := by
   unfold b8
   rw [Int.tmod_eq_emod_of_nonneg (by omega)]
   simp
   omega
 rw [e1, e2, e3]
theorem last_row (r : List UInt8) (h : r.length ≤ 7) : splice [AV.int .u8 0, .int .u8 0, .int .u8 0, .int .u8 0, .int .u8 0, .int .u8 0, .int .u8 0, .int .u8 0] 0 (r.map bAV) = (r ++ List.replicate (8 - r.length) 0).map bAV := by
 unfold splice
 rw [show [AV.int .u8 0, .int .u8 0, .int .u8 0, .int .u8 0, .int .u8 0, .int .u8 0, .int .u8 0, .int .u8 0] = List.replicate 8 (bAV 0) from rfl, List.drop_replicate, List.map_append, List.map_replicate, List.length_map, Nat.zero_add]
 rfl
theorem last_set (r : List UInt8) (x : UInt8) (h : r.length ≤ 7) : (r ++ List.replicate (8 - r.length) 0).set 7 x = (r ++ List.replicate (7 - r.length) 0) ++ [x] := by
 rw [show 8 - r.length = (7 - r.length) + 1 by omega, List.replicate_succ', ← List.append_assoc, List.set_append_right _ _ (by simp; omega)]
 simp
 rw [show 7 - (r.length + (7 - r.length)) = 0 by omega]
 rfl
open Go.RowKit
variable {G : Nat → AV}
theorem drop8_len (l : List UInt8) (i : Nat) : (l.drop (8 * i)).length = l.length - 8 * i := by simp
theorem last_row2 (l : List UInt8) (i : Nat) (h : l.length - 8 * i ≤ 7) : splice [AV.int .u8 0, .int .u8 0, .int .u8 0, .int .u8 0, .int .u8 0, .int .u8 0, .int .u8 0, .int .u8 0] (0 + Int.toNat 0 * 1) (List.take ((l.length - 8 * i).min (((8 : Nat) : Int).toNat - Int.toNat 0) * 1) ((l.drop (8 * i)).map bAV)) = (l.drop (8 * i) ++ List.replicate (8 - (l.drop (8 * i)).length) 0).map bAV := by
 rw [show 0 + Int.toNat 0 * 1 = 0 from rfl, show ((8 : Nat) : Int).toNat - Int.toNat 0 = 8 from rfl, List.take_of_length_le]
 · exact last_row _ (by simp; omega)
 · simp only [List.length_map, List.length_drop, Nat.mul_one]
   exact Nat.le_min.2 ⟨Nat.le_refl _, by omega⟩
theorem last_e (r : List UInt8) (x : UInt8) (h : r.length ≤ 7) : (r ++ List.replicate (7 - r.length) 0 ++ [x]).map bAV = List.take ((((8 : Nat) : Int).toNat - Int.toNat 0) * 1) (List.drop (0 + Int.toNat 0 * 1) (((r ++ List.replicate (8 - r.length) 0).set (0 + Int.toNat 7 * 1) x).map bAV)) := by
 rw [show 0 + Int.toNat 7 * 1 = 7 from rfl, last_set r x h, show 0 + Int.toNat 0 * 1 = 0 from rfl, List.drop_zero, List.take_of_length_le]
 simp
 omega
theorem tail_e (l : List UInt8) (i : Nat) : List.take (((((l.length - 8 * i : Nat) : Int)).toNat - Int.toNat 8) * 1) (List.drop (Int.toNat 8 * 1) ((l.drop (8 * i)).map bAV)) = (l.drop (8 * (i + 1))).map bAV := by
 rw [show Int.toNat 8 * 1 = 8 from rfl, ← List.map_drop, List.drop_drop, List.take_of_length_le]
 · rfl
 · simp
   omega
theorem words_c (l : List UInt8) (hl : l.length ≤ 4096) : LSpec Tryd.prog G 85 [bv l] [] (fun q => (.vw q 0 (l.length / 8 + 1) 1, [(q, ⟨114, (wds l).map dAV⟩)])) := by
 have hL := drop8_len l
 refine goW [] Tryd.func85 rfl ?_
 conv => whnf
 repeat' ((first | (show _ = List.take _ _; exact last_e _ _ (by rw [hL]; omega)) | (refine And.intro ?_ ?_; (focus (first | (rw [hL]; omega) | exact T.kx | exact T.side))) | (show LCall _ _ _ _ _ _; first | refine LCall.pure (tload_c (l.drop (8 * i)) (by rw [hL]; omega)) ?_ | refine LCall.lend (tload_c (((l.drop (8 * i)) ++ List.replicate (7 - (l.drop (8 * i)).length) 0) ++ [b8 l.length]) (by simp; omega)) [_] ⟨LF.ap InL.here ?_, trivial⟩ (Flat.int _ _) ?_ | refine goE ?_) | (show AList _ _; first | (refine AList.eq (last_row2 l i ?_) ?_; (focus omega)) | (refine AList.set (x := b8 l.length) (bAV_b8 _).symm ?_ ?_; (focus (simp; omega)); rw [last_set _ _ (by rw [hL]; omega)]) | (refine AList.eq (tail_e l i) ?_) | (refine AList.app (f := dAV) ?_ ?_; (focus (rw [wholeW_len]; omega)))) | refine T.s ?_ | ((first | apply goB | apply ABr.dec | apply ABr.gen) <;> intro h <;> try (exfalso; omega)) | refine LFresh.mk fun r => ?_ | (show SWpL _ _ _ (.loop _) _ _ _; first | (apply goO tyOk [] 3 (S := Nat × Nm) [0] (fun (i, q) => ⟨[(3, .vw q 0 i 1), (4, .sl (l.length - 8 * i) ((l.drop (8 * i)).map bAV))], [(q, ⟨114, (wholeW l i).map dAV⟩)], 8 * i ≤ l.length, l.length - 8 * i⟩) ((0, _)) (by rfl); (focus ((repeat' first | exact trivial | (refine And.intro ?_ ?_) | exact LSub.nil | (with_reducible exact LSub.refl) | (apply LSub.cons; (repeat first | refine goH ?_ | apply LHas.here | apply LHas.next); refine And.intro ?_ ?_; (focus (try (first | (with_reducible rfl) | (refine congrArg (Pl.mk _) ?_; (first | (with_reducible rfl) | (rw [wholeW_zero]; rfl) | (rw [wholeW_succ, List.map_append]; rfl) | (refine congrArg (fun n => List.map bAV (List.drop n l)) ?_; omega) | rfl)) | rfl | (with_reducible refine congrArg (Pl.mk _) ?_))))) | assumption | (first | (focus (apply Eq.trans; (conv => lhs; whnf); (conv => rhs; whnf); done)) | rfl | ((conv => lhs; whnf); first | rfl | (refine congrArg (AV.int _) ?_; (exact T.num)) | (refine congrArg AV.bool ?_; (exact T.num)) | (refine vw_congr ?_; first | (exact T.num) | (first | (with_reducible rfl) | (rw [wholeW_zero]; rfl) | (rw [wholeW_succ, List.map_append]; rfl) | (refine congrArg (fun n => List.map bAV (List.drop n l)) ?_; omega) | rfl)) | (refine sl_congr ?_ ?_ <;> first | (exact T.num) | (first | (with_reducible rfl) | (rw [wholeW_zero]; rfl) | (rw [wholeW_succ, List.map_append]; rfl) | (refine congrArg (fun n => List.map bAV (List.drop n l)) ?_; omega) | rfl)) | (first | (with_reducible rfl) | (rw [wholeW_zero]; rfl) | (rw [wholeW_succ, List.map_append]; rfl) | (refine congrArg (fun n => List.map bAV (List.drop n l)) ?_; omega) | rfl))) | (exact T.num) | (dsimp only; (exact T.num)) | (first | (with_reducible rfl) | (rw [wholeW_zero]; rfl) | (rw [wholeW_succ, List.map_append]; rfl) | (refine congrArg (fun n => List.map bAV (List.drop n l)) ?_; omega) | rfl)); done)); rintro ⟨i, q⟩ hok; (try dsimp only at hok))) | (show SWpL _ _ _ _ _ _ _; first | refine SWpL.adopt 3 1 114 (by rfl) fun q => ?_) | (show AtL _ _ _ _ _ _ _ _ _ _; first | (apply AtL.mk' (id := 3) (S := Nat × Nm) ((i + 1, _)); (repeat' first | exact trivial | (refine And.intro ?_ ?_) | exact LSub.nil | (with_reducible exact LSub.refl) | (apply LSub.cons; (repeat first | refine goH ?_ | apply LHas.here | apply LHas.next); refine And.intro ?_ ?_; (focus (try (first | (with_reducible rfl) | (refine congrArg (Pl.mk _) ?_; (first | (with_reducible rfl) | (rw [wholeW_zero]; rfl) | (rw [wholeW_succ, List.map_append]; rfl) | (refine congrArg (fun n => List.map bAV (List.drop n l)) ?_; omega) | rfl)) | rfl | (with_reducible refine congrArg (Pl.mk _) ?_))))) | assumption | (first | (focus (apply Eq.trans; (conv => lhs; whnf); (conv => rhs; whnf); done)) | rfl | ((conv => lhs; whnf); first | rfl | (refine congrArg (AV.int _) ?_; (exact T.num)) | (refine congrArg AV.bool ?_; (exact T.num)) | (refine vw_congr ?_; first | (exact T.num) | (first | (with_reducible rfl) | (rw [wholeW_zero]; rfl) | (rw [wholeW_succ, List.map_append]; rfl) | (refine congrArg (fun n => List.map bAV (List.drop n l)) ?_; omega) | rfl)) | (refine sl_congr ?_ ?_ <;> first | (exact T.num) | (first | (with_reducible rfl) | (rw [wholeW_zero]; rfl) | (rw [wholeW_succ, List.map_append]; rfl) | (refine congrArg (fun n => List.map bAV (List.drop n l)) ?_; omega) | rfl)) | (first | (with_reducible rfl) | (rw [wholeW_zero]; rfl) | (rw [wholeW_succ, List.map_append]; rfl) | (refine congrArg (fun n => List.map bAV (List.drop n l)) ?_; omega) | rfl))) | (exact T.num) | (dsimp only; (exact T.num)) | (first | (with_reducible rfl) | (rw [wholeW_zero]; rfl) | (rw [wholeW_succ, List.map_append]; rfl) | (refine congrArg (fun n => List.map bAV (List.drop n l)) ?_; omega) | rfl)); done) | (apply AtL.mk' (id := 3) (S := Nat × Nm) ((i + 1, _)); (repeat' first | exact trivial | (refine And.intro ?_ ?_) | exact LSub.nil | (with_reducible exact LSub.refl) | (apply LSub.cons; (repeat first | refine goH ?_ | apply LHas.here | apply LHas.next); refine And.intro ?_ ?_; (focus (try (first | (with_reducible rfl) | (refine congrArg (Pl.mk _) ?_; (first | (with_reducible rfl) | (rw [wholeW_zero]; rfl) | (rw [wholeW_succ, List.map_append]; rfl) | (refine congrArg (fun n => List.map bAV (List.drop n l)) ?_; omega) | rfl)) | rfl | (with_reducible refine congrArg (Pl.mk _) ?_))))) | assumption | (first | (focus (apply Eq.trans; (conv => lhs; whnf); (conv => rhs; whnf); done)) | rfl | ((conv => lhs; whnf); first | rfl | (refine congrArg (AV.int _) ?_; (exact T.num)) | (refine congrArg AV.bool ?_; (exact T.num)) | (refine vw_congr ?_; first | (exact T.num) | (first | (with_reducible rfl) | (rw [wholeW_zero]; rfl) | (rw [wholeW_succ, List.map_append]; rfl) | (refine congrArg (fun n => List.map bAV (List.drop n l)) ?_; omega) | rfl)) | (refine sl_congr ?_ ?_ <;> first | (exact T.num) | (first | (with_reducible rfl) | (rw [wholeW_zero]; rfl) | (rw [wholeW_succ, List.map_append]; rfl) | (refine congrArg (fun n => List.map bAV (List.drop n l)) ?_; omega) | rfl)) | (first | (with_reducible rfl) | (rw [wholeW_zero]; rfl) | (rw [wholeW_succ, List.map_append]; rfl) | (refine congrArg (fun n => List.map bAV (List.drop n l)) ?_; omega) | rfl))) | (exact T.num) | (dsimp only; (exact T.num)) | (first | (with_reducible rfl) | (rw [wholeW_zero]; rfl) | (rw [wholeW_succ, List.map_append]; rfl) | (refine congrArg (fun n => List.map bAV (List.drop n l)) ?_; omega) | rfl)))) | (show (_ → _) ∧ (¬ _ → _); first | refine T.y ?_ | refine dec_both (fun h => ?_) (fun h => ?_)) | exact T.z | refine ⟨_, rfl, rfl, ?_⟩ | fail) <;> conv => whnf)
 all_goals (try dsimp only)
 have hi : i = l.length / 8 := by omega
 subst hi
 refine RetL.own r ?_ ?_ ?_
 · rfl
 · (repeat first | refine goH ?_ | apply LHas.here | apply LHas.next); trivial
 · apply LSub.cons
   (repeat first | refine goH ?_ | apply LHas.here | apply LHas.next)
   refine And.intro ?_ LSub.nil
   rw [lastW_eq _ _ (by rw [hL]; omega), wds_eq, List.map_append]
   rfl
open Go.RowKit
variable {G : Nat → AV}
def rotI (x n : Int) : Int := ibits .or .u32 (IntKind.u32.wrap (x * 2 ^ min n.toNat 32)) (x.fdiv (2 ^ min (iarith .sub .u64 32 n).toNat 32))
def wAV (x : Int) : AV := .int .u32 x
theorem rot_c (x n : Int) (hn : ibits .and .u64 (IntKind.u64.wrap n) 31 = n) (h0 : 0 ≤ n) : LSpec Tryd.prog G 83 [wAV x, iAV n] [] (fun _ => (wAV (rotI x n), [])) := by
 refine goW [] Tryd.func83 rfl ?_
 conv => whnf
 repeat' ((first | refine T.s ?_ | ((first | apply goB | apply ABr.dec | apply ABr.gen) <;> intro h <;> try (exfalso; omega)) | refine LFresh.mk fun r => ?_ | exact T.z | refine ⟨_, rfl, rfl, ?_⟩ | fail) <;> conv => whnf)
 all_goals (try dsimp only)
 (show RetL _ _ _; refine goR ?_)
 rw [hn]
 rfl
theorem turn_c (x n : Int) (h0 : 0 ≤ n) : LSpec Tryd.prog G 88 [wAV x, .int .u64 n] [] (fun _ => (wAV (rotI x n), [])) := by
 refine goW [] Tryd.func88 rfl ?_
 conv => whnf
 repeat' ((first | refine T.s ?_ | ((first | apply goB | apply ABr.dec | apply ABr.gen) <;> intro h <;> try (exfalso; omega)) | refine LFresh.mk fun r => ?_ | exact T.z | fail) <;> conv => whnf)
 all_goals (try dsimp only)
 (show RetL _ _ _; refine goR ?_)
 rfl
structure Q4 where
 a : Int
 b : Int
 c : Int
 d : Int
def qr (s : Q4) : Q4 :=
 let a := iarith .add .u32 s.a s.b
 let d := rotI (ibits .xor .u32 s.d a) 16
 let c := iarith .add .u32 s.c d
 let b := rotI (ibits .xor .u32 s.b c) 12
 let a := iarith .add .u32 a b
 let d := rotI (ibits .xor .u32 d a) 8
 let c := iarith .add .u32 c d
 let b := rotI (ibits .xor .u32 b c) 7
 ⟨a, b, c, d⟩
def Q4.av (s : Q4) : AV := .tup [wAV s.a, wAV s.b, wAV s.c, wAV s.d]
theorem quarter_c (a b c d : Int) : LSpec Tryd.prog G 74 [wAV a, wAV b, wAV c, wAV d] [] (fun _ => ((qr ⟨a, b, c, d⟩).av, [])) := by
 refine goW [] Tryd.func74 rfl ?_
 conv => whnf
 repeat' ((first | (show LCall _ _ _ _ _ _; first | refine LCall.pure (rot_c _ _ (by decide) (by decide)) ?_ | refine goE ?_) | refine T.s ?_ | ((first | apply goB | apply ABr.dec | apply ABr.gen) <;> intro h <;> try (exfalso; omega)) | refine LFresh.mk fun r => ?_ | exact T.z | fail) <;> conv => whnf)
 all_goals (try dsimp only)
 (show RetL _ _ _; refine goR ?_)
 rfl
theorem rquarter_c (a b c d : Int) : LSpec Tryd.prog G 80 [wAV a, wAV b, wAV c, wAV d] [] (fun _ => ((qr ⟨a, b, c, d⟩).av, [])) := by
 refine goW [] Tryd.func80 rfl ?_
 conv => whnf
 repeat' ((first | (show LCall _ _ _ _ _ _; first | refine LCall.pure (turn_c _ _ (by decide)) ?_ | refine goE ?_) | refine T.s ?_ | ((first | apply goB | apply ABr.dec | apply ABr.gen) <;> intro h <;> try (exfalso; omega)) | refine LFresh.mk fun r => ?_ | exact T.z | fail) <;> conv => whnf)
 all_goals (try dsimp only)
 (show RetL _ _ _; refine goR ?_)
 rfl
theorem first_c : LSpec Tryd.prog G 72 [] [] (fun _ => (.agg [wAV 1634760805, wAV 857760878, wAV 2036477234, wAV 1797285236], [])) := by
 refine goW [] Tryd.func72 rfl ?_
 conv => whnf
 repeat' ((first | refine T.s ?_ | ((first | apply goB | apply ABr.dec | apply ABr.gen) <;> intro h <;> try (exfalso; omega)) | refine LFresh.mk fun r => ?_ | exact T.z | fail) <;> conv => whnf)
 all_goals (try dsimp only)
 (show RetL _ _ _; refine goR ?_)
 rfl
def wrdI (a b c d : UInt8) : Int := ibits .or .u32 (ibits .or .u32 (ibits .or .u32 (IntKind.u32.wrap a.toNat) (IntKind.u32.wrap (IntKind.u32.wrap b.toNat * 2 ^ min (Int.toNat 8) 32))) (IntKind.u32.wrap (IntKind.u32.wrap c.toNat * 2 ^ min (Int.toNat 16) 32))) (IntKind.u32.wrap (IntKind.u32.wrap d.toNat * 2 ^ min (Int.toNat 24) 32))
def wrdL (l : List UInt8) : Int := wrdI (l.getD 0 0) (l.getD 1 0) (l.getD 2 0) (l.getD 3 0)
theorem load_c (l : List UInt8) (hn : 4 ≤ l.length) : LSpec Tryd.prog G 73 [bv l] [] (fun _ => (wAV (wrdL l), [])) := by
 refine goW [] Tryd.func73 rfl ?_
 conv => whnf
 repeat' ((first | exact Nm.b 0 | refine T.s ?_ | ((first | apply goB | apply ABr.dec | apply ABr.gen) <;> intro h <;> try (exfalso; omega)) | refine LFresh.mk fun r => ?_ | (show SWpL _ _ _ _ _ _ _; first | (refine goD tyOk mixed 1 [] [0, 1, 2, 3, 4, 5, 6, 7, 8, 9, 10, 11, 12, 13, 14, 15, 16, 17, 18, 19, 20, 21, 22] [] (by kernel_rfl) ?_)) | exact T.z | refine ⟨_, rfl, rfl, ?_⟩ | fail) <;> conv => whnf)
 all_goals (try dsimp only)
 (show RetL _ _ _; refine goR ?_)
 rfl
theorem word_c (l : List UInt8) (hn : 4 ≤ l.length) : LSpec Tryd.prog G 79 [bv l] [] (fun _ => (wAV (wrdL l), [])) := by
 refine goW [] Tryd.func79 rfl ?_
 conv => whnf
 repeat' ((first | exact Nm.b 0 | refine T.s ?_ | ((first | apply goB | apply ABr.dec | apply ABr.gen) <;> intro h <;> try (exfalso; omega)) | refine LFresh.mk fun r => ?_ | (show SWpL _ _ _ _ _ _ _; first | (refine goD tyOk mixed 1 [] [0, 1, 2, 3, 4, 5, 6, 7, 8, 9, 10, 11, 12, 13, 14, 15, 16, 17, 18, 19, 20, 21, 22] [] (by kernel_rfl) ?_)) | exact T.z | refine ⟨_, rfl, rfl, ?_⟩ | fail) <;> conv => whnf)
 all_goals (try dsimp only)
 (show RetL _ _ _; refine goR ?_)
 rfl
def wrdB (w : Int) : List UInt8 := [b8 w, b8 (w.fdiv (2 ^ min (Int.toNat 8) 32)), b8 (w.fdiv (2 ^ min (Int.toNat 16) 32)), b8 (w.fdiv (2 ^ min (Int.toNat 24) 32))]
theorem store_c (l : List UInt8) (w : Int) (hl : l.length ≤ 1000) (p : Nm) : LSpec Tryd.prog G 75 [.vw p 0 l.length 1, wAV w] [(p, ⟨5, l.map bAV⟩)] (fun q => (.vw q 0 (l.length + 4) 1, [(q, ⟨5, (l ++ wrdB w).map bAV⟩)])) := by
 refine goW [] Tryd.func75 rfl ?_
 conv => whnf
 repeat' ((first | refine T.s ?_ | ((first | apply goB | apply ABr.dec | apply ABr.gen) <;> intro h <;> try (exfalso; omega)) | refine LFresh.mk fun r => ?_ | exact T.z | refine ⟨_, rfl, rfl, ?_⟩ | fail) <;> conv => whnf)
 all_goals (try dsimp only)
 refine RetL.own r ?_ ?_ ?_
 · rfl
 · (repeat first | refine goH ?_ | apply LHas.here | apply LHas.next); trivial
 · (repeat' first | exact LSub.nil | (with_reducible exact LSub.refl) | (apply LSub.cons; (repeat first | refine goH ?_ | apply LHas.here | apply LHas.next); refine And.intro ?_ ?_; (focus (try (first | (with_reducible rfl) | (refine congrArg (Pl.mk _) ?_; (first | rfl | (simp; done))) | rfl | (with_reducible refine congrArg (Pl.mk _) ?_))))))
   simp [wrdB, bAV_b8, IntKind.bits]
@[simp] theorem wrdB_len (w : Int) : (wrdB w).length = 4 := rfl
theorem wrdL_take (l : List UInt8) : wrdL (l.take 4) = wrdL l := by
 unfold wrdL
 simp [List.getD_eq_getElem?_getD, List.getElem?_take]
attribute [irreducible] qr wrdL wrdB rotI
end Go.Proofs.YtnmifddidgofaaaDoor
