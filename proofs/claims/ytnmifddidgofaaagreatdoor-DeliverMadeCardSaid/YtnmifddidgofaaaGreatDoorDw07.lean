/-
  Contracts of the functions that the laws reach.
-/
import Derived.Test.YtnmifddidgofaaaGreatDoorDw01
import Derived.Test.YtnmifddidgofaaaGreatDoorDw02
import Derived.Test.YtnmifddidgofaaaGreatDoorDw03
import Derived.Test.YtnmifddidgofaaaGreatDoorDw04
import Derived.Test.YtnmifddidgofaaaGreatDoorDw05
import Derived.Test.YtnmifddidgofaaaGreatDoorDw06
set_option linter.all false
namespace Go.Proofs.YtnmifddidgofaaaGreatDoor
open Go.RowKit
variable {G : Nat → AV}
theorem LCall.rowsOwn {P : Program} {f : FuncId} {l : LS} {q p : Nm} {n m : Nat} {ds : List AV} {r : Nm → AV} {c : Nm → Pl} {K : AV → LS → Prop} (hs : LSpec P G f [.sl m ds] [] fun q => (r q, [(q, c q)]))
   (h : LHas l q fun cc _ rest => LFs l [q, p] cc.cs ds ∧ cc.cs.length = n ∧ m = n ∧ LHas rest p fun _ _ rest2 => LFresh fun x => K (r x) ((x, c x) :: rest2)) : LCall P G f [.vw q 0 n 1] l K := by
 obtain ⟨l1, cc, l2, rfl, h1, h2, rfl, h3⟩ := h.ex
 exact LCall.mk' hs [q, p] ⟨LF.rowN InL.here ⟨l1, cc, l2, rfl, by decide, by omega, rfl, h1⟩, trivial⟩ ⟨l1, cc, l2, rfl, LHas.mono h3 fun _ _ _ h => h⟩
theorem ibits_and (x n : Nat) (hn : n ≤ 32) (hx : x < 4611686018427387904) : ibits .and .i64 (x : Int) ((2 ^ n - 1 : Nat) : Int) = ((x % 2 ^ n : Nat) : Int) := by
 have hp : 2 ^ n ≤ 2 ^ 32 := Nat.pow_le_pow_right (by omega) hn
 have hq : 0 < 2 ^ n := Nat.pow_pos (by omega)
 show IntKind.i64.wrap ((BitVec.ofInt 64 (x : Int) &&& BitVec.ofInt 64 ((2 ^ n - 1 : Nat) : Int)).toNat : Int) = _
 have e : (BitVec.ofInt 64 (x : Int) &&& BitVec.ofInt 64 ((2 ^ n - 1 : Nat) : Int)).toNat = x % 2 ^ n := by
   rw [BitVec.toNat_and, BitVec.ofInt_natCast, BitVec.ofInt_natCast, BitVec.toNat_ofNat, BitVec.toNat_ofNat, Nat.mod_eq_of_lt (show x < 2 ^ 64 by omega), Nat.mod_eq_of_lt (show 2 ^ n - 1 < 2 ^ 64 by omega), Nat.and_two_pow_sub_one_eq_mod]
 rw [e]
 have h1 : x % 2 ^ n < 2 ^ n := Nat.mod_lt _ hq
 generalize x % 2 ^ n = y at *
 rw [IntKind.wrap_i64]
 omega
theorem bits_cases {b : Int} (h : bitsOk b = true) : b = 5 ∨ b = 6 ∨ b = 7 ∨ b = 8 ∨ b = 9 := by
 simp [bitsOk] at h; omega
theorem lowR_eq (b n : Int) (hb : bitsOk b = true) (hn : countOk n = true) : lowR b n = n % 2 ^ b.toNat := by
 simp [countOk] at hn
 obtain ⟨m, rfl⟩ : ∃ m : Nat, n = m := ⟨n.toNat, by omega⟩
 unfold lowR
 rcases bits_cases hb with rfl | rfl | rfl | rfl | rfl
 · exact ibits_and m 5 (by omega) (by omega)
 · exact ibits_and m 6 (by omega) (by omega)
 · exact ibits_and m 7 (by omega) (by omega)
 · exact ibits_and m 8 (by omega) (by omega)
 · exact ibits_and m 9 (by omega) (by omega)
theorem lowR_lt (b n : Int) (hb : bitsOk b = true) (hn : countOk n = true) : 0 ≤ lowR b n ∧ lowR b n < 512 := by
 rw [lowR_eq b n hb hn]
 rcases bits_cases hb with rfl | rfl | rfl | rfl | rfl
 · show 0 ≤ n % 32 ∧ n % 32 < 512; omega
 · show 0 ≤ n % 64 ∧ n % 64 < 512; omega
 · show 0 ≤ n % 128 ∧ n % 128 < 512; omega
 · show 0 ≤ n % 256 ∧ n % 256 < 512; omega
 · show 0 ≤ n % 512 ∧ n % 512 < 512; omega
def headL (sn : Int) : List UInt8 := [b8 ((ibits .or .i64 32768 sn).fdiv (2 ^ min (Int.toNat 8) 64)), b8 sn]
@[simp] theorem headL_len (sn : Int) : (headL sn).length = 2 := rfl
theorem headL_put (sn : Int) (h0 : 0 ≤ sn) (h1 : sn < 512) : headL sn = putB (32768 + sn) 2 := by
 have h : ∀ m : Nat, m < 512 → headL ((m : Nat) : Int) = putB (32768 + ((m : Nat) : Int)) 2 := by decide +kernel
 have := h sn.toNat (by omega)
 rw [show ((sn.toNat : Nat) : Int) = sn by omega] at this
 exact this
theorem putB_two (x y : UInt8) : putB (256 * (x.toNat : Int) + y.toNat) 2 = [x, y] := by
 have hx := x.toNat_lt
 have hy := y.toNat_lt
 show [b8 ((256 * (x.toNat : Int) + y.toNat).fdiv (2 ^ 8)), b8 ((256 * (x.toNat : Int) + y.toNat).fdiv (2 ^ 0))] = [x, y]
 have e1 : (256 * (x.toNat : Int) + y.toNat).fdiv (2 ^ 8) = x.toNat := by
   rw [Int.fdiv_eq_ediv_of_nonneg _ (by decide)]; omega
 have e2 : (256 * (x.toNat : Int) + y.toNat).fdiv (2 ^ 0) = 256 * (x.toNat : Int) + y.toNat := by
   rw [Int.fdiv_eq_ediv_of_nonneg _ (by decide)]; simp
 rw [e1, e2, b8_toNat]
 have e3 : b8 (256 * (x.toNat : Int) + y.toNat) = y := by
   unfold b8
   rw [show ((256 * (x.toNat : Int) + y.toNat) % 256).toNat = y.toNat by omega]
   simp
 rw [e3]
attribute [irreducible] headL
def splitR (b n : Int) : Int × Int × Int := if bitsOk b && countOk n then (highR b n, lowR b n, 0) else (0, 0, 3)
theorem split_g (b n : Int) : LSpec Tryz.prog G 86 [iAV b, iAV n] [] (fun _ => (.tup [iAV (splitR b n).1, iAV (splitR b n).2.1, iAV (splitR b n).2.2], [])) := by
 cases h1 : bitsOk b
 · have e : splitR b n = (0, 0, 3) := by simp [splitR, h1]
   rw [e]
   refine goW [] Tryz.func86 rfl ?_
   conv => whnf
   repeat' ((first | exact Nm.b 0 | (show LCall _ _ _ _ _ _; first | refine LCall.pure (cbits_c _) ?_ | refine LCall.pure (ccount_c _) ?_ | refine goE ?_) | refine T.s ?_ | ((first | apply goB | apply ABr.dec | apply ABr.gen) <;> intro h <;> try (exfalso; omega)) | refine LFresh.mk fun r => ?_ | (show SWpL _ _ _ _ _ _ _; first | (refine goD tyOk mixed 3 [] [0, 1, 2, 3, 4, 5, 6, 7, 8, 9, 10] [] (by kernel_rfl) ?_)) | exact T.z | fail) <;> conv => whnf)
   all_goals (try dsimp only)
   (show RetL _ _ _; refine goR ?_)
   rfl
 · cases h2 : countOk n
   · have e : splitR b n = (0, 0, 3) := by simp [splitR, h1, h2]
     rw [e]
     refine goW [] Tryz.func86 rfl ?_
     conv => whnf
     repeat' ((first | exact Nm.b 0 | (show LCall _ _ _ _ _ _; first | refine LCall.pure (cbits_c _) ?_ | refine LCall.pure (ccount_c _) ?_ | refine goE ?_) | refine T.s ?_ | ((first | apply goB | apply ABr.dec | apply ABr.gen) <;> intro h <;> try (exfalso; omega)) | refine LFresh.mk fun r => ?_ | (show SWpL _ _ _ _ _ _ _; first | (refine goD tyOk mixed 3 [] [0, 1, 2, 3, 4, 5, 6, 7, 8, 9, 10] [] (by kernel_rfl) ?_)) | exact T.z | fail) <;> conv => whnf)
     all_goals (try dsimp only)
     (show RetL _ _ _; refine goR ?_)
     rfl
   · have e : splitR b n = (highR b n, lowR b n, 0) := by simp [splitR, h1, h2]
     rw [e]
     exact split_c b n (by simp [bitsOk] at h1; omega) (by simp [bitsOk] at h1; omega) (by simp [countOk] at h2; omega) (by simp [countOk] at h2; omega)
def chkR (k : Ky) (b n : Int) : Int × Int := if k.ok then (if bitsOk b && countOk n then (lowR b n, 0) else (0, 3)) else (0, 9)
theorem checked_c (k : Ky) (b n : Int) : LSpec Tryz.prog G 67 [k.av, iAV b, iAV n] [] (fun _ => (.tup [iAV (chkR k b n).1, iAV (chkR k b n).2], [])) := by
 have e1 : k.ok = true → chkR k b n = (splitR b n).2 := fun h => by
   unfold chkR splitR
   rw [if_pos h]
   split <;> rfl
 have e2 : k.ok = false → chkR k b n = (0, 9) := fun h => by
   unfold chkR
   rw [h]; rfl
 refine goW [] Tryz.func67 rfl ?_
 conv => whnf
 repeat' ((first | (show LCall _ _ _ _ _ _; first | refine LCall.pure (cvalid_c k) ?_ | refine LCall.pure (split_g b n) ?_ | refine goE ?_) | refine T.s ?_ | ((first | apply goB | apply ABr.dec | apply ABr.gen) <;> intro h <;> try (exfalso; omega)) | refine LFresh.mk fun r => ?_ | exact T.z | fail) <;> conv => whnf)
 all_goals (try dsimp only)
 · rw [e1 (by assumption)]
   (show RetL _ _ _; refine goR ?_)
   rfl
 · rw [e2 (by assumption)]
   (show RetL _ _ _; refine goR ?_)
   rfl
def dataOk (l : List UInt8) : Bool := decide (1 ≤ l.length ∧ l.length ≤ 2048)
theorem head_c (sn : Int) : LSpec Tryz.prog G 92 [iAV sn] [] (fun q => (.vw q 0 2 1, [(q, ⟨5, (headL sn).map bAV⟩)])) := by
 refine goW [] Tryz.func92 rfl ?_
 conv => whnf
 repeat' ((first | refine T.s ?_ | ((first | apply goB | apply ABr.dec | apply ABr.gen) <;> intro h <;> try (exfalso; omega)) | refine LFresh.mk fun r => ?_ | exact T.z | refine ⟨_, rfl, rfl, ?_⟩ | fail) <;> conv => whnf)
 all_goals (try dsimp only)
 refine RetL.own r rfl ?_ ?_
 · (repeat first | refine goH ?_ | apply LHas.here | apply LHas.next); trivial
 · apply LSub.cons
   (repeat first | refine goH ?_ | apply LHas.here | apply LHas.next)
   refine And.intro (congrArg (Pl.mk _) ?_) LSub.nil
   unfold headL
   simp only [List.map_cons, List.map_nil, bAV_b8]
   rfl
def markH (k : Ky) (nonce head data : List UInt8) : List UInt8 := (shortR k.g (nonce ++ head ++ data)).1
theorem mark_c (k : Ky) (nonce data : List UInt8) (sn : Int) (h0 : 0 < nonce.length) (h1 : nonce.length ≤ 100) (h2 : data.length ≤ 5000) : LSpec Tryz.prog G 71 [k.av, bv nonce, iAV sn, bv data] [] (fun _ => (bv (markH k nonce (headL sn) data), [])) := by
 refine goW [] Tryz.func71 rfl ?_
 conv => whnf
 repeat' ((first | (show LCall _ _ 91 _ _ _; apply LCall.rowsOwn (concat3_c nonce (headL sn) data h0 (by omega) (by simp) (by omega)); (repeat first | refine goH ?_ | apply LHas.here | apply LHas.next); refine And.intro ⟨LF.eq rfl, LF.rowF (InL.next InL.here) ?_, LF.eq rfl, trivial⟩ ?_; (focus ((repeat first | refine goH ?_ | apply LHas.here | apply LHas.next); exact ⟨rfl, (headL_len sn).symm⟩)); conv => whnf) | (show LEra _ _ _; conv => whnf) | (show _ = List.length (_ ++ _); simp only [List.length_append]; done) | exact Nm.b 0 | (refine And.intro ?_ ?_; (focus (first | (simp; done) | exact T.kx | exact T.side))) | (show LCall _ _ _ _ _ _; first | refine LCall.own (head_c sn) ?_ | refine LCall.mk' (short_c k.g (nonce ++ headL sn ++ data)) [_] ⟨LF.eq rfl, LF.rowF InL.here ?_, trivial⟩ ?_ | refine goE ?_) | refine T.s ?_ | ((first | apply goB | apply ABr.dec | apply ABr.gen) <;> intro h <;> try (exfalso; omega)) | refine LFresh.mk fun r => ?_ | (show SWpL _ _ _ _ _ _ _; first | (apply goD tyOk mixed 1 [1, 4, 7] [0, 1, 2, 3, 5, 4, 6, 7, 8, 9, 10, 11, 12, 13] [_] (by kernel_rfl)) | (refine goD tyOk mixed 1 [1, 4, 7] [0, 1, 2, 3, 5, 4, 6, 7, 8, 9, 10, 11, 12, 13] [] (by kernel_rfl) ?_)) | exact T.z | fail) <;> try (show (_ : Prop); conv => whnf))
 all_goals (try dsimp only)
 (show RetL _ _ _; refine goR ?_)
 rfl
open Go.RowKit
theorem Ky.of (k : Ky) (h : k.ok = true) : k.s.length = 32 ∧ k.g.length = 16 ∧ 0 ≤ k.n ∧ k.n ≤ 4294967295 ∧ 0 ≤ k.b ∧ k.b ≤ 255 ∧ (k.d = 0 ∨ k.d = 1) := by
 simpa [Ky.ok] using h
theorem xorR_ok (key nonce b : List UInt8) (hk : key.length = 32) (hn : nonce.length = 12) (hb : b.length ≤ 4096) : xorR key nonce b = (xorL key nonce b, 0) := by
 unfold xorR
 rw [if_pos hk, if_pos ⟨hn, hb⟩]
theorem markH_len (k : Ky) (nonce h data : List UInt8) (hk : k.ok = true) (hn : nonce.length + h.length + data.length ≤ 4096) : (markH k nonce h data).length = 4 := by
 unfold markH shortR
 rw [if_pos (k.of hk).2.1, if_pos (by simp; omega)]
 simp
def sealL (k : Ky) (b n : Int) (data : List UInt8) : List UInt8 := headL (lowR b n) ++ xorL k.s (nonceL k n) (data ++ markH k (nonceL k n) (headL (lowR b n)) data)
def sealR (k : Ky) (b n : Int) (data : List UInt8) : List UInt8 × Int := if k.ok then (if bitsOk b && countOk n then (if dataOk data then (sealL k b n data, 0) else ([], 2)) else ([], 3)) else ([], 9)
theorem sealR_key {k : Ky} (b n : Int) (data : List UInt8) (h : k.ok = false) : sealR k b n data = ([], 9) := by simp [sealR, h]
theorem sealR_num {k : Ky} {b n : Int} (data : List UInt8) (h : k.ok = true) (h2 : (bitsOk b && countOk n) = false) : sealR k b n data = ([], 3) := by unfold sealR; rw [h, h2]; rfl
theorem sealR_size {k : Ky} {b n : Int} {data : List UInt8} (h : k.ok = true) (h2 : (bitsOk b && countOk n) = true) (h3 : dataOk data = false) : sealR k b n data = ([], 2) := by unfold sealR; rw [h, h2, h3]; rfl
theorem sealR_ok {k : Ky} {b n : Int} {data : List UInt8} (h : k.ok = true) (h2 : (bitsOk b && countOk n) = true) (h3 : dataOk data = true) : sealR k b n data = (sealL k b n data, 0) := by unfold sealR; rw [h, h2, h3]; rfl
theorem chk_key {k : Ky} (b n : Int) (h : k.ok = false) : chkR k b n = (0, 9) := by simp [chkR, h]
theorem chk_num {k : Ky} {b n : Int} (h : k.ok = true) (h2 : (bitsOk b && countOk n) = false) : chkR k b n = (0, 3) := by unfold chkR; rw [h, h2]; rfl
theorem chk_ok {k : Ky} {b n : Int} (h : k.ok = true) (h2 : (bitsOk b && countOk n) = true) : chkR k b n = (lowR b n, 0) := by unfold chkR; rw [h, h2]; rfl
def numV (u : List UInt8) : Int := 256 * ((u.getD 0 0).toNat : Int) + (u.getD 1 0).toNat - 32768
theorem numV_eq (u : List UInt8) : iarith .sub .i64 (iarith .add .i64 (IntKind.i64.wrap (IntKind.i64.wrap ((u.getD (Int.toNat 0 * 1) 0).toNat : Int) * 2 ^ min (Int.toNat 8) IntKind.i64.bits)) (IntKind.i64.wrap ((u.getD (Int.toNat 1 * 1) 0).toNat : Int))) 32768 = numV u := by
 have h0 := (u.getD 0 0).toNat_lt
 have h1 := (u.getD 1 0).toNat_lt
 show iarith .sub .i64 (iarith .add .i64 (IntKind.i64.wrap (IntKind.i64.wrap ((u.getD 0 0).toNat : Int) * 256)) (IntKind.i64.wrap ((u.getD 1 0).toNat : Int))) 32768 = numV u
 unfold numV
 generalize (u.getD 0 0).toNat = x at *
 generalize (u.getD 1 0).toNat = y at *
 (exact T.num)
theorem numV_get (u : List UInt8) : iarith .sub .i64 (256 * ((u.getD 0 0).toNat : Int) + (u.getD 1 0).toNat) 32768 = numV u := by
 have h0 := (u.getD 0 0).toNat_lt
 have h1 := (u.getD 1 0).toNat_lt
 unfold numV
 generalize (u.getD 0 0).toNat = x at *
 generalize (u.getD 1 0).toNat = y at *
 (exact T.num)
attribute [irreducible] numV
def numR (b : Int) (u : List UInt8) : Int × Int := if bitsOk b = true then (if u.length < 7 then (0, 5) else if 2054 < u.length ∨ numV u < 0 ∨ IntKind.i64.wrap (1 * 2 ^ min b.toNat IntKind.i64.bits) ≤ numV u then (0, 4) else (numV u, 0)) else (0, 3)
theorem number_c (b : Int) (u : List UInt8) : LSpec Tryz.prog gl 38 [iAV b, bv u] [] (fun _ => (.tup [iAV (numR b u).1, iAV (numR b u).2], [])) := by
 cases hbo : bitsOk b
 · have e : numR b u = (0, 3) := by simp [numR, hbo]
   rw [e]
   refine goW [] Tryz.func38 rfl ?_
   conv => whnf
   repeat' ((first | exact Nm.b 0 | (show LCall _ _ _ _ _ _; first | refine LCall.pure (hbo ▸ cbits_c b) ?_ | refine goE ?_) | refine T.s ?_ | ((first | apply goB | apply ABr.dec | apply ABr.gen) <;> intro h <;> try (exfalso; omega)) | refine LFresh.mk fun r => ?_ | (show SWpL _ _ _ _ _ _ _; first | (refine goD tyOk mixed 7 [] [0, 1, 2, 3, 4, 5, 6, 7, 8, 9, 10, 11] [] (by kernel_rfl) ?_)) | exact T.z | refine ⟨_, rfl, rfl, ?_⟩ | fail) <;> conv => whnf)
   all_goals (try dsimp only)
   (show RetL _ _ _; refine goR ?_)
   rfl
 · have hb0 : 0 ≤ b := by rcases bits_cases hbo with h | h | h | h | h <;> omega
   unfold numR
   rw [if_pos hbo]
   refine goW [] Tryz.func38 rfl ?_
   conv => whnf
   repeat' ((first | (show ABr (icmp .lss (iarith .sub .i64 _ _) _) _ _; dsimp only; rw [numV_eq u]; conv => whnf) | exact Nm.b 0 | (show LCall _ _ _ _ _ _; first | refine LCall.pure (hbo ▸ cbits_c b) ?_ | refine goE ?_) | refine T.s ?_ | ((first | apply goB | apply ABr.dec | apply ABr.gen) <;> intro h <;> try (exfalso; omega)) | refine LFresh.mk fun r => ?_ | (show SWpL _ _ _ _ _ _ _; first | (refine goD tyOk mixed 7 [] [0, 1, 2, 3, 4, 5, 6, 7, 8, 9, 10, 11] [] (by kernel_rfl) ?_)) | exact T.z | refine ⟨_, rfl, rfl, ?_⟩ | fail) <;> conv => whnf)
   all_goals (try dsimp only)
   all_goals
     generalize IntKind.i64.wrap (1 * 2 ^ min b.toNat IntKind.i64.bits) = W at *
     generalize numV u = V at *
     (show RetL _ _ _; refine goR ?_)
     (repeat first | rw [if_pos (by first | assumption | omega)] | rw [if_neg (by first | assumption | omega)])
     rfl
theorem rnumber_c (b : Int) (u : List UInt8) : LSpec Tryz.prog gl 47 [iAV b, bv u] [] (fun _ => (.tup [iAV (numR b u).1, iAV (numR b u).2], [])) := by
 cases hbo : bitsOk b
 · have e : numR b u = (0, 3) := by simp [numR, hbo]
   rw [e]
   refine goW [] Tryz.func47 rfl ?_
   conv => whnf
   repeat' ((first | (show LCall _ _ _ _ _ _; first | refine LCall.pure (hbo ▸ rbits_c b) ?_ | refine goE ?_) | refine T.s ?_ | ((first | apply goB | apply ABr.dec | apply ABr.gen) <;> intro h <;> try (exfalso; omega)) | refine LFresh.mk fun r => ?_ | exact T.z | refine ⟨_, rfl, rfl, ?_⟩ | fail) <;> conv => whnf)
   all_goals (try dsimp only)
   (show RetL _ _ _; refine goR ?_)
   rfl
 · have hb0 : 0 ≤ IntKind.u64.wrap b := by rw [IntKind.wrap_u64]; rcases bits_cases hbo with h | h | h | h | h <;> omega
   have hw : (IntKind.u64.wrap b).toNat = b.toNat := by rw [IntKind.wrap_u64]; rcases bits_cases hbo with h | h | h | h | h <;> omega
   unfold numR
   rw [if_pos hbo, ← hw]
   refine goW [] Tryz.func47 rfl ?_
   conv => whnf
   repeat' ((first | (show ABr (icmp .gtr _ _) _ _; dsimp only; rw [numV_get u]; conv => whnf) | (show LCall _ _ _ _ _ _; first | refine LCall.pure (hbo ▸ rbits_c b) ?_ | refine LCall.pure (get_c u (by omega)) ?_ | refine goE ?_) | refine T.s ?_ | ((first | apply goB | apply ABr.dec | apply ABr.gen) <;> intro h <;> try (exfalso; omega)) | refine LFresh.mk fun r => ?_ | exact T.z | refine ⟨_, rfl, rfl, ?_⟩ | fail) <;> conv => whnf)
   all_goals (try dsimp only)
   all_goals
     generalize IntKind.i64.wrap (1 * 2 ^ min (IntKind.u64.wrap b).toNat IntKind.i64.bits) = W at *
     generalize numV u = V at *
     (show RetL _ _ _; refine goR ?_)
     (repeat first | rw [if_pos (by first | assumption | omega)] | rw [if_neg (by first | assumption | omega)])
     rfl
open Go.RowKit
def openR (k : Ky) (b n : Int) (u : List UInt8) : List UInt8 × Int :=
 if k.ok then (if bitsOk b && countOk n then (if (numR b u).2 = 0 then (if (numR b u).1 = lowR b n then
   (if (xorL k.s (nonceL k n) (u.drop 2)).drop (u.length - 6) = markH k (nonceL k n) (headL (lowR b n)) ((xorL k.s (nonceL k n) (u.drop 2)).take (u.length - 6)) then ((xorL k.s (nonceL k n) (u.drop 2)).take (u.length - 6), 0) else ([], 6)) else ([], 6)) else ([], (numR b u).2)) else ([], 3)) else ([], 9)
theorem openR_key {k : Ky} (b n : Int) (u : List UInt8) (h : k.ok = false) : openR k b n u = ([], 9) := by simp [openR, h]
theorem openR_num {k : Ky} {b n : Int} (u : List UInt8) (h : k.ok = true) (h2 : (bitsOk b && countOk n) = false) : openR k b n u = ([], 3) := by unfold openR; rw [h, h2]; rfl
theorem openR_err {k : Ky} {b n : Int} {u : List UInt8} (h : k.ok = true) (h2 : (bitsOk b && countOk n) = true) (h3 : ¬ (numR b u).2 = 0) : openR k b n u = ([], (numR b u).2) := by unfold openR; rw [h, h2, if_neg h3]; rfl
theorem openR_sn {k : Ky} {b n : Int} {u : List UInt8} (h : k.ok = true) (h2 : (bitsOk b && countOk n) = true) (h3 : (numR b u).2 = 0) (h4 : ¬ (numR b u).1 = lowR b n) : openR k b n u = ([], 6) := by unfold openR; rw [h, h2, if_pos h3, if_neg h4]; rfl
theorem openR_ok {k : Ky} {b n : Int} {u : List UInt8} (h : k.ok = true) (h2 : (bitsOk b && countOk n) = true) (h3 : (numR b u).2 = 0) (h4 : (numR b u).1 = lowR b n) : openR k b n u = if (xorL k.s (nonceL k n) (u.drop 2)).drop (u.length - 6) = markH k (nonceL k n) (headL (lowR b n)) ((xorL k.s (nonceL k n) (u.drop 2)).take (u.length - 6)) then ((xorL k.s (nonceL k n) (u.drop 2)).take (u.length - 6), 0) else ([], 6) := by unfold openR; rw [h, h2, if_pos h3, if_pos h4]; rfl
theorem numR_ok {b : Int} {u : List UInt8} (h : (numR b u).2 = 0) : bitsOk b = true ∧ 7 ≤ u.length ∧ u.length ≤ 2054 ∧ (numR b u).1 = numV u ∧ 0 ≤ numV u ∧ numV u < IntKind.i64.wrap (1 * 2 ^ min b.toNat IntKind.i64.bits) := by
 unfold numR at *
 split at h
 · split at h
   · simp at h
   · split at h
     · simp at h
     · rename_i h1 h2 h3
       rw [if_pos h1, if_neg h2, if_neg h3]
       exact ⟨h1, by omega, by omega, rfl, by omega, by omega⟩
 · simp at h
theorem open_c (k : Ky) (b n : Int) (u : List UInt8) : LSpec Tryz.prog gl 40 [k.av, iAV b, iAV n, bv u] [] (fun _ => (be (openR k b n u), [])) := by
 have hc := checked_c (G := gl) k b n
 have hnum := number_c b u
 cases h1 : k.ok
 · rw [openR_key b n u h1]
   rw [chk_key b n h1] at hc
   refine goW [] Tryz.func40 rfl ?_
   conv => whnf
   repeat' ((first | exact Nm.b 0 | (show LCall _ _ _ _ _ _; first | refine LCall.pure (hc) ?_ | refine goE ?_) | refine T.s ?_ | ((first | apply goB | apply ABr.dec | apply ABr.gen) <;> intro h <;> try (exfalso; omega)) | refine LFresh.mk fun r => ?_ | (show SWpL _ _ _ _ _ _ _; first | (refine goD tyOk mixed 10 [] [0, 1, 2, 3, 4, 5, 6, 7, 8, 9, 10] [] (by kernel_rfl) ?_) | (refine goD tyOk mixed 12 [] [0, 1, 2, 3, 4, 5, 6, 7, 8, 9, 10, 11] [] (by kernel_rfl) ?_)) | (show (_ → _) ∧ (¬ _ → _); first | refine T.y ?_ | refine dec_both (fun h => ?_) (fun h => ?_)) | exact T.z | fail) <;> conv => whnf)
   all_goals (try dsimp only)
   exact RetL.frz [] (LF.tup ⟨LF.nils rfl rfl, LF.eq rfl, trivial⟩) LSub.nil
 · cases h2 : (bitsOk b && countOk n)
   · rw [openR_num u h1 h2]
     rw [chk_num h1 h2] at hc
     refine goW [] Tryz.func40 rfl ?_
     conv => whnf
     repeat' ((first | exact Nm.b 0 | (show LCall _ _ _ _ _ _; first | refine LCall.pure (hc) ?_ | refine goE ?_) | refine T.s ?_ | ((first | apply goB | apply ABr.dec | apply ABr.gen) <;> intro h <;> try (exfalso; omega)) | refine LFresh.mk fun r => ?_ | (show SWpL _ _ _ _ _ _ _; first | (refine goD tyOk mixed 10 [] [0, 1, 2, 3, 4, 5, 6, 7, 8, 9, 10] [] (by kernel_rfl) ?_) | (refine goD tyOk mixed 12 [] [0, 1, 2, 3, 4, 5, 6, 7, 8, 9, 10, 11] [] (by kernel_rfl) ?_)) | (show (_ → _) ∧ (¬ _ → _); first | refine T.y ?_ | refine dec_both (fun h => ?_) (fun h => ?_)) | exact T.z | fail) <;> conv => whnf)
     all_goals (try dsimp only)
     exact RetL.frz [] (LF.tup ⟨LF.nils rfl rfl, LF.eq rfl, trivial⟩) LSub.nil
   · rw [chk_ok h1 h2] at hc
     have hn : countOk n = true := by simp at h2; exact h2.2
     by_cases h3 : (numR b u).2 = 0
     · by_cases h4 : (numR b u).1 = lowR b n
       · rw [openR_ok h1 h2 h3 h4]
         obtain ⟨g1, g2, g3, g4, g5, g6⟩ := numR_ok h3
         have hN := nonceL_len k n
         rw [h3, h4] at hnum
         have hx := xor_c k.s (nonceL k n) (u.drop 2)
         rw [xorR_ok _ _ _ (k.of h1).1 hN (by simp; omega)] at hx
         have hP : (xorL k.s (nonceL k n) (u.drop 2)).length = u.length - 6 + 4 := by simp; omega
         have hd : (u.drop 2).length = u.length - 2 := by simp
         generalize xorL k.s (nonceL k n) (u.drop 2) = P at *
         generalize hm : u.length - 6 = m at *
         have hl : (P.take m).length = m := by simp; omega
         have hmk := mark_c (G := gl) k (nonceL k n) (P.take m) (lowR b n) (by omega) (by omega) (by omega)
         generalize markH k (nonceL k n) (headL (lowR b n)) (P.take m) = M at *
         have hi : (iarith .sub .i64 ((P.length : Nat) : Int) 4).toNat = m := by (exact T.num)
         have hi0 : 0 ≤ iarith .sub .i64 ((P.length : Nat) : Int) 4 := by (exact T.num)
         have hi1 : iarith .sub .i64 ((P.length : Nat) : Int) 4 ≤ P.length := by (exact T.num)
         clear g4 g5 g6 h3 h4
         refine goW [] Tryz.func40 rfl ?_
         conv => whnf
         repeat' ((first | exact Nm.b 0 | (show LCall _ _ _ _ _ _; first | refine LCall.pure (hc) ?_ | refine LCall.pure (hnum) ?_ | refine LCall.pure (cnonce_c k n h1 hn) ?_ | refine LCall.pure (hx) ?_ | refine LCall.pure (hmk) ?_ | refine LCall.pure (bequal_c _ _) ?_ | refine goE ?_) | (show AList _ _; first | (refine AList.tailE 2 ?_ ?_ ?_; (focus rfl); (focus (simp; omega))) | (refine AList.tailE m ?_ ?_ ?_; (focus (rw [hi, Nat.mul_one])); (focus (simp; omega))) | (refine AList.headE m ?_ ?_ ?_; (focus rfl); (focus (rw [hi] <;> simp)))) | refine T.s ?_ | ((first | apply goB | apply ABr.dec | apply ABr.gen) <;> intro h <;> try (exfalso; omega)) | refine LFresh.mk fun r => ?_ | (show SWpL _ _ _ _ _ _ _; first | (apply goD tyOk mixed 10 [] [0, 1, 2, 3, 4, 5, 6, 7, 8, 9, 10] [_] (by kernel_rfl)) | (refine goD tyOk mixed 10 [] [0, 1, 2, 3, 4, 5, 6, 7, 8, 9, 10] [] (by kernel_rfl) ?_) | (apply goD tyOk mixed 12 [] [0, 1, 2, 3, 4, 5, 6, 7, 8, 9, 10, 11] [_] (by kernel_rfl)) | (refine goD tyOk mixed 12 [] [0, 1, 2, 3, 4, 5, 6, 7, 8, 9, 10, 11] [] (by kernel_rfl) ?_)) | (show (_ → _) ∧ (¬ _ → _); first | refine T.y ?_ | refine dec_both (fun h => ?_) (fun h => ?_)) | exact T.z | fail) <;> try (show (_ : Prop); conv => whnf))
         all_goals (try dsimp only)
         · rw [if_pos (by assumption)]
           (show RetL _ _ _; refine goR ?_)
           refine congrArg (fun x => AV.tup [AV.sl x ((P.take m).map bAV), iAV 0]) ?_
           rw [hi, hl]
           rfl
         · rw [if_neg (by assumption)]
           exact RetL.frz [] (LF.tup ⟨LF.nils rfl rfl, LF.eq rfl, trivial⟩) LSub.nil
       · rw [openR_sn h1 h2 h3 h4]
         rw [h3] at hnum
         generalize (numR b u).1 = v at *
         refine goW [] Tryz.func40 rfl ?_
         conv => whnf
         repeat' ((first | exact Nm.b 0 | (show LCall _ _ _ _ _ _; first | refine LCall.pure (hc) ?_ | refine LCall.pure (hnum) ?_ | refine goE ?_) | refine T.s ?_ | ((first | apply goB | apply ABr.dec | apply ABr.gen) <;> intro h <;> try (exfalso; omega)) | refine LFresh.mk fun r => ?_ | (show SWpL _ _ _ _ _ _ _; first | (refine goD tyOk mixed 10 [] [0, 1, 2, 3, 4, 5, 6, 7, 8, 9, 10] [] (by kernel_rfl) ?_) | (refine goD tyOk mixed 12 [] [0, 1, 2, 3, 4, 5, 6, 7, 8, 9, 10, 11] [] (by kernel_rfl) ?_)) | (show (_ → _) ∧ (¬ _ → _); first | refine T.y ?_ | refine dec_both (fun h => ?_) (fun h => ?_)) | exact T.z | fail) <;> conv => whnf)
         all_goals (try dsimp only)
         exact RetL.frz [] (LF.tup ⟨LF.nils rfl rfl, LF.eq rfl, trivial⟩) LSub.nil
     · rw [openR_err h1 h2 h3]
       generalize (numR b u).1 = v at *
       generalize (numR b u).2 = w at *
       refine goW [] Tryz.func40 rfl ?_
       conv => whnf
       repeat' ((first | exact Nm.b 0 | (show LCall _ _ _ _ _ _; first | refine LCall.pure (hc) ?_ | refine LCall.pure (hnum) ?_ | refine goE ?_) | refine T.s ?_ | ((first | apply goB | apply ABr.dec | apply ABr.gen) <;> intro h <;> try (exfalso; omega)) | refine LFresh.mk fun r => ?_ | (show SWpL _ _ _ _ _ _ _; first | (refine goD tyOk mixed 10 [] [0, 1, 2, 3, 4, 5, 6, 7, 8, 9, 10] [] (by kernel_rfl) ?_) | (refine goD tyOk mixed 12 [] [0, 1, 2, 3, 4, 5, 6, 7, 8, 9, 10, 11] [] (by kernel_rfl) ?_)) | (show (_ → _) ∧ (¬ _ → _); first | refine T.y ?_ | refine dec_both (fun h => ?_) (fun h => ?_)) | exact T.z | fail) <;> conv => whnf)
       all_goals (try dsimp only)
       exact RetL.frz [] (LF.tup ⟨LF.nils rfl rfl, LF.eq rfl, trivial⟩) LSub.nil
open Go.RowKit
variable {G : Nat → AV}
theorem rtag_c (k : Ky) (nonce h data : List UInt8) (h1 : nonce.length ≤ 100) (h3 : h.length ≤ 100) (h2 : data.length ≤ 5000) : LSpec Tryz.prog G 57 [k.av, bv nonce, bv h, bv data] [] (fun _ => (bv (markH k nonce h data), [])) := by
 refine goW [] Tryz.func57 rfl ?_
 conv => whnf
 repeat' ((first | (show LEra _ _ _; conv => whnf) | (show _ = List.length (_ ++ _); simp only [List.length_append]; done) | (show _ = List.map _ (_ ++ _); simp only [List.map_append]; done) | (show LCall _ _ _ _ _ _; first | refine LCall.mk' (rshort_c k.g (nonce ++ h ++ data)) [_] ⟨LF.eq rfl, LF.rowF InL.here ?_, trivial⟩ ?_ | refine goE ?_) | refine T.s ?_ | ((first | apply goB | apply ABr.dec | apply ABr.gen) <;> intro h <;> try (exfalso; omega)) | refine LFresh.mk fun r => ?_ | exact T.z | fail) <;> conv => whnf)
 all_goals (try dsimp only)
 (show RetL _ _ _; refine goR ?_)
 rfl
theorem rtag_p (k : Ky) (nonce h data : List UInt8) (h1 : nonce.length ≤ 100) (h3 : h.length = 2) (h2 : data.length ≤ 5000) (p : Nm) : LSpec Tryz.prog G 57 [k.av, bv nonce, .vw p 0 2 1, bv data] [(p, ⟨5, h.map bAV⟩)] (fun _ => (bv (markH k nonce h data), [(p, ⟨5, h.map bAV⟩)])) := by
 refine goW [] Tryz.func57 rfl ?_
 conv => whnf
 repeat' ((first | (show LEra _ _ _; conv => whnf) | (show _ = List.length (_ ++ _); simp only [List.length_append, h3]; done) | (show _ = List.map _ (_ ++ _); simp only [List.map_append]; done) | (refine And.intro ?_ ?_; (focus (first | (rw [List.length_map, h3]; exact Nat.le_refl _) | exact T.kx | exact T.side))) | (show LCall _ _ _ _ _ _; first | refine LCall.mk' (rshort_c k.g (nonce ++ h ++ data)) [_] ⟨LF.eq rfl, LF.rowF InL.here ?_, trivial⟩ ?_ | refine goE ?_) | (show AList _ _; first | (refine AList.headE 2 ?_ ?_ ?_; (focus rfl); (focus rfl); rw [List.take_of_length_le (by omega)])) | refine T.s ?_ | ((first | apply goB | apply ABr.dec | apply ABr.gen) <;> intro h <;> try (exfalso; omega)) | refine LFresh.mk fun r => ?_ | exact T.z | fail) <;> conv => whnf)
 all_goals (try dsimp only)
 (show RetL _ _ _; refine goR ?_)
 rfl
theorem and_ff {a b : Bool} (h : (a && b) = false) : a = false ∨ (a = true ∧ b = false) := by
 cases a <;> simp_all
theorem rdata_no {data : List UInt8} (h : dataOk data = false) : data.length < 1 ∨ 2048 < data.length := by
 simp [dataOk] at h; omega
theorem rseal_c (k : Ky) (b n : Int) (data : List UInt8) : LSpec Tryz.prog gl 15 [k.av, iAV b, iAV n, bv data] [] (fun _ => (be (sealR k b n data), [])) := by
 cases h1 : k.ok
 · rw [sealR_key b n data h1]
   refine goW [] Tryz.func15 rfl ?_
   conv => whnf
   repeat' ((first | exact Nm.b 0 | (show LCall _ _ _ _ _ _; first | refine LCall.pure (h1 ▸ rvalid_c k) ?_ | refine goE ?_) | refine T.s ?_ | ((first | apply goB | apply ABr.dec | apply ABr.gen) <;> intro h <;> try (exfalso; omega)) | refine LFresh.mk fun r => ?_ | (show SWpL _ _ _ _ _ _ _; first | (refine goD tyOk mixed 10 [1, 8, 9] [0, 1, 2, 3, 4, 5, 6, 7, 8, 9, 10, 11, 12, 13, 14, 15] [] (by kernel_rfl) ?_)) | exact T.z | fail) <;> conv => whnf)
   all_goals (try dsimp only)
   exact RetL.frz [] (LF.tup ⟨LF.nils rfl rfl, LF.eq rfl, trivial⟩) LSub.nil
 · cases h2 : (bitsOk b && countOk n)
   · rw [sealR_num data h1 h2]
     rcases and_ff h2 with g | ⟨g, g2⟩
     · refine goW [] Tryz.func15 rfl ?_
       conv => whnf
       repeat' ((first | exact Nm.b 0 | (show LCall _ _ _ _ _ _; first | refine LCall.pure (h1 ▸ rvalid_c k) ?_ | refine LCall.pure (g ▸ rbits_c b) ?_ | refine LCall.pure (rcount_c n) ?_ | refine goE ?_) | refine T.s ?_ | ((first | apply goB | apply ABr.dec | apply ABr.gen) <;> intro h <;> try (exfalso; omega)) | refine LFresh.mk fun r => ?_ | (show SWpL _ _ _ _ _ _ _; first | (refine goD tyOk mixed 10 [1, 8, 9] [0, 1, 2, 3, 4, 5, 6, 7, 8, 9, 10, 11, 12, 13, 14, 15] [] (by kernel_rfl) ?_)) | exact T.z | fail) <;> conv => whnf)
       all_goals (try dsimp only)
       all_goals exact RetL.frz [] (LF.tup ⟨LF.nils rfl rfl, LF.eq rfl, trivial⟩) LSub.nil
     · refine goW [] Tryz.func15 rfl ?_
       conv => whnf
       repeat' ((first | exact Nm.b 0 | (show LCall _ _ _ _ _ _; first | refine LCall.pure (h1 ▸ rvalid_c k) ?_ | refine LCall.pure (g ▸ rbits_c b) ?_ | refine LCall.pure (g2 ▸ rcount_c n) ?_ | refine goE ?_) | refine T.s ?_ | ((first | apply goB | apply ABr.dec | apply ABr.gen) <;> intro h <;> try (exfalso; omega)) | refine LFresh.mk fun r => ?_ | (show SWpL _ _ _ _ _ _ _; first | (refine goD tyOk mixed 10 [1, 8, 9] [0, 1, 2, 3, 4, 5, 6, 7, 8, 9, 10, 11, 12, 13, 14, 15] [] (by kernel_rfl) ?_)) | exact T.z | fail) <;> conv => whnf)
       all_goals (try dsimp only)
       all_goals exact RetL.frz [] (LF.tup ⟨LF.nils rfl rfl, LF.eq rfl, trivial⟩) LSub.nil
   · obtain ⟨g, hn⟩ : bitsOk b = true ∧ countOk n = true := by simpa using h2
     cases h3 : dataOk data
     · rw [sealR_size h1 h2 h3]
       have hd := rdata_no h3
       refine goW [] Tryz.func15 rfl ?_
       conv => whnf
       repeat' ((first | exact Nm.b 0 | (show LCall _ _ _ _ _ _; first | refine LCall.pure (h1 ▸ rvalid_c k) ?_ | refine LCall.pure (g ▸ rbits_c b) ?_ | refine LCall.pure (hn ▸ rcount_c n) ?_ | refine goE ?_) | refine T.s ?_ | ((first | apply goB | apply ABr.dec | apply ABr.gen) <;> intro h <;> try (exfalso; omega)) | refine LFresh.mk fun r => ?_ | (show SWpL _ _ _ _ _ _ _; first | (refine goD tyOk mixed 10 [1, 8, 9] [0, 1, 2, 3, 4, 5, 6, 7, 8, 9, 10, 11, 12, 13, 14, 15] [] (by kernel_rfl) ?_)) | exact T.z | fail) <;> conv => whnf)
       all_goals (try dsimp only)
       all_goals exact RetL.frz [] (LF.tup ⟨LF.nils rfl rfl, LF.eq rfl, trivial⟩) LSub.nil
     · rw [sealR_ok h1 h2 h3]
       have hd : 1 ≤ data.length ∧ data.length ≤ 2048 := by simpa [dataOk] using h3
       have hN := nonceL_len k n
       have hM := markH_len k (nonceL k n) (headL (lowR b n)) data h1 (by simp; omega)
       have hb5 : 1 ≤ b ∧ b ≤ 32 := by rcases bits_cases g with h | h | h | h | h <;> omega
       have hlow := lowR_lt b n g hn
       have hput : LSpec Tryz.prog gl 44 [.nils, iAV 2, iAV (iarith .add .i64 32768 (lowR b n))] [] (fun q => (.vw q 0 2 1, [(q, ⟨5, (headL (lowR b n)).map bAV⟩)])) := by
         have e : iarith .add .i64 32768 (lowR b n) = 32768 + lowR b n := by (exact T.num)
         rw [e, headL_put _ hlow.1 hlow.2]
         exact put2n_c _
       unfold sealL
       have hmk := fun p => rtag_p (G := gl) k (nonceL k n) (headL (lowR b n)) data (by omega) (headL_len _) (by omega) p
       generalize markH k (nonceL k n) (headL (lowR b n)) data = M at *
       have hx := rxor_c k.s (nonceL k n) (data ++ M)
       rw [xorR_ok _ _ _ (k.of h1).1 hN (by simp; omega)] at hx
       clear hlow
       refine goW [] Tryz.func15 rfl ?_
       conv => whnf
       repeat' ((first | (show LEra _ _ _; conv => whnf) | (show _ = List.length (_ ++ _); simp only [List.length_append]; done) | (show _ = List.map _ (_ ++ _); simp only [List.map_append]; done) | exact Nm.b 0 | (show LCall _ _ _ _ _ _; first | refine LCall.pure (h1 ▸ rvalid_c k) ?_ | refine LCall.pure (g ▸ rbits_c b) ?_ | refine LCall.pure (hn ▸ rcount_c n) ?_ | refine LCall.pure (rlow_c b n hb5.1 hb5.2) ?_ | refine LCall.own (hput) ?_ | refine LCall.pure (rnonce_c k n h1 hn) ?_ | (apply LCall.upd (hmk _); (repeat first | refine goH ?_ | apply LHas.here | apply LHas.next); refine ⟨rfl, ?_⟩) | refine LCall.mk' (hx) [_] ⟨LF.eq rfl, LF.eq rfl, LF.rowF InL.here ?_, trivial⟩ ?_ | refine goE ?_) | refine T.s ?_ | ((first | apply goB | apply ABr.dec | apply ABr.gen) <;> intro h <;> try (exfalso; omega)) | refine LFresh.mk fun r => ?_ | (show SWpL _ _ _ _ _ _ _; first | (apply goD tyOk mixed 10 [1, 8, 9] [0, 1, 2, 3, 4, 5, 6, 7, 8, 9, 10, 11, 12, 13, 14, 15] [_] (by kernel_rfl)) | (refine goD tyOk mixed 10 [1, 8, 9] [0, 1, 2, 3, 4, 5, 6, 7, 8, 9, 10, 11, 12, 13, 14, 15] [] (by kernel_rfl) ?_)) | exact T.z | fail) <;> try (show (_ : Prop); conv => whnf))
       all_goals (try dsimp only)
       refine RetL.frz [r] (LF.tup ⟨LF.rowF InL.here ?_, LF.eq rfl, trivial⟩) ?_
       · apply LHas.here
         exact ⟨by rw [List.map_append], by simp⟩
       · apply LHas.here
         exact LSub.nil
theorem take2_of (u : List UInt8) (sn : Int) (hl : 2 ≤ u.length) (h : numV u = sn) (h0 : 0 ≤ sn) (h1 : sn < 512) : u.take 2 = headL sn := by
 rw [headL_put sn h0 h1, ← h]
 unfold numV
 rw [show (32768 : Int) + (256 * ((u.getD 0 0).toNat : Int) + (u.getD 1 0).toNat - 32768) = 256 * ((u.getD 0 0).toNat : Int) + (u.getD 1 0).toNat by omega, putB_two]
 match u, hl with
 | x :: y :: u, _ => rfl
theorem ropen_c (k : Ky) (b n : Int) (u : List UInt8) : LSpec Tryz.prog gl 49 [k.av, iAV b, iAV n, bv u] [] (fun _ => (be (openR k b n u), [])) := by
 have hnum := rnumber_c b u
 cases h1 : k.ok
 · rw [openR_key b n u h1]
   refine goW [] Tryz.func49 rfl ?_
   conv => whnf
   repeat' ((first | exact Nm.b 0 | (show LCall _ _ _ _ _ _; first | refine LCall.pure (h1 ▸ rvalid_c k) ?_ | refine goE ?_) | refine T.s ?_ | ((first | apply goB | apply ABr.dec | apply ABr.gen) <;> intro h <;> try (exfalso; omega)) | refine LFresh.mk fun r => ?_ | (show SWpL _ _ _ _ _ _ _; first | (refine goD tyOk mixed 11 [] [0, 1, 2, 3, 4, 5, 6, 7, 8, 9, 10] [] (by kernel_rfl) ?_) | (refine goD tyOk mixed 13 [] [0, 1, 2, 3, 4, 5, 6, 7, 8, 9, 10, 11, 12] [] (by kernel_rfl) ?_)) | (show (_ → _) ∧ (¬ _ → _); first | refine T.y ?_ | refine dec_both (fun h => ?_) (fun h => ?_)) | exact T.z | fail) <;> conv => whnf)
   all_goals (try dsimp only)
   exact RetL.frz [] (LF.tup ⟨LF.nils rfl rfl, LF.eq rfl, trivial⟩) LSub.nil
 · cases h2 : (bitsOk b && countOk n)
   · rw [openR_num u h1 h2]
     rcases and_ff h2 with g | ⟨g, g2⟩
     · refine goW [] Tryz.func49 rfl ?_
       conv => whnf
       repeat' ((first | exact Nm.b 0 | (show LCall _ _ _ _ _ _; first | refine LCall.pure (h1 ▸ rvalid_c k) ?_ | refine LCall.pure (g ▸ rbits_c b) ?_ | refine LCall.pure (rcount_c n) ?_ | refine goE ?_) | refine T.s ?_ | ((first | apply goB | apply ABr.dec | apply ABr.gen) <;> intro h <;> try (exfalso; omega)) | refine LFresh.mk fun r => ?_ | (show SWpL _ _ _ _ _ _ _; first | (refine goD tyOk mixed 11 [] [0, 1, 2, 3, 4, 5, 6, 7, 8, 9, 10] [] (by kernel_rfl) ?_) | (refine goD tyOk mixed 13 [] [0, 1, 2, 3, 4, 5, 6, 7, 8, 9, 10, 11, 12] [] (by kernel_rfl) ?_)) | (show (_ → _) ∧ (¬ _ → _); first | refine T.y ?_ | refine dec_both (fun h => ?_) (fun h => ?_)) | exact T.z | fail) <;> conv => whnf)
       all_goals (try dsimp only)
       all_goals exact RetL.frz [] (LF.tup ⟨LF.nils rfl rfl, LF.eq rfl, trivial⟩) LSub.nil
     · refine goW [] Tryz.func49 rfl ?_
       conv => whnf
       repeat' ((first | exact Nm.b 0 | (show LCall _ _ _ _ _ _; first | refine LCall.pure (h1 ▸ rvalid_c k) ?_ | refine LCall.pure (g ▸ rbits_c b) ?_ | refine LCall.pure (g2 ▸ rcount_c n) ?_ | refine goE ?_) | refine T.s ?_ | ((first | apply goB | apply ABr.dec | apply ABr.gen) <;> intro h <;> try (exfalso; omega)) | refine LFresh.mk fun r => ?_ | (show SWpL _ _ _ _ _ _ _; first | (refine goD tyOk mixed 11 [] [0, 1, 2, 3, 4, 5, 6, 7, 8, 9, 10] [] (by kernel_rfl) ?_) | (refine goD tyOk mixed 13 [] [0, 1, 2, 3, 4, 5, 6, 7, 8, 9, 10, 11, 12] [] (by kernel_rfl) ?_)) | (show (_ → _) ∧ (¬ _ → _); first | refine T.y ?_ | refine dec_both (fun h => ?_) (fun h => ?_)) | exact T.z | fail) <;> conv => whnf)
       all_goals (try dsimp only)
       all_goals exact RetL.frz [] (LF.tup ⟨LF.nils rfl rfl, LF.eq rfl, trivial⟩) LSub.nil
   · obtain ⟨g, hn⟩ : bitsOk b = true ∧ countOk n = true := by simpa using h2
     have hb5 : 1 ≤ b ∧ b ≤ 32 := by rcases bits_cases g with h | h | h | h | h <;> omega
     by_cases h3 : (numR b u).2 = 0
     · by_cases h4 : (numR b u).1 = lowR b n
       · rw [openR_ok h1 h2 h3 h4]
         obtain ⟨-, g2, g3, g4, g5, g6⟩ := numR_ok h3
         have hN := nonceL_len k n
         have hlow := lowR_lt b n g hn
         have htake := take2_of u (lowR b n) (by omega) (g4.symm.trans h4) hlow.1 hlow.2
         rw [h3, h4] at hnum
         have hx := rxor_c k.s (nonceL k n) (u.drop 2)
         rw [xorR_ok _ _ _ (k.of h1).1 hN (by simp; omega)] at hx
         have hP : (xorL k.s (nonceL k n) (u.drop 2)).length = u.length - 6 + 4 := by simp; omega
         have hd : (u.drop 2).length = u.length - 2 := by simp
         generalize xorL k.s (nonceL k n) (u.drop 2) = P at *
         generalize hm : u.length - 6 = m at *
         have hl : (P.take m).length = m := by simp; omega
         have hmk := rtag_c (G := gl) k (nonceL k n) (u.take 2) (P.take m) (by omega) (by simp; omega) (by omega)
         have e3 : markH k (nonceL k n) (u.take 2) (P.take m) = markH k (nonceL k n) (headL (lowR b n)) (P.take m) := by rw [htake]
         rw [e3] at hmk
         clear e3
         generalize markH k (nonceL k n) (headL (lowR b n)) (P.take m) = M at *
         have hi : (iarith .sub .i64 ((P.length : Nat) : Int) 4).toNat = m := by (exact T.num)
         have hi0 : 0 ≤ iarith .sub .i64 ((P.length : Nat) : Int) 4 := by (exact T.num)
         have hi1 : iarith .sub .i64 ((P.length : Nat) : Int) 4 ≤ P.length := by (exact T.num)
         clear g4 g5 g6 h3 h4 hlow htake
         refine goW [] Tryz.func49 rfl ?_
         conv => whnf
         repeat' ((first | exact Nm.b 0 | (refine And.intro ?_ ?_; (focus (first | (simp; omega) | exact T.kx | exact T.side))) | (show LCall _ _ _ _ _ _; first | refine LCall.pure (h1 ▸ rvalid_c k) ?_ | refine LCall.pure (g ▸ rbits_c b) ?_ | refine LCall.pure (hn ▸ rcount_c n) ?_ | refine LCall.pure (hnum) ?_ | refine LCall.pure (rlow_c b n hb5.1 hb5.2) ?_ | refine LCall.pure (rnonce_c k n h1 hn) ?_ | refine LCall.pure (hx) ?_ | refine LCall.pure (hmk) ?_ | refine LCall.pure (same_c _ _) ?_ | refine goE ?_) | (show AList _ _; first | (refine AList.tailE 2 ?_ ?_ ?_; (focus rfl); (focus (simp; omega))) | (refine AList.tailE m ?_ ?_ ?_; (focus (rw [hi, Nat.mul_one])); (focus (simp; omega))) | (refine AList.headE 2 ?_ ?_ ?_; (focus rfl); (focus rfl)) | (refine AList.headE m ?_ ?_ ?_; (focus rfl); (focus (rw [hi] <;> simp)))) | refine T.s ?_ | ((first | apply goB | apply ABr.dec | apply ABr.gen) <;> intro h <;> try (exfalso; omega)) | refine LFresh.mk fun r => ?_ | (show SWpL _ _ _ _ _ _ _; first | (apply goD tyOk mixed 11 [] [0, 1, 2, 3, 4, 5, 6, 7, 8, 9, 10] [_] (by kernel_rfl)) | (refine goD tyOk mixed 11 [] [0, 1, 2, 3, 4, 5, 6, 7, 8, 9, 10] [] (by kernel_rfl) ?_) | (apply goD tyOk mixed 13 [] [0, 1, 2, 3, 4, 5, 6, 7, 8, 9, 10, 11, 12] [_] (by kernel_rfl)) | (refine goD tyOk mixed 13 [] [0, 1, 2, 3, 4, 5, 6, 7, 8, 9, 10, 11, 12] [] (by kernel_rfl) ?_)) | (show (_ → _) ∧ (¬ _ → _); first | refine T.y ?_ | refine dec_both (fun h => ?_) (fun h => ?_)) | exact T.z | fail) <;> try (show (_ : Prop); conv => whnf))
         all_goals (try dsimp only)
         · rw [if_pos (by assumption)]
           refine RetL.frz [r] (LF.tup ⟨LF.rowF InL.here ?_, LF.eq rfl, trivial⟩) ?_
           · apply LHas.here
             exact ⟨rfl, by rw [hi, hl]; rfl⟩
           · apply LHas.here
             exact LSub.nil
         · rw [if_neg (by assumption)]
           exact RetL.frz [] (LF.tup ⟨LF.nils rfl rfl, LF.eq rfl, trivial⟩) LSub.nil
       · rw [openR_sn h1 h2 h3 h4]
         rw [h3] at hnum
         generalize (numR b u).1 = v at *
         refine goW [] Tryz.func49 rfl ?_
         conv => whnf
         repeat' ((first | exact Nm.b 0 | (show LCall _ _ _ _ _ _; first | refine LCall.pure (h1 ▸ rvalid_c k) ?_ | refine LCall.pure (g ▸ rbits_c b) ?_ | refine LCall.pure (hn ▸ rcount_c n) ?_ | refine LCall.pure (hnum) ?_ | refine LCall.pure (rlow_c b n hb5.1 hb5.2) ?_ | refine goE ?_) | refine T.s ?_ | ((first | apply goB | apply ABr.dec | apply ABr.gen) <;> intro h <;> try (exfalso; omega)) | refine LFresh.mk fun r => ?_ | (show SWpL _ _ _ _ _ _ _; first | (refine goD tyOk mixed 11 [] [0, 1, 2, 3, 4, 5, 6, 7, 8, 9, 10] [] (by kernel_rfl) ?_) | (refine goD tyOk mixed 13 [] [0, 1, 2, 3, 4, 5, 6, 7, 8, 9, 10, 11, 12] [] (by kernel_rfl) ?_)) | (show (_ → _) ∧ (¬ _ → _); first | refine T.y ?_ | refine dec_both (fun h => ?_) (fun h => ?_)) | exact T.z | fail) <;> conv => whnf)
         all_goals (try dsimp only)
         exact RetL.frz [] (LF.tup ⟨LF.nils rfl rfl, LF.eq rfl, trivial⟩) LSub.nil
     · rw [openR_err h1 h2 h3]
       generalize (numR b u).1 = v at *
       generalize (numR b u).2 = w at *
       refine goW [] Tryz.func49 rfl ?_
       conv => whnf
       repeat' ((first | exact Nm.b 0 | (show LCall _ _ _ _ _ _; first | refine LCall.pure (h1 ▸ rvalid_c k) ?_ | refine LCall.pure (g ▸ rbits_c b) ?_ | refine LCall.pure (hn ▸ rcount_c n) ?_ | refine LCall.pure (hnum) ?_ | refine goE ?_) | refine T.s ?_ | ((first | apply goB | apply ABr.dec | apply ABr.gen) <;> intro h <;> try (exfalso; omega)) | refine LFresh.mk fun r => ?_ | (show SWpL _ _ _ _ _ _ _; first | (refine goD tyOk mixed 11 [] [0, 1, 2, 3, 4, 5, 6, 7, 8, 9, 10] [] (by kernel_rfl) ?_) | (refine goD tyOk mixed 13 [] [0, 1, 2, 3, 4, 5, 6, 7, 8, 9, 10, 11, 12] [] (by kernel_rfl) ?_)) | (show (_ → _) ∧ (¬ _ → _); first | refine T.y ?_ | refine dec_both (fun h => ?_) (fun h => ?_)) | exact T.z | fail) <;> conv => whnf)
       all_goals (try dsimp only)
       exact RetL.frz [] (LF.tup ⟨LF.nils rfl rfl, LF.eq rfl, trivial⟩) LSub.nil
open Go.RowKit
variable {G : Nat → AV}
structure Ot where
 b : Int
 k : Ky
 n : Int
def Ot.av (o : Ot) : AV := .agg [iAV o.b, bv o.k.s, bv o.k.g, iAV o.k.n, iAV o.k.b, iAV o.k.d, iAV o.n]
def Ot.zero : Ot := ⟨0, ⟨[], [], 0, 0, 0⟩, 0⟩
def nextOk (n : Int) : Bool := decide (0 ≤ n ∧ n ≤ 1048576)
def Ot.ok (o : Ot) : Bool := bitsOk o.b && (o.k.ok && nextOk o.n)
attribute [irreducible] Ot.ok
theorem pclone_c (k : Ky) (hk : k.ok = true) : LSpec Tryz.prog G 37 [k.av] [] (fun _ => (k.av, [])) := by
 have h1 := (k.of hk).1
 have h2 := (k.of hk).2.1
 refine goW [] Tryz.func37 rfl ?_
 conv => whnf
 repeat' ((first | exact Nm.b 0 | (show LCall _ _ _ _ _ _; first | refine LCall.own (clone_c k.s (by omega) (by omega)) ?_ | refine LCall.own (clone_c k.g (by omega) (by omega)) ?_ | refine goE ?_) | refine T.s ?_ | ((first | apply goB | apply ABr.dec | apply ABr.gen) <;> intro h <;> try (exfalso; omega)) | refine LFresh.mk fun r => ?_ | (show SWpL _ _ _ _ _ _ _; first | (apply goD tyOk mixed 1 [4, 2] [0, 1, 3, 4, 2, 6, 5, 7, 8, 9] [_] (by kernel_rfl)) | (refine goD tyOk mixed 1 [4, 2] [0, 1, 3, 4, 2, 6, 5, 7, 8, 9] [] (by kernel_rfl) ?_)) | exact T.z | fail) <;> try (show (_ : Prop); conv => whnf))
 all_goals (try dsimp only)
 rename_i q
 refine RetL.frz [q, r] (LF.agg ⟨LF.rowF InL.here ?_, LF.rowF (InL.next InL.here) ?_, LF.eq rfl, LF.eq rfl, LF.eq rfl, trivial⟩) ?_
 · (repeat first | refine goH ?_ | apply LHas.here | apply LHas.next)
   exact ⟨rfl, rfl⟩
 · (repeat first | refine goH ?_ | apply LHas.here | apply LHas.next)
   exact ⟨rfl, rfl⟩
 · (repeat first | refine goH ?_ | apply LHas.here | apply LHas.next)
   try (show LHas _ _ _; (repeat first | refine goH ?_ | apply LHas.here | apply LHas.next))
   exact LSub.nil
theorem rcopy_c (k : Ky) (hk : k.ok = true) : LSpec Tryz.prog G 59 [k.av] [] (fun _ => (k.av, [])) := by
 have h1 := (k.of hk).1
 have h2 := (k.of hk).2.1
 refine goW [] Tryz.func59 rfl ?_
 conv => whnf
 repeat' ((first | refine T.s ?_ | ((first | apply goB | apply ABr.dec | apply ABr.gen) <;> intro h <;> try (exfalso; omega)) | refine LFresh.mk fun r => ?_ | exact T.z | fail) <;> conv => whnf)
 all_goals (try dsimp only)
 rename_i q
 refine RetL.frz [q, r] (LF.agg ⟨LF.rowF InL.here ?_, LF.rowF (InL.next InL.here) ?_, LF.eq rfl, LF.eq rfl, LF.eq rfl, trivial⟩) ?_
 · (repeat first | refine goH ?_ | apply LHas.here | apply LHas.next)
   exact ⟨rfl, rfl⟩
 · (repeat first | refine goH ?_ | apply LHas.here | apply LHas.next)
   exact ⟨rfl, rfl⟩
 · (repeat first | refine goH ?_ | apply LHas.here | apply LHas.next)
   try (show LHas _ _ _; (repeat first | refine goH ?_ | apply LHas.here | apply LHas.next))
   exact LSub.nil
theorem Ot.of (o : Ot) (h : o.ok = true) : bitsOk o.b = true ∧ o.k.ok = true ∧ 0 ≤ o.n ∧ o.n ≤ 1048576 := by
 simpa [Ot.ok, nextOk] using h
open Go.RowKit
variable {G : Nat → AV}
def sameK (a b : Ky) : Bool := decide (a.s = b.s ∧ a.g = b.g ∧ a.n = b.n ∧ a.b = b.b ∧ a.d = b.d)
theorem samekey_c (a b : Ky) : LSpec Tryz.prog G 61 [a.av, b.av] [] (fun _ => (.bool (sameK a b), [])) := by
 refine goW [] Tryz.func61 rfl ?_
 conv => whnf
 repeat' ((first | (show LCall _ _ _ _ _ _; first | refine LCall.pure (same_c _ _) ?_ | refine goE ?_) | refine T.s ?_ | ((first | apply goB | apply ABr.dec | apply ABr.gen) <;> intro h <;> try (exfalso; omega)) | refine LFresh.mk fun r => ?_ | exact T.z | fail) <;> conv => whnf)
 all_goals (try dsimp only)
 all_goals first
   | contradiction
   | ((show RetL _ _ _; refine goR ?_); refine congrArg AV.bool ?_; rw [Bool.eq_iff_iff]; simp [sameK, icmp, *])
attribute [irreducible] sameK
open Go.RowKit
def strB (key nonce : List UInt8) (i : Nat) : UInt8 := (blockL key ((i / 64 : Nat) : Int) nonce).getD (i % 64) 0
theorem xorQ_map (key nonce b : List UInt8) (i : Nat) : xorQ key nonce b i = (List.range i).map fun j => b.getD j 0 ^^^ strB key nonce j := by
 induction i with
 | zero => rw [xorQ_zero]; rfl
 | succ i ih => rw [xorQ_succ, ih, List.range_succ, List.map_append]; rfl
theorem xorL_map (key nonce b : List UInt8) : xorL key nonce b = (List.range b.length).map fun j => b.getD j 0 ^^^ strB key nonce j := by
 unfold xorL
 exact xorQ_map _ _ _ _
theorem xorL_xorL (key nonce b : List UInt8) : xorL key nonce (xorL key nonce b) = b := by
 have hl : (xorL key nonce b).length = b.length := xorL_len _ _ _
 rw [xorL_map key nonce (xorL key nonce b), hl]
 apply List.ext_getElem
 · simp
 · intro i h1 h2
   simp only [List.length_map, List.length_range] at h1
   simp only [List.getElem_map, List.getElem_range]
   rw [xorL_map]
   simp only [List.getD_eq_getElem?_getD]
   rw [List.getElem?_map, List.getElem?_range h1]
   simp only [Option.map_some, Option.getD_some]
   rw [List.getElem?_eq_getElem h2, Option.getD_some, UInt8.xor_assoc, UInt8.xor_self, UInt8.xor_zero]
theorem headL_num (sn : Int) (h0 : 0 ≤ sn) (h1 : sn < 512) (r : List UInt8) : numV (headL sn ++ r) = sn := by
 have h : ∀ m : Nat, m < 512 → 256 * (((headL ((m : Nat) : Int)).getD 0 0).toNat : Int) + ((headL ((m : Nat) : Int)).getD 1 0).toNat - 32768 = (m : Int) := by decide +kernel
 have h2 := h sn.toNat (by omega)
 rw [show ((sn.toNat : Nat) : Int) = sn by omega] at h2
 unfold numV
 have e : ∀ i, i < 2 → (headL sn ++ r).getD i 0 = (headL sn).getD i 0 := fun i hi => by
   simp only [List.getD_eq_getElem?_getD]
   rw [List.getElem?_append_left (by rw [headL_len]; exact hi)]
 rw [e 0 (by omega), e 1 (by omega)]
 exact h2
theorem lowR_pow (b n : Int) (hb : bitsOk b = true) (hn : countOk n = true) : lowR b n < IntKind.i64.wrap (1 * 2 ^ min b.toNat IntKind.i64.bits) := by
 rw [lowR_eq b n hb hn]
 rcases bits_cases hb with rfl | rfl | rfl | rfl | rfl
 · show n % 32 < 32; omega
 · show n % 64 < 64; omega
 · show n % 128 < 128; omega
 · show n % 256 < 256; omega
 · show n % 512 < 512; omega
theorem sealL_len (k : Ky) (b n : Int) (data : List UInt8) (hk : k.ok = true) (hd : dataOk data = true) : (sealL k b n data).length = data.length + 6 := by
 have hd : 1 ≤ data.length ∧ data.length ≤ 2048 := by simpa [dataOk] using hd
 unfold sealL
 rw [List.length_append, headL_len, xorL_len, List.length_append, markH_len _ _ _ _ hk (by rw [nonceL_len, headL_len]; omega)]
 omega
theorem num_seal (k : Ky) (b n : Int) (data : List UInt8) (hk : k.ok = true) (hb : bitsOk b = true) (hn : countOk n = true) (hd : dataOk data = true) : numR b (sealL k b n data) = (lowR b n, 0) := by
 have hl := sealL_len k b n data hk hd
 have hd : 1 ≤ data.length ∧ data.length ≤ 2048 := by simpa [dataOk] using hd
 have h := lowR_lt b n hb hn
 have hv : numV (sealL k b n data) = lowR b n := headL_num _ h.1 h.2 _
 have hp := lowR_pow b n hb hn
 unfold numR
 rw [hv, if_pos hb, if_neg (by omega), if_neg (by omega)]
theorem open_seal (k : Ky) (b n : Int) (data : List UInt8) (hk : k.ok = true) (hb : bitsOk b = true) (hn : countOk n = true) (hd : dataOk data = true) : openR k b n (sealL k b n data) = (data, 0) := by
 have hns := num_seal k b n data hk hb hn hd
 have hl := sealL_len k b n data hk hd
 rw [openR_ok hk (by rw [hb, hn]; rfl) (by rw [hns]) (by rw [hns]), hl]
 have e : (sealL k b n data).drop 2 = xorL k.s (nonceL k n) (data ++ markH k (nonceL k n) (headL (lowR b n)) data) := by
   unfold sealL
   rw [← headL_len (lowR b n), List.drop_left]
 rw [e, xorL_xorL, show data.length + 6 - 6 = data.length by omega, List.drop_left, List.take_left, if_pos rfl]
@[simp] theorem filled_len (n seed : Int) : (filled n seed).length = n.toNat := by simp [filled]
def awK : Ky := ⟨filled 32 1, filled 16 2, 0, 0, 0⟩
theorem awK_ok : awK.ok = true := by simp [awK, Ky.ok]
open Go.RowKit
variable {G : Nat → AV}
def oddR (t : List Int) (a : Nat) (k : Ky) : Ky :=
 if nextR t a 5 = 0 then { k with s := k.s.take (nextR t (adv t a 1) 32).toNat }
 else if nextR t a 5 = 1 then { k with g := k.g ++ [1] }
 else if nextR t a 5 = 2 then { k with n := [-1, 4294967296, 4294967295].getD (nextR t (adv t a 1) 3).toNat 0 }
 else if nextR t a 5 = 3 then { k with b := [-1, 255, 256].getD (nextR t (adv t a 1) 3).toNat 0 }
 else { k with d := iarith .sub .i64 (nextR t (adv t a 1) 4) 1 }
def oddA (t : List Int) (a : Nat) : Nat := if nextR t a 5 = 1 then adv t a 1 else adv t a 2
theorem doddkey_c (t : List Int) (a : Nat) (k : Ky) (hs : 32 ≤ k.s.length) (hg : k.g.length ≤ 4000) (ht : t.length ≤ 400) (p : Nm) : LSpec Tryz.prog G 30 [.ptr p 0, k.av] [(p, dice t a)] (fun _ => ((oddR t a k).av, [(p, dice t (oddA t a))])) := by
 have hb1 := nextR_lt t (nextA t a) 32 (by decide) (by decide)
 have hb2 := nextR_lt t (nextA t a) 3 (by decide) (by decide)
 refine goW [] Tryz.func30 rfl ?_
 conv => whnf
 repeat' ((first | exact Nm.b 0 | (show LCall _ _ _ _ _ _; first | (apply LCall.upd (next_c t _ _ ht _); (repeat first | refine goH ?_ | apply LHas.here | apply LHas.next); refine ⟨rfl, ?_⟩) | refine goE ?_) | (show ACell _ _ _; first | (refine ACell.elem (l := [-1, 4294967296, 4294967295]) (f := iAV) 0 ?_ ?_; (focus exact T.side)) | (refine ACell.elem (l := [-1, 255, 256]) (f := iAV) 0 ?_ ?_; (focus exact T.side))) | refine T.s ?_ | ((first | apply goB | apply ABr.dec | apply ABr.gen) <;> intro h <;> try (exfalso; omega)) | refine LFresh.mk fun r => ?_ | (show SWpL _ _ _ _ _ _ _; first | (apply goD tyOk mixed 4 [1, 3] [0, 1, 2, 3, 4, 5, 6] [_] (by kernel_rfl)) | (refine goD tyOk mixed 4 [1, 3] [0, 1, 2, 3, 4, 5, 6] [] (by kernel_rfl) ?_)) | (show (_ → _) ∧ (¬ _ → _); first | refine T.y ?_ | refine dec_both (fun h => ?_) (fun h => ?_)) | exact T.z | fail) <;> try (show (_ : Prop); conv => whnf))
 all_goals (try dsimp only)
 · (refine RetL.val ?_ ?_; rotate_left; (focus ((repeat' first | exact LSub.nil | (with_reducible exact LSub.refl) | (apply LSub.cons; (repeat first | refine goH ?_ | apply LHas.here | apply LHas.next); refine And.intro ?_ ?_; (focus (try (first | (with_reducible rfl) | (refine congrArg (Pl.mk _) ?_; (first | rfl | (simp; done))) | rfl | (with_reducible refine congrArg (Pl.mk _) ?_)))))))))
   · simp [oddA, h, adv]
   · have hl : (nextR t (nextA t a) 32).toNat ≤ k.s.length := by omega
     simp [oddR, h, Ky.av, bv, adv, iAV, Nat.min_eq_left hl]
 · refine RetL.frz [r] (LF.agg ⟨LF.eq ?_, LF.row InL.here ?_, LF.eq ?_, LF.eq ?_, LF.eq ?_, trivial⟩) ?_
   · simp [oddR, h, bv]
   · apply LHas.here
     simp [oddR, h, bAV]
   · simp [oddR, h, iAV]
   · simp [oddR, h, iAV]
   · simp [oddR, h, iAV]
   · apply LHas.here
     (repeat' first | exact LSub.nil | (with_reducible exact LSub.refl) | (apply LSub.cons; (repeat first | refine goH ?_ | apply LHas.here | apply LHas.next); refine And.intro ?_ ?_; (focus (try (first | (with_reducible rfl) | (refine congrArg (Pl.mk _) ?_; (first | rfl | (simp; done))) | rfl | (with_reducible refine congrArg (Pl.mk _) ?_))))))
     simp [oddA, h, adv]
 · (refine RetL.val ?_ ?_; rotate_left; (focus ((repeat' first | exact LSub.nil | (with_reducible exact LSub.refl) | (apply LSub.cons; (repeat first | refine goH ?_ | apply LHas.here | apply LHas.next); refine And.intro ?_ ?_; (focus (try (first | (with_reducible rfl) | (refine congrArg (Pl.mk _) ?_; (first | rfl | (simp; done))) | rfl | (with_reducible refine congrArg (Pl.mk _) ?_)))))))))
   · simp [oddA, h, adv]
   · simp [oddR, h, Ky.av, bv, adv, iAV]
 · (refine RetL.val ?_ ?_; rotate_left; (focus ((repeat' first | exact LSub.nil | (with_reducible exact LSub.refl) | (apply LSub.cons; (repeat first | refine goH ?_ | apply LHas.here | apply LHas.next); refine And.intro ?_ ?_; (focus (try (first | (with_reducible rfl) | (refine congrArg (Pl.mk _) ?_; (first | rfl | (simp; done))) | rfl | (with_reducible refine congrArg (Pl.mk _) ?_)))))))))
   · simp [oddA, h, adv]
   · simp [oddR, h, Ky.av, bv, adv, iAV]
 · (refine RetL.val ?_ ?_; rotate_left; (focus ((repeat' first | exact LSub.nil | (with_reducible exact LSub.refl) | (apply LSub.cons; (repeat first | refine goH ?_ | apply LHas.here | apply LHas.next); refine And.intro ?_ ?_; (focus (try (first | (with_reducible rfl) | (refine congrArg (Pl.mk _) ?_; (first | rfl | (simp; done))) | rfl | (with_reducible refine congrArg (Pl.mk _) ?_)))))))))
   · simp [oddA, *, adv]
   · simp [oddR, *, Ky.av, bv, adv, iAV]
open Go.RowKit
variable {G : Nat → AV}
def flip8 (c : UInt8) (n : Int) : UInt8 := b8 (ibits .xor .u8 c.toNat (IntKind.u8.wrap (1 * 2 ^ (min (IntKind.u64.wrap n).toNat 8))))
theorem bAV_flip (c : UInt8) (n : Int) : bAV (flip8 c n) = .int .u8 (ibits .xor .u8 c.toNat (IntKind.u8.wrap (1 * 2 ^ (min (IntKind.u64.wrap n).toNat 8)))) := by
 rw [flip8, bAV_b8]
 simp [ibits, IntKind.wrap_u8]
def spoilR (t : List Int) (a : Nat) (b : List UInt8) : List UInt8 :=
 if b.length = 0 then [b8 (nextR t a 256)]
 else if nextR t (adv t a 2) 4 = 0 then b.set (nextR t (adv t a 1) b.length).toNat (b8 (nextR t a 256))
 else if nextR t (adv t a 2) 4 = 1 then b.set (nextR t (adv t a 1) b.length).toNat (flip8 (b.getD (nextR t (adv t a 1) b.length).toNat 0) (nextR t (adv t a 3) 8))
 else if nextR t (adv t a 2) 4 = 2 then b.take (nextR t (adv t a 1) b.length).toNat ++ b.drop ((nextR t (adv t a 1) b.length).toNat + 1)
 else b.take (nextR t (adv t a 1) b.length).toNat ++ b8 (nextR t a 256) :: b.drop (nextR t (adv t a 1) b.length).toNat
def spoilA (t : List Int) (a : Nat) (b : List UInt8) : Nat := if b.length = 0 then adv t a 1 else if nextR t (adv t a 2) 4 = 1 then adv t a 4 else adv t a 3
theorem dspoil_c (t : List Int) (a : Nat) (b : List UInt8) (hl : b.length ≤ 3000) (ht : t.length ≤ 400) (p : Nm) : LSpec Tryz.prog G 28 [.ptr p 0, bv b] [(p, dice t a)] (fun _ => (bv (spoilR t a b), [(p, dice t (spoilA t a b))])) := by
 have hk : 0 < b.length → 0 ≤ nextR t (nextA t a) b.length ∧ nextR t (nextA t a) b.length < b.length := fun h => nextR_lt _ _ _ (by omega) (by omega)
 refine goW [] Tryz.func28 rfl ?_
 conv => whnf
 repeat' ((first | exact Nm.b 0 | (show LCall _ _ _ _ _ _; first | (apply LCall.upd (next_c t _ _ ht _); (repeat first | refine goH ?_ | apply LHas.here | apply LHas.next); refine ⟨rfl, ?_⟩) | refine goE ?_) | (show AList _ _; first | (refine AList.set (bAV_flip _ _).symm ?_ ?_; (focus (simp; omega)))) | refine T.s ?_ | ((first | apply goB | apply ABr.dec | apply ABr.gen) <;> intro h <;> try (exfalso; omega)) | refine LFresh.mk fun r => ?_ | (show SWpL _ _ _ _ _ _ _; first | (apply goD tyOk mixed 11 [3, 5] [0, 1, 2, 3, 4, 5, 6, 7, 8, 9, 10] [_] (by kernel_rfl)) | (refine goD tyOk mixed 11 [3, 5] [0, 1, 2, 3, 4, 5, 6, 7, 8, 9, 10] [] (by kernel_rfl) ?_) | (apply goD tyOk mixed 13 [] [0, 1, 2, 3, 4, 5, 6, 7, 8] [_] (by kernel_rfl)) | (refine goD tyOk mixed 13 [] [0, 1, 2, 3, 4, 5, 6, 7, 8] [] (by kernel_rfl) ?_) | (apply goD tyOk mixed 7 [] [0, 1, 2, 3, 5, 6, 7, 4, 8, 9, 10] [_] (by kernel_rfl)) | (refine goD tyOk mixed 7 [] [0, 1, 2, 3, 5, 6, 7, 4, 8, 9, 10] [] (by kernel_rfl) ?_)) | (show (_ → _) ∧ (¬ _ → _); first | refine T.y ?_ | refine dec_both (fun h => ?_) (fun h => ?_)) | exact T.z | refine ⟨_, rfl, rfl, ?_⟩ | fail) <;> try (show (_ : Prop); conv => whnf))
 all_goals (try dsimp only)
 · have h' : b.length = 0 := by omega
   (refine RetL.rowF ?_; (repeat first | refine goH ?_ | apply LHas.here | apply LHas.next); refine And.intro ?_ (And.intro ?_ ?_); rotate_left; rotate_left; (focus ((repeat' first | exact LSub.nil | (with_reducible exact LSub.refl) | (apply LSub.cons; (repeat first | refine goH ?_ | apply LHas.here | apply LHas.next); refine And.intro ?_ ?_; (focus (try (first | (with_reducible rfl) | (refine congrArg (Pl.mk _) ?_; (first | rfl | (simp; done))) | rfl | (with_reducible refine congrArg (Pl.mk _) ?_)))))))))
   · simp [spoilA, h', adv]
   · simp [spoilR, h', bAV_b8]
   · simp [spoilR, h']
 · have h0 : ¬ b.length = 0 := by omega
   have e : spoilR t a b = b.set (nextR t (nextA t a) b.length).toNat (b8 (nextR t a 256)) := by simp [spoilR, h0, h, adv]
   rw [e]
   (refine RetL.rowF ?_; (repeat first | refine goH ?_ | apply LHas.here | apply LHas.next); refine And.intro ?_ (And.intro ?_ ?_); rotate_left; rotate_left; (focus ((repeat' first | exact LSub.nil | (with_reducible exact LSub.refl) | (apply LSub.cons; (repeat first | refine goH ?_ | apply LHas.here | apply LHas.next); refine And.intro ?_ ?_; (focus (try (first | (with_reducible rfl) | (refine congrArg (Pl.mk _) ?_; (first | rfl | (simp; done))) | rfl | (with_reducible refine congrArg (Pl.mk _) ?_)))))))))
   · simp [spoilA, h0, h, adv]
   · simp
   · simp
 · have h0 : ¬ b.length = 0 := by omega
   have e : spoilR t a b = b.set (nextR t (nextA t a) b.length).toNat (flip8 (b.getD (nextR t (nextA t a) b.length).toNat 0) (nextR t (nextA t (nextA t (nextA t a))) 8)) := by simp [spoilR, h0, h, adv]
   rw [e]
   (refine RetL.rowF ?_; (repeat first | refine goH ?_ | apply LHas.here | apply LHas.next); refine And.intro ?_ (And.intro ?_ ?_); rotate_left; rotate_left; (focus ((repeat' first | exact LSub.nil | (with_reducible exact LSub.refl) | (apply LSub.cons; (repeat first | refine goH ?_ | apply LHas.here | apply LHas.next); refine And.intro ?_ ?_; (focus (try (first | (with_reducible rfl) | (refine congrArg (Pl.mk _) ?_; (first | rfl | (simp; done))) | rfl | (with_reducible refine congrArg (Pl.mk _) ?_)))))))))
   · simp [spoilA, h0, h, adv]
   · simp
   · simp
 · have h0 : ¬ b.length = 0 := by omega
   have hw : nextR t (nextA t (nextA t a)) 4 = 2 := by assumption
   have hk' := hk (by omega)
   have h2 : (iarith .add .i64 (nextR t (nextA t a) b.length) 1).toNat = (nextR t (nextA t a) b.length).toNat + 1 := by (exact T.num)
   have e : spoilR t a b = b.take (nextR t (nextA t a) b.length).toNat ++ b.drop ((nextR t (nextA t a) b.length).toNat + 1) := by simp [spoilR, h0, hw, adv]
   rw [e]
   (refine RetL.rowF ?_; (repeat first | refine goH ?_ | apply LHas.here | apply LHas.next); refine And.intro ?_ (And.intro ?_ ?_); rotate_left; rotate_left; (focus ((repeat' first | exact LSub.nil | (with_reducible exact LSub.refl) | (apply LSub.cons; (repeat first | refine goH ?_ | apply LHas.here | apply LHas.next); refine And.intro ?_ ?_; (focus (try (first | (with_reducible rfl) | (refine congrArg (Pl.mk _) ?_; (first | rfl | (simp; done))) | rfl | (with_reducible refine congrArg (Pl.mk _) ?_)))))))))
   · simp [spoilA, h0, hw, adv]
   · simp [h2, List.take_of_length_le]
   · simp [h2]; omega
 · have h0 : ¬ b.length = 0 := by omega
   have hw0 : ¬ nextR t (nextA t (nextA t a)) 4 = 0 := by assumption
   have hw1 : ¬ nextR t (nextA t (nextA t a)) 4 = 1 := by assumption
   have hw2 : ¬ nextR t (nextA t (nextA t a)) 4 = 2 := by assumption
   have hk' := hk (by omega)
   have e : spoilR t a b = b.take (nextR t (nextA t a) b.length).toNat ++ b8 (nextR t a 256) :: b.drop (nextR t (nextA t a) b.length).toNat := by simp [spoilR, h0, hw0, hw1, hw2, adv]
   rw [e]
   (refine RetL.rowF ?_; (repeat first | refine goH ?_ | apply LHas.here | apply LHas.next); refine And.intro ?_ (And.intro ?_ ?_); rotate_left; rotate_left; (focus ((repeat' first | exact LSub.nil | (with_reducible exact LSub.refl) | (apply LSub.cons; (repeat first | refine goH ?_ | apply LHas.here | apply LHas.next); refine And.intro ?_ ?_; (focus (try (first | (with_reducible rfl) | (refine congrArg (Pl.mk _) ?_; (first | rfl | (simp; done))) | rfl | (with_reducible refine congrArg (Pl.mk _) ?_)))))))))
   · simp [spoilA, h0, hw1, adv]
   · simp [bAV_b8, Nat.add_comm 1, List.take_of_length_le, List.take_append]
   · simp; omega
open Go.RowKit
theorem bitsR_ok (t : List Int) (a : Nat) : bitsOk (bitsR t a) = true := by
 have h := nextR_lt t a 4 (by decide) (by decide)
 unfold bitsR
 generalize nextR t a 4 = x at *
 have : x = 0 ∨ x = 1 ∨ x = 2 ∨ x = 3 := by omega
 rcases this with rfl | rfl | rfl | rfl <;> decide +kernel
open Go.RowKit
theorem iadd_in (a b : Int) (h : -9223372036854775808 ≤ a + b) (h2 : a + b < 9223372036854775808) : iarith .add .i64 a b = a + b := by (exact T.num)
open Go.RowKit
section
variable {α : Type} {f : α → List AV} {n : Nat}
theorem fm_len (hf : ∀ x, (f x).length = n) : ∀ l : List α, (l.flatMap f).length = l.length * n
 | [] => by simp
 | x :: l => by rw [List.flatMap_cons, List.length_append, fm_len hf l, hf, List.length_cons, Nat.succ_mul, Nat.add_comm]
theorem fm_drop (hf : ∀ x, (f x).length = n) : ∀ (l : List α) (i : Nat), (l.flatMap f).drop (i * n) = (l.drop i).flatMap f
 | _, 0 => by simp
 | [], i + 1 => by simp
 | x :: l, i + 1 => by
   rw [List.flatMap_cons, List.drop_append, hf, List.drop_of_length_le (by rw [hf, Nat.succ_mul]; omega), List.nil_append, show (i + 1) * n - n = i * n by rw [Nat.succ_mul]; omega, fm_drop hf l i]
   rfl
theorem fm_take (hf : ∀ x, (f x).length = n) : ∀ (l : List α) (i : Nat), (l.flatMap f).take (i * n) = (l.take i).flatMap f
 | _, 0 => by simp
 | [], i + 1 => by simp
 | x :: l, i + 1 => by
   rw [List.flatMap_cons, List.take_append, hf, List.take_of_length_le (by rw [hf, Nat.succ_mul]; omega), show (i + 1) * n - n = i * n by rw [Nat.succ_mul]; omega, fm_take hf l i]
   rfl
theorem drop_getD (l : List α) (i : Nat) (d : α) (h : i < l.length) : l.drop i = l.getD i d :: l.drop (i + 1) := by
 rw [List.drop_eq_getElem_cons h]
 simp [List.getD_eq_getElem?_getD, h]
theorem fm_at (hf : ∀ x, (f x).length = n) (l : List α) (i : Nat) (d : α) (h : i < l.length) : (l.flatMap f).drop (i * n) = f (l.getD i d) ++ (l.drop (i + 1)).flatMap f := by
 rw [fm_drop hf, drop_getD l i d h, List.flatMap_cons]
theorem ACell.recd {agg : Bool} {l : List α} {o m : Nat} {K : AV → Prop} (hf : ∀ x, (f x).length = n) (i : Nat) (d : α) (ho : o = i * n) (hm : m = n) (h : i < l.length) (k : K (mkv agg (f (l.getD i d)))) : ACell agg (((l.flatMap f).drop o).take m) K := ⟨by
 subst ho hm
 rw [fm_at hf l i d h, List.take_append_of_le_length (by rw [hf]; omega), List.take_of_length_le (by rw [hf]; omega)]
 exact k⟩
theorem ACell.fld {l : List α} {o m : Nat} {K : AV → Prop} (hf : ∀ x, (f x).length = n) (i j : Nat) (d : α) (v : AV) (ho : o = i * n + j) (hj : j + m ≤ n) (h : i < l.length) (hv : mkv false (((f (l.getD i d)).drop j).take m) = v) (k : K v) : ACell false (((l.flatMap f).drop o).take m) K := ⟨by
 subst ho
 rw [← List.drop_drop, fm_at hf l i d h, List.drop_append_of_le_length (by rw [hf]; omega), List.take_append_of_le_length (by simp [hf]; omega), hv]
 exact k⟩
end
theorem drop_behind {A B : List AV} {o k : Nat} (h : o = A.length) : (A ++ B).drop (o + k) = B.drop k := by subst h; rw [List.drop_append]; simp
theorem splice_behind {A B xs : List AV} {o k : Nat} (h : o = A.length) : splice (A ++ B) (o + k) xs = A ++ splice B k xs := by
 subst h
 unfold splice
 rw [List.take_append, List.take_of_length_le (by omega), Nat.add_assoc, List.drop_append, List.drop_of_length_le (by omega)]
 simp [List.append_assoc]
theorem ACell.behind {agg : Bool} {A B : List AV} {o k m : Nat} {K : AV → Prop} (h : o = A.length) (g : ACell agg ((B.drop k).take m) K) : ACell agg (((A ++ B).drop (o + k)).take m) K := ⟨by rw [drop_behind h]; exact g.go⟩
theorem AList.behind {A B xs : List AV} {o k : Nat} {K : List AV → Prop} (h : o = A.length) (g : AList (splice B k xs) fun cs => K (A ++ cs)) : AList (splice (A ++ B) (o + k) xs) K := ⟨by rw [splice_behind h]; exact g.go⟩
end Go.Proofs.YtnmifddidgofaaaGreatDoor
