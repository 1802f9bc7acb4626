import Derived.Test.YtdpfcpkedaolfaaDoorTag5
import Derived.Test.YtdpfcpkedaolfaaDoorSl1
namespace Go.Proofs.YtdpfcpkedaolfaaDoor
open Go.RowKit
set_option linter.all false
variable {G : Nat → AV}
/-- A call whose arguments in own places are read as data from here on. -/
theorem LCall.frzOne {P : Program} {f : FuncId} {args args' : List AV} {l : LS} {q : Nm} {r : AV} {K : AV → LS → Prop} (hs : LSpec P G f args' [] fun _ => (r, [])) (hF : LFs l [q] args args') (hk : LHas l q fun _ _ rest => K r rest) : LCall P G f args l K :=
  LCall.mk' hs [q] hF (LHas.mono hk fun _ _ _ h => ⟨fun _ => h⟩)
/-- A row of rows is lent for ever, with one row in it. -/
theorem LCall.rowsOwn {P : Program} {f : FuncId} {l : LS} {q p : Nm} {n m : Nat} {ds : List AV} {r : Nm → AV} {c : Nm → Pl} {K : AV → LS → Prop} (hs : LSpec P G f [.sl m ds] [] fun q => (r q, [(q, c q)]))
    (h : LHas l q fun cc _ rest => LFs l [q, p] cc.cs ds ∧ cc.cs.length = n ∧ m = n ∧ LHas rest p fun _ _ rest2 => LFresh fun x => K (r x) ((x, c x) :: rest2)) : LCall P G f [.vw q 0 n 1] l K := by
  obtain ⟨l1, cc, l2, rfl, h1, h2, rfl, h3⟩ := h.ex
  exact LCall.mk' hs [q, p] ⟨LF.rowN InL.here ⟨l1, cc, l2, rfl, by decide, by omega, rfl, h1⟩, trivial⟩ ⟨l1, cc, l2, rfl, LHas.mono h3 fun _ _ _ h => h⟩
theorem ibits_and (x n : Nat) (hn : n ≤ 32) (hx : x < 4611686018427387904) : ibits .and .i64 (x : Int) ((2 ^ n - 1 : Nat) : Int) = ((x % 2 ^ n : Nat) : Int) := by
  have hp : 2 ^ n ≤ 2 ^ 32 := Nat.pow_le_pow_right (by omega) hn
  have hq : 0 < 2 ^ n := Nat.pow_pos (by omega)
  show IntKind.i64.wrap ((BitVec.ofInt 64 (x : Int) &&& BitVec.ofInt 64 ((2 ^ n - 1 : Nat) : Int)).toNat : Int) = _
  have e : (BitVec.ofInt 64 (x : Int) &&& BitVec.ofInt 64 ((2 ^ n - 1 : Nat) : Int)).toNat = x % 2 ^ n := by
    rw [BitVec.toNat_and, BitVec.ofInt_natCast, BitVec.ofInt_natCast, BitVec.toNat_ofNat, BitVec.toNat_ofNat, Nat.mod_eq_of_lt (show x < 2 ^ 64 by omega), Nat.mod_eq_of_lt (show 2 ^ n - 1 < 2 ^ 64 by omega), Nat.and_two_pow_sub_one_eq_mod]
  rw [e]
  have h1 : x % 2 ^ n < 2 ^ n := Nat.mod_lt _ hq
  generalize x % 2 ^ n = y at *
  rw [IntKind.wrap_i64]
  omega
theorem bits_cases {b : Int} (h : bitsOk b = true) : b = 5 ∨ b = 6 ∨ b = 7 ∨ b = 8 ∨ b = 9 := by
  simp [bitsOk] at h; omega
theorem lowR_eq (b n : Int) (hb : bitsOk b = true) (hn : countOk n = true) : lowR b n = n % 2 ^ b.toNat := by
  simp [countOk] at hn
  obtain ⟨m, rfl⟩ : ∃ m : Nat, n = m := ⟨n.toNat, by omega⟩
  unfold lowR
  rcases bits_cases hb with rfl | rfl | rfl | rfl | rfl
  · exact ibits_and m 5 (by omega) (by omega)
  · exact ibits_and m 6 (by omega) (by omega)
  · exact ibits_and m 7 (by omega) (by omega)
  · exact ibits_and m 8 (by omega) (by omega)
  · exact ibits_and m 9 (by omega) (by omega)
theorem lowR_lt (b n : Int) (hb : bitsOk b = true) (hn : countOk n = true) : 0 ≤ lowR b n ∧ lowR b n < 512 := by
  rw [lowR_eq b n hb hn]
  rcases bits_cases hb with rfl | rfl | rfl | rfl | rfl
  · show 0 ≤ n % 32 ∧ n % 32 < 512; omega
  · show 0 ≤ n % 64 ∧ n % 64 < 512; omega
  · show 0 ≤ n % 128 ∧ n % 128 < 512; omega
  · show 0 ≤ n % 256 ∧ n % 256 < 512; omega
  · show 0 ≤ n % 512 ∧ n % 512 < 512; omega
/-- The first two bytes of a unit. -/
def headL (sn : Int) : List UInt8 := [b8 ((ibits .or .i64 32768 sn).fdiv (2 ^ min (Int.toNat 8) 64)), b8 sn]
@[simp] theorem headL_len (sn : Int) : (headL sn).length = 2 := rfl
theorem headL_put (sn : Int) (h0 : 0 ≤ sn) (h1 : sn < 512) : headL sn = putB (32768 + sn) 2 := by
  have h : ∀ m : Nat, m < 512 → headL ((m : Nat) : Int) = putB (32768 + ((m : Nat) : Int)) 2 := by decide +kernel
  have := h sn.toNat (by omega)
  rw [show ((sn.toNat : Nat) : Int) = sn by omega] at this
  exact this
theorem putB_two (x y : UInt8) : putB (256 * (x.toNat : Int) + y.toNat) 2 = [x, y] := by
  have hx := x.toNat_lt
  have hy := y.toNat_lt
  show [b8 ((256 * (x.toNat : Int) + y.toNat).fdiv (2 ^ 8)), b8 ((256 * (x.toNat : Int) + y.toNat).fdiv (2 ^ 0))] = [x, y]
  have e1 : (256 * (x.toNat : Int) + y.toNat).fdiv (2 ^ 8) = x.toNat := by
    rw [Int.fdiv_eq_ediv_of_nonneg _ (by decide)]; omega
  have e2 : (256 * (x.toNat : Int) + y.toNat).fdiv (2 ^ 0) = 256 * (x.toNat : Int) + y.toNat := by
    rw [Int.fdiv_eq_ediv_of_nonneg _ (by decide)]; simp
  rw [e1, e2, b8_toNat]
  have e3 : b8 (256 * (x.toNat : Int) + y.toNat) = y := by
    unfold b8
    rw [show ((256 * (x.toNat : Int) + y.toNat) % 256).toNat = y.toNat by omega]
    simp
  rw [e3]
attribute [irreducible] headL
def splitR (b n : Int) : Int × Int × Int := if bitsOk b && countOk n then (highR b n, lowR b n, 0) else (0, 0, 3)
theorem split_g (b n : Int) : LSpec Tryd.prog G 63 [iAV b, iAV n] [] (fun _ => (.tup [iAV (splitR b n).1, iAV (splitR b n).2.1, iAV (splitR b n).2.2], [])) := by
  cases h1 : bitsOk b
  · have e : splitR b n = (0, 0, 3) := by simp [splitR, h1]
    rw [e]
    refine LSpec.introL tyOk Tryd.func63 rfl (by kernel_rfl) (by simp) (fun q => ⟨by simp, by simp⟩) ?_
    refine AWpL.sound tyOk _ _ _ _ ?_
    conv => whnf
    repeat' first
      | (show LHas _ _ _; ((try show LHas _ _ _); repeat (with_reducible show LHas _ _ _); first | apply LHas.here | apply LHas.next); conv => whnf)
      | (refine And.intro ?_ ?_; (focus (first | exact T.side)); conv => whnf)
      | (show LCall _ _ _ _ _ _; first | (refine LCall.pure (cbits_c _) ?_; conv => whnf) | (refine LCall.pure (ccount_c _) ?_; conv => whnf) | (apply LCall.eq; (focus (repeat first | (apply cons_congr; (focus (first | exact sl_bv rfl | exact sl_bv (by first | (simp; done) | (simp; (exact T.num))) | exact rfl))) | exact rfl)); first | (refine LCall.pure (cbits_c _) ?_; conv => whnf) | (refine LCall.pure (ccount_c _) ?_; conv => whnf)))
      | (show ABr _ _ _; first | (refine ABr.tt ?_; conv => whnf) | (refine ABr.ff ?_; conv => whnf) | (refine ABr.byN ?_) | (refine ABr.byT (by with_reducible assumption) ?_; conv => whnf) | (refine ABr.byF (by with_reducible assumption) ?_; conv => whnf) | ((with_reducible refine ABr.decT rfl ?_); conv => whnf) | ((with_reducible refine ABr.decT (by assumption) ?_); conv => whnf) | ((with_reducible refine ABr.decF (by assumption) ?_); conv => whnf) | (refine ABr.dec (fun h => ?_) (fun h => ?_) <;> first | (exfalso; omega) | conv => whnf) | (refine ABr.gen (fun h => ?_) (fun h => ?_) <;> conv => whnf))
      | (show ACell _ _ _; first | (refine ACell.cell 0 ?_ ?_; (focus (first | exact T.side)); conv => whnf) | (refine ACell.mk ?_; conv => whnf))
      | (show AList _ _; first | (refine AList.app ?_ ?_; (focus (first | exact T.side)); conv => whnf) | (refine AList.set (x := b8 _) (bAV_b8 _).symm ?_ ?_; (focus (first | exact T.side)); conv => whnf) | (refine AList.set (f := iAV) rfl ?_ ?_; (focus (first | exact T.side)); conv => whnf) | (refine AList.part ?_; conv => whnf) | (refine AList.force ?_; (conv => whnf); refine Lit.mk ?_; conv => whnf) | (refine AList.full ?_ ?_; (focus (first | exact Nat.le_of_ble_eq_true rfl | (simp; done) | (simp; omega))); conv => whnf) | (refine AList.mk ?_; conv => whnf))
      | (refine LFresh.mk fun r => ?_; conv => whnf)
      | (show SWpL _ _ _ _ _ _ _; first | (apply SWpL.draw tyOk mixed (id := 3) [[], [], [0, 1], [], [], [4], [5, 4], [3, 6, 5, 4], [2, 0, 1], [7, 3, 6, 5, 4, 8, 2, 0, 1], [9, 7, 3, 6, 5, 4, 8, 2, 0, 1]] [] [0, 1, 2, 3, 4, 5, 6, 7, 8, 9, 10] [] (by kernel_rfl); conv => whnf))
      | (show KeepL _ _ _; first | (refine KeepL.cons ?_; ((try show LHas _ _ _); repeat (with_reducible show LHas _ _ _); first | apply LHas.here | apply LHas.next); ((try show LHas _ _ _); repeat (with_reducible show LHas _ _ _); first | apply LHas.here | apply LHas.next); refine And.intro rfl ?_) | exact KeepL.nil)
      | (show InL _ _; first | exact InL.here | refine InL.next ?_)
      | (show False; (exact T.num))
      | exact Nm.b 0
    all_goals (try dsimp only)
    (refine RetL.val ?_ ?_; rotate_left; (focus ((repeat' first | exact LSub.nil | (with_reducible exact LSub.refl) | (apply LSub.cons; ((try show LHas _ _ _); repeat (with_reducible show LHas _ _ _); first | apply LHas.here | apply LHas.next); refine And.intro ?_ ?_; (focus (try (first | (with_reducible rfl) | (refine congrArg (Pl.mk _) ?_; (first | rfl | (simp; done))) | rfl | (with_reducible refine congrArg (Pl.mk _) ?_)))))))))
    rfl
  · cases h2 : countOk n
    · have e : splitR b n = (0, 0, 3) := by simp [splitR, h1, h2]
      rw [e]
      refine LSpec.introL tyOk Tryd.func63 rfl (by kernel_rfl) (by simp) (fun q => ⟨by simp, by simp⟩) ?_
      refine AWpL.sound tyOk _ _ _ _ ?_
      conv => whnf
      repeat' first
        | (show LHas _ _ _; ((try show LHas _ _ _); repeat (with_reducible show LHas _ _ _); first | apply LHas.here | apply LHas.next); conv => whnf)
        | (refine And.intro ?_ ?_; (focus (first | exact T.side)); conv => whnf)
        | (show LCall _ _ _ _ _ _; first | (refine LCall.pure (cbits_c _) ?_; conv => whnf) | (refine LCall.pure (ccount_c _) ?_; conv => whnf) | (apply LCall.eq; (focus (repeat first | (apply cons_congr; (focus (first | exact sl_bv rfl | exact sl_bv (by first | (simp; done) | (simp; (exact T.num))) | exact rfl))) | exact rfl)); first | (refine LCall.pure (cbits_c _) ?_; conv => whnf) | (refine LCall.pure (ccount_c _) ?_; conv => whnf)))
        | (show ABr _ _ _; first | (refine ABr.tt ?_; conv => whnf) | (refine ABr.ff ?_; conv => whnf) | (refine ABr.byN ?_) | (refine ABr.byT (by with_reducible assumption) ?_; conv => whnf) | (refine ABr.byF (by with_reducible assumption) ?_; conv => whnf) | ((with_reducible refine ABr.decT rfl ?_); conv => whnf) | ((with_reducible refine ABr.decT (by assumption) ?_); conv => whnf) | ((with_reducible refine ABr.decF (by assumption) ?_); conv => whnf) | (refine ABr.dec (fun h => ?_) (fun h => ?_) <;> first | (exfalso; omega) | conv => whnf) | (refine ABr.gen (fun h => ?_) (fun h => ?_) <;> conv => whnf))
        | (show ACell _ _ _; first | (refine ACell.cell 0 ?_ ?_; (focus (first | exact T.side)); conv => whnf) | (refine ACell.mk ?_; conv => whnf))
        | (show AList _ _; first | (refine AList.app ?_ ?_; (focus (first | exact T.side)); conv => whnf) | (refine AList.set (x := b8 _) (bAV_b8 _).symm ?_ ?_; (focus (first | exact T.side)); conv => whnf) | (refine AList.set (f := iAV) rfl ?_ ?_; (focus (first | exact T.side)); conv => whnf) | (refine AList.part ?_; conv => whnf) | (refine AList.force ?_; (conv => whnf); refine Lit.mk ?_; conv => whnf) | (refine AList.full ?_ ?_; (focus (first | exact Nat.le_of_ble_eq_true rfl | (simp; done) | (simp; omega))); conv => whnf) | (refine AList.mk ?_; conv => whnf))
        | (refine LFresh.mk fun r => ?_; conv => whnf)
        | (show SWpL _ _ _ _ _ _ _; first | (apply SWpL.draw tyOk mixed (id := 3) [[], [], [0, 1], [], [], [4], [5, 4], [3, 6, 5, 4], [2, 0, 1], [7, 3, 6, 5, 4, 8, 2, 0, 1], [9, 7, 3, 6, 5, 4, 8, 2, 0, 1]] [] [0, 1, 2, 3, 4, 5, 6, 7, 8, 9, 10] [] (by kernel_rfl); conv => whnf))
        | (show KeepL _ _ _; first | (refine KeepL.cons ?_; ((try show LHas _ _ _); repeat (with_reducible show LHas _ _ _); first | apply LHas.here | apply LHas.next); ((try show LHas _ _ _); repeat (with_reducible show LHas _ _ _); first | apply LHas.here | apply LHas.next); refine And.intro rfl ?_) | exact KeepL.nil)
        | (show InL _ _; first | exact InL.here | refine InL.next ?_)
        | (show False; (exact T.num))
        | exact Nm.b 0
      all_goals (try dsimp only)
      (refine RetL.val ?_ ?_; rotate_left; (focus ((repeat' first | exact LSub.nil | (with_reducible exact LSub.refl) | (apply LSub.cons; ((try show LHas _ _ _); repeat (with_reducible show LHas _ _ _); first | apply LHas.here | apply LHas.next); refine And.intro ?_ ?_; (focus (try (first | (with_reducible rfl) | (refine congrArg (Pl.mk _) ?_; (first | rfl | (simp; done))) | rfl | (with_reducible refine congrArg (Pl.mk _) ?_)))))))))
      rfl
    · have e : splitR b n = (highR b n, lowR b n, 0) := by simp [splitR, h1, h2]
      rw [e]
      exact split_c b n (by simp [bitsOk] at h1; omega) (by simp [bitsOk] at h1; omega) (by simp [countOk] at h2; omega) (by simp [countOk] at h2; omega)
def chkR (k : Ky) (b n : Int) : Int × Int := if k.ok then (if bitsOk b && countOk n then (lowR b n, 0) else (0, 3)) else (0, 9)
theorem checked_c (k : Ky) (b n : Int) : LSpec Tryd.prog G 46 [k.av, iAV b, iAV n] [] (fun _ => (.tup [iAV (chkR k b n).1, iAV (chkR k b n).2], [])) := by
  have e1 : k.ok = true → chkR k b n = (splitR b n).2 := fun h => by
    unfold chkR splitR
    rw [if_pos h]
    split <;> rfl
  have e2 : k.ok = false → chkR k b n = (0, 9) := fun h => by
    unfold chkR
    rw [h]; rfl
  refine LSpec.introL tyOk Tryd.func46 rfl (by kernel_rfl) (by simp) (fun q => ⟨by simp, by simp⟩) ?_
  refine AWpL.sound tyOk _ _ _ _ ?_
  conv => whnf
  repeat' first
    | (show LHas _ _ _; ((try show LHas _ _ _); repeat (with_reducible show LHas _ _ _); first | apply LHas.here | apply LHas.next); conv => whnf)
    | (refine And.intro ?_ ?_; (focus (first | exact T.side)); conv => whnf)
    | (show LCall _ _ _ _ _ _; first | (refine LCall.pure (cvalid_c k) ?_; conv => whnf) | (refine LCall.pure (split_g b n) ?_; conv => whnf) | (apply LCall.eq; (focus (repeat first | (apply cons_congr; (focus (first | exact sl_bv rfl | exact sl_bv (by first | (simp; done) | (simp; (exact T.num))) | exact rfl))) | exact rfl)); first | (refine LCall.pure (cvalid_c k) ?_; conv => whnf) | (refine LCall.pure (split_g b n) ?_; conv => whnf)))
    | (show ABr _ _ _; first | (refine ABr.tt ?_; conv => whnf) | (refine ABr.ff ?_; conv => whnf) | (refine ABr.byN ?_) | (refine ABr.byT (by with_reducible assumption) ?_; conv => whnf) | (refine ABr.byF (by with_reducible assumption) ?_; conv => whnf) | ((with_reducible refine ABr.decT rfl ?_); conv => whnf) | ((with_reducible refine ABr.decT (by assumption) ?_); conv => whnf) | ((with_reducible refine ABr.decF (by assumption) ?_); conv => whnf) | (refine ABr.dec (fun h => ?_) (fun h => ?_) <;> first | (exfalso; omega) | conv => whnf) | (refine ABr.gen (fun h => ?_) (fun h => ?_) <;> conv => whnf))
    | (show ACell _ _ _; first | (refine ACell.cell 0 ?_ ?_; (focus (first | exact T.side)); conv => whnf) | (refine ACell.mk ?_; conv => whnf))
    | (show AList _ _; first | (refine AList.app ?_ ?_; (focus (first | exact T.side)); conv => whnf) | (refine AList.set (x := b8 _) (bAV_b8 _).symm ?_ ?_; (focus (first | exact T.side)); conv => whnf) | (refine AList.set (f := iAV) rfl ?_ ?_; (focus (first | exact T.side)); conv => whnf) | (refine AList.part ?_; conv => whnf) | (refine AList.force ?_; (conv => whnf); refine Lit.mk ?_; conv => whnf) | (refine AList.full ?_ ?_; (focus (first | exact Nat.le_of_ble_eq_true rfl | (simp; done) | (simp; omega))); conv => whnf) | (refine AList.mk ?_; conv => whnf))
    | (refine LFresh.mk fun r => ?_; conv => whnf)
    | (show KeepL _ _ _; first | (refine KeepL.cons ?_; ((try show LHas _ _ _); repeat (with_reducible show LHas _ _ _); first | apply LHas.here | apply LHas.next); ((try show LHas _ _ _); repeat (with_reducible show LHas _ _ _); first | apply LHas.here | apply LHas.next); refine And.intro rfl ?_) | exact KeepL.nil)
    | (show InL _ _; first | exact InL.here | refine InL.next ?_)
    | (show False; (exact T.num))
  all_goals (try dsimp only)
  · rw [e1 (by assumption)]
    (refine RetL.val ?_ ?_; rotate_left; (focus ((repeat' first | exact LSub.nil | (with_reducible exact LSub.refl) | (apply LSub.cons; ((try show LHas _ _ _); repeat (with_reducible show LHas _ _ _); first | apply LHas.here | apply LHas.next); refine And.intro ?_ ?_; (focus (try (first | (with_reducible rfl) | (refine congrArg (Pl.mk _) ?_; (first | rfl | (simp; done))) | rfl | (with_reducible refine congrArg (Pl.mk _) ?_)))))))))
    rfl
  · rw [e2 (by assumption)]
    (refine RetL.val ?_ ?_; rotate_left; (focus ((repeat' first | exact LSub.nil | (with_reducible exact LSub.refl) | (apply LSub.cons; ((try show LHas _ _ _); repeat (with_reducible show LHas _ _ _); first | apply LHas.here | apply LHas.next); refine And.intro ?_ ?_; (focus (try (first | (with_reducible rfl) | (refine congrArg (Pl.mk _) ?_; (first | rfl | (simp; done))) | rfl | (with_reducible refine congrArg (Pl.mk _) ?_)))))))))
    rfl
def dataOk (l : List UInt8) : Bool := decide (1 ≤ l.length ∧ l.length ≤ 2048)
theorem psized_c (l : List UInt8) : LSpec Tryd.prog G 47 [bv l] [] (fun _ => (.bool (dataOk l), [])) := by
  refine LSpec.introL tyOk Tryd.func47 rfl (by kernel_rfl) (by simp) (fun q => ⟨by simp, by simp⟩) ?_
  refine AWpL.sound tyOk _ _ _ _ ?_
  conv => whnf
  repeat' first
    | (show LHas _ _ _; ((try show LHas _ _ _); repeat (with_reducible show LHas _ _ _); first | apply LHas.here | apply LHas.next); conv => whnf)
    | (refine And.intro ?_ ?_; (focus (first | exact T.side)); conv => whnf)
    | (show ABr _ _ _; first | (refine ABr.tt ?_; conv => whnf) | (refine ABr.ff ?_; conv => whnf) | (refine ABr.byN ?_) | ((with_reducible refine ABr.leqT (by assumption) ?_); conv => whnf) | ((with_reducible refine ABr.leqF (by assumption) ?_); conv => whnf) | ((with_reducible refine ABr.leq (fun h => ?_) (fun h => ?_)) <;> first | (exfalso; omega) | conv => whnf) | ((with_reducible refine ABr.geqT (by assumption) ?_); conv => whnf) | ((with_reducible refine ABr.geqF (by assumption) ?_); conv => whnf) | ((with_reducible refine ABr.geq (fun h => ?_) (fun h => ?_)) <;> first | (exfalso; omega) | conv => whnf) | (refine ABr.byT (by with_reducible assumption) ?_; conv => whnf) | (refine ABr.byF (by with_reducible assumption) ?_; conv => whnf) | ((with_reducible refine ABr.decT rfl ?_); conv => whnf) | ((with_reducible refine ABr.decT (by assumption) ?_); conv => whnf) | ((with_reducible refine ABr.decF (by assumption) ?_); conv => whnf) | (refine ABr.dec (fun h => ?_) (fun h => ?_) <;> first | (exfalso; omega) | conv => whnf) | (refine ABr.gen (fun h => ?_) (fun h => ?_) <;> conv => whnf))
    | (show ACell _ _ _; first | (refine ACell.cell 0 ?_ ?_; (focus (first | exact T.side)); conv => whnf) | (refine ACell.mk ?_; conv => whnf))
    | (show AList _ _; first | (refine AList.app ?_ ?_; (focus (first | exact T.side)); conv => whnf) | (refine AList.set (x := b8 _) (bAV_b8 _).symm ?_ ?_; (focus (first | exact T.side)); conv => whnf) | (refine AList.set (f := iAV) rfl ?_ ?_; (focus (first | exact T.side)); conv => whnf) | (refine AList.part ?_; conv => whnf) | (refine AList.force ?_; (conv => whnf); refine Lit.mk ?_; conv => whnf) | (refine AList.full ?_ ?_; (focus (first | exact Nat.le_of_ble_eq_true rfl | (simp; done) | (simp; omega))); conv => whnf) | (refine AList.mk ?_; conv => whnf))
    | (refine LFresh.mk fun r => ?_; conv => whnf)
    | (show KeepL _ _ _; first | (refine KeepL.cons ?_; ((try show LHas _ _ _); repeat (with_reducible show LHas _ _ _); first | apply LHas.here | apply LHas.next); ((try show LHas _ _ _); repeat (with_reducible show LHas _ _ _); first | apply LHas.here | apply LHas.next); refine And.intro rfl ?_) | exact KeepL.nil)
    | (show InL _ _; first | exact InL.here | refine InL.next ?_)
    | (show False; (exact T.num))
  all_goals (try dsimp only)
  all_goals
    (refine RetL.val ?_ ?_; rotate_left; (focus ((repeat' first | exact LSub.nil | (with_reducible exact LSub.refl) | (apply LSub.cons; ((try show LHas _ _ _); repeat (with_reducible show LHas _ _ _); first | apply LHas.here | apply LHas.next); refine And.intro ?_ ?_; (focus (try (first | (with_reducible rfl) | (refine congrArg (Pl.mk _) ?_; (first | rfl | (simp; done))) | rfl | (with_reducible refine congrArg (Pl.mk _) ?_)))))))))
    refine congrArg AV.bool ?_
    rw [Bool.eq_iff_iff]
    simp [dataOk, icmp] <;> omega
theorem head_c (sn : Int) : LSpec Tryd.prog G 52 [iAV sn] [] (fun q => (.vw q 0 2 1, [(q, ⟨5, (headL sn).map bAV⟩)])) := by
  refine LSpec.introL tyOk Tryd.func52 rfl (by kernel_rfl) (by simp) (fun q => ⟨by simp, by simp⟩) ?_
  refine AWpL.sound tyOk _ _ _ _ ?_
  conv => whnf
  repeat' first
    | (show LHas _ _ _; ((try show LHas _ _ _); repeat (with_reducible show LHas _ _ _); first | apply LHas.here | apply LHas.next); conv => whnf)
    | (refine And.intro ?_ ?_; (focus (first | exact T.side)); conv => whnf)
    | (show ABr _ _ _; first | (refine ABr.tt ?_; conv => whnf) | (refine ABr.ff ?_; conv => whnf) | (refine ABr.byN ?_) | (refine ABr.byT (by with_reducible assumption) ?_; conv => whnf) | (refine ABr.byF (by with_reducible assumption) ?_; conv => whnf) | ((with_reducible refine ABr.decT rfl ?_); conv => whnf) | ((with_reducible refine ABr.decT (by assumption) ?_); conv => whnf) | ((with_reducible refine ABr.decF (by assumption) ?_); conv => whnf) | (refine ABr.dec (fun h => ?_) (fun h => ?_) <;> first | (exfalso; omega) | conv => whnf) | (refine ABr.gen (fun h => ?_) (fun h => ?_) <;> conv => whnf))
    | (show ACell _ _ _; first | (refine ACell.cell 0 ?_ ?_; (focus (first | exact T.side)); conv => whnf) | (refine ACell.mk ?_; conv => whnf))
    | (show AList _ _; first | (refine AList.app ?_ ?_; (focus (first | exact T.side)); conv => whnf) | (refine AList.set (x := b8 _) (bAV_b8 _).symm ?_ ?_; (focus (first | exact T.side)); conv => whnf) | (refine AList.set (f := iAV) rfl ?_ ?_; (focus (first | exact T.side)); conv => whnf) | (refine AList.part ?_; conv => whnf) | (refine AList.force ?_; (conv => whnf); refine Lit.mk ?_; conv => whnf) | (refine AList.full ?_ ?_; (focus (first | exact Nat.le_of_ble_eq_true rfl | (simp; done) | (simp; omega))); conv => whnf) | (refine AList.mk ?_; conv => whnf))
    | (refine LFresh.mk fun r => ?_; conv => whnf)
    | (show KeepL _ _ _; first | (refine KeepL.cons ?_; ((try show LHas _ _ _); repeat (with_reducible show LHas _ _ _); first | apply LHas.here | apply LHas.next); ((try show LHas _ _ _); repeat (with_reducible show LHas _ _ _); first | apply LHas.here | apply LHas.next); refine And.intro rfl ?_) | exact KeepL.nil)
    | (show InL _ _; first | exact InL.here | refine InL.next ?_)
    | (show False; (exact T.num))
    | (refine ⟨_, rfl, rfl, ?_⟩; conv => whnf)
  all_goals (try dsimp only)
  refine RetL.own r rfl ?_ ?_
  · ((try show LHas _ _ _); repeat (with_reducible show LHas _ _ _); first | apply LHas.here | apply LHas.next); trivial
  · apply LSub.cons
    ((try show LHas _ _ _); repeat (with_reducible show LHas _ _ _); first | apply LHas.here | apply LHas.next)
    refine And.intro (congrArg (Pl.mk _) ?_) LSub.nil
    unfold headL
    simp only [List.map_cons, List.map_nil, bAV_b8]
    rfl
/-- The short tag. -/
def markH (k : Ky) (nonce head data : List UInt8) : List UInt8 := (shortR k.g (nonce ++ head ++ data)).1
theorem mark_c (k : Ky) (nonce data : List UInt8) (sn : Int) (h0 : 0 < nonce.length) (h1 : nonce.length ≤ 100) (h2 : data.length ≤ 5000) : LSpec Tryd.prog G 51 [k.av, bv nonce, iAV sn, bv data] [] (fun _ => (bv (markH k nonce (headL sn) data), [])) := by
  refine LSpec.introL tyOk Tryd.func51 rfl (by kernel_rfl) (by simp) (fun q => ⟨by simp, by simp⟩) ?_
  refine AWpL.sound tyOk _ _ _ _ ?_
  conv => whnf
  repeat' first
    | (show LCall _ _ 50 _ _ _; apply LCall.rowsOwn (concat3_c nonce (headL sn) data h0 (by omega) (by simp) (by omega)); ((try show LHas _ _ _); repeat (with_reducible show LHas _ _ _); first | apply LHas.here | apply LHas.next); refine And.intro ⟨LF.eq rfl, LF.rowF (InL.next InL.here) ?_, LF.eq rfl, trivial⟩ ?_; (focus (((try show LHas _ _ _); repeat (with_reducible show LHas _ _ _); first | apply LHas.here | apply LHas.next); exact ⟨rfl, (headL_len sn).symm⟩)); conv => whnf)
    | (show LEra _ _ _; conv => whnf)
    | (show _ = List.length (_ ++ _); simp only [List.length_append]; done)
    | (show LHas _ _ _; ((try show LHas _ _ _); repeat (with_reducible show LHas _ _ _); first | apply LHas.here | apply LHas.next); conv => whnf)
    | (refine And.intro ?_ ?_; (focus (first | (simp; done) | exact T.side)); conv => whnf)
    | (show LCall _ _ _ _ _ _; first | (refine LCall.own (head_c sn) ?_; conv => whnf) | (refine LCall.mk' (short_c k.g (nonce ++ headL sn ++ data)) [_] ⟨LF.eq rfl, LF.rowF InL.here ?_, trivial⟩ ?_) | (apply LCall.eq; (focus (repeat first | (apply cons_congr; (focus (first | exact sl_bv rfl | exact sl_bv (by first | (simp; done) | (simp; (exact T.num))) | exact rfl))) | exact rfl)); first | (refine LCall.own (head_c sn) ?_; conv => whnf) | (refine LCall.mk' (short_c k.g (nonce ++ headL sn ++ data)) [_] ⟨LF.eq rfl, LF.rowF InL.here ?_, trivial⟩ ?_)))
    | (show ABr _ _ _; first | (refine ABr.tt ?_; conv => whnf) | (refine ABr.ff ?_; conv => whnf) | (refine ABr.byN ?_) | (refine ABr.byT (by with_reducible assumption) ?_; conv => whnf) | (refine ABr.byF (by with_reducible assumption) ?_; conv => whnf) | ((with_reducible refine ABr.decT rfl ?_); conv => whnf) | ((with_reducible refine ABr.decT (by assumption) ?_); conv => whnf) | ((with_reducible refine ABr.decF (by assumption) ?_); conv => whnf) | (refine ABr.dec (fun h => ?_) (fun h => ?_) <;> first | (exfalso; omega) | conv => whnf) | (refine ABr.gen (fun h => ?_) (fun h => ?_) <;> conv => whnf))
    | (show ACell _ _ _; first | (refine ACell.cell 0 ?_ ?_; (focus (first | exact T.side)); conv => whnf) | (refine ACell.mk ?_; conv => whnf))
    | (show AList _ _; first | (refine AList.app ?_ ?_; (focus (first | exact T.side)); conv => whnf) | (refine AList.set (x := b8 _) (bAV_b8 _).symm ?_ ?_; (focus (first | exact T.side)); conv => whnf) | (refine AList.set (f := iAV) rfl ?_ ?_; (focus (first | exact T.side)); conv => whnf) | (refine AList.part ?_; conv => whnf) | (refine AList.force ?_; (conv => whnf); refine Lit.mk ?_; conv => whnf) | (refine AList.full ?_ ?_; (focus (first | exact Nat.le_of_ble_eq_true rfl | (simp; done) | (simp; omega))); conv => whnf) | (refine AList.mk ?_; conv => whnf))
    | (refine LFresh.mk fun r => ?_; conv => whnf)
    | (show SWpL _ _ _ _ _ _ _; first | (apply SWpL.draw tyOk mixed (id := 1) [[], [0], [], [], [3], [], [2, 4, 3, 5], [6, 2, 4, 3, 5], [1, 0, 7, 6, 2, 4, 3, 5], [8, 1, 0, 7, 6, 2, 4, 3, 5], [9, 8, 1, 0, 7, 6, 2, 4, 3, 5], [9, 8, 1, 0, 7, 6, 2, 4, 3, 5], [10, 9, 8, 1, 0, 7, 6, 2, 4, 3, 5], [11, 9, 8, 1, 0, 7, 6, 2, 4, 3, 5, 12, 10]] [1, 4, 7] [0, 1, 2, 3, 5, 4, 6, 7, 8, 9, 10, 11, 12, 13] [_] (by kernel_rfl); conv => whnf) | (apply SWpL.draw tyOk mixed (id := 1) [[], [0], [], [], [3], [], [2, 4, 3, 5], [6, 2, 4, 3, 5], [1, 0, 7, 6, 2, 4, 3, 5], [8, 1, 0, 7, 6, 2, 4, 3, 5], [9, 8, 1, 0, 7, 6, 2, 4, 3, 5], [9, 8, 1, 0, 7, 6, 2, 4, 3, 5], [10, 9, 8, 1, 0, 7, 6, 2, 4, 3, 5], [11, 9, 8, 1, 0, 7, 6, 2, 4, 3, 5, 12, 10]] [1, 4, 7] [0, 1, 2, 3, 5, 4, 6, 7, 8, 9, 10, 11, 12, 13] [] (by kernel_rfl); conv => whnf))
    | (show KeepL _ _ _; first | (refine KeepL.cons ?_; ((try show LHas _ _ _); repeat (with_reducible show LHas _ _ _); first | apply LHas.here | apply LHas.next); ((try show LHas _ _ _); repeat (with_reducible show LHas _ _ _); first | apply LHas.here | apply LHas.next); refine And.intro rfl ?_) | exact KeepL.nil)
    | (show InL _ _; first | exact InL.here | refine InL.next ?_)
    | (show False; (exact T.num))
    | exact Nm.b 0
  all_goals (try dsimp only)
  (refine RetL.val ?_ ?_; rotate_left; (focus ((repeat' first | exact LSub.nil | (with_reducible exact LSub.refl) | (apply LSub.cons; ((try show LHas _ _ _); repeat (with_reducible show LHas _ _ _); first | apply LHas.here | apply LHas.next); refine And.intro ?_ ?_; (focus (try (first | (with_reducible rfl) | (refine congrArg (Pl.mk _) ?_; (first | rfl | (simp; done))) | rfl | (with_reducible refine congrArg (Pl.mk _) ?_)))))))))
  rfl
end Go.Proofs.YtdpfcpkedaolfaaDoor
