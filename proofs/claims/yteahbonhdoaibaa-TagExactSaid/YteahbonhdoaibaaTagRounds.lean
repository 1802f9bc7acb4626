/-
  The contracts of (*tag.state).rounds and of its reference: n rounds turn the four words of the block as 'rnds n' says, and change nothing else.
-/
import Derived.Test.YteahbonhdoaibaaRows
import Derived.Test.YteahbonhdoaibaaMem
import Derived.WalkKit
import Derived.WalkSpells
import Derived.WalkLawsBesides
import Derived.StillTailTactics
import Derived.Deep.DeepCutAuto
namespace Go.Proofs.Yteahbonhdoaibaa
open Go.RowKit

set_option maxHeartbeats 400000 in
theorem rot_any (x : UInt64) (n : Nat) (w : World) (h0 : 0 < n) (h1 : n < 64) :
    Calls Try.prog 22 #[.int .u64 (U x), .int .i64 n] w fun e w' => e = .returned (.int .u64 (U (rotl x n))) ∧ w = w' := by
  have h2 := and63 n h1
  have h3 := U_shl x n h1
  have h4 := U_shr x (64 - n) (by omega)
  have h5 := U_or
  go_enter Try.func22, Try.ntmps22
  go_wp2
  go_ret
  exact ⟨rfl, rfl⟩
theorem rot_still (x : UInt64) (n : Nat) (w : World) (h0 : 0 < n) (h1 : n < 64) :
    Calls Try.prog 22 #[.int .u64 (U x), .int .i64 n] w fun e w' => e = .returned (.int .u64 (U (rotl x n))) ∧ w' = w :=
  (rot_any x n w h0 h1).mono fun _ _ ⟨he, hw⟩ => ⟨he, hw.symm⟩
set_option maxHeartbeats 400000 in
theorem turn_any (x : UInt64) (n : Nat) (w : World) (h0 : 0 < n) (h1 : n < 64) :
    Calls Try.prog 23 #[.int .u64 (U x), .int .u64 n] w fun e w' => e = .returned (.int .u64 (U (rotl x n))) ∧ w = w' := by
  have h3 := U_shl x n h1
  have h4 := U_shr x (64 - n) (by omega)
  have h5 := U_or
  go_enter Try.func23, Try.ntmps23
  go_wp2
  go_ret
  exact ⟨rfl, rfl⟩
theorem turn_still (x : UInt64) (n : Nat) (w : World) (h0 : 0 < n) (h1 : n < 64) :
    Calls Try.prog 23 #[.int .u64 (U x), .int .u64 n] w fun e w' => e = .returned (.int .u64 (U (rotl x n))) ∧ w' = w :=
  (turn_any x n w h0 h1).mono fun _ _ ⟨he, hw⟩ => ⟨he, hw.symm⟩

set_option maxRecDepth 100000 in
set_option maxHeartbeats 4000000 in
theorem rounds_any (b : Nat) (s : W4) (n : Nat) (w : World) (hn : n ≤ 4) (hs : St 43 w b s) :
    Calls Try.prog 17 #[.pointer (some ⟨b, 0, none⟩), .int .i64 n] w fun e w' => e = .returned (.tuple #[]) ∧ St 43 w' b (rnds n s) ∧ On b w w' := by
  have ha := U_add
  have hx := U_xor
  have HS := Lib.hid hs; clear hs
  go_enter Try.func17, Try.ntmps17
  go_wp2
  go_loopw [5] (fun i wr => ∃ k : Nat, k ≤ n ∧ i = .int .i64 k ∧ St 43 wr b (rnds k s) ∧ On b w wr) (fun i _ => n - (intOf i).toNat)
  case atStart => exact ⟨0, by omega, rfl, HS.out, On.refl _ _⟩
  case round =>
    obtain ⟨k, hk, rfl, hs, ho⟩ := hrel
    clear HS
    have HO := Lib.hid ho; clear ho
    generalize hs1 : rnds k s = s1 at hs
    have HS1 := Lib.hid hs1; clear hs1
    by_cases hlt : k < n
    · have c0 := hs.c0; have c1 := hs.c1; have c2 := hs.c2; have c3 := hs.c3; have f := hs.f
      have HS := Lib.hid hs; clear hs
      go_upto_region 2 with (fail)
      go_cut [] (fun w' => St 43 w' b ⟨(s1.a + s1.b), s1.b, s1.c, s1.d⟩ ∧ On b wr w')
      case first =>
        go_region
        go_wp2
        go_meet
        case rel => exact ⟨(HS.out.set0 _).drew, ((On.refl _ _).set _).drew⟩
      case rest =>
        obtain ⟨hs, ho⟩ := hcut
        generalize wc = w1 at *
        have ho := HO.out.trans ho; clear HO HS; have HO := Lib.hid ho; clear ho
        generalize hx1 : s1.a + s1.b = x1 at hs
        have HX1 := Lib.hid hx1; clear hx1
        have c0 := hs.c0; have c1 := hs.c1; have c2 := hs.c2; have c3 := hs.c3; have f := hs.f
        have HS := Lib.hid hs; clear hs
        dsimp only at c0 c1 c2 c3
        go_upto_region 3 with (fail)
        go_cut [] (fun w' => St 43 w' b ⟨x1, (rotl s1.b 13 ^^^ x1), s1.c, s1.d⟩ ∧ On b w1 w')
        case first =>
          refine wp_region_still_tail 13 (by kernel_rfl) (by kernel_rfl) ?_
          simp only [List.take_succ_cons, List.take_zero, List.drop_succ_cons, List.drop_zero]
          repeat (first | still_step | still_call (rot_still _ 13 _ (by omega) (by omega)))
          refine wpStill_nil ?_
          change wpList _ _ _ _ _ w1.drew
          go_wp2
          go_meet
          case rel => exact ⟨(HS.out.set1 _).drew, ((On.refl _ _).set _).drew⟩
        case rest =>
          obtain ⟨hs, ho⟩ := hcut
          generalize wc = w2 at *
          have ho := HO.out.trans ho; clear HO HS; have HO := Lib.hid ho; clear ho
          generalize hx2 : rotl s1.b 13 ^^^ x1 = x2 at hs
          have HX2 := Lib.hid hx2; clear hx2
          have c0 := hs.c0; have c1 := hs.c1; have c2 := hs.c2; have c3 := hs.c3; have f := hs.f
          have HS := Lib.hid hs; clear hs
          dsimp only at c0 c1 c2 c3
          go_upto_region 4 with (fail)
          go_cut [] (fun w' => St 43 w' b ⟨(rotl x1 32), x2, s1.c, s1.d⟩ ∧ On b w2 w')
          case first =>
            go_wp2_with (go_at_call 22; refine (rot_any _ 32 _ (by omega) (by omega)).mono ?_; rintro e w' ⟨rfl, rfl⟩)
            go_meet
            case rel => exact ⟨HS.out.set0 _, (On.refl _ _).set _⟩
          case rest =>
            obtain ⟨hs, ho⟩ := hcut
            generalize wc = w3 at *
            have ho := HO.out.trans ho; clear HO HS; have HO := Lib.hid ho; clear ho
            generalize hx3 : rotl x1 32 = x3 at hs
            have HX3 := Lib.hid hx3; clear hx3
            have c0 := hs.c0; have c1 := hs.c1; have c2 := hs.c2; have c3 := hs.c3; have f := hs.f
            have HS := Lib.hid hs; clear hs
            dsimp only at c0 c1 c2 c3
            go_upto_region 5 with (fail)
            go_cut [] (fun w' => St 43 w' b ⟨x3, x2, (s1.c + s1.d), s1.d⟩ ∧ On b w3 w')
            case first =>
              go_region
              go_wp2
              go_meet
              case rel => exact ⟨(HS.out.set2 _).drew, ((On.refl _ _).set _).drew⟩
            case rest =>
              obtain ⟨hs, ho⟩ := hcut
              generalize wc = w4 at *
              have ho := HO.out.trans ho; clear HO HS; have HO := Lib.hid ho; clear ho
              generalize hx4 : s1.c + s1.d = x4 at hs
              have HX4 := Lib.hid hx4; clear hx4
              have c0 := hs.c0; have c1 := hs.c1; have c2 := hs.c2; have c3 := hs.c3; have f := hs.f
              have HS := Lib.hid hs; clear hs
              dsimp only at c0 c1 c2 c3
              go_upto_region 6 with (fail)
              go_cut [] (fun w' => St 43 w' b ⟨x3, x2, x4, (rotl s1.d 16 ^^^ x4)⟩ ∧ On b w4 w')
              case first =>
                refine wp_region_still_tail 13 (by kernel_rfl) (by kernel_rfl) ?_
                simp only [List.take_succ_cons, List.take_zero, List.drop_succ_cons, List.drop_zero]
                repeat (first | still_step | still_call (rot_still _ 16 _ (by omega) (by omega)))
                refine wpStill_nil ?_
                change wpList _ _ _ _ _ w4.drew
                go_wp2
                go_meet
                case rel => exact ⟨(HS.out.set3 _).drew, ((On.refl _ _).set _).drew⟩
              case rest =>
                obtain ⟨hs, ho⟩ := hcut
                generalize wc = w5 at *
                have ho := HO.out.trans ho; clear HO HS; have HO := Lib.hid ho; clear ho
                generalize hx5 : rotl s1.d 16 ^^^ x4 = x5 at hs
                have HX5 := Lib.hid hx5; clear hx5
                have c0 := hs.c0; have c1 := hs.c1; have c2 := hs.c2; have c3 := hs.c3; have f := hs.f
                have HS := Lib.hid hs; clear hs
                dsimp only at c0 c1 c2 c3
                go_upto_region 7 with (fail)
                go_cut [] (fun w' => St 43 w' b ⟨(x3 + x5), x2, x4, x5⟩ ∧ On b w5 w')
                case first =>
                  go_region
                  go_wp2
                  go_meet
                  case rel => exact ⟨(HS.out.set0 _).drew, ((On.refl _ _).set _).drew⟩
                case rest =>
                  obtain ⟨hs, ho⟩ := hcut
                  generalize wc = w6 at *
                  have ho := HO.out.trans ho; clear HO HS; have HO := Lib.hid ho; clear ho
                  generalize hx6 : x3 + x5 = x6 at hs
                  have HX6 := Lib.hid hx6; clear hx6
                  have c0 := hs.c0; have c1 := hs.c1; have c2 := hs.c2; have c3 := hs.c3; have f := hs.f
                  have HS := Lib.hid hs; clear hs
                  dsimp only at c0 c1 c2 c3
                  go_upto_region 8 with (fail)
                  go_cut [] (fun w' => St 43 w' b ⟨x6, x2, x4, (rotl x5 21 ^^^ x6)⟩ ∧ On b w6 w')
                  case first =>
                    refine wp_region_still_tail 13 (by kernel_rfl) (by kernel_rfl) ?_
                    simp only [List.take_succ_cons, List.take_zero, List.drop_succ_cons, List.drop_zero]
                    repeat (first | still_step | still_call (rot_still _ 21 _ (by omega) (by omega)))
                    refine wpStill_nil ?_
                    change wpList _ _ _ _ _ w6.drew
                    go_wp2
                    go_meet
                    case rel => exact ⟨(HS.out.set3 _).drew, ((On.refl _ _).set _).drew⟩
                  case rest =>
                    obtain ⟨hs, ho⟩ := hcut
                    generalize wc = w7 at *
                    have ho := HO.out.trans ho; clear HO HS; have HO := Lib.hid ho; clear ho
                    generalize hx7 : rotl x5 21 ^^^ x6 = x7 at hs
                    have HX7 := Lib.hid hx7; clear hx7
                    have c0 := hs.c0; have c1 := hs.c1; have c2 := hs.c2; have c3 := hs.c3; have f := hs.f
                    have HS := Lib.hid hs; clear hs
                    dsimp only at c0 c1 c2 c3
                    go_upto_region 9 with (fail)
                    go_cut [] (fun w' => St 43 w' b ⟨x6, x2, (x4 + x2), x7⟩ ∧ On b w7 w')
                    case first =>
                      go_region
                      go_wp2
                      go_meet
                      case rel => exact ⟨(HS.out.set2 _).drew, ((On.refl _ _).set _).drew⟩
                    case rest =>
                      obtain ⟨hs, ho⟩ := hcut
                      generalize wc = w8 at *
                      have ho := HO.out.trans ho; clear HO HS; have HO := Lib.hid ho; clear ho
                      generalize hx8 : x4 + x2 = x8 at hs
                      have HX8 := Lib.hid hx8; clear hx8
                      have c0 := hs.c0; have c1 := hs.c1; have c2 := hs.c2; have c3 := hs.c3; have f := hs.f
                      have HS := Lib.hid hs; clear hs
                      dsimp only at c0 c1 c2 c3
                      go_upto_region 10 with (fail)
                      go_cut [] (fun w' => St 43 w' b ⟨x6, (rotl x2 17 ^^^ x8), x8, x7⟩ ∧ On b w8 w')
                      case first =>
                        refine wp_region_still_tail 13 (by kernel_rfl) (by kernel_rfl) ?_
                        simp only [List.take_succ_cons, List.take_zero, List.drop_succ_cons, List.drop_zero]
                        repeat (first | still_step | still_call (rot_still _ 17 _ (by omega) (by omega)))
                        refine wpStill_nil ?_
                        change wpList _ _ _ _ _ w8.drew
                        go_wp2
                        go_meet
                        case rel => exact ⟨(HS.out.set1 _).drew, ((On.refl _ _).set _).drew⟩
                      case rest =>
                        obtain ⟨hs, ho⟩ := hcut
                        generalize wc = w9 at *
                        have ho := HO.out.trans ho; clear HO HS; have HO := Lib.hid ho; clear ho
                        generalize hx9 : rotl x2 17 ^^^ x8 = x9 at hs
                        have HX9 := Lib.hid hx9; clear hx9
                        have c0 := hs.c0; have c1 := hs.c1; have c2 := hs.c2; have c3 := hs.c3; have f := hs.f
                        have HS := Lib.hid hs; clear hs
                        dsimp only at c0 c1 c2 c3
                        go_wp2_with (go_at_call 22; refine (rot_any _ 32 _ (by omega) (by omega)).mono ?_; rintro e w' ⟨rfl, rfl⟩)
                        go_roundw
                        case rel =>
                          have hfin : (⟨x6, x9, (rotl x8 32), x7⟩ : W4) = rnds (k + 1) s := by
                            show _ = rnd (rnds k s)
                            rw [HS1.out]
                            simp only [rnd, HX1.out, HX2.out, HX3.out, HX4.out, HX5.out, HX6.out, HX7.out, HX8.out, HX9.out]
                          exact ⟨k + 1, by omega, by go_num, hfin ▸ HS.out.set2 _, HO.out.set _⟩
                        case measure => simp [intOf]; omega
    · have HS := Lib.hid hs; clear hs
      obtain rfl : n = k := by omega
      go_wp2
      go_end0
      exact ⟨rfl, HS1.out ▸ HS.out, HO.out⟩

set_option maxRecDepth 100000 in
set_option maxHeartbeats 4000000 in
theorem rrounds_any (b : Nat) (s : W4) (n : Nat) (w : World) (hn : n ≤ 4) (hs : St 48 w b s) :
    Calls Try.prog 20 #[.pointer (some ⟨b, 0, none⟩), .int .i64 n] w fun e w' => e = .returned (.tuple #[]) ∧ St 48 w' b (rnds n s) ∧ On b w w' := by
  have ha := U_add
  have hx := U_xor
  have HS := Lib.hid hs; clear hs
  go_enter Try.func20, Try.ntmps20
  go_wp2
  go_loopw [1] (fun i wr => ∃ k : Nat, k ≤ n ∧ i = .int .i64 ((n - k : Nat) : Int) ∧ St 48 wr b (rnds k s) ∧ On b w wr) (fun i _ => (intOf i).toNat)
  case atStart => exact ⟨0, by omega, rfl, HS.out, On.refl _ _⟩
  case round =>
    obtain ⟨k, hk, rfl, hs, ho⟩ := hrel
    clear HS
    have HO := Lib.hid ho; clear ho
    generalize hs1 : rnds k s = s1 at hs
    have HS1 := Lib.hid hs1; clear hs1
    by_cases hlt : k < n
    · have c0 := hs.c0; have c1 := hs.c1; have c2 := hs.c2; have c3 := hs.c3; have f := hs.f
      have HS := Lib.hid hs; clear hs
      have hlt2 : 0 < n - k := by omega
      go_upto_region 2 with (fail)
      go_cut [] (fun w' => St 48 w' b ⟨(s1.a + s1.b), s1.b, s1.c, s1.d⟩ ∧ On b wr w')
      case first =>
        go_region
        go_wp2
        go_meet
        case rel => exact ⟨(HS.out.set0 _).drew, ((On.refl _ _).set _).drew⟩
      case rest =>
        obtain ⟨hs, ho⟩ := hcut
        generalize wc = w1 at *
        have ho := HO.out.trans ho; clear HO HS; have HO := Lib.hid ho; clear ho
        generalize hx1 : s1.a + s1.b = x1 at hs
        have HX1 := Lib.hid hx1; clear hx1
        have c0 := hs.c0; have c1 := hs.c1; have c2 := hs.c2; have c3 := hs.c3; have f := hs.f
        have HS := Lib.hid hs; clear hs
        dsimp only at c0 c1 c2 c3
        go_upto_region 3 with (fail)
        go_cut [] (fun w' => St 48 w' b ⟨x1, (rotl s1.b 13 ^^^ x1), s1.c, s1.d⟩ ∧ On b w1 w')
        case first =>
          refine wp_region_still_tail 13 (by kernel_rfl) (by kernel_rfl) ?_
          simp only [List.take_succ_cons, List.take_zero, List.drop_succ_cons, List.drop_zero]
          repeat (first | still_step | still_call (turn_still _ 13 _ (by omega) (by omega)))
          refine wpStill_nil ?_
          change wpList _ _ _ _ _ w1.drew
          go_wp2
          go_meet
          case rel => exact ⟨(HS.out.set1 _).drew, ((On.refl _ _).set _).drew⟩
        case rest =>
          obtain ⟨hs, ho⟩ := hcut
          generalize wc = w2 at *
          have ho := HO.out.trans ho; clear HO HS; have HO := Lib.hid ho; clear ho
          generalize hx2 : rotl s1.b 13 ^^^ x1 = x2 at hs
          have HX2 := Lib.hid hx2; clear hx2
          have c0 := hs.c0; have c1 := hs.c1; have c2 := hs.c2; have c3 := hs.c3; have f := hs.f
          have HS := Lib.hid hs; clear hs
          dsimp only at c0 c1 c2 c3
          go_upto_region 4 with (fail)
          go_cut [] (fun w' => St 48 w' b ⟨(rotl x1 32), x2, s1.c, s1.d⟩ ∧ On b w2 w')
          case first =>
            go_wp2_with (go_at_call 23; refine (turn_any _ 32 _ (by omega) (by omega)).mono ?_; rintro e w' ⟨rfl, rfl⟩)
            go_meet
            case rel => exact ⟨HS.out.set0 _, (On.refl _ _).set _⟩
          case rest =>
            obtain ⟨hs, ho⟩ := hcut
            generalize wc = w3 at *
            have ho := HO.out.trans ho; clear HO HS; have HO := Lib.hid ho; clear ho
            generalize hx3 : rotl x1 32 = x3 at hs
            have HX3 := Lib.hid hx3; clear hx3
            have c0 := hs.c0; have c1 := hs.c1; have c2 := hs.c2; have c3 := hs.c3; have f := hs.f
            have HS := Lib.hid hs; clear hs
            dsimp only at c0 c1 c2 c3
            go_upto_region 5 with (fail)
            go_cut [] (fun w' => St 48 w' b ⟨x3, x2, (s1.c + s1.d), s1.d⟩ ∧ On b w3 w')
            case first =>
              go_region
              go_wp2
              go_meet
              case rel => exact ⟨(HS.out.set2 _).drew, ((On.refl _ _).set _).drew⟩
            case rest =>
              obtain ⟨hs, ho⟩ := hcut
              generalize wc = w4 at *
              have ho := HO.out.trans ho; clear HO HS; have HO := Lib.hid ho; clear ho
              generalize hx4 : s1.c + s1.d = x4 at hs
              have HX4 := Lib.hid hx4; clear hx4
              have c0 := hs.c0; have c1 := hs.c1; have c2 := hs.c2; have c3 := hs.c3; have f := hs.f
              have HS := Lib.hid hs; clear hs
              dsimp only at c0 c1 c2 c3
              go_upto_region 6 with (fail)
              go_cut [] (fun w' => St 48 w' b ⟨x3, x2, x4, (rotl s1.d 16 ^^^ x4)⟩ ∧ On b w4 w')
              case first =>
                refine wp_region_still_tail 13 (by kernel_rfl) (by kernel_rfl) ?_
                simp only [List.take_succ_cons, List.take_zero, List.drop_succ_cons, List.drop_zero]
                repeat (first | still_step | still_call (turn_still _ 16 _ (by omega) (by omega)))
                refine wpStill_nil ?_
                change wpList _ _ _ _ _ w4.drew
                go_wp2
                go_meet
                case rel => exact ⟨(HS.out.set3 _).drew, ((On.refl _ _).set _).drew⟩
              case rest =>
                obtain ⟨hs, ho⟩ := hcut
                generalize wc = w5 at *
                have ho := HO.out.trans ho; clear HO HS; have HO := Lib.hid ho; clear ho
                generalize hx5 : rotl s1.d 16 ^^^ x4 = x5 at hs
                have HX5 := Lib.hid hx5; clear hx5
                have c0 := hs.c0; have c1 := hs.c1; have c2 := hs.c2; have c3 := hs.c3; have f := hs.f
                have HS := Lib.hid hs; clear hs
                dsimp only at c0 c1 c2 c3
                go_upto_region 7 with (fail)
                go_cut [] (fun w' => St 48 w' b ⟨(x3 + x5), x2, x4, x5⟩ ∧ On b w5 w')
                case first =>
                  go_region
                  go_wp2
                  go_meet
                  case rel => exact ⟨(HS.out.set0 _).drew, ((On.refl _ _).set _).drew⟩
                case rest =>
                  obtain ⟨hs, ho⟩ := hcut
                  generalize wc = w6 at *
                  have ho := HO.out.trans ho; clear HO HS; have HO := Lib.hid ho; clear ho
                  generalize hx6 : x3 + x5 = x6 at hs
                  have HX6 := Lib.hid hx6; clear hx6
                  have c0 := hs.c0; have c1 := hs.c1; have c2 := hs.c2; have c3 := hs.c3; have f := hs.f
                  have HS := Lib.hid hs; clear hs
                  dsimp only at c0 c1 c2 c3
                  go_upto_region 8 with (fail)
                  go_cut [] (fun w' => St 48 w' b ⟨x6, x2, x4, (rotl x5 21 ^^^ x6)⟩ ∧ On b w6 w')
                  case first =>
                    refine wp_region_still_tail 13 (by kernel_rfl) (by kernel_rfl) ?_
                    simp only [List.take_succ_cons, List.take_zero, List.drop_succ_cons, List.drop_zero]
                    repeat (first | still_step | still_call (turn_still _ 21 _ (by omega) (by omega)))
                    refine wpStill_nil ?_
                    change wpList _ _ _ _ _ w6.drew
                    go_wp2
                    go_meet
                    case rel => exact ⟨(HS.out.set3 _).drew, ((On.refl _ _).set _).drew⟩
                  case rest =>
                    obtain ⟨hs, ho⟩ := hcut
                    generalize wc = w7 at *
                    have ho := HO.out.trans ho; clear HO HS; have HO := Lib.hid ho; clear ho
                    generalize hx7 : rotl x5 21 ^^^ x6 = x7 at hs
                    have HX7 := Lib.hid hx7; clear hx7
                    have c0 := hs.c0; have c1 := hs.c1; have c2 := hs.c2; have c3 := hs.c3; have f := hs.f
                    have HS := Lib.hid hs; clear hs
                    dsimp only at c0 c1 c2 c3
                    go_upto_region 9 with (fail)
                    go_cut [] (fun w' => St 48 w' b ⟨x6, x2, (x4 + x2), x7⟩ ∧ On b w7 w')
                    case first =>
                      go_region
                      go_wp2
                      go_meet
                      case rel => exact ⟨(HS.out.set2 _).drew, ((On.refl _ _).set _).drew⟩
                    case rest =>
                      obtain ⟨hs, ho⟩ := hcut
                      generalize wc = w8 at *
                      have ho := HO.out.trans ho; clear HO HS; have HO := Lib.hid ho; clear ho
                      generalize hx8 : x4 + x2 = x8 at hs
                      have HX8 := Lib.hid hx8; clear hx8
                      have c0 := hs.c0; have c1 := hs.c1; have c2 := hs.c2; have c3 := hs.c3; have f := hs.f
                      have HS := Lib.hid hs; clear hs
                      dsimp only at c0 c1 c2 c3
                      go_upto_region 10 with (fail)
                      go_cut [] (fun w' => St 48 w' b ⟨x6, (rotl x2 17 ^^^ x8), x8, x7⟩ ∧ On b w8 w')
                      case first =>
                        refine wp_region_still_tail 13 (by kernel_rfl) (by kernel_rfl) ?_
                        simp only [List.take_succ_cons, List.take_zero, List.drop_succ_cons, List.drop_zero]
                        repeat (first | still_step | still_call (turn_still _ 17 _ (by omega) (by omega)))
                        refine wpStill_nil ?_
                        change wpList _ _ _ _ _ w8.drew
                        go_wp2
                        go_meet
                        case rel => exact ⟨(HS.out.set1 _).drew, ((On.refl _ _).set _).drew⟩
                      case rest =>
                        obtain ⟨hs, ho⟩ := hcut
                        generalize wc = w9 at *
                        have ho := HO.out.trans ho; clear HO HS; have HO := Lib.hid ho; clear ho
                        generalize hx9 : rotl x2 17 ^^^ x8 = x9 at hs
                        have HX9 := Lib.hid hx9; clear hx9
                        have c0 := hs.c0; have c1 := hs.c1; have c2 := hs.c2; have c3 := hs.c3; have f := hs.f
                        have HS := Lib.hid hs; clear hs
                        dsimp only at c0 c1 c2 c3
                        go_wp2_with (go_at_call 23; refine (turn_any _ 32 _ (by omega) (by omega)).mono ?_; rintro e w' ⟨rfl, rfl⟩)
                        go_roundw
                        case rel =>
                          have hfin : (⟨x6, x9, (rotl x8 32), x7⟩ : W4) = rnds (k + 1) s := by
                            show _ = rnd (rnds k s)
                            rw [HS1.out]
                            simp only [rnd, HX1.out, HX2.out, HX3.out, HX4.out, HX5.out, HX6.out, HX7.out, HX8.out, HX9.out]
                          exact ⟨k + 1, by omega, by rw [show ((n - k : Nat) : Int) - 1 = ((n - (k + 1) : Nat) : Int) by omega], hfin ▸ HS.out.set2 _, HO.out.set _⟩
                        case measure => simp [intOf]; omega
    · have HS := Lib.hid hs; clear hs
      obtain rfl : n = k := by omega
      rw [Nat.sub_self]
      go_wp2
      go_end0
      exact ⟨rfl, HS1.out ▸ HS.out, HO.out⟩

end Go.Proofs.Yteahbonhdoaibaa
