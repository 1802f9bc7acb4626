/-
  The statement TagShort is proved: for all integers 'size' and 'seed' radiolinklaw14.TagShort returns true. No condition.
-/
import Derived.Test.YteahbonhdoaibaaTagShort
import Derived.Test.YteahbonhdoaibaaOpen
namespace Go.Proofs.Yteahbonhdoaibaa.tagShort
open Go.ChangeShapes Go.WideShapes Go.ChangeAt Go.RowKit

theorem own : ownKnob Try.prog.godebug = none := by kernel_rfl

set_option maxHeartbeats 1000000 in
theorem walk (a0 a1 : Int) (w : World) :
    Calls Try.prog 5 #[.int .i64 a0, .int .i64 a1] w fun e w' => e = .returned (.bool true) ∧ Below w.heap.size w w' := by
  have hm0 : 0 ≤ a0 % 5 := Int.emod_nonneg _ (by omega)
  have hm1 : a0 % 5 < 5 := Int.emod_lt_of_pos _ (by omega)
  obtain ⟨m, hm⟩ := Int.eq_ofNat_of_zero_le hm0
  rw [hm] at hm0 hm1
  have HM := Lib.hid hm; clear hm
  go_enter Try.func5, Try.ntmps5
  go_wp2_with fail
  refine (mod_any a0 5 w (by omega) (by omega)).mono ?_
  rw [HM.out]
  rintro e w' ⟨rfl, rfl⟩
  go_wp2_with fail
  rw [show (4094 + (m : Int)) = ((4094 + m : Nat) : Int) by omega]
  refine (filled_any (4094 + m) a1 w (by omega)).mono ?_
  rintro e w1 ⟨bv, rfl, hb, hb1⟩
  have HBv := Lib.hid hb; clear hb
  have HB := Lib.hid hb1; clear hb1
  go_wp2_with fail
  refine (filled_any 16 a1 w1 (by omega)).mono ?_
  rintro e w2 ⟨kv, rfl, hk, hb2⟩
  have hbv := HBv.out.below hb2
  have hbb := HB.out.trans (hb2.mono HB.out.size)
  clear HBv HB hb2
  have HBv := Lib.hid hbv; clear hbv
  have HB := Lib.hid hbb; clear hbb
  have HK := Lib.hid hk; clear hk
  by_cases hlt : m ≤ 2
  · go_wp2_with fail
    refine (sum_ok kv bv (fil a1 16) (fil a1 (4094 + m)) w2 HK.out HBv.out (fil_len _ _) (by rw [fil_len]; omega)).mono ?_
    rintro e w3 ⟨tv, rfl, ht, hb3⟩
    have hbv := HBv.out.below hb3
    have hbb := HB.out.trans (hb3.mono HB.out.size)
    clear HBv HB hb3 HK
    have HBv := Lib.hid hbv; clear hbv
    have HB := Lib.hid hbb; clear hbb
    have HT := Lib.hid ht; clear ht
    go_wp2_with fail
    refine (filled_any 16 a1 w3 (by omega)).mono ?_
    rintro e w4 ⟨kv2, rfl, hk, hb4⟩
    have hbv := HBv.out.below hb4
    have hbb := HB.out.trans (hb4.mono HB.out.size)
    have ht := HT.out.below hb4
    clear HBv HB hb4 HT
    have HBv := Lib.hid hbv; clear hbv
    have HB := Lib.hid hbb; clear hbb
    have HT := Lib.hid ht; clear ht
    have HK := Lib.hid hk; clear hk
    go_wp2_with fail
    have hsh := short_any kv2 bv (fil a1 16) (fil a1 (4094 + m)) w4 HK.out HBv.out
    unfold shortR at hsh
    rw [if_neg (by rw [fil_len]; simp), if_neg (by rw [fil_len]; omega)] at hsh
    refine hsh.mono ?_
    clear hsh
    rintro e w5 ⟨sv, rfl, hs, hb5⟩
    have hbb := HB.out.trans (hb5.mono HB.out.size)
    have ht := HT.out.below hb5
    clear HBv HB hb5 HT HK
    have HB := Lib.hid hbb; clear hbb
    have HT := Lib.hid ht; clear ht
    have HS := Lib.hid hs; clear hs
    go_wp2_with fail
    refine (awake_any w5).mono ?_
    rintro e w6 ⟨rfl, hb6⟩
    have hbb := HB.out.trans (hb6.mono HB.out.size)
    have ht := HT.out.below hb6
    have hs := HS.out.below hb6
    clear HB hb6 HT HS
    have HB := Lib.hid hbb; clear hbb
    obtain ⟨tb, tf, tc, rfl, h1, h2, h3⟩ := ht.some8 (outb_len8 _ _)
    have ht4 := Bts.take (k := 4) (by rw [outb_len8]; omega) (by rw [outb_len8]; omega) h2 h3
    have HSm := Lib.hid (same_any _ _ _ _ w6 hs ht4)
    clear ht hs ht4 h3
    have g4 : 4 ≤ tc := by omega
    go_wp2_with fail
    refine HSm.out.mono ?_
    rw [beq_self_eq_true]
    rintro e w' ⟨rfl, rfl⟩
    go_wp2_with fail
    go_ret
    exact ⟨rfl, HB.out⟩
  · go_wp2_with fail
    refine (sum_size kv bv (fil a1 16) (fil a1 (4094 + m)) w2 HK.out HBv.out (fil_len _ _) (by rw [fil_len]; omega)).mono ?_
    rintro e w' ⟨rfl, rfl⟩
    clear HK
    go_wp2_with fail
    refine (filled_any 16 a1 w2 (by omega)).mono ?_
    rintro e w4 ⟨kv2, rfl, hk, hb4⟩
    have hbv := HBv.out.below hb4
    have hbb := HB.out.trans (hb4.mono HB.out.size)
    clear HBv HB hb4
    have HBv := Lib.hid hbv; clear hbv
    have HB := Lib.hid hbb; clear hbb
    have HK := Lib.hid hk; clear hk
    go_wp2_with fail
    have hsh := short_any kv2 bv (fil a1 16) (fil a1 (4094 + m)) w4 HK.out HBv.out
    unfold shortR at hsh
    rw [if_neg (by rw [fil_len]; simp), if_pos (by rw [fil_len]; omega)] at hsh
    refine hsh.mono ?_
    clear hsh
    rintro e w5 ⟨sv, rfl, hs, hb5⟩
    have hbb := HB.out.trans (hb5.mono HB.out.size)
    clear HBv HB hb5 HK hs
    have HB := Lib.hid hbb; clear hbb
    go_wp2_with fail
    refine (awake_any w5).mono ?_
    rintro e w6 ⟨rfl, hb6⟩
    have hbb := HB.out.trans (hb6.mono HB.out.size)
    clear HB hb6
    have HB := Lib.hid hbb; clear hbb
    go_wp2_with fail
    go_ret
    exact ⟨rfl, HB.out⟩

theorem laidOut : laidOutB Try.prog = true := by kernel_rfl
set_option maxRecDepth 100000 in
theorem lifted (os : Os) (started : os.Started) (H : Type) (enc : TypeId × Value → H) :
    ReturnsInHanded {} Try.checked os 5 .any (Rows.tagShortSpec.pre6 enc Try.prog Try.f5 Rows.tagShortRow.domain false) (Rows.tagShortSpec.post enc Try.prog Try.f5 false true false false) := by
  refine returnsInHanded_of_change (C := Try.checked) own started (by kernel_rfl) Try.func5
    (ChangeSpec.witness6 (enc := enc) (C := Try.checked) false ⟨#[], #[.int .i64 0, .int .i64 0], []⟩ 8 (by kernel_rfl) (by kernel_rfl) (by kernel_rfl) (by kernel_rfl)) ?_
  intro W base args ds gs before hval0 hW hcnd _
  have hval : ∀ (j : Nat) t v, Try.f5.params[j]? = some t → args[j]? = some v → Value.okWide Try.prog W .any base t v := hval0
  have hW' := hW
  obtain ⟨p, q, hA0, hV, rfl, hfz, hnd⟩ := hW
  have hA : DataW.TrodAll enc Try.prog W 0 (fun _ => true) true Try.f5.params.toList args.toList ds p := hA0
  rw [Try.params5] at hA hval
  obtain ⟨v0, vs0, d0, ds0, p0, q0, hargs, rfl, rfl, h0, r0⟩ := trodAll_cons hA
  obtain ⟨v1, vs1, d1, ds1, p1, q1, rfl, rfl, rfl, h1, r1⟩ := trodAll_cons r0
  obtain ⟨rfl, rfl, rfl⟩ := trodAll_nil r1
  obtain rfl : args = #[v0, v1] := by cases args; simp_all
  obtain ⟨rfl, rfl⟩ := trodVars_none hV
  obtain ⟨a0, rfl, rfl, rfl, w0⟩ := open_int Try.underlying3 (hval 0 3 v0 rfl rfl) h0
  obtain ⟨a1, rfl, rfl, rfl, w1⟩ := open_int Try.underlying3 (hval 1 3 v1 rfl rfl) h1
  clear hA0 hval0
  refine (walk a0 a1 W).mono fun e W' ⟨he, bel⟩ => ?_
  subst he
  exact ⟨_, rfl, _, _, _, [], _, [], hW', trodAll_mk1 (shut_bool Try.underlying4 _), (trodAll_cons_mk (shut_int Try.underlying3 w0) (trodAll_cons_mk (shut_int Try.underlying3 w1) trodAll_mk0)), rfl, bel.frame _, fun h => by cases h⟩

theorem proved : Rows.TagShortSaid :=
  OpenClaim.holds_of_wide 5 Try.f5 rfl rfl rfl rfl rfl rfl rfl ⟨rfl, rfl, rfl, rfl, rfl⟩ rfl rfl rfl rfl rfl (by kernel_rfl) Try.func5 (by kernel_rfl)
    (of_decide_eq_true (by kernel_rfl)) (by unfold Func.isWrapper; first | (rw [if_pos (by decide +kernel)]; kernel_rfl) | (rw [if_neg (by decide +kernel)]; exact ⟨rfl, rfl⟩))
    (fun os started H enc _ => lifted os started H enc)
#print axioms proved
end Go.Proofs.Yteahbonhdoaibaa.tagShort
