/-
  The statement TagLast is proved: for all bytes and all pairs of integers radiolinklaw14.TagLast returns true. No condition.
-/
import Derived.Test.YteahbonhdoaibaaTagShort
import Derived.Test.YteahbonhdoaibaaOpen
namespace Go.Proofs.Yteahbonhdoaibaa.tagLast
open Go.ChangeShapes Go.WideShapes Go.ChangeAt Go.RowKit

theorem own : ownKnob Try.prog.godebug = none := by kernel_rfl
theorem mod_same (n m : Int) (w : World) (h0 : 0 < m) (h1 : m ≤ 9223372036854775807) :
    Calls Try.prog 7 #[.int .i64 n, .int .i64 m] w fun e w' => e = .returned (.int .i64 (n % m)) ∧ w' = w :=
  (mod_any n m w h0 h1).mono fun _ _ ⟨he, hw⟩ => ⟨he, hw.symm⟩

set_option maxRecDepth 100000 in
set_option maxHeartbeats 2000000 in
theorem walk (v0 : Value) (l : List UInt8) (a b : Int) (w : World) (hb : Bts w v0 l) :
    Calls Try.prog 3 #[v0, .agg #[.int .i64 a, .int .i64 b]] w fun e w' => e = .returned (.bool true) ∧ Below w.heap.size w w' := by
  obtain ⟨i0, hi, hz0, hz1, hz2⟩ := info_parts (P := Try.prog) (e := 5) (z := .int .u8 0) (size := 1) (bytes := 1) (by kernel_rfl)
  obtain ⟨ad, cap, rfl, hm⟩ := hb.len
  have HBv := Lib.hid hb; clear hb
  by_cases h0 : l.length = 0
  · have hq : ((l.length : Int) == 0) = true := beq_iff_eq.2 (by omega)
    clear h0
    go_enter Try.func3, Try.ntmps3
    go_wp2_with fail
    refine (awake_any _).mono ?_
    rintro e w1 ⟨rfl, hb1⟩
    have HB := Lib.hid (((Below.refl w.heap.size w).alloc (Nat.le_refl _) _).trans (hb1.mono (by simp))); clear hb1
    go_wp2_with fail
    go_ret
    exact ⟨rfl, HB.out⟩
  have hq : ((l.length : Int) == 0) = false := beq_eq_false_iff_ne.2 (by omega)
  by_cases h5 : 500 < l.length
  · go_enter Try.func3, Try.ntmps3
    go_wp2_with fail
    refine (awake_any _).mono ?_
    rintro e w1 ⟨rfl, hb1⟩
    have HB := Lib.hid (((Below.refl w.heap.size w).alloc (Nat.le_refl _) _).trans (hb1.mono (by simp))); clear hb1
    go_wp2_with fail
    go_ret
    exact ⟨rfl, HB.out⟩
  obtain ⟨r, hr⟩ : ∃ r : Nat, (l.length : Int) % 8 = (r : Int) := ⟨l.length % 8, by omega⟩
  have hr8 : r < 8 := by omega
  have hrl : r ≤ l.length := by omega
  by_cases hr0 : r = 0
  · have hrb : ((r : Int) == 0) = true := beq_iff_eq.2 (by omega)
    clear hr0
    go_enter Try.func3, Try.ntmps3
    go_wp2_with fail
    refine (awake_any _).mono ?_
    rintro e w1 ⟨rfl, hb1⟩
    have HB := Lib.hid (((Below.refl w.heap.size w).alloc (Nat.le_refl _) _).trans (hb1.mono (by simp))); clear hb1
    go_wp2_with fail
    go_ret
    exact ⟨rfl, HB.out⟩
  have hrb : ((r : Int) == 0) = false := beq_eq_false_iff_ne.2 (by omega)
  obtain ⟨m0, hm0⟩ := Int.eq_ofNat_of_zero_le (Int.emod_nonneg a (show (r : Int) ≠ 0 by omega))
  have hm0r : m0 < r := by have := Int.emod_lt_of_pos a (show 0 < (r : Int) by omega); omega
  obtain ⟨m1, hm1⟩ := Int.eq_ofNat_of_zero_le (Int.emod_nonneg b (show (255 : Int) ≠ 0 by omega))
  have hm1r : m1 < 255 := by have := Int.emod_lt_of_pos b (show 0 < (255 : Int) by omega); omega
  have A1 := fun w => mod_same a r w (by omega) (by omega)
  have A2 := fun w => mod_same b 255 w (by omega) (by omega)
  rw [hm0] at A1
  rw [hm1] at A2
  have B1 := Lib.hid A1; clear A1 hm0
  have B2 := Lib.hid A2; clear A2 hm1
  go_enter Try.func3, Try.ntmps3
  go_wp2_with (at_builtin; refine wpList_clone _ rfl _ _ 22 rfl 5 i0 Try.underlying22 hi hz0 hz1 hz2 rfl _ l rfl (HBv.out.alloc _) ?c1 ?c2 ?_)
  case c1 => omega
  case c2 => omega
  intro cv w1 hown hb1
  have hbx := ((Below.refl w.heap.size w).alloc (Nat.le_refl _) (.cells #[.int .i64 a, .int .i64 b] 23)).trans (hb1.mono (by simp))
  rcases hown.2 with ⟨-, hn⟩ | ⟨g, ccap, cur, rfl, hg, hgc, hnc, hcm, hcs, htake⟩
  · omega
  have hg2 : w.heap.size < g := by omega
  have hbox : Row w1 w.heap.size 23 [.int .i64 a, .int .i64 b] := (Row.new w 23 [.int .i64 a, .int .i64 b]).below hb1 (by simp)
  have x0 := hbox.cell 0
  have x1 := hbox.cell 1
  simp only [List.getElem?_cons_zero, List.getElem?_cons_succ] at x0 x1
  have hcc := hown.cellAt (l.length - 1 - m0) (by omega)
  rw [mapB_get l _ (by omega)] at hcc
  have hcf := hown.frozenAt (l.length - 1 - m0)
  obtain ⟨q, hqe⟩ : ∃ q, l.length - 1 - m0 = q := ⟨_, rfl⟩
  have hql : q < l.length := by omega
  have s2 : IntKind.i64.wrap ((l.length : Int) - 1 - (m0 : Int)) = (q : Int) := by rw [IntWalk.i64_in _ (by omega)]; omega
  rw [hqe] at hcc hcf
  clear hqe
  generalize hx : l.getD q 0 = x at hcc
  clear hx
  have hst := (hown.stored (q) (.int .u8 (B (x ^^^ byteOf (1 + (m1 : Int)))))).1
  have hbe2 := hbx.setCell (p := ⟨g, q, none⟩) (by simp; omega) (.int .u8 (B (x ^^^ byteOf (1 + (m1 : Int)))))
  have hbox2 : Row (w1.setCell ⟨g, q, none⟩ (.int .u8 (B (x ^^^ byteOf (1 + (m1 : Int)))))) w.heap.size 23 [.int .i64 a, .int .i64 b] := ⟨by rw [Below.heap_setCell _ _ _ _ (by simp; omega)]; exact hbox.blk⟩
  rw [← List.map_set (f := fun c => Value.int .u8 (B c)) (a := x ^^^ byteOf (1 + (m1 : Int)))] at hst
  have hcv : Bts (w1.setCell ⟨g, q, none⟩ (.int .u8 (B (x ^^^ byteOf (1 + (m1 : Int)))))) (.slice (some ⟨g, 0, none⟩) l.length ccap) (l.set (q) (x ^^^ byteOf (1 + (m1 : Int)))) :=
    Bts.owns (by rw [List.length_set]; exact hst)
  have hll : (l.set (q) (x ^^^ byteOf (1 + (m1 : Int)))).length = l.length := List.length_set
  generalize hl2 : l.set (q) (x ^^^ byteOf (1 + (m1 : Int))) = l2 at *
  clear hl2
  have HBE := Lib.hid hbe2; clear hbe2
  have HBX := Lib.hid hbox2; clear hbox2
  have HCV := Lib.hid hcv; clear hcv
  have HLL := Lib.hid hll; clear hll
  clear hst hbox hown htake hcs hgc hb1 hbx
  have rx := B_xor
  have ro := B_of
  go_wp2_with fail
  have s1 : IntKind.i64.wrap ((l.length : Int) - 1) = (l.length : Int) - 1 := IntWalk.i64_in _ (by omega)
  have s3 : IntKind.i64.wrap (1 + (m1 : Int)) = 1 + (m1 : Int) := IntWalk.i64_in _ (by omega)
  have q0 : (0 : Int) ≤ (q : Int) := by omega
  have q1 : (q : Int) < (l.length : Int) := by omega
  refine wp_region_still_tail 18 (by kernel_rfl) (by kernel_rfl) ?_
  simp only [List.take_succ_cons, List.take_zero, List.drop_succ_cons, List.drop_zero]
  iterate 7 still_step
  still_call (B1.out _)
  iterate 5 still_step
  still_call (B2.out _)
  iterate 4 still_step
  refine wpStill_nil ?_
  change wpList _ _ _ _ _ w1.drew
  clear s1 s2 s3
  have y0 : (w1.setCell ⟨g, q, none⟩ (.int .u8 (B (x ^^^ byteOf (1 + (m1 : Int)))))).cell? ⟨w.heap.size, 0, none⟩ = some (.int .i64 a) := by rw [HBX.out.cell]; rfl
  go_wp2_with fail
  have HBv2 := (HBv.out.below HBE.out).drew; clear HBv; have HBv := Lib.hid HBv2; clear HBv2 HBX y0
  have HCV2 := HCV.out.drew; clear HCV; have HCV := Lib.hid HCV2; clear HCV2
  have HBE2 := HBE.out.drew; clear HBE; have HBE := Lib.hid HBE2; clear HBE2
  generalize hW : (w1.setCell ⟨g, q, none⟩ (.int .u8 (B (x ^^^ byteOf (1 + (m1 : Int)))))).drew = w2 at *; clear hW
  refine (filled_any 16 a w2 (by omega)).mono ?_
  rintro e w3 ⟨kv, rfl, hk, hbN⟩
  have nHBv := HBv.out.below hbN
  have nHCV := HCV.out.below hbN
  have nHBE := HBE.out.trans (hbN.mono HBE.out.size)
  clear HBv HCV HBE hbN
  have HBv := Lib.hid nHBv; clear nHBv
  have HCV := Lib.hid nHCV; clear nHCV
  have HBE := Lib.hid nHBE; clear nHBE
  have HK := Lib.hid hk; clear hk
  go_wp2_with fail
  refine (sum_ok kv _ (fil a 16) l w3 HK.out HBv.out (fil_len _ _) (by omega)).mono ?_
  rintro e w4 ⟨pv, rfl, hp, hbN⟩
  have nHBv := HBv.out.below hbN
  have nHCV := HCV.out.below hbN
  have nHK := HK.out.below hbN
  have nHBE := HBE.out.trans (hbN.mono HBE.out.size)
  clear HBv HCV HK HBE hbN
  have HBv := Lib.hid nHBv; clear nHBv
  have HCV := Lib.hid nHCV; clear nHCV
  have HK := Lib.hid nHK; clear nHK
  have HBE := Lib.hid nHBE; clear nHBE
  have HP := Lib.hid hp; clear hp
  go_wp2_with fail
  refine (sum_ok kv _ (fil a 16) l2 w4 HK.out HCV.out (fil_len _ _) (by have := HLL.out; omega)).mono ?_
  rintro e w5 ⟨qv, rfl, hq2, hbN⟩
  have nHBv := HBv.out.below hbN
  have nHCV := HCV.out.below hbN
  have nHK := HK.out.below hbN
  have nHP := HP.out.below hbN
  have nHBE := HBE.out.trans (hbN.mono HBE.out.size)
  clear HBv HCV HK HP HBE hbN
  have HBv := Lib.hid nHBv; clear nHBv
  have HCV := Lib.hid nHCV; clear nHCV
  have HK := Lib.hid nHK; clear nHK
  have HP := Lib.hid nHP; clear nHP
  have HBE := Lib.hid nHBE; clear nHBE
  have HQ := Lib.hid hq2; clear hq2
  go_wp2_with fail
  refine (rsum_ok kv _ (fil a 16) l w5 HK.out HBv.out (fil_len _ _) (by omega)).mono ?_
  rintro e w6 ⟨uv, rfl, hu, hbN⟩
  have nHBv := HBv.out.below hbN
  have nHCV := HCV.out.below hbN
  have nHK := HK.out.below hbN
  have nHP := HP.out.below hbN
  have nHQ := HQ.out.below hbN
  have nHBE := HBE.out.trans (hbN.mono HBE.out.size)
  clear HBv HCV HK HP HQ HBE hbN
  have HBv := Lib.hid nHBv; clear nHBv
  have HCV := Lib.hid nHCV; clear nHCV
  have HK := Lib.hid nHK; clear nHK
  have HP := Lib.hid nHP; clear nHP
  have HQ := Lib.hid nHQ; clear nHQ
  have HBE := Lib.hid nHBE; clear nHBE
  have HU := Lib.hid hu; clear hu
  go_wp2_with fail
  refine (rsum_ok kv _ (fil a 16) l2 w6 HK.out HCV.out (fil_len _ _) (by have := HLL.out; omega)).mono ?_
  rintro e w7 ⟨vv, rfl, hv, hbN⟩
  have nHBv := HBv.out.below hbN
  have nHCV := HCV.out.below hbN
  have nHK := HK.out.below hbN
  have nHP := HP.out.below hbN
  have nHQ := HQ.out.below hbN
  have nHU := HU.out.below hbN
  have nHBE := HBE.out.trans (hbN.mono HBE.out.size)
  clear HBv HCV HK HP HQ HU HBE hbN
  have HBv := Lib.hid nHBv; clear nHBv
  have HCV := Lib.hid nHCV; clear nHCV
  have HK := Lib.hid nHK; clear nHK
  have HP := Lib.hid nHP; clear nHP
  have HQ := Lib.hid nHQ; clear nHQ
  have HU := Lib.hid nHU; clear nHU
  have HBE := Lib.hid nHBE; clear nHBE
  have HV := Lib.hid hv; clear hv
  go_wp2_with fail
  refine (awake_any w7).mono ?_
  rintro e w8 ⟨rfl, hbN⟩
  have nHBv := HBv.out.below hbN
  have nHCV := HCV.out.below hbN
  have nHK := HK.out.below hbN
  have nHP := HP.out.below hbN
  have nHQ := HQ.out.below hbN
  have nHU := HU.out.below hbN
  have nHV := HV.out.below hbN
  have nHBE := HBE.out.trans (hbN.mono HBE.out.size)
  clear HBv HCV HK HP HQ HU HV HBE hbN
  have HBv := Lib.hid nHBv; clear nHBv
  have HCV := Lib.hid nHCV; clear nHCV
  have HK := Lib.hid nHK; clear nHK
  have HP := Lib.hid nHP; clear nHP
  have HQ := Lib.hid nHQ; clear nHQ
  have HU := Lib.hid nHU; clear nHU
  have HV := Lib.hid nHV; clear nHV
  have HBE := Lib.hid nHBE; clear nHBE
  go_wp2_with fail
  refine (same_any _ _ _ _ w8 HP.out HQ.out).mono ?_
  rintro e w' ⟨rfl, rfl⟩
  go_wp2_with fail
  refine (same_any _ _ _ _ w8 HU.out HV.out).mono ?_
  rintro e w' ⟨rfl, rfl⟩
  generalize (tagOf (fil a 16) l == tagOf (fil a 16) l2) = bq
  go_wp2_with fail
  go_ret
  exact ⟨by simp, HBE.out⟩
theorem laidOut : laidOutB Try.prog = true := by kernel_rfl
set_option maxRecDepth 100000 in
theorem lifted (os : Os) (started : os.Started) (H : Type) (enc : TypeId × Value → H) :
    ReturnsInHanded {} Try.checked os 3 .any (Rows.tagLastSpec.pre6 enc Try.prog Try.f3 Rows.tagLastRow.domain false) (Rows.tagLastSpec.post enc Try.prog Try.f3 false true false false) := by
  refine returnsInHanded_of_change (C := Try.checked) own started (by kernel_rfl) Try.func3
    (ChangeSpec.witness6 (enc := enc) (C := Try.checked) false ⟨#[], #[.slice none 0 0, .agg #[.int .i64 0, .int .i64 0]], []⟩ 8 (by kernel_rfl) (by kernel_rfl) (by kernel_rfl) (by kernel_rfl)) ?_
  intro W base args ds gs before hval0 hW hcnd _
  have hval : ∀ (j : Nat) t v, Try.f3.params[j]? = some t → args[j]? = some v → Value.okWide Try.prog W .any base t v := hval0
  have hW' := hW
  obtain ⟨p, q, hA0, hV, rfl, hfz, hnd⟩ := hW
  have hA : DataW.TrodAll enc Try.prog W 0 (fun _ => true) true Try.f3.params.toList args.toList ds p := hA0
  rw [Try.params3] at hA hval
  obtain ⟨v0, vs0, d0, ds0, p0, q0, hargs, rfl, rfl, h0, r0⟩ := trodAll_cons hA
  obtain ⟨v1, vs1, d1, ds1, p1, q1, rfl, rfl, rfl, h1, r1⟩ := trodAll_cons r0
  obtain ⟨rfl, rfl, rfl⟩ := trodAll_nil r1
  obtain rfl : args = #[v0, v1] := by cases args; simp_all
  obtain ⟨rfl, rfl⟩ := trodVars_none hV
  have lt0 : ∀ x ∈ p0, x.block < W.heap.size := by obtain ⟨m, hm⟩ := h0; exact DataW.trod_lt m _ _ _ hm
  have lt1 : ∀ x ∈ p1, x.block < W.heap.size := by obtain ⟨m, hm⟩ := h1; exact DataW.trod_lt m _ _ _ hm
  obtain ⟨l, hl⟩ := open_bytes Try.underlying22 Try.underlying5 (by kernel_rfl) (hval 0 22 v0 rfl rfl) h0
  obtain ⟨a, b, rfl, wa, wb⟩ := open_pair Try.underlying23 Try.underlying3 (by kernel_rfl) (by kernel_rfl) (hval 1 23 v1 rfl rfl) h1
  clear hA0 hval0
  refine (walk v0 l a b W hl).mono fun e W' ⟨he, bel⟩ => ?_
  subst he
  exact ⟨_, rfl, _, _, _, [], _, [], hW', trodAll_mk1 (shut_bool Try.underlying4 _), (trodAll_cons_mk (Below.trod laidOut (by kernel_rfl) (of_decide_eq_true (by kernel_rfl)) h0 bel lt0) (trodAll_cons_mk (Below.trod laidOut (by kernel_rfl) (of_decide_eq_true (by kernel_rfl)) h1 bel lt1) trodAll_mk0)), rfl, bel.frame _, fun h => by cases h⟩

theorem proved : Rows.TagLastSaid :=
  OpenClaim.holds_of_wide 3 Try.f3 rfl rfl rfl rfl rfl rfl rfl ⟨rfl, rfl, rfl, rfl, rfl⟩ rfl rfl rfl rfl rfl (by kernel_rfl) Try.func3 (by kernel_rfl)
    (of_decide_eq_true (by kernel_rfl)) (by unfold Func.isWrapper; first | (rw [if_pos (by decide +kernel)]; kernel_rfl) | (rw [if_neg (by decide +kernel)]; exact ⟨rfl, rfl⟩))
    (fun os started H enc _ => lifted os started H enc)
#print axioms proved
end Go.Proofs.Yteahbonhdoaibaa.tagLast
