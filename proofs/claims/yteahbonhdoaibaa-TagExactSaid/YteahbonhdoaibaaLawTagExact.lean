/-
  The statement TagExact is proved: for all keys, bytes and pairs of integers radiolinklaw14.TagExact returns true. No condition.
-/
import Derived.Test.YteahbonhdoaibaaTagShort
import Derived.Test.YteahbonhdoaibaaOpen
import Derived.Deep.RegionHeld3
namespace Go.Proofs.Yteahbonhdoaibaa.tagExact
open Go.ChangeShapes Go.WideShapes Go.ChangeAt Go.RowKit

theorem own : ownKnob Try.prog.godebug = none := by kernel_rfl
theorem mod_same (n m : Int) (w : World) (h0 : 0 < m) (h1 : m ≤ 9223372036854775807) :
    Calls Try.prog 7 #[.int .i64 n, .int .i64 m] w fun e w' => e = .returned (.int .i64 (n % m)) ∧ w' = w :=
  (mod_any n m w h0 h1).mono fun _ _ ⟨he, hw⟩ => ⟨he, hw.symm⟩

set_option maxRecDepth 100000 in
set_option maxHeartbeats 4000000 in
theorem walk (v0 v1 : Value) (key l : List UInt8) (a b : Int) (w : World) (hkey : Bts w v0 key) (hb : Bts w v1 l) :
    Calls Try.prog 4 #[v0, v1, .agg #[.int .i64 a, .int .i64 b]] w fun e w' => e = .returned (.bool true) ∧ Below w.heap.size w w' := by
  obtain ⟨ad, cap, rfl, hm⟩ := hb.len
  obtain ⟨ad0, cap0, rfl, -⟩ := hkey.len
  obtain ⟨m1, hm1⟩ := Int.eq_ofNat_of_zero_le (Int.emod_nonneg b (show (40 : Int) ≠ 0 by omega))
  have hm1r : m1 < 40 := by have := Int.emod_lt_of_pos b (show 0 < (40 : Int) by omega); omega
  have A2 := fun w => mod_same b 40 w (by omega) (by omega)
  rw [hm1] at A2
  have B2 := Lib.hid A2; clear A2 hm1
  have HKE := Lib.hid hkey; clear hkey
  have HBv := Lib.hid hb; clear hb
  go_enter Try.func4, Try.ntmps4
  go_wp2_with fail
  refine (filled_any 16 a _ (by omega)).mono ?_
  rintro e w1 ⟨kv, rfl, hk, hbN⟩
  obtain ⟨ka, kcap, rfl, -⟩ := hk.len
  have hbox : Row w1 w.heap.size 23 [.int .i64 a, .int .i64 b] := (Row.new w 23 [.int .i64 a, .int .i64 b]).below hbN (by simp)
  have nHBE := ((Below.refl w.heap.size w).alloc (Nat.le_refl _) _).trans (hbN.mono (by simp))
  have x0 := hbox.cell 0
  have x1 := hbox.cell 1
  simp only [List.getElem?_cons_zero, List.getElem?_cons_succ] at x0 x1
  have nKE := (HKE.out.alloc _).below hbN
  have nBv := (HBv.out.alloc _).below hbN
  clear HKE HBv hbN hbox
  have HKE := Lib.hid nKE; clear nKE
  have HBv := Lib.hid nBv; clear nBv
  have HBE := Lib.hid nHBE; clear nHBE
  have HK := Lib.hid hk; clear hk
  go_wp2_with fail
  refine wp_region_still_tail 5 (by kernel_rfl) (by kernel_rfl) ?_
  simp only [List.take_succ_cons, List.take_zero, List.drop_succ_cons, List.drop_zero]
  iterate 2 still_step
  still_call (B2.out _)
  iterate 2 still_step
  refine wpStill_nil ?_
  change wpList _ _ _ _ _ w1.drew
  clear x0 x1 B2
  go_wp2_with fail
  refine (filled_any m1 a w1.drew (by omega)).mono ?_
  rintro e w2 ⟨cv, rfl, hc, hbN⟩
  obtain ⟨ca, ccap, rfl, -⟩ := hc.len
  have nKE := HKE.out.drew.below hbN
  have nBv := HBv.out.drew.below hbN
  have nK := HK.out.drew.below hbN
  have nHBE := HBE.out.drew.trans (hbN.mono HBE.out.size)
  clear HKE HBv HK HBE hbN
  have HKE := Lib.hid nKE; clear nKE
  have HBv := Lib.hid nBv; clear nBv
  have HK := Lib.hid nK; clear nK
  have HBE := Lib.hid nHBE; clear nHBE
  have HC := Lib.hid hc; clear hc
  by_cases h5 : 4100 < l.length
  · go_wp2_with fail
    refine (awake_any _).mono ?_
    rintro e w3 ⟨rfl, hb1⟩
    have HB := Lib.hid (HBE.out.trans (hb1.mono HBE.out.size)); clear hb1
    go_wp2_with fail
    go_ret
    exact ⟨rfl, HB.out⟩
  go_wp2_with fail
  have hrow := Row.new w2 33 [.slice ad0 key.length cap0, .slice ad l.length cap, .slice ka (fil a 16).length kcap, .slice ad l.length cap, .slice ka (fil a 16).length kcap, .slice ca (fil a m1).length ccap]
  have nHBE := HBE.out.alloc HBE.out.size (.cells #[.slice ad0 key.length cap0, .slice ad l.length cap, .slice ka (fil a 16).length kcap, .slice ad l.length cap, .slice ka (fil a 16).length kcap, .slice ca (fil a m1).length ccap] 33)
  have nKE := HKE.out.alloc (.cells #[.slice ad0 key.length cap0, .slice ad l.length cap, .slice ka (fil a 16).length kcap, .slice ad l.length cap, .slice ka (fil a 16).length kcap, .slice ca (fil a m1).length ccap] 33)
  have nBv := HBv.out.alloc (.cells #[.slice ad0 key.length cap0, .slice ad l.length cap, .slice ka (fil a 16).length kcap, .slice ad l.length cap, .slice ka (fil a 16).length kcap, .slice ca (fil a m1).length ccap] 33)
  have nK := HK.out.alloc (.cells #[.slice ad0 key.length cap0, .slice ad l.length cap, .slice ka (fil a 16).length kcap, .slice ad l.length cap, .slice ka (fil a 16).length kcap, .slice ca (fil a m1).length ccap] 33)
  have nC := HC.out.alloc (.cells #[.slice ad0 key.length cap0, .slice ad l.length cap, .slice ka (fil a 16).length kcap, .slice ad l.length cap, .slice ka (fil a 16).length kcap, .slice ca (fil a m1).length ccap] 33)
  have hgb := HBE.out.size
  clear HKE HBv HK HBE HC
  generalize w2.alloc _ = w3 at *
  generalize hg : w2.heap.size = g at *
  clear hg
  go_loopw [10] (fun i wr => ∃ k : Nat, k ≤ 3 ∧ i = .int .i64 k ∧ Row wr g 33 [.slice ad0 key.length cap0, .slice ad l.length cap, .slice ka (fil a 16).length kcap, .slice ad l.length cap, .slice ka (fil a 16).length kcap, .slice ca (fil a m1).length ccap] ∧ Bts wr (.slice ad0 key.length cap0) key ∧ Bts wr (.slice ad l.length cap) l ∧ Bts wr (.slice ka (fil a 16).length kcap) (fil a 16) ∧ Bts wr (.slice ca (fil a m1).length ccap) (fil a m1) ∧ Below w.heap.size w wr) (fun i _ => 3 - (intOf i).toNat)
  case atStart => exact ⟨0, by omega, rfl, hrow, nKE, nBv, nK, nC, nHBE⟩
  case round =>
    obtain ⟨i, hi3, rfl, hrow, nKE, nBv, nK, nC, nHBE⟩ := hrel
    by_cases hlt : i < 3
    · obtain ⟨KA, KC, kl, VA, VC, vl, hK, hV, bK, bV⟩ : ∃ KA KC kl VA VC vl, wr.cell? ⟨g, i * 2, none⟩ = some (.slice KA (List.length kl) KC) ∧ wr.cell? ⟨g, i * 2 + 1, none⟩ = some (.slice VA (List.length vl) VC) ∧ Bts wr (.slice KA kl.length KC) kl ∧ Bts wr (.slice VA vl.length VC) vl := by
        match i, hlt with
        | 0, _ => exact ⟨ad0, cap0, key, ad, cap, l, hrow.cell 0, hrow.cell 1, nKE, nBv⟩
        | 1, _ => exact ⟨ka, kcap, fil a 16, ad, cap, l, hrow.cell 2, hrow.cell 3, nK, nBv⟩
        | 2, _ => exact ⟨ka, kcap, fil a 16, ca, ccap, fil a m1, hrow.cell 4, hrow.cell 5, nK, nC⟩
      have HR := Lib.hid hrow; clear hrow
      have HKE := Lib.hid nKE; clear nKE
      have HBv := Lib.hid nBv; clear nBv
      have HK := Lib.hid nK; clear nK
      have HC := Lib.hid nC; clear nC
      have HBE := Lib.hid nHBE; clear nHBE
      have HKK := Lib.hid bK; clear bK
      have HVV := Lib.hid bV; clear bV
      have i0 : (0 : Int) ≤ (i : Int) := by omega
      have i3 : (i : Int) < 3 := by omega
      go_wp2_with fail
      go_region_held3 (fun w' => w'.cell? ⟨g, i * 2, none⟩ = some (.slice KA (List.length kl) KC) ∧ w'.cell? ⟨g, i * 2 + 1, none⟩ = some (.slice VA (List.length vl) VC)) (first | exact ⟨hK, hV⟩ | exact ⟨hKn, hVn⟩) (first | (go_at_call 9; refine (sum_any _ _ kl vl _ HKK.out.drew HVV.out.drew).mono ?_; rintro e w4 ⟨pv, rfl, hp, hbN⟩; have hKn : w4.cell? ⟨g, i * 2, none⟩ = some (.slice KA (List.length kl) KC) := (hbN.cell (World.block_lt_of_cell? wr _ hK)).trans hK; have hVn : w4.cell? ⟨g, i * 2 + 1, none⟩ = some (.slice VA (List.length vl) VC) := (hbN.cell (World.block_lt_of_cell? wr _ hV)).trans hV))
      have nHKE := HKE.out.drew.below hbN
      have nHBv := HBv.out.drew.below hbN
      have nHK := HK.out.drew.below hbN
      have nHC := HC.out.drew.below hbN
      have nHKK := HKK.out.drew.below hbN
      have nHVV := HVV.out.drew.below hbN
      have nHBE := HBE.out.drew.trans (hbN.mono HBE.out.size)
      have nHR := HR.out.drew.below hbN HR.out.lt
      clear HKE HBv HK HC HKK HVV HBE HR hbN hK hV
      have hK := hKn; have hV := hVn; clear hKn hVn
      have HKE := Lib.hid nHKE; clear nHKE
      have HBv := Lib.hid nHBv; clear nHBv
      have HK := Lib.hid nHK; clear nHK
      have HC := Lib.hid nHC; clear nHC
      have HKK := Lib.hid nHKK; clear nHKK
      have HVV := Lib.hid nHVV; clear nHVV
      have HBE := Lib.hid nHBE; clear nHBE
      have HR := Lib.hid nHR; clear nHR
      have HP := Lib.hid hp; clear hp
      go_wp2_with fail
      go_region_held3 (fun w' => w'.cell? ⟨g, i * 2, none⟩ = some (.slice KA (List.length kl) KC) ∧ w'.cell? ⟨g, i * 2 + 1, none⟩ = some (.slice VA (List.length vl) VC)) (first | exact ⟨hK, hV⟩ | exact ⟨hKn, hVn⟩) (first | (go_at_call 10; refine (rsum_any _ _ kl vl _ HKK.out.drew HVV.out.drew).mono ?_; rintro e w5 ⟨qv, rfl, hq, hbN⟩; have hKn : w5.cell? ⟨g, i * 2, none⟩ = some (.slice KA (List.length kl) KC) := (hbN.cell (World.block_lt_of_cell? w4 _ hK)).trans hK; have hVn : w5.cell? ⟨g, i * 2 + 1, none⟩ = some (.slice VA (List.length vl) VC) := (hbN.cell (World.block_lt_of_cell? w4 _ hV)).trans hV))
      have nHKE := HKE.out.drew.below hbN
      have nHBv := HBv.out.drew.below hbN
      have nHK := HK.out.drew.below hbN
      have nHC := HC.out.drew.below hbN
      have nHKK := HKK.out.drew.below hbN
      have nHVV := HVV.out.drew.below hbN
      have nHP := HP.out.drew.below hbN
      have nHBE := HBE.out.drew.trans (hbN.mono HBE.out.size)
      have nHR := HR.out.drew.below hbN HR.out.lt
      clear HKE HBv HK HC HKK HVV HP HBE HR hbN hK hV
      have hK := hKn; have hV := hVn; clear hKn hVn
      have HKE := Lib.hid nHKE; clear nHKE
      have HBv := Lib.hid nHBv; clear nHBv
      have HK := Lib.hid nHK; clear nHK
      have HC := Lib.hid nHC; clear nHC
      have HKK := Lib.hid nHKK; clear nHKK
      have HVV := Lib.hid nHVV; clear nHVV
      have HP := Lib.hid nHP; clear nHP
      have HBE := Lib.hid nHBE; clear nHBE
      have HR := Lib.hid nHR; clear nHR
      have HQ := Lib.hid hq; clear hq
      go_wp2_with fail
      go_region_held3 (fun w' => w'.cell? ⟨g, i * 2, none⟩ = some (.slice KA (List.length kl) KC) ∧ w'.cell? ⟨g, i * 2 + 1, none⟩ = some (.slice VA (List.length vl) VC)) (first | exact ⟨hK, hV⟩ | exact ⟨hKn, hVn⟩) (first | (go_at_call 12; refine (short_any _ _ kl vl _ HKK.out.drew HVV.out.drew).mono ?_; rintro e w6 ⟨uv, rfl, hu, hbN⟩; have hKn : w6.cell? ⟨g, i * 2, none⟩ = some (.slice KA (List.length kl) KC) := (hbN.cell (World.block_lt_of_cell? w5 _ hK)).trans hK; have hVn : w6.cell? ⟨g, i * 2 + 1, none⟩ = some (.slice VA (List.length vl) VC) := (hbN.cell (World.block_lt_of_cell? w5 _ hV)).trans hV))
      have nHKE := HKE.out.drew.below hbN
      have nHBv := HBv.out.drew.below hbN
      have nHK := HK.out.drew.below hbN
      have nHC := HC.out.drew.below hbN
      have nHKK := HKK.out.drew.below hbN
      have nHVV := HVV.out.drew.below hbN
      have nHP := HP.out.drew.below hbN
      have nHQ := HQ.out.drew.below hbN
      have nHBE := HBE.out.drew.trans (hbN.mono HBE.out.size)
      have nHR := HR.out.drew.below hbN HR.out.lt
      clear HKE HBv HK HC HKK HVV HP HQ HBE HR hbN hK hV
      have hK := hKn; have hV := hVn; clear hKn hVn
      have HKE := Lib.hid nHKE; clear nHKE
      have HBv := Lib.hid nHBv; clear nHBv
      have HK := Lib.hid nHK; clear nHK
      have HC := Lib.hid nHC; clear nHC
      have HKK := Lib.hid nHKK; clear nHKK
      have HVV := Lib.hid nHVV; clear nHVV
      have HP := Lib.hid nHP; clear nHP
      have HQ := Lib.hid nHQ; clear nHQ
      have HBE := Lib.hid nHBE; clear nHBE
      have HR := Lib.hid nHR; clear nHR
      have HU := Lib.hid hu; clear hu
      go_wp2_with fail
      go_region_held3 (fun w' => w'.cell? ⟨g, i * 2, none⟩ = some (.slice KA (List.length kl) KC) ∧ w'.cell? ⟨g, i * 2 + 1, none⟩ = some (.slice VA (List.length vl) VC)) (first | exact ⟨hK, hV⟩ | exact ⟨hKn, hVn⟩) (first | (go_at_call 13; refine (rshort_any _ _ kl vl _ HKK.out.drew HVV.out.drew).mono ?_; rintro e w7 ⟨xv, rfl, hx, hbN⟩; have hKn : w7.cell? ⟨g, i * 2, none⟩ = some (.slice KA (List.length kl) KC) := (hbN.cell (World.block_lt_of_cell? w6 _ hK)).trans hK; have hVn : w7.cell? ⟨g, i * 2 + 1, none⟩ = some (.slice VA (List.length vl) VC) := (hbN.cell (World.block_lt_of_cell? w6 _ hV)).trans hV))
      have nHKE := HKE.out.drew.below hbN
      have nHBv := HBv.out.drew.below hbN
      have nHK := HK.out.drew.below hbN
      have nHC := HC.out.drew.below hbN
      have nHKK := HKK.out.drew.below hbN
      have nHVV := HVV.out.drew.below hbN
      have nHP := HP.out.drew.below hbN
      have nHQ := HQ.out.drew.below hbN
      have nHU := HU.out.drew.below hbN
      have nHBE := HBE.out.drew.trans (hbN.mono HBE.out.size)
      have nHR := HR.out.drew.below hbN HR.out.lt
      clear HKE HBv HK HC HKK HVV HP HQ HU HBE HR hbN hK hV
      have hK := hKn; have hV := hVn; clear hKn hVn
      have HKE := Lib.hid nHKE; clear nHKE
      have HBv := Lib.hid nHBv; clear nHBv
      have HK := Lib.hid nHK; clear nHK
      have HC := Lib.hid nHC; clear nHC
      have HKK := Lib.hid nHKK; clear nHKK
      have HVV := Lib.hid nHVV; clear nHVV
      have HP := Lib.hid nHP; clear nHP
      have HQ := Lib.hid nHQ; clear nHQ
      have HU := Lib.hid nHU; clear nHU
      have HBE := Lib.hid nHBE; clear nHBE
      have HR := Lib.hid nHR; clear nHR
      have HX := Lib.hid hx; clear hx
      go_wp2_with fail
      refine (same_any _ _ _ _ w7 HP.out HQ.out).mono ?_
      rw [beq_self_eq_true]
      rintro e w' ⟨rfl, rfl⟩
      go_wp2_with fail
      refine (same_any _ _ _ _ w7 HU.out HX.out).mono ?_
      rw [beq_self_eq_true]
      rintro e w' ⟨rfl, rfl⟩
      go_wp2_with fail
      go_roundw
      case rel => exact ⟨i + 1, by omega, by go_num, HR.out, HKE.out, HBv.out, HK.out, HC.out, HBE.out⟩
      case measure => simp [intOf]; omega
    · have HBE := Lib.hid nHBE; clear nHBE hrow nKE nBv nK nC
      go_wp2_with fail
      refine (awake_any wr).mono ?_
      rintro e w8 ⟨rfl, hb8⟩
      have HB := Lib.hid (HBE.out.trans (hb8.mono HBE.out.size)); clear hb8
      go_wp2_with fail
      go_ret
      exact ⟨rfl, HB.out⟩

theorem laidOut : laidOutB Try.prog = true := by kernel_rfl
set_option maxRecDepth 100000 in
theorem lifted (os : Os) (started : os.Started) (H : Type) (enc : TypeId × Value → H) :
    ReturnsInHanded {} Try.checked os 4 .any (Rows.tagExactSpec.pre6 enc Try.prog Try.f4 Rows.tagExactRow.domain false) (Rows.tagExactSpec.post enc Try.prog Try.f4 false true false false) := by
  refine returnsInHanded_of_change (C := Try.checked) own started (by kernel_rfl) Try.func4
    (ChangeSpec.witness6 (enc := enc) (C := Try.checked) false ⟨#[], #[.slice none 0 0, .slice none 0 0, .agg #[.int .i64 0, .int .i64 0]], []⟩ 8 (by kernel_rfl) (by kernel_rfl) (by kernel_rfl) (by kernel_rfl)) ?_
  intro W base args ds gs before hval0 hW hcnd _
  have hval : ∀ (j : Nat) t v, Try.f4.params[j]? = some t → args[j]? = some v → Value.okWide Try.prog W .any base t v := hval0
  have hW' := hW
  obtain ⟨p, q, hA0, hV, rfl, hfz, hnd⟩ := hW
  have hA : DataW.TrodAll enc Try.prog W 0 (fun _ => true) true Try.f4.params.toList args.toList ds p := hA0
  rw [Try.params4] at hA hval
  obtain ⟨v0, vs0, d0, ds0, p0, q0, hargs, rfl, rfl, h0, r0⟩ := trodAll_cons hA
  obtain ⟨v1, vs1, d1, ds1, p1, q1, rfl, rfl, rfl, h1, r1⟩ := trodAll_cons r0
  obtain ⟨v2, vs2, d2, ds2, p2, q2, rfl, rfl, rfl, h2, r2⟩ := trodAll_cons r1
  obtain ⟨rfl, rfl, rfl⟩ := trodAll_nil r2
  obtain rfl : args = #[v0, v1, v2] := by cases args; simp_all
  obtain ⟨rfl, rfl⟩ := trodVars_none hV
  have lt0 : ∀ x ∈ p0, x.block < W.heap.size := by obtain ⟨m, hm⟩ := h0; exact DataW.trod_lt m _ _ _ hm
  have lt1 : ∀ x ∈ p1, x.block < W.heap.size := by obtain ⟨m, hm⟩ := h1; exact DataW.trod_lt m _ _ _ hm
  have lt2 : ∀ x ∈ p2, x.block < W.heap.size := by obtain ⟨m, hm⟩ := h2; exact DataW.trod_lt m _ _ _ hm
  obtain ⟨l, hl⟩ := open_bytes Try.underlying22 Try.underlying5 (by kernel_rfl) (hval 0 22 v0 rfl rfl) h0
  obtain ⟨l1, hl1⟩ := open_bytes Try.underlying22 Try.underlying5 (by kernel_rfl) (hval 1 22 v1 rfl rfl) h1
  obtain ⟨a, b, rfl, wa, wb⟩ := open_pair Try.underlying23 Try.underlying3 (by kernel_rfl) (by kernel_rfl) (hval 2 23 v2 rfl rfl) h2
  clear hA0 hval0
  refine (walk v0 v1 l l1 a b W hl hl1).mono fun e W' ⟨he, bel⟩ => ?_
  subst he
  exact ⟨_, rfl, _, _, _, [], _, [], hW', trodAll_mk1 (shut_bool Try.underlying4 _), (trodAll_cons_mk (Below.trod laidOut (by kernel_rfl) (of_decide_eq_true (by kernel_rfl)) h0 bel lt0) (trodAll_cons_mk (Below.trod laidOut (by kernel_rfl) (of_decide_eq_true (by kernel_rfl)) h1 bel lt1) (trodAll_cons_mk (Below.trod laidOut (by kernel_rfl) (of_decide_eq_true (by kernel_rfl)) h2 bel lt2) trodAll_mk0))), rfl, bel.frame _, fun h => by cases h⟩

theorem proved : Rows.TagExactSaid :=
  OpenClaim.holds_of_wide 4 Try.f4 rfl rfl rfl rfl rfl rfl rfl ⟨rfl, rfl, rfl, rfl, rfl⟩ rfl rfl rfl rfl rfl (by kernel_rfl) Try.func4 (by kernel_rfl)
    (of_decide_eq_true (by kernel_rfl)) (by unfold Func.isWrapper; first | (rw [if_pos (by decide +kernel)]; kernel_rfl) | (rw [if_neg (by decide +kernel)]; exact ⟨rfl, rfl⟩))
    (fun os started H enc _ => lifted os started H enc)
#print axioms proved
end Go.Proofs.Yteahbonhdoaibaa.tagExact
