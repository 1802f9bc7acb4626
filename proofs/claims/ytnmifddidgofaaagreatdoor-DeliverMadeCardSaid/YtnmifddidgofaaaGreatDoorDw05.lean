/-
  Contracts of the functions that the laws reach.
-/
import Derived.RangeFuncSeq
import Derived.RangeFuncIn
import Derived.Lib.Overlaps
import Derived.Test.YtnmifddidgofaaaGreatDoorDw01
import Derived.Test.YtnmifddidgofaaaGreatDoorDw02
import Derived.Test.YtnmifddidgofaaaGreatDoorDw03
import Derived.Test.YtnmifddidgofaaaGreatDoorDw04
set_option linter.all false
namespace Go.Proofs.YtnmifddidgofaaaGreatDoor
open Go.RowKit
theorem ipow_le {a b : Nat} (h : a ≤ b) : (2 : Int) ^ a ≤ 2 ^ b := by
 have := Nat.pow_le_pow_right (n := 2) (by decide) h
 exact_mod_cast this
theorem and_mask (x : Int) (n : Nat) (hn : n ≤ 32) : ibits .and .i64 x (2 ^ n - 1) = x % 2 ^ n := by
 have hp : (2 : Int) ^ n ≤ 2 ^ 32 := ipow_le hn
 have hp' : (2 : Nat) ^ n ≤ 2 ^ 32 := Nat.pow_le_pow_right (by decide) hn
 have hq : (0 : Int) < 2 ^ n := Int.pow_pos (by decide)
 show IntKind.i64.wrap ((BitVec.ofInt 64 x &&& BitVec.ofInt 64 (2 ^ n - 1)).toNat : Int) = _
 have hd : (2 : Int) ^ n ∣ 2 ^ 64 := ⟨2 ^ (64 - n), by rw [← Int.pow_add]; congr 1; omega⟩
 have e2 : ((2 : Int) ^ n - 1) = ((2 ^ n - 1 : Nat) : Int) := by
   have : 0 < (2 : Nat) ^ n := Nat.pow_pos (by decide)
   rw [Int.ofNat_sub this]; simp
 have e : ((BitVec.ofInt 64 x &&& BitVec.ofInt 64 (2 ^ n - 1)).toNat : Int) = x % 2 ^ n := by
   rw [e2, BitVec.toNat_and, BitVec.ofInt_natCast, BitVec.toNat_ofNat, Nat.mod_eq_of_lt (show 2 ^ n - 1 < 2 ^ 64 by omega), Nat.and_two_pow_sub_one_eq_mod, BitVec.toNat_ofInt]
   have h0 : 0 ≤ x % ((2 : Int) ^ 64) := Int.emod_nonneg _ (by decide)
   have h1 : (((x % (2 : Int) ^ 64).toNat : Nat) : Int) = x % 2 ^ 64 := Int.toNat_of_nonneg h0
   rw [Int.natCast_emod]
   show (((x % (2 : Int) ^ 64).toNat : Nat) : Int) % ((2 ^ n : Nat) : Int) = _
   rw [h1]
   push_cast
   exact Int.emod_emod_of_dvd x hd
 rw [e, IntKind.wrap_i64]
 have h1 := Int.emod_nonneg x (show (2 : Int) ^ n ≠ 0 by omega)
 have h2 := Int.emod_lt_of_pos x hq
 omega
def lw (n x : Int) : Int := x % 2 ^ n.toNat
theorem pw_pos (n : Int) : (0 : Int) < 2 ^ n.toNat := Int.pow_pos (by decide)
theorem pw_le {n : Int} {m : Nat} (h : n ≤ m) : (2 : Int) ^ n.toNat ≤ 2 ^ m := ipow_le (by omega)
theorem lw_rng (n x : Int) : 0 ≤ lw n x ∧ lw n x < 2 ^ n.toNat := ⟨Int.emod_nonneg x (by have := pw_pos n; omega), Int.emod_lt_of_pos x (pw_pos n)⟩
theorem shl1 {n : Int} (h1 : n ≤ 32) : IntKind.i64.wrap (1 * 2 ^ min n.toNat 64) = 2 ^ n.toNat := by
 have h2 := pw_le (m := 32) h1
 have h3 := pw_pos n
 rw [show min n.toNat 64 = n.toNat by omega, IntKind.wrap_i64]
 omega
theorem mask_e {n : Int} (h1 : n ≤ 32) : iarith .sub .i64 (IntKind.i64.wrap (1 * 2 ^ min n.toNat 64)) 1 = 2 ^ n.toNat - 1 := by
 have h2 := pw_le (m := 32) h1
 have h3 := pw_pos n
 rw [shl1 h1]
 show IntKind.i64.wrap _ = _
 rw [IntKind.wrap_i64]
 omega
theorem low_e {n : Int} (x : Int) (h1 : n ≤ 32) : ibits .and .i64 x (iarith .sub .i64 (IntKind.i64.wrap (1 * 2 ^ min n.toNat 64)) 1) = lw n x := by
 rw [mask_e h1]
 exact and_mask x n.toNat (by omega)
theorem dvd64 {n : Int} (h : n ≤ 32) : (2 : Int) ^ n.toNat ∣ 18446744073709551616 := ⟨2 ^ (64 - n.toNat), by rw [← Int.pow_add, show n.toNat + (64 - n.toNat) = 64 by omega]; rfl⟩
theorem lw_wrap {n : Int} (x : Int) (h : n ≤ 32) : lw n (IntKind.i64.wrap x) = lw n x := by
 obtain ⟨c, hc⟩ := dvd64 h
 unfold lw
 have : IntKind.i64.wrap x = x - 18446744073709551616 * ((x + 9223372036854775808) / 18446744073709551616) := by
   rw [IntKind.wrap_i64]; omega
 rw [this, hc, Int.mul_assoc, Int.sub_mul_emod_self_left]
theorem lw_sub_l (n x y : Int) : lw n (lw n x - y) = lw n (x - y) := by unfold lw; exact Int.emod_sub_emod ..
theorem lw_sub_r (n x y : Int) : lw n (x - lw n y) = lw n (x - y) := by unfold lw; exact Int.sub_emod_emod ..
def sg (n a b : Int) : Int := if 2 ^ (n - 1).toNat ≤ lw n (b - a) then lw n (b - a) - 2 ^ n.toNat else lw n (b - a)
attribute [irreducible] lw
open Go.RowKit
variable {G : Nat → AV}
theorem svalid_c (n : Int) (h1 : 1 ≤ n) (h2 : n ≤ 32) : LSpec Tryz.prog G 84 [iAV n] [] (fun _ => (.bool true, [])) := by
 refine goW [] Tryz.func84 rfl ?_
 conv => whnf
 repeat' ((first | refine T.s ?_ | ((first | apply goB | apply ABr.dec | apply ABr.gen) <;> intro h <;> try (exfalso; omega)) | refine LFresh.mk fun r => ?_ | exact T.z | fail) <;> conv => whnf)
 all_goals (try dsimp only)
 all_goals
   (show RetL _ _ _; refine goR ?_)
   simp [icmp] <;> omega
theorem slow_c (n x : Int) (h1 : 1 ≤ n) (h2 : n ≤ 32) : LSpec Tryz.prog G 113 [iAV n, iAV x] [] (fun _ => (iAV (lw n x), [])) := by
 refine goW [] Tryz.func113 rfl ?_
 conv => whnf
 repeat' ((first | (show LCall _ _ _ _ _ _; first | refine LCall.pure (svalid_c _ h1 h2) ?_ | refine goE ?_) | refine T.s ?_ | ((first | apply goB | apply ABr.dec | apply ABr.gen) <;> intro h <;> try (exfalso; omega)) | refine LFresh.mk fun r => ?_ | exact T.z | fail) <;> conv => whnf)
 all_goals (try dsimp only)
 (show RetL _ _ _; refine goR ?_)
 exact congrArg iAV (low_e x h2)
theorem sdist_c (n a b : Int) (h1 : 1 ≤ n) (h2 : n ≤ 32) : LSpec Tryz.prog G 99 [iAV n, iAV a, iAV b] [] (fun _ => (iAV (lw n (b - a)), [])) := by
 refine goW [] Tryz.func99 rfl ?_
 conv => whnf
 repeat' ((first | (show LCall _ _ _ _ _ _; first | refine LCall.pure (slow_c _ _ h1 h2) ?_ | refine goE ?_) | refine T.s ?_ | ((first | apply goB | apply ABr.dec | apply ABr.gen) <;> intro h <;> try (exfalso; omega)) | refine LFresh.mk fun r => ?_ | exact T.z | fail) <;> conv => whnf)
 all_goals (try dsimp only)
 (show RetL _ _ _; refine goR ?_)
 exact congrArg iAV (lw_wrap _ h2)
theorem shalf_c (n : Int) (h1 : 1 ≤ n) (h2 : n ≤ 32) : LSpec Tryz.prog G 100 [iAV n] [] (fun _ => (iAV (2 ^ (n - 1).toNat), [])) := by
 refine goW [] Tryz.func100 rfl ?_
 conv => whnf
 repeat' ((first | refine T.s ?_ | ((first | apply goB | apply ABr.dec | apply ABr.gen) <;> intro h <;> try (exfalso; omega)) | refine LFresh.mk fun r => ?_ | exact T.z | fail) <;> conv => whnf)
 all_goals (try dsimp only)
 have e : iarith .sub .i64 n 1 = n - 1 := by (exact T.num)
 (show RetL _ _ _; refine goR ?_)
 rw [e]
 exact congrArg iAV (shl1 (by omega))
theorem sg_e {n : Int} (h1 : 1 ≤ n) (h2 : n ≤ 32) (a b : Int) (h : 2 ^ (n - 1).toNat ≤ lw n (b - a)) : iarith .sub .i64 (lw n (b - a)) (IntKind.i64.wrap (1 * 2 ^ min n.toNat 64)) = sg n a b := by
 have h3 := lw_rng n (b - a)
 have h4 := pw_le (m := 32) h2
 rw [shl1 h2]
 unfold sg
 rw [if_pos h]
 show IntKind.i64.wrap _ = _
 rw [IntKind.wrap_i64]
 omega
theorem ssigned_c (n a b : Int) (h1 : 1 ≤ n) (h2 : n ≤ 32) : LSpec Tryz.prog G 85 [iAV n, iAV a, iAV b] [] (fun _ => (iAV (sg n a b), [])) := by
 refine goW [] Tryz.func85 rfl ?_
 conv => whnf
 repeat' ((first | (show LCall _ _ _ _ _ _; first | refine LCall.pure (svalid_c _ h1 h2) ?_ | refine LCall.pure (sdist_c _ _ _ h1 h2) ?_ | refine LCall.pure (shalf_c _ h1 h2) ?_ | refine goE ?_) | refine T.s ?_ | ((first | apply goB | apply ABr.dec | apply ABr.gen) <;> intro h <;> try (exfalso; omega)) | refine LFresh.mk fun r => ?_ | exact T.z | fail) <;> conv => whnf)
 all_goals (try dsimp only)
 · (show RetL _ _ _; refine goR ?_)
   exact congrArg iAV (sg_e h1 h2 a b (by omega))
 · (show RetL _ _ _; refine goR ?_)
   unfold sg
   rw [if_neg (by omega)]
   try rfl
theorem r2valid_c (n : Int) (h1 : 1 ≤ n) (h2 : n ≤ 32) : LSpec Tryz.prog G 80 [iAV n] [] (fun _ => (.bool true, [])) := by
 refine goW [] Tryz.func80 rfl ?_
 conv => whnf
 repeat' ((first | refine T.s ?_ | ((first | apply goB | apply ABr.dec | apply ABr.gen) <;> intro h <;> try (exfalso; omega)) | refine LFresh.mk fun r => ?_ | exact T.z | fail) <;> conv => whnf)
 all_goals (try dsimp only)
 all_goals
   (show RetL _ _ _; refine goR ?_)
   simp [icmp] <;> omega
theorem u64n {n : Int} (h1 : 0 ≤ n) (h2 : n ≤ 32) : (IntKind.u64.wrap n).toNat = n.toNat := by rw [IntKind.wrap_u64]; omega
theorem r2low_c (n x : Int) (h1 : 1 ≤ n) (h2 : n ≤ 32) : LSpec Tryz.prog G 54 [iAV n, iAV x] [] (fun _ => (iAV (lw n x), [])) := by
 refine goW [] Tryz.func54 rfl ?_
 conv => whnf
 repeat' ((first | (show LCall _ _ _ _ _ _; first | refine LCall.pure (r2valid_c _ h1 h2) ?_ | refine goE ?_) | refine T.s ?_ | ((first | apply goB | apply ABr.dec | apply ABr.gen) <;> intro h <;> try (exfalso; omega)) | refine LFresh.mk fun r => ?_ | exact T.z | refine ⟨_, rfl, rfl, ?_⟩ | fail) <;> conv => whnf)
 all_goals (try dsimp only)
 (show RetL _ _ _; refine goR ?_)
 rw [u64n (by omega) h2]
 exact congrArg iAV (low_e x h2)
theorem r2dist_c (n a b : Int) (h1 : 1 ≤ n) (h2 : n ≤ 32) : LSpec Tryz.prog G 108 [iAV n, iAV a, iAV b] [] (fun _ => (iAV (lw n (b - a)), [])) := by
 refine goW [] Tryz.func108 rfl ?_
 conv => whnf
 repeat' ((first | (show LCall _ _ _ _ _ _; first | refine LCall.pure (r2valid_c _ h1 h2) ?_ | refine LCall.pure (r2low_c _ _ h1 h2) ?_ | refine goE ?_) | refine T.s ?_ | ((first | apply goB | apply ABr.dec | apply ABr.gen) <;> intro h <;> try (exfalso; omega)) | refine LFresh.mk fun r => ?_ | exact T.z | refine ⟨_, rfl, rfl, ?_⟩ | fail) <;> conv => whnf)
 all_goals (try dsimp only)
 (show RetL _ _ _; refine goR ?_)
 rw [u64n (by omega) h2]
 refine congrArg iAV ((low_e _ h2).trans ?_)
 show lw n (IntKind.i64.wrap _) = _
 rw [lw_wrap _ h2, lw_sub_l, lw_sub_r]
theorem r2signed_c (n a b : Int) (h1 : 1 ≤ n) (h2 : n ≤ 32) : LSpec Tryz.prog G 95 [iAV n, iAV a, iAV b] [] (fun _ => (iAV (sg n a b), [])) := by
 have e : iarith .sub .i64 n 1 = n - 1 := by (exact T.num)
 have e2 : IntKind.i64.wrap (1 * 2 ^ min (IntKind.u64.wrap (n - 1)).toNat IntKind.i64.bits) = 2 ^ (n - 1).toNat := by show IntKind.i64.wrap (1 * 2 ^ min (IntKind.u64.wrap (n - 1)).toNat 64) = _; rw [u64n (by omega) (by omega)]; exact shl1 (by omega)
 refine goW [] Tryz.func95 rfl ?_
 conv => whnf
 repeat' ((first | (show LCall _ _ _ _ _ _; first | refine LCall.pure (r2valid_c _ h1 h2) ?_ | refine LCall.pure (r2dist_c _ _ _ h1 h2) ?_ | refine goE ?_) | refine T.s ?_ | ((first | apply goB | apply ABr.dec | apply ABr.gen) <;> intro h <;> try (exfalso; omega)) | refine LFresh.mk fun r => ?_ | exact T.z | refine ⟨_, rfl, rfl, ?_⟩ | fail) <;> conv => whnf)
 all_goals (try dsimp only)
 · rw [e, e2] at h
   (show RetL _ _ _; refine goR ?_)
   rw [u64n (by omega) h2]
   exact congrArg iAV (sg_e h1 h2 a b (by omega))
 · rw [e, e2] at h
   (show RetL _ _ _; refine goR ?_)
   unfold sg
   rw [if_neg (by omega)]
   try rfl
open Go.RowKit
section
variable {P : Program} {T : Tys} {G : Nat → AV} {N : Nat} {e : Env} {σ : Store}
def YSpec (P : Program) (l : Nat) (r : Loop) (e G : Nat → AV) (arg : AV) (ps : List (Nm × Pl)) (post : Nm → List (Nm × Pl)) : Prop :=
 (∀ q, (∀ x ∈ post q, x.1 = q ∨ x.1 ∈ ps.map (·.1)) ∧ (q ∉ ps.map (·.1) → ((post q).map (·.1)).Nodup)) ∧
 ∀ (τ : Store) (w : World) (v : Value), Mem τ w → Glob (fun _ => .yl l r e G) τ w → (∀ x ∈ ps, τ x.1 = some x.2) → (ps.map (·.1)).Nodup → Rd τ w arg v →
   YieldAt Fence.wide 0 P l #[v] w fun x w' => ∃ q, x = .returned (.bool true) ∧ eraN τ (ps.map (·.1)) q = none ∧ ((post q).map (·.1)).Nodup ∧
     Mem (putAll (eraN τ (ps.map (·.1))) (post q)) w' ∧ Stp τ w (putAll (eraN τ (ps.map (·.1))) (post q)) w'
def QY (τ : Store) (ps : List (Nm × Pl)) (post : Nm → List (Nm × Pl)) : Exit → Env → Store → Prop
 | .normal, _, σ => ∃ q, eraN τ (ps.map (·.1)) q = none ∧ ((post q).map (·.1)).Nodup ∧ Sub (putAll (eraN τ (ps.map (·.1))) (post q)) σ
 | _, _, _ => False
def Q0 : Exit → Env → Store → Prop := fun _ _ _ => False
theorem YSpec.intro {l : Nat} {r : Loop} {arg : AV} {ps : List (Nm × Pl)} {post : Nm → List (Nm × Pl)} {p : Nat} (hG : ∀ g, (G g).isYl = false) (hp : r.params = #[p]) (hs : r.state = .ready) (he : r.pending = none) (hN : r.tmps.size = N) (hpN : p < N)
   (ha : noRF r.assign = true) (hb : noRF r.body = true) (hpost : ∀ q, (∀ x ∈ post q, x.1 = q ∨ x.1 ∈ ps.map (·.1)) ∧ (q ∉ ps.map (·.1) → ((post q).map (·.1)).Nodup))
   (h : ∀ τ : Store, (∃ q, eraN τ (ps.map (·.1)) q = none) → (∀ x ∈ ps, τ x.1 = some x.2) → (ps.map (·.1)).Nodup → SWp P G N r.assign (Qseq (fun e1 σ1 => SWp P G N r.body (QY τ ps post) e1 σ1) Q0) (put e p arg) τ) : YSpec P l r e G arg ps post := by
 refine ⟨hpost, fun τ w v hm hg hps hnd hv => ?_⟩
 obtain ⟨hl0, hl, henv, hgl⟩ := hg 0
 have hlt : l < w.heap.size := (Array.getElem?_eq_some_iff.1 hl).1
 have hy := run_yield (P := P) (args := #[v]) hl (by rw [hp]; rfl)
 rw [hp] at hy
 refine ⟨_, _, _, _, hy, roundIn_of_wpIn trivial ?_⟩
 have e0 : ((#[p].zip #[v]).foldl (fun tmps (t, a) => tmps.setIfInBounds t a) r.tmps) = r.tmps.setIfInBounds p v := by simp
 rw [e0]
 have hrel : Rel G N (put e p arg) τ τ w ⟨r.tmps.setIfInBounds p v, []⟩ w := by
   refine ⟨by simp [hN], Dfr.nil, fun x => ?_, hm, Stp.refl τ w, Glob.of hG hgl⟩
   unfold put
   by_cases hx : x = p
   · subst hx
     rw [show Nat.beq x x = true from Nat.beq_refl x]
     have : (r.tmps.setIfInBounds x v).getD x undef = v := by simp [Array.getD_eq_getD_getElem?, hN, hpN]
     rw [this]
     exact hv
   · rw [show Nat.beq x p = false by
       cases hbq : Nat.beq x p with
       | false => rfl
       | true => exact absurd (Nat.eq_of_beq_eq_true hbq) hx]
     have e1 : (r.tmps.setIfInBounds p v).getD x undef = r.tmps.getD x undef := by
       simp only [Array.getD_eq_getD_getElem?, Array.getElem?_setIfInBounds]
       rw [if_neg (fun e => hx e.symm)]
     rw [e1]
     exact henv x
 have h1 := (h τ ⟨.b w.heap.size, eraN_keep τ _ (hm.fresh (Nat.le_refl _))⟩ hps hnd).run (ro := some l) τ w _ w hrel ha
 refine wpIn_mono h1 ?_
 rintro x a1 w1 ⟨e1, σ1, hq, hr1⟩
 cases x with
 | normal =>
   have hl1 : w1.heap[l]? = some (.loop r) := (hr1.st.old l hlt hl0).2.trans hl
   have hσ1 : σ1 (.b l) = none := (hr1.st.old l hlt hl0).1
   have hlt1 : l < w1.heap.size := (Array.getElem?_eq_some_iff.1 hl1).1
   refine ⟨_, run_beginRound hl1 hs, ?_⟩
   have hs1 : ∀ b, b ≠ l → (w1.putObj l (.loop { r with state := .busy })).heap[b]? = w1.heap[b]? := fun b hb => World.putObj_heap_other hb
   have hsb : ∀ b, b ≠ l → (w.putObj l (.loop { r with state := .busy })).heap[b]? = w.heap[b]? := fun b hb => World.putObj_heap_other hb
   have hl2 : (w1.putObj l (.loop { r with state := .busy })).heap[l]? = some (.loop { r with state := .busy }) := World.putObj_heap_same hlt1
   have hlb : (w.putObj l (.loop { r with state := .busy })).heap[l]? = some (.loop { r with state := .busy }) := World.putObj_heap_same hlt
   have hr2 : Rel G N e1 σ1 τ (w.putObj l (.loop { r with state := .busy })) a1 (w1.putObj l (.loop { r with state := .busy })) := by
     refine ⟨hr1.n, ?_, fun x => (hr1.env x).mark hl1 nofun nofun hs1, hr1.mem.mark hl1 nofun nofun hs1, ⟨hr1.st.os, hr1.st.tape, hr1.st.output, ?_, fun b hb hn => ?_, fun b cur t hb => ?_⟩, ?_⟩
     · obtain ⟨Ds, g1, g2, g3⟩ := hr1.d
       refine ⟨Ds, g1, g2, fun D hD => ?_⟩
       obtain ⟨k1, k2, k3⟩ := g3 D hD
       exact ⟨by simpa using k1, k2, (hs1 D fun e => by subst e; rw [hl1] at k3; cases k3).trans k3⟩
     · have := hr1.st.size; simpa using this
     · have hb' : b < w.heap.size := by simpa using hb
       obtain ⟨k1, k2⟩ := hr1.st.old b hb' hn
       refine ⟨k1, ?_⟩
       by_cases hbl : b = l
       · subst hbl; rw [hl2, hlb]
       · rw [hs1 b hbl, hsb b hbl]; exact k2
     · have hbl : b ≠ l := fun e => by subst e; rw [hlb] at hb; cases hb
       rw [hsb b hbl] at hb
       obtain ⟨cur', k1, k2⟩ := hr1.st.row b cur t hb
       exact ⟨cur', (hs1 b hbl).trans k1, k2⟩
     · refine Glob.of hG fun g => ?_
       have := hgl g
       exact Rd.mark hl1 nofun nofun hs1 ((hgl g).mono hr1.st)
   refine wpIn_mono (SWp.run hq (ro := some l) τ _ a1 _ hr2 hb) ?_
   rintro x a3 w3 ⟨e3, σ3, hq3, hr3⟩
   cases x with
   | normal =>
     obtain ⟨q, k1, k2, k3⟩ := hq3
     have hltb : l < (w.putObj l (.loop { r with state := .busy })).heap.size := by simpa using hlt
     have hl3 : w3.heap[l]? = some (.loop { r with state := .busy }) := (hr3.st.old l hltb hl0).2.trans hlb
     have hlt3 : l < w3.heap.size := (Array.getElem?_eq_some_iff.1 hl3).1
     have hs3 : ∀ (o : Obj) b, b ≠ l → (w3.putObj l o).heap[b]? = w3.heap[b]? := fun o b hb => World.putObj_heap_other hb
     have hr' : ({ r with state := .ready, pending := none } : Loop) = r := by cases r; simp_all
     refine ⟨.bool true, w3.putObj l (.loop r), ?_, q, rfl, k1, k2, ?_, ?_⟩
     · have := run_endRound (P := P) none hl3
       simpa [hr'] using this
     · exact ((hr3.mem.mark hl3 nofun nofun (hs3 _)).forget k3)
     · have hsub : ∀ b, σ3 b = none → putAll (eraN τ (ps.map (·.1))) (post q) b = none := fun b hb => by
         cases hc : putAll (eraN τ (ps.map (·.1))) (post q) b with
         | none => rfl
         | some c => rw [k3 b c hc] at hb; cases hb
       refine ⟨hr3.st.os, hr3.st.tape, hr3.st.output, ?_, fun b hb hn => ?_, fun b cur t hb => ?_⟩
       · have := hr3.st.size; simpa using this
       · obtain ⟨g1, g2⟩ := hr3.st.old b (by simpa using hb) hn
         refine ⟨hsub _ g1, ?_⟩
         by_cases hbl : b = l
         · subst hbl; rw [World.putObj_heap_same hlt3, hl]
         · rw [hs3 _ b hbl, g2, hsb b hbl]
       · have hbl : b ≠ l := fun e => by subst e; rw [hl] at hb; cases hb
         obtain ⟨cur', g1, g2⟩ := hr3.st.row b cur t (by rw [hsb b hbl]; exact hb)
         exact ⟨cur', (hs3 _ b hbl).trans g1, g2⟩
   | _ => exact hq3.elim
 | _ => exact hq.elim
end
open Go.RowKit
section
variable {P : Program} {T : Tys} {G : Nat → AV} {N : Nat} {e : Env} {σ σ0 : Store} {w w0 : World} {a : Act}
theorem AOps.sound_app {ro : Option Nat} (hT : TOk P T) {ops : Array Oper} {K : Env → Store → Prop} {Q : Exit → Act → World → Prop} {rest : List Oper} : ∀ (l : List Oper) (e : Env) (σ : Store) (a : Act) (w : World), Rel G N e σ σ0 w0 a w → AOps P T G N ops l K e σ →
   (∀ a' w' e' σ', K e' σ' → Rel G N e' σ' σ0 w0 a' w' → wpListIn (FW ro) 0 P ops Q rest a' w') → wpListIn (FW ro) 0 P ops Q (l ++ rest) a w := by
 intro l
 induction l with
 | nil => exact fun e σ a w hr h hq => hq a w e σ h hr
 | cons o l ih =>
   intro e σ a w hr h hq
   exact AOp1.sound hT hr h fun a' w' e' σ' hk hr' => ih e' σ' a' w' hr' hk hq
structure AYl (P : Program) (G : Nat → AV) (N : Nat) (y x : AV) (d : Option Tmp) (K : Env → Store → Prop) (e : Env) (σ : Store) : Prop where
 ex : ∃ (l : Nat) (r : Loop) (e0 G0 : Nat → AV) (ps : List (Nm × Pl)) (post : Nm → List (Nm × Pl)), (∀ g, G g = .yl l r e0 G0) ∧ y = .lit (.func (.yield l) #[] #[]) ∧ YSpec P l r e0 G0 x ps post ∧ (∀ z ∈ ps, σ z.1 = some z.2) ∧ (ps.map (·.1)).Nodup ∧
   ∀ q, eraN σ (ps.map (·.1)) q = none → ((post q).map (·.1)).Nodup → putE N e d (.bool true) fun e' => K e' (putAll (eraN σ (ps.map (·.1))) (post q))
theorem AYl.sound {ro : Option Nat} {ops : Array Oper} {Q : Exit → Act → World → Prop} {next : Act → World → Prop} {o : Oper} {c x : Operand} {ts : Array TypeId} {K : Env → Store → Prop} (hop : o.op = .call { callee := .value c, args := #[x], argTypes := ts }) (hg : o.guard = none)
   (hr : Rel G N e σ σ0 w0 a w) (h : AYl P G N (ev G e c) (ev G e x) o.dst K e σ) (hn : ∀ a' w' e' σ', K e' σ' → Rel G N e' σ' σ0 w0 a' w' → next a' w') :
   if Region.wanted o (yielded ops a.tmps) then o.wpIn (FW ro) 0 P a w next Q else (∀ f, o.about P w a.eval = some f → (FW ro).fn f) ∧ next (a.put o.dst undef) w := by
 obtain ⟨l, r, e0, G0, ps, post, h1, h2, h3, h4, h5, h6⟩ := h.ex
 have hc := ev_sound hr.env hr.glob c
 have hx := ev_sound hr.env hr.glob x
 rw [h2] at hc
 have hcv : a.eval c = .func (.yield l) #[] #[] := by
   generalize a.eval c = cv at hc
   cases hc
   rfl
 have hG : Glob (fun _ => .yl l r e0 G0) σ w := fun g => by have := hr.glob g; rw [h1] at this; exact this
 obtain ⟨fn, tmps, az, body, hy, hround⟩ := h3.2 σ w (a.eval x) hr.mem hG h4 h5 hx
 have he : (execOp a.eval o).run P w = .ok (.round l fn tmps az body) w := by
   unfold execOp
   rw [hop]
   simp only [resolve, hcv, Deferred.ofValue, Sem.run_bind, Sem.run_pure, Result.andThen_ok, invoke]
   simp [hy]
 have hw : Region.wanted o (yielded ops a.tmps) = true := by simp [Region.wanted, hg]
 rw [if_pos hw]
 unfold Oper.wpIn
 refine ⟨fun _ _ => trivial, ?_⟩
 rw [semAt_of (x := .round l fn tmps az body) (w' := w) _ he nofun]
 refine ⟨fun h => (by cases h), ?_⟩
 have hround' : RoundIn (FW ro) 0 P l fn tmps az body w _ := hround
 refine hround'.mono ?_
 rintro x w' ⟨q, rfl, k1, k2, k3, k4⟩
 obtain ⟨e', g1, g2⟩ := hr.step k4 k3 (.bool true) (h6 q k1 k2)
 exact hn _ _ _ _ g1 g2
theorem SWp.yieldR (hT : TOk P T) {id : Nat} {ops : Array Oper} {Q : Exit → Env → Store → Prop} (pre post : List Oper) (o : Oper) {c x : Operand} {ts : Array TypeId} (hops : ops.toList = pre ++ o :: post)
   (hop : o.op = .call { callee := .value c, args := #[x], argTypes := ts }) (hg : o.guard = none)
   (h : AOps P T G N ops pre (fun e σ => AYl P G N (ev G e c) (ev G e x) o.dst (AOps P T G N ops post (Q .normal)) e σ) e σ) : SWp P G N (.region id ops false) Q e σ := by
 refine ⟨fun σ0 w0 a w hr hok => wpIn_region_list ?_⟩
 rw [hops]
 refine AOps.sound_app hT pre e σ a w hr h fun a' w' e' σ' hk hr' => ?_
 exact AYl.sound hop hg hr' hk fun a2 w2 e2 σ2 hk2 hr2 => AOps.sound hT post e2 σ2 a2 w2 hr2 hk2 fun a3 w3 e3 σ3 hk3 hr3 => ⟨e3, σ3, hk3, hr3⟩
theorem SWp.rangeFunc {g : Operand} {pm : Array Tmp} {assign body : Code} {Q : Exit → Env → Store → Prop} {gf : FuncId} {cs : List AV} {ps : List (Nm × Pl)} {post : Nm → List (Nm × Pl)} (hG : ∀ g, (G g).isYl = false) (hg : ev G e g = .clo (.func gf) [] cs)
   (hs : ∀ (fn : FuncId) (us : Array Value) (l D : Nat), us.size = N → LSpec P (fun _ => .yl l { state := .ready, pending := none, fn, tmps := us, params := pm, assign, body, defers := D } e G) gf (.lit (.func (.yield l) #[] #[]) :: cs) ps (fun q => (.tup [], post q)))
   (hps : ∀ z ∈ ps, σ z.1 = some z.2) (hnd : (ps.map (·.1)).Nodup) (hq : ∀ q, eraN σ (ps.map (·.1)) q = none → ((post q).map (·.1)).Nodup → Q .normal e (putAll (eraN σ (ps.map (·.1))) (post q))) :
   SWp P G N (.rangeFunc g pm assign body) Q e σ := by
 refine ⟨fun {ro} σ0 w0 a w hr hok => ?_⟩
 obtain rfl : ro = none := by cases ro with | none => rfl | some l => cases hok
 refine wpIn_rangeFunc fun fn hfn => ?_
 have hgv := ev_sound hr.env hr.glob g
 rw [hg] at hgv
 generalize hcv : a.eval g = cv at hgv
 cases hgv with
 | clo fnv fs cs' vs us hf hcl c1 c2 =>
 obtain rfl : vs = #[] := by
   cases vs with | mk l => cases l with | nil => rfl | cons x l => simp at hf
 obtain ⟨r, hrd⟩ : ∃ r : Loop, r = { state := .ready, pending := none, fn, tmps := a.tmps, params := pm, assign, body, defers := w.heap.size } := ⟨_, rfl⟩
 obtain ⟨W1, hW1⟩ : ∃ W1, (w.alloc (.deferred (some []))).alloc (.loop r) = W1 := ⟨_, rfl⟩
 have hL1 : W1.heap[w.heap.size + 1]? = some (.loop r) := by
   rw [← hW1]; have := World.alloc_heap_new (w.alloc (.deferred (some []))) (.loop r); rwa [World.size_alloc] at this
 have hK1 : W1.heap[w.heap.size]? = some (.deferred (some [])) := by
   rw [← hW1]; exact (Below.heap_alloc _ _ _ (by simp)).trans (World.alloc_heap_new w _)
 have hold : ∀ b, b < w.heap.size → W1.heap[b]? = w.heap[b]? := fun b hb => by
   rw [← hW1]; exact (Below.heap_alloc _ _ _ (by simp; omega)).trans (Below.heap_alloc _ _ _ hb)
 have hsz : W1.heap.size = w.heap.size + 2 := by rw [← hW1]; simp
 have hst : Stp σ w σ W1 := ⟨by rw [← hW1]; rfl, by rw [← hW1]; rfl, by rw [← hW1]; rfl, by omega, fun b hb hn => ⟨hn, hold b hb⟩, fun b cur t hb => ⟨cur, (hold b (Array.getElem?_eq_some_iff.1 hb).1).trans hb, rfl⟩⟩
 have hm1 : Mem σ W1 := ⟨fun p c hp => by
   obtain ⟨cur, g1, g2, g3⟩ := hr.mem.pl p c hp
   exact ⟨cur, (hold p (hr.mem.lt hp)).trans g1, g2, fun i hi => (g3 i hi).mono hst⟩, hr.mem.vl, hr.mem.fin⟩
 have hn0 : σ (.b w.heap.size) = none := hr.mem.fresh (Nat.le_refl _)
 have hn1 : σ (.b (w.heap.size + 1)) = none := hr.mem.fresh (Nat.le_succ _)
 have hglob : Glob (fun _ => .yl (w.heap.size + 1) r e G) σ W1 := fun _ => ⟨hn1, hL1, fun i => by rw [hrd]; exact (hr.env i).mono hst, fun k => by
   have hk := hr.glob k
   have hy := hG k
   revert hk hy
   generalize G k = x
   cases x <;> first | exact fun hk _ => Rd.mono hst hk | (intro _ hy; cases hy)⟩
 have hcall := hs fn a.tmps (w.heap.size + 1) w.heap.size hr.n
 rw [← hrd] at hcall
 have hcall2 := hcall
 unfold LSpec at hcall2
 obtain ⟨⟨gfn, hgf, hnm, hbd⟩, hpost, hrun⟩ := hcall2
 have go : (callFunc gf (#[.func (.yield (w.heap.size + 1)) #[] #[]] ++ us)).run P W1 = .ok (.enter gf (#[.func (.yield (w.heap.size + 1)) #[] #[]] ++ us)) W1 := by
   unfold callFunc
   rw [Sem.run_bind, show (program : Sem Program).run P W1 = .ok P W1 from rfl]
   simp only [Result.andThen_ok, hgf, hnm, hbd, Bool.false_eq_true, if_false]
   rfl
 have hrdl : RdL σ W1 (AV.lit (.func (.yield (w.heap.size + 1)) #[] #[]) :: cs) (#[Value.func (.yield (w.heap.size + 1)) #[] #[]] ++ us) :=
   RdL.app (xs := [AV.lit (.func (.yield (w.heap.size + 1)) #[] #[])]) (vs := #[Value.func (.yield (w.heap.size + 1)) #[] #[]]) ⟨rfl, fun i hi => by
     obtain rfl : i = 0 := by simp at hi; omega
     exact .lit _⟩ ⟨hcl, fun i hi => (c2 i hi).mono hst⟩
 have hC := hrun σ W1 _ hm1 hglob hps hnd hrdl
 refine ⟨w.heap.size + 1, [{ target := .collected w.heap.size, args := #[] }], W1, { target := .fn (.func gf) us, args := #[.func (.yield (w.heap.size + 1)) #[] #[]] }, W1, gf,
   #[.func (.yield (w.heap.size + 1)) #[] #[]] ++ us, W1, ?_, ?_, fun _ _ => trivial, ?_, fun h => (by cases h), ?_⟩
 · rw [← hW1, hrd]; exact run_enterLoop_outer _ _ _ _ _
 · simp only [resolve, hcv]
   simp [go_sem]
 · simp only [invoke]
   simp [go_sem, go]
 · refine callsIn_FW.2 (hC.mono ?_)
   rintro x W2 ⟨v, q, rfl, g1, g2, g3, g4, g5⟩
   have hL2 : W2.heap[w.heap.size + 1]? = some (.loop r) := (g5.old _ (by omega) hn1).2.trans hL1
   have hK2 : W2.heap[w.heap.size]? = some (.deferred (some [])) := (g5.old _ (by omega) hn0).2.trans hK1
   refine ⟨none, W2.putObj (w.heap.size + 1) (.loop { r with state := .exhausted }), by have := run_endLoop (P := P) hL2 (by rw [hrd]; simp); rw [this, hrd], ?_⟩
   have hs2 : ∀ (o : Obj) b, b ≠ w.heap.size + 1 → (W2.putObj (w.heap.size + 1) o).heap[b]? = W2.heap[b]? := fun o b hb => World.putObj_heap_other hb
   have hrd2 : ∀ {x : AV} {u : Value}, Rd σ w x u → Rd (putAll (eraN σ (ps.map (·.1))) (post q)) (W2.putObj (w.heap.size + 1) (.loop { r with state := .exhausted })) x u := fun hx => ((hx.mono hst).mono g5).mark hL2 nofun nofun (hs2 _)
   refine ⟨e, _, hq q g1 g2, hr.n, ?_, fun x => hrd2 (hr.env x), g4.mark hL2 nofun nofun (hs2 _), ?_, Glob.of hG fun k => ?_⟩
   · obtain ⟨Ds, d1, d2, d3⟩ := hr.d
     refine ⟨w.heap.size :: Ds, by simp [d1], List.nodup_cons.2 ⟨fun hin => by
       have h9 := (Array.getElem?_eq_some_iff.1 (d3 _ hin).2.2).1
       omega, d2⟩, fun D hD => ?_⟩
     rcases List.mem_cons.1 hD with rfl | hD
     · exact ⟨hr.st.size, (g5.old _ (by omega) hn0).1, (hs2 _ _ (by omega)).trans hK2⟩
     · obtain ⟨k1, k2, k3⟩ := d3 D hD
       have hDl : D < w.heap.size := (Array.getElem?_eq_some_iff.1 k3).1
       obtain ⟨m1, m2⟩ := g5.old D (by omega) k2
       exact ⟨k1, m1, ((hs2 _ _ (by omega)).trans m2).trans ((hold D hDl).trans k3)⟩
   · have h12 := (hr.st.trans hst).trans g5
     refine ⟨h12.os, h12.tape, h12.output, by have := h12.size; simpa using this, fun b hb hn => ?_, fun b cur t hb => ?_⟩
     · obtain ⟨k1, k2⟩ := h12.old b hb hn
       have := hr.st.size
       exact ⟨k1, (hs2 _ _ (by omega)).trans k2⟩
     · obtain ⟨cur', k1, k2⟩ := h12.row b cur t hb
       exact ⟨cur', (hs2 _ _ fun e => by subst e; rw [hL2] at k1; cases k1).trans k1, k2⟩
   · have hk := hr.glob k
     have hy := hG k
     refine hrd2 ?_
     revert hk hy
     generalize G k = x
     cases x <;> first | exact fun hk _ => hk | (intro _ hy; cases hy)
end
open Go.RowKit
section
variable {P : Program} {T : Tys} {G : Nat → AV} {N : Nat} {e : Env} {l : LS} {φ : Store}
structure AYlL (P : Program) (G : Nat → AV) (N : Nat) (y x : AV) (d : Option Tmp) (K : Env → LS → Prop) (e : Env) (l : LS) : Prop where
 ex : ∃ (b : Nat) (r : Loop) (e0 G0 : Nat → AV) (ps : LS) (post : Nm → LS), (∀ g, G g = .yl b r e0 G0) ∧ y = .lit (.func (.yield b) #[] #[]) ∧ YSpec P b r e0 G0 x ps post ∧ LTake l ps fun rest => LFresh fun q => putE N e d (.bool true) fun e' => K e' (post q ++ rest)
theorem AYlL.mk' {b : Nat} {r : Loop} {e0 G0 : Nat → AV} {x : AV} {d : Option Tmp} {K : Env → LS → Prop} {ps : LS} {post : Nm → LS} (hs : YSpec P b r e0 G0 x ps post) (h : LTake l ps fun rest => LFresh fun q => putE N e d (.bool true) fun e' => K e' (post q ++ rest)) :
   AYlL P (fun _ => .yl b r e0 G0) N (.lit (.func (.yield b) #[] #[])) x d K e l := ⟨b, r, e0, G0, ps, post, fun _ => rfl, rfl, hs, h⟩
theorem take_post {ps : LS} {post : Nm → LS} {r : LS} {q : Nm} (hp : ∀ q, (∀ x ∈ post q, x.1 = q ∨ x.1 ∈ ps.map (·.1)) ∧ (q ∉ ps.map (·.1) → ((post q).map (·.1)).Nodup)) (h2 : Sep φ r) (h5 : eraN (putAll φ l) (ps.map (·.1)) = putAll φ r) (h6 : ∀ x ∈ ps, φ x.1 = none ∧ x.1 ∉ r.map (·.1))
   (hq : eraN (putAll φ l) (ps.map (·.1)) q = none) (hn : ((post q).map (·.1)).Nodup) : putAll (eraN (putAll φ l) (ps.map (·.1))) (post q) = putAll φ (post q ++ r) ∧ Sep φ (post q ++ r) := by
 rw [h5] at hq ⊢
 have hqn := putAll_none hq
 have hmem : ∀ x ∈ post q, φ x.1 = none ∧ x.1 ∉ r.map (·.1) := fun x hx => by
   rcases (hp q).1 x hx with he | hp
   · rw [he]; exact ⟨hqn.2, hqn.1⟩
   · obtain ⟨y, hy, he⟩ := List.mem_map.1 hp
     rw [← he]; exact h6 y hy
 exact ⟨by rw [putAll_app], h2.app hmem hn⟩
theorem AYlL.sound {y x : AV} {d : Option Tmp} {K : Env → LS → Prop} (hs : Sep φ l) (h : AYlL P G N y x d K e l) : AYl P G N y x d (KE φ K) e (putAll φ l) := by
 obtain ⟨b, r, e0, G0, ps, post, h1, h2, h3, h4⟩ := h.ex
 obtain ⟨rest, g1, g2, g3, g4, g5, g6⟩ := LTake.sound h4 hs
 refine ⟨b, r, e0, G0, ps, post, h1, h2, h3, g3, g4, fun q hq hn => ?_⟩
 obtain ⟨k1, k2⟩ := take_post h3.1 g2 g5 g6 hq hn
 rw [k1]
 exact putE_mono (g1.go q) fun e' hk => ⟨_, rfl, k2, hk⟩
theorem CutL.yieldR (hT : TOk P T) (C : List Nat) (k : Nat) {id : Nat} {ops : Array Oper} {rest : Code} {Q : Exit → Env → LS → Prop} {post : List Oper} {o : Oper} {c x : Operand} {ts : Array TypeId} (hk : ops.toList.drop k = o :: post)
   (hop : o.op = .call { callee := .value c, args := #[x], argTypes := ts }) (hg : o.guard = none)
   (h : AOpsL P T G N ops (ops.toList.take k) (fun e l => AYlL P G N (ev G e c) (ev G e x) o.dst (AOpsL P T G N ops post (AWpL P T G N C rest Q)) e l) e l) : CutL P G N (.region id ops false) rest Q e l := by
 refine ⟨SWpL.seq ⟨fun φ hs => SWp.yieldR hT (ops.toList.take k) post o (by rw [← hk, List.take_append_drop]) hop hg ?_⟩⟩
 refine AOps.mono ?_ _ _ _ (AOpsL.sound _ e l hs h)
 rintro e1 σ1 ⟨l1, rfl, hs1, h1⟩
 have h2 := AYlL.sound hs1 h1
 obtain ⟨b, r, e0, G0, ps, post', k1, k2, k3, k4, k5, k6⟩ := h2.ex
 refine ⟨b, r, e0, G0, ps, post', k1, k2, k3, k4, k5, fun q hq hn => putE_mono (k6 q hq hn) fun e' hk => ?_⟩
 obtain ⟨l2, e2, hs2, h3⟩ := hk
 rw [e2]
 refine AOps.mono ?_ _ _ _ (AOpsL.sound _ e' l2 hs2 h3)
 rintro e3 σ3 ⟨l3, rfl, hs3, h4⟩
 exact ⟨l3, rfl, hs3, AWpL.sound hT C rest Q e3 l3 h4⟩
theorem SWpL.yieldR (hT : TOk P T) (k : Nat) {id : Nat} {ops : Array Oper} {Q : Exit → Env → LS → Prop} {K : Env → LS → Prop} (hK : ∀ e l, K e l → Q .normal e l) {post : List Oper} {o : Oper} {c x : Operand} {ts : Array TypeId} (hk : ops.toList.drop k = o :: post)
   (hop : o.op = .call { callee := .value c, args := #[x], argTypes := ts }) (hg : o.guard = none)
   (h : AOpsL P T G N ops (ops.toList.take k) (fun e l => AYlL P G N (ev G e c) (ev G e x) o.dst (AOpsL P T G N ops post K) e l) e l) : SWpL P G N (.region id ops false) Q e l := by
 refine ⟨fun φ hs => SWp.yieldR hT (ops.toList.take k) post o (by rw [← hk, List.take_append_drop]) hop hg ?_⟩
 refine AOps.mono ?_ _ _ _ (AOpsL.sound _ e l hs h)
 rintro e1 σ1 ⟨l1, rfl, hs1, h1⟩
 have h2 := AYlL.sound hs1 h1
 obtain ⟨b, r, e0, G0, ps, post', k1, k2, k3, k4, k5, k6⟩ := h2.ex
 refine ⟨b, r, e0, G0, ps, post', k1, k2, k3, k4, k5, fun q hq hn => putE_mono (k6 q hq hn) fun e' hk => ?_⟩
 obtain ⟨l2, e2, hs2, h3⟩ := hk
 rw [e2]
 refine AOps.mono ?_ _ _ _ (AOpsL.sound _ e' l2 hs2 h3)
 rintro e3 σ3 ⟨l3, rfl, hs3, h4⟩
 exact ⟨l3, rfl, hs3, hK _ _ h4⟩
theorem CutL.thenY (hT : TOk P T) (C : List Nat) (k : Nat) {id : Nat} {ops : Array Oper} {x0 c1 : Code} {Q : Exit → Env → LS → Prop} {post : List Oper} {o : Oper} {c x : Operand} {ts : Array TypeId} (hk : ops.toList.drop k = o :: post)
   (hop : o.op = .call { callee := .value c, args := #[x], argTypes := ts }) (hg : o.guard = none)
   (h : AWpL P T G N C x0 (QseqL (fun e l => AOpsL P T G N ops (ops.toList.take k) (fun e l => AYlL P G N (ev G e c) (ev G e x) o.dst (AOpsL P T G N ops post (AWpL P T G N C c1 Q)) e l) e l) Q) e l) : CutL P G N x0 (.seq (.region id ops false) c1) Q e l := by
 refine ⟨SWpL.seq ((AWpL.sound hT C _ _ _ _ h).mono ?_)⟩
 intro z e' l' hq
 cases z with
 | normal => exact SWpL.seq (SWpL.yieldR hT k (fun e l h => AWpL.sound hT C _ _ _ _ h) hk hop hg hq)
 | _ => exact hq
theorem SWpL.rangeFunc {g : Operand} {pm : Array Tmp} {assign body : Code} {Q : Exit → Env → LS → Prop} {gf : FuncId} {cs : List AV} {ps : LS} {post : Nm → LS} (hG : ∀ g, (G g).isYl = false) (hg : ev G e g = .clo (.func gf) [] cs)
   (hs : (ps.map (·.1)).Nodup → ∀ (fn : FuncId) (us : Array Value) (b D : Nat), us.size = N → LSpec P (fun _ => .yl b { state := .ready, pending := none, fn, tmps := us, params := pm, assign, body, defers := D } e G) gf (.lit (.func (.yield b) #[] #[]) :: cs) ps (fun q => (.tup [], post q)))
   (h : LTake l ps fun rest => LFresh fun q => Q .normal e (post q ++ rest)) : SWpL P G N (.rangeFunc g pm assign body) Q e l := by
 refine ⟨fun φ hsep => ?_⟩
 obtain ⟨rest, g1, g2, g3, g4, g5, g6⟩ := LTake.sound h hsep
 refine SWp.rangeFunc hG hg (hs g4) g3 g4 fun q hq hn => ?_
 obtain ⟨k1, k2⟩ := take_post (LSpec.nm (hs g4 0 (Array.replicate N undef) 0 0 (by simp))) g2 g5 g6 hq hn
 exact ⟨_, k1, k2, g1.go q⟩
def QYL (post : Nm → LS) : Exit → Env → LS → Prop
 | .normal, _, l => RetL (fun q => (.tup [], post q)) (.tup []) l
 | _, _, _ => False
def QFL : Exit → Env → LS → Prop := fun _ _ _ => False
theorem YSpec.introL (hT : TOk P T) (C D : List Nat) {b : Nat} {r : Loop} {arg : AV} {ps : LS} {post : Nm → LS} {p : Nat} (hG : ∀ g, (G g).isYl = false) (hp : r.params = #[p]) (hs : r.state = .ready) (he : r.pending = none) (hN : r.tmps.size = N) (hpN : p < N)
   (ha : noRF r.assign = true) (hb : noRF r.body = true) (hpost : ∀ q, (∀ x ∈ post q, x.1 = q ∨ x.1 ∈ ps.map (·.1)) ∧ (q ∉ ps.map (·.1) → ((post q).map (·.1)).Nodup))
   (h : (ps.map (·.1)).Nodup → AWpL P T G N C r.assign (QseqL (AWpL P T G N D r.body (QYL post)) QFL) (put e p arg) ps) : YSpec P b r e G arg ps post := by
 refine YSpec.intro hG hp hs he hN hpN ha hb hpost fun τ hq hps hnd => ?_
 have hτ : τ = putAll (eraN τ (ps.map (·.1))) ps := by
   funext x
   by_cases hx : x ∈ ps.map (·.1)
   · obtain ⟨y, hy, rfl⟩ := List.mem_map.1 hx
     rw [putAll_mem hy hnd]; exact hps y hy
   · rw [putAll_at hx, eraN_other _ _ hx]
 have hsp : Sep (eraN τ (ps.map (·.1))) ps := ⟨hnd, fun x hx => eraN_none _ _ (List.mem_map.2 ⟨x, hx, rfl⟩)⟩
 have h1 := (AWpL.sound hT C _ _ _ _ (h hnd)).run _ hsp
 rw [← hτ] at h1
 refine h1.mono ?_
 rintro x e1 σ1 ⟨l1, rfl, hs1, h2⟩
 cases x with
 | normal =>
   refine ((AWpL.sound hT D _ _ _ _ h2).run _ hs1).mono ?_
   rintro x e2 σ2 ⟨l2, rfl, hs2, h3⟩
   cases x with
   | normal =>
     obtain ⟨F, q, k1, k2, -, k3⟩ := RetL.run h3 _ hq hs2
     exact ⟨q, k1, k2, fun z c hz => eraN_sub _ F _ _ (k3 z c hz)⟩
   | _ => exact h3.elim
 | _ => exact h2.elim
end
open Go.RowKit
section
variable {P : Program} {T : Tys} {G : Nat → AV} {N : Nat} {e : Env} {l : LS} {φ : Store}
theorem eraN_upd_in (τ : Store) (p : Nm) (c : Pl) (ns : List Nm) (h : p ∈ ns) : eraN (upd τ p c) ns = eraN τ ns := by
 funext x
 by_cases hx : x ∈ ns
 · rw [eraN_none _ _ hx, eraN_none _ _ hx]
 · rw [eraN_other _ _ hx, eraN_other _ _ hx, upd_ne _ _ (fun e => by rw [e] at hx; exact hx h)]
theorem LSpec.room (kf : Nat → Nat) {f : FuncId} {p : Nm} {off n sz : Nat} {t : TypeId} {cs args : List AV} {ps : LS} {post : Nm → AV × LS} (hkf : ∀ cap, n ≤ cap → kf cap ≤ cap - n) (hpn : 0 < n) (h0 : 0 < cs.length) (hl : cs.length = off + n * sz) (hmx : n ≤ maxLen)
   (h : ∀ cap, n ≤ cap → cap ≤ maxLen → LSpec P G f (.vc p off n cap sz :: args) ((p, ⟨t, cs ++ List.replicate (kf cap * sz) .any⟩) :: ps) post) : LSpec P G f (.vw p off n sz :: args) ((p, ⟨t, cs⟩) :: ps) post := by
 have hn0 := h n (Nat.le_refl _) hmx
 unfold LSpec at h hn0 ⊢
 refine ⟨hn0.1, hn0.2.1, fun τ w vs h1 h2 h3 h4 h5 => ?_⟩
 have hv := h5.2 0 (by simp)
 have hv : Rd τ w (.vw p off n sz) (vs.getD 0 undef) := hv
 have hp : τ p = some ⟨t, cs⟩ := h3 (p, ⟨t, cs⟩) (by simp)
 generalize hvv : vs.getD 0 undef = v at hv
 cases hv with
 | vwnil k sz =>
   have := h1.vl k _ hp
   simp only at this
   rw [this] at h0; simp at h0
 | vw0 p off sz a => exact absurd hpn (Nat.lt_irrefl 0)
 | vw p off n sz cap cur t' hcur hn hm hs =>
   obtain ⟨cur2, k1, k2, k3⟩ := h1.pl p _ hp
   have hce : cur2 = cur := by rw [hcur] at k1; injection k1 with k1; injection k1 with k1; exact k1.symm
   subst hce
   have hst : Stp τ w (upd τ (.b p) ⟨t, cs ++ List.replicate (kf cap * sz) .any⟩) w := Stp.forget _ _ w fun b hb => by
     rw [upd_ne _ _ (fun e => by rw [e] at hb; rw [hp] at hb; cases hb)]; exact hb
   have hfit : cs.length + kf cap * sz ≤ cur2.size := by
     have h9 := Nat.mul_le_mul_right sz (hkf cap hn)
     have : cs.length + (cap - n) * sz = off + cap * sz := by
       rw [hl, Nat.add_assoc, ← Nat.add_mul]; congr 2; omega
     omega
   have hm2 : Mem (upd τ (.b p) ⟨t, cs ++ List.replicate (kf cap * sz) .any⟩) w := by
     refine ⟨fun q c hq => ?_, fun k c hk => ?_, fin_upd h1.fin _ _⟩
     · by_cases hqp : Nm.b q = Nm.b p
       · obtain rfl : q = p := by injection hqp
         rw [upd_same] at hq
         cases hq
         refine ⟨cur2, k1, by simp; omega, fun i hi => ?_⟩
         by_cases hlt : i < cs.length
         · have e1 : (cs ++ List.replicate (kf cap * sz) AV.any).getD i .any = cs.getD i .any := by
             simp only [List.getD_eq_getElem?_getD]
             rw [List.getElem?_append_left hlt]
           simp only [e1]
           exact (k3 i hlt).mono hst
         · have e1 : (cs ++ List.replicate (kf cap * sz) AV.any).getD i .any = .any := by
             simp only [List.getD_eq_getElem?_getD]
             rw [List.getElem?_append_right (by omega)]
             simp only [List.getElem?_replicate]
             split <;> rfl
           simp only [e1]
           exact .any _
       · rw [upd_ne _ _ hqp] at hq
         obtain ⟨cur', g1, g2, g3⟩ := h1.pl q c hq
         exact ⟨cur', g1, g2, fun i hi => (g3 i hi).mono hst⟩
     · rw [upd_ne _ _ (by simp)] at hk
       exact h1.vl k c hk
   have hC := (h cap hn hm).2.2 _ w vs hm2 (h2.mono hst) (fun x hx => by
       rcases List.mem_cons.1 hx with rfl | hx
       · exact upd_same _ _ _
       · have hne : x.1 ≠ Nm.b p := fun e => by
           simp only [List.map_cons] at h4
           exact (List.nodup_cons.1 h4).1 (e ▸ List.mem_map.2 ⟨x, hx, rfl⟩)
         rw [upd_ne _ _ hne]
         exact h3 x (List.mem_cons_of_mem _ hx)) h4 ⟨h5.1, fun i hi => by
       cases i with
       | zero =>
         show Rd _ w (.vc (.b p) off n cap sz) (vs.getD 0 undef)
         rw [hvv]
         exact .vc p off n sz cap cur2 t' hcur hn hm hs
       | succ i => exact (h5.2 (i + 1) hi).mono hst⟩
   simp only [List.map_cons] at hC ⊢
   rw [eraN_upd_in τ (.b p) _ _ (by simp)] at hC
   refine hC.mono ?_
   rintro e w' ⟨v, q, g1, g2, g3, g4, g5, g6⟩
   exact ⟨v, q, g1, g2, g3, g4, g5, hst.trans g6⟩
structure AOv (N : Nat) (x y : AV) (d : Option Tmp) (K : Env → Store → Prop) (e : Env) (σ : Store) : Prop where
 ex : ∃ p o n s q o' n' s', x = .vw p o n s ∧ y = .vw q o' n' s' ∧ p ≠ q ∧ 0 < n ∧ 0 < n' ∧ (∃ c, σ p = some c ∧ 0 < c.cs.length) ∧ (∃ c, σ q = some c ∧ 0 < c.cs.length) ∧ putE N e d (.bool false) fun e' => K e' σ
structure AOvL (N : Nat) (x y : AV) (d : Option Tmp) (K : Env → LS → Prop) (e : Env) (l : LS) : Prop where
 ex : ∃ p o n s q o' n' s', x = .vw p o n s ∧ y = .vw q o' n' s' ∧ LHas l p fun c1 _ r => LHas r q fun c _ _ => 0 < n ∧ 0 < n' ∧ 0 < c1.cs.length ∧ 0 < c.cs.length ∧ putE N e d (.bool false) fun e' => K e' l
theorem AOvL.mk' {p q : Nm} {o n s o' n' s' : Nat} {d : Option Tmp} {K : Env → LS → Prop} (h : LHas l p fun c1 _ r => LHas r q fun c _ _ => 0 < n ∧ 0 < n' ∧ 0 < c1.cs.length ∧ 0 < c.cs.length ∧ putE N e d (.bool false) fun e' => K e' l) : AOvL N (.vw p o n s) (.vw q o' n' s') d K e l := ⟨_, _, _, _, _, _, _, _, rfl, rfl, h⟩
theorem AOvL.sound {x y : AV} {d : Option Tmp} {K : Env → LS → Prop} (hs : Sep φ l) (h : AOvL N x y d K e l) : AOv N x y d (KE φ K) e (putAll φ l) := by
 obtain ⟨p, o, n, s, q, o', n', s', rfl, rfl, hA⟩ := AOvL.ex h
 obtain ⟨l1, c1, l2, e1, hB⟩ := LHas.ex hA
 obtain ⟨l3, c2, l4, e2, hz1, hz2, h2, h3, hC⟩ := LHas.ex hB
 have hnd := hs.nd
 rw [e1] at hnd
 have hp : (p, c1) ∈ l := by rw [e1]; simp
 have hq : (q, c2) ∈ l := by
   have : (q, c2) ∈ l1 ++ l2 := by rw [e2]; simp
   rw [e1]
   rcases List.mem_append.1 this with h | h
   · exact List.mem_append_left _ h
   · exact List.mem_append_right _ (List.mem_cons_of_mem _ h)
 refine ⟨p, o, n, s, q, o', n', s', rfl, rfl, ?_, hz1, hz2, ⟨c1, putAll_mem hp hs.nd φ, h2⟩, ⟨c2, putAll_mem hq hs.nd φ, h3⟩, putE_mono hC fun e' hk => ⟨l, rfl, hs, hk⟩⟩
 rintro rfl
 have h5 := nd_mid hnd
 have hm : p ∈ (l1 ++ l2).map (·.1) := by rw [e2]; simp
 rw [List.map_append, List.mem_append] at hm
 exact hm.elim h5.1 h5.2.1
theorem AOv.sound {σ σ0 : Store} {w w0 : World} {a : Act} {ro : Option Nat} {ops : Array Oper} {Q : Exit → Act → World → Prop} {next : Act → World → Prop} {o : Oper} {f : FuncId} {fn : Func} {x y : Operand} {ts : Array TypeId} {t t' e1 : TypeId} {sz : Nat} {K : Env → Store → Prop}
   (hop : o.op = .call { callee := .value (.func f), args := #[x, y], argTypes := ts }) (hg : o.guard = none)
   (hf : P.funcs[f]? = some fn) (hname : (fn.name == "runtime.NumGoroutine") = false) (hb : fn.body.isNone = true) (hn : Extern.findNext fn = none) (he : Extern.find fn = some (Extern.SlicesOverlaps.overlaps #[t, t] #[t'])) (ht : P.underlying t = some (.slice e1)) (hz : ∀ w, (Go.sizeOf e1).run P w = .ok sz w)
   (hr : Rel G N e σ σ0 w0 a w) (h : AOv N (ev G e x) (ev G e y) o.dst K e σ) (hnx : ∀ a' w' e' σ', K e' σ' → Rel G N e' σ' σ0 w0 a' w' → next a' w') :
   if Region.wanted o (yielded ops a.tmps) then o.wpIn (FW ro) 0 P a w next Q else (∀ f, o.about P w a.eval = some f → (FW ro).fn f) ∧ next (a.put o.dst undef) w := by
 obtain ⟨p, o1, n1, s1, q, o2, n2, s2, h1, h2, hpq, hz1, hz2, ⟨c1, hc1, hc10⟩, ⟨c, hc, hc0⟩, h⟩ := h.ex
 have hx := ev_sound hr.env hr.glob x
 have hy := ev_sound hr.env hr.glob y
 rw [h1] at hx
 rw [h2] at hy
 have hw : Region.wanted o (yielded ops a.tmps) = true := by simp [Region.wanted, hg]
 rw [if_pos hw]
 generalize hxv : a.eval x = vx at hx
 generalize hyv : a.eval y = vy at hy
 have key : (Extern.SlicesOverlaps.overlaps #[t, t] #[t'] #[vx, vy]).run P w = .ok (.bool false) w := by
   cases hx with
   | vwnil k sz => have := hr.mem.vl k _ hc1; rw [this] at hc10; simp at hc10
   | vw0 p off sz a => exact absurd hz1 (Nat.lt_irrefl 0)
   | vw pb off n sz' cap cur tA hcur hn' hm' hs' =>
     cases hy with
     | vwnil k sz => have := hr.mem.vl k _ hc; rw [this] at hc0; simp at hc0
     | vw0 p off sz a => exact absurd hz2 (Nat.lt_irrefl 0)
     | vw qb off2 n' sz2 cap2 cur2 tB hcur2 hn2 hm2 hs2 =>
       obtain ⟨cur3, k1, k2, -⟩ := hr.mem.pl qb c hc
       have hce : cur3 = cur2 := by rw [hcur2] at k1; injection k1 with k1; injection k1 with k1; exact k1.symm
       subst hce
       exact Lib.run_overlaps_apart (P := P) w t t' e1 ht sz hz ⟨pb, o1, none⟩ ⟨qb, o2, none⟩ _ cap _ cap2 (fun e => hpq (by simp only at e; rw [e])) tA tB cur.size cur3.size (by simp [World.shape?, hcur]) (by simp [World.shape?, hcur2]) (by omega) (by simp [World.frozen?, hcur]) (by simp [World.frozen?, hcur])
 have hrun : (callFunc f #[vx, vy]).run P w = .ok (.value (.bool false)) w := by
   rw [run_callFunc_extern hf hname hb hn he, key]; rfl
 have hex : (execOp a.eval o).run P w = .ok (.value (.bool false)) w := by
   unfold execOp
   rw [hop]
   have hfv : a.eval (.func f) = .func (.func f) #[] #[] := rfl
   simp [resolve, invoke, Deferred.ofValue, hfv, hxv, hyv, hrun, Result.andThen]
 unfold Oper.wpIn
 refine ⟨fun _ _ => trivial, ?_⟩
 rw [semAt_of (x := .value (.bool false)) (w' := w) _ hex nofun]
 obtain ⟨e', k1, k2⟩ := hr.step (Stp.refl σ w) hr.mem (.bool false) h
 exact hnx _ _ _ _ k1 k2
theorem SWp.ovl {σ : Store} (hT : TOk P T) {id : Nat} {ops : Array Oper} {Q : Exit → Env → Store → Prop} (pre post : List Oper) (o : Oper) {f : FuncId} {fn : Func} {x y : Operand} {ts : Array TypeId} {t t' e1 : TypeId} {sz : Nat} (hops : ops.toList = pre ++ o :: post)
   (hop : o.op = .call { callee := .value (.func f), args := #[x, y], argTypes := ts }) (hg : o.guard = none)
   (hf : P.funcs[f]? = some fn) (hname : (fn.name == "runtime.NumGoroutine") = false) (hb : fn.body.isNone = true) (hn : Extern.findNext fn = none) (he : Extern.find fn = some (Extern.SlicesOverlaps.overlaps #[t, t] #[t'])) (ht : P.underlying t = some (.slice e1)) (hz : ∀ w, (Go.sizeOf e1).run P w = .ok sz w)
   (h : AOps P T G N ops pre (fun e σ => AOv N (ev G e x) (ev G e y) o.dst (AOps P T G N ops post (Q .normal)) e σ) e σ) : SWp P G N (.region id ops false) Q e σ := by
 refine ⟨fun σ0 w0 a w hr hok => wpIn_region_list ?_⟩
 rw [hops]
 refine AOps.sound_app hT pre e σ a w hr h fun a' w' e' σ' hk hr' => ?_
 exact AOv.sound hop hg hf hname hb hn he ht hz hr' hk fun a2 w2 e2 σ2 hk2 hr2 => AOps.sound hT post e2 σ2 a2 w2 hr2 hk2 fun a3 w3 e3 σ3 hk3 hr3 => ⟨e3, σ3, hk3, hr3⟩
theorem SWpL.ovl (hT : TOk P T) (k : Nat) {id : Nat} {ops : Array Oper} {Q : Exit → Env → LS → Prop} {K : Env → LS → Prop} (hK : ∀ e l, K e l → Q .normal e l) {post : List Oper} {o : Oper} {f : FuncId} {fn : Func} {x y : Operand} {ts : Array TypeId} {t t' e1 : TypeId} {i1 i2 : TI} (hk : ops.toList.drop k = o :: post)
   (hop : o.op = .call { callee := .value (.func f), args := #[x, y], argTypes := ts }) (hg : o.guard = none)
   (hf : P.funcs[f]? = some fn) (hname : (fn.name == "runtime.NumGoroutine") = false) (hb : fn.body.isNone = true) (hn : Extern.findNext fn = none) (he : Extern.find fn = some (Extern.SlicesOverlaps.overlaps #[t, t] #[t']))
   (ht : T t = some i1) (hk1 : i1.desc = .slice e1) (ht2 : T e1 = some i2)
   (h : AOpsL P T G N ops (ops.toList.take k) (fun e l => AOvL N (ev G e x) (ev G e y) o.dst (AOpsL P T G N ops post K) e l) e l) : SWpL P G N (.region id ops false) Q e l := by
 refine ⟨fun φ hs => SWp.ovl hT (ops.toList.take k) post o (by rw [← hk, List.take_append_drop]) hop hg hf hname hb hn he (slice_of (hT t _ ht) hk1) (hT e1 i2 ht2).size ?_⟩
 refine AOps.mono ?_ _ _ _ (AOpsL.sound _ e l hs h)
 rintro e1 σ1 ⟨l1, rfl, hs1, h1⟩
 obtain ⟨p, o1, n1, s1, q, o2, n2, s2, k1, k2, k3, z1, z2, k4, k5, k6⟩ := (AOvL.sound hs1 h1).ex
 refine ⟨p, o1, n1, s1, q, o2, n2, s2, k1, k2, k3, z1, z2, k4, k5, putE_mono k6 fun e' hk => ?_⟩
 obtain ⟨l2, e2, hs2, h3⟩ := hk
 rw [e2]
 refine AOps.mono ?_ _ _ _ (AOpsL.sound _ e' l2 hs2 h3)
 rintro e3 σ3 ⟨l3, rfl, hs3, h4⟩
 exact ⟨l3, rfl, hs3, hK _ _ h4⟩
theorem CutL.ovl (hT : TOk P T) (C : List Nat) (k : Nat) {id : Nat} {ops : Array Oper} {c1 rest : Code} {Q : Exit → Env → LS → Prop} {post : List Oper} {o : Oper} {f : FuncId} {fn : Func} {x y : Operand} {ts : Array TypeId} {t t' e1 : TypeId} {i1 i2 : TI} (hk : ops.toList.drop k = o :: post)
   (hop : o.op = .call { callee := .value (.func f), args := #[x, y], argTypes := ts }) (hg : o.guard = none)
   (hf : P.funcs[f]? = some fn) (hname : (fn.name == "runtime.NumGoroutine") = false) (hb : fn.body.isNone = true) (hn : Extern.findNext fn = none) (he : Extern.find fn = some (Extern.SlicesOverlaps.overlaps #[t, t] #[t']))
   (ht : T t = some i1) (hk1 : i1.desc = .slice e1) (ht2 : T e1 = some i2)
   (h : AOpsL P T G N ops (ops.toList.take k) (fun e l => AOvL N (ev G e x) (ev G e y) o.dst (AOpsL P T G N ops post (fun e l => AWpL P T G N C c1 (QseqL (AWpL P T G N C rest Q) Q) e l)) e l) e l) : CutL P G N (.seq (.region id ops false) c1) rest Q e l := by
 refine ⟨SWpL.seq (SWpL.seq (SWpL.ovl hT k ?_ hk hop hg hf hname hb hn he ht hk1 ht2 h))⟩
 intro e1 l1 h1
 refine (AWpL.sound hT C _ _ _ _ h1).mono ?_
 intro z e' l' hq
 cases z <;> first | exact AWpL.sound hT C _ _ _ _ hq | exact hq
end
open Go.RowKit
variable {G : Nat → AV}
def modR (n m : Int) : Int := if m < 1 then 0 else if n.tmod m < 0 then IntKind.i64.wrap (n.tmod m + m) else n.tmod m
theorem mod_c (n m : Int) : LSpec Tryz.prog G 25 [iAV n, iAV m] [] (fun _ => (iAV (modR n m), [])) := by
 refine goW [] Tryz.func25 rfl ?_
 conv => whnf
 repeat' ((first | refine T.s ?_ | ((first | apply goB | apply ABr.dec | apply ABr.gen) <;> intro h <;> try (exfalso; omega)) | refine LFresh.mk fun r => ?_ | exact T.z | fail) <;> conv => whnf)
 all_goals (try dsimp only)
 all_goals
   (show RetL _ _ _; refine goR ?_)
   unfold modR
   (repeat first | rw [if_pos (by first | assumption | omega)] | rw [if_neg (by first | assumption | omega)])
   rfl
def fillB (seed : Int) (j : Nat) : UInt8 := b8 (iarith .add .i64 (iarith .add .i64 seed (iarith .mul .i64 7 j)) (IntKind.i64.wrap ((j : Int).tdiv 16)))
def filled (n seed : Int) : List UInt8 := (List.range n.toNat).map (fillB seed)
theorem filled_c (n seed : Int) (hn : n < 100000) : LSpec Tryz.prog G 34 [iAV n, iAV seed] [] (fun _ => (bv (filled n seed), [])) := by
 refine goW [] Tryz.func34 rfl ?_
 conv => whnf
 repeat' ((first | refine T.s ?_ | ((first | apply goB | apply ABr.dec | apply ABr.gen) <;> intro h <;> try (exfalso; omega)) | refine LFresh.mk fun r => ?_ | (show SWpL _ _ _ (.loop _) _ _ _; first | (apply goO tyOk [] 3 (S := Nat × Nm) [0, 1] (fun (i, q) => ⟨[(5, .vw q 0 i 1), (6, .int .i64 i)], [(q, ⟨5, ((List.range i).map (fillB seed)).map bAV⟩)], i ≤ n.toNat, n.toNat - i⟩) ((0, q)) (by rfl); (focus ((repeat' first | exact trivial | (refine And.intro ?_ ?_) | exact LSub.nil | (with_reducible exact LSub.refl) | (apply LSub.cons; (repeat first | refine goH ?_ | apply LHas.here | apply LHas.next); refine And.intro ?_ ?_; (focus (try (first | (with_reducible rfl) | (refine congrArg (Pl.mk _) ?_; (first | rfl | (simp [List.range_succ, List.take_of_length_le, bAV_b8, fillB]; done))) | rfl | (with_reducible refine congrArg (Pl.mk _) ?_))))) | assumption | (first | (focus (apply Eq.trans; (conv => lhs; whnf); (conv => rhs; whnf); done)) | rfl | ((conv => lhs; whnf); first | rfl | (refine congrArg (AV.int _) ?_; (exact T.num)) | (refine congrArg AV.bool ?_; (exact T.num)) | (refine vw_congr ?_; first | (exact T.num) | (first | rfl | (simp [List.range_succ, List.take_of_length_le, bAV_b8, fillB]; done))) | (refine sl_congr ?_ ?_ <;> first | (exact T.num) | (first | rfl | (simp [List.range_succ, List.take_of_length_le, bAV_b8, fillB]; done))) | (first | rfl | (simp [List.range_succ, List.take_of_length_le, bAV_b8, fillB]; done)))) | (exact T.num) | (dsimp only; (exact T.num)) | (first | rfl | (simp [List.range_succ, List.take_of_length_le, bAV_b8, fillB]; done))); done)); rintro ⟨i, q⟩ hok; (try dsimp only at hok))) | (show SWpL _ _ _ _ _ _ _; first | refine SWpL.adopt 5 1 5 (by rfl) fun q => ?_) | (show AtL _ _ _ _ _ _ _ _ _ _; first | (apply AtL.mk' (id := 3) (S := Nat × Nm) ((i + 1, _)); (repeat' first | exact trivial | (refine And.intro ?_ ?_) | exact LSub.nil | (with_reducible exact LSub.refl) | (apply LSub.cons; (repeat first | refine goH ?_ | apply LHas.here | apply LHas.next); refine And.intro ?_ ?_; (focus (try (first | (with_reducible rfl) | (refine congrArg (Pl.mk _) ?_; (first | rfl | (simp [List.range_succ, List.take_of_length_le, bAV_b8, fillB]; done))) | rfl | (with_reducible refine congrArg (Pl.mk _) ?_))))) | assumption | (first | (focus (apply Eq.trans; (conv => lhs; whnf); (conv => rhs; whnf); done)) | rfl | ((conv => lhs; whnf); first | rfl | (refine congrArg (AV.int _) ?_; (exact T.num)) | (refine congrArg AV.bool ?_; (exact T.num)) | (refine vw_congr ?_; first | (exact T.num) | (first | rfl | (simp [List.range_succ, List.take_of_length_le, bAV_b8, fillB]; done))) | (refine sl_congr ?_ ?_ <;> first | (exact T.num) | (first | rfl | (simp [List.range_succ, List.take_of_length_le, bAV_b8, fillB]; done))) | (first | rfl | (simp [List.range_succ, List.take_of_length_le, bAV_b8, fillB]; done)))) | (exact T.num) | (dsimp only; (exact T.num)) | (first | rfl | (simp [List.range_succ, List.take_of_length_le, bAV_b8, fillB]; done))); done) | (apply AtL.mk' (id := 3) (S := Nat × Nm) ((i + 1, _)); (repeat' first | exact trivial | (refine And.intro ?_ ?_) | exact LSub.nil | (with_reducible exact LSub.refl) | (apply LSub.cons; (repeat first | refine goH ?_ | apply LHas.here | apply LHas.next); refine And.intro ?_ ?_; (focus (try (first | (with_reducible rfl) | (refine congrArg (Pl.mk _) ?_; (first | rfl | (simp [List.range_succ, List.take_of_length_le, bAV_b8, fillB]; done))) | rfl | (with_reducible refine congrArg (Pl.mk _) ?_))))) | assumption | (first | (focus (apply Eq.trans; (conv => lhs; whnf); (conv => rhs; whnf); done)) | rfl | ((conv => lhs; whnf); first | rfl | (refine congrArg (AV.int _) ?_; (exact T.num)) | (refine congrArg AV.bool ?_; (exact T.num)) | (refine vw_congr ?_; first | (exact T.num) | (first | rfl | (simp [List.range_succ, List.take_of_length_le, bAV_b8, fillB]; done))) | (refine sl_congr ?_ ?_ <;> first | (exact T.num) | (first | rfl | (simp [List.range_succ, List.take_of_length_le, bAV_b8, fillB]; done))) | (first | rfl | (simp [List.range_succ, List.take_of_length_le, bAV_b8, fillB]; done)))) | (exact T.num) | (dsimp only; (exact T.num)) | (first | rfl | (simp [List.range_succ, List.take_of_length_le, bAV_b8, fillB]; done))))) | exact T.z | refine ⟨_, rfl, rfl, ?_⟩ | fail) <;> conv => whnf)
 all_goals (try dsimp only)
 have hi : n.toNat = i := by omega
 (refine RetL.rowF ?_; (repeat first | refine goH ?_ | apply LHas.here | apply LHas.next); refine And.intro ?_ (And.intro ?_ ?_); rotate_left; rotate_left; (focus ((repeat' first | exact LSub.nil | (with_reducible exact LSub.refl) | (apply LSub.cons; (repeat first | refine goH ?_ | apply LHas.here | apply LHas.next); refine And.intro ?_ ?_; (focus (try (first | (with_reducible rfl) | (refine congrArg (Pl.mk _) ?_; (first | rfl | (simp; done))) | rfl | (with_reducible refine congrArg (Pl.mk _) ?_)))))))))
 · simp [filled, hi]
 · simp [filled, hi]
def dice (t : List Int) (a : Nat) : Pl := ⟨60, [iv t, iAV a]⟩
theorem light_c (t : List Int) : LSpec Tryz.prog G 6 [iv t] [] (fun _ => (.bool (decide (t.length ≤ 400)), [])) := by
 refine goW [] Tryz.func6 rfl ?_
 conv => whnf
 repeat' ((first | refine T.s ?_ | ((first | apply goB | apply ABr.dec | apply ABr.gen) <;> intro h <;> try (exfalso; omega)) | refine LFresh.mk fun r => ?_ | exact T.z | fail) <;> conv => whnf)
 all_goals (try dsimp only)
 (show RetL _ _ _; refine goR ?_)
 simp [icmp]
 omega
theorem roll_c (t : List Int) : LSpec Tryz.prog G 8 [iv t] [] (fun q => (.ptr q 0, [(q, dice t 0)])) := by
 refine goW [] Tryz.func8 rfl ?_
 conv => whnf
 repeat' ((first | refine T.s ?_ | ((first | apply goB | apply ABr.dec | apply ABr.gen) <;> intro h <;> try (exfalso; omega)) | refine LFresh.mk fun r => ?_ | exact T.z | fail) <;> conv => whnf)
 all_goals (try dsimp only)
 refine RetL.own r ?_ ?_ ?_
 · rfl
 · (repeat first | refine goH ?_ | apply LHas.here | apply LHas.next); trivial
 · (repeat' first | exact LSub.nil | (with_reducible exact LSub.refl) | (apply LSub.cons; (repeat first | refine goH ?_ | apply LHas.here | apply LHas.next); refine And.intro ?_ ?_; (focus (try (first | (with_reducible rfl) | (refine congrArg (Pl.mk _) ?_; (first | rfl | (simp; done))) | rfl | (with_reducible refine congrArg (Pl.mk _) ?_))))))
def nextR (t : List Int) (a : Nat) (n : Int) : Int := if a < t.length then modR (t.getD a 0) n else 0
def nextA (t : List Int) (a : Nat) : Nat := if a < t.length then a + 1 else a
theorem modR_lt (n m : Int) (h0 : 0 < m) (h1 : m < 4611686018427387904) : 0 ≤ modR n m ∧ modR n m < m := by
 unfold modR
 rw [if_neg (by omega)]
 have h2 : n.tmod m < m := Int.tmod_lt_of_pos n h0
 have h3 : -m < n.tmod m := by
   have := Int.lt_tmod_of_pos n h0
   omega
 split
 · rw [IntKind.wrap_i64]; omega
 · omega
theorem nextR_lt (t : List Int) (a : Nat) (m : Int) (h0 : 0 < m) (h1 : m < 4611686018427387904) : 0 ≤ nextR t a m ∧ nextR t a m < m := by
 unfold nextR
 split
 · exact modR_lt _ _ h0 h1
 · omega
theorem next_c (t : List Int) (a : Nat) (n : Int) (ht : t.length ≤ 400) (p : Nm) : LSpec Tryz.prog G 26 [.ptr p 0, iAV n] [(p, dice t a)] (fun _ => (iAV (nextR t a n), [(p, dice t (nextA t a))])) := by
 refine goW [] Tryz.func26 rfl ?_
 conv => whnf
 repeat' ((first | exact Nm.b 0 | (show LCall _ _ _ _ _ _; first | refine LCall.pure (mod_c _ _) ?_ | refine goE ?_) | refine T.s ?_ | ((first | apply goB | apply ABr.dec | apply ABr.gen) <;> intro h <;> try (exfalso; omega)) | refine LFresh.mk fun r => ?_ | (show SWpL _ _ _ _ _ _ _; first | (refine goD tyOk mixed 1 [] [0, 1, 2, 3, 4, 5, 6, 7, 8, 9] [] (by kernel_rfl) ?_) | (refine goD tyOk mixed 4 [] [0, 1, 2, 3, 4, 5, 6, 7, 8, 9, 10, 11, 12, 13] [] (by kernel_rfl) ?_)) | exact T.z | fail) <;> conv => whnf)
 all_goals (try dsimp only)
 · have e1 : nextA t a = a := by unfold nextA; (repeat first | rw [if_pos (by first | assumption | omega)] | rw [if_neg (by first | assumption | omega)])
   have e2 : nextR t a n = 0 := by unfold nextR; (repeat first | rw [if_pos (by first | assumption | omega)] | rw [if_neg (by first | assumption | omega)])
   rw [e1, e2]
   (show RetL _ _ _; refine goR ?_)
   rfl
 · have e1 : nextA t a = a + 1 := by unfold nextA; (repeat first | rw [if_pos (by first | assumption | omega)] | rw [if_neg (by first | assumption | omega)])
   have e2 : nextR t a n = modR (t.getD a 0) n := by unfold nextR; (repeat first | rw [if_pos (by first | assumption | omega)] | rw [if_neg (by first | assumption | omega)])
   have h1 : iarith .add .i64 (a : Int) 1 = ((a + 1 : Nat) : Int) := by (exact T.num)
   have h2 : iarith .sub .i64 ((a + 1 : Nat) : Int) 1 = (a : Int) := by (exact T.num)
   rw [e1, e2, h1, h2]
   (show RetL _ _ _; refine goR ?_)
   simp [iAV]
open Go.RowKit
variable {G : Nat → AV}
def oneR (t : List Int) (a : Nat) (n : Int) : Bool := icmp .eql (nextR t a n) (iarith .sub .i64 n 1)
theorem one_c (t : List Int) (a : Nat) (n : Int) (ht : t.length ≤ 400) (p : Nm) : LSpec Tryz.prog G 27 [.ptr p 0, iAV n] [(p, dice t a)] (fun _ => (.bool (oneR t a n), [(p, dice t (nextA t a))])) := by
 refine goW [] Tryz.func27 rfl ?_
 conv => whnf
 repeat' ((first | (show LCall _ _ _ _ _ _; first | (apply LCall.upd (next_c t _ _ ht _); (repeat first | refine goH ?_ | apply LHas.here | apply LHas.next); refine ⟨rfl, ?_⟩) | refine goE ?_) | refine T.s ?_ | ((first | apply goB | apply ABr.dec | apply ABr.gen) <;> intro h <;> try (exfalso; omega)) | refine LFresh.mk fun r => ?_ | exact T.z | fail) <;> conv => whnf)
 all_goals (try dsimp only)
 (show RetL _ _ _; refine goR ?_)
 rfl
def bitsR (t : List Int) (a : Nat) : Int := [5, 5, 6, 9].getD (nextR t a 4).toNat 0
theorem dbits_c (t : List Int) (a : Nat) (ht : t.length ≤ 400) (p : Nm) : LSpec Tryz.prog G 32 [.ptr p 0] [(p, dice t a)] (fun _ => (iAV (bitsR t a), [(p, dice t (nextA t a))])) := by
 have h4 := nextR_lt t a 4 (by decide) (by decide)
 refine goW [] Tryz.func32 rfl ?_
 conv => whnf
 repeat' ((first | (show LCall _ _ _ _ _ _; first | (apply LCall.upd (next_c t _ _ ht _); (repeat first | refine goH ?_ | apply LHas.here | apply LHas.next); refine ⟨rfl, ?_⟩) | refine goE ?_) | (show ACell _ _ _; first | (refine ACell.elem (l := [5, 5, 6, 9]) (f := iAV) 0 ?_ ?_; (focus exact T.side))) | refine T.s ?_ | ((first | apply goB | apply ABr.dec | apply ABr.gen) <;> intro h <;> try (exfalso; omega)) | refine LFresh.mk fun r => ?_ | exact T.z | fail) <;> conv => whnf)
 all_goals (try dsimp only)
 (show RetL _ _ _; refine goR ?_)
 simp [bitsR, iAV]
structure Ky where
 s : List UInt8
 g : List UInt8
 n : Int
 b : Int
 d : Int
def Ky.av (k : Ky) : AV := .agg [bv k.s, bv k.g, iAV k.n, iAV k.b, iAV k.d]
def adv (t : List Int) (a : Nat) : Nat → Nat
 | 0 => a
 | k + 1 => nextA t (adv t a k)
def keyR (t : List Int) (a : Nat) : Ky := ⟨filled 32 (nextR t a 256), filled 16 (nextR t (adv t a 1) 256), nextR t (adv t a 2) 5, nextR t (adv t a 3) 3, nextR t (adv t a 4) 2⟩
theorem dkey_c (t : List Int) (a : Nat) (ht : t.length ≤ 400) (p : Nm) : LSpec Tryz.prog G 29 [.ptr p 0] [(p, dice t a)] (fun _ => ((keyR t a).av, [(p, dice t (adv t a 5))])) := by
 refine goW [] Tryz.func29 rfl ?_
 conv => whnf
 repeat' ((first | (show LCall _ _ _ _ _ _; first | (apply LCall.upd (next_c t _ _ ht _); (repeat first | refine goH ?_ | apply LHas.here | apply LHas.next); refine ⟨rfl, ?_⟩) | refine LCall.pure (filled_c _ _ (by decide)) ?_ | refine goE ?_) | refine T.s ?_ | ((first | apply goB | apply ABr.dec | apply ABr.gen) <;> intro h <;> try (exfalso; omega)) | refine LFresh.mk fun r => ?_ | exact T.z | fail) <;> conv => whnf)
 all_goals (try dsimp only)
 (show RetL _ _ _; refine goR ?_)
 rfl
def bytesL (t : List Int) (a k : Nat) : List UInt8 := (List.range k).map fun j => b8 (nextR t (adv t a j) 256)
@[simp] theorem bytesL_len (t : List Int) (a k : Nat) : (bytesL t a k).length = k := by simp [bytesL]
open Go.RowKit
variable {G : Nat → AV}
def bitsOk (b : Int) : Bool := decide (5 ≤ b ∧ b ≤ 9)
def countOk (n : Int) : Bool := decide (0 ≤ n ∧ n < 1048576)
theorem cbits_c (b : Int) : LSpec Tryz.prog G 58 [iAV b] [] (fun _ => (.bool (bitsOk b), [])) := by
 refine goW [] Tryz.func58 rfl ?_
 conv => whnf
 repeat' ((first | refine T.s ?_ | ((first | apply goB | apply ABr.dec | apply ABr.gen) <;> intro h <;> try (exfalso; omega)) | refine LFresh.mk fun r => ?_ | exact T.z | fail) <;> conv => whnf)
 all_goals (try dsimp only)
 all_goals
   (show RetL _ _ _; refine goR ?_)
   simp [bitsOk, icmp] <;> omega
theorem rbits_c (b : Int) : LSpec Tryz.prog G 52 [iAV b] [] (fun _ => (.bool (bitsOk b), [])) := by
 refine goW [] Tryz.func52 rfl ?_
 conv => whnf
 repeat' ((first | refine T.s ?_ | ((first | apply goB | apply ABr.dec | apply ABr.gen) <;> intro h <;> try (exfalso; omega)) | refine LFresh.mk fun r => ?_ | exact T.z | fail) <;> conv => whnf)
 all_goals (try dsimp only)
 all_goals
   (show RetL _ _ _; refine goR ?_)
   simp [bitsOk, icmp] <;> omega
theorem ccount_c (n : Int) : LSpec Tryz.prog G 66 [iAV n] [] (fun _ => (.bool (countOk n), [])) := by
 refine goW [] Tryz.func66 rfl ?_
 conv => whnf
 repeat' ((first | refine T.s ?_ | ((first | apply goB | apply ABr.dec | apply ABr.gen) <;> intro h <;> try (exfalso; omega)) | refine LFresh.mk fun r => ?_ | exact T.z | fail) <;> conv => whnf)
 all_goals (try dsimp only)
 all_goals
   (show RetL _ _ _; refine goR ?_)
   simp [countOk, icmp] <;> omega
theorem rcount_c (n : Int) : LSpec Tryz.prog G 53 [iAV n] [] (fun _ => (.bool (countOk n), [])) := by
 refine goW [] Tryz.func53 rfl ?_
 conv => whnf
 repeat' ((first | refine T.s ?_ | ((first | apply goB | apply ABr.dec | apply ABr.gen) <;> intro h <;> try (exfalso; omega)) | refine LFresh.mk fun r => ?_ | exact T.z | fail) <;> conv => whnf)
 all_goals (try dsimp only)
 all_goals
   (show RetL _ _ _; refine goR ?_)
   simp [countOk, icmp] <;> omega
def Ky.ok (k : Ky) : Bool := decide (k.s.length = 32 ∧ k.g.length = 16 ∧ 0 ≤ k.n ∧ k.n ≤ 4294967295 ∧ 0 ≤ k.b ∧ k.b ≤ 255 ∧ (k.d = 0 ∨ k.d = 1))
theorem cvalid_c (k : Ky) : LSpec Tryz.prog G 35 [k.av] [] (fun _ => (.bool k.ok, [])) := by
 refine goW [] Tryz.func35 rfl ?_
 conv => whnf
 repeat' ((first | refine T.s ?_ | ((first | apply goB | apply ABr.dec | apply ABr.gen) <;> intro h <;> try (exfalso; omega)) | refine LFresh.mk fun r => ?_ | exact T.z | fail) <;> conv => whnf)
 all_goals (try dsimp only)
 all_goals
   (show RetL _ _ _; refine goR ?_)
   refine congrArg AV.bool ?_
   rw [Bool.eq_iff_iff]
   simp [Ky.ok, icmp] <;> omega
theorem rvalid_c (k : Ky) : LSpec Tryz.prog G 51 [k.av] [] (fun _ => (.bool k.ok, [])) := by
 refine goW [] Tryz.func51 rfl ?_
 conv => whnf
 repeat' ((first | refine T.s ?_ | ((first | apply goB | apply ABr.dec | apply ABr.gen) <;> intro h <;> try (exfalso; omega)) | refine LFresh.mk fun r => ?_ | exact T.z | fail) <;> conv => whnf)
 all_goals (try dsimp only)
 all_goals
   (show RetL _ _ _; refine goR ?_)
   refine congrArg AV.bool ?_
   rw [Bool.eq_iff_iff]
   simp [Ky.ok, icmp] <;> omega
attribute [irreducible] Ky.ok bitsOk countOk
open Go.RowKit
variable {G : Nat → AV}
def lowR (b n : Int) : Int := ibits .and .i64 n (iarith .sub .i64 (IntKind.i64.wrap (1 * 2 ^ min b.toNat 64)) 1)
def highR (b n : Int) : Int := n.fdiv (2 ^ min b.toNat 64)
theorem split_c (b n : Int) (hb : 5 ≤ b) (hb2 : b ≤ 9) (h0 : 0 ≤ n) (h1 : n < 1048576) : LSpec Tryz.prog G 86 [iAV b, iAV n] [] (fun _ => (.tup [iAV (highR b n), iAV (lowR b n), iAV 0], [])) := by
 have e1 : bitsOk b = true := by simp [bitsOk]; omega
 have e2 : countOk n = true := by simp [countOk]; omega
 refine goW [] Tryz.func86 rfl ?_
 conv => whnf
 repeat' ((first | exact Nm.b 0 | (show LCall _ _ _ _ _ _; first | refine LCall.pure (cbits_c _) ?_ | refine LCall.pure (ccount_c _) ?_ | refine goE ?_) | refine T.s ?_ | ((first | apply goB | apply ABr.dec | apply ABr.gen) <;> intro h <;> try (exfalso; omega)) | refine LFresh.mk fun r => ?_ | (show SWpL _ _ _ _ _ _ _; first | (refine goD tyOk mixed 3 [] [0, 1, 2, 3, 4, 5, 6, 7, 8, 9, 10] [] (by kernel_rfl) ?_)) | exact T.z | fail) <;> conv => whnf)
 all_goals (try dsimp only)
 (show RetL _ _ _; refine goR ?_)
 rfl
theorem rlow_valid (b : Int) (hb : 1 ≤ b) (hb2 : b ≤ 32) : LSpec Tryz.prog G 80 [iAV b] [] (fun _ => (.bool true, [])) := by
 refine goW [] Tryz.func80 rfl ?_
 conv => whnf
 repeat' ((first | refine T.s ?_ | ((first | apply goB | apply ABr.dec | apply ABr.gen) <;> intro h <;> try (exfalso; omega)) | refine LFresh.mk fun r => ?_ | exact T.z | fail) <;> conv => whnf)
 all_goals (try dsimp only)
 all_goals
   (show RetL _ _ _; refine goR ?_)
   simp [icmp] <;> omega
theorem rlow_c (b n : Int) (hb : 1 ≤ b) (hb2 : b ≤ 32) : LSpec Tryz.prog G 54 [iAV b, iAV n] [] (fun _ => (iAV (lowR b n), [])) := by
 refine goW [] Tryz.func54 rfl ?_
 conv => whnf
 repeat' ((first | (show LCall _ _ _ _ _ _; first | refine LCall.pure (rlow_valid _ hb hb2) ?_ | refine goE ?_) | refine T.s ?_ | ((first | apply goB | apply ABr.dec | apply ABr.gen) <;> intro h <;> try (exfalso; omega)) | refine LFresh.mk fun r => ?_ | exact T.z | refine ⟨_, rfl, rfl, ?_⟩ | fail) <;> conv => whnf)
 all_goals (try dsimp only)
 (show RetL _ _ _; refine goR ?_)
 rw [show (IntKind.u64.wrap b).toNat = b.toNat by rw [IntKind.wrap_u64]; omega]
 rfl
theorem same_c (a b : List UInt8) : LSpec Tryz.prog G 17 [bv a, bv b] [] (fun _ => (.bool (decide (a = b)), [])) := by
 refine goW [] Tryz.func17 rfl ?_
 conv => whnf
 repeat' ((first | refine T.s ?_ | ((first | apply goB | apply ABr.dec | apply ABr.gen) <;> intro h <;> try (exfalso; omega)) | refine LFresh.mk fun r => ?_ | exact T.z | refine ⟨_, rfl, rfl, ?_⟩ | fail) <;> conv => whnf)
 all_goals (try dsimp only)
 (show RetL _ _ _; refine goR ?_)
 refine congrArg AV.bool ?_
 rw [ByteArray.toList_eq, ByteArray.toList_eq, Bool.eq_iff_iff]
 simp
def putB (n : Int) : Nat → List UInt8
 | 0 => []
 | k + 1 => b8 (n.fdiv (2 ^ min (8 * k) 64)) :: putB n k
theorem cput_c (l : List UInt8) (n : Int) (hl : l.length ≤ 1000) (p : Nm) : LSpec Tryz.prog G 87 [.vw p 0 l.length 1, iAV n] [(p, ⟨5, l.map bAV⟩)] (fun q => (.vw q 0 (l.length + 4) 1, [(q, ⟨5, (l ++ putB n 4).map bAV⟩)])) := by
 refine goW [] Tryz.func87 rfl ?_
 conv => whnf
 repeat' ((first | refine T.s ?_ | ((first | apply goB | apply ABr.dec | apply ABr.gen) <;> intro h <;> try (exfalso; omega)) | refine LFresh.mk fun r => ?_ | exact T.z | refine ⟨_, rfl, rfl, ?_⟩ | fail) <;> conv => whnf)
 all_goals (try dsimp only)
 refine RetL.own r rfl ?_ ?_
 · (repeat first | refine goH ?_ | apply LHas.here | apply LHas.next); trivial
 · (repeat' first | exact LSub.nil | (with_reducible exact LSub.refl) | (apply LSub.cons; (repeat first | refine goH ?_ | apply LHas.here | apply LHas.next); refine And.intro ?_ ?_; (focus (try (first | (with_reducible rfl) | (refine congrArg (Pl.mk _) ?_; (first | rfl | (simp; done))) | rfl | (with_reducible refine congrArg (Pl.mk _) ?_))))))
   simp [putB, bAV_b8, IntKind.bits]
attribute [irreducible] lowR highR
open Go.RowKit
variable {G : Nat → AV}
theorem put4_c (l : List UInt8) (n : Int) (hl : l.length ≤ 1000) (p : Nm) : LSpec Tryz.prog G 44 [.vw p 0 l.length 1, iAV 4, iAV n] [(p, ⟨5, l.map bAV⟩)] (fun q => (.vw q 0 (l.length + 4) 1, [(q, ⟨5, (l ++ putB n 4).map bAV⟩)])) := by
 refine goW [] Tryz.func44 rfl ?_
 conv => whnf
 repeat' ((first | refine T.s ?_ | ((first | apply goB | apply ABr.dec | apply ABr.gen) <;> intro h <;> try (exfalso; omega)) | refine LFresh.mk fun r => ?_ | (show SWpL _ _ _ _ _ _ _; first | refine SWpL.times 2 5 (by rfl) ?_ | refine AtL.step tyOk [] ?_) | exact T.z | refine ⟨_, rfl, rfl, ?_⟩ | fail) <;> conv => whnf)
 all_goals (try dsimp only)
 refine RetL.own r rfl ?_ ?_
 · (repeat first | refine goH ?_ | apply LHas.here | apply LHas.next); trivial
 · apply LSub.cons
   (repeat first | refine goH ?_ | apply LHas.here | apply LHas.next)
   refine And.intro (congrArg (Pl.mk _) ?_) LSub.nil
   simp only [putB, List.map_append, List.map_cons, List.map_nil, bAV_b8, List.append_assoc, List.cons_append, List.nil_append]
   rfl
theorem put4n_c (n : Int) : LSpec Tryz.prog G 44 [.nils, iAV 4, iAV n] [] (fun q => (.vw q 0 4 1, [(q, ⟨5, (putB n 4).map bAV⟩)])) := by
 refine goW [] Tryz.func44 rfl ?_
 conv => whnf
 repeat' ((first | refine T.s ?_ | ((first | apply goB | apply ABr.dec | apply ABr.gen) <;> intro h <;> try (exfalso; omega)) | refine LFresh.mk fun r => ?_ | (show SWpL _ _ _ _ _ _ _; first | refine SWpL.times 2 5 (by rfl) ?_ | refine AtL.step tyOk [] ?_) | exact T.z | refine ⟨_, rfl, rfl, ?_⟩ | fail) <;> conv => whnf)
 all_goals (try dsimp only)
 refine RetL.own r rfl ?_ ?_
 · (repeat first | refine goH ?_ | apply LHas.here | apply LHas.next); trivial
 · apply LSub.cons
   (repeat first | refine goH ?_ | apply LHas.here | apply LHas.next)
   refine And.intro (congrArg (Pl.mk _) ?_) LSub.nil
   simp only [putB, List.map_append, List.map_cons, List.map_nil, bAV_b8, List.append_assoc, List.cons_append, List.nil_append]
   rfl
theorem put2n_c (n : Int) : LSpec Tryz.prog G 44 [.nils, iAV 2, iAV n] [] (fun q => (.vw q 0 2 1, [(q, ⟨5, (putB n 2).map bAV⟩)])) := by
 refine goW [] Tryz.func44 rfl ?_
 conv => whnf
 repeat' ((first | refine T.s ?_ | ((first | apply goB | apply ABr.dec | apply ABr.gen) <;> intro h <;> try (exfalso; omega)) | refine LFresh.mk fun r => ?_ | (show SWpL _ _ _ _ _ _ _; first | refine SWpL.times 2 3 (by rfl) ?_ | refine AtL.step tyOk [] ?_) | exact T.z | refine ⟨_, rfl, rfl, ?_⟩ | fail) <;> conv => whnf)
 all_goals (try dsimp only)
 refine RetL.own r rfl ?_ ?_
 · (repeat first | refine goH ?_ | apply LHas.here | apply LHas.next); trivial
 · apply LSub.cons
   (repeat first | refine goH ?_ | apply LHas.here | apply LHas.next)
   refine And.intro (congrArg (Pl.mk _) ?_) LSub.nil
   simp only [putB, List.map_append, List.map_cons, List.map_nil, bAV_b8, List.append_assoc, List.cons_append, List.nil_append]
   rfl
open Go.RowKit
variable {G : Nat → AV}
@[simp] theorem putB_len (n : Int) (k : Nat) : (putB n k).length = k := by
 induction k with
 | zero => simp [putB]
 | succ k ih => simp [putB, ih]
def nonceL (k : Ky) (n : Int) : List UInt8 := putB k.n 4 ++ [b8 k.b, b8 k.d, 0, 0] ++ putB n 4
@[simp] theorem nonceL_len (k : Ky) (n : Int) : (nonceL k n).length = 12 := by simp [nonceL]
theorem nonce_mid (k : Ky) : List.map bAV (putB k.n 4) ++ [AV.int .u8 (IntKind.u8.wrap k.b), AV.int .u8 (IntKind.u8.wrap k.d), AV.int .u8 0, AV.int .u8 0] = (putB k.n 4 ++ [b8 k.b, b8 k.d, 0, 0]).map bAV := by
 rw [List.map_append]
 simp only [List.map_cons, List.map_nil, bAV_b8]
 rfl
theorem cnonce_c (k : Ky) (n : Int) (hk : k.ok = true) (hn : countOk n = true) : LSpec Tryz.prog G 68 [k.av, iAV n] [] (fun _ => (.tup [bv (nonceL k n), iAV 0], [])) := by
 refine goW [] Tryz.func68 rfl ?_
 conv => whnf
 repeat' ((first | exact Nm.b 0 | (show LCall _ _ _ _ _ _; first | refine LCall.pure (cvalid_c k) ?_ | refine LCall.pure (ccount_c n) ?_ | (apply LCall.take (cput_c [] k.n (by decide) _); (repeat first | refine goH ?_ | apply LHas.here | apply LHas.next); refine ⟨rfl, ?_⟩) | (apply LCall.take (cput_c (putB k.n 4 ++ [b8 k.b, b8 k.d, 0, 0]) n (by simp) _); (repeat first | refine goH ?_ | apply LHas.here | apply LHas.next); refine ⟨rfl, ?_⟩) | refine goE ?_) | (show AList _ _; first | (refine AList.eq (nonce_mid k) ?_)) | refine T.s ?_ | ((first | apply goB | apply ABr.dec | apply ABr.gen) <;> intro h <;> try (exfalso; omega)) | refine LFresh.mk fun r => ?_ | (show SWpL _ _ _ _ _ _ _; first | (apply goD tyOk mixed 5 [] [1, 2, 0, 3, 4] [_] (by kernel_rfl)) | (refine goD tyOk mixed 5 [] [1, 2, 0, 3, 4] [] (by kernel_rfl) ?_)) | exact T.z | refine ⟨_, rfl, rfl, ?_⟩ | fail) <;> try (show (_ : Prop); conv => whnf))
 all_goals (try dsimp only)
 refine RetL.frz [r] ?_ ?_
 · apply LF.tup
   refine And.intro (LF.rowF InL.here ?_) (And.intro (LF.eq rfl) trivial)
   apply LHas.here
   exact ⟨rfl, by simp⟩
 · apply LHas.here
   exact LSub.nil
theorem rnonce_c (k : Ky) (n : Int) (hk : k.ok = true) (hn : countOk n = true) : LSpec Tryz.prog G 55 [k.av, iAV n] [] (fun _ => (.tup [bv (nonceL k n), iAV 0], [])) := by
 refine goW [] Tryz.func55 rfl ?_
 conv => whnf
 repeat' ((first | (show LCall _ _ _ _ _ _; first | refine LCall.pure (rvalid_c k) ?_ | refine LCall.pure (rcount_c n) ?_ | refine LCall.own (put4n_c k.n) ?_ | (apply LCall.take (put4_c (putB k.n 4 ++ [b8 k.b, b8 k.d, 0, 0]) n (by simp) _); (repeat first | refine goH ?_ | apply LHas.here | apply LHas.next); refine ⟨rfl, ?_⟩) | refine goE ?_) | (show AList _ _; first | (refine AList.eq (nonce_mid k) ?_)) | refine T.s ?_ | ((first | apply goB | apply ABr.dec | apply ABr.gen) <;> intro h <;> try (exfalso; omega)) | refine LFresh.mk fun r => ?_ | exact T.z | refine ⟨_, rfl, rfl, ?_⟩ | fail) <;> conv => whnf)
 all_goals (try dsimp only)
 refine RetL.frz [r] ?_ ?_
 · apply LF.tup
   refine And.intro (LF.rowF InL.here ?_) (And.intro (LF.eq rfl) trivial)
   apply LHas.here
   exact ⟨rfl, by simp⟩
 · apply LHas.here
   exact LSub.nil
end Go.Proofs.YtnmifddidgofaaaGreatDoor
