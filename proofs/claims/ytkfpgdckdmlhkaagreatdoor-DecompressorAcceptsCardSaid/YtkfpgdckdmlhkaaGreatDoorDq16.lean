/-
  Contracts of the functions that the laws reach.
-/
import Derived.Test.YtkfpgdckdmlhkaaGreatDoorDq01
import Derived.Test.YtkfpgdckdmlhkaaGreatDoorDq02
import Derived.Test.YtkfpgdckdmlhkaaGreatDoorDq03
import Derived.Test.YtkfpgdckdmlhkaaGreatDoorDq04
import Derived.Test.YtkfpgdckdmlhkaaGreatDoorDq05
import Derived.Test.YtkfpgdckdmlhkaaGreatDoorDq06
import Derived.Test.YtkfpgdckdmlhkaaGreatDoorDq07
import Derived.Test.YtkfpgdckdmlhkaaGreatDoorDq08
import Derived.Test.YtkfpgdckdmlhkaaGreatDoorDq10
import Derived.Test.YtkfpgdckdmlhkaaGreatDoorDq14
import Derived.Test.YtkfpgdckdmlhkaaGreatDoorDq15
set_option maxHeartbeats 4000000
set_option linter.all false
namespace Go.Proofs.YtkfpgdckdmlhkaaGreatDoor
open Go.RowKit
variable {G : Nat → AV}
theorem poly_0 {n : Int} (h : zU n = false) : xO n = 0 := by
 simp only [zU, decide_eq_false_iff_not] at h
 unfold xO
 repeat rw [if_neg (by omega)]
theorem poly_pos {n : Int} (h : zU n = true) : xO n ≠ 0 := by
 simp only [zU, decide_eq_true_eq] at h
 rcases h with rfl | rfl | rfl | rfl | rfl <;> decide
theorem u64m {n : Int} (h1 : 0 ≤ n) (h2 : n ≤ 32) : (IntKind.u64.wrap n).toNat = n.toNat := by rw [IntKind.wrap_u64]; omega
theorem and8 : ∀ x : Nat, x < 256 → qB .and .u8 (x : Int) 1 = ((x % 2 : Nat) : Int) := by decide +kernel
section
variable {n : Int} {R c j p r : Nat}
theorem r3_top (hn : 1 ≤ n ∧ n ≤ 24) (hR : R < 2 ^ n.toNat) : qB .and .i64 ((R : Int).fdiv (2 ^ min (IntKind.u64.wrap (q7 .sub .i64 n 1)).toNat IntKind.i64.bits)) 1 = ((R / 2 ^ (n.toNat - 1) : Nat) : Int) := by
 have e : q7 .sub .i64 n 1 = n - 1 := by (exact T.num)
 have h1 : R / 2 ^ (n.toNat - 1) < 2 := by
   rw [Nat.div_lt_iff_lt_mul (Nat.pow_pos (by decide)), Nat.mul_comm, ← Nat.pow_succ, show (n.toNat - 1).succ = n.toNat by omega]
   exact hR
 rw [e, u64m (by omega) (by omega), Int.fdiv_eq_ediv_of_nonneg _ (Int.le_of_lt (Int.pow_pos (by decide))), show min (n - 1).toNat IntKind.i64.bits = n.toNat - 1 by show min _ 64 = _; omega]
 refine (yK _ 1 (by decide)).trans ?_
 rw [show ((R : Int) / 2 ^ (n.toNat - 1)) = ((R / 2 ^ (n.toNat - 1) : Nat) : Int) by simp]
 generalize R / 2 ^ (n.toNat - 1) = x at h1
 show (x : Int) % 2 = x
 omega
theorem r3_bit (hc : c < 256) (hj : j < 8) : IntKind.i64.wrap (qB .and .u8 ((c : Int).fdiv (2 ^ min (IntKind.u64.wrap (7 - (j : Int))).toNat IntKind.u8.bits)) 1) = ((c / 2 ^ (7 - j) % 2 : Nat) : Int) := by
 rw [u64m (by omega) (by omega), Int.fdiv_eq_ediv_of_nonneg _ (Int.le_of_lt (Int.pow_pos (by decide))), show min (7 - (j : Int)).toNat IntKind.u8.bits = 7 - j by show min _ 8 = _; omega, show ((c : Int) / 2 ^ (7 - j)) = ((c / 2 ^ (7 - j) : Nat) : Int) by simp, and8 _ (Nat.lt_of_le_of_lt (Nat.div_le_self ..) hc), IntKind.wrap_i64]
 omega
theorem r3_shl (hn : 1 ≤ n ∧ n ≤ 24) (hR : R < 2 ^ n.toNat) : qB .and .i64 (IntKind.i64.wrap ((R : Int) * 2 ^ min (1 : Int).toNat IntKind.i64.bits)) (q7 .sub .i64 (IntKind.i64.wrap (1 * 2 ^ min (IntKind.u64.wrap n).toNat IntKind.i64.bits)) 1) = ((2 * R % 2 ^ n.toNat : Nat) : Int) := by
 rw [u64m (by omega) (by omega)]
 exact shl_e hn hR
theorem r3_t (hn : 1 ≤ n ∧ n ≤ 24) (hp : p < 2 ^ n.toNat) (hr : r < 2 ^ n.toNat) (hc : c < 256) (hj0 : (0 : Int) ≤ 7 - (j : Int))
   (h : qB .and .i64 ((jh n.toNat p r c j : Int).fdiv (2 ^ min (IntKind.u64.wrap (q7 .sub .i64 n 1)).toNat IntKind.i64.bits)) 1 = IntKind.i64.wrap (qB .and .u8 ((c : Int).fdiv (2 ^ min (IntKind.u64.wrap (7 - (j : Int))).toNat IntKind.u8.bits)) 1)) :
   qB .and .i64 (IntKind.i64.wrap ((jh n.toNat p r c j : Int) * 2 ^ min (1 : Int).toNat IntKind.i64.bits)) (q7 .sub .i64 (IntKind.i64.wrap (1 * 2 ^ min (IntKind.u64.wrap n).toNat IntKind.i64.bits)) 1) = ((jh n.toNat p r c (j + 1) : Nat) : Int) := by
 have hR := yC (c := c) hp hr j
 rw [r3_top hn hR, r3_bit hc (by omega)] at h
 rw [r3_shl hn hR, wq]
 unfold crcB
 rw [if_pos (by omega)]
theorem r3_f (hn : 1 ≤ n ∧ n ≤ 24) (hp : p < 2 ^ n.toNat) (hr : r < 2 ^ n.toNat) (hc : c < 256) (hj0 : (0 : Int) ≤ 7 - (j : Int))
   (h : ¬ qB .and .i64 ((jh n.toNat p r c j : Int).fdiv (2 ^ min (IntKind.u64.wrap (q7 .sub .i64 n 1)).toNat IntKind.i64.bits)) 1 = IntKind.i64.wrap (qB .and .u8 ((c : Int).fdiv (2 ^ min (IntKind.u64.wrap (7 - (j : Int))).toNat IntKind.u8.bits)) 1)) :
   qB .xor .i64 (qB .and .i64 (IntKind.i64.wrap ((jh n.toNat p r c j : Int) * 2 ^ min (1 : Int).toNat IntKind.i64.bits)) (q7 .sub .i64 (IntKind.i64.wrap (1 * 2 ^ min (IntKind.u64.wrap n).toNat IntKind.i64.bits)) 1)) (p : Int) = ((jh n.toNat p r c (j + 1) : Nat) : Int) := by
 have hR := yC (c := c) hp hr j
 have h24 := Nat.pow_le_pow_right (n := 2) (by decide) (show n.toNat ≤ 24 by omega)
 have h3 : 2 * jh n.toNat p r c j % 2 ^ n.toNat < 2 ^ n.toNat := Nat.mod_lt _ (Nat.pow_pos (by decide))
 rw [r3_top hn hR, r3_bit hc (by omega)] at h
 rw [r3_shl hn hR, ixor_nat _ _ (by omega) (by omega), wq]
 unfold crcB
 rw [if_neg (by omega)]
end
theorem r3next_c (n : Int) (h : zU n = true) (r0 : Nat) (hr : r0 < 2 ^ n.toNat) (l : List UInt8) (hl : l.length ≤ 1000000) : LP Tryz.prog G 114 [iAV n, iAV r0, bv l] [] (fun _ => (.tup [iAV (jy n.toNat (xO n).toNat r0 l : Nat), iAV 0], [])) := by
 have hn : 3 ≤ n ∧ n ≤ 24 := by simp only [zU, decide_eq_true_eq] at h; omega
 have hs := vF (n := n) (by omega)
 have hr1 : (r0 : Int) < 2 ^ n.toNat := by exact_mod_cast hr
 have hs' : IntKind.i64.wrap (1 * 2 ^ min n.toNat IntKind.i64.bits) = 2 ^ n.toNat := hs
 have hp := poly_lt h
 have hn : 1 ≤ n ∧ n ≤ 24 := by omega
 have hb : ∀ i, (l.getD i 0).toNat < 256 := fun i => (l.getD i 0).toNat_lt
 have hp0 := poly_pos h
 have hs3 : IntKind.i64.wrap (1 * 2 ^ min (IntKind.u64.wrap n).toNat IntKind.i64.bits) = 2 ^ n.toNat := by rw [u64m (by omega) (by omega)]; exact hs
 obtain ⟨p, hpe⟩ : ∃ p : Nat, (xO n).toNat = p := ⟨_, rfl⟩
 have hpp := r3poly_c (G := G) n
 rw [← hp.2] at hpp hp0
 rw [hpe] at hp hpp hp0 ⊢
 refine goW [] Tryz.func114 rfl ?_
 conv => whnf
 repeat' ((first | (show LC _ _ _ _ _ _; first | refine LC.pure (hpp) ?_ | refine goE ?_) | (show AC _ _ _; first | (refine AC.idx (i) (0) ?_ ?_ ?_; (focus (first | exact rfl | (simp; done) | (simp; omega))); (focus (first | omega | exact T.side)))) | refine T.s ?_ | ((first | apply goB | apply AB.dec | apply AB.gen) <;> intro h <;> try (exfalso; omega)) | refine LQ.mk fun r => ?_ | (show SQ _ _ _ (.loop _) _ _ _; first | (apply goO tQ [] 7 (S := Nat) [0, 2, 8] (fun i => ⟨[(9, .int .i64 i), (1, .int .i64 (jy n.toNat p r0 (l.take i) : Nat))], [], i ≤ l.length, l.length - i⟩) (0) (by rfl); (focus (all_goals (try exact KC8C); done)); rintro i hok; (try dsimp only at hok)) | (apply goO tQ [] 10 (S := Nat) [0, 2, 8, 9] (fun j => ⟨[(10, .int .i64 (7 - (j : Int))), (1, .int .i64 (jh n.toNat p (jy n.toNat p r0 (l.take i)) (l.getD i 0).toNat j : Nat))], [], j ≤ 8, 8 - j⟩) (0) (by rfl); (focus (all_goals (try exact KC8C); done)); rintro j hok; (try dsimp only at hok))) | (show AtL _ _ _ _ _ _ _ _ _ _; first | (apply AtL.mk' (id := 7) (S := Nat) (i + 1); all_goals (try exact KC8C); done) | (apply AtL.mk' (id := 10) (S := Nat) (j + 1); all_goals (try exact KC8C); done) | (apply AtL.mk' (id := 7) (S := Nat) (i + 1); all_goals (try exact KC8C)) | (apply AtL.mk' (id := 10) (S := Nat) (j + 1); all_goals (try exact KC8C))) | exact T.z | refine ⟨_, rfl, rfl, ?_⟩ | fail) <;> conv => whnf)
 all_goals (try dsimp only)
 all_goals
   (show RL _ _ _; refine goR ?_)
   rw [List.take_of_length_le (by omega)]
   rfl
theorem r3sum_c (n : Int) (l : List UInt8) (hl : l.length ≤ 1000000) : LP Tryz.prog G 74 [iAV n, bv l] [] (fun _ => (.tup [iAV (crcO n l).1, iAV (crcO n l).2], [])) := by
 have hpp := r3poly_c (G := G) n
 cases h : zU n with
 | true =>
   have hn0 : 0 ≤ n ∧ n ≤ 24 := by simp only [zU, decide_eq_true_eq] at h; omega
   have e : q7 .sub .i64 (IntKind.i64.wrap (1 * 2 ^ min (IntKind.u64.wrap n).toNat IntKind.i64.bits)) 1 = ((2 ^ n.toNat - 1 : Nat) : Int) := by rw [u64m (by omega) (by omega)]; exact mask_n hn0.2
   have hp0 := poly_pos h
   rw [crcO_y h, ← crcS_eq]
   refine goW [] Tryz.func74 rfl ?_
   conv => whnf
   repeat' ((first | (show LC _ _ _ _ _ _; (refine LC.eq (args' := [iAV n, iAV ((2 ^ n.toNat - 1 : Nat) : Int), bv l]) (congrArg (fun z => [iAV n, AV.int .i64 z, bv l]) e) ?_); refine LC.pure (r3next_c n h _ (Nat.sub_lt (Nat.pow_pos (by decide)) (by decide)) l hl) ?_; conv => whnf) | (show LC _ _ _ _ _ _; first | refine LC.pure (hpp) ?_ | refine goE ?_) | refine T.s ?_ | ((first | apply goB | apply AB.dec | apply AB.gen) <;> intro h <;> try (exfalso; omega)) | refine LQ.mk fun r => ?_ | exact T.z | refine ⟨_, rfl, rfl, ?_⟩ | fail) <;> conv => whnf)
   all_goals (try dsimp only)
   (show RL _ _ _; refine goR ?_)
   rfl
 | false =>
   rw [crcO_n h]
   rw [poly_0 h] at hpp
   refine goW [] Tryz.func74 rfl ?_
   conv => whnf
   repeat' ((first | (show LC _ _ _ _ _ _; first | refine LC.pure (hpp) ?_ | refine goE ?_) | refine T.s ?_ | ((first | apply goB | apply AB.dec | apply AB.gen) <;> intro h <;> try (exfalso; omega)) | refine LQ.mk fun r => ?_ | exact T.z | refine ⟨_, rfl, rfl, ?_⟩ | fail) <;> conv => whnf)
   all_goals (try dsimp only)
   (show RL _ _ _; refine goR ?_)
   rfl
open Go.RowKit
section
variable {P : Program} {G : Nat → AV} {N : Nat} {e : Env} {l : LS} {σ σ0 : q9} {w0 w : World} {a : Act}
theorem Rel.adoptP {p : Nm} {j sz : Nat} {t0 : TypeId} {cs : List AV} (t : TypeId) (h : Rel G N e σ σ0 w0 a w) (hp : σ p = some ⟨t0, cs⟩) (hj : j < cs.length) (hn : cs.getD j .any = .nils) {k : Nat} (hk : σ (.v k) = none) :
   Rel G N e (upd (upd σ p ⟨t0, cs.set j (.vw (.v k) 0 0 sz)⟩) (.v k) ⟨t, []⟩) σ0 w0 a w := by
 have hpk : p ≠ .v k := fun e => by subst e; rw [hk] at hp; cases hp
 have hbn : ∀ b, σ (.b b) = none → (upd (upd σ p ⟨t0, cs.set j (.vw (.v k) 0 0 sz)⟩) (.v k) ⟨t, []⟩) (.b b) = none := fun b hb => by
   rw [qj _ _ (by simp), qj _ _ (fun e => by subst e; rw [hb] at hp; cases hp)]
   exact hb
 have hst : Stp σ w (upd (upd σ p ⟨t0, cs.set j (.vw (.v k) 0 0 sz)⟩) (.v k) ⟨t, []⟩) w := Stp.forget _ _ w hbn
 refine ⟨h.n, h.d, fun x => (h.env x).mono hst, ⟨fun q c hq => ?_, fun m c hm => ?_, jH (jH h.mem.fin _ _) _ _⟩, h.st.trans hst, h.glob.mono hst⟩
 · rw [qj _ _ (by simp)] at hq
   by_cases e : Nm.b q = p
   · subst e
     rw [qE] at hq; cases hq
     obtain ⟨cur, k1, k2, k3⟩ := h.mem.pl q _ hp
     refine ⟨cur, k1, by simpa using k2, fun i hi => ?_⟩
     have hi2 : i < cs.length := by
       have h5 : i < (cs.set j (AV.vw (.v k) 0 0 sz)).length := hi
       rwa [List.length_set] at h5
     by_cases hij : i = j
     · subst hij
       have k4 := k3 i hi2
       simp only at k4
       rw [hn] at k4
       have e2 : (cs.set i (AV.vw (.v k) 0 0 sz)).getD i .any = .vw (.v k) 0 0 sz := by simp [List.getD_eq_getElem?_getD, hi2]
       show Rd _ w ((cs.set i (AV.vw (.v k) 0 0 sz)).getD i .any) _
       rw [e2]
       generalize cur.getD i undef = u at k4
       cases k4
       exact .vwnil _ _
     · have e2 : (cs.set j (AV.vw (.v k) 0 0 sz)).getD i .any = cs.getD i .any := by
         simp only [List.getD_eq_getElem?_getD]
         rw [List.getElem?_set_ne (by omega)]
       show Rd _ w ((cs.set j (AV.vw (.v k) 0 0 sz)).getD i .any) _
       rw [e2]
       exact (k3 i hi2).mono hst
   · rw [qj _ _ e] at hq
     obtain ⟨cur, k1, k2, k3⟩ := h.mem.pl q c hq
     exact ⟨cur, k1, k2, fun i hi => (k3 i hi).mono hst⟩
 · by_cases hmk : m = k
   · subst hmk; rw [qE] at hm; cases hm; rfl
   · rw [qj _ _ (by simp; exact hmk)] at hm
     by_cases e : Nm.v m = p
     · subst e
       have := h.mem.vl m _ hp
       simp only at this
       rw [this] at hj
       simp at hj
     · rw [qj _ _ e] at hm
       exact h.mem.vl m c hm
theorem SQ.adoptP (p : Nm) (j sz : Nat) (t : TypeId) {c : Code} {Q : Exit → Env → LS → Prop} (h : LH l p fun d s _ => j < d.cs.length ∧ d.cs.getD j .any = .nils ∧ ∀ q, SQ P G N c Q e ((q, ⟨t, []⟩) :: s ⟨d.ty, d.cs.set j (.vw q 0 0 sz)⟩)) : SQ P G N c Q e l := by
 obtain ⟨l1, d, l2, rfl, h1, h2, h3⟩ := h.ex
 refine ⟨fun φ hs => ⟨fun σ0 w0 a w hr => ?_⟩⟩
 obtain ⟨B, hB⟩ := hr.mem.fin
 have hk := hB B (Nat.le_refl _)
 have hs2 : Sep φ (l1 ++ (p, ⟨d.ty, d.cs.set j (.vw (.v B) 0 0 sz)⟩) :: l2) := hs.set
 have hr2 := hr.adoptP (sz := sz) t hs.get h1 h2 hk
 rw [hs.set'] at hr2
 have hs3 : Sep φ ((.v B, ⟨t, []⟩) :: (l1 ++ (p, ⟨d.ty, d.cs.set j (.vw (.v B) 0 0 sz)⟩) :: l2)) := hs2.new (by
   rw [← hs.set', qj _ _ (fun e => by rw [e, hs.get] at hk; cases hk)]
   exact hk) _
 exact ((h3 (.v B)).run φ hs3).run σ0 w0 a w hr2
end
open Go.RowKit
variable {G : Nat → AV}
theorem qH {α : Type} {g : α → Bool} (l : List α) (i : Nat) (d : α) (h : i < l.length) : (l.take (i + 1)).all g = ((l.take i).all g && g (l.getD i d)) := by
 rw [List.take_succ_eq_append_getElem h, List.all_append]
 simp [List.getD_eq_getElem?_getD, h]
theorem zE {α : Type} {g : α → Bool} (l : List α) (i : Nat) (d : α) (h : i < l.length) (hb : g (l.getD i d) = false) : l.all g = false := by
 cases hc : l.all g with
 | false => rfl
 | true =>
   rw [List.all_eq_true] at hc
   have := hc (l.getD i d) (by simp [List.getD_eq_getElem?_getD, h])
   rw [hb] at this; cases this
theorem xt {α : Type} {g : α → Bool} {l : List α} {i : Nat} (h : l.length ≤ i) (hk : (l.take i).all g = true) : l.all g = true := by rwa [List.take_of_length_le h] at hk
def vJ (width k v r : Int) : Bool := decide ((xF width r k (lw k v)).2 = 0 ∧ (xF width r k (lw k v)).1 = v)
def fitG (width k v : Int) : Bool := xZ width && (decide (3 ≤ k ∧ k ≤ width) && zQ width v)
theorem fit1_e {width k v : Int} (h : fitG width k v = true) (r : Int) : vJ width k v r = (zQ width r && decide (lsbV width r k (lw k v) = v)) := by
 simp only [fitG, Bool.and_eq_true, decide_eq_true_eq] at h
 obtain ⟨h1, ⟨h2, h3⟩, h4⟩ := h
 have h5 : zQ k (lw k v) = true := by have := wF k v; simp only [zQ, decide_eq_true_eq]; exact this
 unfold vJ
 cases hr : zQ width r with
 | true => rw [lsbR_g h1 h2 h3 hr h5]; simp
 | false => rw [lsbR_b h1 (by simp [hr])]; simp
theorem fitsR_e (width : Int) (l : List Int) (k v : Int) : kQ width l k v = (fitG width k v && l.all (vJ width k v)) := by
 cases h : fitG width k v with
 | true =>
   have e : vJ width k v = fun r => (zQ width r && decide (lsbV width r k (lw k v) = v)) := funext (fit1_e h)
   rw [e]
   simp only [fitG, Bool.and_eq_true] at h
   unfold kQ
   rw [h.1, h.2.1, h.2.2]
   rfl
 | false =>
   unfold kQ
   simp only [fitG, Bool.and_eq_false_iff] at h
   rcases h with h | h | h <;> rw [h] <;> simp
attribute [irreducible] vJ
theorem r7fits_c (width : Int) (l : List Int) (k v : Int) (hl : l.length ≤ 100000) : LP Tryz.prog G 90 [iAV width, iv l, iAV k, iAV v] [] (fun _ => (.bool (kQ width l k v), [])) := by
 have hw := wZ (G := G) width
 rw [fitsR_e]
 cases hg : fitG width k v with
 | true =>
   have hgg := hg
   simp only [fitG, Bool.and_eq_true, decide_eq_true_eq, zQ] at hgg
   obtain ⟨h1, h2, h3⟩ := hgg
   have hn := vK h1
   rw [h1] at hw
   have e1 : IntKind.i64.wrap (1 * 2 ^ min (IntKind.u64.wrap width).toNat IntKind.i64.bits) = 2 ^ width.toNat := by rw [u64m (by omega) (by omega)]; exact vF (by omega)
   have hf : ∀ r, ¬ (xF width r k (lw k v)).2 = 0 → vJ width k v r = false := fun r h => by unfold vJ; simp [h]
   have hf2 : ∀ r, ¬ (xF width r k (lw k v)).1 = v → vJ width k v r = false := fun r h => by unfold vJ; simp [h]
   have hf3 : ∀ r, (xF width r k (lw k v)).2 = 0 → (xF width r k (lw k v)).1 = v → vJ width k v r = true := fun r h h' => by unfold vJ; simp [h, h']
   rw [Bool.true_and]
   refine goW [] Tryz.func90 rfl ?_
   conv => whnf
   repeat' ((first | exact Nm.b 0 | (show LC _ _ _ _ _ _; first | refine LC.pure (hw) ?_ | refine LC.pure (xb k v (by omega) (by omega)) ?_ | refine LC.pure (xx _ _ _ _) ?_ | refine goE ?_) | (show AC _ _ _; first | (refine AC.idx (i) (0) ?_ ?_ ?_; (focus (first | exact rfl | (simp; done) | (simp; omega))); (focus (first | omega | exact T.side)))) | refine T.s ?_ | ((first | apply goB | apply AB.dec | apply AB.gen) <;> intro h <;> try (exfalso; omega)) | refine LQ.mk fun r => ?_ | (show SQ _ _ _ (.loop _) _ _ _; first | (apply goO tQ [] 4 (S := Nat) [0, 1, 2, 3] (fun i => ⟨[(9, .int .i64 i)], [], i ≤ l.length ∧ (l.take i).all (vJ width k v) = true, l.length - i⟩) (0) (by rfl); (focus (all_goals (try exact KCA0); done)); rintro i ⟨hk, hok⟩)) | (show SQ _ _ _ _ _ _ _; first | (refine goD tQ qb 6 [4, 8] [0, 1, 2, 3, 4, 5, 6, 7, 8, 9, 10, 11, 12, 13, 14] [] (by kernel_rfl) ?_)) | (show AtL _ _ _ _ _ _ _ _ _ _; first | (apply AtL.mk' (id := 4) (S := Nat) (i + 1); all_goals (try exact KCA0); done) | (apply AtL.mk' (id := 4) (S := Nat) (i + 1); all_goals (try exact KCA0))) | exact T.z | refine ⟨_, rfl, rfl, ?_⟩ | fail) <;> conv => whnf)
   all_goals (try dsimp only)
   all_goals first
     | ((show RL _ _ _; refine goR ?_); rw [zE l i 0 (by omega) (hf _ (by assumption))])
     | ((show RL _ _ _; refine goR ?_); rw [zE l i 0 (by omega) (hf2 _ (by assumption))])
     | ((show RL _ _ _; refine goR ?_); rw [xt (by omega) hok])
     | trace_state
 | false =>
   simp only [fitG, Bool.and_eq_false_iff, decide_eq_false_iff_not, zQ] at hg
   rw [Bool.false_and]
   cases h1 : xZ width with
   | false =>
     rw [h1] at hw
     refine goW [] Tryz.func90 rfl ?_
     conv => whnf
     repeat' ((first | exact Nm.b 0 | (show LC _ _ _ _ _ _; first | refine LC.pure (hw) ?_ | refine goE ?_) | refine T.s ?_ | ((first | apply goB | apply AB.dec | apply AB.gen) <;> intro h <;> try (exfalso; omega)) | refine LQ.mk fun r => ?_ | (show SQ _ _ _ _ _ _ _; first | (refine goD tQ qb 6 [4, 8] [0, 1, 2, 3, 4, 5, 6, 7, 8, 9, 10, 11, 12, 13, 14] [] (by kernel_rfl) ?_)) | exact T.z | refine ⟨_, rfl, rfl, ?_⟩ | fail) <;> conv => whnf)
     all_goals (try dsimp only)
     all_goals first | ((show RL _ _ _; refine goR ?_); rfl)
   | true =>
     have hn := vK h1
     rw [h1] at hw
     have e1 : IntKind.i64.wrap (1 * 2 ^ min (IntKind.u64.wrap width).toNat IntKind.i64.bits) = 2 ^ width.toNat := by rw [u64m (by omega) (by omega)]; exact vF (by omega)
     have hg : ¬ (3 ≤ k ∧ k ≤ width) ∨ ¬ (0 ≤ v ∧ v < 2 ^ width.toNat) := by
       rcases hg with hg | hg
       · rw [hg] at h1; cases h1
       · exact hg
     refine goW [] Tryz.func90 rfl ?_
     conv => whnf
     repeat' ((first | exact Nm.b 0 | (show LC _ _ _ _ _ _; first | refine LC.pure (hw) ?_ | refine goE ?_) | refine T.s ?_ | ((first | apply goB | apply AB.dec | apply AB.gen) <;> intro h <;> try (exfalso; omega)) | refine LQ.mk fun r => ?_ | (show SQ _ _ _ (.loop _) _ _ _; first | (refine goL tQ [] 4 (S := Nat) [0, 1, 2, 3] (fun i => ⟨[(9, .int .i64 i)], [], False, l.length - i⟩) (0) ?_; rintro i hok; (try dsimp only at hok))) | (show SQ _ _ _ _ _ _ _; first | (refine goD tQ qb 6 [4, 8] [0, 1, 2, 3, 4, 5, 6, 7, 8, 9, 10, 11, 12, 13, 14] [] (by kernel_rfl) ?_)) | (show AtL _ _ _ _ _ _ _ _ _ _; first | (show AtL 4 _ _ _ _ _ _ _ _ _; exact goN 4 (S := Nat) (i + 1)) | (apply AtL.mk' (id := 4) (S := Nat) (i + 1); all_goals (try exact KC12))) | exact T.z | refine ⟨_, rfl, rfl, ?_⟩ | fail) <;> conv => whnf)
     all_goals (try dsimp only)
     all_goals first | ((show RL _ _ _; refine goR ?_); rfl)
theorem r9size_c (f : Int) : LP Tryz.prog G 75 [iAV f] [] (fun _ => (iAV (cbR f), [])) := by
 refine goW [] Tryz.func75 rfl ?_
 conv => whnf
 repeat' ((first | refine T.s ?_ | ((first | apply goB | apply AB.dec | apply AB.gen) <;> intro h <;> try (exfalso; omega)) | refine LQ.mk fun r => ?_ | exact T.z | fail) <;> conv => whnf)
 all_goals (try dsimp only)
 all_goals
   (show RL _ _ _; refine goR ?_)
   simp [cbR, iAV, *]
theorem poly_cb (f : Int) : zU (cbR f) = true := by
 unfold zU cbR
 (repeat' split) <;> simp
theorem crcO_cb (f : Int) (l : List UInt8) : crcO (cbR f) l = (vk (cbR f) l, 0) := crcO_y (poly_cb f) l
theorem headL_le (h : Hd) : (qM h).length ≤ 40 := by rw [zP]; split <;> omega
theorem zy (hd : Hd) (f : Int) : LP Tryz.prog G 30 [hd.av, iAV f] [] (fun _ => (iAV (zK f hd), [])) := by
 have h1 := r3sum_c (G := G) (cbR f) (qM hd) (by have := headL_le hd; omega)
 have h0 := r3sum_c (G := G) (cbR f) [] (by decide)
 rw [crcO_cb] at h1 h0
 cases ko : hd.ok with
 | true =>
   rw [show zK f hd = vk (cbR f) (qM hd) by unfold zK headO; rw [if_pos ko]]
   refine goW [] Tryz.func30 rfl ?_
   conv => whnf
   repeat' ((first | exact Nm.b 0 | (show LC _ _ _ _ _ _; first | refine LC.pure (r9size_c _) ?_ | refine LC.own (r5head_c hd ko) ?_ | refine LC.mk' (h1) [_] ⟨LF.eq rfl, LF.rowF InL.here ?_, trivial⟩ ?_ | refine goE ?_) | refine T.s ?_ | ((first | apply goB | apply AB.dec | apply AB.gen) <;> intro h <;> try (exfalso; omega)) | refine LQ.mk fun r => ?_ | (show SQ _ _ _ _ _ _ _; first | refine gX 1 [2, 1] [0, 2, 1, 3, 4, 5, 6, 7, 8, 9] [] ?_) | exact T.z | fail) <;> conv => whnf)
   all_goals (try dsimp only)
   all_goals first | ((show RL _ _ _; refine goR ?_); rfl) | trace_state
 | false =>
   rw [show zK f hd = vk (cbR f) [] by unfold zK headO; rw [if_neg (by rw [ko]; decide)]]
   refine goW [] Tryz.func30 rfl ?_
   conv => whnf
   repeat' ((first | exact Nm.b 0 | (show LC _ _ _ _ _ _; first | refine LC.pure (r9size_c _) ?_ | refine LC.pure (r5head_n hd ko) ?_ | refine LC.mk' (h0) [] ⟨LF.eq rfl, LF.nils rfl rfl, trivial⟩ ?_ | refine goE ?_) | refine T.s ?_ | ((first | apply goB | apply AB.dec | apply AB.gen) <;> intro h <;> try (exfalso; omega)) | refine LQ.mk fun r => ?_ | (show SQ _ _ _ _ _ _ _; first | refine gX 1 [2, 1] [0, 2, 1, 3, 4, 5, 6, 7, 8, 9] [] ?_) | exact T.z | fail) <;> conv => whnf)
   all_goals (try dsimp only)
   all_goals first | ((show RL _ _ _; refine goR ?_); rfl) | trace_state
open Go.RowKit
variable {G : Nat → AV}
theorem q8 {α β : Type} {f : α → β} (l : List α) (i : Nat) (d : α) (h : i < l.length) : (l.take (i + 1)).map f = (l.take i).map f ++ [f (l.getD i d)] := by
 rw [List.take_succ_eq_append_getElem h, List.map_append]
 simp [List.getD_eq_getElem?_getD, h]
theorem xn {α : Type} {f : α → List AV} {n i : Nat} {l : List α} (hf : ∀ x, (f x).length = n) (h : (i : Int) < (l.length : Int)) : n ≤ (List.drop ((i : Int).toNat * n) (l.flatMap f)).length := by
 rw [List.length_drop, qy hf, ← Nat.sub_mul]
 exact Nat.le_mul_of_pos_left _ (by omega)
theorem kF (s : Sn) (hd : Hd) (k : Int) (hl : s.rf.length ≤ 100000) : LP Tryz.prog G 88 [s.av, hd.av, iAV k] [] (fun _ => (.bool (kQ 16 (s.rf.map Hd.num) k hd.num), [])) := by
 have hF := r7fits_c (G := G) 16 (s.rf.map Hd.num) k hd.num (by simpa using hl)
 refine goW [] Tryz.func88 rfl ?_
 conv => whnf
 repeat' ((first | (with_reducible refine And.intro (congrArg (fun z => List.map iAV (List.map Hd.num z)) (List.take_of_length_le (by omega))) (by simp; omega)) | (refine And.intro ?_ ?_; (focus (first | exact xn Hd.cs_len (by assumption) | exact T.kx | exact T.side))) | (show LC _ _ _ _ _ _; first | refine LC.pure (qI _) ?_ | refine LC.mk' (hF) [_] ⟨LF.eq rfl, LF.rowF InL.here ?_, LF.eq rfl, LF.eq rfl, trivial⟩ ?_ | refine goE ?_) | (show AC _ _ _; first | (refine AC.recd Hd.cs_len i Hd.z rfl rfl ?_ ?_; (focus omega))) | refine T.s ?_ | ((first | apply goB | apply AB.dec | apply AB.gen) <;> intro h <;> try (exfalso; omega)) | refine LQ.mk fun r => ?_ | (show SQ _ _ _ (.loop _) _ _ _; first | (apply goO tQ [] 3 (S := Nat × Nm × Nm × Nm) [2] (fun (i, q, a, b) => ⟨[(8, .int .i64 i), (7, .vw q 0 i 1), (3, .ptr a 0), (4, .ptr b 0)], [(q, ⟨3, (((s.rf.take i).map Hd.num).map iAV)⟩), (a, ⟨59, s.cs⟩), (b, ⟨65, hd.cs⟩)], i ≤ s.rf.length, s.rf.length - i⟩) ((0, _, _, _)) (by rfl); (focus ((repeat' first | exact trivial | (refine And.intro ?_ ?_) | exact LB.nil | (with_reducible exact LB.refl) | (apply LB.cons; (repeat first | refine goH ?_ | apply LH.here | apply LH.next); refine And.intro ?_ ?_; (focus (try (first | (with_reducible rfl) | (refine congrArg (Pl.mk _) ?_; (first | (with_reducible rfl) | (simp only [List.map_nil, List.take_zero]; done) | (rw [q8 _ _ Hd.z (by omega), List.map_append]; rfl) | rfl)) | rfl | (with_reducible refine congrArg (Pl.mk _) ?_))))) | assumption | (first | (focus (apply Eq.trans; (conv => lhs; whnf); (conv => rhs; whnf); done)) | rfl | ((conv => lhs; whnf); first | rfl | (refine congrArg (AV.int _) ?_; (exact T.num)) | (refine congrArg AV.bool ?_; (exact T.num)) | (refine vwc ?_; first | (exact T.num) | (first | (with_reducible rfl) | (simp only [List.map_nil, List.take_zero]; done) | (rw [q8 _ _ Hd.z (by omega), List.map_append]; rfl) | rfl)) | (refine qa ?_ ?_ <;> first | (exact T.num) | (first | (with_reducible rfl) | (simp only [List.map_nil, List.take_zero]; done) | (rw [q8 _ _ Hd.z (by omega), List.map_append]; rfl) | rfl)) | (first | (with_reducible rfl) | (simp only [List.map_nil, List.take_zero]; done) | (rw [q8 _ _ Hd.z (by omega), List.map_append]; rfl) | rfl))) | (exact T.num) | (dsimp only; (exact T.num)) | (first | (with_reducible rfl) | (simp only [List.map_nil, List.take_zero]; done) | (rw [q8 _ _ Hd.z (by omega), List.map_append]; rfl) | rfl)); done)); rintro ⟨i, q, a, b⟩ hok; (try dsimp only at hok))) | (show SQ _ _ _ _ _ _ _; first | refine SQ.adopt 7 1 3 (by rfl) fun q => ?_) | (show AtL _ _ _ _ _ _ _ _ _ _; first | (apply AtL.mk' (id := 3) (S := Nat × Nm × Nm × Nm) ((i + 1, _, _, _)); (repeat' first | exact trivial | (refine And.intro ?_ ?_) | exact LB.nil | (with_reducible exact LB.refl) | (apply LB.cons; (repeat first | refine goH ?_ | apply LH.here | apply LH.next); refine And.intro ?_ ?_; (focus (try (first | (with_reducible rfl) | (refine congrArg (Pl.mk _) ?_; (first | (with_reducible rfl) | (simp only [List.map_nil, List.take_zero]; done) | (rw [q8 _ _ Hd.z (by omega), List.map_append]; rfl) | rfl)) | rfl | (with_reducible refine congrArg (Pl.mk _) ?_))))) | assumption | (first | (focus (apply Eq.trans; (conv => lhs; whnf); (conv => rhs; whnf); done)) | rfl | ((conv => lhs; whnf); first | rfl | (refine congrArg (AV.int _) ?_; (exact T.num)) | (refine congrArg AV.bool ?_; (exact T.num)) | (refine vwc ?_; first | (exact T.num) | (first | (with_reducible rfl) | (simp only [List.map_nil, List.take_zero]; done) | (rw [q8 _ _ Hd.z (by omega), List.map_append]; rfl) | rfl)) | (refine qa ?_ ?_ <;> first | (exact T.num) | (first | (with_reducible rfl) | (simp only [List.map_nil, List.take_zero]; done) | (rw [q8 _ _ Hd.z (by omega), List.map_append]; rfl) | rfl)) | (first | (with_reducible rfl) | (simp only [List.map_nil, List.take_zero]; done) | (rw [q8 _ _ Hd.z (by omega), List.map_append]; rfl) | rfl))) | (exact T.num) | (dsimp only; (exact T.num)) | (first | (with_reducible rfl) | (simp only [List.map_nil, List.take_zero]; done) | (rw [q8 _ _ Hd.z (by omega), List.map_append]; rfl) | rfl)); done) | (apply AtL.mk' (id := 3) (S := Nat × Nm × Nm × Nm) ((i + 1, _, _, _)); (repeat' first | exact trivial | (refine And.intro ?_ ?_) | exact LB.nil | (with_reducible exact LB.refl) | (apply LB.cons; (repeat first | refine goH ?_ | apply LH.here | apply LH.next); refine And.intro ?_ ?_; (focus (try (first | (with_reducible rfl) | (refine congrArg (Pl.mk _) ?_; (first | (with_reducible rfl) | (simp only [List.map_nil, List.take_zero]; done) | (rw [q8 _ _ Hd.z (by omega), List.map_append]; rfl) | rfl)) | rfl | (with_reducible refine congrArg (Pl.mk _) ?_))))) | assumption | (first | (focus (apply Eq.trans; (conv => lhs; whnf); (conv => rhs; whnf); done)) | rfl | ((conv => lhs; whnf); first | rfl | (refine congrArg (AV.int _) ?_; (exact T.num)) | (refine congrArg AV.bool ?_; (exact T.num)) | (refine vwc ?_; first | (exact T.num) | (first | (with_reducible rfl) | (simp only [List.map_nil, List.take_zero]; done) | (rw [q8 _ _ Hd.z (by omega), List.map_append]; rfl) | rfl)) | (refine qa ?_ ?_ <;> first | (exact T.num) | (first | (with_reducible rfl) | (simp only [List.map_nil, List.take_zero]; done) | (rw [q8 _ _ Hd.z (by omega), List.map_append]; rfl) | rfl)) | (first | (with_reducible rfl) | (simp only [List.map_nil, List.take_zero]; done) | (rw [q8 _ _ Hd.z (by omega), List.map_append]; rfl) | rfl))) | (exact T.num) | (dsimp only; (exact T.num)) | (first | (with_reducible rfl) | (simp only [List.map_nil, List.take_zero]; done) | (rw [q8 _ _ Hd.z (by omega), List.map_append]; rfl) | rfl)))) | exact T.z | fail) <;> conv => whnf)
 all_goals (try dsimp only)
 all_goals
   (show RL _ _ _; refine goR ?_)
   rfl
section
variable {s : Sn} {h : Hd} {f : Int}
theorem ya (h3 : ¬ (f = 3 ∧ h.k ≠ 2)) (hf : kQ 16 (s.rf.map Hd.num) (wid f h.k 0) h.num = false) : zT s h f = false := by
 unfold zT
 rw [hf, decide_eq_false h3]
 simp
theorem xT (i : Nat) (hi : i < s.rf.length) (hb : kC s h f (s.rf.getD i Hd.z) = false) : zT s h f = false := by
 unfold zT
 rw [zE s.rf i Hd.z hi hb]
 rfl
theorem y9 (hall : s.rf.all (kC s h f) = true) (hf : f = 3 ∧ h.k ≠ 2 ∨ kQ 16 (s.rf.map Hd.num) (wid f h.k 0) h.num = true) (h2 : ¬ (f = 2 ∧ h.k = 2)) : zT s h f = true := by
 unfold zT
 rw [hall, decide_eq_true h2]
 rcases hf with hf | hf
 · rw [decide_eq_true hf]; rfl
 · rw [hf]; simp
theorem possR_tm (hall : s.rf.all (kC s h f) = true) (hf : kQ 16 (s.rf.map Hd.num) (wid f h.k 0) h.num = true) (h2 : f = 2 ∧ h.k = 2) : zT s h f = kQ 32 (s.rf.map (·.tm)) 16 h.tm := by
 unfold zT
 rw [hall, hf, decide_eq_false (by omega), decide_eq_false (by simp [h2])]
 simp
theorem refB_c {r : Hd} (h1 : ¬ vo r h = 0) : kC s h f r = false := by unfold kC; rw [decide_eq_false h1]; rfl
end
theorem Hd.eqs (a b : Hd) : qU [(a.k, b.k), (a.tos, b.tos), (a.id, b.id), (a.fx, b.fx), (a.ttl, b.ttl), (a.fr, b.fr), (a.to, b.to), (a.fp, b.fp), (a.tp, b.tp), (a.ck, b.ck), (a.mr, b.mr), (a.ty, b.ty), (a.sq, b.sq), (a.tm, b.tm), (a.sr, b.sr)] = decide (a = b) := by
 rw [Bool.eq_iff_iff]
 obtain ⟨a1, a2, a3, a4, a5, a6, a7, a8, a9, a10, a11, a12, a13, a14, a15⟩ := a
 obtain ⟨b1, b2, b3, b4, b5, b6, b7, b8, b9, b10, b11, b12, b13, b14, b15⟩ := b
 simp [qU]
theorem refB_1 {s : Sn} {h r : Hd} (h1 : vo r h = 0) : kC s h 1 r = decide (pckR s h r = h) := by unfold kC; rw [decide_eq_true h1]; simp
theorem refB_2 {s : Sn} {h r : Hd} (h1 : vo r h = 0) (h2 : h.k = 2) : kC s h 2 r = decide ((pckR s h r).id = h.id) := by unfold kC; rw [decide_eq_true h1]; simp [h2]
theorem jK {s : Sn} {h r : Hd} {f : Int} (h1 : vo r h = 0) (h2 : f ≠ 1) (h3 : ¬ (f = 2 ∧ h.k = 2)) : kC s h f r = true := by unfold kC; rw [decide_eq_true h1]; simp [h2]; by_cases h4 : f = 2 <;> by_cases h5 : h.k = 2 <;> simp_all
theorem r9poss_1 (s : Sn) (hd : Hd) (hl : s.rf.length ≤ 100000) : LP Tryz.prog G 53 [s.av, hd.av, iAV 1] [] (fun _ => (.bool (zT s hd 1), [])) := by
 have hF := kF (G := G) s hd 4 hl
 have hW : wid 1 hd.k 0 = 4 := by simp [wid]
 refine goW [] Tryz.func53 rfl ?_
 conv => whnf
 repeat' ((first | exact Nm.b 0 | (refine And.intro ?_ ?_; (focus (first | exact xn Hd.cs_len (by assumption) | exact InL.here | exact InL.next InL.here | exact InL.next (InL.next InL.here) | exact T.kx | exact T.side))) | (show LC _ _ _ _ _ _; first | refine LC.pure (hF) ?_ | refine LC.pure (qI _) ?_ | refine LC.pure (jC _ _) ?_ | refine LC.pure (zW s.dy _ _) ?_ | refine goE ?_) | (show AC _ _ _; first | (refine AC.recd Hd.cs_len i Hd.z rfl rfl ?_ ?_; (focus omega))) | refine T.s ?_ | ((first | apply goB | apply AB.dec | apply AB.gen) <;> intro h <;> try (exfalso; omega)) | refine LQ.mk fun r => ?_ | (show SQ _ _ _ (.loop _) _ _ _; first | (apply goO tQ [] 11 (S := Nat × Nm × Nm × Nm) [2, 7] (fun (i, q, a, b) => ⟨[(10, .int .i64 i), (9, .vw q 0 i 1), (3, .ptr a 0), (4, .ptr b 0)], [(q, ⟨3, (((s.rf.take i).map (·.tm)).map iAV)⟩), (a, ⟨59, s.cs⟩), (b, ⟨65, hd.cs⟩)], i ≤ s.rf.length ∧ (s.rf.take i).all (kC s hd 1) = true, s.rf.length - i⟩) ((0, _, _, _)) (by rfl); (focus ((repeat' first | exact trivial | (refine And.intro ?_ ?_) | exact LB.nil | (with_reducible exact LB.refl) | (apply LB.cons; (repeat first | refine goH ?_ | apply LH.here | apply LH.next); refine And.intro ?_ ?_; (focus (try (first | (with_reducible rfl) | (refine congrArg (Pl.mk _) ?_; (first | (with_reducible rfl) | (simp only [List.map_nil, List.take_zero]; done) | (rw [q8 _ _ Hd.z (by omega), List.map_append]; rfl) | rfl)) | rfl | (with_reducible refine congrArg (Pl.mk _) ?_))))) | assumption | (rw [qH _ _ Hd.z (by omega), hok, refB_1 (by assumption), ← Hd.eqs]; exact h) | (first | (focus (apply Eq.trans; (conv => lhs; whnf); (conv => rhs; whnf); done)) | rfl | ((conv => lhs; whnf); first | rfl | (refine congrArg (AV.int _) ?_; (exact T.num)) | (refine congrArg AV.bool ?_; (exact T.num)) | (refine vwc ?_; first | (exact T.num) | (first | (with_reducible rfl) | (simp only [List.map_nil, List.take_zero]; done) | (rw [q8 _ _ Hd.z (by omega), List.map_append]; rfl) | rfl)) | (refine qa ?_ ?_ <;> first | (exact T.num) | (first | (with_reducible rfl) | (simp only [List.map_nil, List.take_zero]; done) | (rw [q8 _ _ Hd.z (by omega), List.map_append]; rfl) | rfl)) | (first | (with_reducible rfl) | (simp only [List.map_nil, List.take_zero]; done) | (rw [q8 _ _ Hd.z (by omega), List.map_append]; rfl) | rfl))) | (exact T.num) | (dsimp only; (exact T.num)) | (first | (with_reducible rfl) | (simp only [List.map_nil, List.take_zero]; done) | (rw [q8 _ _ Hd.z (by omega), List.map_append]; rfl) | rfl)); done)); rintro ⟨i, q, a, b⟩ ⟨hk, hok⟩)) | (show SQ _ _ _ _ _ _ _; first | refine SQ.adopt 9 1 3 (by rfl) fun q => ?_ | (apply goD tQ qb 17 [1, 2, 4] [0, 1, 2, 3, 4, 5, 6, 7] [a, b, _] (by kernel_rfl))) | (show AtL _ _ _ _ _ _ _ _ _ _; first | (apply AtL.mk' (id := 11) (S := Nat × Nm × Nm × Nm) ((i + 1, _, _, _)); (repeat' first | exact trivial | (refine And.intro ?_ ?_) | exact LB.nil | (with_reducible exact LB.refl) | (apply LB.cons; (repeat first | refine goH ?_ | apply LH.here | apply LH.next); refine And.intro ?_ ?_; (focus (try (first | (with_reducible rfl) | (refine congrArg (Pl.mk _) ?_; (first | (with_reducible rfl) | (simp only [List.map_nil, List.take_zero]; done) | (rw [q8 _ _ Hd.z (by omega), List.map_append]; rfl) | rfl)) | rfl | (with_reducible refine congrArg (Pl.mk _) ?_))))) | assumption | (rw [qH _ _ Hd.z (by omega), hok, refB_1 (by assumption), ← Hd.eqs]; exact h) | (first | (focus (apply Eq.trans; (conv => lhs; whnf); (conv => rhs; whnf); done)) | rfl | ((conv => lhs; whnf); first | rfl | (refine congrArg (AV.int _) ?_; (exact T.num)) | (refine congrArg AV.bool ?_; (exact T.num)) | (refine vwc ?_; first | (exact T.num) | (first | (with_reducible rfl) | (simp only [List.map_nil, List.take_zero]; done) | (rw [q8 _ _ Hd.z (by omega), List.map_append]; rfl) | rfl)) | (refine qa ?_ ?_ <;> first | (exact T.num) | (first | (with_reducible rfl) | (simp only [List.map_nil, List.take_zero]; done) | (rw [q8 _ _ Hd.z (by omega), List.map_append]; rfl) | rfl)) | (first | (with_reducible rfl) | (simp only [List.map_nil, List.take_zero]; done) | (rw [q8 _ _ Hd.z (by omega), List.map_append]; rfl) | rfl))) | (exact T.num) | (dsimp only; (exact T.num)) | (first | (with_reducible rfl) | (simp only [List.map_nil, List.take_zero]; done) | (rw [q8 _ _ Hd.z (by omega), List.map_append]; rfl) | rfl)); done) | (apply AtL.mk' (id := 11) (S := Nat × Nm × Nm × Nm) ((i + 1, _, _, _)); (repeat' first | exact trivial | (refine And.intro ?_ ?_) | exact LB.nil | (with_reducible exact LB.refl) | (apply LB.cons; (repeat first | refine goH ?_ | apply LH.here | apply LH.next); refine And.intro ?_ ?_; (focus (try (first | (with_reducible rfl) | (refine congrArg (Pl.mk _) ?_; (first | (with_reducible rfl) | (simp only [List.map_nil, List.take_zero]; done) | (rw [q8 _ _ Hd.z (by omega), List.map_append]; rfl) | rfl)) | rfl | (with_reducible refine congrArg (Pl.mk _) ?_))))) | assumption | (rw [qH _ _ Hd.z (by omega), hok, refB_1 (by assumption), ← Hd.eqs]; exact h) | (first | (focus (apply Eq.trans; (conv => lhs; whnf); (conv => rhs; whnf); done)) | rfl | ((conv => lhs; whnf); first | rfl | (refine congrArg (AV.int _) ?_; (exact T.num)) | (refine congrArg AV.bool ?_; (exact T.num)) | (refine vwc ?_; first | (exact T.num) | (first | (with_reducible rfl) | (simp only [List.map_nil, List.take_zero]; done) | (rw [q8 _ _ Hd.z (by omega), List.map_append]; rfl) | rfl)) | (refine qa ?_ ?_ <;> first | (exact T.num) | (first | (with_reducible rfl) | (simp only [List.map_nil, List.take_zero]; done) | (rw [q8 _ _ Hd.z (by omega), List.map_append]; rfl) | rfl)) | (first | (with_reducible rfl) | (simp only [List.map_nil, List.take_zero]; done) | (rw [q8 _ _ Hd.z (by omega), List.map_append]; rfl) | rfl))) | (exact T.num) | (dsimp only; (exact T.num)) | (first | (with_reducible rfl) | (simp only [List.map_nil, List.take_zero]; done) | (rw [q8 _ _ Hd.z (by omega), List.map_append]; rfl) | rfl)))) | exact T.z | fail) <;> try (show (_ : Prop); conv => whnf))
 all_goals (try dsimp only)
 all_goals first
   | ((show RL _ _ _; refine goR ?_); rw [xT i (by omega) (refB_c (by assumption))])
   | ((show RL _ _ _; refine goR ?_); rw [xT i (by omega) (by rw [refB_1 (by assumption), ← Hd.eqs]; exact h)])
   | ((show RL _ _ _; refine goR ?_); rw [ya (by omega) (by rw [hW]; exact h)])
   | ((show RL _ _ _; refine goR ?_); rw [y9 (xt (by omega) hok) (.inr (by rw [hW]; assumption)) (by omega)])
   | trace_state
theorem r9poss_2t (s : Sn) (hd : Hd) (k : hd.k = 2) (hl : s.rf.length ≤ 100000) : LP Tryz.prog G 53 [s.av, hd.av, iAV 2] [] (fun _ => (.bool (zT s hd 2), [])) := by
 have hT := r7fits_c (G := G) 32 (s.rf.map (·.tm)) 16 hd.tm (by simpa using hl)
 have hF := kF (G := G) s hd 5 hl
 have hW : wid 2 hd.k 0 = 5 := by simp [wid, k]
 refine goW [] Tryz.func53 rfl ?_
 conv => whnf
 repeat' ((first | (with_reducible refine And.intro (congrArg (fun z => List.map iAV (List.map (fun x : Hd => x.tm) z)) (List.take_of_length_le (by omega))) (by simp; omega)) | exact Nm.b 0 | (refine And.intro ?_ ?_; (focus (first | exact xn Hd.cs_len (by assumption) | exact InL.here | exact InL.next InL.here | exact InL.next (InL.next InL.here) | exact T.kx | exact T.side))) | (show LC _ _ _ _ _ _; first | refine LC.pure (hF) ?_ | refine LC.pure (qI _) ?_ | refine LC.pure (jC _ _) ?_ | refine LC.pure (zW s.dy _ _) ?_ | refine LC.mk' (hT) [_] ⟨LF.eq rfl, LF.rowF InL.here ?_, LF.eq rfl, LF.eq rfl, trivial⟩ ?_ | refine goE ?_) | (show AC _ _ _; first | (refine AC.recd Hd.cs_len i Hd.z rfl rfl ?_ ?_; (focus omega))) | refine T.s ?_ | ((first | apply goB | apply AB.dec | apply AB.gen) <;> intro h <;> try (exfalso; omega)) | refine LQ.mk fun r => ?_ | (show SQ _ _ _ (.loop _) _ _ _; first | (apply goO tQ [] 11 (S := Nat × Nm × Nm × Nm) [2, 7] (fun (i, q, a, b) => ⟨[(10, .int .i64 i), (9, .vw q 0 i 1), (3, .ptr a 0), (4, .ptr b 0)], [(q, ⟨3, (((s.rf.take i).map (·.tm)).map iAV)⟩), (a, ⟨59, s.cs⟩), (b, ⟨65, hd.cs⟩)], i ≤ s.rf.length ∧ (s.rf.take i).all (kC s hd 2) = true, s.rf.length - i⟩) ((0, _, _, _)) (by rfl); (focus ((repeat' first | exact trivial | (refine And.intro ?_ ?_) | exact LB.nil | (with_reducible exact LB.refl) | (apply LB.cons; (repeat first | refine goH ?_ | apply LH.here | apply LH.next); refine And.intro ?_ ?_; (focus (try (first | (with_reducible rfl) | (refine congrArg (Pl.mk _) ?_; (first | (with_reducible rfl) | (simp only [List.map_nil, List.take_zero]; done) | (rw [q8 _ _ Hd.z (by omega), List.map_append]; rfl) | rfl)) | rfl | (with_reducible refine congrArg (Pl.mk _) ?_))))) | assumption | (rw [qH _ _ Hd.z (by omega), hok, refB_2 (by assumption) k]; exact decide_eq_true (by assumption)) | (first | (focus (apply Eq.trans; (conv => lhs; whnf); (conv => rhs; whnf); done)) | rfl | ((conv => lhs; whnf); first | rfl | (refine congrArg (AV.int _) ?_; (exact T.num)) | (refine congrArg AV.bool ?_; (exact T.num)) | (refine vwc ?_; first | (exact T.num) | (first | (with_reducible rfl) | (simp only [List.map_nil, List.take_zero]; done) | (rw [q8 _ _ Hd.z (by omega), List.map_append]; rfl) | rfl)) | (refine qa ?_ ?_ <;> first | (exact T.num) | (first | (with_reducible rfl) | (simp only [List.map_nil, List.take_zero]; done) | (rw [q8 _ _ Hd.z (by omega), List.map_append]; rfl) | rfl)) | (first | (with_reducible rfl) | (simp only [List.map_nil, List.take_zero]; done) | (rw [q8 _ _ Hd.z (by omega), List.map_append]; rfl) | rfl))) | (exact T.num) | (dsimp only; (exact T.num)) | (first | (with_reducible rfl) | (simp only [List.map_nil, List.take_zero]; done) | (rw [q8 _ _ Hd.z (by omega), List.map_append]; rfl) | rfl)); done)); rintro ⟨i, q, a, b⟩ ⟨hk, hok⟩)) | (show SQ _ _ _ _ _ _ _; first | refine SQ.adopt 9 1 3 (by rfl) fun q => ?_ | (apply goD tQ qb 17 [1, 2, 4] [0, 1, 2, 3, 4, 5, 6, 7] [a, b, _] (by kernel_rfl))) | (show AtL _ _ _ _ _ _ _ _ _ _; first | (apply AtL.mk' (id := 11) (S := Nat × Nm × Nm × Nm) ((i + 1, _, _, _)); (repeat' first | exact trivial | (refine And.intro ?_ ?_) | exact LB.nil | (with_reducible exact LB.refl) | (apply LB.cons; (repeat first | refine goH ?_ | apply LH.here | apply LH.next); refine And.intro ?_ ?_; (focus (try (first | (with_reducible rfl) | (refine congrArg (Pl.mk _) ?_; (first | (with_reducible rfl) | (simp only [List.map_nil, List.take_zero]; done) | (rw [q8 _ _ Hd.z (by omega), List.map_append]; rfl) | rfl)) | rfl | (with_reducible refine congrArg (Pl.mk _) ?_))))) | assumption | (rw [qH _ _ Hd.z (by omega), hok, refB_2 (by assumption) k]; exact decide_eq_true (by assumption)) | (first | (focus (apply Eq.trans; (conv => lhs; whnf); (conv => rhs; whnf); done)) | rfl | ((conv => lhs; whnf); first | rfl | (refine congrArg (AV.int _) ?_; (exact T.num)) | (refine congrArg AV.bool ?_; (exact T.num)) | (refine vwc ?_; first | (exact T.num) | (first | (with_reducible rfl) | (simp only [List.map_nil, List.take_zero]; done) | (rw [q8 _ _ Hd.z (by omega), List.map_append]; rfl) | rfl)) | (refine qa ?_ ?_ <;> first | (exact T.num) | (first | (with_reducible rfl) | (simp only [List.map_nil, List.take_zero]; done) | (rw [q8 _ _ Hd.z (by omega), List.map_append]; rfl) | rfl)) | (first | (with_reducible rfl) | (simp only [List.map_nil, List.take_zero]; done) | (rw [q8 _ _ Hd.z (by omega), List.map_append]; rfl) | rfl))) | (exact T.num) | (dsimp only; (exact T.num)) | (first | (with_reducible rfl) | (simp only [List.map_nil, List.take_zero]; done) | (rw [q8 _ _ Hd.z (by omega), List.map_append]; rfl) | rfl)); done) | (apply AtL.mk' (id := 11) (S := Nat × Nm × Nm × Nm) ((i + 1, _, _, _)); (repeat' first | exact trivial | (refine And.intro ?_ ?_) | exact LB.nil | (with_reducible exact LB.refl) | (apply LB.cons; (repeat first | refine goH ?_ | apply LH.here | apply LH.next); refine And.intro ?_ ?_; (focus (try (first | (with_reducible rfl) | (refine congrArg (Pl.mk _) ?_; (first | (with_reducible rfl) | (simp only [List.map_nil, List.take_zero]; done) | (rw [q8 _ _ Hd.z (by omega), List.map_append]; rfl) | rfl)) | rfl | (with_reducible refine congrArg (Pl.mk _) ?_))))) | assumption | (rw [qH _ _ Hd.z (by omega), hok, refB_2 (by assumption) k]; exact decide_eq_true (by assumption)) | (first | (focus (apply Eq.trans; (conv => lhs; whnf); (conv => rhs; whnf); done)) | rfl | ((conv => lhs; whnf); first | rfl | (refine congrArg (AV.int _) ?_; (exact T.num)) | (refine congrArg AV.bool ?_; (exact T.num)) | (refine vwc ?_; first | (exact T.num) | (first | (with_reducible rfl) | (simp only [List.map_nil, List.take_zero]; done) | (rw [q8 _ _ Hd.z (by omega), List.map_append]; rfl) | rfl)) | (refine qa ?_ ?_ <;> first | (exact T.num) | (first | (with_reducible rfl) | (simp only [List.map_nil, List.take_zero]; done) | (rw [q8 _ _ Hd.z (by omega), List.map_append]; rfl) | rfl)) | (first | (with_reducible rfl) | (simp only [List.map_nil, List.take_zero]; done) | (rw [q8 _ _ Hd.z (by omega), List.map_append]; rfl) | rfl))) | (exact T.num) | (dsimp only; (exact T.num)) | (first | (with_reducible rfl) | (simp only [List.map_nil, List.take_zero]; done) | (rw [q8 _ _ Hd.z (by omega), List.map_append]; rfl) | rfl)))) | exact T.z | fail) <;> try (show (_ : Prop); conv => whnf))
 all_goals (try dsimp only)
 all_goals first
   | ((show RL _ _ _; refine goR ?_); rw [xT i (by omega) (refB_c (by assumption))])
   | ((show RL _ _ _; refine goR ?_); rw [xT i (by omega) (by rw [refB_2 (by assumption) k]; exact decide_eq_false (by assumption))])
   | ((show RL _ _ _; refine goR ?_); rw [ya (by omega) (by rw [hW]; exact h)])
   | ((show RL _ _ _; refine goR ?_); rw [possR_tm (xt (by omega) hok) (by rw [hW]; assumption) ⟨rfl, k⟩])
   | ((show RL _ _ _; refine goR ?_); rw [possR_tm (xt (by omega) hok) (by rw [hW]; assumption) ⟨rfl, k⟩, h])
   | trace_state
theorem r9poss_2u (s : Sn) (hd : Hd) (k : ¬ hd.k = 2) (hl : s.rf.length ≤ 100000) : LP Tryz.prog G 53 [s.av, hd.av, iAV 2] [] (fun _ => (.bool (zT s hd 2), [])) := by
 have hF := kF (G := G) s hd 5 hl
 have hW : wid 2 hd.k 0 = 5 := by simp [wid, k]
 refine goW [] Tryz.func53 rfl ?_
 conv => whnf
 repeat' ((first | exact Nm.b 0 | (refine And.intro ?_ ?_; (focus (first | exact xn Hd.cs_len (by assumption) | exact InL.here | exact InL.next InL.here | exact InL.next (InL.next InL.here) | exact T.kx | exact T.side))) | (show LC _ _ _ _ _ _; first | refine LC.pure (hF) ?_ | refine LC.pure (qI _) ?_ | refine LC.pure (jC _ _) ?_ | refine LC.pure (zW s.dy _ _) ?_ | refine goE ?_) | (show AC _ _ _; first | (refine AC.recd Hd.cs_len i Hd.z rfl rfl ?_ ?_; (focus omega))) | refine T.s ?_ | ((first | apply goB | apply AB.dec | apply AB.gen) <;> intro h <;> try (exfalso; omega)) | refine LQ.mk fun r => ?_ | (show SQ _ _ _ (.loop _) _ _ _; first | (apply goO tQ [] 11 (S := Nat × Nm × Nm × Nm) [2, 7] (fun (i, q, a, b) => ⟨[(10, .int .i64 i), (9, .vw q 0 i 1), (3, .ptr a 0), (4, .ptr b 0)], [(q, ⟨3, (((s.rf.take i).map (·.tm)).map iAV)⟩), (a, ⟨59, s.cs⟩), (b, ⟨65, hd.cs⟩)], i ≤ s.rf.length ∧ (s.rf.take i).all (kC s hd 2) = true, s.rf.length - i⟩) ((0, _, _, _)) (by rfl); (focus ((repeat' first | exact trivial | (refine And.intro ?_ ?_) | exact LB.nil | (with_reducible exact LB.refl) | (apply LB.cons; (repeat first | refine goH ?_ | apply LH.here | apply LH.next); refine And.intro ?_ ?_; (focus (try (first | (with_reducible rfl) | (refine congrArg (Pl.mk _) ?_; (first | (with_reducible rfl) | (simp only [List.map_nil, List.take_zero]; done) | (rw [q8 _ _ Hd.z (by omega), List.map_append]; rfl) | rfl)) | rfl | (with_reducible refine congrArg (Pl.mk _) ?_))))) | assumption | (rw [qH _ _ Hd.z (by omega), hok, jK (by assumption) (by decide) (by omega)]; rfl) | (first | (focus (apply Eq.trans; (conv => lhs; whnf); (conv => rhs; whnf); done)) | rfl | ((conv => lhs; whnf); first | rfl | (refine congrArg (AV.int _) ?_; (exact T.num)) | (refine congrArg AV.bool ?_; (exact T.num)) | (refine vwc ?_; first | (exact T.num) | (first | (with_reducible rfl) | (simp only [List.map_nil, List.take_zero]; done) | (rw [q8 _ _ Hd.z (by omega), List.map_append]; rfl) | rfl)) | (refine qa ?_ ?_ <;> first | (exact T.num) | (first | (with_reducible rfl) | (simp only [List.map_nil, List.take_zero]; done) | (rw [q8 _ _ Hd.z (by omega), List.map_append]; rfl) | rfl)) | (first | (with_reducible rfl) | (simp only [List.map_nil, List.take_zero]; done) | (rw [q8 _ _ Hd.z (by omega), List.map_append]; rfl) | rfl))) | (exact T.num) | (dsimp only; (exact T.num)) | (first | (with_reducible rfl) | (simp only [List.map_nil, List.take_zero]; done) | (rw [q8 _ _ Hd.z (by omega), List.map_append]; rfl) | rfl)); done)); rintro ⟨i, q, a, b⟩ ⟨hk, hok⟩)) | (show SQ _ _ _ _ _ _ _; first | refine SQ.adopt 9 1 3 (by rfl) fun q => ?_ | (apply goD tQ qb 17 [1, 2, 4] [0, 1, 2, 3, 4, 5, 6, 7] [a, b, _] (by kernel_rfl))) | (show AtL _ _ _ _ _ _ _ _ _ _; first | (apply AtL.mk' (id := 11) (S := Nat × Nm × Nm × Nm) ((i + 1, _, _, _)); (repeat' first | exact trivial | (refine And.intro ?_ ?_) | exact LB.nil | (with_reducible exact LB.refl) | (apply LB.cons; (repeat first | refine goH ?_ | apply LH.here | apply LH.next); refine And.intro ?_ ?_; (focus (try (first | (with_reducible rfl) | (refine congrArg (Pl.mk _) ?_; (first | (with_reducible rfl) | (simp only [List.map_nil, List.take_zero]; done) | (rw [q8 _ _ Hd.z (by omega), List.map_append]; rfl) | rfl)) | rfl | (with_reducible refine congrArg (Pl.mk _) ?_))))) | assumption | (rw [qH _ _ Hd.z (by omega), hok, jK (by assumption) (by decide) (by omega)]; rfl) | (first | (focus (apply Eq.trans; (conv => lhs; whnf); (conv => rhs; whnf); done)) | rfl | ((conv => lhs; whnf); first | rfl | (refine congrArg (AV.int _) ?_; (exact T.num)) | (refine congrArg AV.bool ?_; (exact T.num)) | (refine vwc ?_; first | (exact T.num) | (first | (with_reducible rfl) | (simp only [List.map_nil, List.take_zero]; done) | (rw [q8 _ _ Hd.z (by omega), List.map_append]; rfl) | rfl)) | (refine qa ?_ ?_ <;> first | (exact T.num) | (first | (with_reducible rfl) | (simp only [List.map_nil, List.take_zero]; done) | (rw [q8 _ _ Hd.z (by omega), List.map_append]; rfl) | rfl)) | (first | (with_reducible rfl) | (simp only [List.map_nil, List.take_zero]; done) | (rw [q8 _ _ Hd.z (by omega), List.map_append]; rfl) | rfl))) | (exact T.num) | (dsimp only; (exact T.num)) | (first | (with_reducible rfl) | (simp only [List.map_nil, List.take_zero]; done) | (rw [q8 _ _ Hd.z (by omega), List.map_append]; rfl) | rfl)); done) | (apply AtL.mk' (id := 11) (S := Nat × Nm × Nm × Nm) ((i + 1, _, _, _)); (repeat' first | exact trivial | (refine And.intro ?_ ?_) | exact LB.nil | (with_reducible exact LB.refl) | (apply LB.cons; (repeat first | refine goH ?_ | apply LH.here | apply LH.next); refine And.intro ?_ ?_; (focus (try (first | (with_reducible rfl) | (refine congrArg (Pl.mk _) ?_; (first | (with_reducible rfl) | (simp only [List.map_nil, List.take_zero]; done) | (rw [q8 _ _ Hd.z (by omega), List.map_append]; rfl) | rfl)) | rfl | (with_reducible refine congrArg (Pl.mk _) ?_))))) | assumption | (rw [qH _ _ Hd.z (by omega), hok, jK (by assumption) (by decide) (by omega)]; rfl) | (first | (focus (apply Eq.trans; (conv => lhs; whnf); (conv => rhs; whnf); done)) | rfl | ((conv => lhs; whnf); first | rfl | (refine congrArg (AV.int _) ?_; (exact T.num)) | (refine congrArg AV.bool ?_; (exact T.num)) | (refine vwc ?_; first | (exact T.num) | (first | (with_reducible rfl) | (simp only [List.map_nil, List.take_zero]; done) | (rw [q8 _ _ Hd.z (by omega), List.map_append]; rfl) | rfl)) | (refine qa ?_ ?_ <;> first | (exact T.num) | (first | (with_reducible rfl) | (simp only [List.map_nil, List.take_zero]; done) | (rw [q8 _ _ Hd.z (by omega), List.map_append]; rfl) | rfl)) | (first | (with_reducible rfl) | (simp only [List.map_nil, List.take_zero]; done) | (rw [q8 _ _ Hd.z (by omega), List.map_append]; rfl) | rfl))) | (exact T.num) | (dsimp only; (exact T.num)) | (first | (with_reducible rfl) | (simp only [List.map_nil, List.take_zero]; done) | (rw [q8 _ _ Hd.z (by omega), List.map_append]; rfl) | rfl)))) | exact T.z | fail) <;> try (show (_ : Prop); conv => whnf))
 all_goals (try dsimp only)
 all_goals first
   | ((show RL _ _ _; refine goR ?_); rw [xT i (by omega) (refB_c (by assumption))])
   | ((show RL _ _ _; refine goR ?_); rw [ya (by omega) (by rw [hW]; exact h)])
   | ((show RL _ _ _; refine goR ?_); rw [y9 (xt (by omega) hok) (.inr (by rw [hW]; assumption)) (by omega)])
   | trace_state
theorem r9poss_3t (s : Sn) (hd : Hd) (k : hd.k = 2) (hl : s.rf.length ≤ 100000) : LP Tryz.prog G 53 [s.av, hd.av, iAV 3] [] (fun _ => (.bool (zT s hd 3), [])) := by
 have hF := kF (G := G) s hd 8 hl
 have hW : wid 3 hd.k 0 = 8 := by simp [wid, k]
 refine goW [] Tryz.func53 rfl ?_
 conv => whnf
 repeat' ((first | exact Nm.b 0 | (refine And.intro ?_ ?_; (focus (first | exact xn Hd.cs_len (by assumption) | exact InL.here | exact InL.next InL.here | exact InL.next (InL.next InL.here) | exact T.kx | exact T.side))) | (show LC _ _ _ _ _ _; first | refine LC.pure (hF) ?_ | refine LC.pure (qI _) ?_ | refine LC.pure (jC _ _) ?_ | refine LC.pure (zW s.dy _ _) ?_ | refine goE ?_) | (show AC _ _ _; first | (refine AC.recd Hd.cs_len i Hd.z rfl rfl ?_ ?_; (focus omega))) | refine T.s ?_ | ((first | apply goB | apply AB.dec | apply AB.gen) <;> intro h <;> try (exfalso; omega)) | refine LQ.mk fun r => ?_ | (show SQ _ _ _ (.loop _) _ _ _; first | (apply goO tQ [] 11 (S := Nat × Nm × Nm × Nm) [2, 7] (fun (i, q, a, b) => ⟨[(10, .int .i64 i), (9, .vw q 0 i 1), (3, .ptr a 0), (4, .ptr b 0)], [(q, ⟨3, (((s.rf.take i).map (·.tm)).map iAV)⟩), (a, ⟨59, s.cs⟩), (b, ⟨65, hd.cs⟩)], i ≤ s.rf.length ∧ (s.rf.take i).all (kC s hd 3) = true, s.rf.length - i⟩) ((0, _, _, _)) (by rfl); (focus ((repeat' first | exact trivial | (refine And.intro ?_ ?_) | exact LB.nil | (with_reducible exact LB.refl) | (apply LB.cons; (repeat first | refine goH ?_ | apply LH.here | apply LH.next); refine And.intro ?_ ?_; (focus (try (first | (with_reducible rfl) | (refine congrArg (Pl.mk _) ?_; (first | (with_reducible rfl) | (simp only [List.map_nil, List.take_zero]; done) | (rw [q8 _ _ Hd.z (by omega), List.map_append]; rfl) | rfl)) | rfl | (with_reducible refine congrArg (Pl.mk _) ?_))))) | assumption | (rw [qH _ _ Hd.z (by omega), hok, jK (by assumption) (by decide) (by omega)]; rfl) | (first | (focus (apply Eq.trans; (conv => lhs; whnf); (conv => rhs; whnf); done)) | rfl | ((conv => lhs; whnf); first | rfl | (refine congrArg (AV.int _) ?_; (exact T.num)) | (refine congrArg AV.bool ?_; (exact T.num)) | (refine vwc ?_; first | (exact T.num) | (first | (with_reducible rfl) | (simp only [List.map_nil, List.take_zero]; done) | (rw [q8 _ _ Hd.z (by omega), List.map_append]; rfl) | rfl)) | (refine qa ?_ ?_ <;> first | (exact T.num) | (first | (with_reducible rfl) | (simp only [List.map_nil, List.take_zero]; done) | (rw [q8 _ _ Hd.z (by omega), List.map_append]; rfl) | rfl)) | (first | (with_reducible rfl) | (simp only [List.map_nil, List.take_zero]; done) | (rw [q8 _ _ Hd.z (by omega), List.map_append]; rfl) | rfl))) | (exact T.num) | (dsimp only; (exact T.num)) | (first | (with_reducible rfl) | (simp only [List.map_nil, List.take_zero]; done) | (rw [q8 _ _ Hd.z (by omega), List.map_append]; rfl) | rfl)); done)); rintro ⟨i, q, a, b⟩ ⟨hk, hok⟩)) | (show SQ _ _ _ _ _ _ _; first | refine SQ.adopt 9 1 3 (by rfl) fun q => ?_ | (apply goD tQ qb 17 [1, 2, 4] [0, 1, 2, 3, 4, 5, 6, 7] [a, b, _] (by kernel_rfl))) | (show AtL _ _ _ _ _ _ _ _ _ _; first | (apply AtL.mk' (id := 11) (S := Nat × Nm × Nm × Nm) ((i + 1, _, _, _)); (repeat' first | exact trivial | (refine And.intro ?_ ?_) | exact LB.nil | (with_reducible exact LB.refl) | (apply LB.cons; (repeat first | refine goH ?_ | apply LH.here | apply LH.next); refine And.intro ?_ ?_; (focus (try (first | (with_reducible rfl) | (refine congrArg (Pl.mk _) ?_; (first | (with_reducible rfl) | (simp only [List.map_nil, List.take_zero]; done) | (rw [q8 _ _ Hd.z (by omega), List.map_append]; rfl) | rfl)) | rfl | (with_reducible refine congrArg (Pl.mk _) ?_))))) | assumption | (rw [qH _ _ Hd.z (by omega), hok, jK (by assumption) (by decide) (by omega)]; rfl) | (first | (focus (apply Eq.trans; (conv => lhs; whnf); (conv => rhs; whnf); done)) | rfl | ((conv => lhs; whnf); first | rfl | (refine congrArg (AV.int _) ?_; (exact T.num)) | (refine congrArg AV.bool ?_; (exact T.num)) | (refine vwc ?_; first | (exact T.num) | (first | (with_reducible rfl) | (simp only [List.map_nil, List.take_zero]; done) | (rw [q8 _ _ Hd.z (by omega), List.map_append]; rfl) | rfl)) | (refine qa ?_ ?_ <;> first | (exact T.num) | (first | (with_reducible rfl) | (simp only [List.map_nil, List.take_zero]; done) | (rw [q8 _ _ Hd.z (by omega), List.map_append]; rfl) | rfl)) | (first | (with_reducible rfl) | (simp only [List.map_nil, List.take_zero]; done) | (rw [q8 _ _ Hd.z (by omega), List.map_append]; rfl) | rfl))) | (exact T.num) | (dsimp only; (exact T.num)) | (first | (with_reducible rfl) | (simp only [List.map_nil, List.take_zero]; done) | (rw [q8 _ _ Hd.z (by omega), List.map_append]; rfl) | rfl)); done) | (apply AtL.mk' (id := 11) (S := Nat × Nm × Nm × Nm) ((i + 1, _, _, _)); (repeat' first | exact trivial | (refine And.intro ?_ ?_) | exact LB.nil | (with_reducible exact LB.refl) | (apply LB.cons; (repeat first | refine goH ?_ | apply LH.here | apply LH.next); refine And.intro ?_ ?_; (focus (try (first | (with_reducible rfl) | (refine congrArg (Pl.mk _) ?_; (first | (with_reducible rfl) | (simp only [List.map_nil, List.take_zero]; done) | (rw [q8 _ _ Hd.z (by omega), List.map_append]; rfl) | rfl)) | rfl | (with_reducible refine congrArg (Pl.mk _) ?_))))) | assumption | (rw [qH _ _ Hd.z (by omega), hok, jK (by assumption) (by decide) (by omega)]; rfl) | (first | (focus (apply Eq.trans; (conv => lhs; whnf); (conv => rhs; whnf); done)) | rfl | ((conv => lhs; whnf); first | rfl | (refine congrArg (AV.int _) ?_; (exact T.num)) | (refine congrArg AV.bool ?_; (exact T.num)) | (refine vwc ?_; first | (exact T.num) | (first | (with_reducible rfl) | (simp only [List.map_nil, List.take_zero]; done) | (rw [q8 _ _ Hd.z (by omega), List.map_append]; rfl) | rfl)) | (refine qa ?_ ?_ <;> first | (exact T.num) | (first | (with_reducible rfl) | (simp only [List.map_nil, List.take_zero]; done) | (rw [q8 _ _ Hd.z (by omega), List.map_append]; rfl) | rfl)) | (first | (with_reducible rfl) | (simp only [List.map_nil, List.take_zero]; done) | (rw [q8 _ _ Hd.z (by omega), List.map_append]; rfl) | rfl))) | (exact T.num) | (dsimp only; (exact T.num)) | (first | (with_reducible rfl) | (simp only [List.map_nil, List.take_zero]; done) | (rw [q8 _ _ Hd.z (by omega), List.map_append]; rfl) | rfl)))) | exact T.z | fail) <;> try (show (_ : Prop); conv => whnf))
 all_goals (try dsimp only)
 all_goals first
   | ((show RL _ _ _; refine goR ?_); rw [xT i (by omega) (refB_c (by assumption))])
   | ((show RL _ _ _; refine goR ?_); rw [ya (by omega) (by rw [hW]; exact h)])
   | ((show RL _ _ _; refine goR ?_); rw [y9 (xt (by omega) hok) (.inr (by rw [hW]; assumption)) (by omega)])
   | trace_state
theorem r9poss_3u (s : Sn) (hd : Hd) (k : ¬ hd.k = 2) (hl : s.rf.length ≤ 100000) : LP Tryz.prog G 53 [s.av, hd.av, iAV 3] [] (fun _ => (.bool (zT s hd 3), [])) := by
 have hF := kF (G := G) s hd 16 hl
 have hW : wid 3 hd.k 0 = 16 := by simp [wid, k]
 refine goW [] Tryz.func53 rfl ?_
 conv => whnf
 repeat' ((first | exact Nm.b 0 | (refine And.intro ?_ ?_; (focus (first | exact xn Hd.cs_len (by assumption) | exact InL.here | exact InL.next InL.here | exact InL.next (InL.next InL.here) | exact T.kx | exact T.side))) | (show LC _ _ _ _ _ _; first | refine LC.pure (hF) ?_ | refine LC.pure (qI _) ?_ | refine LC.pure (jC _ _) ?_ | refine LC.pure (zW s.dy _ _) ?_ | refine goE ?_) | (show AC _ _ _; first | (refine AC.recd Hd.cs_len i Hd.z rfl rfl ?_ ?_; (focus omega))) | refine T.s ?_ | ((first | apply goB | apply AB.dec | apply AB.gen) <;> intro h <;> try (exfalso; omega)) | refine LQ.mk fun r => ?_ | (show SQ _ _ _ (.loop _) _ _ _; first | (apply goO tQ [] 11 (S := Nat × Nm × Nm × Nm) [2, 7] (fun (i, q, a, b) => ⟨[(10, .int .i64 i), (9, .vw q 0 i 1), (3, .ptr a 0), (4, .ptr b 0)], [(q, ⟨3, (((s.rf.take i).map (·.tm)).map iAV)⟩), (a, ⟨59, s.cs⟩), (b, ⟨65, hd.cs⟩)], i ≤ s.rf.length ∧ (s.rf.take i).all (kC s hd 3) = true, s.rf.length - i⟩) ((0, _, _, _)) (by rfl); (focus ((repeat' first | exact trivial | (refine And.intro ?_ ?_) | exact LB.nil | (with_reducible exact LB.refl) | (apply LB.cons; (repeat first | refine goH ?_ | apply LH.here | apply LH.next); refine And.intro ?_ ?_; (focus (try (first | (with_reducible rfl) | (refine congrArg (Pl.mk _) ?_; (first | (with_reducible rfl) | (simp only [List.map_nil, List.take_zero]; done) | (rw [q8 _ _ Hd.z (by omega), List.map_append]; rfl) | rfl)) | rfl | (with_reducible refine congrArg (Pl.mk _) ?_))))) | assumption | (rw [qH _ _ Hd.z (by omega), hok, jK (by assumption) (by decide) (by omega)]; rfl) | (first | (focus (apply Eq.trans; (conv => lhs; whnf); (conv => rhs; whnf); done)) | rfl | ((conv => lhs; whnf); first | rfl | (refine congrArg (AV.int _) ?_; (exact T.num)) | (refine congrArg AV.bool ?_; (exact T.num)) | (refine vwc ?_; first | (exact T.num) | (first | (with_reducible rfl) | (simp only [List.map_nil, List.take_zero]; done) | (rw [q8 _ _ Hd.z (by omega), List.map_append]; rfl) | rfl)) | (refine qa ?_ ?_ <;> first | (exact T.num) | (first | (with_reducible rfl) | (simp only [List.map_nil, List.take_zero]; done) | (rw [q8 _ _ Hd.z (by omega), List.map_append]; rfl) | rfl)) | (first | (with_reducible rfl) | (simp only [List.map_nil, List.take_zero]; done) | (rw [q8 _ _ Hd.z (by omega), List.map_append]; rfl) | rfl))) | (exact T.num) | (dsimp only; (exact T.num)) | (first | (with_reducible rfl) | (simp only [List.map_nil, List.take_zero]; done) | (rw [q8 _ _ Hd.z (by omega), List.map_append]; rfl) | rfl)); done)); rintro ⟨i, q, a, b⟩ ⟨hk, hok⟩)) | (show SQ _ _ _ _ _ _ _; first | refine SQ.adopt 9 1 3 (by rfl) fun q => ?_ | (apply goD tQ qb 17 [1, 2, 4] [0, 1, 2, 3, 4, 5, 6, 7] [a, b, _] (by kernel_rfl))) | (show AtL _ _ _ _ _ _ _ _ _ _; first | (apply AtL.mk' (id := 11) (S := Nat × Nm × Nm × Nm) ((i + 1, _, _, _)); (repeat' first | exact trivial | (refine And.intro ?_ ?_) | exact LB.nil | (with_reducible exact LB.refl) | (apply LB.cons; (repeat first | refine goH ?_ | apply LH.here | apply LH.next); refine And.intro ?_ ?_; (focus (try (first | (with_reducible rfl) | (refine congrArg (Pl.mk _) ?_; (first | (with_reducible rfl) | (simp only [List.map_nil, List.take_zero]; done) | (rw [q8 _ _ Hd.z (by omega), List.map_append]; rfl) | rfl)) | rfl | (with_reducible refine congrArg (Pl.mk _) ?_))))) | assumption | (rw [qH _ _ Hd.z (by omega), hok, jK (by assumption) (by decide) (by omega)]; rfl) | (first | (focus (apply Eq.trans; (conv => lhs; whnf); (conv => rhs; whnf); done)) | rfl | ((conv => lhs; whnf); first | rfl | (refine congrArg (AV.int _) ?_; (exact T.num)) | (refine congrArg AV.bool ?_; (exact T.num)) | (refine vwc ?_; first | (exact T.num) | (first | (with_reducible rfl) | (simp only [List.map_nil, List.take_zero]; done) | (rw [q8 _ _ Hd.z (by omega), List.map_append]; rfl) | rfl)) | (refine qa ?_ ?_ <;> first | (exact T.num) | (first | (with_reducible rfl) | (simp only [List.map_nil, List.take_zero]; done) | (rw [q8 _ _ Hd.z (by omega), List.map_append]; rfl) | rfl)) | (first | (with_reducible rfl) | (simp only [List.map_nil, List.take_zero]; done) | (rw [q8 _ _ Hd.z (by omega), List.map_append]; rfl) | rfl))) | (exact T.num) | (dsimp only; (exact T.num)) | (first | (with_reducible rfl) | (simp only [List.map_nil, List.take_zero]; done) | (rw [q8 _ _ Hd.z (by omega), List.map_append]; rfl) | rfl)); done) | (apply AtL.mk' (id := 11) (S := Nat × Nm × Nm × Nm) ((i + 1, _, _, _)); (repeat' first | exact trivial | (refine And.intro ?_ ?_) | exact LB.nil | (with_reducible exact LB.refl) | (apply LB.cons; (repeat first | refine goH ?_ | apply LH.here | apply LH.next); refine And.intro ?_ ?_; (focus (try (first | (with_reducible rfl) | (refine congrArg (Pl.mk _) ?_; (first | (with_reducible rfl) | (simp only [List.map_nil, List.take_zero]; done) | (rw [q8 _ _ Hd.z (by omega), List.map_append]; rfl) | rfl)) | rfl | (with_reducible refine congrArg (Pl.mk _) ?_))))) | assumption | (rw [qH _ _ Hd.z (by omega), hok, jK (by assumption) (by decide) (by omega)]; rfl) | (first | (focus (apply Eq.trans; (conv => lhs; whnf); (conv => rhs; whnf); done)) | rfl | ((conv => lhs; whnf); first | rfl | (refine congrArg (AV.int _) ?_; (exact T.num)) | (refine congrArg AV.bool ?_; (exact T.num)) | (refine vwc ?_; first | (exact T.num) | (first | (with_reducible rfl) | (simp only [List.map_nil, List.take_zero]; done) | (rw [q8 _ _ Hd.z (by omega), List.map_append]; rfl) | rfl)) | (refine qa ?_ ?_ <;> first | (exact T.num) | (first | (with_reducible rfl) | (simp only [List.map_nil, List.take_zero]; done) | (rw [q8 _ _ Hd.z (by omega), List.map_append]; rfl) | rfl)) | (first | (with_reducible rfl) | (simp only [List.map_nil, List.take_zero]; done) | (rw [q8 _ _ Hd.z (by omega), List.map_append]; rfl) | rfl))) | (exact T.num) | (dsimp only; (exact T.num)) | (first | (with_reducible rfl) | (simp only [List.map_nil, List.take_zero]; done) | (rw [q8 _ _ Hd.z (by omega), List.map_append]; rfl) | rfl)))) | exact T.z | fail) <;> try (show (_ : Prop); conv => whnf))
 all_goals (try dsimp only)
 all_goals first
   | ((show RL _ _ _; refine goR ?_); rw [xT i (by omega) (refB_c (by assumption))])
   | ((show RL _ _ _; refine goR ?_); rw [y9 (xt (by omega) hok) (.inl ⟨rfl, k⟩) (by omega)])
   | trace_state
theorem r9poss_c (s : Sn) (hd : Hd) (f : Int) (hf : f = 1 ∨ f = 2 ∨ f = 3) (hl : s.rf.length ≤ 100000) : LP Tryz.prog G 53 [s.av, hd.av, iAV f] [] (fun _ => (.bool (zT s hd f), [])) := by
 rcases hf with rfl | rfl | rfl
 · exact r9poss_1 s hd hl
 · by_cases k : hd.k = 2
   · exact r9poss_2t s hd k hl
   · exact r9poss_2u s hd k hl
 · by_cases k : hd.k = 2
   · exact r9poss_3t s hd k hl
   · exact r9poss_3u s hd k hl
open Go.RowKit
variable {G : Nat → AV}
@[reducible] def Sn.cv (s : Sn) (R : AV) : List AV := [.bool s.act, iAV s.full, iAV s.refr, iAV s.ser, iAV s.sin, iAV s.lng, iAV s.dy.st, iAV s.dy.fo, R]
def xL (last : Hd) (had : Bool) (h : Hd) : Dy := if had = true then zR last h else Dy.z
theorem wY (s : Sn) (last hd : Hd) (had : Bool) (q : Nm) (n : Nat) (cs : List AV) (hn : n ≤ 100000) : LP Tryz.prog G 52 [.agg (s.cv (.vw q 0 n 15)), last.av, .bool had, hd.av] [(q, ⟨65, cs⟩)] (fun _ => (.agg (({ s with ser := n, dy := xL last had hd } : Sn).cv (.vw q 0 n 15)), [(q, ⟨65, cs⟩)])) := by
 cases had with
 | true =>
   refine goW [] Tryz.func52 rfl ?_
   conv => whnf
   repeat' ((first | (show LC _ _ _ _ _ _; first | refine LC.pure (jS _ _) ?_ | refine goE ?_) | refine T.s ?_ | ((first | apply goB | apply AB.dec | apply AB.gen) <;> intro h <;> try (exfalso; omega)) | refine LQ.mk fun r => ?_ | exact T.z | fail) <;> conv => whnf)
   all_goals (try dsimp only)
   all_goals
     (show RL _ _ _; refine goR ?_)
     rfl
 | false =>
   refine goW [] Tryz.func52 rfl ?_
   conv => whnf
   repeat' ((first | refine T.s ?_ | ((first | apply goB | apply AB.dec | apply AB.gen) <;> intro h <;> try (exfalso; omega)) | refine LQ.mk fun r => ?_ | exact T.z | fail) <;> conv => whnf)
   all_goals (try dsimp only)
   all_goals
     (show RL _ _ _; refine goR ?_)
     rfl
theorem r9beg_n (s : Sn) (last hd : Hd) (had : Bool) : LP Tryz.prog G 52 [.agg (s.cv .nils), last.av, .bool had, hd.av] [] (fun _ => (.agg (({ s with ser := 0, dy := xL last had hd } : Sn).cv .nils), [])) := by
 cases had with
 | true =>
   refine goW [] Tryz.func52 rfl ?_
   conv => whnf
   repeat' ((first | (show LC _ _ _ _ _ _; first | refine LC.pure (jS _ _) ?_ | refine goE ?_) | refine T.s ?_ | ((first | apply goB | apply AB.dec | apply AB.gen) <;> intro h <;> try (exfalso; omega)) | refine LQ.mk fun r => ?_ | exact T.z | fail) <;> conv => whnf)
   all_goals (try dsimp only)
   all_goals
     (show RL _ _ _; refine goR ?_)
     rfl
 | false =>
   refine goW [] Tryz.func52 rfl ?_
   conv => whnf
   repeat' ((first | refine T.s ?_ | ((first | apply goB | apply AB.dec | apply AB.gen) <;> intro h <;> try (exfalso; omega)) | refine LQ.mk fun r => ?_ | exact T.z | fail) <;> conv => whnf)
   all_goals (try dsimp only)
   all_goals
     (show RL _ _ _; refine goR ?_)
     rfl
theorem r9raw_c (b : List UInt8) : LP Tryz.prog G 46 [bv b] [] (fun _ => (bv (zu (yU b)).1, [])) := by
 refine goW [] Tryz.func46 rfl ?_
 conv => whnf
 repeat' ((first | (show LC _ _ _ _ _ _; first | refine LC.pure (qh (yU b)) ?_ | refine goE ?_) | refine T.s ?_ | ((first | apply goB | apply AB.dec | apply AB.gen) <;> intro h <;> try (exfalso; omega)) | refine LQ.mk fun r => ?_ | exact T.z | fail) <;> conv => whnf)
 all_goals (try dsimp only)
 all_goals
   (show RL _ _ _; refine goR ?_)
   rfl
theorem and_lw (x : Int) (n : Nat) (h : n ≤ 32) : qB .and .i64 x (2 ^ n - 1) = lw n x := by
 rw [yK x n h]
 unfold lw
 simp
theorem lowb4 (x : Int) : qB .and .i64 x 15 = lw 4 x := and_lw x 4 (by decide)
theorem lowb5 (x : Int) : qB .and .i64 x 31 = lw 5 x := and_lw x 5 (by decide)
theorem lowb8 (x : Int) : qB .and .i64 x 255 = lw 8 x := and_lw x 8 (by decide)
theorem lowb16 (x : Int) : qB .and .i64 x 65535 = lw 16 x := and_lw x 16 (by decide)
theorem jR (s : Sn) (hd : Hd) (c f : Int) (pl : List UInt8) (hf : 1 ≤ f ∧ f ≤ 5) (q : Nm) (off n : Nat) (cs : List AV) : LP Tryz.prog G 55 [.agg (s.cv (.vw q off n 15)), iAV c, iAV f, hd.av, bv pl] [(q, ⟨65, cs⟩)] (fun _ => ((xo s.dy c f hd pl).av, [(q, ⟨65, cs⟩)])) := by
 have h5 : f = 1 ∨ f = 2 ∨ f = 3 ∨ f = 4 ∨ f = 5 := by omega
 rcases h5 with rfl | rfl | rfl | rfl | rfl
 · refine goW [] Tryz.func55 rfl ?_
   conv => whnf
   repeat' ((first | exact Nm.b 0 | (show LC _ _ _ _ _ _; first | refine LC.pure (zy _ _) ?_ | refine LC.pure (qI _) ?_ | refine goE ?_) | refine T.s ?_ | ((first | apply goB | apply AB.dec | apply AB.gen) <;> intro h <;> try (exfalso; omega)) | refine LQ.mk fun r => ?_ | (show SQ _ _ _ _ _ _ _; first | refine gX 3 [2, 4] [0, 1, 2, 3, 4, 5, 6] [r] ?_ | refine gX 7 [3, 6] [0, 1, 2, 3, 4, 5, 6, 7, 8] [r] ?_ | refine gX 19 [3, 6] [0, 1, 2, 3, 4, 5, 6, 7, 8] [r] ?_ | refine gX 13 [3, 5, 7, 9, 11, 13] [0, 1, 2, 3, 4, 5, 6, 7, 8, 9, 10, 11, 12, 13, 14, 15] [r] ?_) | exact T.z | fail) <;> conv => whnf)
   all_goals (try dsimp only)
   all_goals
     (show RL _ _ _; refine goR ?_)
     rw [lowb4]
     rfl
 · refine goW [] Tryz.func55 rfl ?_
   conv => whnf
   repeat' ((first | exact Nm.b 0 | (show LC _ _ _ _ _ _; first | refine LC.pure (zy _ _) ?_ | refine LC.pure (qI _) ?_ | refine goE ?_) | refine T.s ?_ | ((first | apply goB | apply AB.dec | apply AB.gen) <;> intro h <;> try (exfalso; omega)) | refine LQ.mk fun r => ?_ | (show SQ _ _ _ _ _ _ _; first | refine gX 3 [2, 4] [0, 1, 2, 3, 4, 5, 6] [r] ?_ | refine gX 7 [3, 6] [0, 1, 2, 3, 4, 5, 6, 7, 8] [r] ?_ | refine gX 19 [3, 6] [0, 1, 2, 3, 4, 5, 6, 7, 8] [r] ?_ | refine gX 13 [3, 5, 7, 9, 11, 13] [0, 1, 2, 3, 4, 5, 6, 7, 8, 9, 10, 11, 12, 13, 14, 15] [r] ?_) | exact T.z | fail) <;> conv => whnf)
   all_goals (try dsimp only)
   all_goals
     (show RL _ _ _; refine goR ?_)
     unfold xo
     (try rw [lowb5])
     (try rw [lowb16])
     (repeat first | rw [if_pos (by first | assumption | omega)] | rw [if_neg (by first | assumption | omega)])
     rfl
 · refine goW [] Tryz.func55 rfl ?_
   conv => whnf
   repeat' ((first | exact Nm.b 0 | (show LC _ _ _ _ _ _; first | refine LC.pure (zy _ _) ?_ | refine LC.pure (qI _) ?_ | refine goE ?_) | refine T.s ?_ | ((first | apply goB | apply AB.dec | apply AB.gen) <;> intro h <;> try (exfalso; omega)) | refine LQ.mk fun r => ?_ | (show SQ _ _ _ _ _ _ _; first | refine gX 3 [2, 4] [0, 1, 2, 3, 4, 5, 6] [r] ?_ | refine gX 7 [3, 6] [0, 1, 2, 3, 4, 5, 6, 7, 8] [r] ?_ | refine gX 19 [3, 6] [0, 1, 2, 3, 4, 5, 6, 7, 8] [r] ?_ | refine gX 13 [3, 5, 7, 9, 11, 13] [0, 1, 2, 3, 4, 5, 6, 7, 8, 9, 10, 11, 12, 13, 14, 15] [r] ?_) | exact T.z | fail) <;> conv => whnf)
   all_goals (try dsimp only)
   all_goals
     (show RL _ _ _; refine goR ?_)
     unfold xo
     (try rw [lowb8])
     (repeat first | rw [if_pos (by first | assumption | omega)] | rw [if_neg (by first | assumption | omega)])
     rfl
 · refine goW [] Tryz.func55 rfl ?_
   conv => whnf
   repeat' ((first | exact Nm.b 0 | (show LC _ _ _ _ _ _; first | refine LC.pure (zy _ _) ?_ | refine goE ?_) | refine T.s ?_ | ((first | apply goB | apply AB.dec | apply AB.gen) <;> intro h <;> try (exfalso; omega)) | refine LQ.mk fun r => ?_ | (show SQ _ _ _ _ _ _ _; first | refine gX 3 [2, 4] [0, 1, 2, 3, 4, 5, 6] [r] ?_ | refine gX 7 [3, 6] [0, 1, 2, 3, 4, 5, 6, 7, 8] [r] ?_ | refine gX 19 [3, 6] [0, 1, 2, 3, 4, 5, 6, 7, 8] [r] ?_ | refine gX 13 [3, 5, 7, 9, 11, 13] [0, 1, 2, 3, 4, 5, 6, 7, 8, 9, 10, 11, 12, 13, 14, 15] [r] ?_) | exact T.z | fail) <;> conv => whnf)
   all_goals (try dsimp only)
   all_goals
     (show RL _ _ _; refine goR ?_)
     rfl
 · refine goW [] Tryz.func55 rfl ?_
   conv => whnf
   repeat' ((first | exact Nm.b 0 | (show LC _ _ _ _ _ _; first | refine LC.pure (zy _ _) ?_ | refine goE ?_) | refine T.s ?_ | ((first | apply goB | apply AB.dec | apply AB.gen) <;> intro h <;> try (exfalso; omega)) | refine LQ.mk fun r => ?_ | (show SQ _ _ _ _ _ _ _; first | refine gX 3 [2, 4] [0, 1, 2, 3, 4, 5, 6] [r] ?_ | refine gX 7 [3, 6] [0, 1, 2, 3, 4, 5, 6, 7, 8] [r] ?_ | refine gX 19 [3, 6] [0, 1, 2, 3, 4, 5, 6, 7, 8] [r] ?_ | refine gX 13 [3, 5, 7, 9, 11, 13] [0, 1, 2, 3, 4, 5, 6, 7, 8, 9, 10, 11, 12, 13, 14, 15] [r] ?_) | exact T.z | fail) <;> conv => whnf)
   all_goals (try dsimp only)
   all_goals
     (show RL _ _ _; refine goR ?_)
     rfl
open Go.RowKit
variable {G : Nat → AV}
def wE (h : Hd) (s : Sn) : Bool := s.act && qA s.fst h
theorem jX {p : Sn → Bool} (l : List Sn) (i : Nat) (h : i < l.length) : (l.take (i + 1)).findIdx? p = ((l.take i).findIdx? p).or (if p (l.getD i Sn.z) = true then some i else none) := by
 rw [List.take_succ_eq_append_getElem h, List.findIdx?_append]
 have e : l[i] = l.getD i Sn.z := by simp [List.getD_eq_getElem?_getD, h]
 rw [e, List.findIdx?_singleton]
 congr 1
 split
 · simp; omega
 · rfl
theorem fidx_hit {p : Sn → Bool} (l : List Sn) (i : Nat) (h : i < l.length) (h0 : (l.take i).findIdx? p = none) (hp : p (l.getD i Sn.z) = true) : l.findIdx? p = some i := by
 have e : l = l.take (i + 1) ++ l.drop (i + 1) := (List.take_append_drop _ _).symm
 rw [e, List.findIdx?_append, jX l i h, h0, if_pos hp]
 rfl
theorem fidx_end {p : Sn → Bool} {l : List Sn} {i : Nat} (h : l.length ≤ i) : (l.take i).findIdx? p = l.findIdx? p := by rw [List.take_of_length_le h]
def optI : Option Nat → Int
 | some i => i
 | none => -1
def jG (l : List Sn) : Int := optI (freeI l)
theorem freeV_t {l : List Sn} {i : Nat} (h : i < l.length) (hf : jG (l.take i) < 0) (ha : (l.getD i Sn.z).act = false) : jG (l.take (i + 1)) = i := by
 unfold jG freeI at *
 rw [jX l i h, if_pos (by rw [ha]; rfl)]
 cases hc : (l.take i).findIdx? fun s => !s.act with
 | none => rfl
 | some j => rw [hc] at hf; simp [optI] at hf; omega
theorem freeV_k {l : List Sn} {i : Nat} (h : i < l.length) (hf : ¬ jG (l.take i) < 0) : jG (l.take (i + 1)) = jG (l.take i) := by
 unfold jG freeI at *
 rw [jX l i h]
 cases hc : (l.take i).findIdx? fun s => !s.act with
 | none => rw [hc] at hf; exact absurd (by decide) hf
 | some j => rfl
theorem freeV_a {l : List Sn} {i : Nat} (h : i < l.length) (ha : (l.getD i Sn.z).act = true) : jG (l.take (i + 1)) = jG (l.take i) := by
 unfold jG freeI at *
 rw [jX l i h, if_neg (by rw [ha]; decide)]
 cases (l.take i).findIdx? fun s => !s.act <;> rfl
theorem freeV_0 (l : List Sn) : jG (l.take 0) = -1 := rfl
theorem freeV_e {l : List Sn} {i : Nat} (h : l.length ≤ i) : jG (l.take i) = jG l := by rw [List.take_of_length_le h]
def yx (o : Option Nat) : AV := .tup [iAV (optI o), .bool o.isSome]
theorem own_n {l : List Sn} {i : Nat} {hd : Hd} (h : i < l.length) (h0 : (l.take i).findIdx? (wE hd) = none) (hp : wE hd (l.getD i Sn.z) = false) : (l.take (i + 1)).findIdx? (wE hd) = none := by
 rw [jX l i h, h0, if_neg (by rw [hp]; decide)]; rfl
theorem findR_hit {l : List Sn} {i : Nat} {hd : Hd} (h : i < l.length) (h0 : (l.take i).findIdx? (wE hd) = none) (hp : wE hd (l.getD i Sn.z) = true) : zD l hd = some i := by
 have := fidx_hit l i h h0 hp
 unfold zD ownI
 unfold wE at this
 rw [this]
theorem findR_end {l : List Sn} {i : Nat} {hd : Hd} (h : l.length ≤ i) (h0 : (l.take i).findIdx? (wE hd) = none) : zD l hd = freeI l := by
 rw [fidx_end h] at h0
 unfold zD ownI
 unfold wE at h0
 rw [h0]
theorem fld_le {α : Type} {f : α → List AV} {n i j : Nat} {l : List α} (hf : ∀ x, (f x).length = n) (h : (i : Int) < (l.length : Int)) (hj : j < n) : 1 ≤ (List.drop j (List.drop ((i : Int).toNat * n) (l.flatMap f))).length := by
 rw [List.length_drop, List.length_drop, qy hf, ← Nat.sub_mul]
 have := Nat.le_mul_of_pos_left n (show 0 < l.length - (i : Int).toNat by omega)
 omega
theorem AC.fld2 {α : Type} {f : α → List AV} {n : Nat} {l : List α} {o m : Nat} {K : AV → Prop} (hf : ∀ x, (f x).length = n) (i j : Nat) (d : α) (v : AV) (ho : o = i * n) (hj : j + m ≤ n) (h : i < l.length) (hv : mkv false (((f (l.getD i d)).drop j).take m) = v) (k : K v) : AC false ((List.drop j (List.drop o (l.flatMap f))).take m) K := by
 rw [List.drop_drop, ho]
 exact AC.fld hf i j d v rfl hj h hv k
theorem ownP_n {hd : Hd} {s : Sn} (h : s.act = false) : wE hd s = false := by unfold wE; rw [h]; rfl
theorem ownP_s {hd : Hd} {s : Sn} (h : qA s.fst hd = false) : wE hd s = false := by unfold wE; rw [h]; simp
theorem ownP_y {hd : Hd} {s : Sn} (h : s.act = true) (h2 : qA s.fst hd = true) : wE hd s = true := by unfold wE; rw [h, h2]; rfl
theorem rec0_le {l : List Hd} (h : 0 < l.length) : 15 ≤ (List.drop (Int.toNat 0 * 15) (l.flatMap Hd.cs)).length := xn (i := 0) Hd.cs_len (by omega)
attribute [local irreducible] qA
theorem fndV_e (o : Option Nat) : AV.tup [.int .i64 (optI o), .bool (qu .geq (optI o) 0)] = yx o := by
 cases o with
 | none => rfl
 | some j => simp [yx, optI, qu, iAV]
theorem r9find_c (c : Co) (hd : Hd) (hn : c.cx.length ≤ 1000) (ha : ∀ i, i < c.cx.length → (c.at i).act = true → 0 < (c.at i).rf.length) : LP Tryz.prog G 47 [c.av, hd.av] [] (fun _ => (yx (zD c.cx hd), [])) := by
 have hb : ∀ i : Nat, (i : Int) < (c.cx.length : Int) → (c.cx.getD i Sn.z).act = true → 0 < (c.cx.getD i Sn.z).rf.length := fun i h1 h2 => ha i (by omega) h2
 have hs : ∀ i : Nat, LP Tryz.prog G 31 [((c.cx.getD i Sn.z).rf.getD 0 Hd.z).av, hd.av] [] (fun _ => (.bool (qA (c.cx.getD i Sn.z).fst hd), [])) := fun i => kG _ _
 refine goW [] Tryz.func47 rfl ?_
 conv => whnf
 repeat' ((first | exact Nm.b 0 | (refine And.intro ?_ ?_; (focus (first | exact xn Sn.cs_len (by assumption) | exact fld_le Sn.cs_len (by assumption) (by decide) | exact rec0_le (hb i (by assumption) (by assumption)) | (have := hb i (by assumption) (by assumption); omega) | exact T.kx | exact T.side))) | (show LC _ _ _ _ _ _; first | refine LC.pure (hs i) ?_ | refine goE ?_) | (show AC _ _ _; first | (refine AC.fld Sn.cs_len i 0 Sn.z _ (by first | rfl | (simp; done)) (by decide) (by omega) rfl ?_) | (refine AC.fld2 Sn.cs_len i 8 Sn.z _ rfl (by decide) (by omega) rfl ?_) | (refine AC.recd Hd.cs_len 0 Hd.z rfl rfl (hb i (by assumption) (by assumption)) ?_)) | refine T.s ?_ | ((first | apply goB | apply AB.dec | apply AB.gen) <;> intro h <;> try (exfalso; omega)) | refine LQ.mk fun r => ?_ | (show SQ _ _ _ (.loop _) _ _ _; first | (apply goO tQ [] 3 (S := Nat × Nm × Nm) [] (fun (i, a, b) => ⟨[(7, .int .i64 i), (6, .int .i64 (jG (c.cx.take i))), (2, .ptr a 0), (3, .ptr b 0)], [(a, ⟨41, [iAV c.m, iAV c.w, snv c.cx]⟩), (b, ⟨65, hd.cs⟩)], i ≤ c.cx.length ∧ (c.cx.take i).findIdx? (wE hd) = none, c.cx.length - i⟩) ((0, _, _)) (by rfl); (focus (all_goals (try exact KB11); done)); rintro ⟨i, a, b⟩ ⟨hk, hok⟩)) | (show SQ _ _ _ _ _ _ _; first | refine gX 6 [] [0, 1, 2, 3, 4, 5, 6, 7, 8, 9] [] ?_) | (show AtL _ _ _ _ _ _ _ _ _ _; first | (apply AtL.mk' (id := 3) (S := Nat × Nm × Nm) ((i + 1, _, _)); all_goals (try exact KB11); done) | (apply AtL.mk' (id := 3) (S := Nat × Nm × Nm) ((i + 1, _, _)); all_goals (try exact KB11))) | exact T.z | fail) <;> conv => whnf)
 all_goals (try dsimp only)
 all_goals first
   | ((show RL _ _ _; refine goR ?_); rw [findR_hit (by omega) hok (ownP_y (by assumption) (by assumption))]; rfl)
   | ((show RL _ _ _; refine goR ?_); rw [findR_end (by omega) hok, freeV_e (by omega)]; exact fndV_e _)
   | trace_state
end Go.Proofs.YtkfpgdckdmlhkaaGreatDoor
