/-
  Contracts of the functions that the laws reach.
-/
import Derived.Test.YtbagbjacmakfhaaGreatDoorCq01
import Derived.Test.YtbagbjacmakfhaaGreatDoorCq02
import Derived.Test.YtbagbjacmakfhaaGreatDoorCq03
import Derived.Test.YtbagbjacmakfhaaGreatDoorCq04
import Derived.Test.YtbagbjacmakfhaaGreatDoorCq05
import Derived.Test.YtbagbjacmakfhaaGreatDoorCq06
import Derived.Test.YtbagbjacmakfhaaGreatDoorCq08
import Derived.Test.YtbagbjacmakfhaaGreatDoorCq09
import Derived.Test.YtbagbjacmakfhaaGreatDoorCq10
import Derived.Test.YtbagbjacmakfhaaGreatDoorCq12
set_option maxHeartbeats 4000000
set_option linter.all false
namespace Go.Proofs.YtbagbjacmakfhaaGreatDoor
open Go.RowKit
variable {G : Nat → AV}
theorem b8_mod {x : Int} (h : 0 ≤ x) : b8 (x.tmod 256) = b8 x := by
 rw [Int.tmod_eq_emod_of_nonneg h]
 unfold b8
 congr 2
 omega
theorem b8_wrap (x : Int) : b8 (IntKind.i64.wrap x) = b8 x := by
 unfold b8
 rw [IntKind.wrap_i64]
 congr 2
 omega
theorem rset_e (l : List UInt8) (a : Nat) {x : Int} (h : 0 ≤ x) : (l.set a (b8 (IntKind.i64.wrap (x.tdiv 256)))).set (a + 1) (b8 (x.tmod 256)) = st2 l a x := by
 unfold st2
 rw [b8_mod h, b8_wrap, Int.tdiv_eq_ediv_of_nonneg h, Int.fdiv_eq_ediv_of_nonneg _ (by decide), List.set_comm _ _ (by omega)]
theorem ix0 (a : Nat) : 0 + (a : Int).toNat * 1 = a := by omega
theorem ix01 {a : Nat} (h : a ≤ 100000) : 0 + (q7 .add .i64 (a : Int) 1).toNat * 1 = a + 1 := ix h rfl (by decide)
theorem rset_c (l : List UInt8) (a n : Nat) (x : Int) (h : a + 2 ≤ n) (hn : n ≤ l.length) (ha : a ≤ 100000) (hx : 0 ≤ x) (p : Nm) : LP Tryz.prog G 117 [.vw p 0 n 1, iAV a, iAV x] [(p, ⟨5, l.map bAV⟩)] (fun _ => (.tup [], [(p, ⟨5, (st2 l a x).map bAV⟩)])) := by
 have e1 : q7 .add .i64 (a : Int) 1 = ((a + 1 : Nat) : Int) := by (exact T.num)
 refine goW [] Tryz.func117 rfl ?_
 conv => whnf
 repeat' ((first | refine T.s ?_ | ((first | apply goB | apply AB.dec | apply AB.gen) <;> intro h <;> try (exfalso; omega)) | refine LQ.mk fun r => ?_ | exact T.z | refine ⟨_, rfl, rfl, ?_⟩ | fail) <;> conv => whnf)
 all_goals (try dsimp only)
 all_goals
   refine RL.val rfl (LB.cons ?_)
   (repeat first | refine goH ?_ | apply LH.here | apply LH.next)
   refine And.intro (congrArg (Pl.mk _) ?_) LB.nil
   rw [ix0, ix01 ha]
   exact congrArg (List.map bAV) (rset_e l a hx)
theorem head_lit (t : Int) : [AV.int .u8 69, AV.int .u8 (IntKind.u8.wrap t), AV.int .u8 0, AV.int .u8 0] = ([69, b8 t, 0, 0] : List UInt8).map bAV := by
 simp only [List.map_cons, List.map_nil, qR]; rfl
theorem head_mid (f t : Int) : [AV.int .u8 (IntKind.u8.wrap f), AV.int .u8 0, AV.int .u8 (IntKind.u8.wrap t), AV.int .u8 17, AV.int .u8 0, AV.int .u8 0] = ([b8 f, 0, b8 t, 17, 0, 0] : List UInt8).map bAV := by
 simp only [List.map_cons, List.map_nil, qR]; rfl
theorem head_00 : [AV.int .u8 0, AV.int .u8 0] = ([0, 0] : List UInt8).map bAV := rfl
theorem head_80 (t : Int) : [AV.int .u8 128, AV.int .u8 (IntKind.u8.wrap t)] = ([128, b8 t] : List UInt8).map bAV := by
 simp only [List.map_cons, List.map_nil, qR]; rfl
theorem RL.ownB {M : List UInt8} {q : Nm} {n : Nat} {l : LS} (h : LH l q fun c _ _ => ∃ L : List UInt8, c = ⟨5, L.map bAV⟩ ∧ L = M ∧ n = M.length) : RL (fun q => (.vw q 0 M.length 1, [(q, ⟨5, M.map bAV⟩)])) (.vw q 0 n 1) l := by
 obtain ⟨l1, c, l2, rfl, L, rfl, rfl, rfl⟩ := h.ex
 exact RL.own q rfl ⟨l1, _, l2, rfl, trivial⟩ (LB.cons ⟨l1, _, l2, rfl, rfl, LB.nil⟩)
theorem r5head_c (hd : Hd) (ko : hd.ok = true) : LP Tryz.prog G 116 [hd.av] [] (fun q => (.vw q 0 (qy hd).length 1, [(q, ⟨5, (qy hd).map bAV⟩)])) := by
 have hv := zg (G := G) hd
 rw [ko] at hv
 have hk := (hd.of ko).1
 have hfx := fx64 (hd.of ko).2.2.2.2.2.2.2.1
 have hmt := mt128 (hd.of ko).2.2.2.2.2.2.2.2.2.2.1 (hd.of ko).2.2.2.2.2.2.2.2.2.2.2.1
 refine goW [] Tryz.func116 rfl ?_
 conv => whnf
 repeat' ((first | (show LC _ _ _ _ _ _; refine LC.putk 2 (fun bs p hb => put2_c bs _ hb p) ?_; (repeat first | refine goH ?_ | apply LH.here | apply LH.next); refine ⟨_, congrArg (Pl.mk _) (head_lit _), (by first | exact rfl | (simp; done)), (by first | exact Nat.le_of_ble_eq_true rfl | (simp; omega) | (simp; done)), ?_⟩; conv => whnf) | (show LC _ _ _ _ _ _; refine LC.putk 2 (fun bs p hb => put2_c bs _ hb p) ?_; (repeat first | refine goH ?_ | apply LH.here | apply LH.next); refine ⟨_, rfl, (by first | exact rfl | (simp; done)), (by first | exact Nat.le_of_ble_eq_true rfl | (simp; omega) | (simp; done)), ?_⟩; conv => whnf) | (show LC _ _ _ _ _ _; refine LC.putk 4 (fun bs p hb => put4_c bs _ hb p) ?_; (repeat first | refine goH ?_ | apply LH.here | apply LH.next); refine ⟨_, rfl, (by first | exact rfl | (simp; done)), (by first | exact Nat.le_of_ble_eq_true rfl | (simp; omega) | (simp; done)), ?_⟩; conv => whnf) | exact Nm.b 0 | (show LC _ _ _ _ _ _; first | refine LC.pure (hv) ?_ | refine goE ?_) | (show AQ _ _; first | (with_reducible refine AQ.appM ?_ (head_mid _ _) ?_; (focus (first | exact Nat.le_of_ble_eq_true rfl | (simp; done) | (simp; omega)))) | (with_reducible refine AQ.appM ?_ head_00 ?_; (focus (first | exact Nat.le_of_ble_eq_true rfl | (simp; done) | (simp; omega)))) | (with_reducible refine AQ.appM ?_ (head_80 _) ?_; (focus (first | exact Nat.le_of_ble_eq_true rfl | (simp; done) | (simp; omega))))) | refine T.s ?_ | ((first | apply goB | apply AB.dec | apply AB.gen) <;> intro h <;> try (exfalso; omega)) | refine LQ.mk fun r => ?_ | (show SQ _ _ _ _ _ _ _; first | (apply goD tQ qd 6 [5, 3] [0, 1, 2, 4, 5, 3, 6, 7] [_] (by kernel_rfl)) | (refine goD tQ qd 6 [5, 3] [0, 1, 2, 4, 5, 3, 6, 7] [] (by kernel_rfl) ?_) | (apply goD tQ qd 7 [5, 3] [0, 1, 2, 4, 5, 3, 6, 7] [_] (by kernel_rfl)) | (refine goD tQ qd 7 [5, 3] [0, 1, 2, 4, 5, 3, 6, 7] [] (by kernel_rfl) ?_) | (apply goD tQ qd 8 [4, 2] [0, 3, 4, 1, 2, 5, 6] [_] (by kernel_rfl)) | (refine goD tQ qd 8 [4, 2] [0, 3, 4, 1, 2, 5, 6] [] (by kernel_rfl) ?_) | (apply goD tQ qd 11 [5, 8, 3, 6] [0, 1, 2, 4, 5, 7, 8, 3, 6, 9, 10] [_] (by kernel_rfl)) | (refine goD tQ qd 11 [5, 8, 3, 6] [0, 1, 2, 4, 5, 7, 8, 3, 6, 9, 10] [] (by kernel_rfl) ?_)) | exact T.z | refine ⟨_, rfl, rfl, ?_⟩ | fail) <;> try (show (_ : Prop); conv => whnf))
 all_goals (try dsimp only)
 all_goals (refine RL.ownB ?_; (repeat first | refine goH ?_ | apply LH.here | apply LH.next); refine ⟨_, rfl, ?_, ?_⟩)
 · unfold qy
   rw [if_pos h, hfx, hmt]
   simp only [List.append_assoc]
 · rw [z8, if_pos h]
   simp
 · unfold qy
   rw [if_neg h, hfx]
   simp only [List.append_assoc, List.append_nil]
 · rw [z8, if_neg h]
   simp
theorem r5head_n (hd : Hd) (ko : hd.ok = false) : LP Tryz.prog G 116 [hd.av] [] (fun _ => (.nils, [])) := by
 have hv := zg (G := G) hd
 rw [ko] at hv
 refine goW [] Tryz.func116 rfl ?_
 conv => whnf
 repeat' ((first | exact Nm.b 0 | (show LC _ _ _ _ _ _; first | refine LC.pure (hv) ?_ | refine goE ?_) | refine T.s ?_ | ((first | apply goB | apply AB.dec | apply AB.gen) <;> intro h <;> try (exfalso; omega)) | refine LQ.mk fun r => ?_ | (show SQ _ _ _ _ _ _ _; first | (refine goD tQ qd 6 [5, 3] [0, 1, 2, 4, 5, 3, 6, 7] [] (by kernel_rfl) ?_) | (refine goD tQ qd 7 [5, 3] [0, 1, 2, 4, 5, 3, 6, 7] [] (by kernel_rfl) ?_) | (refine goD tQ qd 8 [4, 2] [0, 3, 4, 1, 2, 5, 6] [] (by kernel_rfl) ?_) | (refine goD tQ qd 11 [5, 8, 3, 6] [0, 1, 2, 4, 5, 7, 8, 3, 6, 9, 10] [] (by kernel_rfl) ?_)) | exact T.z | refine ⟨_, rfl, rfl, ?_⟩ | fail) <;> conv => whnf)
 all_goals (try dsimp only)
 all_goals
   (show RL _ _ _; refine goR ?_)
   rfl
theorem csR_rng (l : List UInt8) : 0 ≤ csR l := by
 have := xo (z5 l)
 unfold csR
 omega
theorem csumT4 (L : List UInt8) : LP Tryz.prog G 118 [bv (L.take 20)] [] (fun _ => (iAV (csR (L.take 20)), [])) := r4sum_c _ (by simp; omega)
theorem rsetW (l : LS) {K : AV → LS → Prop} {p : Nm} {n a : Nat} {x : Int} (m : Nat) (h : a + 2 ≤ m) (hm : m ≤ n) (ha : a ≤ 100000) (hx : 0 ≤ x) (hk : LH l p fun c s _ => ∃ L : List UInt8, c = ⟨5, L.map bAV⟩ ∧ n ≤ L.length ∧ K (.tup []) (s ⟨5, (st2 L a x).map bAV⟩)) : LC Tryz.prog G 117 [.vw p 0 n 1, iAV a, iAV x] l K :=
 updW (fun L h1 => rset_c L a n x (Nat.le_trans h hm) h1 ha hx p) hk
theorem rbuild_g (hd : Hd) (p : List UInt8) (ko : hd.ok = true) (hp : p.length ≤ 100000) : LP Tryz.prog G 64 [hd.av, bv p] [] (fun _ => (.tup [bv (zp hd p).1, iAV (zp hd p).2], [])) := by
 have hv := zg (G := G) hd
 rw [ko] at hv
 have hn : 28 ≤ (qy hd).length ∧ (qy hd).length ≤ 40 := by rw [z8]; split <;> omega
 generalize hN : (qy hd).length = M at hn
 have hh := r5head_c (G := G) hd ko
 rw [hN] at hh
 by_cases hs : M + p.length ≤ 1500
 · rw [bldR_g ko (by omega)]
   have e20 : q7 .sub .i64 ((M + p.length : Nat) : Int) 20 = ((M + p.length : Nat) : Int) - 20 := by (exact T.num)
   refine goW [] Tryz.func64 rfl ?_
   conv => whnf
   repeat' ((first | (show LC _ _ _ _ _ _; refine LC.eq (congrArg (fun z => [AV.vw r 0 (M + p.length) 1, AV.int .i64 24, AV.int .i64 z]) e20) ?_; refine rsetW _ 28 (by decide) (by omega) (by decide) (by omega) ?_; (repeat first | refine goH ?_ | apply LH.here | apply LH.next); refine ⟨_, rfl, (by simp [hN]; try omega), ?_⟩; conv => whnf) | (show LC _ _ _ _ _ _; refine rsetW _ 28 (by decide) (by omega) (by decide) (by first | exact csR_rng _ | omega) ?_; (repeat first | refine goH ?_ | apply LH.here | apply LH.next); refine ⟨_, rfl, (by simp [hN]; try omega), ?_⟩; conv => whnf) | (show LC _ _ _ _ _ _; refine LC.eq (args' := [AV.vw r 0 20 1]) (by rfl) ?_; refine LC.headB csumT4 ?_; (repeat first | refine goH ?_ | apply LH.here | apply LH.next); refine ⟨_, rfl, (by simp [hN]; try omega), ?_⟩; conv => whnf) | (refine And.intro ?_ ?_; (focus (first | (simp [hN]; done) | (simp [hN]; omega) | exact T.kx | exact T.side))) | (show LC _ _ _ _ _ _; first | refine LC.pure (hv) ?_ | refine LC.own (hh) ?_ | refine goE ?_) | (show AQ _ _; first | (refine AQ.eq (cs' := (qy hd ++ p).map bAV) (app_hd0 (hN.trans (Nat.mul_one _).symm)) ?_)) | refine T.s ?_ | ((first | apply goB | apply AB.dec | apply AB.gen) <;> intro h <;> try (exfalso; omega)) | refine LQ.mk fun r => ?_ | (show (_ → _) ∧ (¬ _ → _); first | refine T.y ?_ | refine qm (fun h => ?_) (fun h => ?_)) | exact T.z | fail) <;> conv => whnf)
   all_goals (try dsimp only)
   all_goals
     rw [bldL_e, hN]
     refine RL.bytes2 ?_
     (repeat first | refine goH ?_ | apply LH.here | apply LH.next)
     exact ⟨rfl, by simp [hN]⟩
 · rw [bldR_s ko (by omega)]
   refine goW [] Tryz.func64 rfl ?_
   conv => whnf
   repeat' ((first | (refine And.intro ?_ ?_; (focus (first | (simp [hN]; done) | (simp [hN]; omega) | exact T.kx | exact T.side))) | (show LC _ _ _ _ _ _; first | refine LC.pure (hv) ?_ | refine LC.own (hh) ?_ | refine goE ?_) | (show AQ _ _; first | (refine AQ.eq (cs' := (qy hd ++ p).map bAV) (app_hd0 (hN.trans (Nat.mul_one _).symm)) ?_)) | refine T.s ?_ | ((first | apply goB | apply AB.dec | apply AB.gen) <;> intro h <;> try (exfalso; omega)) | refine LQ.mk fun r => ?_ | (show (_ → _) ∧ (¬ _ → _); first | refine T.y ?_ | refine qm (fun h => ?_) (fun h => ?_)) | exact T.z | fail) <;> conv => whnf)
   all_goals (try dsimp only)
   all_goals exact RL.nil2
theorem rbuild_c (h : Hd) (p : List UInt8) (hp : p.length ≤ 100000) : LP Tryz.prog G 64 [h.av, bv p] [] (fun _ => (.tup [bv (zp h p).1, iAV (zp h p).2], [])) := by
 cases ko : h.ok with
 | true => exact rbuild_g h p ko hp
 | false =>
   have hv := zg (G := G) h
   rw [ko] at hv
   rw [bldR_n ko]
   refine goW [] Tryz.func64 rfl ?_
   conv => whnf
   repeat' ((first | (show LC _ _ _ _ _ _; first | refine LC.pure (hv) ?_ | refine goE ?_) | refine T.s ?_ | ((first | apply goB | apply AB.dec | apply AB.gen) <;> intro h <;> try (exfalso; omega)) | refine LQ.mk fun r => ?_ | (show (_ → _) ∧ (¬ _ → _); first | refine T.y ?_ | refine qm (fun h => ?_) (fun h => ?_)) | exact T.z | fail) <;> conv => whnf)
   all_goals (try dsimp only)
   all_goals exact RL.nil2
open Go.RowKit
variable {G : Nat → AV}
theorem svalid_c (n : Int) (h1 : 1 ≤ n) (h2 : n ≤ 32) : LP Tryz.prog G 95 [iAV n] [] (fun _ => (.bool true, [])) := by
 refine goW [] Tryz.func95 rfl ?_
 conv => whnf
 repeat' ((first | refine T.s ?_ | ((first | apply goB | apply AB.dec | apply AB.gen) <;> intro h <;> try (exfalso; omega)) | refine LQ.mk fun r => ?_ | exact T.z | fail) <;> conv => whnf)
 all_goals (try dsimp only)
 all_goals
   (show RL _ _ _; refine goR ?_)
   simp [qo] <;> omega
theorem xU (n x : Int) (h1 : 1 ≤ n) (h2 : n ≤ 32) : LP Tryz.prog G 98 [iAV n, iAV x] [] (fun _ => (iAV (lw n x), [])) := by
 refine goW [] Tryz.func98 rfl ?_
 conv => whnf
 repeat' ((first | (show LC _ _ _ _ _ _; first | refine LC.pure (svalid_c _ h1 h2) ?_ | refine goE ?_) | refine T.s ?_ | ((first | apply goB | apply AB.dec | apply AB.gen) <;> intro h <;> try (exfalso; omega)) | refine LQ.mk fun r => ?_ | exact T.z | fail) <;> conv => whnf)
 all_goals (try dsimp only)
 (show RL _ _ _; refine goR ?_)
 exact congrArg iAV (low_e x h2)
theorem sdist_c (n a b : Int) (h1 : 1 ≤ n) (h2 : n ≤ 32) : LP Tryz.prog G 96 [iAV n, iAV a, iAV b] [] (fun _ => (iAV (lw n (b - a)), [])) := by
 refine goW [] Tryz.func96 rfl ?_
 conv => whnf
 repeat' ((first | (show LC _ _ _ _ _ _; first | refine LC.pure (xU _ _ h1 h2) ?_ | refine goE ?_) | refine T.s ?_ | ((first | apply goB | apply AB.dec | apply AB.gen) <;> intro h <;> try (exfalso; omega)) | refine LQ.mk fun r => ?_ | exact T.z | fail) <;> conv => whnf)
 all_goals (try dsimp only)
 (show RL _ _ _; refine goR ?_)
 exact congrArg iAV (jh _ h2)
theorem shalf_c (n : Int) (h1 : 1 ≤ n) (h2 : n ≤ 32) : LP Tryz.prog G 97 [iAV n] [] (fun _ => (iAV (2 ^ (n - 1).toNat), [])) := by
 refine goW [] Tryz.func97 rfl ?_
 conv => whnf
 repeat' ((first | refine T.s ?_ | ((first | apply goB | apply AB.dec | apply AB.gen) <;> intro h <;> try (exfalso; omega)) | refine LQ.mk fun r => ?_ | exact T.z | fail) <;> conv => whnf)
 all_goals (try dsimp only)
 have e : q7 .sub .i64 n 1 = n - 1 := by (exact T.num)
 (show RL _ _ _; refine goR ?_)
 rw [e]
 exact congrArg iAV (yU (by omega))
theorem sg_e {n : Int} (h1 : 1 ≤ n) (h2 : n ≤ 32) (a b : Int) (h : 2 ^ (n - 1).toNat ≤ lw n (b - a)) : q7 .sub .i64 (lw n (b - a)) (IntKind.i64.wrap (1 * 2 ^ min n.toNat 64)) = sg n a b := by
 have h3 := yu n (b - a)
 have h4 := pw_le (m := 32) h2
 rw [yU h2]
 unfold sg
 rw [if_pos h]
 show IntKind.i64.wrap _ = _
 rw [IntKind.wrap_i64]
 omega
theorem xl (n a b : Int) (h1 : 1 ≤ n) (h2 : n ≤ 32) : LP Tryz.prog G 49 [iAV n, iAV a, iAV b] [] (fun _ => (iAV (sg n a b), [])) := by
 refine goW [] Tryz.func49 rfl ?_
 conv => whnf
 repeat' ((first | (show LC _ _ _ _ _ _; first | refine LC.pure (svalid_c _ h1 h2) ?_ | refine LC.pure (sdist_c _ _ _ h1 h2) ?_ | refine LC.pure (shalf_c _ h1 h2) ?_ | refine goE ?_) | refine T.s ?_ | ((first | apply goB | apply AB.dec | apply AB.gen) <;> intro h <;> try (exfalso; omega)) | refine LQ.mk fun r => ?_ | exact T.z | fail) <;> conv => whnf)
 all_goals (try dsimp only)
 · (show RL _ _ _; refine goR ?_)
   exact congrArg iAV (sg_e h1 h2 a b (by omega))
 · (show RL _ _ _; refine goR ?_)
   unfold sg
   rw [if_neg (by omega)]
   try rfl
theorem yj (n : Int) (h1 : 1 ≤ n) (h2 : n ≤ 32) : LP Tryz.prog G 106 [iAV n] [] (fun _ => (.bool true, [])) := by
 refine goW [] Tryz.func106 rfl ?_
 conv => whnf
 repeat' ((first | refine T.s ?_ | ((first | apply goB | apply AB.dec | apply AB.gen) <;> intro h <;> try (exfalso; omega)) | refine LQ.mk fun r => ?_ | exact T.z | fail) <;> conv => whnf)
 all_goals (try dsimp only)
 all_goals
   (show RL _ _ _; refine goR ?_)
   simp [qo] <;> omega
theorem u64n {n : Int} (h1 : 0 ≤ n) (h2 : n ≤ 32) : (IntKind.u64.wrap n).toNat = n.toNat := by rw [IntKind.wrap_u64]; omega
theorem jM (n x : Int) (h1 : 1 ≤ n) (h2 : n ≤ 32) : LP Tryz.prog G 65 [iAV n, iAV x] [] (fun _ => (iAV (lw n x), [])) := by
 refine goW [] Tryz.func65 rfl ?_
 conv => whnf
 repeat' ((first | (show LC _ _ _ _ _ _; first | refine LC.pure (yj _ h1 h2) ?_ | refine goE ?_) | refine T.s ?_ | ((first | apply goB | apply AB.dec | apply AB.gen) <;> intro h <;> try (exfalso; omega)) | refine LQ.mk fun r => ?_ | exact T.z | refine ⟨_, rfl, rfl, ?_⟩ | fail) <;> conv => whnf)
 all_goals (try dsimp only)
 (show RL _ _ _; refine goR ?_)
 rw [u64n (by omega) h2]
 exact congrArg iAV (low_e x h2)
theorem r2dist_c (n a b : Int) (h1 : 1 ≤ n) (h2 : n ≤ 32) : LP Tryz.prog G 107 [iAV n, iAV a, iAV b] [] (fun _ => (iAV (lw n (b - a)), [])) := by
 refine goW [] Tryz.func107 rfl ?_
 conv => whnf
 repeat' ((first | (show LC _ _ _ _ _ _; first | refine LC.pure (yj _ h1 h2) ?_ | refine LC.pure (jM _ _ h1 h2) ?_ | refine goE ?_) | refine T.s ?_ | ((first | apply goB | apply AB.dec | apply AB.gen) <;> intro h <;> try (exfalso; omega)) | refine LQ.mk fun r => ?_ | exact T.z | refine ⟨_, rfl, rfl, ?_⟩ | fail) <;> conv => whnf)
 all_goals (try dsimp only)
 (show RL _ _ _; refine goR ?_)
 rw [u64n (by omega) h2]
 refine congrArg iAV ((low_e _ h2).trans ?_)
 show lw n (IntKind.i64.wrap _) = _
 rw [jh _ h2, lw_sub_l, lw_sub_r]
theorem zB (n a b : Int) (h1 : 1 ≤ n) (h2 : n ≤ 32) : LP Tryz.prog G 56 [iAV n, iAV a, iAV b] [] (fun _ => (iAV (sg n a b), [])) := by
 have e : q7 .sub .i64 n 1 = n - 1 := by (exact T.num)
 have e2 : IntKind.i64.wrap (1 * 2 ^ min (IntKind.u64.wrap (n - 1)).toNat IntKind.i64.bits) = 2 ^ (n - 1).toNat := by show IntKind.i64.wrap (1 * 2 ^ min (IntKind.u64.wrap (n - 1)).toNat 64) = _; rw [u64n (by omega) (by omega)]; exact yU (by omega)
 refine goW [] Tryz.func56 rfl ?_
 conv => whnf
 repeat' ((first | (show LC _ _ _ _ _ _; first | refine LC.pure (yj _ h1 h2) ?_ | refine LC.pure (r2dist_c _ _ _ h1 h2) ?_ | refine goE ?_) | refine T.s ?_ | ((first | apply goB | apply AB.dec | apply AB.gen) <;> intro h <;> try (exfalso; omega)) | refine LQ.mk fun r => ?_ | exact T.z | refine ⟨_, rfl, rfl, ?_⟩ | fail) <;> conv => whnf)
 all_goals (try dsimp only)
 · rw [e, e2] at h
   (show RL _ _ _; refine goR ?_)
   rw [u64n (by omega) h2]
   exact congrArg iAV (sg_e h1 h2 a b (by omega))
 · rw [e, e2] at h
   (show RL _ _ _; refine goR ?_)
   unfold sg
   rw [if_neg (by omega)]
   try rfl
open Go.RowKit
variable {G : Nat → AV}
def Hd.z : Hd := ⟨0, 0, 0, 0, 0, 0, 0, 0, 0, 0, 0, 0, 0, 0, 0⟩
def Dy.z : Dy := ⟨0, 0⟩
def Hd.num (h : Hd) : Int := if h.k = 2 then lw 16 h.sq else lw 16 h.id
theorem kt (h : Hd) : LP Tryz.prog G 50 [h.av] [] (fun _ => (iAV h.num, [])) := by
 refine goW [] Tryz.func50 rfl ?_
 conv => whnf
 repeat' ((first | (show LC _ _ _ _ _ _; first | refine LC.pure (xU 16 _ (by decide) (by decide)) ?_ | refine goE ?_) | refine T.s ?_ | ((first | apply goB | apply AB.dec | apply AB.gen) <;> intro h <;> try (exfalso; omega)) | refine LQ.mk fun r => ?_ | exact T.z | fail) <;> conv => whnf)
 all_goals (try dsimp only)
 all_goals
   (show RL _ _ _; refine goR ?_)
   unfold Hd.num
   (repeat first | rw [if_pos (by first | assumption | omega)] | rw [if_neg (by first | assumption | omega)])
   try rfl
theorem za (h : Hd) : LP Tryz.prog G 27 [h.av] [] (fun _ => (iAV h.num, [])) := by
 refine goW [] Tryz.func27 rfl ?_
 conv => whnf
 repeat' ((first | (show LC _ _ _ _ _ _; first | refine LC.pure (jM 16 _ (by decide) (by decide)) ?_ | refine goE ?_) | refine T.s ?_ | ((first | apply goB | apply AB.dec | apply AB.gen) <;> intro h <;> try (exfalso; omega)) | refine LQ.mk fun r => ?_ | exact T.z | fail) <;> conv => whnf)
 all_goals (try dsimp only)
 all_goals
   (show RL _ _ _; refine goR ?_)
   unfold Hd.num
   (repeat first | rw [if_pos (by first | assumption | omega)] | rw [if_neg (by first | assumption | omega)])
   try rfl
def qt (a b : Hd) : Bool := decide (a.k = b.k ∧ a.fr = b.fr ∧ a.to = b.to ∧ a.fp = b.fp ∧ a.tp = b.tp ∧ a.sr = b.sr)
def stepR (h : Hd) (n : Int) : Int := sg 16 h.num n
def wy (d : Dy) (h : Hd) (n : Int) : Hd :=
 if h.ok = true ∧ d.ok = true then (if h.k = 1 then { h with mr := 0, ck := 0, id := lw 16 n }
   else { h with mr := 0, ck := 0, sq := lw 16 n, tm := lw 32 (h.tm + d.st * stepR h n), id := lw 16 (h.id + d.fo * stepR h n) })
 else Hd.z
theorem sg_low (n a b : Int) : sg n a (lw n b) = sg n a b := by
 unfold sg
 rw [lw_sub_l]
theorem lw_mul {n : Int} (t x y : Int) (h : n ≤ 32) : lw n (q7 .add .i64 t (q7 .mul .i64 x y)) = lw n (t + x * y) := by
 show lw n (IntKind.i64.wrap (t + IntKind.i64.wrap (x * y))) = _
 rw [jh _ h, ← lw_add_r, jh _ h, lw_add_r]
theorem lw_add {n : Int} (t x : Int) (h : n ≤ 32) : lw n (q7 .add .i64 t x) = lw n (t + x) := jh _ h
theorem fpred_c (d : Dy) (h : Hd) (n : Int) : LP Tryz.prog G 120 [d.av, h.av, iAV n] [] (fun _ => ((wy d h n).av, [])) := by
 by_cases h1 : h.ok = true
 · by_cases h2 : d.ok = true
   · refine goW [] Tryz.func120 rfl ?_
     conv => whnf
     repeat' ((first | (show LC _ _ _ _ _ _; refine LC.pure (zR h) ?_; rw [h1]; conv => whnf) | (show LC _ _ _ _ _ _; refine LC.pure (jA d) ?_; rw [h2]; conv => whnf) | (show LC _ _ _ _ _ _; first | refine LC.pure (kt _) ?_ | refine LC.pure (xl 16 _ _ (by decide) (by decide)) ?_ | refine LC.pure (xU 16 _ (by decide) (by decide)) ?_ | refine LC.pure (xU 32 _ (by decide) (by decide)) ?_ | refine goE ?_) | refine T.s ?_ | ((first | apply goB | apply AB.dec | apply AB.gen) <;> intro h <;> try (exfalso; omega)) | refine LQ.mk fun r => ?_ | exact T.z | fail) <;> conv => whnf)
     all_goals (try dsimp only)
     all_goals
       (show RL _ _ _; refine goR ?_)
       unfold wy
       rw [if_pos ⟨h1, h2⟩]
       (repeat first | rw [if_pos (by first | assumption | omega)] | rw [if_neg (by first | assumption | omega)])
       try rw [lw_mul _ _ _ (by decide), lw_mul _ _ _ (by decide)]
       rfl
   · have h2' : d.ok = false := by simpa using h2
     refine goW [] Tryz.func120 rfl ?_
     conv => whnf
     repeat' ((first | (show LC _ _ _ _ _ _; refine LC.pure (zR h) ?_; rw [h1]; conv => whnf) | (show LC _ _ _ _ _ _; refine LC.pure (jA d) ?_; rw [h2']; conv => whnf) | refine T.s ?_ | ((first | apply goB | apply AB.dec | apply AB.gen) <;> intro h <;> try (exfalso; omega)) | refine LQ.mk fun r => ?_ | exact T.z | fail) <;> conv => whnf)
     all_goals (try dsimp only)
     (show RL _ _ _; refine goR ?_)
     unfold wy
     rw [if_neg (by simp [h2'])]
     rfl
 · have h1' : h.ok = false := by simpa using h1
   refine goW [] Tryz.func120 rfl ?_
   conv => whnf
   repeat' ((first | (show LC _ _ _ _ _ _; refine LC.pure (zR h) ?_; rw [h1']; conv => whnf) | refine T.s ?_ | ((first | apply goB | apply AB.dec | apply AB.gen) <;> intro h <;> try (exfalso; omega)) | refine LQ.mk fun r => ?_ | exact T.z | fail) <;> conv => whnf)
   all_goals (try dsimp only)
   (show RL _ _ _; refine goR ?_)
   unfold wy
   rw [if_neg (by simp [h1'])]
   rfl
theorem ok_id {h : Hd} (h1 : h.ok = true) : 0 ≤ h.id ∧ h.id < 65536 := by
 unfold Hd.ok comR at h1
 have key : ∀ n m, inR n m = true → 0 ≤ n ∧ n ≤ m := fun n m hh => by
   cases hc : decide (0 ≤ n ∧ n ≤ m) with
   | true => simpa using hc
   | false => exact absurd hh (by rw [inR_f (by simpa using hc)]; decide)
 split at h1
 · simp only [Bool.and_eq_true] at h1
   have := key _ _ h1.1.2.2.1
   omega
 · split at h1
   · simp only [Bool.and_eq_true] at h1
     have := key _ _ h1.1.2.2.1
     omega
   · cases h1
theorem ok_fo {d : Dy} (h : d.ok = true) : d.fo = 0 ∨ d.fo = 1 := by
 unfold Dy.ok at h
 simp only [Bool.and_eq_true, decide_eq_true_eq] at h
 exact h.2
theorem ok_k {h : Hd} (h1 : h.ok = true) : h.k = 1 ∨ h.k = 2 := by
 unfold Hd.ok at h1
 split at h1
 · exact .inl ‹_›
 · split at h1
   · exact .inr ‹_›
   · cases h1
theorem ke (d : Dy) (h : Hd) (n : Int) : LP Tryz.prog G 109 [d.av, h.av, iAV n] [] (fun _ => ((wy d h n).av, [])) := by
 by_cases h1 : h.ok = true
 · by_cases h2 : d.ok = true
   · have hk := ok_k h1
     have hid := ok_id h1
     have hfo := ok_fo h2
     refine goW [] Tryz.func109 rfl ?_
     conv => whnf
     repeat' ((first | (show LC _ _ _ _ _ _; refine LC.pure (zg h) ?_; rw [h1]; conv => whnf) | (show LC _ _ _ _ _ _; refine LC.pure (xP d) ?_; rw [h2]; conv => whnf) | (show LC _ _ _ _ _ _; first | refine LC.pure (za _) ?_ | refine LC.pure (zB 16 _ _ (by decide) (by decide)) ?_ | refine LC.pure (jM 16 _ (by decide) (by decide)) ?_ | refine LC.pure (jM 32 _ (by decide) (by decide)) ?_ | refine goE ?_) | refine T.s ?_ | ((first | apply goB | apply AB.dec | apply AB.gen) <;> intro h <;> try (exfalso; omega)) | refine LQ.mk fun r => ?_ | exact T.z | fail) <;> conv => whnf)
     all_goals (try dsimp only)
     all_goals
       (show RL _ _ _; refine goR ?_)
       unfold wy
       rw [if_pos ⟨h1, h2⟩]
       (repeat first | rw [if_pos (by first | assumption | omega)] | rw [if_neg (by first | assumption | omega)])
       try rw [lw_mul _ _ _ (by decide)]
       try rw [sg_low]
       first
         | rfl
         | (rw [show d.fo = 1 by omega, Int.one_mul, lw_add _ _ (by decide)]; rfl)
         | (rw [show d.fo = 0 by omega, Int.zero_mul, Int.add_zero, lw_small (n := 16) hid.1 hid.2]; rfl)
   · have h2' : d.ok = false := by simpa using h2
     refine goW [] Tryz.func109 rfl ?_
     conv => whnf
     repeat' ((first | (show LC _ _ _ _ _ _; refine LC.pure (zg h) ?_; rw [h1]; conv => whnf) | (show LC _ _ _ _ _ _; refine LC.pure (xP d) ?_; rw [h2']; conv => whnf) | refine T.s ?_ | ((first | apply goB | apply AB.dec | apply AB.gen) <;> intro h <;> try (exfalso; omega)) | refine LQ.mk fun r => ?_ | exact T.z | fail) <;> conv => whnf)
     all_goals (try dsimp only)
     (show RL _ _ _; refine goR ?_)
     unfold wy
     rw [if_neg (by simp [h2'])]
     rfl
 · have h1' : h.ok = false := by simpa using h1
   refine goW [] Tryz.func109 rfl ?_
   conv => whnf
   repeat' ((first | (show LC _ _ _ _ _ _; refine LC.pure (zg h) ?_; rw [h1']; conv => whnf) | refine T.s ?_ | ((first | apply goB | apply AB.dec | apply AB.gen) <;> intro h <;> try (exfalso; omega)) | refine LQ.mk fun r => ?_ | exact T.z | fail) <;> conv => whnf)
   all_goals (try dsimp only)
   (show RL _ _ _; refine goR ?_)
   unfold wy
   rw [if_neg (by simp [h1'])]
   rfl
open Go.RowKit
variable {G : Nat → AV}
theorem lknown_c (n : Int) : LP Tryz.prog G 141 [iAV n] [] (fun _ => (.bool (xt n), [])) := by
 refine goW [] Tryz.func141 rfl ?_
 conv => whnf
 repeat' ((first | refine T.s ?_ | ((first | apply goB | apply AB.dec | apply AB.gen) <;> intro h <;> try (exfalso; omega)) | refine LQ.mk fun r => ?_ | exact T.z | fail) <;> conv => whnf)
 all_goals (try dsimp only)
 all_goals
   (show RL _ _ _; refine goR ?_)
   refine congrArg AV.bool ?_
   rw [Bool.eq_iff_iff]
   simp [xt, qo, *]
theorem wu (n : Int) : LP Tryz.prog G 134 [iAV n] [] (fun _ => (.bool (xt n), [])) := by
 refine goW [] Tryz.func134 rfl ?_
 conv => whnf
 repeat' ((first | refine T.s ?_ | ((first | apply goB | apply AB.dec | apply AB.gen) <;> intro h <;> try (exfalso; omega)) | refine LQ.mk fun r => ?_ | exact T.z | fail) <;> conv => whnf)
 all_goals (try dsimp only)
 all_goals
   (show RL _ _ _; refine goR ?_)
   refine congrArg AV.bool ?_
   rw [Bool.eq_iff_iff]
   simp [xt, qo, *]
theorem wK (n v : Int) (h1 : 0 ≤ n) (h2 : n ≤ 32) : LP Tryz.prog G 142 [iAV n, iAV v] [] (fun _ => (.bool (zO n v), [])) := by
 have e : IntKind.i64.wrap (2 ^ min n.toNat IntKind.i64.bits) = 2 ^ n.toNat := by have := yU h2; rwa [Int.one_mul] at this
 refine goW [] Tryz.func142 rfl ?_
 conv => whnf
 repeat' ((first | refine T.s ?_ | ((first | apply goB | apply AB.dec | apply AB.gen) <;> intro h <;> try (exfalso; omega)) | refine LQ.mk fun r => ?_ | exact T.z | fail) <;> conv => whnf)
 all_goals (try dsimp only)
 all_goals
   (show RL _ _ _; refine goR ?_)
   simp [zO, qo, *]
theorem off_e {k : Int} (h1 : 3 ≤ k) (h2 : k ≤ 32) : q7 .sub .i64 (IntKind.i64.wrap (1 * 2 ^ min (q7 .sub .i64 k 3).toNat 64)) 1 = offK k := by
 have e : q7 .sub .i64 k 3 = k - 3 := by (exact T.num)
 rw [e]
 exact mask_e (by omega)
theorem loffset_c (k : Int) (h1 : 3 ≤ k) (h2 : k ≤ 32) : LP Tryz.prog G 149 [iAV k] [] (fun _ => (iAV (offK k), [])) := by
 refine goW [] Tryz.func149 rfl ?_
 conv => whnf
 repeat' ((first | refine T.s ?_ | ((first | apply goB | apply AB.dec | apply AB.gen) <;> intro h <;> try (exfalso; omega)) | refine LQ.mk fun r => ?_ | exact T.z | fail) <;> conv => whnf)
 all_goals (try dsimp only)
 (show RL _ _ _; refine goR ?_)
 exact congrArg iAV (off_e h1 h2)
theorem r7offset_c (k : Int) (h1 : 3 ≤ k) (h2 : k ≤ 32) : LP Tryz.prog G 145 [iAV k] [] (fun _ => (iAV (offK k), [])) := by
 have e : q7 .sub .i64 k 3 = k - 3 := by (exact T.num)
 refine goW [] Tryz.func145 rfl ?_
 conv => whnf
 repeat' ((first | refine T.s ?_ | ((first | apply goB | apply AB.dec | apply AB.gen) <;> intro h <;> try (exfalso; omega)) | refine LQ.mk fun r => ?_ | exact T.z | refine ⟨_, rfl, rfl, ?_⟩ | fail) <;> conv => whnf)
 all_goals (try dsimp only)
 (show RL _ _ _; refine goR ?_)
 rw [e, u64n (by omega) (by omega)]
 exact congrArg iAV (mask_e (by omega))
theorem offK_rng {k : Int} (h2 : k ≤ 32) : 0 ≤ offK k ∧ offK k < 4294967296 := by
 have h3 := vB (k - 3)
 have h4 := pw_le (n := k - 3) (m := 32) (by omega)
 unfold offK
 omega
theorem first_e {r k : Int} (h2 : k ≤ 32) (hr : 0 ≤ r) (hr2 : r < 4294967296) : q7 .sub .i64 r (offK k) = r - offK k := by
 have := offK_rng h2
 (exact T.num)
theorem val_rng {n v : Int} (h : zO n v = true) (hn : n ≤ 32) : 0 ≤ v ∧ v < 4294967296 := by
 have h4 := pw_le (m := 32) hn
 simp [zO] at h
 omega
theorem ldec_c (n r k l : Int) (h1 : 3 ≤ k) (h2 : k ≤ n) (h3 : n ≤ 32) (hr : zO n r = true) : LP Tryz.prog G 143 [iAV n, iAV r, iAV k, iAV l] [] (fun _ => (iAV (lsbV n r k l), [])) := by
 have hv := val_rng hr h3
 have e := first_e (k := k) (by omega) hv.1 hv.2
 refine goW [] Tryz.func143 rfl ?_
 conv => whnf
 repeat' ((first | (show LC _ _ _ _ _ _; first | refine LC.pure (loffset_c _ h1 (by omega)) ?_ | refine LC.pure (sdist_c _ _ _ (by omega) (by omega)) ?_ | refine LC.pure (xU _ _ (by omega) h3) ?_ | refine goE ?_) | refine T.s ?_ | ((first | apply goB | apply AB.dec | apply AB.gen) <;> intro h <;> try (exfalso; omega)) | refine LQ.mk fun r => ?_ | exact T.z | fail) <;> conv => whnf)
 all_goals (try dsimp only)
 (show RL _ _ _; refine goR ?_)
 rw [e]
 exact congrArg iAV (jh _ h3)
theorem lsbR_k {n : Int} (r k l : Int) (h : ¬ xt n = true) : wL n r k l = (0, 7) := by unfold wL; rw [if_neg h]
theorem lsbR_b {n r k l : Int} (h : xt n = true) (h2 : k < 3 ∨ k > n ∨ zO n r = false ∨ zO k l = false) : wL n r k l = (0, 3) := by unfold wL; rw [if_pos h, if_pos h2]
theorem lsbR_g {n r k l : Int} (h : xt n = true) (h1 : 3 ≤ k) (h2 : k ≤ n) (h3 : zO n r = true) (h4 : zO k l = true) : wL n r k l = (lsbV n r k l, 0) := by
 unfold wL; rw [if_pos h, if_neg (by rw [h3, h4]; simp; omega)]
theorem yY {n : Int} (h : xt n = true) : 8 ≤ n ∧ n ≤ 32 := by simp [xt] at h; omega
theorem r7decode_c (n r k l : Int) : LP Tryz.prog G 135 [iAV n, iAV r, iAV k, iAV l] [] (fun _ => (.tup [iAV (wL n r k l).1, iAV (wL n r k l).2], [])) := by
 by_cases hw : xt n = true
 · have hn := yY hw
   have e1 : IntKind.i64.wrap (1 * 2 ^ min (IntKind.u64.wrap n).toNat IntKind.i64.bits) = 2 ^ n.toNat := by show IntKind.i64.wrap (1 * 2 ^ min (IntKind.u64.wrap n).toNat 64) = _; rw [u64n (by omega) (by omega)]; exact yU (by omega)
   by_cases hb : k < 3 ∨ k > n ∨ zO n r = false ∨ zO k l = false
   · rw [lsbR_b hw hb]
     refine goW [] Tryz.func135 rfl ?_
     conv => whnf
     repeat' ((first | (show LC _ _ _ _ _ _; refine LC.eq (by rfl) (LC.pure (wu n) ?_); rw [hw]; conv => whnf) | refine T.s ?_ | ((first | apply goB | apply AB.dec | apply AB.gen) <;> intro h <;> try (exfalso; omega)) | refine LQ.mk fun r => ?_ | exact T.z | refine ⟨_, rfl, rfl, ?_⟩ | fail) <;> conv => whnf)
     all_goals (try dsimp only)
     all_goals first | ((show RL _ _ _; refine goR ?_); rfl) | skip
     all_goals
       exfalso
       have e2 : IntKind.i64.wrap (1 * 2 ^ min (IntKind.u64.wrap k).toNat IntKind.i64.bits) = 2 ^ k.toNat := by show IntKind.i64.wrap (1 * 2 ^ min (IntKind.u64.wrap k).toNat 64) = _; rw [u64n (by omega) (by omega)]; exact yU (by omega)
       rename_i q1 q2 q3 q4
       simp [zO] at hb
       omega
   · have h3 : zO n r = true := by cases h : zO n r <;> simp_all
     have h4 : zO k l = true := by cases h : zO k l <;> simp_all
     rw [lsbR_g hw (by omega) (by omega) h3 h4]
     have hv := val_rng h3 (by omega)
     have e := first_e (k := k) (by omega) hv.1 hv.2
     have e2 : IntKind.i64.wrap (1 * 2 ^ min (IntKind.u64.wrap k).toNat IntKind.i64.bits) = 2 ^ k.toNat := by show IntKind.i64.wrap (1 * 2 ^ min (IntKind.u64.wrap k).toNat 64) = _; rw [u64n (by omega) (by omega)]; exact yU (by omega)
     simp only [zO, decide_eq_true_eq] at h3 h4
     refine goW [] Tryz.func135 rfl ?_
     conv => whnf
     repeat' ((first | (show LC _ _ _ _ _ _; refine LC.eq (by rfl) (LC.pure (wu n) ?_); rw [hw]; conv => whnf) | (show LC _ _ _ _ _ _; first | refine LC.pure (r7offset_c _ (by omega) (by omega)) ?_ | refine LC.pure (r2dist_c _ _ _ (by omega) (by omega)) ?_ | refine LC.pure (jM _ _ (by omega) (by omega)) ?_ | refine goE ?_) | refine T.s ?_ | ((first | apply goB | apply AB.dec | apply AB.gen) <;> intro h <;> try (exfalso; omega)) | refine LQ.mk fun r => ?_ | exact T.z | refine ⟨_, rfl, rfl, ?_⟩ | fail) <;> conv => whnf)
     all_goals (try dsimp only)
     all_goals try rw [e1] at *
     all_goals try rw [e2] at *
     all_goals first | (exfalso; omega) | skip
     (show RL _ _ _; refine goR ?_)
     rw [e]
     refine congrArg (fun z => AV.tup [iAV z, iAV 0]) (jh _ (by omega))
 · rw [lsbR_k r k l hw]
   have hw' : xt n = false := by simpa using hw
   refine goW [] Tryz.func135 rfl ?_
   conv => whnf
   repeat' ((first | (show LC _ _ _ _ _ _; refine LC.eq (by rfl) (LC.pure (wu n) ?_); rw [hw']; conv => whnf) | refine T.s ?_ | ((first | apply goB | apply AB.dec | apply AB.gen) <;> intro h <;> try (exfalso; omega)) | refine LQ.mk fun r => ?_ | exact T.z | refine ⟨_, rfl, rfl, ?_⟩ | fail) <;> conv => whnf)
   all_goals (try dsimp only)
   (show RL _ _ _; refine goR ?_)
   rfl
end Go.Proofs.YtbagbjacmakfhaaGreatDoor
