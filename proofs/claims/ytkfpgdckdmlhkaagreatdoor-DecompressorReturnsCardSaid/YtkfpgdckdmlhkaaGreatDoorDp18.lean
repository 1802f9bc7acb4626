import Derived.Test.YtkfpgdckdmlhkaaGreatDoorDp17
set_option maxHeartbeats 4000000
namespace Go.Proofs.YtkfpgdckdmlhkaaGreatDoor
open Go.RowKit
set_option linter.all false
variable {G : Nat → AV}
theorem setW_2 (x : Int) : ∀ (a : Nat) (l : List UInt8), a + 2 ≤ l.length → setW l a (putB x 2) = st2 l a x := by
 have key : ∀ (u v : UInt8) (a : Nat) (l : List UInt8), a + 2 ≤ l.length → l.take a ++ [u, v] ++ l.drop (a + 2) = (l.set (a + 1) v).set a u := by
   intro u v a
   induction a with
   | zero =>
     intro l h
     match l, h with
     | c :: d :: t, _ => rfl
   | succ a ih =>
     intro l h
     match l, h with
     | c :: t, h =>
       have := ih t (by simp at h; omega)
       show c :: (t.take a ++ [u, v] ++ t.drop (a + 2)) = c :: ((t.set (a + 1) v).set a u)
       rw [this]
 intro a l h
 unfold setW
 rw [putB2]
 refine (key _ _ a l h).trans ?_
 unfold st2
 rfl
theorem bldR_g {h : Hd} {p : List UInt8} (ko : h.ok = true) (hp : (headL h).length + p.length ≤ 1500) : bldR h p = (bldL h p, 0) := by unfold bldR; rw [if_pos ko, if_pos hp]
theorem bldR_s {h : Hd} {p : List UInt8} (ko : h.ok = true) (hp : ¬ (headL h).length + p.length ≤ 1500) : bldR h p = ([], 2) := by unfold bldR; rw [if_pos ko, if_neg hp]
theorem bldR_n {h : Hd} {p : List UInt8} (ko : h.ok = false) : bldR h p = ([], 1) := by unfold bldR; rw [if_neg (by rw [ko]; decide)]
theorem LF.headB {L : List UInt8} {F : List Nm} {p : Nm} {n : Nat} {l : LS} (hF : InL p F) (h : LH l p fun c _ _ => c.cs = L.map bAV ∧ n ≤ L.length) : LF l F (.vw p 0 n 1) (bv (L.take n)) := by
 obtain ⟨l1, c, l2, rfl, h1, h2⟩ := h.ex
 refine LF.part hF ⟨l1, c, l2, rfl, by decide, by rw [h1]; simp; omega, by simp; omega, by rw [h1]; simp [List.map_take]⟩
theorem csumT (L : List UInt8) : LP Tryz.prog G 111 [bv (L.take 20)] [] (fun _ => (iAV (csR (L.take 20)), [])) := csum4_c _ (by simp; omega)
theorem bldL_e (h : Hd) (p : List UInt8) : bldL h p = st2 (st2 (st2 (headL h ++ p) 2 (((headL h).length + p.length : Nat) : Int)) 24 (((headL h).length + p.length : Nat) - 20)) 10 (csR ((st2 (st2 (headL h ++ p) 2 (((headL h).length + p.length : Nat) : Int)) 24 (((headL h).length + p.length : Nat) - 20)).take 20)) := by
 have h1 := headL_len h
 have h2 : 28 ≤ (headL h).length := by rw [h1]; split <;> omega
 have e : bld1 h p = st2 (st2 (headL h ++ p) 2 (((headL h).length + p.length : Nat) : Int)) 24 (((headL h).length + p.length : Nat) - 20) := by
   unfold bld1
   rw [setW_2 _ 2 _ (by simp; omega), setW_2 _ 24 _ (by simp; omega)]
 unfold bldL
 rw [e, setW_2 _ 10 _ (by simp; omega)]
theorem app_hd {L R p : List UInt8} {n : Nat} (h : L.length = n) : List.take n (List.drop 0 ((L ++ R).map bAV)) ++ p.map bAV = (L ++ p).map bAV := by subst h; simp
theorem app_hd0 {L p : List UInt8} {n : Nat} (h : L.length = n) : List.take n (List.drop 0 (L.map bAV)) ++ p.map bAV = (L ++ p).map bAV := by subst h; rw [List.drop_zero, List.take_of_length_le (by simp), List.map_append]
theorem LC.headB {P : Program} {f : FuncId} {R : List UInt8 → Int} {n : Nat} {r : Nm} {l : LS} {K : AV → LS → Prop} (hs : ∀ L : List UInt8, LP P G f [bv (L.take n)] [] fun _ => (iAV (R (L.take n)), []))
   (h : LH l r fun c _ _ => ∃ L : List UInt8, c.cs = L.map bAV ∧ n ≤ L.length ∧ K (iAV (R (L.take n))) l) : LC P G f [.vw r 0 n 1] l K := by
 obtain ⟨l1, c, l2, rfl, L, h1, h2, h3⟩ := h.ex
 exact LC.lend (hs L) [r] ⟨LF.headB InL.here ⟨l1, c, l2, rfl, h1, h2⟩, trivial⟩ (Flat.int _ _) h3
theorem RL.bytes2 {b : List UInt8} {q : Nm} {n : Nat} {e : Int} {l : LS} (h : LH l q fun c _ _ => c.cs = b.map bAV ∧ n = b.length) : RL (fun _ => (.tup [bv b, iAV e], [])) (.tup [.vw q 0 n 1, .int .i64 e]) l := by
 obtain ⟨l1, c, l2, rfl, h1, rfl⟩ := h.ex
 exact RL.frz [q] (LF.tup (xs := [.vw q 0 b.length 1, .int .i64 e]) (ys := [bv b, iAV e]) ⟨LF.rowF InL.here ⟨l1, c, l2, rfl, h1, rfl⟩, LF.eq rfl, trivial⟩) ⟨l1, c, l2, rfl, LB.nil⟩
theorem RL.nil2 {e : Int} {l : LS} : RL (fun _ => (.tup [bv [], iAV e], [])) (.tup [.nils, .int .i64 e]) l :=
 RL.frz [] (LF.tup (xs := [.nils, .int .i64 e]) (ys := [bv [], iAV e]) ⟨LF.nils rfl rfl, LF.eq rfl, trivial⟩) LB.nil
theorem pbuild_n (h : Hd) (p : List UInt8) (ko : h.ok = false) : LP Tryz.prog G 67 [h.av, bv p] [] (fun _ => (.tup [bv (bldR h p).1, iAV (bldR h p).2], [])) := by
 rw [bldR_n ko]
 refine goW [] Tryz.func67 rfl ?_
 conv => whnf
 repeat' ((first
   | (show LC _ _ _ _ _ _; first | refine LC.pure (phead_n h ko) ?_ | refine goE ?_)
   | refine T.s ?_
   | ((first | refine goB (fun h => ?_) (fun h => ?_) | refine AB.dec (fun h => ?_) (fun h => ?_) | refine AB.gen (fun h => ?_) (fun h => ?_)) <;> try (exfalso; omega))
   | refine LFresh.mk fun r => ?_
   | (refine dec_yes ?_ ?_; (focus (first | exact .inl rfl | (exact T.num))))
   | (refine dec_no ?_ ?_; (focus (exact T.num)))
   | refine dec_both (fun h => ?_) (fun h => ?_)
   | exact T.z
   | fail) <;> conv => whnf)
 all_goals (try dsimp only)
 all_goals
   exact RL.nil2
theorem pbuild_1 (hd : Hd) (p : List UInt8) (ko : hd.ok = true) (k : hd.k = 1) (hp : p.length ≤ 100000) : LP Tryz.prog G 67 [hd.av, bv p] [] (fun _ => (.tup [bv (bldR hd p).1, iAV (bldR hd p).2], [])) := by
 have hn : (headL hd).length = 28 := by rw [headL_len]; rw [if_neg (by omega)]
 have e15 : iarith .sub .i64 1500 ((28 : Nat) : Int) = 1472 := rfl
 by_cases hs : p.length ≤ 1500 - 28
 · rw [bldR_g ko (by omega)]
   refine goW [] Tryz.func67 rfl ?_
   conv => whnf
   repeat' ((first
     | (show LC _ _ _ _ _ _; refine updW (fun l h1 => pput2_c l _ _ _ (Nat.le_trans (m := 28) (by decide) (Nat.le_add_right _ _)) h1 (by decide) _) ?_; (repeat first | refine goH ?_ | apply LH.here | apply LH.next); refine ⟨_, rfl, (by simp [hn]; try omega), ?_⟩; conv => whnf)
     | (show LC _ _ _ _ _ _; refine LC.eq (args' := [AV.vw r 0 20 1]) (by rfl) ?_; refine LC.headB csumT ?_; (repeat first | refine goH ?_ | apply LH.here | apply LH.next); refine ⟨_, rfl, (by simp [hn]; try omega), ?_⟩; conv => whnf)
     | (refine And.intro ?_ ?_; (focus (first | (simp [hn]; done) | (simp [hn]; omega) | exact T.kx | exact T.side)))
     | (show LC _ _ _ _ _ _; first | refine LC.own (phead_1 hd ko k) ?_ | refine goE ?_)
     | (show AQ _ _; first | (refine AQ.eq (cs' := (headL hd ++ p).map bAV) (app_hd (hn.trans rfl)) ?_))
     | refine T.s ?_
     | ((first | refine goB (fun h => ?_) (fun h => ?_) | refine AB.dec (fun h => ?_) (fun h => ?_) | refine AB.gen (fun h => ?_) (fun h => ?_)) <;> try (exfalso; omega))
     | refine LFresh.mk fun r => ?_
     | (refine dec_yes ?_ ?_; (focus (first | exact .inl rfl | (exact T.num))))
     | (refine dec_no ?_ ?_; (focus (exact T.num)))
     | refine dec_both (fun h => ?_) (fun h => ?_)
     | exact T.z
     | fail) <;> conv => whnf)
   all_goals (try dsimp only)
   have e20 : iarith .sub .i64 ((28 + p.length : Nat) : Int) 20 = ((28 + p.length : Nat) : Int) - 20 := by (exact T.num)
   rw [bldL_e, hn, ← e20]
   refine RL.bytes2 ?_
   (repeat first | refine goH ?_ | apply LH.here | apply LH.next)
   exact ⟨rfl, by simp [hn]⟩
 · rw [bldR_s ko (by omega)]
   refine goW [] Tryz.func67 rfl ?_
   conv => whnf
   repeat' ((first
     | (refine And.intro ?_ ?_; (focus (first | (simp [hn]; done) | (simp [hn]; omega) | exact T.kx | exact T.side)))
     | (show LC _ _ _ _ _ _; first | refine LC.own (phead_1 hd ko k) ?_ | refine goE ?_)
     | refine T.s ?_
     | ((first | refine goB (fun h => ?_) (fun h => ?_) | refine AB.dec (fun h => ?_) (fun h => ?_) | refine AB.gen (fun h => ?_) (fun h => ?_)) <;> try (exfalso; omega))
     | refine LFresh.mk fun r => ?_
     | (refine dec_yes ?_ ?_; (focus (first | exact .inl rfl | (exact T.num))))
     | (refine dec_no ?_ ?_; (focus (exact T.num)))
     | refine dec_both (fun h => ?_) (fun h => ?_)
     | exact T.z
     | fail) <;> conv => whnf)
   all_goals (try dsimp only)
   exact RL.nil2
theorem pbuild_2 (hd : Hd) (p : List UInt8) (ko : hd.ok = true) (k : hd.k = 2) (hp : p.length ≤ 100000) : LP Tryz.prog G 67 [hd.av, bv p] [] (fun _ => (.tup [bv (bldR hd p).1, iAV (bldR hd p).2], [])) := by
 have hn : (headL hd).length = 40 := by rw [headL_len]; rw [if_pos k]
 have e15 : iarith .sub .i64 1500 ((40 : Nat) : Int) = 1460 := rfl
 by_cases hs : p.length ≤ 1500 - 40
 · rw [bldR_g ko (by omega)]
   refine goW [] Tryz.func67 rfl ?_
   conv => whnf
   repeat' ((first
     | (show LC _ _ _ _ _ _; refine updW (fun l h1 => pput2_c l _ _ _ (Nat.le_trans (m := 40) (by decide) (Nat.le_add_right _ _)) h1 (by decide) _) ?_; (repeat first | refine goH ?_ | apply LH.here | apply LH.next); refine ⟨_, rfl, (by simp [hn]; try omega), ?_⟩; conv => whnf)
     | (show LC _ _ _ _ _ _; refine LC.eq (args' := [AV.vw r 0 20 1]) (by rfl) ?_; refine LC.headB csumT ?_; (repeat first | refine goH ?_ | apply LH.here | apply LH.next); refine ⟨_, rfl, (by simp [hn]; try omega), ?_⟩; conv => whnf)
     | (refine And.intro ?_ ?_; (focus (first | (simp [hn]; done) | (simp [hn]; omega) | exact T.kx | exact T.side)))
     | (show LC _ _ _ _ _ _; first | refine LC.own (phead_2 hd ko k) ?_ | refine goE ?_)
     | (show AQ _ _; first | (refine AQ.eq (cs' := (headL hd ++ p).map bAV) (app_hd0 (hn.trans rfl)) ?_))
     | refine T.s ?_
     | ((first | refine goB (fun h => ?_) (fun h => ?_) | refine AB.dec (fun h => ?_) (fun h => ?_) | refine AB.gen (fun h => ?_) (fun h => ?_)) <;> try (exfalso; omega))
     | refine LFresh.mk fun r => ?_
     | (refine dec_yes ?_ ?_; (focus (first | exact .inl rfl | (exact T.num))))
     | (refine dec_no ?_ ?_; (focus (exact T.num)))
     | refine dec_both (fun h => ?_) (fun h => ?_)
     | exact T.z
     | fail) <;> conv => whnf)
   all_goals (try dsimp only)
   have e20 : iarith .sub .i64 ((40 + p.length : Nat) : Int) 20 = ((40 + p.length : Nat) : Int) - 20 := by (exact T.num)
   rw [bldL_e, hn, ← e20]
   refine RL.bytes2 ?_
   (repeat first | refine goH ?_ | apply LH.here | apply LH.next)
   exact ⟨rfl, by simp [hn]⟩
 · rw [bldR_s ko (by omega)]
   refine goW [] Tryz.func67 rfl ?_
   conv => whnf
   repeat' ((first
     | (refine And.intro ?_ ?_; (focus (first | (simp [hn]; done) | (simp [hn]; omega) | exact T.kx | exact T.side)))
     | (show LC _ _ _ _ _ _; first | refine LC.own (phead_2 hd ko k) ?_ | refine goE ?_)
     | refine T.s ?_
     | ((first | refine goB (fun h => ?_) (fun h => ?_) | refine AB.dec (fun h => ?_) (fun h => ?_) | refine AB.gen (fun h => ?_) (fun h => ?_)) <;> try (exfalso; omega))
     | refine LFresh.mk fun r => ?_
     | (refine dec_yes ?_ ?_; (focus (first | exact .inl rfl | (exact T.num))))
     | (refine dec_no ?_ ?_; (focus (exact T.num)))
     | refine dec_both (fun h => ?_) (fun h => ?_)
     | exact T.z
     | fail) <;> conv => whnf)
   all_goals (try dsimp only)
   exact RL.nil2
theorem pbuild_c (h : Hd) (p : List UInt8) (hp : p.length ≤ 100000) : LP Tryz.prog G 67 [h.av, bv p] [] (fun _ => (.tup [bv (bldR h p).1, iAV (bldR h p).2], [])) := by
 cases ko : h.ok with
 | true =>
   rcases (h.of ko).1 with k | k
   · exact pbuild_1 h p ko k hp
   · exact pbuild_2 h p ko k hp
 | false => exact pbuild_n h p ko
open Go.RowKit
variable {G : Nat → AV}
theorem b8_mod {x : Int} (h : 0 ≤ x) : b8 (x.tmod 256) = b8 x := by
 rw [Int.tmod_eq_emod_of_nonneg h]
 unfold b8
 congr 2
 omega
theorem b8_wrap (x : Int) : b8 (IntKind.i64.wrap x) = b8 x := by
 unfold b8
 rw [IntKind.wrap_i64]
 congr 2
 omega
theorem rset_e (l : List UInt8) (a : Nat) {x : Int} (h : 0 ≤ x) : (l.set a (b8 (IntKind.i64.wrap (x.tdiv 256)))).set (a + 1) (b8 (x.tmod 256)) = st2 l a x := by
 unfold st2
 rw [b8_mod h, b8_wrap, Int.tdiv_eq_ediv_of_nonneg h, Int.fdiv_eq_ediv_of_nonneg _ (by decide), List.set_comm _ _ (by omega)]
theorem ix0 (a : Nat) : 0 + (a : Int).toNat * 1 = a := by omega
theorem ix01 {a : Nat} (h : a ≤ 100000) : 0 + (iarith .add .i64 (a : Int) 1).toNat * 1 = a + 1 := ix h rfl (by decide)
theorem rset_c (l : List UInt8) (a n : Nat) (x : Int) (h : a + 2 ≤ n) (hn : n ≤ l.length) (ha : a ≤ 100000) (hx : 0 ≤ x) (p : Nm) : LP Tryz.prog G 72 [.vw p 0 n 1, iAV a, iAV x] [(p, ⟨5, l.map bAV⟩)] (fun _ => (.tup [], [(p, ⟨5, (st2 l a x).map bAV⟩)])) := by
 have e1 : iarith .add .i64 (a : Int) 1 = ((a + 1 : Nat) : Int) := by (exact T.num)
 refine goW [] Tryz.func72 rfl ?_
 conv => whnf
 repeat' ((first
   | refine T.s ?_
   | ((first | refine goB (fun h => ?_) (fun h => ?_) | refine AB.dec (fun h => ?_) (fun h => ?_) | refine AB.gen (fun h => ?_) (fun h => ?_)) <;> try (exfalso; omega))
   | refine LFresh.mk fun r => ?_
   | exact T.z
   | refine ⟨_, rfl, rfl, ?_⟩
   | fail) <;> conv => whnf)
 all_goals (try dsimp only)
 all_goals
   refine RL.val rfl (LB.cons ?_)
   (repeat first | refine goH ?_ | apply LH.here | apply LH.next)
   refine And.intro (congrArg (Pl.mk _) ?_) LB.nil
   rw [ix0, ix01 ha]
   exact congrArg (List.map bAV) (rset_e l a hx)
theorem head_lit (t : Int) : [AV.int .u8 69, AV.int .u8 (IntKind.u8.wrap t), AV.int .u8 0, AV.int .u8 0] = ([69, b8 t, 0, 0] : List UInt8).map bAV := by
 simp only [List.map_cons, List.map_nil, bAV_b8]; rfl
theorem head_mid (f t : Int) : [AV.int .u8 (IntKind.u8.wrap f), AV.int .u8 0, AV.int .u8 (IntKind.u8.wrap t), AV.int .u8 17, AV.int .u8 0, AV.int .u8 0] = ([b8 f, 0, b8 t, 17, 0, 0] : List UInt8).map bAV := by
 simp only [List.map_cons, List.map_nil, bAV_b8]; rfl
theorem head_00 : [AV.int .u8 0, AV.int .u8 0] = ([0, 0] : List UInt8).map bAV := rfl
theorem head_80 (t : Int) : [AV.int .u8 128, AV.int .u8 (IntKind.u8.wrap t)] = ([128, b8 t] : List UInt8).map bAV := by
 simp only [List.map_cons, List.map_nil, bAV_b8]; rfl
theorem RL.ownB {M : List UInt8} {q : Nm} {n : Nat} {l : LS} (h : LH l q fun c _ _ => ∃ L : List UInt8, c = ⟨5, L.map bAV⟩ ∧ L = M ∧ n = M.length) : RL (fun q => (.vw q 0 M.length 1, [(q, ⟨5, M.map bAV⟩)])) (.vw q 0 n 1) l := by
 obtain ⟨l1, c, l2, rfl, L, rfl, rfl, rfl⟩ := h.ex
 exact RL.own q rfl ⟨l1, _, l2, rfl, trivial⟩ (LB.cons ⟨l1, _, l2, rfl, rfl, LB.nil⟩)
theorem r5head_c (hd : Hd) (ko : hd.ok = true) : LP Tryz.prog G 71 [hd.av] [] (fun q => (.vw q 0 (headL hd).length 1, [(q, ⟨5, (headL hd).map bAV⟩)])) := by
 have hv := r5valid_c (G := G) hd
 rw [ko] at hv
 have hk := (hd.of ko).1
 have hfx := fx64 (hd.of ko).2.2.2.2.2.2.2.1
 have hmt := mt128 (hd.of ko).2.2.2.2.2.2.2.2.2.2.1 (hd.of ko).2.2.2.2.2.2.2.2.2.2.2.1
 refine goW [] Tryz.func71 rfl ?_
 conv => whnf
 repeat' ((first
   | (show LC _ _ _ _ _ _; refine LC.putk 2 (fun bs p hb => put2_c bs _ hb p) ?_; (repeat first | refine goH ?_ | apply LH.here | apply LH.next); refine ⟨_, congrArg (Pl.mk _) (head_lit _), (by first | exact rfl | (simp; done)), (by first | exact Nat.le_of_ble_eq_true rfl | (simp; omega) | (simp; done)), ?_⟩; conv => whnf)
   | (show LC _ _ _ _ _ _; refine LC.putk 2 (fun bs p hb => put2_c bs _ hb p) ?_; (repeat first | refine goH ?_ | apply LH.here | apply LH.next); refine ⟨_, rfl, (by first | exact rfl | (simp; done)), (by first | exact Nat.le_of_ble_eq_true rfl | (simp; omega) | (simp; done)), ?_⟩; conv => whnf)
   | (show LC _ _ _ _ _ _; refine LC.putk 4 (fun bs p hb => put4_c bs _ hb p) ?_; (repeat first | refine goH ?_ | apply LH.here | apply LH.next); refine ⟨_, rfl, (by first | exact rfl | (simp; done)), (by first | exact Nat.le_of_ble_eq_true rfl | (simp; omega) | (simp; done)), ?_⟩; conv => whnf)
   | exact Nm.b 0
   | (show LC _ _ _ _ _ _; first | refine LC.pure (hv) ?_ | refine goE ?_)
   | (show AQ _ _; first | (with_reducible refine AQ.appM ?_ (head_mid _ _) ?_; (focus (first | exact Nat.le_of_ble_eq_true rfl | (simp; done) | (simp; omega)))) | (with_reducible refine AQ.appM ?_ head_00 ?_; (focus (first | exact Nat.le_of_ble_eq_true rfl | (simp; done) | (simp; omega)))) | (with_reducible refine AQ.appM ?_ (head_80 _) ?_; (focus (first | exact Nat.le_of_ble_eq_true rfl | (simp; done) | (simp; omega)))))
   | refine T.s ?_
   | ((first | refine goB (fun h => ?_) (fun h => ?_) | refine AB.dec (fun h => ?_) (fun h => ?_) | refine AB.gen (fun h => ?_) (fun h => ?_)) <;> try (exfalso; omega))
   | refine LFresh.mk fun r => ?_
   | (show SQ _ _ _ _ _ _ _; first | (apply goD tQ mixed 6 [5, 3] [0, 1, 2, 4, 5, 3, 6, 7] [_] (by kernel_rfl)) | (refine goD tQ mixed 6 [5, 3] [0, 1, 2, 4, 5, 3, 6, 7] [] (by kernel_rfl) ?_) | (apply goD tQ mixed 7 [5, 3] [0, 1, 2, 4, 5, 3, 6, 7] [_] (by kernel_rfl)) | (refine goD tQ mixed 7 [5, 3] [0, 1, 2, 4, 5, 3, 6, 7] [] (by kernel_rfl) ?_) | (apply goD tQ mixed 8 [4, 2] [0, 3, 4, 1, 2, 5, 6] [_] (by kernel_rfl)) | (refine goD tQ mixed 8 [4, 2] [0, 3, 4, 1, 2, 5, 6] [] (by kernel_rfl) ?_) | (apply goD tQ mixed 11 [5, 8, 3, 6] [0, 1, 2, 4, 5, 7, 8, 3, 6, 9, 10] [_] (by kernel_rfl)) | (refine goD tQ mixed 11 [5, 8, 3, 6] [0, 1, 2, 4, 5, 7, 8, 3, 6, 9, 10] [] (by kernel_rfl) ?_))
   | exact T.z
   | refine ⟨_, rfl, rfl, ?_⟩
   | fail) <;> try (show (_ : Prop); conv => whnf))
 all_goals (try dsimp only)
 all_goals (refine RL.ownB ?_; (repeat first | refine goH ?_ | apply LH.here | apply LH.next); refine ⟨_, rfl, ?_, ?_⟩)
 · unfold headL
   rw [if_pos h, hfx, hmt]
   simp only [List.append_assoc]
 · rw [headL_len, if_pos h]
   simp
 · unfold headL
   rw [if_neg h, hfx]
   simp only [List.append_assoc, List.append_nil]
 · rw [headL_len, if_neg h]
   simp
theorem r5head_n (hd : Hd) (ko : hd.ok = false) : LP Tryz.prog G 71 [hd.av] [] (fun _ => (.nils, [])) := by
 have hv := r5valid_c (G := G) hd
 rw [ko] at hv
 refine goW [] Tryz.func71 rfl ?_
 conv => whnf
 repeat' ((first
   | exact Nm.b 0
   | (show LC _ _ _ _ _ _; first | refine LC.pure (hv) ?_ | refine goE ?_)
   | refine T.s ?_
   | ((first | refine goB (fun h => ?_) (fun h => ?_) | refine AB.dec (fun h => ?_) (fun h => ?_) | refine AB.gen (fun h => ?_) (fun h => ?_)) <;> try (exfalso; omega))
   | refine LFresh.mk fun r => ?_
   | (show SQ _ _ _ _ _ _ _; first | (refine goD tQ mixed 6 [5, 3] [0, 1, 2, 4, 5, 3, 6, 7] [] (by kernel_rfl) ?_) | (refine goD tQ mixed 7 [5, 3] [0, 1, 2, 4, 5, 3, 6, 7] [] (by kernel_rfl) ?_) | (refine goD tQ mixed 8 [4, 2] [0, 3, 4, 1, 2, 5, 6] [] (by kernel_rfl) ?_) | (refine goD tQ mixed 11 [5, 8, 3, 6] [0, 1, 2, 4, 5, 7, 8, 3, 6, 9, 10] [] (by kernel_rfl) ?_))
   | exact T.z
   | refine ⟨_, rfl, rfl, ?_⟩
   | fail) <;> conv => whnf)
 all_goals (try dsimp only)
 all_goals
   (show RL _ _ _; refine goR ?_)
   rfl
theorem csR_rng (l : List UInt8) : 0 ≤ csR l := by
 have := foldR_rng (wsum l)
 unfold csR
 omega
theorem csumT4 (L : List UInt8) : LP Tryz.prog G 73 [bv (L.take 20)] [] (fun _ => (iAV (csR (L.take 20)), [])) := r4sum_c _ (by simp; omega)
theorem rsetW (l : LS) {K : AV → LS → Prop} {p : Nm} {n a : Nat} {x : Int} (m : Nat) (h : a + 2 ≤ m) (hm : m ≤ n) (ha : a ≤ 100000) (hx : 0 ≤ x) (hk : LH l p fun c s _ => ∃ L : List UInt8, c = ⟨5, L.map bAV⟩ ∧ n ≤ L.length ∧ K (.tup []) (s ⟨5, (st2 L a x).map bAV⟩)) : LC Tryz.prog G 72 [.vw p 0 n 1, iAV a, iAV x] l K :=
 updW (fun L h1 => rset_c L a n x (Nat.le_trans h hm) h1 ha hx p) hk
theorem rbuild_g (hd : Hd) (p : List UInt8) (ko : hd.ok = true) (hp : p.length ≤ 100000) : LP Tryz.prog G 29 [hd.av, bv p] [] (fun _ => (.tup [bv (bldR hd p).1, iAV (bldR hd p).2], [])) := by
 have hv := r5valid_c (G := G) hd
 rw [ko] at hv
 have hn : 28 ≤ (headL hd).length ∧ (headL hd).length ≤ 40 := by rw [headL_len]; split <;> omega
 generalize hN : (headL hd).length = M at hn
 have hh := r5head_c (G := G) hd ko
 rw [hN] at hh
 by_cases hs : M + p.length ≤ 1500
 · rw [bldR_g ko (by omega)]
   have e20 : iarith .sub .i64 ((M + p.length : Nat) : Int) 20 = ((M + p.length : Nat) : Int) - 20 := by (exact T.num)
   refine goW [] Tryz.func29 rfl ?_
   conv => whnf
   repeat' ((first
     | (show LC _ _ _ _ _ _; refine LC.eq (congrArg (fun z => [AV.vw r 0 (M + p.length) 1, AV.int .i64 24, AV.int .i64 z]) e20) ?_; refine rsetW _ 28 (by decide) (by omega) (by decide) (by omega) ?_; (repeat first | refine goH ?_ | apply LH.here | apply LH.next); refine ⟨_, rfl, (by simp [hN]; try omega), ?_⟩; conv => whnf)
     | (show LC _ _ _ _ _ _; refine rsetW _ 28 (by decide) (by omega) (by decide) (by first | exact csR_rng _ | omega) ?_; (repeat first | refine goH ?_ | apply LH.here | apply LH.next); refine ⟨_, rfl, (by simp [hN]; try omega), ?_⟩; conv => whnf)
     | (show LC _ _ _ _ _ _; refine LC.eq (args' := [AV.vw r 0 20 1]) (by rfl) ?_; refine LC.headB csumT4 ?_; (repeat first | refine goH ?_ | apply LH.here | apply LH.next); refine ⟨_, rfl, (by simp [hN]; try omega), ?_⟩; conv => whnf)
     | (refine And.intro ?_ ?_; (focus (first | (simp [hN]; done) | (simp [hN]; omega) | exact T.kx | exact T.side)))
     | (show LC _ _ _ _ _ _; first | refine LC.pure (hv) ?_ | refine LC.own (hh) ?_ | refine goE ?_)
     | (show AQ _ _; first | (refine AQ.eq (cs' := (headL hd ++ p).map bAV) (app_hd0 (hN.trans (Nat.mul_one _).symm)) ?_))
     | refine T.s ?_
     | ((first | refine goB (fun h => ?_) (fun h => ?_) | refine AB.dec (fun h => ?_) (fun h => ?_) | refine AB.gen (fun h => ?_) (fun h => ?_)) <;> try (exfalso; omega))
     | refine LFresh.mk fun r => ?_
     | (refine dec_yes ?_ ?_; (focus (first | exact .inl rfl | (exact T.num))))
     | (refine dec_no ?_ ?_; (focus (exact T.num)))
     | refine dec_both (fun h => ?_) (fun h => ?_)
     | exact T.z
     | fail) <;> conv => whnf)
   all_goals (try dsimp only)
   all_goals
     rw [bldL_e, hN]
     refine RL.bytes2 ?_
     (repeat first | refine goH ?_ | apply LH.here | apply LH.next)
     exact ⟨rfl, by simp [hN]⟩
 · rw [bldR_s ko (by omega)]
   refine goW [] Tryz.func29 rfl ?_
   conv => whnf
   repeat' ((first
     | (refine And.intro ?_ ?_; (focus (first | (simp [hN]; done) | (simp [hN]; omega) | exact T.kx | exact T.side)))
     | (show LC _ _ _ _ _ _; first | refine LC.pure (hv) ?_ | refine LC.own (hh) ?_ | refine goE ?_)
     | (show AQ _ _; first | (refine AQ.eq (cs' := (headL hd ++ p).map bAV) (app_hd0 (hN.trans (Nat.mul_one _).symm)) ?_))
     | refine T.s ?_
     | ((first | refine goB (fun h => ?_) (fun h => ?_) | refine AB.dec (fun h => ?_) (fun h => ?_) | refine AB.gen (fun h => ?_) (fun h => ?_)) <;> try (exfalso; omega))
     | refine LFresh.mk fun r => ?_
     | (refine dec_yes ?_ ?_; (focus (first | exact .inl rfl | (exact T.num))))
     | (refine dec_no ?_ ?_; (focus (exact T.num)))
     | refine dec_both (fun h => ?_) (fun h => ?_)
     | exact T.z
     | fail) <;> conv => whnf)
   all_goals (try dsimp only)
   all_goals exact RL.nil2
theorem rbuild_c (h : Hd) (p : List UInt8) (hp : p.length ≤ 100000) : LP Tryz.prog G 29 [h.av, bv p] [] (fun _ => (.tup [bv (bldR h p).1, iAV (bldR h p).2], [])) := by
 cases ko : h.ok with
 | true => exact rbuild_g h p ko hp
 | false =>
   have hv := r5valid_c (G := G) h
   rw [ko] at hv
   rw [bldR_n ko]
   refine goW [] Tryz.func29 rfl ?_
   conv => whnf
   repeat' ((first
     | (show LC _ _ _ _ _ _; first | refine LC.pure (hv) ?_ | refine goE ?_)
     | refine T.s ?_
     | ((first | refine goB (fun h => ?_) (fun h => ?_) | refine AB.dec (fun h => ?_) (fun h => ?_) | refine AB.gen (fun h => ?_) (fun h => ?_)) <;> try (exfalso; omega))
     | refine LFresh.mk fun r => ?_
     | (refine dec_yes ?_ ?_; (focus (first | exact .inl rfl | (exact T.num))))
     | (refine dec_no ?_ ?_; (focus (exact T.num)))
     | refine dec_both (fun h => ?_) (fun h => ?_)
     | exact T.z
     | fail) <;> conv => whnf)
   all_goals (try dsimp only)
   all_goals exact RL.nil2
end Go.Proofs.YtkfpgdckdmlhkaaGreatDoor
