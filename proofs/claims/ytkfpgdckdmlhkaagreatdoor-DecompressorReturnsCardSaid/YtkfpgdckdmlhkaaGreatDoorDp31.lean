import Derived.Test.YtkfpgdckdmlhkaaGreatDoorDp30
import Derived.Test.YtkfpgdckdmlhkaaGreatDoorDp22
set_option maxHeartbeats 4000000
namespace Go.Proofs.YtkfpgdckdmlhkaaGreatDoor
open Go.RowKit
set_option linter.all false
variable {G : Nat → AV}
theorem RL.dez {e : Int} {l : LS} : RL (fun _ => (.tup [De.z.av, iAV e], [])) (.tup [.agg [.int .i64 0, .nils], .int .i64 e]) l :=
 RL.frz [] (LF.tup (xs := [.agg [.int .i64 0, .nils], .int .i64 e]) (ys := [De.z.av, iAV e]) ⟨LF.agg (xs := [.int .i64 0, .nils]) (ys := [iAV 0, rcv []]) ⟨LF.eq rfl, LF.nils rfl rfl, trivial⟩, LF.eq rfl, trivial⟩) LB.nil
theorem newR_t {m : Int} (h : 1 ≤ m ∧ m ≤ 3) : newR m = (⟨m, List.replicate 16 Rc.z⟩, 0) := by unfold newR modeR; rw [decide_eq_true h]; rfl
theorem newR_f {m : Int} (h : ¬ (1 ≤ m ∧ m ≤ 3)) : newR m = (De.z, 3) := by unfold newR modeR; rw [decide_eq_false h]; rfl
theorem RL.de16 {m : Int} {q : Nm} {l : LS} (h : LH l q fun c _ _ => c.cs = (List.replicate 16 Rc.z).flatMap Rc.cs) : RL (fun _ => (.tup [De.av ⟨m, List.replicate 16 Rc.z⟩, iAV 0], [])) (.tup [.agg [.int .i64 m, .vw q 0 16 19], .int .i64 0]) l := by
 obtain ⟨l1, c, l2, rfl, h1⟩ := h.ex
 exact RL.frz [q] (LF.tup (xs := [.agg [.int .i64 m, .vw q 0 16 19], .int .i64 0]) (ys := [De.av ⟨m, List.replicate 16 Rc.z⟩, iAV 0]) ⟨LF.agg (xs := [.int .i64 m, .vw q 0 16 19]) (ys := [iAV m, rcv (List.replicate 16 Rc.z)]) ⟨LF.eq rfl, LF.row InL.here ⟨l1, c, l2, rfl, by decide, by rw [h1, fm_len Rc.cs_len]; rfl, by simp, h1.symm⟩, trivial⟩, LF.eq rfl, trivial⟩) ⟨l1, c, l2, rfl, LB.nil⟩
theorem rcs_one (l : List Rc) : ((l.flatMap Rc.cs).all AV.one) = true := by
 induction l with
 | nil => rfl
 | cons x l ih => rw [List.flatMap_cons, List.all_append, ih]; rfl
open Go.RowKit
variable {G : Nat → AV}
theorem dknown_c (m : Int) : LP Tryz.prog G 33 [iAV m] [] (fun _ => (.bool (modeR m), [])) := by
 refine goW [] Tryz.func33 rfl ?_
 conv => whnf
 repeat' ((first
   | refine T.s ?_
   | ((first | refine goB (fun h => ?_) (fun h => ?_) | refine AB.dec (fun h => ?_) (fun h => ?_) | refine AB.gen (fun h => ?_) (fun h => ?_)) <;> try (exfalso; omega))
   | refine LFresh.mk fun r => ?_
   | exact T.z
   | fail) <;> conv => whnf)
 all_goals (try dsimp only)
 all_goals
   (show RL _ _ _; refine goR ?_)
   refine congrArg AV.bool ?_
   rw [Bool.eq_iff_iff]
   simp [modeR, icmp, *]
theorem rc_er3 {r : Rc} (h : 3 ≤ r.er) : r.ok = false := rc_er (.inr (by omega))
theorem rc_so {r : Rc} (h0 : ¬ r.st = 0) (h1 : ¬ r.st = 1) (h2 : ¬ r.st = 2) : r.ok = false := by unfold Rc.ok; rw [if_neg h0, if_neg (by omega)]; simp
theorem dctx_c (rc : Rc) : LP Tryz.prog G 36 [rc.av] [] (fun _ => (.bool rc.ok, [])) := by
 have hz := Hd.eqz rc.la
 have hd := Dy.eqz rc.dy
 refine goW [] Tryz.func36 rfl ?_
 conv => whnf
 repeat' ((first
   | (show LC _ _ _ _ _ _; first | refine LC.pure (pvalid_c rc.la) ?_ | refine LC.pure (fvalid_c rc.dy) ?_ | refine goE ?_)
   | refine T.s ?_
   | ((first | refine goB (fun h => ?_) (fun h => ?_) | refine AB.dec (fun h => ?_) (fun h => ?_) | refine AB.gen (fun h => ?_) (fun h => ?_)) <;> try (exfalso; omega))
   | refine LFresh.mk fun r => ?_
   | exact T.z
   | fail) <;> conv => whnf)
 all_goals (try dsimp only)
 all_goals first
   | ((show RL _ _ _; refine goR ?_); rw [rc_er (.inl (by assumption))])
   | ((show RL _ _ _; refine goR ?_); rw [rc_er3 (by assumption)])
   | ((show RL _ _ _; refine goR ?_); rw [rc_so (by assumption) (by assumption) (by assumption)])
   | ((show RL _ _ _; refine goR ?_); rw [rc_0 (by omega) (by assumption), ← hz, hd]; simp_all; done)
   | ((show RL _ _ _; refine goR ?_); rw [rc_1 (by omega) (by omega)]; simp_all; done)
   | trace_state
theorem dvc_c (rc : Rc) : LP Tryz.prog G 35 [rc.av] [] (fun _ => (.bool (!rc.ok), [])) := by
 refine goW [] Tryz.func35 rfl ?_
 conv => whnf
 repeat' ((first
   | (show LC _ _ _ _ _ _; first | refine LC.pure (dctx_c rc) ?_ | refine goE ?_)
   | refine T.s ?_
   | ((first | refine goB (fun h => ?_) (fun h => ?_) | refine AB.dec (fun h => ?_) (fun h => ?_) | refine AB.gen (fun h => ?_) (fun h => ?_)) <;> try (exfalso; omega))
   | refine LFresh.mk fun r => ?_
   | exact T.z
   | fail) <;> conv => whnf)
 all_goals (try dsimp only)
 all_goals
   (show RL _ _ _; refine goR ?_)
   rfl
theorem dnew_c (m : Int) : LP Tryz.prog G 9 [iAV m] [] (fun _ => (.tup [(newR m).1.av, iAV (newR m).2], [])) := by
 have hk := dknown_c (G := G) m
 by_cases h0 : 1 ≤ m ∧ m ≤ 3
 · rw [newR_t h0]
   rw [show modeR m = true from decide_eq_true h0] at hk
   refine goW [] Tryz.func9 rfl ?_
   conv => whnf
   repeat' ((first
     | (show LC _ _ _ _ _ _; first | refine LC.pure (hk) ?_ | refine goE ?_)
     | (show AQ _ _; first | (with_reducible show AQ (zcells _ _) _; refine AQ.eq (cs' := (List.replicate 16 Rc.z).flatMap Rc.cs) (by kernel_rfl) ?_))
     | refine T.s ?_
     | ((first | refine goB (fun h => ?_) (fun h => ?_) | refine AB.dec (fun h => ?_) (fun h => ?_) | refine AB.gen (fun h => ?_) (fun h => ?_)) <;> try (exfalso; omega))
     | refine LFresh.mk fun r => ?_
     | exact T.z
     | fail) <;> conv => whnf)
   all_goals (try dsimp only)
   all_goals
     refine RL.de16 ?_
     (repeat first | refine goH ?_ | apply LH.here | apply LH.next)
     rfl
 · rw [newR_f h0]
   rw [show modeR m = false from decide_eq_false h0] at hk
   refine goW [] Tryz.func9 rfl ?_
   conv => whnf
   repeat' ((first
     | (show LC _ _ _ _ _ _; first | refine LC.pure (hk) ?_ | refine goE ?_)
     | refine T.s ?_
     | ((first | refine goB (fun h => ?_) (fun h => ?_) | refine AB.dec (fun h => ?_) (fun h => ?_) | refine AB.gen (fun h => ?_) (fun h => ?_)) <;> try (exfalso; omega))
     | refine LFresh.mk fun r => ?_
     | exact T.z
     | fail) <;> conv => whnf)
   all_goals (try dsimp only)
   all_goals exact RL.dez
theorem gidx_take {α : Type} {p : α → Bool} (l : List α) (i : Nat) (d : α) (h : i < l.length) : (l.take (i + 1)).findIdx? p = ((l.take i).findIdx? p).or (if p (l.getD i d) = true then some i else none) := by
 rw [List.take_succ_eq_append_getElem h, List.findIdx?_append]
 have e : l[i] = l.getD i d := by simp [List.getD_eq_getElem?_getD, h]
 rw [e, List.findIdx?_singleton]
 congr 1
 split
 · simp; omega
 · rfl
theorem gidx_hit {α : Type} {p : α → Bool} (l : List α) (i : Nat) (d : α) (h : i < l.length) (h0 : (l.take i).findIdx? p = none) (hp : p (l.getD i d) = true) : l.findIdx? p = some i := by
 have e : l = l.take (i + 1) ++ l.drop (i + 1) := (List.take_append_drop _ _).symm
 rw [e, List.findIdx?_append, gidx_take l i d h, h0, if_pos hp]
 rfl
theorem gidx_n {α : Type} {p : α → Bool} {l : List α} {i : Nat} (d : α) (h : i < l.length) (h0 : (l.take i).findIdx? p = none) (hp : p (l.getD i d) = false) : (l.take (i + 1)).findIdx? p = none := by
 rw [gidx_take l i d h, h0, if_neg (by rw [hp]; decide)]; rfl
theorem gidx_e {α : Type} {p : α → Bool} {l : List α} {i : Nat} (h : l.length ≤ i) (h0 : (l.take i).findIdx? p = none) : l.findIdx? p = none := by rwa [List.take_of_length_le h] at h0
def badP (r : Rc) : Bool := !r.ok
theorem bad_f {r : Rc} (h : r.ok = true) : badP r = false := by unfold badP; rw [h]; rfl
theorem bad_t {r : Rc} (h : r.ok = false) : badP r = true := by unfold badP; rw [h]; rfl
theorem didx_c (l : List Rc) (hl : l.length ≤ 100000) : LP Tryz.prog G 78 [rcv l, .clo (.func 35) [] []] [] (fun _ => (iAV (optI (l.findIdx? badP)), [])) := by
 have hp : ∀ i : Nat, LP Tryz.prog G 35 [(l.getD i Rc.z).av] [] (fun _ => (.bool (badP (l.getD i Rc.z)), [])) := fun i => dvc_c _
 refine goW [] Tryz.func78 rfl ?_
 conv => whnf
 repeat' ((first
   | (refine And.intro ?_ ?_; (focus (first | exact rec_le Rc.cs_len (by assumption) | exact T.kx | exact T.side)))
   | (show LC _ _ _ _ _ _; first | refine LC.pure (hp i) ?_ | refine goE ?_)
   | (show AC _ _ _; first | (refine AC.recd Rc.cs_len i Rc.z rfl rfl ?_ ?_; (focus omega)))
   | refine T.s ?_
   | ((first | refine goB (fun h => ?_) (fun h => ?_) | refine AB.dec (fun h => ?_) (fun h => ?_) | refine AB.gen (fun h => ?_) (fun h => ?_)) <;> try (exfalso; omega))
   | refine LFresh.mk fun r => ?_
   | (show SQ _ _ _ (.loop _) _ _ _; first | (apply goO tQ [] 2 (S := Nat) [0, 1, 7] (fun i => ⟨[(8, .int .i64 i)], [], i ≤ l.length ∧ (l.take i).findIdx? badP = none, l.length - i⟩) (0) (by rfl); (focus (all_goals (try exact K790); done)); rintro i hok; (try dsimp only at hok); (repeat (have hk := And.left hok; replace hok := And.right hok))))
   | (show AtL _ _ _ _ _ _ _ _ _ _; first | (apply AtL.mk' (id := 2) (S := Nat) (i + 1); all_goals (try exact K790); done) | (apply AtL.mk' (id := 2) (S := Nat) (i + 1); all_goals (try exact K790)))
   | exact T.z
   | fail) <;> conv => whnf)
 all_goals (try dsimp only)
 all_goals first
   | ((show RL _ _ _; refine goR ?_); rw [gidx_hit l i Rc.z (by omega) hok (bad_t (by assumption))]; rfl)
   | ((show RL _ _ _; refine goR ?_); rw [gidx_e (by omega) hok]; rfl)
   | trace_state
theorem bad_e (l : List Rc) : (!decide (0 ≤ optI (l.findIdx? badP))) = l.all Rc.ok := by
 have e : l.all Rc.ok = !(l.any badP) := by
   rw [Bool.eq_iff_iff]
   simp [badP, List.any_eq_true, List.all_eq_true]
 rw [e]
 cases h : l.findIdx? badP with
 | none =>
   have : l.any badP = false := by
     rw [List.findIdx?_eq_none_iff] at h
     rw [Bool.eq_false_iff]
     intro hh
     obtain ⟨x, hx, hb⟩ := List.any_eq_true.1 hh
     rw [h x hx] at hb
     cases hb
   rw [this]; rfl
 | some j =>
   have : l.any badP = true := by
     rw [List.findIdx?_eq_some_iff_getElem] at h
     obtain ⟨h1, h2, -⟩ := h
     exact List.any_eq_true.2 ⟨_, List.getElem_mem h1, h2⟩
   rw [this]
   simp [optI]
theorem dcont_c (l : List Rc) (hl : l.length ≤ 100000) : LP Tryz.prog G 34 [rcv l, .clo (.func 35) [] []] [] (fun _ => (.bool (decide (0 ≤ optI (l.findIdx? badP))), [])) := by
 refine goW [] Tryz.func34 rfl ?_
 conv => whnf
 repeat' ((first
   | (show LC _ _ _ _ _ _; first | refine LC.pure (didx_c l hl) ?_ | refine goE ?_)
   | refine T.s ?_
   | ((first | refine goB (fun h => ?_) (fun h => ?_) | refine AB.dec (fun h => ?_) (fun h => ?_) | refine AB.gen (fun h => ?_) (fun h => ?_)) <;> try (exfalso; omega))
   | refine LFresh.mk fun r => ?_
   | exact T.z
   | fail) <;> conv => whnf)
 all_goals (try dsimp only)
 all_goals
   (show RL _ _ _; refine goR ?_)
   rfl
theorem clo_lit {σ : Store} {w : World} {f : Nat} {x : AV} {vs : Array Value} (h : RdL σ w [x, .lit (.func (.func f) #[] #[])] vs) : RdL σ w [x, .clo (.func f) [] []] vs := ⟨h.1, fun i hi => match i, hi with
 | 0, _ => h.2 0 (by simp)
 | 1, _ => by
   have h1 := h.2 1 (by simp)
   simp only [List.getD_cons_succ, List.getD_cons_zero] at h1 ⊢
   generalize vs.getD 1 undef = u at h1
   cases h1
   exact .clo _ _ _ _ _ rfl rfl (fun i hi => by simp at hi) (fun i hi => by simp at hi)⟩
theorem dcont_l (l : List Rc) (hl : l.length ≤ 100000) : LP Tryz.prog G 34 [rcv l, .lit (.func (.func 35) #[] #[])] [] (fun _ => (.bool (decide (0 ≤ optI (l.findIdx? badP))), [])) := (dcont_c l hl).warg fun _ _ _ h => clo_lit h
theorem dvalid_c (d : De) : LP Tryz.prog G 13 [d.av] [] (fun _ => (.bool d.ok, [])) := by
 have hk := dknown_c (G := G) d.m
 by_cases h0 : 1 ≤ d.m ∧ d.m ≤ 3
 · rw [show modeR d.m = true from decide_eq_true h0] at hk
   by_cases h1 : d.cx.length = 16
   · rw [deok h0 h1, ← bad_e]
     refine goW [] Tryz.func13 rfl ?_
     conv => whnf
     repeat' ((first
       | (show LC _ _ _ _ _ _; first | refine LC.pure (hk) ?_ | refine LC.pure (dcont_l d.cx (by omega)) ?_ | refine goE ?_)
       | refine T.s ?_
       | ((first | refine goB (fun h => ?_) (fun h => ?_) | refine AB.dec (fun h => ?_) (fun h => ?_) | refine AB.gen (fun h => ?_) (fun h => ?_)) <;> try (exfalso; omega))
       | refine LFresh.mk fun r => ?_
       | exact T.z
       | fail) <;> conv => whnf)
     all_goals (try dsimp only)
     all_goals first
       | (exfalso; omega)
       | ((show RL _ _ _; refine goR ?_); rfl)
       | trace_state
   · rw [deok_f fun h => h1 h.2]
     refine goW [] Tryz.func13 rfl ?_
     conv => whnf
     repeat' ((first
       | (show LC _ _ _ _ _ _; first | refine LC.pure (hk) ?_ | refine goE ?_)
       | refine T.s ?_
       | ((first | refine goB (fun h => ?_) (fun h => ?_) | refine AB.dec (fun h => ?_) (fun h => ?_) | refine AB.gen (fun h => ?_) (fun h => ?_)) <;> try (exfalso; omega))
       | refine LFresh.mk fun r => ?_
       | exact T.z
       | fail) <;> conv => whnf)
     all_goals (try dsimp only)
     all_goals first
       | ((show RL _ _ _; refine goR ?_); rfl)
       | (exfalso; omega)
       | trace_state
 · rw [show modeR d.m = false from decide_eq_false h0] at hk
   rw [deok_f fun h => h0 h.1]
   refine goW [] Tryz.func13 rfl ?_
   conv => whnf
   repeat' ((first
     | (show LC _ _ _ _ _ _; first | refine LC.pure (hk) ?_ | refine goE ?_)
     | refine T.s ?_
     | ((first | refine goB (fun h => ?_) (fun h => ?_) | refine AB.dec (fun h => ?_) (fun h => ?_) | refine AB.gen (fun h => ?_) (fun h => ?_)) <;> try (exfalso; omega))
     | refine LFresh.mk fun r => ?_
     | exact T.z
     | fail) <;> conv => whnf)
   all_goals (try dsimp only)
   all_goals
     (show RL _ _ _; refine goR ?_)
     rfl
open Go.RowKit
variable {G : Nat → AV}
theorem AC.sub {agg : Bool} {α : Type} {f : α → List AV} {n : Nat} {l : List α} {o m : Nat} {K : AV → Prop} (hf : ∀ x, (f x).length = n) (i j : Nat) (d : α) (v : AV) (ho : o = i * n + j) (hj : j + m ≤ n) (h : i < l.length) (hv : mkv agg (((f (l.getD i d)).drop j).take m) = v) (k : K v) : AC agg (((l.flatMap f).drop o).take m) K := ⟨by
 subst ho
 rw [← List.drop_drop, fm_at hf l i d h, List.drop_append_of_le_length (by rw [hf]; omega), List.take_append_of_le_length (by simp [hf]; omega), hv]
 exact k⟩
theorem sub_le {α : Type} {f : α → List AV} {n i j m : Nat} {l : List α} (hf : ∀ x, (f x).length = n) (h : i < l.length) (hj : j + m ≤ n) : i * n + j + m ≤ (l.flatMap f).length := by
 rw [fm_len hf]
 have := Nat.mul_le_mul_right n (show i + 1 ≤ l.length from h)
 rw [Nat.succ_mul] at this
 omega
@[reducible] def wkC (m c : Int) (s : Sm) (a : AV) (q : Nm) (o : Nat) : List AV := [iAV m, iAV c, iAV s.cx, iAV s.f, iAV s.n, iAV s.tm, iAV s.mr, iAV s.id, iAV s.ud, iAV s.h.k, iAV s.h.tos, iAV s.h.id, iAV s.h.fx, iAV s.h.ttl, iAV s.h.fr, iAV s.h.to, iAV s.h.fp, iAV s.h.tp, iAV s.h.ck, iAV s.h.mr, iAV s.h.ty, iAV s.h.sq, iAV s.h.tm, iAV s.h.sr, iAV s.d.st, iAV s.d.fo, iAV s.ck, a, .ptr q o]
theorem wfb_c (w q : Nm) (hne : w ≠ q) (l : List Rc) (i : Nat) (hi : i < l.length) (m c : Int) (s : Sm) (a : AV) (k : Int) : LP Tryz.prog G 104 [.ptr w 0, iAV k] [(w, ⟨112, wkC m c s a q (i * 19)⟩), (q, ⟨71, l.flatMap Rc.cs⟩)] (fun _ => (fbv [⟨c, k, (l.getD i Rc.z).la.num⟩], [(w, ⟨112, wkC m c s a q (i * 19)⟩), (q, ⟨71, l.flatMap Rc.cs⟩)])) := by
 refine goW [] Tryz.func104 rfl ?_
 conv => whnf
 repeat' ((first
   | exact Nm.b 0
   | (refine And.intro ?_ ?_; (focus (first | exact sub_le Rc.cs_len hi (by decide) | exact T.kx | exact T.side)))
   | (show LC _ _ _ _ _ _; first | refine LC.pure (fnum_c _) ?_ | refine goE ?_)
   | (show AC _ _ _; first | (refine AC.sub Rc.cs_len i 1 Rc.z _ rfl (by decide) hi rfl ?_))
   | refine T.s ?_
   | ((first | refine goB (fun h => ?_) (fun h => ?_) | refine AB.dec (fun h => ?_) (fun h => ?_) | refine AB.gen (fun h => ?_) (fun h => ?_)) <;> try (exfalso; omega))
   | refine LFresh.mk fun r => ?_
   | (show SQ _ _ _ _ _ _ _; first | refine gX 1 [3, 12] [0, 1, 2, 3, 4, 5, 6, 7, 8, 9, 10, 11, 12, 13, 14, 15] [] ?_)
   | exact T.z
   | fail) <;> conv => whnf)
 all_goals (try dsimp only)
 all_goals exact RL.frz [r] (LF.row InL.here (.here ⟨by decide, rfl, rfl, rfl⟩)) (.here (LB.cons (.here ⟨rfl, LB.cons (.here ⟨rfl, LB.nil⟩)⟩)))
theorem wcomp_c (w q : Nm) (hne : w ≠ q) (l : List Rc) (i : Nat) (hi : i < l.length) (m c : Int) (s : Sm) (a : AV) : LP Tryz.prog G 64 [.ptr w 0] [(w, ⟨112, wkC m c s a q (i * 19)⟩), (q, ⟨71, l.flatMap Rc.cs⟩)] (fun _ => (fbv (compR m c (l.getD i Rc.z)), [(w, ⟨112, wkC m c s a q (i * 19)⟩), (q, ⟨71, l.flatMap Rc.cs⟩)])) := by
 refine goW [] Tryz.func64 rfl ?_
 conv => whnf
 repeat' ((first
   | (refine And.intro ?_ ?_; (focus (first | exact sub_le (j := 0) Rc.cs_len hi (by decide) | exact T.kx | exact T.side)))
   | (show LC _ _ _ _ _ _; first | (apply LC.twoK (fun hne => wfb_c w q hne l i hi m c s a _); (repeat first | refine goH ?_ | apply LH.here | apply LH.next); refine ⟨rfl, ?_⟩; (repeat first | refine goH ?_ | apply LH.here | apply LH.next); refine ⟨rfl, ?_⟩; (repeat first | refine goH ?_ | apply LH.here | apply LH.next)) | refine goE ?_)
   | (show AC _ _ _; first | (refine AC.sub Rc.cs_len i 0 Rc.z _ rfl (by decide) hi rfl ?_))
   | refine T.s ?_
   | ((first | refine goB (fun h => ?_) (fun h => ?_) | refine AB.dec (fun h => ?_) (fun h => ?_) | refine AB.gen (fun h => ?_) (fun h => ?_)) <;> try (exfalso; omega))
   | refine LFresh.mk fun r => ?_
   | exact T.z
   | fail) <;> conv => whnf)
 all_goals (try dsimp only)
 · rw [show compR m c (l.getD i Rc.z) = [] from if_pos h]
   exact RL.frz [] (LF.nils rfl rfl) (LB.cons (.here ⟨rfl, LB.cons (.here ⟨rfl, LB.nil⟩)⟩))
 · rw [show compR m c (l.getD i Rc.z) = [⟨c, 2, (l.getD i Rc.z).la.num⟩] from (if_neg (by assumption)).trans (if_pos h)]
   (show RL _ _ _; refine goR ?_)
   all_goals rfl
 · rw [show compR m c (l.getD i Rc.z) = [⟨c, 1, (l.getD i Rc.z).la.num⟩] from (if_neg (by assumption)).trans (if_neg h)]
   (show RL _ _ _; refine goR ?_)
   all_goals rfl
theorem wnum_c (w q : Nm) (hne : w ≠ q) (l : List Rc) (i : Nat) (hi : i < l.length) (m c : Int) (s : Sm) (a : AV) : LP Tryz.prog G 107 [.ptr w 0] [(w, ⟨112, wkC m c s a q (i * 19)⟩), (q, ⟨71, l.flatMap Rc.cs⟩)] (fun _ => (iAV (numD (l.getD i Rc.z) s), [(w, ⟨112, wkC m c s a q (i * 19)⟩), (q, ⟨71, l.flatMap Rc.cs⟩)])) := by
 refine goW [] Tryz.func107 rfl ?_
 conv => whnf
 repeat' ((first
   | exact Nm.b 0
   | (refine And.intro ?_ ?_; (focus (first | exact sub_le Rc.cs_len hi (by decide) | exact T.kx | exact T.side)))
   | (show LC _ _ _ _ _ _; first | refine LC.pure (fnum_c _) ?_ | refine LC.pure (nbits_c _ _) ?_ | refine LC.pure (ldecode_c _ _ _ _) ?_ | refine goE ?_)
   | (show AC _ _ _; first | (refine AC.sub Rc.cs_len i 1 Rc.z _ rfl (by decide) hi rfl ?_))
   | refine T.s ?_
   | ((first | refine goB (fun h => ?_) (fun h => ?_) | refine AB.dec (fun h => ?_) (fun h => ?_) | refine AB.gen (fun h => ?_) (fun h => ?_)) <;> try (exfalso; omega))
   | refine LFresh.mk fun r => ?_
   | (show SQ _ _ _ _ _ _ _; first | refine gX 4 [12, 19, 7, 14] [0, 1, 2, 3, 4, 5, 6, 8, 9, 10, 11, 12, 13, 15, 16, 17, 18, 19, 7, 14, 20, 21, 22, 23, 24, 25] [] ?_)
   | exact T.z
   | fail) <;> conv => whnf)
 all_goals (try dsimp only)
 · rw [show numD (l.getD i Rc.z) s = s.n from if_pos ⟨by assumption, h⟩]
   (show RL _ _ _; refine goR ?_)
   all_goals rfl
 · rw [show numD (l.getD i Rc.z) s = (lsbR 16 (l.getD i Rc.z).la.num (wid s.f (l.getD i Rc.z).la.k 0) s.n).1 from if_neg (fun e => h e.2)]
   (show RL _ _ _; refine goR ?_)
   all_goals rfl
 · rw [show numD (l.getD i Rc.z) s = (lsbR 16 (l.getD i Rc.z).la.num (wid s.f (l.getD i Rc.z).la.k 0) s.n).1 from if_neg (fun e => h e.1)]
   (show RL _ _ _; refine goR ?_)
   all_goals rfl
end Go.Proofs.YtkfpgdckdmlhkaaGreatDoor
