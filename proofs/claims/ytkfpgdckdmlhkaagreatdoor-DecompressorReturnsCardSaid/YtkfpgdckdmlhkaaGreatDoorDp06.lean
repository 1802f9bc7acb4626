import Derived.Test.YtkfpgdckdmlhkaaGreatDoorDp05
set_option maxHeartbeats 2000000
namespace Go.Proofs.YtkfpgdckdmlhkaaGreatDoor
open Go.RowKit
set_option linter.all false
variable {G : Nat → AV}
structure Hd where
 k : Int
 tos : Int
 id : Int
 fx : Int
 ttl : Int
 fr : Int
 to : Int
 fp : Int
 tp : Int
 ck : Int
 mr : Int
 ty : Int
 sq : Int
 tm : Int
 sr : Int
 deriving DecidableEq
@[reducible] def Hd.av (h : Hd) : AV := .agg [iAV h.k, iAV h.tos, iAV h.id, iAV h.fx, iAV h.ttl, iAV h.fr, iAV h.to, iAV h.fp, iAV h.tp, iAV h.ck, iAV h.mr, iAV h.ty, iAV h.sq, iAV h.tm, iAV h.sr]
def inR (n m : Int) : Bool := decide (0 ≤ n ∧ n ≤ m)
theorem inR_t {n m : Int} (h : 0 ≤ n ∧ n ≤ m) : inR n m = true := decide_eq_true h
theorem inR_f {n m : Int} (h : ¬ (0 ≤ n ∧ n ≤ m)) : inR n m = false := decide_eq_false h
def comR (h : Hd) : Bool := inR h.tos 255 && (inR h.ttl 255 && (inR h.id 65535 && (inR h.fp 65535 && (inR h.tp 65535 && (inR h.ck 65535 && (inR h.fx 1 && (inR h.fr 4294967295 && inR h.to 4294967295)))))))
def udpR (h : Hd) : Bool := decide (h.mr = 0 ∧ h.ty = 0 ∧ h.sq = 0 ∧ h.tm = 0 ∧ h.sr = 0)
def rtpR (h : Hd) : Bool := inR h.mr 1 && (inR h.ty 127 && (inR h.sq 65535 && (inR h.tm 4294967295 && inR h.sr 4294967295)))
def Hd.ok (h : Hd) : Bool := if h.k = 1 then comR h && udpR h else if h.k = 2 then comR h && rtpR h else false
theorem in5_c (n m : Int) : LP Tryz.prog G 81 [iAV n, iAV m] [] (fun _ => (.bool (inR n m), [])) := by
 refine goW [] Tryz.func81 rfl ?_
 conv => whnf
 repeat' ((first
   | refine T.s ?_
   | ((first | refine goB (fun h => ?_) (fun h => ?_) | refine AB.dec (fun h => ?_) (fun h => ?_) | refine AB.gen (fun h => ?_) (fun h => ?_)) <;> try (exfalso; omega))
   | refine LFresh.mk fun r => ?_
   | exact T.z
   | fail) <;> conv => whnf)
 all_goals (try dsimp only)
 all_goals
   (show RL _ _ _; refine goR ?_)
   simp [inR, icmp, *]
theorem in8_c (n m : Int) : LP Tryz.prog G 117 [iAV n, iAV m] [] (fun _ => (.bool (inR n m), [])) := by
 refine goW [] Tryz.func117 rfl ?_
 conv => whnf
 repeat' ((first
   | refine T.s ?_
   | ((first | refine goB (fun h => ?_) (fun h => ?_) | refine AB.dec (fun h => ?_) (fun h => ?_) | refine AB.gen (fun h => ?_) (fun h => ?_)) <;> try (exfalso; omega))
   | refine LFresh.mk fun r => ?_
   | exact T.z
   | fail) <;> conv => whnf)
 all_goals (try dsimp only)
 all_goals
   (show RL _ _ _; refine goR ?_)
   simp [inR, icmp, *]
def allIn (g : Int) (l : List Int) : Bool := l.all fun x => inR x g
theorem allIn_take (g : Int) (l : List Int) (i : Nat) (h : i < l.length) : allIn g (l.take (i + 1)) = (allIn g (l.take i) && inR (l.getD i 0) g) := by
 unfold allIn
 rw [List.take_succ_eq_append_getElem h, List.all_append]
 simp [List.getD_eq_getElem?_getD, h]
theorem allIn_bad (g : Int) (l : List Int) (i : Nat) (h : i < l.length) (hb : inR (l.getD i 0) g = false) : allIn g l = false := by
 have h1 := allIn_take g l i h
 rw [hb, Bool.and_false] at h1
 cases hc : allIn g l with
 | false => rfl
 | true =>
   unfold allIn at hc h1
   have h2 : ((l.take (i + 1)).all fun x => inR x g) = true := by
     rw [List.all_eq_true] at hc ⊢
     exact fun x hx => hc x (List.mem_of_mem_take hx)
   rw [h1] at h2
   cases h2
theorem upto_c (g : Int) (l : List Int) (hl : l.length ≤ 1000) : LP Tryz.prog G 115 [iAV g, iv l] [] (fun _ => (.bool (allIn g l), [])) := by
 refine goW [] Tryz.func115 rfl ?_
 conv => whnf
 repeat' ((first
   | (show AC _ _ _; first | (refine AC.idx (i) (0) ?_ ?_ ?_; (focus (first | exact rfl | (simp; done) | (simp; omega))); (focus (first | omega | exact T.side))))
   | refine T.s ?_
   | ((first | refine goB (fun h => ?_) (fun h => ?_) | refine AB.dec (fun h => ?_) (fun h => ?_) | refine AB.gen (fun h => ?_) (fun h => ?_)) <;> try (exfalso; omega))
   | refine LFresh.mk fun r => ?_
   | (show SQ _ _ _ (.loop _) _ _ _; first | (apply goO tQ [] 2 (S := Nat) [0, 7, 8] (fun i => ⟨[(9, .int .i64 i)], [], i ≤ l.length ∧ allIn g (l.take i) = true, l.length - i⟩) (0) (by rfl); (focus (all_goals (try exact KF74); done)); rintro i hok; (try dsimp only at hok); (repeat (have hk := And.left hok; replace hok := And.right hok))))
   | (show AtL _ _ _ _ _ _ _ _ _ _; first | (apply AtL.mk' (id := 2) (S := Nat) (i + 1); all_goals (try exact KF74); done) | (apply AtL.mk' (id := 2) (S := Nat) (i + 1); all_goals (try exact KF74)))
   | exact T.z
   | fail) <;> conv => whnf)
 all_goals (try dsimp only)
 · (show RL _ _ _; refine goR ?_)
   rw [allIn_bad g l i (by omega) (inR_f (by omega))]
 · (show RL _ _ _; refine goR ?_)
   rw [allIn_bad g l i (by omega) (inR_f (by omega))]
 · (show RL _ _ _; refine goR ?_)
   rw [← hok, List.take_of_length_le (by omega)]
structure Dy where
 st : Int
 fo : Int
 deriving DecidableEq
@[reducible] def Dy.av (d : Dy) : AV := .agg [iAV d.st, iAV d.fo]
def Dy.ok (d : Dy) : Bool := inR d.st 65535 && decide (d.fo = 0 ∨ d.fo = 1)
theorem fvalid_c (d : Dy) : LP Tryz.prog G 80 [d.av] [] (fun _ => (.bool d.ok, [])) := by
 refine goW [] Tryz.func80 rfl ?_
 conv => whnf
 repeat' ((first
   | refine T.s ?_
   | ((first | refine goB (fun h => ?_) (fun h => ?_) | refine AB.dec (fun h => ?_) (fun h => ?_) | refine AB.gen (fun h => ?_) (fun h => ?_)) <;> try (exfalso; omega))
   | refine LFresh.mk fun r => ?_
   | exact T.z
   | fail) <;> conv => whnf)
 all_goals (try dsimp only)
 all_goals
   (show RL _ _ _; refine goR ?_)
   refine congrArg AV.bool ?_
   rw [Bool.eq_iff_iff]
   simp [Dy.ok, inR, icmp, *]
theorem r6valid_c (d : Dy) : LP Tryz.prog G 38 [d.av] [] (fun _ => (.bool d.ok, [])) := by
 refine goW [] Tryz.func38 rfl ?_
 conv => whnf
 repeat' ((first
   | refine T.s ?_
   | ((first | refine goB (fun h => ?_) (fun h => ?_) | refine AB.dec (fun h => ?_) (fun h => ?_) | refine AB.gen (fun h => ?_) (fun h => ?_)) <;> try (exfalso; omega))
   | refine LFresh.mk fun r => ?_
   | exact T.z
   | fail) <;> conv => whnf)
 all_goals (try dsimp only)
 all_goals
   (show RL _ _ _; refine goR ?_)
   refine congrArg AV.bool ?_
   rw [Bool.eq_iff_iff]
   simp [Dy.ok, inR, icmp, *]
def Hd.static (h : Hd) : Hd := ⟨h.k, 0, 0, 0, 0, h.fr, h.to, h.fp, h.tp, 0, 0, 0, 0, 0, h.sr⟩
theorem fstatic_c (h : Hd) : LP Tryz.prog G 147 [h.av] [] (fun _ => (h.static.av, [])) := by
 refine goW [] Tryz.func147 rfl ?_
 conv => whnf
 repeat' ((first
   | refine T.s ?_
   | ((first | refine goB (fun h => ?_) (fun h => ?_) | refine AB.dec (fun h => ?_) (fun h => ?_) | refine AB.gen (fun h => ?_) (fun h => ?_)) <;> try (exfalso; omega))
   | refine LFresh.mk fun r => ?_
   | exact T.z
   | fail) <;> conv => whnf)
 all_goals (try dsimp only)
 (show RL _ _ _; refine goR ?_)
 rfl
theorem r6static_c (h : Hd) : LP Tryz.prog G 76 [h.av] [] (fun _ => (h.static.av, [])) := by
 refine goW [] Tryz.func76 rfl ?_
 conv => whnf
 repeat' ((first
   | refine T.s ?_
   | ((first | refine goB (fun h => ?_) (fun h => ?_) | refine AB.dec (fun h => ?_) (fun h => ?_) | refine AB.gen (fun h => ?_) (fun h => ?_)) <;> try (exfalso; omega))
   | refine LFresh.mk fun r => ?_
   | exact T.z
   | fail) <;> conv => whnf)
 all_goals (try dsimp only)
 (show RL _ _ _; refine goR ?_)
 rfl
theorem r5valid_c (x : Hd) : LP Tryz.prog G 37 [x.av] [] (fun _ => (.bool x.ok, [])) := by
 refine goW [] Tryz.func37 rfl ?_
 conv => whnf
 repeat' ((first
   | (show LC _ _ _ _ _ _; first | refine LC.pure (in5_c _ _) ?_ | refine goE ?_)
   | refine T.s ?_
   | ((first | refine goB (fun h => ?_) (fun h => ?_) | refine AB.dec (fun h => ?_) (fun h => ?_) | refine AB.gen (fun h => ?_) (fun h => ?_)) <;> try (exfalso; omega))
   | refine LFresh.mk fun r => ?_
   | exact T.z
   | fail) <;> conv => whnf)
 all_goals (try dsimp only)
 all_goals
   (show RL _ _ _; refine goR ?_)
   refine congrArg AV.bool ?_
   rw [Bool.eq_iff_iff]
   simp [Hd.ok, comR, udpR, rtpR, inR, icmp, *]
theorem pvalid_c (x : Hd) : LP Tryz.prog G 79 [x.av] [] (fun _ => (.bool x.ok, [])) := by
 refine goW [1] Tryz.func79 rfl ?_
 conv => whnf
 repeat' ((first
   | (show LC _ _ _ _ _ _; refine LC.rowI (fun zs hz => upto_c _ zs (by omega)) ?_; conv => whnf)
   | refine T.s ?_
   | ((first | refine goB (fun h => ?_) (fun h => ?_) | refine AB.dec (fun h => ?_) (fun h => ?_) | refine AB.gen (fun h => ?_) (fun h => ?_)) <;> try (exfalso; omega))
   | refine LFresh.mk fun r => ?_
   | (show CutL _ _ _ _ _ _ _ _; first | (refine goK tQ [1] 1 (S := Nm) [] (fun p => ⟨[(3, .bool (comR x)), (1, .ptr p 0)], [(p, ⟨65, [iAV x.k, iAV x.tos, iAV x.id, iAV x.fx, iAV x.ttl, iAV x.fr, iAV x.to, iAV x.fp, iAV x.tp, iAV x.ck, iAV x.mr, iAV x.ty, iAV x.sq, iAV x.tm, iAV x.sr]⟩)], True, 0⟩) ?_ ?_; (rintro p hok; (try dsimp only at hok); (repeat (have hk := And.left hok; replace hok := And.right hok))); rotate_left) | refine CutL.go tQ [1] ?_)
   | (show AtC _ _ _ _ _ _ _ _; first | (apply AtC.mk' (id := 1) (S := Nm) (_); all_goals (try exact K012); done) | (apply AtC.mk' (id := 1) (S := Nm) (_); all_goals (try exact K012)))
   | exact T.z
   | fail) <;> conv => whnf)
 all_goals (try dsimp only)
 all_goals
   (show RL _ _ _; refine goR ?_)
   refine congrArg AV.bool ?_
   rw [Bool.eq_iff_iff]
   simp_all [Hd.ok, udpR, rtpR, allIn, ints, icmp]
attribute [irreducible] inR
open Go.RowKit
variable {G : Nat → AV}
def Hd.z : Hd := ⟨0, 0, 0, 0, 0, 0, 0, 0, 0, 0, 0, 0, 0, 0, 0⟩
def Dy.z : Dy := ⟨0, 0⟩
def Hd.num (h : Hd) : Int := if h.k = 2 then lw 16 h.sq else lw 16 h.id
theorem fnum_c (h : Hd) : LP Tryz.prog G 126 [h.av] [] (fun _ => (iAV h.num, [])) := by
 refine goW [] Tryz.func126 rfl ?_
 conv => whnf
 repeat' ((first
   | (show LC _ _ _ _ _ _; first | refine LC.pure (slow_c 16 _ (by decide) (by decide)) ?_ | refine goE ?_)
   | refine T.s ?_
   | ((first | refine goB (fun h => ?_) (fun h => ?_) | refine AB.dec (fun h => ?_) (fun h => ?_) | refine AB.gen (fun h => ?_) (fun h => ?_)) <;> try (exfalso; omega))
   | refine LFresh.mk fun r => ?_
   | exact T.z
   | fail) <;> conv => whnf)
 all_goals (try dsimp only)
 all_goals
   (show RL _ _ _; refine goR ?_)
   unfold Hd.num
   (repeat first | rw [if_pos (by first | assumption | omega)] | rw [if_neg (by first | assumption | omega)])
   try rfl
theorem r6num_c (h : Hd) : LP Tryz.prog G 49 [h.av] [] (fun _ => (iAV h.num, [])) := by
 refine goW [] Tryz.func49 rfl ?_
 conv => whnf
 repeat' ((first
   | (show LC _ _ _ _ _ _; first | refine LC.pure (r2low_c 16 _ (by decide) (by decide)) ?_ | refine goE ?_)
   | refine T.s ?_
   | ((first | refine goB (fun h => ?_) (fun h => ?_) | refine AB.dec (fun h => ?_) (fun h => ?_) | refine AB.gen (fun h => ?_) (fun h => ?_)) <;> try (exfalso; omega))
   | refine LFresh.mk fun r => ?_
   | exact T.z
   | fail) <;> conv => whnf)
 all_goals (try dsimp only)
 all_goals
   (show RL _ _ _; refine goR ?_)
   unfold Hd.num
   (repeat first | rw [if_pos (by first | assumption | omega)] | rw [if_neg (by first | assumption | omega)])
   try rfl
def sameR (a b : Hd) : Bool := decide (a.k = b.k ∧ a.fr = b.fr ∧ a.to = b.to ∧ a.fp = b.fp ∧ a.tp = b.tp ∧ a.sr = b.sr)
def stepR (h : Hd) (n : Int) : Int := sg 16 h.num n
def predR (d : Dy) (h : Hd) (n : Int) : Hd :=
 if h.ok = true ∧ d.ok = true then (if h.k = 1 then { h with mr := 0, ck := 0, id := lw 16 n }
   else { h with mr := 0, ck := 0, sq := lw 16 n, tm := lw 32 (h.tm + d.st * stepR h n), id := lw 16 (h.id + d.fo * stepR h n) })
 else Hd.z
theorem sg_low (n a b : Int) : sg n a (lw n b) = sg n a b := by
 unfold sg
 rw [lw_sub_l]
theorem lw_mul {n : Int} (t x y : Int) (h : n ≤ 32) : lw n (iarith .add .i64 t (iarith .mul .i64 x y)) = lw n (t + x * y) := by
 show lw n (IntKind.i64.wrap (t + IntKind.i64.wrap (x * y))) = _
 rw [lw_wrap _ h, ← lw_add_r, lw_wrap _ h, lw_add_r]
theorem lw_add {n : Int} (t x : Int) (h : n ≤ 32) : lw n (iarith .add .i64 t x) = lw n (t + x) := lw_wrap _ h
theorem fpred_c (d : Dy) (h : Hd) (n : Int) : LP Tryz.prog G 127 [d.av, h.av, iAV n] [] (fun _ => ((predR d h n).av, [])) := by
 by_cases h1 : h.ok = true
 · by_cases h2 : d.ok = true
   · refine goW [] Tryz.func127 rfl ?_
     conv => whnf
     repeat' ((first
       | (show LC _ _ _ _ _ _; refine LC.pure (pvalid_c h) ?_; rw [h1]; conv => whnf)
       | (show LC _ _ _ _ _ _; refine LC.pure (fvalid_c d) ?_; rw [h2]; conv => whnf)
       | (show LC _ _ _ _ _ _; first | refine LC.pure (fnum_c _) ?_ | refine LC.pure (ssigned_c 16 _ _ (by decide) (by decide)) ?_ | refine LC.pure (slow_c 16 _ (by decide) (by decide)) ?_ | refine LC.pure (slow_c 32 _ (by decide) (by decide)) ?_ | refine goE ?_)
       | refine T.s ?_
       | ((first | refine goB (fun h => ?_) (fun h => ?_) | refine AB.dec (fun h => ?_) (fun h => ?_) | refine AB.gen (fun h => ?_) (fun h => ?_)) <;> try (exfalso; omega))
       | refine LFresh.mk fun r => ?_
       | exact T.z
       | fail) <;> conv => whnf)
     all_goals (try dsimp only)
     all_goals
       (show RL _ _ _; refine goR ?_)
       unfold predR
       rw [if_pos ⟨h1, h2⟩]
       (repeat first | rw [if_pos (by first | assumption | omega)] | rw [if_neg (by first | assumption | omega)])
       try rw [lw_mul _ _ _ (by decide), lw_mul _ _ _ (by decide)]
       rfl
   · have h2' : d.ok = false := by simpa using h2
     refine goW [] Tryz.func127 rfl ?_
     conv => whnf
     repeat' ((first
       | (show LC _ _ _ _ _ _; refine LC.pure (pvalid_c h) ?_; rw [h1]; conv => whnf)
       | (show LC _ _ _ _ _ _; refine LC.pure (fvalid_c d) ?_; rw [h2']; conv => whnf)
       | refine T.s ?_
       | ((first | refine goB (fun h => ?_) (fun h => ?_) | refine AB.dec (fun h => ?_) (fun h => ?_) | refine AB.gen (fun h => ?_) (fun h => ?_)) <;> try (exfalso; omega))
       | refine LFresh.mk fun r => ?_
       | exact T.z
       | fail) <;> conv => whnf)
     all_goals (try dsimp only)
     (show RL _ _ _; refine goR ?_)
     unfold predR
     rw [if_neg (by simp [h2'])]
     rfl
 · have h1' : h.ok = false := by simpa using h1
   refine goW [] Tryz.func127 rfl ?_
   conv => whnf
   repeat' ((first
     | (show LC _ _ _ _ _ _; refine LC.pure (pvalid_c h) ?_; rw [h1']; conv => whnf)
     | refine T.s ?_
     | ((first | refine goB (fun h => ?_) (fun h => ?_) | refine AB.dec (fun h => ?_) (fun h => ?_) | refine AB.gen (fun h => ?_) (fun h => ?_)) <;> try (exfalso; omega))
     | refine LFresh.mk fun r => ?_
     | exact T.z
     | fail) <;> conv => whnf)
   all_goals (try dsimp only)
   (show RL _ _ _; refine goR ?_)
   unfold predR
   rw [if_neg (by simp [h1'])]
   rfl
theorem ok_id {h : Hd} (h1 : h.ok = true) : 0 ≤ h.id ∧ h.id < 65536 := by
 unfold Hd.ok comR at h1
 have key : ∀ n m, inR n m = true → 0 ≤ n ∧ n ≤ m := fun n m hh => by
   cases hc : decide (0 ≤ n ∧ n ≤ m) with
   | true => simpa using hc
   | false => exact absurd hh (by rw [inR_f (by simpa using hc)]; decide)
 split at h1
 · simp only [Bool.and_eq_true] at h1
   have := key _ _ h1.1.2.2.1
   omega
 · split at h1
   · simp only [Bool.and_eq_true] at h1
     have := key _ _ h1.1.2.2.1
     omega
   · cases h1
theorem ok_fo {d : Dy} (h : d.ok = true) : d.fo = 0 ∨ d.fo = 1 := by
 unfold Dy.ok at h
 simp only [Bool.and_eq_true, decide_eq_true_eq] at h
 exact h.2
theorem ok_k {h : Hd} (h1 : h.ok = true) : h.k = 1 ∨ h.k = 2 := by
 unfold Hd.ok at h1
 split at h1
 · exact .inl ‹_›
 · split at h1
   · exact .inr ‹_›
   · cases h1
theorem r6pred_c (d : Dy) (h : Hd) (n : Int) : LP Tryz.prog G 89 [d.av, h.av, iAV n] [] (fun _ => ((predR d h n).av, [])) := by
 by_cases h1 : h.ok = true
 · by_cases h2 : d.ok = true
   · have hk := ok_k h1
     have hid := ok_id h1
     have hfo := ok_fo h2
     refine goW [] Tryz.func89 rfl ?_
     conv => whnf
     repeat' ((first
       | (show LC _ _ _ _ _ _; refine LC.pure (r5valid_c h) ?_; rw [h1]; conv => whnf)
       | (show LC _ _ _ _ _ _; refine LC.pure (r6valid_c d) ?_; rw [h2]; conv => whnf)
       | (show LC _ _ _ _ _ _; first | refine LC.pure (r6num_c _) ?_ | refine LC.pure (r2signed_c 16 _ _ (by decide) (by decide)) ?_ | refine LC.pure (r2low_c 16 _ (by decide) (by decide)) ?_ | refine LC.pure (r2low_c 32 _ (by decide) (by decide)) ?_ | refine goE ?_)
       | refine T.s ?_
       | ((first | refine goB (fun h => ?_) (fun h => ?_) | refine AB.dec (fun h => ?_) (fun h => ?_) | refine AB.gen (fun h => ?_) (fun h => ?_)) <;> try (exfalso; omega))
       | refine LFresh.mk fun r => ?_
       | exact T.z
       | fail) <;> conv => whnf)
     all_goals (try dsimp only)
     all_goals
       (show RL _ _ _; refine goR ?_)
       unfold predR
       rw [if_pos ⟨h1, h2⟩]
       (repeat first | rw [if_pos (by first | assumption | omega)] | rw [if_neg (by first | assumption | omega)])
       try rw [lw_mul _ _ _ (by decide)]
       try rw [sg_low]
       first
         | rfl
         | (rw [show d.fo = 1 by omega, Int.one_mul, lw_add _ _ (by decide)]; rfl)
         | (rw [show d.fo = 0 by omega, Int.zero_mul, Int.add_zero, lw_small (n := 16) hid.1 hid.2]; rfl)
   · have h2' : d.ok = false := by simpa using h2
     refine goW [] Tryz.func89 rfl ?_
     conv => whnf
     repeat' ((first
       | (show LC _ _ _ _ _ _; refine LC.pure (r5valid_c h) ?_; rw [h1]; conv => whnf)
       | (show LC _ _ _ _ _ _; refine LC.pure (r6valid_c d) ?_; rw [h2']; conv => whnf)
       | refine T.s ?_
       | ((first | refine goB (fun h => ?_) (fun h => ?_) | refine AB.dec (fun h => ?_) (fun h => ?_) | refine AB.gen (fun h => ?_) (fun h => ?_)) <;> try (exfalso; omega))
       | refine LFresh.mk fun r => ?_
       | exact T.z
       | fail) <;> conv => whnf)
     all_goals (try dsimp only)
     (show RL _ _ _; refine goR ?_)
     unfold predR
     rw [if_neg (by simp [h2'])]
     rfl
 · have h1' : h.ok = false := by simpa using h1
   refine goW [] Tryz.func89 rfl ?_
   conv => whnf
   repeat' ((first
     | (show LC _ _ _ _ _ _; refine LC.pure (r5valid_c h) ?_; rw [h1']; conv => whnf)
     | refine T.s ?_
     | ((first | refine goB (fun h => ?_) (fun h => ?_) | refine AB.dec (fun h => ?_) (fun h => ?_) | refine AB.gen (fun h => ?_) (fun h => ?_)) <;> try (exfalso; omega))
     | refine LFresh.mk fun r => ?_
     | exact T.z
     | fail) <;> conv => whnf)
   all_goals (try dsimp only)
   (show RL _ _ _; refine goR ?_)
   unfold predR
   rw [if_neg (by simp [h1'])]
   rfl
open Go.RowKit
variable {G : Nat → AV}
theorem lknown_c (n : Int) : LP Tryz.prog G 141 [iAV n] [] (fun _ => (.bool (wideB n), [])) := by
 refine goW [] Tryz.func141 rfl ?_
 conv => whnf
 repeat' ((first
   | refine T.s ?_
   | ((first | refine goB (fun h => ?_) (fun h => ?_) | refine AB.dec (fun h => ?_) (fun h => ?_) | refine AB.gen (fun h => ?_) (fun h => ?_)) <;> try (exfalso; omega))
   | refine LFresh.mk fun r => ?_
   | exact T.z
   | fail) <;> conv => whnf)
 all_goals (try dsimp only)
 all_goals
   (show RL _ _ _; refine goR ?_)
   refine congrArg AV.bool ?_
   rw [Bool.eq_iff_iff]
   simp [wideB, icmp, *]
theorem r7wide_c (n : Int) : LP Tryz.prog G 116 [iAV n] [] (fun _ => (.bool (wideB n), [])) := by
 refine goW [] Tryz.func116 rfl ?_
 conv => whnf
 repeat' ((first
   | refine T.s ?_
   | ((first | refine goB (fun h => ?_) (fun h => ?_) | refine AB.dec (fun h => ?_) (fun h => ?_) | refine AB.gen (fun h => ?_) (fun h => ?_)) <;> try (exfalso; omega))
   | refine LFresh.mk fun r => ?_
   | exact T.z
   | fail) <;> conv => whnf)
 all_goals (try dsimp only)
 all_goals
   (show RL _ _ _; refine goR ?_)
   refine congrArg AV.bool ?_
   rw [Bool.eq_iff_iff]
   simp [wideB, icmp, *]
theorem lvalue_c (n v : Int) (h1 : 0 ≤ n) (h2 : n ≤ 32) : LP Tryz.prog G 142 [iAV n, iAV v] [] (fun _ => (.bool (valB n v), [])) := by
 have e : IntKind.i64.wrap (2 ^ min n.toNat IntKind.i64.bits) = 2 ^ n.toNat := by have := shl1 h2; rwa [Int.one_mul] at this
 refine goW [] Tryz.func142 rfl ?_
 conv => whnf
 repeat' ((first
   | refine T.s ?_
   | ((first | refine goB (fun h => ?_) (fun h => ?_) | refine AB.dec (fun h => ?_) (fun h => ?_) | refine AB.gen (fun h => ?_) (fun h => ?_)) <;> try (exfalso; omega))
   | refine LFresh.mk fun r => ?_
   | exact T.z
   | fail) <;> conv => whnf)
 all_goals (try dsimp only)
 all_goals
   (show RL _ _ _; refine goR ?_)
   simp [valB, icmp, *]
theorem off_e {k : Int} (h1 : 3 ≤ k) (h2 : k ≤ 32) : iarith .sub .i64 (IntKind.i64.wrap (1 * 2 ^ min (iarith .sub .i64 k 3).toNat 64)) 1 = offK k := by
 have e : iarith .sub .i64 k 3 = k - 3 := by (exact T.num)
 rw [e]
 exact mask_e (by omega)
theorem loffset_c (k : Int) (h1 : 3 ≤ k) (h2 : k ≤ 32) : LP Tryz.prog G 150 [iAV k] [] (fun _ => (iAV (offK k), [])) := by
 refine goW [] Tryz.func150 rfl ?_
 conv => whnf
 repeat' ((first
   | refine T.s ?_
   | ((first | refine goB (fun h => ?_) (fun h => ?_) | refine AB.dec (fun h => ?_) (fun h => ?_) | refine AB.gen (fun h => ?_) (fun h => ?_)) <;> try (exfalso; omega))
   | refine LFresh.mk fun r => ?_
   | exact T.z
   | fail) <;> conv => whnf)
 all_goals (try dsimp only)
 (show RL _ _ _; refine goR ?_)
 exact congrArg iAV (off_e h1 h2)
theorem r7offset_c (k : Int) (h1 : 3 ≤ k) (h2 : k ≤ 32) : LP Tryz.prog G 119 [iAV k] [] (fun _ => (iAV (offK k), [])) := by
 have e : iarith .sub .i64 k 3 = k - 3 := by (exact T.num)
 refine goW [] Tryz.func119 rfl ?_
 conv => whnf
 repeat' ((first
   | refine T.s ?_
   | ((first | refine goB (fun h => ?_) (fun h => ?_) | refine AB.dec (fun h => ?_) (fun h => ?_) | refine AB.gen (fun h => ?_) (fun h => ?_)) <;> try (exfalso; omega))
   | refine LFresh.mk fun r => ?_
   | exact T.z
   | refine ⟨_, rfl, rfl, ?_⟩
   | fail) <;> conv => whnf)
 all_goals (try dsimp only)
 (show RL _ _ _; refine goR ?_)
 rw [e, u64n (by omega) (by omega)]
 exact congrArg iAV (mask_e (by omega))
theorem offK_rng {k : Int} (h2 : k ≤ 32) : 0 ≤ offK k ∧ offK k < 4294967296 := by
 have h3 := pw_pos (k - 3)
 have h4 := pw_le (n := k - 3) (m := 32) (by omega)
 unfold offK
 omega
theorem first_e {r k : Int} (h2 : k ≤ 32) (hr : 0 ≤ r) (hr2 : r < 4294967296) : iarith .sub .i64 r (offK k) = r - offK k := by
 have := offK_rng h2
 (exact T.num)
theorem val_rng {n v : Int} (h : valB n v = true) (hn : n ≤ 32) : 0 ≤ v ∧ v < 4294967296 := by
 have h4 := pw_le (m := 32) hn
 simp [valB] at h
 omega
theorem ldec_c (n r k l : Int) (h1 : 3 ≤ k) (h2 : k ≤ n) (h3 : n ≤ 32) (hr : valB n r = true) : LP Tryz.prog G 143 [iAV n, iAV r, iAV k, iAV l] [] (fun _ => (iAV (lsbV n r k l), [])) := by
 have hv := val_rng hr h3
 have e := first_e (k := k) (by omega) hv.1 hv.2
 refine goW [] Tryz.func143 rfl ?_
 conv => whnf
 repeat' ((first
   | (show LC _ _ _ _ _ _; first | refine LC.pure (loffset_c _ h1 (by omega)) ?_ | refine LC.pure (sdist_c _ _ _ (by omega) (by omega)) ?_ | refine LC.pure (slow_c _ _ (by omega) h3) ?_ | refine goE ?_)
   | refine T.s ?_
   | ((first | refine goB (fun h => ?_) (fun h => ?_) | refine AB.dec (fun h => ?_) (fun h => ?_) | refine AB.gen (fun h => ?_) (fun h => ?_)) <;> try (exfalso; omega))
   | refine LFresh.mk fun r => ?_
   | exact T.z
   | fail) <;> conv => whnf)
 all_goals (try dsimp only)
 (show RL _ _ _; refine goR ?_)
 rw [e]
 exact congrArg iAV (lw_wrap _ h3)
theorem lsbR_k {n : Int} (r k l : Int) (h : ¬ wideB n = true) : lsbR n r k l = (0, 7) := by unfold lsbR; rw [if_neg h]
theorem lsbR_b {n r k l : Int} (h : wideB n = true) (h2 : k < 3 ∨ k > n ∨ valB n r = false ∨ valB k l = false) : lsbR n r k l = (0, 3) := by unfold lsbR; rw [if_pos h, if_pos h2]
theorem lsbR_g {n r k l : Int} (h : wideB n = true) (h1 : 3 ≤ k) (h2 : k ≤ n) (h3 : valB n r = true) (h4 : valB k l = true) : lsbR n r k l = (lsbV n r k l, 0) := by
 unfold lsbR; rw [if_pos h, if_neg (by rw [h3, h4]; simp; omega)]
theorem wide_le {n : Int} (h : wideB n = true) : 8 ≤ n ∧ n ≤ 32 := by simp [wideB] at h; omega
theorem ldecode_c (n r k l : Int) : LP Tryz.prog G 128 [iAV n, iAV r, iAV k, iAV l] [] (fun _ => (.tup [iAV (lsbR n r k l).1, iAV (lsbR n r k l).2], [])) := by
 by_cases hw : wideB n = true
 · have hn := wide_le hw
   by_cases hb : k < 3 ∨ k > n ∨ valB n r = false ∨ valB k l = false
   · rw [lsbR_b hw hb]
     refine goW [] Tryz.func128 rfl ?_
     conv => whnf
     repeat' ((first
       | (show LC _ _ _ _ _ _; refine LC.eq (by rfl) (LC.pure (lknown_c n) ?_); rw [hw]; conv => whnf)
       | (show LC _ _ _ _ _ _; first | refine LC.pure (lvalue_c _ _ (by omega) (by omega)) ?_ | refine goE ?_)
       | refine T.s ?_
       | ((first | refine goB (fun h => ?_) (fun h => ?_) | refine AB.dec (fun h => ?_) (fun h => ?_) | refine AB.gen (fun h => ?_) (fun h => ?_)) <;> try (exfalso; omega))
       | refine LFresh.mk fun r => ?_
       | exact T.z
       | fail) <;> conv => whnf)
     all_goals (try dsimp only)
     all_goals first | ((show RL _ _ _; refine goR ?_); rfl) | (exfalso; simp_all [valB]; done) | (exfalso; simp_all [valB]; omega)
   · have h3 : valB n r = true := by cases h : valB n r <;> simp_all
     have h4 : valB k l = true := by cases h : valB k l <;> simp_all
     rw [lsbR_g hw (by omega) (by omega) h3 h4]
     refine goW [] Tryz.func128 rfl ?_
     conv => whnf
     repeat' ((first
       | (show LC _ _ _ _ _ _; refine LC.eq (by rfl) (LC.pure (lknown_c n) ?_); rw [hw]; conv => whnf)
       | (show LC _ _ _ _ _ _; refine LC.eq (by rfl) (LC.pure (lvalue_c n r (by omega) (by omega)) ?_); rw [h3]; conv => whnf)
       | (show LC _ _ _ _ _ _; refine LC.eq (by rfl) (LC.pure (lvalue_c k l (by omega) (by omega)) ?_); rw [h4]; conv => whnf)
       | (show LC _ _ _ _ _ _; first | refine LC.pure (ldec_c _ _ _ _ (by omega) (by omega) (by omega) h3) ?_ | refine goE ?_)
       | refine T.s ?_
       | ((first | refine goB (fun h => ?_) (fun h => ?_) | refine AB.dec (fun h => ?_) (fun h => ?_) | refine AB.gen (fun h => ?_) (fun h => ?_)) <;> try (exfalso; omega))
       | refine LFresh.mk fun r => ?_
       | exact T.z
       | fail) <;> conv => whnf)
     all_goals (try dsimp only)
     all_goals first | ((show RL _ _ _; refine goR ?_); rfl)
 · rw [lsbR_k r k l hw]
   have hw' : wideB n = false := by simpa using hw
   refine goW [] Tryz.func128 rfl ?_
   conv => whnf
   repeat' ((first
     | (show LC _ _ _ _ _ _; refine LC.eq (by rfl) (LC.pure (lknown_c n) ?_); rw [hw']; conv => whnf)
     | refine T.s ?_
     | ((first | refine goB (fun h => ?_) (fun h => ?_) | refine AB.dec (fun h => ?_) (fun h => ?_) | refine AB.gen (fun h => ?_) (fun h => ?_)) <;> try (exfalso; omega))
     | refine LFresh.mk fun r => ?_
     | exact T.z
     | fail) <;> conv => whnf)
   all_goals (try dsimp only)
   (show RL _ _ _; refine goR ?_)
   rfl
theorem r7decode_c (n r k l : Int) : LP Tryz.prog G 95 [iAV n, iAV r, iAV k, iAV l] [] (fun _ => (.tup [iAV (lsbR n r k l).1, iAV (lsbR n r k l).2], [])) := by
 by_cases hw : wideB n = true
 · have hn := wide_le hw
   have e1 : IntKind.i64.wrap (1 * 2 ^ min (IntKind.u64.wrap n).toNat IntKind.i64.bits) = 2 ^ n.toNat := by show IntKind.i64.wrap (1 * 2 ^ min (IntKind.u64.wrap n).toNat 64) = _; rw [u64n (by omega) (by omega)]; exact shl1 (by omega)
   by_cases hb : k < 3 ∨ k > n ∨ valB n r = false ∨ valB k l = false
   · rw [lsbR_b hw hb]
     refine goW [] Tryz.func95 rfl ?_
     conv => whnf
     repeat' ((first
       | (show LC _ _ _ _ _ _; refine LC.eq (by rfl) (LC.pure (r7wide_c n) ?_); rw [hw]; conv => whnf)
       | refine T.s ?_
       | ((first | refine goB (fun h => ?_) (fun h => ?_) | refine AB.dec (fun h => ?_) (fun h => ?_) | refine AB.gen (fun h => ?_) (fun h => ?_)) <;> try (exfalso; omega))
       | refine LFresh.mk fun r => ?_
       | exact T.z
       | refine ⟨_, rfl, rfl, ?_⟩
       | fail) <;> conv => whnf)
     all_goals (try dsimp only)
     all_goals first | ((show RL _ _ _; refine goR ?_); rfl) | skip
     all_goals
       exfalso
       have e2 : IntKind.i64.wrap (1 * 2 ^ min (IntKind.u64.wrap k).toNat IntKind.i64.bits) = 2 ^ k.toNat := by show IntKind.i64.wrap (1 * 2 ^ min (IntKind.u64.wrap k).toNat 64) = _; rw [u64n (by omega) (by omega)]; exact shl1 (by omega)
       rename_i q1 q2 q3 q4
       simp [valB] at hb
       omega
   · have h3 : valB n r = true := by cases h : valB n r <;> simp_all
     have h4 : valB k l = true := by cases h : valB k l <;> simp_all
     rw [lsbR_g hw (by omega) (by omega) h3 h4]
     have hv := val_rng h3 (by omega)
     have e := first_e (k := k) (by omega) hv.1 hv.2
     have e2 : IntKind.i64.wrap (1 * 2 ^ min (IntKind.u64.wrap k).toNat IntKind.i64.bits) = 2 ^ k.toNat := by show IntKind.i64.wrap (1 * 2 ^ min (IntKind.u64.wrap k).toNat 64) = _; rw [u64n (by omega) (by omega)]; exact shl1 (by omega)
     simp only [valB, decide_eq_true_eq] at h3 h4
     refine goW [] Tryz.func95 rfl ?_
     conv => whnf
     repeat' ((first
       | (show LC _ _ _ _ _ _; refine LC.eq (by rfl) (LC.pure (r7wide_c n) ?_); rw [hw]; conv => whnf)
       | (show LC _ _ _ _ _ _; first | refine LC.pure (r7offset_c _ (by omega) (by omega)) ?_ | refine LC.pure (r2dist_c _ _ _ (by omega) (by omega)) ?_ | refine LC.pure (r2low_c _ _ (by omega) (by omega)) ?_ | refine goE ?_)
       | refine T.s ?_
       | ((first | refine goB (fun h => ?_) (fun h => ?_) | refine AB.dec (fun h => ?_) (fun h => ?_) | refine AB.gen (fun h => ?_) (fun h => ?_)) <;> try (exfalso; omega))
       | refine LFresh.mk fun r => ?_
       | exact T.z
       | refine ⟨_, rfl, rfl, ?_⟩
       | fail) <;> conv => whnf)
     all_goals (try dsimp only)
     all_goals try rw [e1] at *
     all_goals try rw [e2] at *
     all_goals first | (exfalso; omega) | skip
     (show RL _ _ _; refine goR ?_)
     rw [e]
     refine congrArg (fun z => AV.tup [iAV z, iAV 0]) (lw_wrap _ (by omega))
 · rw [lsbR_k r k l hw]
   have hw' : wideB n = false := by simpa using hw
   refine goW [] Tryz.func95 rfl ?_
   conv => whnf
   repeat' ((first
     | (show LC _ _ _ _ _ _; refine LC.eq (by rfl) (LC.pure (r7wide_c n) ?_); rw [hw']; conv => whnf)
     | refine T.s ?_
     | ((first | refine goB (fun h => ?_) (fun h => ?_) | refine AB.dec (fun h => ?_) (fun h => ?_) | refine AB.gen (fun h => ?_) (fun h => ?_)) <;> try (exfalso; omega))
     | refine LFresh.mk fun r => ?_
     | exact T.z
     | refine ⟨_, rfl, rfl, ?_⟩
     | fail) <;> conv => whnf)
   all_goals (try dsimp only)
   (show RL _ _ _; refine goR ?_)
   rfl
open Go.RowKit
variable {G : Nat → AV}
def Ky.ok (k : Ky) : Bool := decide (k.s.length = 32 ∧ k.g.length = 16 ∧ 0 ≤ k.n ∧ k.n ≤ 4294967295 ∧ 0 ≤ k.b ∧ k.b ≤ 255 ∧ (k.d = 0 ∨ k.d = 1))
attribute [irreducible] Ky.ok
open Go.RowKit
variable {G : Nat → AV}
theorem same_c (a b : List UInt8) : LP Tryz.prog G 26 [bv a, bv b] [] (fun _ => (.bool (decide (a = b)), [])) := by
 refine goW [] Tryz.func26 rfl ?_
 conv => whnf
 repeat' ((first
   | refine T.s ?_
   | ((first | refine goB (fun h => ?_) (fun h => ?_) | refine AB.dec (fun h => ?_) (fun h => ?_) | refine AB.gen (fun h => ?_) (fun h => ?_)) <;> try (exfalso; omega))
   | refine LFresh.mk fun r => ?_
   | exact T.z
   | refine ⟨_, rfl, rfl, ?_⟩
   | fail) <;> conv => whnf)
 all_goals (try dsimp only)
 (show RL _ _ _; refine goR ?_)
 refine congrArg AV.bool ?_
 rw [ByteArray.toList_eq, ByteArray.toList_eq, Bool.eq_iff_iff]
 simp
def putB (n : Int) : Nat → List UInt8
 | 0 => []
 | k + 1 => b8 (n.fdiv (2 ^ min (8 * k) 64)) :: putB n k
end Go.Proofs.YtkfpgdckdmlhkaaGreatDoor
