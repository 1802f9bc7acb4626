/-
  Contracts of the functions that the laws reach.
-/
import Derived.Test.YtnmifddidgofaaaDoorDu01
import Derived.Test.YtnmifddidgofaaaDoorDu02
import Derived.Test.YtnmifddidgofaaaDoorDu03
import Derived.Test.YtnmifddidgofaaaDoorDu04
import Derived.Test.YtnmifddidgofaaaDoorDu05
import Derived.Test.YtnmifddidgofaaaDoorDu06
import Derived.Test.YtnmifddidgofaaaDoorDu07
import Derived.Test.YtnmifddidgofaaaDoorDu08
import Derived.Test.YtnmifddidgofaaaDoorDu09
import Derived.Test.YtnmifddidgofaaaDoorDu10
set_option maxHeartbeats 16000000
set_option linter.all false
namespace Go.Proofs.YtnmifddidgofaaaDoor
open Go.RowKit
section
variable {P : Program} {T : Tys} {G : Nat → AV} {N : Nat} {e : Env} {l : LS}
theorem CutL.adoptP (hT : TOk P T) (C : List Nat) (p : Nm) (j sz : Nat) (t : TypeId) {x y : Code} {Q : Exit → Env → LS → Prop} (h : LHas l p fun d s _ => j < d.cs.length ∧ d.cs.getD j .any = .nils ∧ ∀ q, AWpL P T G N C x (QseqL (AWpL P T G N C y Q) Q) e ((q, ⟨t, []⟩) :: s ⟨d.ty, d.cs.set j (.vw q 0 0 sz)⟩)) : CutL P G N x y Q e l :=
 ⟨SWpL.adoptP p j sz t (LHas.mono h fun _ _ _ h => ⟨h.1, h.2.1, fun q => (CutL.go hT C (h.2.2 q)).run⟩)⟩
end
theorem gl_yl : ∀ g, (gl g).isYl = false := fun g => by unfold gl; split <;> rfl
def putI (i : In) (c : Int) (d : List UInt8) : In := { i with n := if i.n < c + 1 then c + 1 else i.n, h := insL i.h (posR i.h c) ⟨c, d⟩ }
def putJ (i : In) (x c : Int) (d : List UInt8) : In := { i with n := if i.n < x then x else i.n, h := insL i.h (posR i.h c) ⟨c, d⟩ }
def takeR (i : In) (c : Int) (d : List UInt8) : In × List (List UInt8) × Int :=
 if c < i.f then (i, [], 11) else if hitR i.h c = true then (i, [], 12) else if c = i.f then (behI { i with f := i.f + 1 } 0, [d] ++ behO { i with f := i.f + 1 } 0, 0) else (behI (putI i c d) 0, behO (putI i c d) 0, 0)
def rcvR (i : In) (u : List UInt8) : In × List (List UInt8) × Int :=
 if i.ok = true then (if (numR i.b u).2 = 0 then (if (infR i.b i.f (numR i.b u).1).2 = 0 then (if (openR i.k i.b (infR i.b i.f (numR i.b u).1).1 u).2 = 0 then
   takeR i (infR i.b i.f (numR i.b u).1).1 (openR i.k i.b (infR i.b i.f (numR i.b u).1).1 u).1
   else (i, [], (openR i.k i.b (infR i.b i.f (numR i.b u).1).1 u).2)) else (i, [], (infR i.b i.f (numR i.b u).1).2)) else (i, [], (numR i.b u).2)) else (inZ, [], 1)
theorem insL_len (l : List Hl) (i : Nat) (h : Hl) : (insL l i h).length = l.length + 1 := by
 simp only [insL, List.length_append, List.length_take, List.length_cons, List.length_drop]; omega
theorem inf_ok {b f x : Int} (h : (infR b f x).2 = 0) : 0 ≤ (infR b f x).1 ∧ (infR b f x).1 < 1048576 := by
 unfold infR at *
 split at h
 · split at h
   · simp at h
   · split at h
     · rename_i h1 h2 h3
       rw [if_pos h1, if_neg h2, if_pos h3]
       with_unfolding_all exact of_decide_eq_true h3
     · simp at h
 · simp at h
theorem ret_side0 {x : In} {n : Nat} {o : Nm} {outs : List (List UInt8)} {e : Int} {l : LS} (hx : x.h = []) (hn : n = outs.length) (h : LHas l o fun c' _ _ => c'.cs = outC outs) :
   RetL (fun _ => (rAV (x, outs, e), [])) (.tup [.agg (inC x (.sl 0 [])), .vw o 0 n 1, iAV e]) l := by
 have h2 : LHas l o fun c _ _ => c.cs = outs.map bv ∧ n = outs.length := LHas.mono h fun _ _ _ h => ⟨h, hn⟩
 have h3 : LEra l [o] (LSub []) := LHas.mono h fun _ _ r h => LSub.nil
 refine RetL.frz [o] (LF.tup ⟨LF.agg ⟨LF.eq rfl, LF.eq rfl, LF.eq rfl, LF.eq rfl, LF.eq rfl, LF.eq rfl, LF.eq rfl, LF.eq rfl, LF.eq rfl, LF.eq rfl, LF.eq rfl, ?_, trivial⟩, LF.rowF InL.here h2, LF.eq rfl, trivial⟩) h3
 show LF l [o] _ (hlv x.h)
 rw [hx]
 exact LF.eq rfl
theorem drop_ge {l : List Hl} {N : Nat} (h : ¬ (N = 0 ∨ N < l.length)) : l.drop N = [] := List.drop_eq_nil_of_le (by omega)
theorem flat_ib (n : Int) (b : Bool) : Flat (.tup [iAV n, .bool b]) := Flat.tup fun x hx => by
 simp only [List.mem_cons, List.not_mem_nil, or_false] at hx
 rcases hx with rfl | rfl
 · exact Flat.int _ _
 · exact Flat.bool _
theorem dreceive_c (i : In) (u : List UInt8) (hl : i.h.length ≤ 99999) : LSpec Tryd.prog gl 12 [i.av, bv u] [] (fun _ => (rAV (rcvR i u), [])) := by
 have hv := dvalid_c (G := gl) i (by omega)
 cases hok : i.ok with
 | false =>
   rw [show rcvR i u = (inZ, [], 1) by unfold rcvR; rw [if_neg (by rw [hok]; decide)]]
   rw [hok] at hv
   refine goW [] Tryd.func12 rfl ?_
   conv => whnf
   repeat' ((first | exact Nm.b 0 | (show LCall _ _ _ _ _ _; first | refine LCall.pure (hv) ?_ | refine goE ?_) | refine T.s ?_ | ((first | apply goB | apply ABr.dec | apply ABr.gen) <;> intro h <;> try (exfalso; omega)) | refine LFresh.mk fun r => ?_ | (show SWpL _ _ _ _ _ _ _; first | (refine goD tyOk mixed 24 [7, 8] [0, 1, 2, 3, 4, 5, 6, 7, 8, 9, 10] [] (by kernel_rfl) ?_)) | exact T.z | fail) <;> conv => whnf)
   all_goals (try dsimp only)
   exact ret_zero
 | true =>
   have v := Vf.of hok
   rw [hok] at hv
   have hc := dclone_o (G := gl) i v.k (by omega) (fun k hk => by have := (v.h k hk).2.2.2; omega)
   have hnum := number_c i.b u
   have hinf := infer_c (G := gl) i.b i.f (numR i.b u).1
   have hopen := open_c i.k i.b (infR i.b i.f (numR i.b u).1).1 u
   have hC := inf_ok (b := i.b) (f := i.f) (x := (numR i.b u).1)
   unfold rcvR
   rw [if_pos hok]
   generalize openR i.k i.b (infR i.b i.f (numR i.b u).1).1 u = D at *
   generalize infR i.b i.f (numR i.b u).1 = C at *
   generalize numR i.b u = S at *
   obtain ⟨C, ce⟩ := C
   obtain ⟨D, de⟩ := D
   obtain ⟨S, se⟩ := S
   dsimp only at *
   have e1 : iarith .add .i64 i.f 1 = i.f + 1 := by have h1 := v.f; (exact T.num)
   have hK1 := Classical.em (0 + runN (iarith .add .i64 i.f 1) (i.h.drop 0) = 0 ∨ 0 + runN (iarith .add .i64 i.f 1) (i.h.drop 0) < i.h.length)
   have hK2 := Classical.em (0 + runN (putJ i (iarith .add .i64 C 1) C D).f ((putJ i (iarith .add .i64 C 1) C D).h.drop 0) = 0 ∨ 0 + runN (putJ i (iarith .add .i64 C 1) C D).f ((putJ i (iarith .add .i64 C 1) C D).h.drop 0) < (putJ i (iarith .add .i64 C 1) C D).h.length)
   refine goW [3, 23] Tryd.func12 rfl ?_
   conv => whnf
   repeat' ((first | (rcases hK1 with hK | hK <;> first | rw [hvA_lt hK] | rw [hvA_ge hK]) | (rcases hK2 with hK | hK <;> first | rw [hvA_lt hK] | rw [hvA_ge hK]) | (show LCall _ _ _ [.vw _ _ _ _, _] _ _; refine LCall.lend (find_c i.h C (by omega) v.asc v.rng (by have := hC (by assumption); omega)) [q] ⟨LF.row InL.here ?_, LF.eq rfl, trivial⟩ ?_ ?_) | (show LCall _ _ _ [.vw _ _ _ _, _, _] _ _; apply LCall.manyD (fun hnd => hins_c i.h (posR i.h C) ⟨C, D⟩ (pos_le _ _) (by omega) q _ (by exact hnd))) | (show CutL _ _ _ (.region 23 _ _) _ _ _ _; first | (refine CutL.adoptP tyOk [3, 23] s 12 1 27 ?_; (repeat first | refine goH ?_ | apply LHas.here | apply LHas.next); refine ⟨Nat.le_of_ble_eq_true rfl, rfl, fun o => ?_⟩; (try dsimp only)) | refine CutL.go tyOk [3, 23] ?_) | (show LCall _ _ _ [.ptr _ 0] _ _; first | (apply LCall.manyD (fun hnd => dproceed_b (hv0 := .vw q 0 i.h.length 2) gl_yl { i with f := iarith .add .i64 i.f 1 } 0 [D] s q _ (by dsimp only; omega) (by dsimp only; have := v.f; omega) (Nat.zero_le _) (Nat.le_of_ble_eq_true rfl) (by exact hnd) (hvA_0 q i.h.length)); (repeat first | refine goH ?_ | apply LHas.here | apply LHas.next); refine ⟨rfl, ?_⟩) | apply LCall.manyD (fun hnd => dproceed_b (hv0 := .vw r 0 (i.h.length + 1) 2) gl_yl (putJ i (iarith .add .i64 C 1) C D) 0 [] s r _ (by show (insL _ _ _).length ≤ _; rw [insL_len]; omega) (by show 0 ≤ i.f ∧ i.f ≤ _; have := v.f; omega) (Nat.zero_le _) (Nat.le_of_ble_eq_true rfl) (by exact hnd) (by rw [← insL_len i.h (posR i.h C) ⟨C, D⟩]; exact hvA_0 r _))) | (show Flat _; exact flat_ib _ _) | exact Nm.b 0 | (refine And.intro ?_ ?_; (focus (first | exact hls_len _ | exact T.kx | exact T.side))) | (show LCall _ _ _ _ _ _; first | refine LCall.pure (hv) ?_ | refine LCall.own (hc) ?_ | refine LCall.pure (hnum) ?_ | refine LCall.pure (hinf) ?_ | refine LCall.pure (hopen) ?_ | refine goE ?_) | refine T.s ?_ | ((first | apply goB | apply ABr.dec | apply ABr.gen) <;> intro h) | refine LFresh.mk fun r => ?_ | (show SWpL _ _ _ _ _ _ _; first | refine gX 24 [7, 8] [0, 1, 2, 3, 4, 5, 6, 7, 8, 9, 10] [b4] ?_) | (show CutL _ _ _ _ _ _ _ _; first | (refine goK tyOk [3, 23] 3 (S := Nm × Nm × Nm × Nm) [1] (fun (b0, b4, q, s) => ⟨[(2, .ptr b0 0), (4, .ptr b4 0), (7, .ptr s 0)], [(s, ⟨57, sdC i (.vw q 0 i.h.length 2) .nils⟩), (q, ⟨67, i.h.flatMap Hl.cs⟩), (b4, ⟨32, zIn⟩), (b0, ⟨32, i.cs⟩)], True, 0⟩) ?_ ?_; (rintro ⟨b0, b4, q, s⟩ -); rotate_left) | refine CutL.go tyOk [3, 23] ?_) | (show AtC _ _ _ _ _ _ _ _; first | (show AtC 3 _ _ _ _ _ _ _; exact goM 3 (S := Nm × Nm × Nm × Nm) ((_, _, _, _))) | (apply AtC.mk' (id := 3) (S := Nm × Nm × Nm × Nm) ((_, _, _, _)); (repeat' first | exact trivial | (refine And.intro ?_ ?_) | exact LSub.nil | (with_reducible exact LSub.refl) | (apply LSub.cons; (repeat first | refine goH ?_ | apply LHas.here | apply LHas.next); refine And.intro ?_ ?_; (focus (try (first | (with_reducible rfl) | (refine congrArg (Pl.mk _) ?_; (first | rfl | (simp; done))) | rfl | (with_reducible refine congrArg (Pl.mk _) ?_))))) | assumption | (first | (focus (apply Eq.trans; (conv => lhs; whnf); (conv => rhs; whnf); done)) | rfl | ((conv => lhs; whnf); first | rfl | (refine congrArg (AV.int _) ?_; (exact T.num)) | (refine congrArg AV.bool ?_; (exact T.num)) | (refine vw_congr ?_; first | (exact T.num) | (first | rfl | (simp; done))) | (refine sl_congr ?_ ?_ <;> first | (exact T.num) | (first | rfl | (simp; done))) | (first | rfl | (simp; done)))) | (exact T.num) | (dsimp only; (exact T.num)) | (first | rfl | (simp; done))))) | exact T.z | fail) <;> conv => whnf)
   all_goals (try dsimp only)
   all_goals first
     | (rw [if_neg (by assumption)]; exact ret_held rfl (by (repeat first | refine goH ?_ | apply LHas.here | apply LHas.next); rfl))
     | (rw [if_pos (by assumption), if_neg (by assumption)]; exact ret_held rfl (by (repeat first | refine goH ?_ | apply LHas.here | apply LHas.next); rfl))
     | (rw [if_pos (by assumption), if_pos (by assumption), if_neg (by assumption)]; exact ret_held rfl (by (repeat first | refine goH ?_ | apply LHas.here | apply LHas.next); rfl))
     | (rw [if_pos (by assumption), if_pos (by assumption), if_pos (by assumption), show takeR i C D = (i, [], 11) from if_pos (by assumption)]; exact ret_held rfl (by (repeat first | refine goH ?_ | apply LHas.here | apply LHas.next); rfl))
     | (rw [if_pos (by assumption), if_pos (by assumption), if_pos (by assumption), show takeR i C D = (i, [], 12) from (if_neg (by assumption)).trans (if_pos (decide_eq_true (by assumption)))]; exact ret_held rfl (by (repeat first | refine goH ?_ | apply LHas.here | apply LHas.next); rfl))
     | (have e2 : iarith .add .i64 C 1 = C + 1 := (by have h1 := hC (by assumption); (exact T.num))
        rw [if_pos (by assumption), if_pos (by assumption), if_pos (by assumption)]
        first
          | (rw [show takeR i C D = (behI { i with f := i.f + 1 } 0, [D] ++ behO { i with f := i.f + 1 } 0, 0) from (if_neg (by assumption)).trans ((if_neg (by rw [show hitR i.h C = false from decide_eq_false (by assumption)]; decide)).trans (if_pos (by assumption))), ← e1]
             refine ret_side (q := q) (by first | exact (hvA_lt hK).symm | exact (hvA_ge hK).symm) (x := behI { i with f := iarith .add .i64 i.f 1 } 0) (l0 := i.h) (N := 0 + runN (iarith .add .i64 i.f 1) (i.h.drop 0)) rfl (run_le { i with f := iarith .add .i64 i.f 1 } (Nat.zero_le _)) ?_ ?_
             · rw [List.length_append, behO_len { i with f := iarith .add .i64 i.f 1 } (Nat.zero_le _)]
             · (repeat first | refine goH ?_ | apply LHas.here | apply LHas.next)
               refine ⟨rfl, ?_⟩
               (repeat first | refine goH ?_ | apply LHas.here | apply LHas.next)
               refine ⟨rfl, ?_⟩
               (repeat first | refine goH ?_ | apply LHas.here | apply LHas.next)
               trivial)
          | (rw [show takeR i C D = (behI (putI i C D) 0, behO (putI i C D) 0, 0) from (if_neg (by assumption)).trans ((if_neg (by rw [show hitR i.h C = false from decide_eq_false (by assumption)]; decide)).trans (if_neg (by assumption)))]
             rw [show putI i C D = putJ i (iarith .add .i64 C 1) C D by rw [e2]; rfl]
             first
               | (refine ret_side (hvA_lt hK).symm (x := behI (putJ i (iarith .add .i64 C 1) C D) 0) (l0 := (putJ i (iarith .add .i64 C 1) C D).h) (N := 0 + runN (putJ i (iarith .add .i64 C 1) C D).f ((putJ i (iarith .add .i64 C 1) C D).h.drop 0)) rfl (run_le (putJ i (iarith .add .i64 C 1) C D) (Nat.zero_le _)) ?_ ?_
                  · rw [behO_len (putJ i (iarith .add .i64 C 1) C D) (Nat.zero_le _)]; exact Nat.zero_add _
                  · (repeat first | refine goH ?_ | apply LHas.here | apply LHas.next)
                    refine ⟨rfl, ?_⟩
                    (repeat first | refine goH ?_ | apply LHas.here | apply LHas.next)
                    refine ⟨rfl, ?_⟩
                    (repeat first | refine goH ?_ | apply LHas.here | apply LHas.next)
                    trivial)
               | (refine ret_side0 (x := behI (putJ i (iarith .add .i64 C 1) C D) 0) (drop_ge hK) ?_ ?_
                  · rw [behO_len (putJ i (iarith .add .i64 C 1) C D) (Nat.zero_le _)]; exact Nat.zero_add _
                  · (repeat first | refine goH ?_ | apply LHas.here | apply LHas.next)
                    rfl)))
     | trace_state
open Go.RowKit
variable {G : Nat → AV}
def rnAV (x : In × Int) : AV := .tup [x.1.av, iAV x.2]
def newI (b t : Int) (k : Ky) : In × Int := if bitsOk b = true ∧ 0 ≤ t ∧ t ≤ 1000 then (if k.ok = true then (⟨b, k, 0, 0, 0, 0, t, []⟩, 0) else (inZ, 9)) else (inZ, 3)
theorem ret_zero2 {e : Int} {l : LS} : RetL (fun _ => (rnAV (inZ, e), [])) (.tup [.agg zIn, iAV e]) l :=
 RetL.frz [] (LF.tup ⟨LF.agg ⟨LF.eq rfl, LF.nils rfl rfl, LF.nils rfl rfl, LF.eq rfl, LF.eq rfl, LF.eq rfl, LF.eq rfl, LF.eq rfl, LF.eq rfl, LF.eq rfl, LF.eq rfl, LF.nils rfl rfl, trivial⟩, LF.eq rfl, trivial⟩) LSub.nil
theorem ret_new {b t : Int} {k : Ky} {e : Int} {l : LS} : RetL (fun _ => (rnAV (⟨b, k, 0, 0, 0, 0, t, []⟩, e), [])) (.tup [.agg (inC ⟨b, k, 0, 0, 0, 0, t, []⟩ .nils), iAV e]) l :=
 RetL.frz [] (LF.tup ⟨LF.agg ⟨LF.eq rfl, LF.eq rfl, LF.eq rfl, LF.eq rfl, LF.eq rfl, LF.eq rfl, LF.eq rfl, LF.eq rfl, LF.eq rfl, LF.eq rfl, LF.eq rfl, LF.nils rfl rfl, trivial⟩, LF.eq rfl, trivial⟩) LSub.nil
theorem dnew_c (b t : Int) (k : Ky) : LSpec Tryd.prog G 8 [iAV b, iAV t, k.av] [] (fun _ => (rnAV (newI b t k), [])) := by
 have hb := cbits_c (G := G) b
 have hv := cvalid_c (G := G) k
 have hp := pclone_c (G := G) k
 unfold newI
 by_cases hc : bitsOk b = true ∧ 0 ≤ t ∧ t ≤ 1000
 · obtain ⟨c1, c2, c3⟩ := hc
   rw [if_pos ⟨c1, c2, c3⟩]
   rw [c1] at hb
   cases h2 : k.ok
   · rw [h2] at hv
     rw [if_neg (by decide)]
     refine goW [] Tryd.func8 rfl ?_
     conv => whnf
     repeat' ((first | (show LCall _ _ _ _ _ _; first | refine LCall.pure (hb) ?_ | refine LCall.pure (hv) ?_ | refine goE ?_) | refine T.s ?_ | ((first | apply goB | apply ABr.dec | apply ABr.gen) <;> intro h <;> try (exfalso; omega)) | refine LFresh.mk fun r => ?_ | exact T.z | fail) <;> conv => whnf)
     all_goals (try dsimp only)
     all_goals exact ret_zero2
   · rw [h2] at hv
     rw [if_pos rfl]
     refine goW [] Tryd.func8 rfl ?_
     conv => whnf
     repeat' ((first | (show LCall _ _ _ _ _ _; first | refine LCall.pure (hb) ?_ | refine LCall.pure (hv) ?_ | refine LCall.pure (hp h2) ?_ | refine goE ?_) | refine T.s ?_ | ((first | apply goB | apply ABr.dec | apply ABr.gen) <;> intro h <;> try (exfalso; omega)) | refine LFresh.mk fun r => ?_ | exact T.z | fail) <;> conv => whnf)
     all_goals (try dsimp only)
     all_goals exact ret_new
 · rw [if_neg hc]
   cases h1 : bitsOk b
   · rw [h1] at hb
     refine goW [] Tryd.func8 rfl ?_
     conv => whnf
     repeat' ((first | (show LCall _ _ _ _ _ _; first | refine LCall.pure (hb) ?_ | refine goE ?_) | refine T.s ?_ | ((first | apply goB | apply ABr.dec | apply ABr.gen) <;> intro h <;> try (exfalso; omega)) | refine LFresh.mk fun r => ?_ | exact T.z | fail) <;> conv => whnf)
     all_goals (try dsimp only)
     all_goals exact ret_zero2
   · rw [h1] at hb hc
     have hc2 : ¬ t < 0 → ¬ 1000 < t → False := fun h3 h4 => hc ⟨rfl, by omega, by omega⟩
     refine goW [] Tryd.func8 rfl ?_
     conv => whnf
     repeat' ((first | (show LCall _ _ _ _ _ _; first | refine LCall.pure (hb) ?_ | refine LCall.pure (hv) ?_ | refine goE ?_) | refine T.s ?_ | ((first | apply goB | apply ABr.dec | apply ABr.gen) <;> intro h <;> try (exfalso; omega)) | refine LFresh.mk fun r => ?_ | exact T.z | fail) <;> conv => whnf)
     all_goals (try dsimp only)
     all_goals first
       | exact ret_zero2
       | exact (hc2 (by assumption) (by assumption)).elim
open Go.RowKit
variable {G : Nat → AV}
theorem Vf.to {i : In} (v : Vf i) : i.ok = true := by
 have hb := v.b
 have hf := v.f
 have hn := v.n
 have ht := v.t
 have hl := v.l
 have hm := v.m
 have hw := v.w
 have hh : heldOk i = true := by
   unfold heldOk
   rw [Bool.and_eq_true]
   refine ⟨?_, ?_⟩
   · unfold hldTo
     rw [List.all_eq_true]
     intro j hj
     have := v.h j (List.mem_range.1 hj)
     simpa [hlOk] using this
   · rcases v.e with ⟨h1, h2, h3⟩ | ⟨h1, h2⟩
     · rw [if_pos h1]
       have : iarith .sub .i64 i.n 1 = i.n - 1 := by (exact T.num)
       rw [this]
       exact decide_eq_true ⟨h2, h3⟩
     · rw [if_neg (by omega), h2]; rfl
 unfold In.ok
 rw [hb, v.k, hh, decide_eq_true (show 0 ≤ i.f ∧ i.f ≤ 1048576 ∧ i.f ≤ i.n ∧ i.n ≤ iarith .add .i64 i.f (winR i.b) ∧ i.n ≤ 1048576 ∧ 0 ≤ i.t ∧ i.t ≤ 1000 ∧ 0 ≤ i.l ∧ i.l ≤ i.t from ⟨hf.1, hf.2, hn.1, hw, hn.2, ht.1, ht.2, hl.1, hl.2⟩)]
 rcases hm with ⟨h1, h2⟩ | ⟨h1, h2, h3⟩
 · rw [if_neg (by omega), decide_eq_true h2]; rfl
 · rw [if_pos h1, decide_eq_true (show i.f < i.m ∧ i.m ≤ i.n from ⟨h2, h3⟩)]; rfl
def upTo (i : In) (k : Nat) : Prop := ∀ j, j < k → lastC i.f i.h j < (i.h.getD j Hl.z).c ∧ 1 ≤ (i.h.getD j Hl.z).d.length ∧ (i.h.getD j Hl.z).d.length ≤ 2048
theorem lastC_s (b : Int) (l : List Hl) (k : Nat) : lastC b l (k + 1) = (l.getD k Hl.z).c := rfl
theorem upTo_last {i : In} {k : Nat} (h : upTo i k) : ∀ j, j ≤ k → lastC i.f i.h j ≤ lastC i.f i.h k ∧ i.f ≤ lastC i.f i.h j := by
 induction k with
 | zero =>
   intro j hj
   have e : j = 0 := by omega
   subst e
   exact ⟨Int.le_refl _, Int.le_refl _⟩
 | succ k ih =>
   intro j hj
   have h1 := (h k (by omega)).1
   have ih := ih fun j hj => h j (by omega)
   have h3 := ih k (Nat.le_refl _)
   by_cases e : j = k + 1
   · subst e
     rw [lastC_s]
     omega
   · have := ih j (by omega)
     rw [lastC_s]
     omega
attribute [local irreducible] upTo
theorem upTo_at {i : In} {k : Nat} (h : upTo i k) : ∀ j, j < k → lastC i.f i.h j < (i.h.getD j Hl.z).c ∧ 1 ≤ (i.h.getD j Hl.z).d.length ∧ (i.h.getD j Hl.z).d.length ≤ 2048 := by with_unfolding_all exact h
theorem Vf.mk1 {i : In} (hb : bitsOk i.b = true) (hk : i.k.ok = true) (hf : 0 ≤ i.f ∧ i.f ≤ 1048576) (hn : i.f ≤ i.n ∧ i.n ≤ 1048576) (ht : 0 ≤ i.t ∧ i.t ≤ 1000) (hl : 0 ≤ i.l ∧ i.l ≤ i.t) (hm : (i.l = 0 ∧ i.m = 0) ∨ (0 < i.l ∧ i.f < i.m ∧ i.m ≤ i.n)) (hw : i.n ≤ iarith .add .i64 i.f (winR i.b))
   (hu : upTo i i.h.length) (he : (0 < i.h.length ∧ lastC i.f i.h i.h.length = i.n - 1) ∨ (i.h.length = 0 ∧ i.f = i.n)) : Vf i := by
 have hll := upTo_last hu
 have hup := upTo_at hu
 refine ⟨hb, hk, hf, hn, ht, hl, hm, hw, fun j hj => ?_, ?_⟩
 · obtain ⟨h1, h2, h3⟩ := hup j hj
   have h4 := (hll (j + 1) (by omega)).1
   rw [lastC_s] at h4
   rcases he with ⟨e1, e2⟩ | ⟨e1, e2⟩
   · exact ⟨h1, by rw [e2] at h4; omega, h2, h3⟩
   · omega
 · rcases he with ⟨e1, e2⟩ | ⟨e1, e2⟩
   · refine .inl ⟨?_, e2, e1⟩
     have h1 := (hup 0 e1).1
     have h2 := (hll 1 (by omega)).1
     rw [lastC_s, e2] at h2
     have h3 : lastC i.f i.h 0 = i.f := rfl
     omega
   · exact .inr ⟨e2, List.eq_nil_of_length_eq_zero e1⟩
theorem Vf.up {i : In} (v : Vf i) (k : Nat) (hk : k ≤ i.h.length) : upTo i k := by
 have : ∀ j, j < k → lastC i.f i.h j < (i.h.getD j Hl.z).c ∧ 1 ≤ (i.h.getD j Hl.z).d.length ∧ (i.h.getD j Hl.z).d.length ≤ 2048 := fun j hj => by
   obtain ⟨h1, h2, h3, h4⟩ := v.h j (by omega); exact ⟨h1, h3, h4⟩
 with_unfolding_all exact this
end Go.Proofs.YtnmifddidgofaaaDoor
namespace Go.Proofs.YtnmifddidgofaaaDoor
open Go.RowKit
variable {G : Nat → AV}
theorem put3n_c (n : Int) : LSpec Tryd.prog G 31 [.nils, iAV 3, iAV n] [] (fun q => (.vw q 0 3 1, [(q, ⟨5, (putB n 3).map bAV⟩)])) := by
 refine goW [] Tryd.func31 rfl ?_
 conv => whnf
 repeat' ((first | refine T.s ?_ | ((first | apply goB | apply ABr.dec | apply ABr.gen) <;> intro h <;> try (exfalso; omega)) | refine LFresh.mk fun r => ?_ | (show SWpL _ _ _ _ _ _ _; first | refine SWpL.times 2 4 (by rfl) ?_ | refine AtL.step tyOk [] ?_) | exact T.z | refine ⟨_, rfl, rfl, ?_⟩ | fail) <;> conv => whnf)
 all_goals (try dsimp only)
 refine RetL.own r rfl ?_ ?_
 · (repeat first | refine goH ?_ | apply LHas.here | apply LHas.next); trivial
 · apply LSub.cons
   (repeat first | refine goH ?_ | apply LHas.here | apply LHas.next)
   refine And.intro (congrArg (Pl.mk _) ?_) LSub.nil
   simp only [putB, List.map_append, List.map_cons, List.map_nil, bAV_b8, List.append_assoc, List.cons_append, List.nil_append]
   rfl
theorem key17_c : LSpec Tryd.prog G 9 [] [] (fun _ => (awK.av, [])) := by
 refine goW [] Tryd.func9 rfl ?_
 conv => whnf
 repeat' ((first | (show LCall _ _ _ _ _ _; first | refine LCall.pure (filled_c _ _ (by decide)) ?_ | refine goE ?_) | refine T.s ?_ | ((first | apply goB | apply ABr.dec | apply ABr.gen) <;> intro h <;> try (exfalso; omega)) | refine LFresh.mk fun r => ?_ | exact T.z | fail) <;> conv => whnf)
 all_goals (try dsimp only)
 (show RetL _ _ _; refine goR ?_)
 rfl
def sealB (b c : Int) : List UInt8 := (sealR awK b c (putB c 3)).1
theorem seal17_c (b c : Int) : LSpec Tryd.prog gl 13 [iAV b, iAV c] [] (fun _ => (bv (sealB b c), [])) := by
 have hs := rseal_c awK b c (putB c 3)
 unfold sealB
 generalize sealR awK b c (putB c 3) = s at *
 refine goW [] Tryd.func13 rfl ?_
 conv => whnf
 repeat' ((first | (show LEra _ _ _; conv => whnf) | (show LCall _ _ _ _ _ _; first | refine LCall.pure (key17_c) ?_ | refine LCall.own (put3n_c c) ?_ | refine LCall.mk' (hs) [_] ⟨LF.eq rfl, LF.eq rfl, LF.eq rfl, LF.row InL.here ?_, trivial⟩ ?_ | refine goE ?_) | refine T.s ?_ | ((first | apply goB | apply ABr.dec | apply ABr.gen) <;> intro h <;> try (exfalso; omega)) | refine LFresh.mk fun r => ?_ | exact T.z | fail) <;> conv => whnf)
 all_goals (try dsimp only)
 all_goals first | contradiction | ((show RetL _ _ _; refine goR ?_); rfl) | trace_state
def aw0 : In := ⟨5, awK, 0, 0, 0, 0, 0, []⟩
def aw1 : In := ⟨5, awK, 0, 2, 0, 0, 0, [⟨1, [0, 0, 1]⟩]⟩
def aw2 : In := ⟨5, awK, 2, 2, 0, 0, 0, []⟩
theorem aw_new : newI 5 0 awK = (aw0, 0) := by
 unfold newI
 rw [if_pos (by decide +kernel), if_pos awK_ok]
 rfl
theorem aw_sealB (c : Int) (hc : countOk c = true) : sealB 5 c = sealL awK 5 c (putB c 3) := by
 unfold sealB
 rw [sealR_ok awK_ok (by rw [hc]; decide +kernel) rfl]
theorem aw_1 : rcvR aw0 (sealB 5 1) = (aw1, [], 0) := by
 rw [aw_sealB 1 (by decide +kernel)]
 unfold rcvR
 rw [if_pos (by decide +kernel : aw0.ok = true), show aw0.b = 5 from rfl, num_seal awK 5 1 _ awK_ok (by decide +kernel) (by decide +kernel) rfl]
 rw [if_pos rfl, show infR 5 aw0.f (lowR 5 1) = (1, 0) by decide +kernel, if_pos rfl, show aw0.k = awK from rfl, open_seal awK 5 1 _ awK_ok (by decide +kernel) (by decide +kernel) rfl, if_pos rfl]
 with_unfolding_all rfl
theorem aw_2 : rcvR aw1 (sealB 5 0) = (aw2, [[0, 0, 0], [0, 0, 1]], 0) := by
 rw [aw_sealB 0 (by decide +kernel)]
 unfold rcvR
 rw [if_pos (by decide +kernel : aw1.ok = true), show aw1.b = 5 from rfl, num_seal awK 5 0 _ awK_ok (by decide +kernel) (by decide +kernel) rfl]
 rw [if_pos rfl, show infR 5 aw1.f (lowR 5 0) = (0, 0) by decide +kernel, if_pos rfl, show aw1.k = awK from rfl, open_seal awK 5 0 _ awK_ok (by decide +kernel) (by decide +kernel) rfl, if_pos rfl]
 with_unfolding_all rfl
theorem aw_ok : aw2.ok = true := by decide +kernel
theorem awake17_c : LSpec Tryd.prog gl 6 [] [] (fun _ => (.bool true, [])) := by
 have h0 := dnew_c (G := gl) 5 0 awK
 rw [aw_new] at h0
 have h1 := dreceive_c aw0 (sealB 5 1) (by decide)
 rw [aw_1] at h1
 have h2 := dreceive_c aw1 (sealB 5 0) (by decide)
 rw [aw_2] at h2
 have h3 := dvalid_c (G := gl) aw2 (by decide)
 rw [aw_ok] at h3
 have s1 := seal17_c 5 1
 have s0 := seal17_c 5 0
 generalize sealB 5 1 = u1 at *
 generalize sealB 5 0 = u0 at *
 refine goW [] Tryd.func6 rfl ?_
 conv => whnf
 repeat' ((first | exact Nm.b 0 | (show LCall _ _ _ _ _ _; first | refine LCall.pure (key17_c) ?_ | refine LCall.pure (h0) ?_ | refine LCall.pure (s1) ?_ | refine LCall.pure (s0) ?_ | refine LCall.pure (h1) ?_ | refine LCall.pure (h2) ?_ | refine LCall.pure (h3) ?_ | refine goE ?_) | refine T.s ?_ | ((first | apply goB | apply ABr.dec | apply ABr.gen) <;> intro h <;> try (exfalso; omega)) | refine LFresh.mk fun r => ?_ | (show SWpL _ _ _ _ _ _ _; first | refine gX 2 [0, 1] [0, 1, 2, 3, 4, 5, 6, 7, 8, 9] [] ?_ | refine gX 3 [0, 1] [0, 1, 2, 3, 4, 5, 6, 7, 8, 9] [] ?_) | exact T.z | fail) <;> conv => whnf)
 all_goals (try dsimp only)
 all_goals first | contradiction | ((show RetL _ _ _; refine goR ?_); rfl) | trace_state
open Go.RowKit
theorem onI_k (x : In) : (onI x).b = x.b ∧ (onI x).k = x.k ∧ (onI x).f = x.f ∧ (onI x).t = x.t ∧ (onI x).n = nxV x ∧ (((onI x).l = 0 ∧ (onI x).m = 0 ∧ (x.l = 0 → x.m = 0)) ∨ ((onI x).l = x.t ∧ (onI x).m = nxV x ∧ 0 < x.t ∧ x.f < nxV x) ∨ ((onI x).l = x.l ∧ (onI x).m = x.m ∧ ¬ (0 < x.l ∧ x.m ≤ x.f))) := by
 by_cases h1 : 0 < x.l ∧ x.m ≤ x.f
 · by_cases h2 : 0 < x.t ∧ x.f < nxV x
   · rw [onI_a h1.1 h1.2 h2.1 h2.2]; exact ⟨rfl, rfl, rfl, rfl, rfl, .inr (.inl ⟨rfl, rfl, h2⟩)⟩
   · rw [onI_b h1.1 h1.2 h2]; exact ⟨rfl, rfl, rfl, rfl, rfl, .inl ⟨rfl, rfl, fun h => by omega⟩⟩
 · by_cases h2 : x.l = 0 ∧ 0 < x.t ∧ x.f < nxV x
   · rw [onI_c h1 h2.1 h2.2.1 h2.2.2]; exact ⟨rfl, rfl, rfl, rfl, rfl, .inr (.inl ⟨rfl, rfl, h2.2⟩)⟩
   · rw [onI_d h1 h2]; exact ⟨rfl, rfl, rfl, rfl, rfl, .inr (.inr ⟨rfl, rfl, h1⟩)⟩
theorem win_pow {b : Int} (h : bitsOk b = true) : winR b = 2 ^ (b - 1).toNat ∧ 16 ≤ winR b ∧ winR b ≤ 256 := by
 rcases bits_cases h with rfl | rfl | rfl | rfl | rfl <;> decide +kernel
theorem hd_drop (l : List Hl) (n j : Nat) : (l.drop n).getD j Hl.z = l.getD (n + j) Hl.z := hl_drop l n j
theorem beh_ok {x : In} {h : List Hl} (hb : bitsOk x.b = true) (hk : x.k.ok = true) (hf : 0 ≤ x.f ∧ x.f ≤ 1048576) (hn : x.n ≤ 1048576) (ht : 0 ≤ x.t ∧ x.t ≤ 1000) (hm : (x.l = 0 ∧ x.m = 0) ∨ (0 < x.l ∧ x.l ≤ x.t ∧ x.m ≤ x.n)) (hw : x.n ≤ x.f + winR x.b)
   (ha : ascH h) (hr : ∀ j, j < h.length → x.f ≤ (h.getD j Hl.z).c ∧ (h.getD j Hl.z).c < x.n ∧ 1 ≤ (h.getD j Hl.z).d.length ∧ (h.getD j Hl.z).d.length ≤ 2048) (he : (h.length = 0 ∧ x.n ≤ x.f) ∨ (0 < h.length ∧ (h.getD (h.length - 1) Hl.z).c = x.n - 1)) :
   Vf { onI (stpI x (runN x.f h)) with h := h.drop (runN x.f h) } := by
 have hwp := win_pow hb
 have hN := runN_le h x.f
 have hyes := runN_yes h x.f
 have hno := runN_no h x.f
 generalize runN x.f h = N at *
 have h1 := onI_k (stpI x N)
 generalize onI (stpI x N) = y at *
 obtain ⟨e1, e2, e3, e4, e5, e6⟩ := h1
 have s1 : (stpI x N).b = x.b := rfl
 have s2 : (stpI x N).k = x.k := rfl
 have s3 : (stpI x N).f = x.f + N := rfl
 have s4 : (stpI x N).t = x.t := rfl
 have s5 : (stpI x N).n = x.n := rfl
 have s6 : (stpI x N).l = x.l := rfl
 have s7 : (stpI x N).m = x.m := rfl
 have sx : nxV (stpI x N) = if x.n < x.f + N then x.f + N else x.n := rfl
 rw [sx] at e5 e6
 rw [s1] at e1
 rw [s2] at e2
 rw [s3] at e3 e6
 rw [s4] at e4 e6
 rw [s6, s7] at e6
 -- where the run ends
 have hup : x.f + N ≤ 1048576 ∧ (0 < N → x.f + N ≤ x.n) := by
   by_cases h0 : N = 0
   · subst h0; exact ⟨by simpa using hf.2, fun h => by omega⟩
   · have h2 := hyes (N - 1) (by omega)
     have h3 := (hr (N - 1) (by omega)).2.1
     rw [h2] at h3
     exact ⟨by omega, fun _ => by omega⟩
 have hgt : ∀ j, N ≤ j → j < h.length → x.f + N < (h.getD j Hl.z).c := fun j h2 h3 => by
   have h4 : x.f + N < (h.getD N Hl.z).c := by
     have h5 := hno (by omega)
     by_cases h0 : N = 0
     · subst h0
       have := (hr 0 (by omega)).1
       omega
     · have h6 := hyes (N - 1) (by omega)
       have h7 := ha (N - 1) N (by omega) (by omega)
       omega
   by_cases h6 : N = j
   · subst h6; exact h4
   · have := ha N j (by omega) h3; omega
 have hlast : (N < h.length ∧ x.f + N < x.n ∧ (h.getD (h.length - 1) Hl.z).c = x.n - 1) ∨ (N = h.length ∧ x.n ≤ x.f + N) := by
   rcases he with ⟨h2, h3⟩ | ⟨h2, h3⟩
   · exact .inr ⟨by omega, by omega⟩
   · by_cases h4 : N < h.length
     · have := hgt (h.length - 1) (by omega) (by omega)
       exact .inl ⟨h4, by omega, h3⟩
     · have h5 := hyes (N - 1) (by omega)
       rw [show N - 1 = h.length - 1 by omega, h3] at h5
       exact .inr ⟨by omega, by omega⟩
 have e5' : y.n = if x.n < x.f + N then x.f + N else x.n := e5
 refine Vf.mk1 (by show bitsOk y.b = true; rw [e1]; exact hb) (by show y.k.ok = true; rw [e2]; exact hk) (by show 0 ≤ y.f ∧ y.f ≤ _; rw [e3]; omega) (by show y.f ≤ y.n ∧ y.n ≤ _; rw [e3, e5]; split <;> omega) (by show 0 ≤ y.t ∧ y.t ≤ _; rw [e4]; exact ht) ?_ ?_ ?_ ?_ ?_
 · show 0 ≤ y.l ∧ y.l ≤ y.t
   rw [e4]
   rcases e6 with h2 | h2 | h2 <;> omega
 · show (y.l = 0 ∧ y.m = 0) ∨ (0 < y.l ∧ y.f < y.m ∧ y.m ≤ y.n)
   rw [e3, e5]
   rcases e6 with h2 | h2 | h2
   · exact .inl ⟨h2.1, h2.2.1⟩
   · refine .inr ?_; omega
   · rcases hm with h3 | h3
     · exact .inl (by omega)
     · refine .inr ⟨by omega, by omega, ?_⟩
       split <;> omega
 · show y.n ≤ iarith .add .i64 y.f (winR y.b)
   rw [e3, e5, e1, iadd_in _ _ (by omega) (by omega)]
   split <;> omega
 · have hu : ∀ j, j < (h.drop N).length → lastC (x.f + N) (h.drop N) j < ((h.drop N).getD j Hl.z).c ∧ 1 ≤ ((h.drop N).getD j Hl.z).d.length ∧ ((h.drop N).getD j Hl.z).d.length ≤ 2048 := fun j hj => by
     rw [List.length_drop] at hj
     rw [hd_drop]
     refine ⟨?_, (hr (N + j) (by omega)).2.2⟩
     cases j with
     | zero => exact hgt N (by omega) (by omega)
     | succ j =>
       show ((h.drop N).getD j Hl.z).c < _
       rw [hd_drop]
       exact ha _ _ (by omega) (by omega)
   have hu' : ∀ j, j < (h.drop N).length → lastC y.f (h.drop N) j < ((h.drop N).getD j Hl.z).c ∧ 1 ≤ ((h.drop N).getD j Hl.z).d.length ∧ ((h.drop N).getD j Hl.z).d.length ≤ 2048 := by rw [e3]; exact hu
   with_unfolding_all exact hu'
 · show (0 < (h.drop N).length ∧ lastC y.f (h.drop N) (h.drop N).length = y.n - 1) ∨ ((h.drop N).length = 0 ∧ y.f = y.n)
   rw [e3, e5, List.length_drop]
   rcases hlast with ⟨h2, h3, h4⟩ | ⟨h2, h3⟩
   · refine .inl ⟨by omega, ?_⟩
     obtain ⟨m, hm'⟩ : ∃ m, h.length - N = m + 1 := ⟨h.length - N - 1, by omega⟩
     rw [hm', if_neg (by omega)]
     show ((h.drop N).getD m Hl.z).c = _
     rw [hd_drop, show N + m = h.length - 1 by omega, h4]
   · refine .inr ⟨by omega, ?_⟩
     split <;> omega
theorem ins_get {l : List Hl} {i : Nat} (x : Hl) (j : Nat) (hi : i ≤ l.length) : (insL l i x).getD j Hl.z = if j < i then l.getD j Hl.z else if j = i then x else l.getD (j - 1) Hl.z := by
 unfold insL
 simp only [List.getD_eq_getElem?_getD]
 by_cases h : j < i
 · rw [if_pos h, List.getElem?_append_left (by rw [List.length_take]; omega), List.getElem?_take, if_pos h]
 · rw [if_neg h, List.getElem?_append_right (by rw [List.length_take]; omega), List.length_take, Nat.min_eq_left hi]
   by_cases h2 : j = i
   · subst h2; rw [if_pos rfl, Nat.sub_self]; rfl
   · rw [if_neg h2]
     obtain ⟨k, rfl⟩ : ∃ k, j = i + k + 1 := ⟨j - i - 1, by omega⟩
     rw [show i + k + 1 - i = k + 1 by omega, List.getElem?_cons_succ, List.getElem?_drop]
     congr 2
theorem vf_last {i : In} (v : Vf i) (h : 0 < i.h.length) : (i.h.getD (i.h.length - 1) Hl.z).c = i.n - 1 := by
 rcases v.e with ⟨-, h2, -⟩ | ⟨-, h2⟩
 · obtain ⟨m, hm⟩ : ∃ m, i.h.length = m + 1 := ⟨i.h.length - 1, by omega⟩
   rw [hm] at h2 ⊢
   exact h2
 · rw [h2] at h; exact absurd h (by decide)
theorem vf_win {i : In} (v : Vf i) : i.n ≤ i.f + winR i.b := by
 have h1 := v.w
 have h2 := win_pow v.b
 have h3 := v.f
 rwa [iadd_in _ _ (by omega) (by omega)] at h1
theorem beh_next {i : In} (v : Vf i) (hf : i.f < 1048576) : Vf (behI { i with f := i.f + 1 } 0) := by
 have h1 := vf_win v
 have h2 := v.f
 have h3 := v.n
 have h4 := win_pow v.b
 have e : behI { i with f := i.f + 1 } 0 = { onI (stpI { i with f := i.f + 1 } (runN (i.f + 1) i.h)) with h := i.h.drop (runN (i.f + 1) i.h) } := by
   unfold behI; simp only [List.drop_zero, Nat.zero_add]
 rw [e]
 refine beh_ok (x := { i with f := i.f + 1 }) v.b v.k (by show 0 ≤ i.f + 1 ∧ i.f + 1 ≤ _; omega) h3.2 v.t ?_ (by show i.n ≤ i.f + 1 + winR i.b; omega) v.asc ?_ ?_
 · have := v.m; have := v.l; show (i.l = 0 ∧ i.m = 0) ∨ (0 < i.l ∧ i.l ≤ i.t ∧ i.m ≤ i.n); omega
 · intro j hj
   have h5 := v.lo j hj
   have h6 := v.h j hj
   exact ⟨by show i.f + 1 ≤ _; omega, h6.2⟩
 · by_cases h0 : 0 < i.h.length
   · exact .inr ⟨h0, vf_last v h0⟩
   · refine .inl ⟨by show i.h.length = 0; omega, ?_⟩
     show i.n ≤ i.f + 1
     rcases v.e with h5 | h5 <;> omega
theorem beh_put {i : In} (v : Vf i) {c : Int} {d : List UInt8} (hc : i.f < c) (hc2 : c < 1048576) (hcw : c + 1 ≤ i.f + winR i.b) (hh : hitR i.h c = false) (hd : 1 ≤ d.length ∧ d.length ≤ 2048) : Vf (behI (putI i c d) 0) := by
 have h1 := vf_win v
 have h2 := v.f
 have h3 := v.n
 have h4 := win_pow v.b
 have hP := pos_le i.h c
 have hlt := pos_lt i.h c
 have hge : posR i.h c < i.h.length → c < (i.h.getD (posR i.h c) Hl.z).c := fun h => by
   have h5 := pos_ge i.h c h
   have h6 : ¬ (posR i.h c < i.h.length ∧ (i.h.getD (posR i.h c) Hl.z).c = c) := of_decide_eq_false hh
   have : ¬ (i.h.getD (posR i.h c) Hl.z).c = c := fun h7 => h6 ⟨h, h7⟩
   omega
 have e : behI (putI i c d) 0 = { onI (stpI (putI i c d) (runN (putI i c d).f (putI i c d).h)) with h := (putI i c d).h.drop (runN (putI i c d).f (putI i c d).h) } := by
   unfold behI; simp only [List.drop_zero, Nat.zero_add]
 rw [e]
 have eh : (putI i c d).h = insL i.h (posR i.h c) ⟨c, d⟩ := rfl
 have en : (putI i c d).n = if i.n < c + 1 then c + 1 else i.n := rfl
 have ef : (putI i c d).f = i.f := rfl
 have eb : (putI i c d).b = i.b := rfl
 have ek : (putI i c d).k = i.k := rfl
 have et : (putI i c d).t = i.t := rfl
 have el : (putI i c d).l = i.l := rfl
 have em : (putI i c d).m = i.m := rfl
 generalize putI i c d = x at *
 have hasc := v.asc
 have hlen := insL_len i.h (posR i.h c) ⟨c, d⟩
 have hg : ∀ j, x.h.getD j Hl.z = if j < posR i.h c then i.h.getD j Hl.z else if j = posR i.h c then ⟨c, d⟩ else i.h.getD (j - 1) Hl.z := fun j => by rw [eh]; exact ins_get _ j hP
 rw [← eh] at hlen
 have hge' : ∀ j, posR i.h c ≤ j → j < i.h.length → c < (i.h.getD j Hl.z).c := fun j h5 h6 => by
   have h7 := hge (by omega)
   by_cases h8 : posR i.h c = j
   · rw [← h8]; exact h7
   · have := hasc (posR i.h c) j (by omega) h6; omega
 refine beh_ok (by rw [eb]; exact v.b) (by rw [ek]; exact v.k) (by rw [ef]; exact h2) (by rw [en]; split <;> omega) (by rw [et]; exact v.t) ?_ (by rw [en, ef, eb]; split <;> omega) ?_ ?_ ?_
 · rw [el, em, et, en]
   rcases v.m with h5 | h5
   · exact .inl h5
   · have := v.l
     refine .inr ⟨h5.1, this.2, ?_⟩
     split <;> omega
 · intro a b hab hb
   rw [hg, hg]
   rw [hlen] at hb
   by_cases c1 : b < posR i.h c
   · rw [if_pos (by omega), if_pos c1]; exact hasc a b hab (by omega)
   · rw [if_neg c1]
     by_cases c2 : b = posR i.h c
     · rw [if_pos c2, if_pos (by omega)]; exact hlt a (by omega)
     · rw [if_neg c2]
       by_cases c3 : a < posR i.h c
       · rw [if_pos c3]
         exact hasc a (b - 1) (by omega) (by omega)
       · rw [if_neg c3]
         by_cases c4 : a = posR i.h c
         · rw [if_pos c4]; exact hge' (b - 1) (by omega) (by omega)
         · rw [if_neg c4]; exact hasc (a - 1) (b - 1) (by omega) (by omega)
 · intro j hj
   rw [hlen] at hj
   rw [hg, ef, en]
   by_cases c1 : j < posR i.h c
   · rw [if_pos c1]
     have h5 := v.lo j (by omega)
     have h6 := v.h j (by omega)
     exact ⟨by omega, by split <;> omega, h6.2.2⟩
   · rw [if_neg c1]
     by_cases c2 : j = posR i.h c
     · rw [if_pos c2]; exact ⟨by show _ ≤ c; omega, by show c < _; split <;> omega, hd⟩
     · rw [if_neg c2]
       have h5 := v.lo (j - 1) (by omega)
       have h6 := v.h (j - 1) (by omega)
       exact ⟨by omega, by split <;> omega, h6.2.2⟩
 · refine .inr ⟨by omega, ?_⟩
   rw [hlen, hg, en]
   rw [show i.h.length + 1 - 1 = i.h.length by omega, if_neg (by omega)]
   by_cases c1 : i.h.length = posR i.h c
   · rw [if_pos c1]
     show c = _
     by_cases h0 : 0 < i.h.length
     · have h5 := vf_last v h0
       have h6 := hlt (i.h.length - 1) (by omega)
       rw [if_pos (by omega)]; omega
     · rcases v.e with h5 | h5
       · omega
       · rw [if_pos (by omega)]; omega
   · rw [if_neg c1]
     have h5 := vf_last v (by omega)
     have h6 := hge' (i.h.length - 1) (by omega) (by omega)
     rw [h5] at h6 ⊢
     rw [if_neg (by omega)]
theorem beh_out {i : In} (v : Vf i) (hl : 0 < i.l) : Vf (behI { i with l := 0, f := i.m, m := 0 } (posR i.h i.m)) := by
 have h1 := vf_win v
 have h2 := v.f
 have h3 := v.n
 have h4 := win_pow v.b
 have hP := pos_le i.h i.m
 have hm : i.f < i.m ∧ i.m ≤ i.n := by have := v.m; omega
 have e : behI { i with l := 0, f := i.m, m := 0 } (posR i.h i.m) = { onI (stpI { i with l := 0, f := i.m, m := 0 } (runN i.m (i.h.drop (posR i.h i.m)))) with h := (i.h.drop (posR i.h i.m)).drop (runN i.m (i.h.drop (posR i.h i.m))) } := by
   unfold behI; rw [List.drop_drop]
 rw [e]
 have hge : ∀ j, posR i.h i.m ≤ j → j < i.h.length → i.m ≤ (i.h.getD j Hl.z).c := fun j h5 h6 => by
   have h7 := pos_ge i.h i.m (by omega)
   by_cases h8 : posR i.h i.m = j
   · rw [← h8]; exact h7
   · have := v.asc (posR i.h i.m) j (by omega) h6; omega
 refine beh_ok (x := { i with l := 0, f := i.m, m := 0 }) v.b v.k (by show 0 ≤ i.m ∧ i.m ≤ _; omega) h3.2 v.t (.inl ⟨rfl, rfl⟩) (by show i.n ≤ i.m + winR i.b; omega) ?_ ?_ ?_
 · intro a b hab hb
   rw [List.length_drop] at hb
   rw [hd_drop, hd_drop]
   exact v.asc _ _ (by omega) (by omega)
 · intro j hj
   rw [List.length_drop] at hj
   rw [hd_drop]
   exact ⟨hge _ (by omega) (by omega), (v.h _ (by omega)).2⟩
 · rw [List.length_drop]
   have h0 : 0 < i.h.length := by rcases v.e with h5 | h5 <;> omega
   have h5 := vf_last v h0
   by_cases c1 : posR i.h i.m < i.h.length
   · refine .inr ⟨by omega, ?_⟩
     rw [hd_drop, show posR i.h i.m + (i.h.length - posR i.h i.m - 1) = i.h.length - 1 by omega]
     exact h5
   · refine .inl ⟨by omega, ?_⟩
     have h6 := pos_lt i.h i.m (i.h.length - 1) (by omega)
     show i.n ≤ i.m
     omega
theorem sg_top {b f x : Int} (h : bitsOk b = true) : sg b f x + 1 ≤ winR b ∧ - winR b ≤ sg b f x := by
 have h1 := lw_rng b (x - f)
 rw [(win_pow h).1]
 unfold sg
 rcases bits_cases h with rfl | rfl | rfl | rfl | rfl <;> (simp only [show ∀ n : Nat, (OfNat.ofNat n : Int).toNat = n from fun n => rfl] at *; split <;> (simp at *; omega))
theorem inf_win {b f x : Int} (h : (infR b f x).2 = 0) : bitsOk b = true ∧ (infR b f x).1 + 1 ≤ f + winR b ∧ 0 ≤ (infR b f x).1 ∧ (infR b f x).1 < 1048576 := by
 have h0 := inf_ok h
 unfold infR at *
 split at h
 · rename_i hc
   rw [if_pos hc] at h0 ⊢
   have := sg_top (f := f) (x := x) hc.1
   split at h
   · simp at h
   · rename_i h1
     rw [if_neg h1] at h0 ⊢
     split at h
     · rename_i h2
       rw [if_pos h2] at h0 ⊢
       exact ⟨hc.1, by dsimp only; omega, h0.1, h0.2⟩
     · simp at h
 · simp at h
theorem inf_near {b f c : Int} (hb : bitsOk b = true) (hf : 0 ≤ f ∧ f ≤ 1048576) (hc : countOk c = true) (h1 : c < f + winR b) (h2 : f - winR b ≤ c) : infR b f (lowR b c) = (c, 0) := by
 have hl : lowR b c = lw b c := by unfold lw; exact lowR_eq b c hb hc
 have hlp : 0 ≤ lowR b c ∧ lowR b c < 2 ^ b.toNat := by rw [hl]; exact lw_rng b c
 have hs : sg b f (lowR b c) = c - f := by
   have e : lw b (lowR b c - f) = lw b (c - f) := by rw [hl]; exact lw_sub_l b c f
   unfold sg
   rw [e]
   rw [(win_pow hb).1] at h1 h2
   unfold lw
   rcases bits_cases hb with rfl | rfl | rfl | rfl | rfl <;> (simp only [show ∀ n : Nat, (OfNat.ofNat n : Int).toNat = n from fun n => rfl] at *; split <;> (simp at *; omega))
 unfold infR
 rw [hs, if_pos ⟨hb, hf.1, hf.2, hlp.1, hlp.2⟩, show f + (c - f) = c by omega, if_neg (by simp [countOk] at hc; omega), if_pos hc]
theorem open_len {k : Ky} {b n : Int} {u : List UInt8} (h : (openR k b n u).2 = 0) : 1 ≤ (openR k b n u).1.length ∧ (openR k b n u).1.length ≤ 2048 := by
 by_cases h1 : k.ok = true
 · by_cases h2 : (bitsOk b && countOk n) = true
   · by_cases h3 : (numR b u).2 = 0
     · by_cases h4 : (numR b u).1 = lowR b n
       · have h5 := numR_ok h3
         rw [openR_ok h1 h2 h3 h4] at h ⊢
         split at h
         · rename_i h6
           rw [if_pos h6]
           show 1 ≤ (List.take _ _).length ∧ (List.take _ _).length ≤ 2048
           rw [List.length_take, xorL_len, List.length_drop]
           omega
         · simp at h
       · rw [openR_sn h1 h2 h3 h4] at h; simp at h
     · rw [openR_err h1 h2 h3] at h; exact absurd h h3
   · rw [openR_num u h1 (by simpa using h2)] at h; simp at h
 · rw [openR_key b n u (by simpa using h1)] at h; simp at h
theorem beh_kb (i : In) (j : Nat) : (behI i j).b = i.b ∧ (behI i j).k = i.k ∧ i.f ≤ (behI i j).f ∧ (behI i j).t = i.t := by
 have h := onI_k (stpI i (runN i.f (i.h.drop j)))
 refine ⟨h.1, h.2.1, ?_, h.2.2.2.1⟩
 show _ ≤ (onI _).f
 rw [h.2.2.1]
 show i.f ≤ i.f + _
 omega
theorem rcv_ok {i : In} (u : List UInt8) (v : Vf i) : Vf (rcvR i u).1 ∧ (rcvR i u).1.b = i.b ∧ (rcvR i u).1.k = i.k ∧ (rcvR i u).1.t = i.t ∧ i.f ≤ (rcvR i u).1.f := by
 have hb := inf_win (b := i.b) (f := i.f) (x := (numR i.b u).1)
 have hd := open_len (k := i.k) (b := i.b) (n := (infR i.b i.f (numR i.b u).1).1) (u := u)
 have hself : Vf i ∧ i.b = i.b ∧ i.k = i.k ∧ i.t = i.t ∧ i.f ≤ i.f := ⟨v, rfl, rfl, rfl, Int.le_refl _⟩
 unfold rcvR
 rw [if_pos v.to]
 split
 · split
   · rename_i h1 h2
     split
     · rename_i h3
       obtain ⟨-, hb1, hb2, hb3⟩ := hb h2
       have hd1 := hd h3
       generalize (openR i.k i.b (infR i.b i.f (numR i.b u).1).1 u).1 = d at *
       generalize (infR i.b i.f (numR i.b u).1).1 = c at *
       unfold takeR
       split
       · exact hself
       · split
         · exact hself
         · split
           · have h5 := beh_kb { i with f := i.f + 1 } 0
             refine ⟨beh_next v (by omega), h5.1, h5.2.1, h5.2.2.2, ?_⟩
             have := h5.2.2.1
             dsimp only at this ⊢
             omega
           · have h5 := beh_kb (putI i c d) 0
             refine ⟨beh_put v (by omega) hb3 hb1 (by simpa using ‹¬ hitR i.h c = true›) hd1, h5.1, h5.2.1, h5.2.2.2, h5.2.2.1⟩
     · exact hself
   · exact hself
 · exact hself
theorem tick_ok {i : In} (v : Vf i) : Vf (tickR i).1 ∧ (tickR i).1.b = i.b ∧ (tickR i).1.k = i.k ∧ (tickR i).1.t = i.t := by
 unfold tickR
 rw [if_pos v.to]
 split
 · exact ⟨v, rfl, rfl, rfl⟩
 · split
   · have h5 := beh_kb { i with l := 0, f := i.m, m := 0 } (posR i.h i.m)
     exact ⟨beh_out v (by omega), h5.1, h5.2.1, h5.2.2.2⟩
   · have h1 := v.l
     refine ⟨⟨v.b, v.k, v.f, v.n, v.t, ?_, ?_, v.w, v.h, v.e⟩, rfl, rfl, rfl⟩
     · show 0 ≤ i.l - 1 ∧ i.l - 1 ≤ i.t; omega
     · show (i.l - 1 = 0 ∧ i.m = 0) ∨ (0 < i.l - 1 ∧ i.f < i.m ∧ i.m ≤ i.n)
       have := v.m
       omega
open Go.RowKit
theorem new_vf {b t f : Int} (hb : bitsOk b = true) (ht : 0 ≤ t ∧ t ≤ 1000) (hf : 0 ≤ f ∧ f ≤ 1048576) : Vf ⟨b, awK, f, f, 0, 0, t, []⟩ := by
 have h2 := win_pow hb
 refine ⟨hb, awK_ok, hf, ⟨Int.le_refl _, hf.2⟩, ht, ⟨Int.le_refl _, ht.1⟩, .inl ⟨rfl, rfl⟩, ?_, fun j hj => absurd hj (by simp), .inr ⟨rfl, rfl⟩⟩
 show f ≤ iarith .add .i64 f (winR b)
 rw [iadd_in _ _ (by omega) (by omega)]
 omega
open Go.RowKit
theorem rcv_sent {i : In} (v : Vf i) {c : Int} (hk : i.k = awK) (h0 : 0 ≤ c ∧ c < 1048576) (h1 : c < i.f + winR i.b) (h2 : i.f - winR i.b ≤ c) : rcvR i (sealB i.b c) = takeR i c (putB c 3) := by
 have hc : countOk c = true := by simp [countOk]; omega
 have hs : sealB i.b c = sealL awK i.b c (putB c 3) := by
   unfold sealB
   rw [sealR_ok awK_ok (by rw [v.b, hc]; rfl) rfl]
 rw [hs]
 unfold rcvR
 rw [if_pos v.to, num_seal awK i.b c _ awK_ok v.b hc rfl, if_pos rfl, inf_near v.b v.f hc h1 h2, if_pos rfl]
 dsimp only
 rw [hk, open_seal awK i.b c _ awK_ok v.b hc rfl, if_pos rfl]
theorem mem_getD {l : List Hl} {x : Hl} (h : x ∈ l) : ∃ j, j < l.length ∧ l.getD j Hl.z = x := by
 obtain ⟨j, hj, e⟩ := List.getElem_of_mem h
 exact ⟨j, hj, by rw [List.getD_eq_getElem?_getD, List.getElem?_eq_getElem hj]; exact e⟩
theorem getD_mem {l : List Hl} {j : Nat} (h : j < l.length) : l.getD j Hl.z ∈ l := by
 rw [List.getD_eq_getElem?_getD, List.getElem?_eq_getElem h]; exact List.getElem_mem _
open Go.RowKit
variable {G : Nat → AV}
theorem b8_nat (n : Int) : ((b8 n).toNat : Int) = n % 256 := by
 have h := bAV_b8 n
 rw [IntKind.wrap_u8] at h
 exact (AV.int.inj h).2
theorem or8 (a : Int) (x : Nat) (h0 : 0 ≤ a) (h1 : a < 16777216) (hx : x < 256) : iarith .add .i64 (iarith .mul .i64 256 a) (IntKind.i64.wrap (x : Int)) = 256 * a + (x : Int) := by (exact T.num)
theorem get3_c (l : List UInt8) (hl : 3 ≤ l.length) : LSpec Tryd.prog G 14 [bv l, iAV 0, iAV 3] [] (fun _ => (iAV (65536 * ((l.getD 0 0).toNat : Int) + (256 * ((l.getD 1 0).toNat : Int) + (l.getD 2 0).toNat)), [])) := by
 refine goW [] Tryd.func14 rfl ?_
 conv => whnf
 repeat' ((first | refine T.s ?_ | ((first | apply goB | apply ABr.dec | apply ABr.gen) <;> intro h <;> try (exfalso; omega)) | refine LFresh.mk fun r => ?_ | (show SWpL _ _ _ _ _ _ _; first | refine SWpL.times 3 4 (by rfl) ?_ | refine AtL.step tyOk [] ?_) | exact T.z | refine ⟨_, rfl, rfl, ?_⟩ | fail) <;> conv => whnf)
 all_goals (try dsimp only)
 (show RetL _ _ _; refine goR ?_)
 have h0 := (l.getD 0 0).toNat_lt
 have h1 := (l.getD 1 0).toNat_lt
 have h2 := (l.getD 2 0).toNat_lt
 rw [show (iarith BinOp.add IntKind.i64 0 0).toNat * 1 = 0 from rfl, show (iarith BinOp.add IntKind.i64 0 (iarith BinOp.add IntKind.i64 0 1)).toNat * 1 = 1 from rfl, show (iarith BinOp.add IntKind.i64 0 (iarith BinOp.add IntKind.i64 (iarith BinOp.add IntKind.i64 0 1) 1)).toNat * 1 = 2 from rfl]
 generalize (l.getD 0 0).toNat = x at *
 generalize (l.getD 1 0).toNat = y at *
 generalize (l.getD 2 0).toNat = z at *
 refine congrArg (AV.int IntKind.i64) ?_
 rw [or8 0 x (by decide) (by decide) h0, or8 _ y (by omega) (by omega) h1, or8 _ z (by omega) (by omega) h2]
 omega
theorem sum3 (c : Int) (h0 : 0 ≤ c) (h1 : c < 16777216) : 65536 * (c / 65536 % 256) + (256 * (c / 256 % 256) + c % 256) = c := by omega
theorem getp_c (c : Int) (h : 0 ≤ c ∧ c < 16777216) : LSpec Tryd.prog G 14 [bv (putB c 3), iAV 0, iAV 3] [] (fun _ => (iAV c, [])) := by
 have h1 := get3_c (G := G) (putB c 3) (Nat.le_refl 3)
 have e0 : (((putB c 3).getD 0 0).toNat : Int) = (c / 65536) % 256 := by
   show ((b8 (c.fdiv (2 ^ min (8 * 2) 64))).toNat : Int) = _
   rw [b8_nat, Int.fdiv_eq_ediv_of_nonneg _ (by decide)]; rfl
 have e1 : (((putB c 3).getD 1 0).toNat : Int) = (c / 256) % 256 := by
   show ((b8 (c.fdiv (2 ^ min (8 * 1) 64))).toNat : Int) = _
   rw [b8_nat, Int.fdiv_eq_ediv_of_nonneg _ (by decide)]; rfl
 have e2 : (((putB c 3).getD 2 0).toNat : Int) = c % 256 := by
   show ((b8 (c.fdiv (2 ^ min (8 * 0) 64))).toNat : Int) = _
   rw [b8_nat, Int.fdiv_eq_ediv_of_nonneg _ (by decide), show (2 : Int) ^ min (8 * 0) 64 = 1 from rfl, Int.ediv_one]
 rw [e0, e1, e2, sum3 c h.1 h.2] at h1
 exact h1
open Go.RowKit
theorem beh_mark {x : In} {h : List Hl} (v : Vf { onI (stpI x (runN x.f h)) with h := h.drop (runN x.f h) }) (hm : 0 < x.l → ∃ y ∈ h, y.c = x.m - 1) :
   0 < (onI (stpI x (runN x.f h))).l → ∃ y ∈ h.drop (runN x.f h), y.c = (onI (stpI x (runN x.f h))).m - 1 := by
 intro hl
 have hyes := runN_yes h x.f
 have h1 := onI_k (stpI x (runN x.f h))
 have s3 : (stpI x (runN x.f h)).f = x.f + (runN x.f h : Int) := rfl
 have s6 : (stpI x (runN x.f h)).l = x.l := rfl
 have s7 : (stpI x (runN x.f h)).m = x.m := rfl
 obtain ⟨-, -, e3, -, e5, e6⟩ := h1
 generalize stpI x (runN x.f h) = z at *
 generalize onI z = y at *
 generalize runN x.f h = N at *
 rcases e6 with h2 | h2 | h2
 · omega
 · have h3 := vf_last v
   have h4 := v.e
   dsimp only at h3 h4
   have h5 : 0 < (h.drop N).length := by
     rcases h4 with h4 | h4
     · exact h4.2.2
     · omega
   exact ⟨_, getD_mem (l := h.drop N) (j := (h.drop N).length - 1) (by omega), by rw [h3 h5]; omega⟩
 · obtain ⟨w, hw, hc⟩ := hm (by omega)
   refine ⟨w, ?_, by omega⟩
   obtain ⟨j, hj, rfl⟩ := mem_getD hw
   by_cases h3 : j < N
   · have := hyes j h3
     omega
   · rw [show j = N + (j - N) by omega, ← hd_drop]
     exact getD_mem (by rw [List.length_drop]; omega)
structure OrdS (i : In) (last b0 t0 r : Int) : Prop where
 v : Vf i
 b : i.b = b0
 k : i.k = awK
 t : i.t = t0
 f : i.f = last + 1
 h : ∀ x ∈ i.h, x.d = putB x.c 3
 n : i.n ≤ r
 m : 0 < i.l → ∃ x ∈ i.h, x.c = i.m - 1
def lkN (last : Int) (xs : List Int) (k : Nat) : Int := (last :: xs).getD k 0
def psB (xs : List Int) : List (List UInt8) := xs.map fun c => putB c 3
structure StpS (i2 : In) (xs : List Int) (last b0 t0 r : Int) : Prop where
 s : OrdS i2 (lkN last xs xs.length) b0 t0 r
 a : ∀ k, k < xs.length → lkN last xs k < lkN last xs (k + 1) ∧ 0 ≤ lkN last xs (k + 1) ∧ lkN last xs (k + 1) < 16777216
 z : t0 = 0 → ∀ k, k < xs.length → lkN last xs (k + 1) = lkN last xs k + 1
theorem stp_none {i : In} {last b0 t0 r : Int} (s : OrdS i last b0 t0 r) (r2 : Int) (hr : r ≤ r2) : StpS i [] last b0 t0 r2 :=
 ⟨⟨s.v, s.b, s.k, s.t, s.f, s.h, Int.le_trans s.n hr, s.m⟩, fun k hk => absurd hk (by simp), fun _ k hk => absurd hk (by simp)⟩
theorem ord_bad {i : In} {last b0 t0 r : Int} (s : OrdS i last b0 t0 r) {c : Int} (hc : 996 ≤ c ∧ c ≤ 999) (hf : i.f ≤ 3) : ∃ e, rcvR i (sealB b0 c) = (i, [], e) ∧ ¬ e = 0 := by
 have hb := s.v.b
 have h0 := s.v.f
 have hcc : countOk c = true := by simp [countOk]; omega
 have hs : sealB b0 c = sealL awK i.b c (putB c 3) := by
   unfold sealB
   rw [← s.b, sealR_ok awK_ok (by rw [s.v.b, hcc]; rfl) rfl]
 have hn := num_seal awK i.b c (putB c 3) awK_ok s.v.b hcc rfl
 rw [← hs] at hn
 have key : ((infR i.b i.f (lowR i.b c)).2 = 0 ∧ ¬ (openR awK i.b (infR i.b i.f (lowR i.b c)).1 (sealB b0 c)).2 = 0) ∨ ¬ (infR i.b i.f (lowR i.b c)).2 = 0 := by
   have h1 : c = 996 ∨ c = 997 ∨ c = 998 ∨ c = 999 := by omega
   have h2 : i.f = 0 ∨ i.f = 1 ∨ i.f = 2 ∨ i.f = 3 := by omega
   by_cases h5 : i.b = 5
   · left
     have e1 : infR 5 i.f (lowR 5 c) = (c - 992, 0) := by
       rcases h1 with rfl | rfl | rfl | rfl <;> rcases h2 with h2 | h2 | h2 | h2 <;> rw [h2] <;> decide +kernel
     have e2 : (openR awK 5 (c - 992) (sealL awK 5 c (putB c 3))).2 = 6 := by
       rcases h1 with rfl | rfl | rfl | rfl <;> decide +kernel
     rw [hs, h5, e1]
     exact ⟨rfl, by rw [e2]; decide⟩
   · right
     have e1 : (infR i.b i.f (lowR i.b c)).2 = 11 := by
       rcases bits_cases hb with h3 | h3 | h3 | h3 | h3
       · exact absurd h3 h5
       all_goals rw [h3]; rcases h1 with rfl | rfl | rfl | rfl <;> rcases h2 with h2 | h2 | h2 | h2 <;> rw [h2] <;> decide +kernel
     rw [e1]; decide
 unfold rcvR
 rw [if_pos s.v.to, hn, if_pos rfl, s.k]
 dsimp only
 rcases key with ⟨k1, k2⟩ | k1
 · rw [if_pos k1, if_neg k2]; exact ⟨_, rfl, k2⟩
 · rw [if_neg k1]; exact ⟨_, rfl, k1⟩
theorem lk_suc (last : Int) (xs : List Int) (k : Nat) : lkN last xs (k + 1) = xs.getD k 0 := rfl
theorem cs_get (h : List Hl) (n k : Nat) (hk : k < n) (hn : n ≤ h.length) : ((h.take n).map (·.c)).getD k 0 = (h.getD k Hl.z).c := by
 rw [List.getD_eq_getElem?_getD, List.getElem?_map, List.getElem?_take, if_pos hk, List.getD_eq_getElem?_getD, List.getElem?_eq_getElem (by omega)]
 rfl
theorem ds_cs {h : List Hl} (hh : ∀ x ∈ h, x.d = putB x.c 3) (n : Nat) : (h.take n).map (·.d) = psB ((h.take n).map (·.c)) := by
 unfold psB
 rw [List.map_map]
 exact List.map_congr_left fun x hx => hh x (List.mem_of_mem_take hx)
theorem beh_e (x : In) : behI x 0 = { onI (stpI x (runN x.f x.h)) with h := x.h.drop (runN x.f x.h) } := by
 unfold behI; simp only [List.drop_zero, Nat.zero_add]
theorem ord_rcv {i : In} {last b0 t0 r : Int} (s : OrdS i last b0 t0 r) (hr : r ≤ 400) {c : Int} (h0 : 0 ≤ c) (h1 : i.f - 4 ≤ c) (h2 : c ≤ i.f + 5) :
   ∃ i2 xs e, rcvR i (sealB b0 c) = (i2, psB xs, e) ∧ StpS i2 xs last b0 t0 (r + 6) ∧ (¬ e = 0 → xs.length = 0) := by
 have hf := s.v.f
 have hn := s.v.n
 have hsn := s.n
 have hw := win_pow s.v.b
 have e := rcv_sent s.v (c := c) s.k (by omega) (by omega) (by omega)
 rw [s.b] at e
 have hok := rcv_ok (sealB b0 c) s.v
 rw [e] at hok ⊢
 unfold takeR at hok ⊢
 by_cases c1 : c < i.f
 · rw [if_pos c1]
   exact ⟨i, [], 11, rfl, stp_none s _ (by omega), fun _ => rfl⟩
 rw [if_neg c1] at hok ⊢
 by_cases c2 : hitR i.h c = true
 · rw [if_pos c2]
   exact ⟨i, [], 12, rfl, stp_none s _ (by omega), fun _ => rfl⟩
 rw [if_neg c2] at hok ⊢
 by_cases c3 : c = i.f
 · rw [if_pos c3] at hok ⊢
   have hM := runN_le i.h (i.f + 1)
   have hyes := runN_yes i.h (i.f + 1)
   have e3 : behO { i with f := i.f + 1 } 0 = (i.h.take (runN (i.f + 1) i.h)).map (·.d) := by
     unfold behO; simp only [List.drop_zero, Nat.zero_add]
   have ev : Vf { onI (stpI { i with f := i.f + 1 } (runN (i.f + 1) i.h)) with h := i.h.drop (runN (i.f + 1) i.h) } := by
     have := hok.1; rwa [beh_e] at this
   have em := beh_mark (x := { i with f := i.f + 1 }) (h := i.h) ev s.m
   have ek := onI_k (stpI { i with f := i.f + 1 } (runN (i.f + 1) i.h))
   have s3 : (stpI { i with f := i.f + 1 } (runN (i.f + 1) i.h)).f = i.f + 1 + (runN (i.f + 1) i.h : Int) := rfl
   have s5 : nxV (stpI { i with f := i.f + 1 } (runN (i.f + 1) i.h)) = if i.n < i.f + 1 + (runN (i.f + 1) i.h : Int) then i.f + 1 + (runN (i.f + 1) i.h : Int) else i.n := rfl
   have s1 : (stpI { i with f := i.f + 1 } (runN (i.f + 1) i.h)).b = i.b := rfl
   have s2 : (stpI { i with f := i.f + 1 } (runN (i.f + 1) i.h)).k = i.k := rfl
   have s4 : (stpI { i with f := i.f + 1 } (runN (i.f + 1) i.h)).t = i.t := rfl
   rw [beh_e, e3]
   show ∃ i2 xs e, ({ onI (stpI { i with f := i.f + 1 } (runN (i.f + 1) i.h)) with h := i.h.drop (runN (i.f + 1) i.h) }, [putB c 3] ++ (i.h.take (runN (i.f + 1) i.h)).map (·.d), (0 : Int)) = (i2, psB xs, e) ∧ _
   rw [ds_cs s.h]
   have em' : 0 < (onI (stpI { i with f := i.f + 1 } (runN (i.f + 1) i.h))).l → ∃ y ∈ i.h.drop (runN (i.f + 1) i.h), y.c = (onI (stpI { i with f := i.f + 1 } (runN (i.f + 1) i.h))).m - 1 := em
   clear em
   generalize stpI { i with f := i.f + 1 } (runN (i.f + 1) i.h) = z at *
   generalize onI z = y at *
   generalize runN (i.f + 1) i.h = M at *
   obtain ⟨k1, k2, k3, k4, k5, -⟩ := ek
   have hlen : (c :: (i.h.take M).map (·.c)).length = M + 1 := by
     rw [List.length_cons, List.length_map, List.length_take]; omega
   have hlk : ∀ k, k ≤ M + 1 → lkN last (c :: (i.h.take M).map (·.c)) k = last + (k : Int) := fun k hk => by
     cases k with
     | zero => show last = last + ((0 : Nat) : Int); omega
     | succ k =>
       cases k with
       | zero => show c = last + ((0 + 1 : Nat) : Int); have := s.f; omega
       | succ k =>
         show ((i.h.take M).map (·.c)).getD k 0 = _
         rw [cs_get _ _ _ (by omega) hM, hyes k (by omega)]
         have := s.f
         omega
   have hfM : 0 < M → i.f + 1 + (M : Int) ≤ i.n := fun h5 => by
     have h6 := hyes (M - 1) (by omega)
     have h7 := (s.v.h (M - 1) (by omega)).2.1
     omega
   have hsf := s.f
   refine ⟨_, c :: (i.h.take M).map (·.c), 0, rfl, ⟨⟨ev, k1.trans (s1.trans s.b), k2.trans (s2.trans s.k), k4.trans (s4.trans s.t), ?_, fun x hx => s.h x (List.mem_of_mem_drop hx), ?_, em'⟩, ?_, ?_⟩, fun h => absurd rfl h⟩
   · rw [hlen, hlk _ (Nat.le_refl _)]
     show y.f = _
     rw [k3, s3]; omega
   · show y.n ≤ _
     rw [k5, s5]
     by_cases h5 : 0 < M
     · have := hfM h5; split <;> omega
     · split <;> omega
   · intro k hk
     rw [hlen] at hk
     rw [hlk k (by omega), hlk (k + 1) (by omega)]
     have hM2 : i.f + 1 + (M : Int) ≤ 1048577 := by
       by_cases h5 : 0 < M
       · have := hfM h5; omega
       · omega
     omega
   · intro _ k hk
     rw [hlen] at hk
     rw [hlk k (by omega), hlk (k + 1) (by omega)]
     omega
 · rw [if_neg c3] at hok ⊢
   have hlo := s.v.lo
   have eh : (putI i c (putB c 3)).h = insL i.h (posR i.h c) ⟨c, putB c 3⟩ := rfl
   have ef : (putI i c (putB c 3)).f = i.f := rfl
   have en : (putI i c (putB c 3)).n = if i.n < c + 1 then c + 1 else i.n := rfl
   have hmem : ∀ x, x ∈ insL i.h (posR i.h c) ⟨c, putB c 3⟩ ↔ x = ⟨c, putB c 3⟩ ∨ x ∈ i.h := fun x => by
     unfold insL
     rw [List.mem_append, List.mem_cons]
     have h5 : x ∈ i.h ↔ x ∈ i.h.take (posR i.h c) ∨ x ∈ i.h.drop (posR i.h c) := by
       rw [← List.mem_append, List.take_append_drop]
     rw [h5]
     constructor
     · rintro (h | h | h)
       · exact .inr (.inl h)
       · exact .inl h
       · exact .inr (.inr h)
     · rintro (h | h | h)
       · exact .inr (.inl h)
       · exact .inl h
       · exact .inr (.inr h)
   have hrun : runN i.f (insL i.h (posR i.h c) ⟨c, putB c 3⟩) = 0 := by
     rcases Nat.eq_zero_or_pos (runN i.f (insL i.h (posR i.h c) ⟨c, putB c 3⟩)) with h5 | h5
     · exact h5
     · exfalso
       have h6 := runN_yes _ _ 0 h5
       have h7 := runN_le (insL i.h (posR i.h c) ⟨c, putB c 3⟩) i.f
       have h8 := (hmem _).1 (getD_mem (l := insL i.h (posR i.h c) ⟨c, putB c 3⟩) (j := 0) (by omega))
       generalize (insL i.h (posR i.h c) ⟨c, putB c 3⟩).getD 0 Hl.z = x at *
       rcases h8 with rfl | h8
       · dsimp only at h6; omega
       · obtain ⟨m, hm, rfl⟩ := mem_getD h8
         have := hlo m hm
         omega
   have e3 : behO (putI i c (putB c 3)) 0 = [] := by
     unfold behO
     rw [eh, ef, List.drop_zero, hrun]; rfl
   have ev : Vf { onI (stpI (putI i c (putB c 3)) (runN (putI i c (putB c 3)).f (putI i c (putB c 3)).h)) with h := (putI i c (putB c 3)).h.drop (runN (putI i c (putB c 3)).f (putI i c (putB c 3)).h) } := by
     have := hok.1; rwa [beh_e] at this
   have em := beh_mark (x := putI i c (putB c 3)) (h := (putI i c (putB c 3)).h) ev (fun h => by
     obtain ⟨x, hx, h5⟩ := s.m h
     exact ⟨x, (hmem x).2 (.inr hx), h5⟩)
   rw [beh_e, e3]
   rw [ef, eh, hrun] at ev em ⊢
   have ek := onI_k (stpI (putI i c (putB c 3)) 0)
   have s3 : (stpI (putI i c (putB c 3)) 0).f = i.f + ((0 : Nat) : Int) := rfl
   have s5 : nxV (stpI (putI i c (putB c 3)) 0) = if (putI i c (putB c 3)).n < (putI i c (putB c 3)).f + ((0 : Nat) : Int) then (putI i c (putB c 3)).f + ((0 : Nat) : Int) else (putI i c (putB c 3)).n := rfl
   have s1 : (stpI (putI i c (putB c 3)) 0).b = i.b := rfl
   have s2 : (stpI (putI i c (putB c 3)) 0).k = i.k := rfl
   have s4 : (stpI (putI i c (putB c 3)) 0).t = i.t := rfl
   rw [en, ef] at s5
   generalize stpI (putI i c (putB c 3)) 0 = z at *
   generalize onI z = y at *
   obtain ⟨k1, k2, k3, k4, k5, -⟩ := ek
   have hsf := s.f
   refine ⟨_, [], 0, rfl, ⟨⟨ev, k1.trans (s1.trans s.b), k2.trans (s2.trans s.k), k4.trans (s4.trans s.t), ?_, ?_, ?_, em⟩, fun k hk => absurd hk (by simp), fun _ k hk => absurd hk (by simp)⟩, fun _ => rfl⟩
   · show y.f = last + 1
     rw [k3, s3]; omega
   · intro x hx
     have hx : x ∈ List.drop 0 (insL i.h (posR i.h c) ⟨c, putB c 3⟩) := hx
     rw [List.drop_zero] at hx
     rcases (hmem x).1 hx with rfl | hx
     · rfl
     · exact s.h x hx
   · show y.n ≤ _
     rw [k5, s5]
     split <;> split <;> omega
theorem ord_tick {i : In} {last b0 t0 r : Int} (s : OrdS i last b0 t0 r) : ∃ i2 xs, tickR i = (i2, psB xs, 0) ∧ StpS i2 xs last b0 t0 (r + 6) := by
 have hok := tick_ok s.v
 have hf := s.v.f
 have hn := s.v.n
 have hsn := s.n
 have hsf := s.f
 have hl := s.v.l
 unfold tickR at hok ⊢
 rw [if_pos s.v.to] at hok ⊢
 by_cases c1 : i.l = 0
 · rw [if_pos c1]
   exact ⟨i, [], rfl, stp_none s _ (by omega)⟩
 rw [if_neg c1] at hok ⊢
 by_cases c2 : i.l = 1
 · rw [if_pos c2] at hok ⊢
   have hmm : i.f < i.m ∧ i.m ≤ i.n := by have := s.v.m; omega
   have hP := pos_le i.h i.m
   have hlt := pos_lt i.h i.m
   have hasc := s.v.asc
   obtain ⟨w, hw, hwc⟩ := s.m (by omega)
   obtain ⟨j0, hj0, rfl⟩ := mem_getD hw
   have hj1 : j0 < posR i.h i.m := by
     rcases Nat.lt_or_ge j0 (posR i.h i.m) with h | h
     · exact h
     · exfalso
       have h3 := pos_ge i.h i.m (by omega)
       by_cases h4 : posR i.h i.m = j0
       · rw [h4] at h3; omega
       · have := hasc _ _ (show posR i.h i.m < j0 by omega) hj0; omega
   have hlast : (i.h.getD (posR i.h i.m - 1) Hl.z).c = i.m - 1 := by
     have h3 := hlt (posR i.h i.m - 1) (by omega)
     by_cases h4 : j0 = posR i.h i.m - 1
     · rw [← h4]; exact hwc
     · have := hasc _ _ (show j0 < posR i.h i.m - 1 by omega) (by omega); omega
   have hM := runN_le (i.h.drop (posR i.h i.m)) i.m
   have hyes := runN_yes (i.h.drop (posR i.h i.m)) i.m
   rw [List.length_drop] at hM
   have e : behI { i with l := 0, f := i.m, m := 0 } (posR i.h i.m) = { onI (stpI { i with l := 0, f := i.m, m := 0 } (runN i.m (i.h.drop (posR i.h i.m)))) with h := (i.h.drop (posR i.h i.m)).drop (runN i.m (i.h.drop (posR i.h i.m))) } := by
     unfold behI; rw [List.drop_drop]
   have e3 : behO { i with l := 0, f := i.m, m := 0 } (posR i.h i.m) = (i.h.take (posR i.h i.m + runN i.m (i.h.drop (posR i.h i.m)))).map (·.d) := rfl
   have ev : Vf { onI (stpI { i with l := 0, f := i.m, m := 0 } (runN i.m (i.h.drop (posR i.h i.m)))) with h := (i.h.drop (posR i.h i.m)).drop (runN i.m (i.h.drop (posR i.h i.m))) } := by
     have := hok.1; rwa [e] at this
   have em := beh_mark (x := { i with l := 0, f := i.m, m := 0 }) (h := i.h.drop (posR i.h i.m)) ev (fun h => absurd h (by show ¬ (0 : Int) < 0; decide))
   have em' : 0 < (onI (stpI { i with l := 0, f := i.m, m := 0 } (runN i.m (i.h.drop (posR i.h i.m))))).l → ∃ y ∈ (i.h.drop (posR i.h i.m)).drop (runN i.m (i.h.drop (posR i.h i.m))), y.c = (onI (stpI { i with l := 0, f := i.m, m := 0 } (runN i.m (i.h.drop (posR i.h i.m))))).m - 1 := em
   clear em
   have ek := onI_k (stpI { i with l := 0, f := i.m, m := 0 } (runN i.m (i.h.drop (posR i.h i.m))))
   have s3 : (stpI { i with l := 0, f := i.m, m := 0 } (runN i.m (i.h.drop (posR i.h i.m)))).f = i.m + (runN i.m (i.h.drop (posR i.h i.m)) : Int) := rfl
   have s5 : nxV (stpI { i with l := 0, f := i.m, m := 0 } (runN i.m (i.h.drop (posR i.h i.m)))) = if i.n < i.m + (runN i.m (i.h.drop (posR i.h i.m)) : Int) then i.m + (runN i.m (i.h.drop (posR i.h i.m)) : Int) else i.n := rfl
   have s1 : (stpI { i with l := 0, f := i.m, m := 0 } (runN i.m (i.h.drop (posR i.h i.m)))).b = i.b := rfl
   have s2 : (stpI { i with l := 0, f := i.m, m := 0 } (runN i.m (i.h.drop (posR i.h i.m)))).k = i.k := rfl
   have s4 : (stpI { i with l := 0, f := i.m, m := 0 } (runN i.m (i.h.drop (posR i.h i.m)))).t = i.t := rfl
   rw [e, e3, ds_cs s.h]
   generalize stpI { i with l := 0, f := i.m, m := 0 } (runN i.m (i.h.drop (posR i.h i.m))) = z at *
   generalize onI z = y at *
   generalize runN i.m (i.h.drop (posR i.h i.m)) = M at *
   generalize posR i.h i.m = J at *
   obtain ⟨k1, k2, k3, k4, k5, -⟩ := ek
   have hlen : ((i.h.take (J + M)).map (·.c)).length = J + M := by
     rw [List.length_map, List.length_take]; omega
   have hget : ∀ k, k < J + M → lkN last ((i.h.take (J + M)).map (·.c)) (k + 1) = (i.h.getD k Hl.z).c := fun k hk => by
     rw [lk_suc]; exact cs_get _ _ _ hk (by omega)
   have hrng := s.v.rng
   have hend : lkN last ((i.h.take (J + M)).map (·.c)) (J + M) = i.m + (M : Int) - 1 := by
     rw [show J + M = (J + M - 1) + 1 by omega]
     rw [show (J + M - 1) + 1 = J + M by omega] at *
     have h3 := hget (J + M - 1) (by omega)
     rw [show J + M - 1 + 1 = J + M by omega] at h3
     rw [h3]
     by_cases h4 : M = 0
     · subst h4; rw [Nat.add_zero, hlast]; omega
     · have h5 := hyes (M - 1) (by omega)
       rw [hd_drop, show J + (M - 1) = J + M - 1 by omega] at h5
       rw [h5]; omega
   have hMn : i.m + (M : Int) ≤ i.n := by
     by_cases h4 : M = 0
     · subst h4; omega
     · have h5 := hyes (M - 1) (by omega)
       rw [hd_drop] at h5
       have h6 := (s.v.h (J + (M - 1)) (by omega)).2.1
       omega
   refine ⟨_, (i.h.take (J + M)).map (·.c), rfl, ⟨⟨ev, k1.trans (s1.trans s.b), k2.trans (s2.trans s.k), k4.trans (s4.trans s.t), ?_, fun x hx => s.h x (List.mem_of_mem_drop (List.mem_of_mem_drop hx)), ?_, em'⟩, ?_, ?_⟩⟩
   · rw [hlen, hend]
     show y.f = _
     rw [k3, s3]; omega
   · show y.n ≤ _
     rw [k5, s5]
     split <;> omega
   · intro k hk
     rw [hlen] at hk
     rw [hget k hk]
     have h3 := hrng k (by omega)
     refine ⟨?_, h3.1, by omega⟩
     cases k with
     | zero =>
       show last < _
       have := s.v.lo 0 (by omega)
       omega
     | succ k =>
       rw [hget k (by omega)]
       exact hasc _ _ (by omega) (by omega)
   · intro h3
     have := s.t
     omega
 · rw [if_neg c2] at hok ⊢
   exact ⟨_, [], rfl, ⟨⟨hok.1, s.b, s.k, s.t, s.f, s.h, by show i.n ≤ _; omega, fun h => s.m (by have h' : 0 < i.l - 1 := h; omega)⟩, fun k hk => absurd hk (by simp), fun _ k hk => absurd hk (by simp)⟩⟩
end Go.Proofs.YtnmifddidgofaaaDoor
