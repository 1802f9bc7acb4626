/-
  Contracts of the functions that the laws reach.
-/
import Derived.ProofKit
import Derived.OpenShut
import Derived.LaidMore
import Derived.Stop.Joined
import Derived.Test.YtnmifddidgofaaaDoorDz01
import Derived.Test.YtnmifddidgofaaaDoorDz02
import Derived.Test.YtnmifddidgofaaaDoorDz03
import Derived.Test.YtnmifddidgofaaaDoorDz04
import Derived.Test.YtnmifddidgofaaaDoorDz05
import Derived.Test.YtnmifddidgofaaaDoorDz06
import Derived.Test.YtnmifddidgofaaaDoorDz07
import Derived.Test.YtnmifddidgofaaaDoorDz08
import Derived.Test.YtnmifddidgofaaaDoorDz09
import Derived.Test.YtnmifddidgofaaaDoorDz10
set_option maxHeartbeats 16000000
set_option linter.all false
namespace Go.Proofs.YtnmifddidgofaaaDoor
open Go.RowKit
section
variable {P : Program} {T : Tys} {G : Nat → AV} {N : Nat} {e : Env} {l : LS}
theorem CutL.adoptP (hT : TOk P T) (C : List Nat) (p : Nm) (j sz : Nat) (t : TypeId) {x y : Code} {Q : Exit → Env → LS → Prop} (h : LHas l p fun d s _ => j < d.cs.length ∧ d.cs.getD j .any = .nils ∧ ∀ q, AWpL P T G N C x (QseqL (AWpL P T G N C y Q) Q) e ((q, ⟨t, []⟩) :: s ⟨d.ty, d.cs.set j (.vw q 0 0 sz)⟩)) : CutL P G N x y Q e l :=
 ⟨SWpL.adoptP p j sz t (LHas.mono h fun _ _ _ h => ⟨h.1, h.2.1, fun q => (CutL.go hT C (h.2.2 q)).run⟩)⟩
end
theorem gl_yl : ∀ g, (gl g).isYl = false := fun g => by unfold gl; split <;> rfl
def putI (i : In) (c : Int) (d : List UInt8) : In := { i with n := if i.n < c + 1 then c + 1 else i.n, h := insL i.h (posR i.h c) ⟨c, d⟩ }
def putJ (i : In) (x c : Int) (d : List UInt8) : In := { i with n := if i.n < x then x else i.n, h := insL i.h (posR i.h c) ⟨c, d⟩ }
def takeR (i : In) (c : Int) (d : List UInt8) : In × List (List UInt8) × Int :=
 if c < i.f then (i, [], 11) else if hitR i.h c = true then (i, [], 12) else if c = i.f then (behI { i with f := i.f + 1 } 0, [d] ++ behO { i with f := i.f + 1 } 0, 0) else (behI (putI i c d) 0, behO (putI i c d) 0, 0)
def rcvR (i : In) (u : List UInt8) : In × List (List UInt8) × Int :=
 if i.ok = true then (if (numR i.b u).2 = 0 then (if (infR i.b i.f (numR i.b u).1).2 = 0 then (if (openR i.k i.b (infR i.b i.f (numR i.b u).1).1 u).2 = 0 then
   takeR i (infR i.b i.f (numR i.b u).1).1 (openR i.k i.b (infR i.b i.f (numR i.b u).1).1 u).1
   else (i, [], (openR i.k i.b (infR i.b i.f (numR i.b u).1).1 u).2)) else (i, [], (infR i.b i.f (numR i.b u).1).2)) else (i, [], (numR i.b u).2)) else (inZ, [], 1)
theorem insL_len (l : List Hl) (i : Nat) (h : Hl) : (insL l i h).length = l.length + 1 := by
 simp only [insL, List.length_append, List.length_take, List.length_cons, List.length_drop]; omega
theorem inf_ok {b f x : Int} (h : (infR b f x).2 = 0) : 0 ≤ (infR b f x).1 ∧ (infR b f x).1 < 1048576 := by
 unfold infR at *
 split at h
 · split at h
   · simp at h
   · split at h
     · rename_i h1 h2 h3
       rw [if_pos h1, if_neg h2, if_pos h3]
       with_unfolding_all exact of_decide_eq_true h3
     · simp at h
 · simp at h
theorem ret_side0 {x : In} {n : Nat} {o : Nm} {outs : List (List UInt8)} {e : Int} {l : LS} (hx : x.h = []) (hn : n = outs.length) (h : LHas l o fun c' _ _ => c'.cs = outC outs) :
   RetL (fun _ => (rAV (x, outs, e), [])) (.tup [.agg (inC x (.sl 0 [])), .vw o 0 n 1, iAV e]) l := by
 have h2 : LHas l o fun c _ _ => c.cs = outs.map bv ∧ n = outs.length := LHas.mono h fun _ _ _ h => ⟨h, hn⟩
 have h3 : LEra l [o] (LSub []) := LHas.mono h fun _ _ r h => LSub.nil
 refine RetL.frz [o] (LF.tup ⟨LF.agg ⟨LF.eq rfl, LF.eq rfl, LF.eq rfl, LF.eq rfl, LF.eq rfl, LF.eq rfl, LF.eq rfl, LF.eq rfl, LF.eq rfl, LF.eq rfl, LF.eq rfl, ?_, trivial⟩, LF.rowF InL.here h2, LF.eq rfl, trivial⟩) h3
 show LF l [o] _ (hlv x.h)
 rw [hx]
 exact LF.eq rfl
theorem drop_ge {l : List Hl} {N : Nat} (h : ¬ (N = 0 ∨ N < l.length)) : l.drop N = [] := List.drop_eq_nil_of_le (by omega)
theorem flat_ib (n : Int) (b : Bool) : Flat (.tup [iAV n, .bool b]) := Flat.tup fun x hx => by
 simp only [List.mem_cons, List.not_mem_nil, or_false] at hx
 rcases hx with rfl | rfl
 · exact Flat.int _ _
 · exact Flat.bool _
theorem dreceive_c (i : In) (u : List UInt8) (hl : i.h.length ≤ 99999) : LSpec Tryd.prog gl 12 [i.av, bv u] [] (fun _ => (rAV (rcvR i u), [])) := by
 have hv := dvalid_c (G := gl) i (by omega)
 cases hok : i.ok with
 | false =>
   rw [show rcvR i u = (inZ, [], 1) by unfold rcvR; rw [if_neg (by rw [hok]; decide)]]
   rw [hok] at hv
   refine goW [] Tryd.func12 rfl ?_
   conv => whnf
   repeat' ((first | exact Nm.b 0 | (show LCall _ _ _ _ _ _; first | refine LCall.pure (hv) ?_ | refine goE ?_) | refine T.s ?_ | ((first | apply goB | apply ABr.dec | apply ABr.gen) <;> intro h <;> try (exfalso; omega)) | refine LFresh.mk fun r => ?_ | (show SWpL _ _ _ _ _ _ _; first | (refine goD tyOk mixed 24 [7, 8] [0, 1, 2, 3, 4, 5, 6, 7, 8, 9, 10] [] (by kernel_rfl) ?_)) | exact T.z | fail) <;> conv => whnf)
   all_goals (try dsimp only)
   exact ret_zero
 | true =>
   have v := Vf.of hok
   rw [hok] at hv
   have hc := dclone_o (G := gl) i v.k (by omega) (fun k hk => by have := (v.h k hk).2.2.2; omega)
   have hnum := number_c i.b u
   have hinf := infer_c (G := gl) i.b i.f (numR i.b u).1
   have hopen := open_c i.k i.b (infR i.b i.f (numR i.b u).1).1 u
   have hC := inf_ok (b := i.b) (f := i.f) (x := (numR i.b u).1)
   unfold rcvR
   rw [if_pos hok]
   generalize openR i.k i.b (infR i.b i.f (numR i.b u).1).1 u = D at *
   generalize infR i.b i.f (numR i.b u).1 = C at *
   generalize numR i.b u = S at *
   obtain ⟨C, ce⟩ := C
   obtain ⟨D, de⟩ := D
   obtain ⟨S, se⟩ := S
   dsimp only at *
   have e1 : iarith .add .i64 i.f 1 = i.f + 1 := by have h1 := v.f; (exact T.num)
   have hK1 := Classical.em (0 + runN (iarith .add .i64 i.f 1) (i.h.drop 0) = 0 ∨ 0 + runN (iarith .add .i64 i.f 1) (i.h.drop 0) < i.h.length)
   have hK2 := Classical.em (0 + runN (putJ i (iarith .add .i64 C 1) C D).f ((putJ i (iarith .add .i64 C 1) C D).h.drop 0) = 0 ∨ 0 + runN (putJ i (iarith .add .i64 C 1) C D).f ((putJ i (iarith .add .i64 C 1) C D).h.drop 0) < (putJ i (iarith .add .i64 C 1) C D).h.length)
   refine goW [3, 23] Tryd.func12 rfl ?_
   conv => whnf
   repeat' ((first | (rcases hK1 with hK | hK <;> first | rw [hvA_lt hK] | rw [hvA_ge hK]) | (rcases hK2 with hK | hK <;> first | rw [hvA_lt hK] | rw [hvA_ge hK]) | (show LCall _ _ _ [.vw _ _ _ _, _] _ _; refine LCall.lend (find_c i.h C (by omega) v.asc v.rng (by have := hC (by assumption); omega)) [q] ⟨LF.row InL.here ?_, LF.eq rfl, trivial⟩ ?_ ?_) | (show LCall _ _ _ [.vw _ _ _ _, _, _] _ _; apply LCall.manyD (fun hnd => hins_c i.h (posR i.h C) ⟨C, D⟩ (pos_le _ _) (by omega) q _ (by exact hnd))) | (show CutL _ _ _ (.region 23 _ _) _ _ _ _; first | (refine CutL.adoptP tyOk [3, 23] s 12 1 27 ?_; (repeat first | refine goH ?_ | apply LHas.here | apply LHas.next); refine ⟨Nat.le_of_ble_eq_true rfl, rfl, fun o => ?_⟩; (try dsimp only)) | refine CutL.go tyOk [3, 23] ?_) | (show LCall _ _ _ [.ptr _ 0] _ _; first | (apply LCall.manyD (fun hnd => dproceed_b (hv0 := .vw q 0 i.h.length 2) gl_yl { i with f := iarith .add .i64 i.f 1 } 0 [D] s q _ (by dsimp only; omega) (by dsimp only; have := v.f; omega) (Nat.zero_le _) (Nat.le_of_ble_eq_true rfl) (by exact hnd) (hvA_0 q i.h.length)); (repeat first | refine goH ?_ | apply LHas.here | apply LHas.next); refine ⟨rfl, ?_⟩) | apply LCall.manyD (fun hnd => dproceed_b (hv0 := .vw r 0 (i.h.length + 1) 2) gl_yl (putJ i (iarith .add .i64 C 1) C D) 0 [] s r _ (by show (insL _ _ _).length ≤ _; rw [insL_len]; omega) (by show 0 ≤ i.f ∧ i.f ≤ _; have := v.f; omega) (Nat.zero_le _) (Nat.le_of_ble_eq_true rfl) (by exact hnd) (by rw [← insL_len i.h (posR i.h C) ⟨C, D⟩]; exact hvA_0 r _))) | (show Flat _; exact flat_ib _ _) | exact Nm.b 0 | (refine And.intro ?_ ?_; (focus (first | exact hls_len _ | exact T.kx | exact T.side))) | (show LCall _ _ _ _ _ _; first | refine LCall.pure (hv) ?_ | refine LCall.own (hc) ?_ | refine LCall.pure (hnum) ?_ | refine LCall.pure (hinf) ?_ | refine LCall.pure (hopen) ?_ | refine goE ?_) | refine T.s ?_ | ((first | apply goB | apply ABr.dec | apply ABr.gen) <;> intro h) | refine LFresh.mk fun r => ?_ | (show SWpL _ _ _ _ _ _ _; first | refine gX 24 [7, 8] [0, 1, 2, 3, 4, 5, 6, 7, 8, 9, 10] [b4] ?_) | (show CutL _ _ _ _ _ _ _ _; first | (refine goK tyOk [3, 23] 3 (S := Nm × Nm × Nm × Nm) [1] (fun (b0, b4, q, s) => ⟨[(2, .ptr b0 0), (4, .ptr b4 0), (7, .ptr s 0)], [(s, ⟨57, sdC i (.vw q 0 i.h.length 2) .nils⟩), (q, ⟨67, i.h.flatMap Hl.cs⟩), (b4, ⟨32, zIn⟩), (b0, ⟨32, i.cs⟩)], True, 0⟩) ?_ ?_; (rintro ⟨b0, b4, q, s⟩ -); rotate_left) | refine CutL.go tyOk [3, 23] ?_) | (show AtC _ _ _ _ _ _ _ _; first | (show AtC 3 _ _ _ _ _ _ _; exact goM 3 (S := Nm × Nm × Nm × Nm) ((_, _, _, _))) | (apply AtC.mk' (id := 3) (S := Nm × Nm × Nm × Nm) ((_, _, _, _)); (repeat' first | exact trivial | (refine And.intro ?_ ?_) | exact LSub.nil | (with_reducible exact LSub.refl) | (apply LSub.cons; (repeat first | refine goH ?_ | apply LHas.here | apply LHas.next); refine And.intro ?_ ?_; (focus (try (first | (with_reducible rfl) | (refine congrArg (Pl.mk _) ?_; (first | rfl | (simp; done))) | rfl | (with_reducible refine congrArg (Pl.mk _) ?_))))) | assumption | (first | (focus (apply Eq.trans; (conv => lhs; whnf); (conv => rhs; whnf); done)) | rfl | ((conv => lhs; whnf); first | rfl | (refine congrArg (AV.int _) ?_; (exact T.num)) | (refine congrArg AV.bool ?_; (exact T.num)) | (refine vw_congr ?_; first | (exact T.num) | (first | rfl | (simp; done))) | (refine sl_congr ?_ ?_ <;> first | (exact T.num) | (first | rfl | (simp; done))) | (first | rfl | (simp; done)))) | (exact T.num) | (dsimp only; (exact T.num)) | (first | rfl | (simp; done))))) | exact T.z | fail) <;> conv => whnf)
   all_goals (try dsimp only)
   all_goals first
     | (rw [if_neg (by assumption)]; exact ret_held rfl (by (repeat first | refine goH ?_ | apply LHas.here | apply LHas.next); rfl))
     | (rw [if_pos (by assumption), if_neg (by assumption)]; exact ret_held rfl (by (repeat first | refine goH ?_ | apply LHas.here | apply LHas.next); rfl))
     | (rw [if_pos (by assumption), if_pos (by assumption), if_neg (by assumption)]; exact ret_held rfl (by (repeat first | refine goH ?_ | apply LHas.here | apply LHas.next); rfl))
     | (rw [if_pos (by assumption), if_pos (by assumption), if_pos (by assumption), show takeR i C D = (i, [], 11) from if_pos (by assumption)]; exact ret_held rfl (by (repeat first | refine goH ?_ | apply LHas.here | apply LHas.next); rfl))
     | (rw [if_pos (by assumption), if_pos (by assumption), if_pos (by assumption), show takeR i C D = (i, [], 12) from (if_neg (by assumption)).trans (if_pos (decide_eq_true (by assumption)))]; exact ret_held rfl (by (repeat first | refine goH ?_ | apply LHas.here | apply LHas.next); rfl))
     | (have e2 : iarith .add .i64 C 1 = C + 1 := (by have h1 := hC (by assumption); (exact T.num))
        rw [if_pos (by assumption), if_pos (by assumption), if_pos (by assumption)]
        first
          | (rw [show takeR i C D = (behI { i with f := i.f + 1 } 0, [D] ++ behO { i with f := i.f + 1 } 0, 0) from (if_neg (by assumption)).trans ((if_neg (by rw [show hitR i.h C = false from decide_eq_false (by assumption)]; decide)).trans (if_pos (by assumption))), ← e1]
             refine ret_side (q := q) (by first | exact (hvA_lt hK).symm | exact (hvA_ge hK).symm) (x := behI { i with f := iarith .add .i64 i.f 1 } 0) (l0 := i.h) (N := 0 + runN (iarith .add .i64 i.f 1) (i.h.drop 0)) rfl (run_le { i with f := iarith .add .i64 i.f 1 } (Nat.zero_le _)) ?_ ?_
             · rw [List.length_append, behO_len { i with f := iarith .add .i64 i.f 1 } (Nat.zero_le _)]
             · (repeat first | refine goH ?_ | apply LHas.here | apply LHas.next)
               refine ⟨rfl, ?_⟩
               (repeat first | refine goH ?_ | apply LHas.here | apply LHas.next)
               refine ⟨rfl, ?_⟩
               (repeat first | refine goH ?_ | apply LHas.here | apply LHas.next)
               trivial)
          | (rw [show takeR i C D = (behI (putI i C D) 0, behO (putI i C D) 0, 0) from (if_neg (by assumption)).trans ((if_neg (by rw [show hitR i.h C = false from decide_eq_false (by assumption)]; decide)).trans (if_neg (by assumption)))]
             rw [show putI i C D = putJ i (iarith .add .i64 C 1) C D by rw [e2]; rfl]
             first
               | (refine ret_side (hvA_lt hK).symm (x := behI (putJ i (iarith .add .i64 C 1) C D) 0) (l0 := (putJ i (iarith .add .i64 C 1) C D).h) (N := 0 + runN (putJ i (iarith .add .i64 C 1) C D).f ((putJ i (iarith .add .i64 C 1) C D).h.drop 0)) rfl (run_le (putJ i (iarith .add .i64 C 1) C D) (Nat.zero_le _)) ?_ ?_
                  · rw [behO_len (putJ i (iarith .add .i64 C 1) C D) (Nat.zero_le _)]; exact Nat.zero_add _
                  · (repeat first | refine goH ?_ | apply LHas.here | apply LHas.next)
                    refine ⟨rfl, ?_⟩
                    (repeat first | refine goH ?_ | apply LHas.here | apply LHas.next)
                    refine ⟨rfl, ?_⟩
                    (repeat first | refine goH ?_ | apply LHas.here | apply LHas.next)
                    trivial)
               | (refine ret_side0 (x := behI (putJ i (iarith .add .i64 C 1) C D) 0) (drop_ge hK) ?_ ?_
                  · rw [behO_len (putJ i (iarith .add .i64 C 1) C D) (Nat.zero_le _)]; exact Nat.zero_add _
                  · (repeat first | refine goH ?_ | apply LHas.here | apply LHas.next)
                    rfl)))
     | trace_state
open Go.RowKit
variable {G : Nat → AV}
def rnAV (x : In × Int) : AV := .tup [x.1.av, iAV x.2]
def newI (b t : Int) (k : Ky) : In × Int := if bitsOk b = true ∧ 0 ≤ t ∧ t ≤ 1000 then (if k.ok = true then (⟨b, k, 0, 0, 0, 0, t, []⟩, 0) else (inZ, 9)) else (inZ, 3)
theorem ret_zero2 {e : Int} {l : LS} : RetL (fun _ => (rnAV (inZ, e), [])) (.tup [.agg zIn, iAV e]) l :=
 RetL.frz [] (LF.tup ⟨LF.agg ⟨LF.eq rfl, LF.nils rfl rfl, LF.nils rfl rfl, LF.eq rfl, LF.eq rfl, LF.eq rfl, LF.eq rfl, LF.eq rfl, LF.eq rfl, LF.eq rfl, LF.eq rfl, LF.nils rfl rfl, trivial⟩, LF.eq rfl, trivial⟩) LSub.nil
theorem ret_new {b t : Int} {k : Ky} {e : Int} {l : LS} : RetL (fun _ => (rnAV (⟨b, k, 0, 0, 0, 0, t, []⟩, e), [])) (.tup [.agg (inC ⟨b, k, 0, 0, 0, 0, t, []⟩ .nils), iAV e]) l :=
 RetL.frz [] (LF.tup ⟨LF.agg ⟨LF.eq rfl, LF.eq rfl, LF.eq rfl, LF.eq rfl, LF.eq rfl, LF.eq rfl, LF.eq rfl, LF.eq rfl, LF.eq rfl, LF.eq rfl, LF.eq rfl, LF.nils rfl rfl, trivial⟩, LF.eq rfl, trivial⟩) LSub.nil
theorem dnew_c (b t : Int) (k : Ky) : LSpec Tryd.prog G 8 [iAV b, iAV t, k.av] [] (fun _ => (rnAV (newI b t k), [])) := by
 have hb := cbits_c (G := G) b
 have hv := cvalid_c (G := G) k
 have hp := pclone_c (G := G) k
 unfold newI
 by_cases hc : bitsOk b = true ∧ 0 ≤ t ∧ t ≤ 1000
 · obtain ⟨c1, c2, c3⟩ := hc
   rw [if_pos ⟨c1, c2, c3⟩]
   rw [c1] at hb
   cases h2 : k.ok
   · rw [h2] at hv
     rw [if_neg (by decide)]
     refine goW [] Tryd.func8 rfl ?_
     conv => whnf
     repeat' ((first | (show LCall _ _ _ _ _ _; first | refine LCall.pure (hb) ?_ | refine LCall.pure (hv) ?_ | refine goE ?_) | refine T.s ?_ | ((first | apply goB | apply ABr.dec | apply ABr.gen) <;> intro h <;> try (exfalso; omega)) | refine LFresh.mk fun r => ?_ | exact T.z | fail) <;> conv => whnf)
     all_goals (try dsimp only)
     all_goals exact ret_zero2
   · rw [h2] at hv
     rw [if_pos rfl]
     refine goW [] Tryd.func8 rfl ?_
     conv => whnf
     repeat' ((first | (show LCall _ _ _ _ _ _; first | refine LCall.pure (hb) ?_ | refine LCall.pure (hv) ?_ | refine LCall.pure (hp h2) ?_ | refine goE ?_) | refine T.s ?_ | ((first | apply goB | apply ABr.dec | apply ABr.gen) <;> intro h <;> try (exfalso; omega)) | refine LFresh.mk fun r => ?_ | exact T.z | fail) <;> conv => whnf)
     all_goals (try dsimp only)
     all_goals exact ret_new
 · rw [if_neg hc]
   cases h1 : bitsOk b
   · rw [h1] at hb
     refine goW [] Tryd.func8 rfl ?_
     conv => whnf
     repeat' ((first | (show LCall _ _ _ _ _ _; first | refine LCall.pure (hb) ?_ | refine goE ?_) | refine T.s ?_ | ((first | apply goB | apply ABr.dec | apply ABr.gen) <;> intro h <;> try (exfalso; omega)) | refine LFresh.mk fun r => ?_ | exact T.z | fail) <;> conv => whnf)
     all_goals (try dsimp only)
     all_goals exact ret_zero2
   · rw [h1] at hb hc
     have hc2 : ¬ t < 0 → ¬ 1000 < t → False := fun h3 h4 => hc ⟨rfl, by omega, by omega⟩
     refine goW [] Tryd.func8 rfl ?_
     conv => whnf
     repeat' ((first | (show LCall _ _ _ _ _ _; first | refine LCall.pure (hb) ?_ | refine LCall.pure (hv) ?_ | refine goE ?_) | refine T.s ?_ | ((first | apply goB | apply ABr.dec | apply ABr.gen) <;> intro h <;> try (exfalso; omega)) | refine LFresh.mk fun r => ?_ | exact T.z | fail) <;> conv => whnf)
     all_goals (try dsimp only)
     all_goals first
       | exact ret_zero2
       | exact (hc2 (by assumption) (by assumption)).elim
open Go.RowKit
variable {G : Nat → AV}
theorem Vf.to {i : In} (v : Vf i) : i.ok = true := by
 have hb := v.b
 have hf := v.f
 have hn := v.n
 have ht := v.t
 have hl := v.l
 have hm := v.m
 have hw := v.w
 have hh : heldOk i = true := by
   unfold heldOk
   rw [Bool.and_eq_true]
   refine ⟨?_, ?_⟩
   · unfold hldTo
     rw [List.all_eq_true]
     intro j hj
     have := v.h j (List.mem_range.1 hj)
     simpa [hlOk] using this
   · rcases v.e with ⟨h1, h2, h3⟩ | ⟨h1, h2⟩
     · rw [if_pos h1]
       have : iarith .sub .i64 i.n 1 = i.n - 1 := by (exact T.num)
       rw [this]
       exact decide_eq_true ⟨h2, h3⟩
     · rw [if_neg (by omega), h2]; rfl
 unfold In.ok
 rw [hb, v.k, hh, decide_eq_true (show 0 ≤ i.f ∧ i.f ≤ 1048576 ∧ i.f ≤ i.n ∧ i.n ≤ iarith .add .i64 i.f (winR i.b) ∧ i.n ≤ 1048576 ∧ 0 ≤ i.t ∧ i.t ≤ 1000 ∧ 0 ≤ i.l ∧ i.l ≤ i.t from ⟨hf.1, hf.2, hn.1, hw, hn.2, ht.1, ht.2, hl.1, hl.2⟩)]
 rcases hm with ⟨h1, h2⟩ | ⟨h1, h2, h3⟩
 · rw [if_neg (by omega), decide_eq_true h2]; rfl
 · rw [if_pos h1, decide_eq_true (show i.f < i.m ∧ i.m ≤ i.n from ⟨h2, h3⟩)]; rfl
def upTo (i : In) (k : Nat) : Prop := ∀ j, j < k → lastC i.f i.h j < (i.h.getD j Hl.z).c ∧ 1 ≤ (i.h.getD j Hl.z).d.length ∧ (i.h.getD j Hl.z).d.length ≤ 2048
theorem lastC_s (b : Int) (l : List Hl) (k : Nat) : lastC b l (k + 1) = (l.getD k Hl.z).c := rfl
theorem upTo_last {i : In} {k : Nat} (h : upTo i k) : ∀ j, j ≤ k → lastC i.f i.h j ≤ lastC i.f i.h k ∧ i.f ≤ lastC i.f i.h j := by
 induction k with
 | zero =>
   intro j hj
   have e : j = 0 := by omega
   subst e
   exact ⟨Int.le_refl _, Int.le_refl _⟩
 | succ k ih =>
   intro j hj
   have h1 := (h k (by omega)).1
   have ih := ih fun j hj => h j (by omega)
   have h3 := ih k (Nat.le_refl _)
   by_cases e : j = k + 1
   · subst e
     rw [lastC_s]
     omega
   · have := ih j (by omega)
     rw [lastC_s]
     omega
attribute [local irreducible] upTo
theorem upTo_at {i : In} {k : Nat} (h : upTo i k) : ∀ j, j < k → lastC i.f i.h j < (i.h.getD j Hl.z).c ∧ 1 ≤ (i.h.getD j Hl.z).d.length ∧ (i.h.getD j Hl.z).d.length ≤ 2048 := by with_unfolding_all exact h
theorem Vf.mk1 {i : In} (hb : bitsOk i.b = true) (hk : i.k.ok = true) (hf : 0 ≤ i.f ∧ i.f ≤ 1048576) (hn : i.f ≤ i.n ∧ i.n ≤ 1048576) (ht : 0 ≤ i.t ∧ i.t ≤ 1000) (hl : 0 ≤ i.l ∧ i.l ≤ i.t) (hm : (i.l = 0 ∧ i.m = 0) ∨ (0 < i.l ∧ i.f < i.m ∧ i.m ≤ i.n)) (hw : i.n ≤ iarith .add .i64 i.f (winR i.b))
   (hu : upTo i i.h.length) (he : (0 < i.h.length ∧ lastC i.f i.h i.h.length = i.n - 1) ∨ (i.h.length = 0 ∧ i.f = i.n)) : Vf i := by
 have hll := upTo_last hu
 have hup := upTo_at hu
 refine ⟨hb, hk, hf, hn, ht, hl, hm, hw, fun j hj => ?_, ?_⟩
 · obtain ⟨h1, h2, h3⟩ := hup j hj
   have h4 := (hll (j + 1) (by omega)).1
   rw [lastC_s] at h4
   rcases he with ⟨e1, e2⟩ | ⟨e1, e2⟩
   · exact ⟨h1, by rw [e2] at h4; omega, h2, h3⟩
   · omega
 · rcases he with ⟨e1, e2⟩ | ⟨e1, e2⟩
   · refine .inl ⟨?_, e2, e1⟩
     have h1 := (hup 0 e1).1
     have h2 := (hll 1 (by omega)).1
     rw [lastC_s, e2] at h2
     have h3 : lastC i.f i.h 0 = i.f := rfl
     omega
   · exact .inr ⟨e2, List.eq_nil_of_length_eq_zero e1⟩
theorem Vf.up {i : In} (v : Vf i) (k : Nat) (hk : k ≤ i.h.length) : upTo i k := by
 have : ∀ j, j < k → lastC i.f i.h j < (i.h.getD j Hl.z).c ∧ 1 ≤ (i.h.getD j Hl.z).d.length ∧ (i.h.getD j Hl.z).d.length ≤ 2048 := fun j hj => by
   obtain ⟨h1, h2, h3, h4⟩ := v.h j (by omega); exact ⟨h1, h3, h4⟩
 with_unfolding_all exact this
end Go.Proofs.YtnmifddidgofaaaDoor
namespace Go.Proofs.YtnmifddidgofaaaDoor
open Go.RowKit
variable {G : Nat → AV}
theorem put3n_c (n : Int) : LSpec Tryd.prog G 31 [.nils, iAV 3, iAV n] [] (fun q => (.vw q 0 3 1, [(q, ⟨5, (putB n 3).map bAV⟩)])) := by
 refine goW [] Tryd.func31 rfl ?_
 conv => whnf
 repeat' ((first | refine T.s ?_ | ((first | apply goB | apply ABr.dec | apply ABr.gen) <;> intro h <;> try (exfalso; omega)) | refine LFresh.mk fun r => ?_ | (show SWpL _ _ _ _ _ _ _; first | refine SWpL.times 2 4 (by rfl) ?_ | refine AtL.step tyOk [] ?_) | exact T.z | refine ⟨_, rfl, rfl, ?_⟩ | fail) <;> conv => whnf)
 all_goals (try dsimp only)
 refine RetL.own r rfl ?_ ?_
 · (repeat first | refine goH ?_ | apply LHas.here | apply LHas.next); trivial
 · apply LSub.cons
   (repeat first | refine goH ?_ | apply LHas.here | apply LHas.next)
   refine And.intro (congrArg (Pl.mk _) ?_) LSub.nil
   simp only [putB, List.map_append, List.map_cons, List.map_nil, bAV_b8, List.append_assoc, List.cons_append, List.nil_append]
   rfl
theorem key17_c : LSpec Tryd.prog G 9 [] [] (fun _ => (awK.av, [])) := by
 refine goW [] Tryd.func9 rfl ?_
 conv => whnf
 repeat' ((first | (show LCall _ _ _ _ _ _; first | refine LCall.pure (filled_c _ _ (by decide)) ?_ | refine goE ?_) | refine T.s ?_ | ((first | apply goB | apply ABr.dec | apply ABr.gen) <;> intro h <;> try (exfalso; omega)) | refine LFresh.mk fun r => ?_ | exact T.z | fail) <;> conv => whnf)
 all_goals (try dsimp only)
 (show RetL _ _ _; refine goR ?_)
 rfl
def sealB (b c : Int) : List UInt8 := (sealR awK b c (putB c 3)).1
theorem seal17_c (b c : Int) : LSpec Tryd.prog gl 13 [iAV b, iAV c] [] (fun _ => (bv (sealB b c), [])) := by
 have hs := rseal_c awK b c (putB c 3)
 unfold sealB
 generalize sealR awK b c (putB c 3) = s at *
 refine goW [] Tryd.func13 rfl ?_
 conv => whnf
 repeat' ((first | (show LEra _ _ _; conv => whnf) | (show LCall _ _ _ _ _ _; first | refine LCall.pure (key17_c) ?_ | refine LCall.own (put3n_c c) ?_ | refine LCall.mk' (hs) [_] ⟨LF.eq rfl, LF.eq rfl, LF.eq rfl, LF.row InL.here ?_, trivial⟩ ?_ | refine goE ?_) | refine T.s ?_ | ((first | apply goB | apply ABr.dec | apply ABr.gen) <;> intro h <;> try (exfalso; omega)) | refine LFresh.mk fun r => ?_ | exact T.z | fail) <;> conv => whnf)
 all_goals (try dsimp only)
 all_goals first | contradiction | ((show RetL _ _ _; refine goR ?_); rfl) | trace_state
def aw0 : In := ⟨5, awK, 0, 0, 0, 0, 0, []⟩
def aw1 : In := ⟨5, awK, 0, 2, 0, 0, 0, [⟨1, [0, 0, 1]⟩]⟩
def aw2 : In := ⟨5, awK, 2, 2, 0, 0, 0, []⟩
theorem aw_new : newI 5 0 awK = (aw0, 0) := by
 unfold newI
 rw [if_pos (by decide +kernel), if_pos awK_ok]
 rfl
theorem aw_sealB (c : Int) (hc : countOk c = true) : sealB 5 c = sealL awK 5 c (putB c 3) := by
 unfold sealB
 rw [sealR_ok awK_ok (by rw [hc]; decide +kernel) rfl]
theorem aw_1 : rcvR aw0 (sealB 5 1) = (aw1, [], 0) := by
 rw [aw_sealB 1 (by decide +kernel)]
 unfold rcvR
 rw [if_pos (by decide +kernel : aw0.ok = true), show aw0.b = 5 from rfl, num_seal awK 5 1 _ awK_ok (by decide +kernel) (by decide +kernel) rfl]
 rw [if_pos rfl, show infR 5 aw0.f (lowR 5 1) = (1, 0) by decide +kernel, if_pos rfl, show aw0.k = awK from rfl, open_seal awK 5 1 _ awK_ok (by decide +kernel) (by decide +kernel) rfl, if_pos rfl]
 with_unfolding_all rfl
theorem aw_2 : rcvR aw1 (sealB 5 0) = (aw2, [[0, 0, 0], [0, 0, 1]], 0) := by
 rw [aw_sealB 0 (by decide +kernel)]
 unfold rcvR
 rw [if_pos (by decide +kernel : aw1.ok = true), show aw1.b = 5 from rfl, num_seal awK 5 0 _ awK_ok (by decide +kernel) (by decide +kernel) rfl]
 rw [if_pos rfl, show infR 5 aw1.f (lowR 5 0) = (0, 0) by decide +kernel, if_pos rfl, show aw1.k = awK from rfl, open_seal awK 5 0 _ awK_ok (by decide +kernel) (by decide +kernel) rfl, if_pos rfl]
 with_unfolding_all rfl
theorem aw_ok : aw2.ok = true := by decide +kernel
theorem awake17_c : LSpec Tryd.prog gl 6 [] [] (fun _ => (.bool true, [])) := by
 have h0 := dnew_c (G := gl) 5 0 awK
 rw [aw_new] at h0
 have h1 := dreceive_c aw0 (sealB 5 1) (by decide)
 rw [aw_1] at h1
 have h2 := dreceive_c aw1 (sealB 5 0) (by decide)
 rw [aw_2] at h2
 have h3 := dvalid_c (G := gl) aw2 (by decide)
 rw [aw_ok] at h3
 have s1 := seal17_c 5 1
 have s0 := seal17_c 5 0
 generalize sealB 5 1 = u1 at *
 generalize sealB 5 0 = u0 at *
 refine goW [] Tryd.func6 rfl ?_
 conv => whnf
 repeat' ((first | exact Nm.b 0 | (show LCall _ _ _ _ _ _; first | refine LCall.pure (key17_c) ?_ | refine LCall.pure (h0) ?_ | refine LCall.pure (s1) ?_ | refine LCall.pure (s0) ?_ | refine LCall.pure (h1) ?_ | refine LCall.pure (h2) ?_ | refine LCall.pure (h3) ?_ | refine goE ?_) | refine T.s ?_ | ((first | apply goB | apply ABr.dec | apply ABr.gen) <;> intro h <;> try (exfalso; omega)) | refine LFresh.mk fun r => ?_ | (show SWpL _ _ _ _ _ _ _; first | refine gX 2 [0, 1] [0, 1, 2, 3, 4, 5, 6, 7, 8, 9] [] ?_ | refine gX 3 [0, 1] [0, 1, 2, 3, 4, 5, 6, 7, 8, 9] [] ?_) | exact T.z | fail) <;> conv => whnf)
 all_goals (try dsimp only)
 all_goals first | contradiction | ((show RetL _ _ _; refine goR ?_); rfl) | trace_state
open Go.RowKit
theorem onI_k (x : In) : (onI x).b = x.b ∧ (onI x).k = x.k ∧ (onI x).f = x.f ∧ (onI x).t = x.t ∧ (onI x).n = nxV x ∧ (((onI x).l = 0 ∧ (onI x).m = 0 ∧ (x.l = 0 → x.m = 0)) ∨ ((onI x).l = x.t ∧ (onI x).m = nxV x ∧ 0 < x.t ∧ x.f < nxV x) ∨ ((onI x).l = x.l ∧ (onI x).m = x.m ∧ ¬ (0 < x.l ∧ x.m ≤ x.f))) := by
 by_cases h1 : 0 < x.l ∧ x.m ≤ x.f
 · by_cases h2 : 0 < x.t ∧ x.f < nxV x
   · rw [onI_a h1.1 h1.2 h2.1 h2.2]; exact ⟨rfl, rfl, rfl, rfl, rfl, .inr (.inl ⟨rfl, rfl, h2⟩)⟩
   · rw [onI_b h1.1 h1.2 h2]; exact ⟨rfl, rfl, rfl, rfl, rfl, .inl ⟨rfl, rfl, fun h => by omega⟩⟩
 · by_cases h2 : x.l = 0 ∧ 0 < x.t ∧ x.f < nxV x
   · rw [onI_c h1 h2.1 h2.2.1 h2.2.2]; exact ⟨rfl, rfl, rfl, rfl, rfl, .inr (.inl ⟨rfl, rfl, h2.2⟩)⟩
   · rw [onI_d h1 h2]; exact ⟨rfl, rfl, rfl, rfl, rfl, .inr (.inr ⟨rfl, rfl, h1⟩)⟩
theorem win_pow {b : Int} (h : bitsOk b = true) : winR b = 2 ^ (b - 1).toNat ∧ 16 ≤ winR b ∧ winR b ≤ 256 := by
 rcases bits_cases h with rfl | rfl | rfl | rfl | rfl <;> decide +kernel
theorem hd_drop (l : List Hl) (n j : Nat) : (l.drop n).getD j Hl.z = l.getD (n + j) Hl.z := hl_drop l n j
theorem beh_ok {x : In} {h : List Hl} (hb : bitsOk x.b = true) (hk : x.k.ok = true) (hf : 0 ≤ x.f ∧ x.f ≤ 1048576) (hn : x.n ≤ 1048576) (ht : 0 ≤ x.t ∧ x.t ≤ 1000) (hm : (x.l = 0 ∧ x.m = 0) ∨ (0 < x.l ∧ x.l ≤ x.t ∧ x.m ≤ x.n)) (hw : x.n ≤ x.f + winR x.b)
   (ha : ascH h) (hr : ∀ j, j < h.length → x.f ≤ (h.getD j Hl.z).c ∧ (h.getD j Hl.z).c < x.n ∧ 1 ≤ (h.getD j Hl.z).d.length ∧ (h.getD j Hl.z).d.length ≤ 2048) (he : (h.length = 0 ∧ x.n ≤ x.f) ∨ (0 < h.length ∧ (h.getD (h.length - 1) Hl.z).c = x.n - 1)) :
   Vf { onI (stpI x (runN x.f h)) with h := h.drop (runN x.f h) } := by
 have hwp := win_pow hb
 have hN := runN_le h x.f
 have hyes := runN_yes h x.f
 have hno := runN_no h x.f
 generalize runN x.f h = N at *
 have h1 := onI_k (stpI x N)
 generalize onI (stpI x N) = y at *
 obtain ⟨e1, e2, e3, e4, e5, e6⟩ := h1
 have s1 : (stpI x N).b = x.b := rfl
 have s2 : (stpI x N).k = x.k := rfl
 have s3 : (stpI x N).f = x.f + N := rfl
 have s4 : (stpI x N).t = x.t := rfl
 have s5 : (stpI x N).n = x.n := rfl
 have s6 : (stpI x N).l = x.l := rfl
 have s7 : (stpI x N).m = x.m := rfl
 have sx : nxV (stpI x N) = if x.n < x.f + N then x.f + N else x.n := rfl
 rw [sx] at e5 e6
 rw [s1] at e1
 rw [s2] at e2
 rw [s3] at e3 e6
 rw [s4] at e4 e6
 rw [s6, s7] at e6
 -- where the run ends
 have hup : x.f + N ≤ 1048576 ∧ (0 < N → x.f + N ≤ x.n) := by
   by_cases h0 : N = 0
   · subst h0; exact ⟨by simpa using hf.2, fun h => by omega⟩
   · have h2 := hyes (N - 1) (by omega)
     have h3 := (hr (N - 1) (by omega)).2.1
     rw [h2] at h3
     exact ⟨by omega, fun _ => by omega⟩
 have hgt : ∀ j, N ≤ j → j < h.length → x.f + N < (h.getD j Hl.z).c := fun j h2 h3 => by
   have h4 : x.f + N < (h.getD N Hl.z).c := by
     have h5 := hno (by omega)
     by_cases h0 : N = 0
     · subst h0
       have := (hr 0 (by omega)).1
       omega
     · have h6 := hyes (N - 1) (by omega)
       have h7 := ha (N - 1) N (by omega) (by omega)
       omega
   by_cases h6 : N = j
   · subst h6; exact h4
   · have := ha N j (by omega) h3; omega
 have hlast : (N < h.length ∧ x.f + N < x.n ∧ (h.getD (h.length - 1) Hl.z).c = x.n - 1) ∨ (N = h.length ∧ x.n ≤ x.f + N) := by
   rcases he with ⟨h2, h3⟩ | ⟨h2, h3⟩
   · exact .inr ⟨by omega, by omega⟩
   · by_cases h4 : N < h.length
     · have := hgt (h.length - 1) (by omega) (by omega)
       exact .inl ⟨h4, by omega, h3⟩
     · have h5 := hyes (N - 1) (by omega)
       rw [show N - 1 = h.length - 1 by omega, h3] at h5
       exact .inr ⟨by omega, by omega⟩
 have e5' : y.n = if x.n < x.f + N then x.f + N else x.n := e5
 refine Vf.mk1 (by show bitsOk y.b = true; rw [e1]; exact hb) (by show y.k.ok = true; rw [e2]; exact hk) (by show 0 ≤ y.f ∧ y.f ≤ _; rw [e3]; omega) (by show y.f ≤ y.n ∧ y.n ≤ _; rw [e3, e5]; split <;> omega) (by show 0 ≤ y.t ∧ y.t ≤ _; rw [e4]; exact ht) ?_ ?_ ?_ ?_ ?_
 · show 0 ≤ y.l ∧ y.l ≤ y.t
   rw [e4]
   rcases e6 with h2 | h2 | h2 <;> omega
 · show (y.l = 0 ∧ y.m = 0) ∨ (0 < y.l ∧ y.f < y.m ∧ y.m ≤ y.n)
   rw [e3, e5]
   rcases e6 with h2 | h2 | h2
   · exact .inl ⟨h2.1, h2.2.1⟩
   · refine .inr ?_; omega
   · rcases hm with h3 | h3
     · exact .inl (by omega)
     · refine .inr ⟨by omega, by omega, ?_⟩
       split <;> omega
 · show y.n ≤ iarith .add .i64 y.f (winR y.b)
   rw [e3, e5, e1, iadd_in _ _ (by omega) (by omega)]
   split <;> omega
 · have hu : ∀ j, j < (h.drop N).length → lastC (x.f + N) (h.drop N) j < ((h.drop N).getD j Hl.z).c ∧ 1 ≤ ((h.drop N).getD j Hl.z).d.length ∧ ((h.drop N).getD j Hl.z).d.length ≤ 2048 := fun j hj => by
     rw [List.length_drop] at hj
     rw [hd_drop]
     refine ⟨?_, (hr (N + j) (by omega)).2.2⟩
     cases j with
     | zero => exact hgt N (by omega) (by omega)
     | succ j =>
       show ((h.drop N).getD j Hl.z).c < _
       rw [hd_drop]
       exact ha _ _ (by omega) (by omega)
   have hu' : ∀ j, j < (h.drop N).length → lastC y.f (h.drop N) j < ((h.drop N).getD j Hl.z).c ∧ 1 ≤ ((h.drop N).getD j Hl.z).d.length ∧ ((h.drop N).getD j Hl.z).d.length ≤ 2048 := by rw [e3]; exact hu
   with_unfolding_all exact hu'
 · show (0 < (h.drop N).length ∧ lastC y.f (h.drop N) (h.drop N).length = y.n - 1) ∨ ((h.drop N).length = 0 ∧ y.f = y.n)
   rw [e3, e5, List.length_drop]
   rcases hlast with ⟨h2, h3, h4⟩ | ⟨h2, h3⟩
   · refine .inl ⟨by omega, ?_⟩
     obtain ⟨m, hm'⟩ : ∃ m, h.length - N = m + 1 := ⟨h.length - N - 1, by omega⟩
     rw [hm', if_neg (by omega)]
     show ((h.drop N).getD m Hl.z).c = _
     rw [hd_drop, show N + m = h.length - 1 by omega, h4]
   · refine .inr ⟨by omega, ?_⟩
     split <;> omega
theorem ins_get {l : List Hl} {i : Nat} (x : Hl) (j : Nat) (hi : i ≤ l.length) : (insL l i x).getD j Hl.z = if j < i then l.getD j Hl.z else if j = i then x else l.getD (j - 1) Hl.z := by
 unfold insL
 simp only [List.getD_eq_getElem?_getD]
 by_cases h : j < i
 · rw [if_pos h, List.getElem?_append_left (by rw [List.length_take]; omega), List.getElem?_take, if_pos h]
 · rw [if_neg h, List.getElem?_append_right (by rw [List.length_take]; omega), List.length_take, Nat.min_eq_left hi]
   by_cases h2 : j = i
   · subst h2; rw [if_pos rfl, Nat.sub_self]; rfl
   · rw [if_neg h2]
     obtain ⟨k, rfl⟩ : ∃ k, j = i + k + 1 := ⟨j - i - 1, by omega⟩
     rw [show i + k + 1 - i = k + 1 by omega, List.getElem?_cons_succ, List.getElem?_drop]
     congr 2
theorem vf_last {i : In} (v : Vf i) (h : 0 < i.h.length) : (i.h.getD (i.h.length - 1) Hl.z).c = i.n - 1 := by
 rcases v.e with ⟨-, h2, -⟩ | ⟨-, h2⟩
 · obtain ⟨m, hm⟩ : ∃ m, i.h.length = m + 1 := ⟨i.h.length - 1, by omega⟩
   rw [hm] at h2 ⊢
   exact h2
 · rw [h2] at h; exact absurd h (by decide)
theorem vf_win {i : In} (v : Vf i) : i.n ≤ i.f + winR i.b := by
 have h1 := v.w
 have h2 := win_pow v.b
 have h3 := v.f
 rwa [iadd_in _ _ (by omega) (by omega)] at h1
theorem beh_next {i : In} (v : Vf i) (hf : i.f < 1048576) : Vf (behI { i with f := i.f + 1 } 0) := by
 have h1 := vf_win v
 have h2 := v.f
 have h3 := v.n
 have h4 := win_pow v.b
 have e : behI { i with f := i.f + 1 } 0 = { onI (stpI { i with f := i.f + 1 } (runN (i.f + 1) i.h)) with h := i.h.drop (runN (i.f + 1) i.h) } := by
   unfold behI; simp only [List.drop_zero, Nat.zero_add]
 rw [e]
 refine beh_ok (x := { i with f := i.f + 1 }) v.b v.k (by show 0 ≤ i.f + 1 ∧ i.f + 1 ≤ _; omega) h3.2 v.t ?_ (by show i.n ≤ i.f + 1 + winR i.b; omega) v.asc ?_ ?_
 · have := v.m; have := v.l; show (i.l = 0 ∧ i.m = 0) ∨ (0 < i.l ∧ i.l ≤ i.t ∧ i.m ≤ i.n); omega
 · intro j hj
   have h5 := v.lo j hj
   have h6 := v.h j hj
   exact ⟨by show i.f + 1 ≤ _; omega, h6.2⟩
 · by_cases h0 : 0 < i.h.length
   · exact .inr ⟨h0, vf_last v h0⟩
   · refine .inl ⟨by show i.h.length = 0; omega, ?_⟩
     show i.n ≤ i.f + 1
     rcases v.e with h5 | h5 <;> omega
theorem beh_put {i : In} (v : Vf i) {c : Int} {d : List UInt8} (hc : i.f < c) (hc2 : c < 1048576) (hcw : c + 1 ≤ i.f + winR i.b) (hh : hitR i.h c = false) (hd : 1 ≤ d.length ∧ d.length ≤ 2048) : Vf (behI (putI i c d) 0) := by
 have h1 := vf_win v
 have h2 := v.f
 have h3 := v.n
 have h4 := win_pow v.b
 have hP := pos_le i.h c
 have hlt := pos_lt i.h c
 have hge : posR i.h c < i.h.length → c < (i.h.getD (posR i.h c) Hl.z).c := fun h => by
   have h5 := pos_ge i.h c h
   have h6 : ¬ (posR i.h c < i.h.length ∧ (i.h.getD (posR i.h c) Hl.z).c = c) := of_decide_eq_false hh
   have : ¬ (i.h.getD (posR i.h c) Hl.z).c = c := fun h7 => h6 ⟨h, h7⟩
   omega
 have e : behI (putI i c d) 0 = { onI (stpI (putI i c d) (runN (putI i c d).f (putI i c d).h)) with h := (putI i c d).h.drop (runN (putI i c d).f (putI i c d).h) } := by
   unfold behI; simp only [List.drop_zero, Nat.zero_add]
 rw [e]
 have eh : (putI i c d).h = insL i.h (posR i.h c) ⟨c, d⟩ := rfl
 have en : (putI i c d).n = if i.n < c + 1 then c + 1 else i.n := rfl
 have ef : (putI i c d).f = i.f := rfl
 have eb : (putI i c d).b = i.b := rfl
 have ek : (putI i c d).k = i.k := rfl
 have et : (putI i c d).t = i.t := rfl
 have el : (putI i c d).l = i.l := rfl
 have em : (putI i c d).m = i.m := rfl
 generalize putI i c d = x at *
 have hasc := v.asc
 have hlen := insL_len i.h (posR i.h c) ⟨c, d⟩
 have hg : ∀ j, x.h.getD j Hl.z = if j < posR i.h c then i.h.getD j Hl.z else if j = posR i.h c then ⟨c, d⟩ else i.h.getD (j - 1) Hl.z := fun j => by rw [eh]; exact ins_get _ j hP
 rw [← eh] at hlen
 have hge' : ∀ j, posR i.h c ≤ j → j < i.h.length → c < (i.h.getD j Hl.z).c := fun j h5 h6 => by
   have h7 := hge (by omega)
   by_cases h8 : posR i.h c = j
   · rw [← h8]; exact h7
   · have := hasc (posR i.h c) j (by omega) h6; omega
 refine beh_ok (by rw [eb]; exact v.b) (by rw [ek]; exact v.k) (by rw [ef]; exact h2) (by rw [en]; split <;> omega) (by rw [et]; exact v.t) ?_ (by rw [en, ef, eb]; split <;> omega) ?_ ?_ ?_
 · rw [el, em, et, en]
   rcases v.m with h5 | h5
   · exact .inl h5
   · have := v.l
     refine .inr ⟨h5.1, this.2, ?_⟩
     split <;> omega
 · intro a b hab hb
   rw [hg, hg]
   rw [hlen] at hb
   by_cases c1 : b < posR i.h c
   · rw [if_pos (by omega), if_pos c1]; exact hasc a b hab (by omega)
   · rw [if_neg c1]
     by_cases c2 : b = posR i.h c
     · rw [if_pos c2, if_pos (by omega)]; exact hlt a (by omega)
     · rw [if_neg c2]
       by_cases c3 : a < posR i.h c
       · rw [if_pos c3]
         exact hasc a (b - 1) (by omega) (by omega)
       · rw [if_neg c3]
         by_cases c4 : a = posR i.h c
         · rw [if_pos c4]; exact hge' (b - 1) (by omega) (by omega)
         · rw [if_neg c4]; exact hasc (a - 1) (b - 1) (by omega) (by omega)
 · intro j hj
   rw [hlen] at hj
   rw [hg, ef, en]
   by_cases c1 : j < posR i.h c
   · rw [if_pos c1]
     have h5 := v.lo j (by omega)
     have h6 := v.h j (by omega)
     exact ⟨by omega, by split <;> omega, h6.2.2⟩
   · rw [if_neg c1]
     by_cases c2 : j = posR i.h c
     · rw [if_pos c2]; exact ⟨by show _ ≤ c; omega, by show c < _; split <;> omega, hd⟩
     · rw [if_neg c2]
       have h5 := v.lo (j - 1) (by omega)
       have h6 := v.h (j - 1) (by omega)
       exact ⟨by omega, by split <;> omega, h6.2.2⟩
 · refine .inr ⟨by omega, ?_⟩
   rw [hlen, hg, en]
   rw [show i.h.length + 1 - 1 = i.h.length by omega, if_neg (by omega)]
   by_cases c1 : i.h.length = posR i.h c
   · rw [if_pos c1]
     show c = _
     by_cases h0 : 0 < i.h.length
     · have h5 := vf_last v h0
       have h6 := hlt (i.h.length - 1) (by omega)
       rw [if_pos (by omega)]; omega
     · rcases v.e with h5 | h5
       · omega
       · rw [if_pos (by omega)]; omega
   · rw [if_neg c1]
     have h5 := vf_last v (by omega)
     have h6 := hge' (i.h.length - 1) (by omega) (by omega)
     rw [h5] at h6 ⊢
     rw [if_neg (by omega)]
theorem sg_top {b f x : Int} (h : bitsOk b = true) : sg b f x + 1 ≤ winR b ∧ - winR b ≤ sg b f x := by
 have h1 := lw_rng b (x - f)
 rw [(win_pow h).1]
 unfold sg
 rcases bits_cases h with rfl | rfl | rfl | rfl | rfl <;> (simp only [show ∀ n : Nat, (OfNat.ofNat n : Int).toNat = n from fun n => rfl] at *; split <;> (simp at *; omega))
theorem inf_win {b f x : Int} (h : (infR b f x).2 = 0) : bitsOk b = true ∧ (infR b f x).1 + 1 ≤ f + winR b ∧ 0 ≤ (infR b f x).1 ∧ (infR b f x).1 < 1048576 := by
 have h0 := inf_ok h
 unfold infR at *
 split at h
 · rename_i hc
   rw [if_pos hc] at h0 ⊢
   have := sg_top (f := f) (x := x) hc.1
   split at h
   · simp at h
   · rename_i h1
     rw [if_neg h1] at h0 ⊢
     split at h
     · rename_i h2
       rw [if_pos h2] at h0 ⊢
       exact ⟨hc.1, by dsimp only; omega, h0.1, h0.2⟩
     · simp at h
 · simp at h
theorem inf_near {b f c : Int} (hb : bitsOk b = true) (hf : 0 ≤ f ∧ f ≤ 1048576) (hc : countOk c = true) (h1 : c < f + winR b) (h2 : f - winR b ≤ c) : infR b f (lowR b c) = (c, 0) := by
 have hl : lowR b c = lw b c := by unfold lw; exact lowR_eq b c hb hc
 have hlp : 0 ≤ lowR b c ∧ lowR b c < 2 ^ b.toNat := by rw [hl]; exact lw_rng b c
 have hs : sg b f (lowR b c) = c - f := by
   have e : lw b (lowR b c - f) = lw b (c - f) := by rw [hl]; exact lw_sub_l b c f
   unfold sg
   rw [e]
   rw [(win_pow hb).1] at h1 h2
   unfold lw
   rcases bits_cases hb with rfl | rfl | rfl | rfl | rfl <;> (simp only [show ∀ n : Nat, (OfNat.ofNat n : Int).toNat = n from fun n => rfl] at *; split <;> (simp at *; omega))
 unfold infR
 rw [hs, if_pos ⟨hb, hf.1, hf.2, hlp.1, hlp.2⟩, show f + (c - f) = c by omega, if_neg (by simp [countOk] at hc; omega), if_pos hc]
theorem open_len {k : Ky} {b n : Int} {u : List UInt8} (h : (openR k b n u).2 = 0) : 1 ≤ (openR k b n u).1.length ∧ (openR k b n u).1.length ≤ 2048 := by
 by_cases h1 : k.ok = true
 · by_cases h2 : (bitsOk b && countOk n) = true
   · by_cases h3 : (numR b u).2 = 0
     · by_cases h4 : (numR b u).1 = lowR b n
       · have h5 := numR_ok h3
         rw [openR_ok h1 h2 h3 h4] at h ⊢
         split at h
         · rename_i h6
           rw [if_pos h6]
           show 1 ≤ (List.take _ _).length ∧ (List.take _ _).length ≤ 2048
           rw [List.length_take, xorL_len, List.length_drop]
           omega
         · simp at h
       · rw [openR_sn h1 h2 h3 h4] at h; simp at h
     · rw [openR_err h1 h2 h3] at h; exact absurd h h3
   · rw [openR_num u h1 (by simpa using h2)] at h; simp at h
 · rw [openR_key b n u (by simpa using h1)] at h; simp at h
theorem beh_kb (i : In) (j : Nat) : (behI i j).b = i.b ∧ (behI i j).k = i.k ∧ i.f ≤ (behI i j).f ∧ (behI i j).t = i.t := by
 have h := onI_k (stpI i (runN i.f (i.h.drop j)))
 refine ⟨h.1, h.2.1, ?_, h.2.2.2.1⟩
 show _ ≤ (onI _).f
 rw [h.2.2.1]
 show i.f ≤ i.f + _
 omega
theorem rcv_ok {i : In} (u : List UInt8) (v : Vf i) : Vf (rcvR i u).1 ∧ (rcvR i u).1.b = i.b ∧ (rcvR i u).1.k = i.k ∧ (rcvR i u).1.t = i.t ∧ i.f ≤ (rcvR i u).1.f := by
 have hb := inf_win (b := i.b) (f := i.f) (x := (numR i.b u).1)
 have hd := open_len (k := i.k) (b := i.b) (n := (infR i.b i.f (numR i.b u).1).1) (u := u)
 have hself : Vf i ∧ i.b = i.b ∧ i.k = i.k ∧ i.t = i.t ∧ i.f ≤ i.f := ⟨v, rfl, rfl, rfl, Int.le_refl _⟩
 unfold rcvR
 rw [if_pos v.to]
 split
 · split
   · rename_i h1 h2
     split
     · rename_i h3
       obtain ⟨-, hb1, hb2, hb3⟩ := hb h2
       have hd1 := hd h3
       generalize (openR i.k i.b (infR i.b i.f (numR i.b u).1).1 u).1 = d at *
       generalize (infR i.b i.f (numR i.b u).1).1 = c at *
       unfold takeR
       split
       · exact hself
       · split
         · exact hself
         · split
           · have h5 := beh_kb { i with f := i.f + 1 } 0
             refine ⟨beh_next v (by omega), h5.1, h5.2.1, h5.2.2.2, ?_⟩
             have := h5.2.2.1
             dsimp only at this ⊢
             omega
           · have h5 := beh_kb (putI i c d) 0
             refine ⟨beh_put v (by omega) hb3 hb1 (by simpa using ‹¬ hitR i.h c = true›) hd1, h5.1, h5.2.1, h5.2.2.2, h5.2.2.1⟩
     · exact hself
   · exact hself
 · exact hself
open Go.RowKit
theorem new_vf {b t f : Int} (hb : bitsOk b = true) (ht : 0 ≤ t ∧ t ≤ 1000) (hf : 0 ≤ f ∧ f ≤ 1048576) : Vf ⟨b, awK, f, f, 0, 0, t, []⟩ := by
 have h2 := win_pow hb
 refine ⟨hb, awK_ok, hf, ⟨Int.le_refl _, hf.2⟩, ht, ⟨Int.le_refl _, ht.1⟩, .inl ⟨rfl, rfl⟩, ?_, fun j hj => absurd hj (by simp), .inr ⟨rfl, rfl⟩⟩
 show f ≤ iarith .add .i64 f (winR b)
 rw [iadd_in _ _ (by omega) (by omega)]
 omega
open Go.RowKit
theorem rcv_sent {i : In} (v : Vf i) {c : Int} (hk : i.k = awK) (h0 : 0 ≤ c ∧ c < 1048576) (h1 : c < i.f + winR i.b) (h2 : i.f - winR i.b ≤ c) : rcvR i (sealB i.b c) = takeR i c (putB c 3) := by
 have hc : countOk c = true := by simp [countOk]; omega
 have hs : sealB i.b c = sealL awK i.b c (putB c 3) := by
   unfold sealB
   rw [sealR_ok awK_ok (by rw [v.b, hc]; rfl) rfl]
 rw [hs]
 unfold rcvR
 rw [if_pos v.to, num_seal awK i.b c _ awK_ok v.b hc rfl, if_pos rfl, inf_near v.b v.f hc h1 h2, if_pos rfl]
 dsimp only
 rw [hk, open_seal awK i.b c _ awK_ok v.b hc rfl, if_pos rfl]
theorem hit_mem {l : List Hl} {c : Int} (h : hitR l c = true) : ∃ x ∈ l, x.c = c := by
 have h1 : posR l c < l.length ∧ (l.getD (posR l c) Hl.z).c = c := of_decide_eq_true h
 refine ⟨l[posR l c], List.getElem_mem _, ?_⟩
 have := h1.2
 rwa [List.getD_eq_getElem?_getD, List.getElem?_eq_getElem h1.1] at this
theorem mem_getD {l : List Hl} {x : Hl} (h : x ∈ l) : ∃ j, j < l.length ∧ l.getD j Hl.z = x := by
 obtain ⟨j, hj, e⟩ := List.getElem_of_mem h
 exact ⟨j, hj, by rw [List.getD_eq_getElem?_getD, List.getElem?_eq_getElem hj]; exact e⟩
theorem getD_mem {l : List Hl} {j : Nat} (h : j < l.length) : l.getD j Hl.z ∈ l := by
 rw [List.getD_eq_getElem?_getD, List.getElem?_eq_getElem h]; exact List.getElem_mem _
theorem mem_hit {l : List Hl} (ha : ascH l) {x : Hl} (h : x ∈ l) : hitR l x.c = true := by
 obtain ⟨j, hj, e⟩ := mem_getD h
 have hp : j = posR l x.c := pos_eq ha (by omega) (fun k hk => by rw [← e]; exact ha k j hk hj) (fun k h1 h2 => by
   by_cases e2 : j = k
   · subst e2; rw [e]; exact Int.le_refl _
   · rw [← e]; exact Int.le_of_lt (ha j k (by omega) h2))
 exact decide_eq_true ⟨by omega, by rw [← hp, e]⟩
structure AllS (i : In) (N : Nat) (g : List Bool) : Prop where
 v : Vf i
 b : i.b = 6
 k : i.k = awK
 f : i.f ≤ (N : Int)
 h : ∀ x ∈ i.h, x.c < (N : Int) ∧ x.d = putB x.c 3
 l : g.length = N
 g : ∀ j : Nat, j < N → (g.getD j false = true ↔ ((j : Int) < i.f ∨ ∃ x ∈ i.h, x.c = (j : Int)))
theorem all_new (N : Nat) : AllS ⟨6, awK, 0, 0, 0, 0, 0, []⟩ N (List.replicate N false) where
 v := new_vf (by decide +kernel) (by decide) (by decide)
 b := rfl
 k := rfl
 f := by show (0 : Int) ≤ N; omega
 h := fun x hx => by cases hx
 l := List.length_replicate
 g := fun j hj => by
   have : (List.replicate N false).getD j false = false := by
     rw [List.getD_eq_getElem?_getD, List.getElem?_replicate]; split <;> rfl
   rw [this]
   refine ⟨fun h => absurd h (by decide), fun h => ?_⟩
   rcases h with h | ⟨x, hx, -⟩
   · have h' : (j : Int) < 0 := h
     omega
   · cases hx
theorem win6 : winR 6 = 32 := by decide +kernel
theorem all_old {i : In} {N : Nat} {g : List Bool} (s : AllS i N g) {p : Nat} (hp : p < N) (hN : N ≤ 60) (h1 : i.f ≤ p) (h2 : (p : Int) ≤ i.f + 31) (hg : g.getD p false = true) : rcvR i (sealB 6 p) = (i, [], 12) := by
 have h3 := s.v.f
 have e := rcv_sent s.v (c := p) s.k (by omega) (by rw [s.b, win6]; omega) (by rw [s.b, win6]; omega)
 rw [s.b] at e
 rw [e]
 unfold takeR
 rw [if_neg (by omega)]
 obtain h4 | ⟨x, hx, hc⟩ := (s.g p hp).1 hg
 · omega
 · have := mem_hit s.v.asc hx
   rw [hc] at this
   rw [if_pos this]
theorem set_get {g : List Bool} {p j : Nat} (hp : p < g.length) : (g.set p true).getD j false = if j = p then true else g.getD j false := by
 rw [List.getD_eq_getElem?_getD, List.getD_eq_getElem?_getD, List.getElem?_set]
 by_cases h : p = j
 · subst h; rw [if_pos rfl, if_pos hp, if_pos rfl]; rfl
 · rw [if_neg h, if_neg (by omega)]
theorem all_step {i : In} {N : Nat} {g : List Bool} (s : AllS i N g) {p : Nat} (hp : p < N) (hN : N ≤ 60) (h1 : i.f ≤ p) (h2 : (p : Int) ≤ i.f + 31) (hg : g.getD p false = false) :
   ∃ i' y, rcvR i (sealB 6 p) = (i', y, 0) ∧ AllS i' N (g.set p true) ∧ i'.f = i.f + (y.length : Int) ∧ ∀ j, j < y.length → y.getD j [] = putB (i.f + j) 3 := by
 have h3 := s.v.f
 have e := rcv_sent s.v (c := p) s.k (by omega) (by rw [s.b, win6]; omega) (by rw [s.b, win6]; omega)
 rw [s.b] at e
 have hhit : hitR i.h p = false := by
   cases hh : hitR i.h p with
   | false => rfl
   | true =>
     obtain ⟨x, hx, hc⟩ := hit_mem hh
     have := (s.g p hp).2 (.inr ⟨x, hx, hc⟩)
     rw [hg] at this; cases this
 have hok := rcv_ok (sealB 6 p) s.v
 rw [e] at hok
 have e2 : takeR i p (putB p 3) = if (p : Int) = i.f then (behI { i with f := i.f + 1 } 0, [putB p 3] ++ behO { i with f := i.f + 1 } 0, 0) else (behI (putI i p (putB p 3)) 0, behO (putI i p (putB p 3)) 0, 0) := by
   unfold takeR
   rw [if_neg (by omega), if_neg (by rw [hhit]; decide)]
 rw [e2] at e hok
 have hasc := s.v.asc
 have hlo := s.v.lo
 by_cases hpf : (p : Int) = i.f
 · rw [if_pos hpf] at e hok
   have hM := runN_le i.h (i.f + 1)
   have hyes := runN_yes i.h (i.f + 1)
   have e3 : behO { i with f := i.f + 1 } 0 = (i.h.take (runN (i.f + 1) i.h)).map (·.d) := by
     unfold behO; simp only [List.drop_zero, Nat.zero_add]
   have e4 : (behI { i with f := i.f + 1 } 0).f = i.f + 1 + (runN (i.f + 1) i.h : Int) := by
     unfold behI
     show (onI _).f = _
     rw [(onI_k _).2.2.1]
     rfl
   have e5 : (behI { i with f := i.f + 1 } 0).h = i.h.drop (runN (i.f + 1) i.h) := by
     unfold behI; simp only [List.drop_zero, Nat.zero_add]
   rw [e3] at e
   generalize behI { i with f := i.f + 1 } 0 = i' at *
   generalize runN (i.f + 1) i.h = M at *
   dsimp only at hok
   have hlen : ([putB p 3] ++ (i.h.take M).map (·.d)).length = M + 1 := by
     rw [List.length_append, List.length_map, List.length_take, List.length_singleton]; omega
   refine ⟨_, _, e, ⟨hok.1, hok.2.1.trans s.b, hok.2.2.1.trans s.k, ?_, ?_, by rw [List.length_set]; exact s.l, ?_⟩, ?_, ?_⟩
   · rw [e4]
     by_cases h0 : M = 0
     · subst h0; omega
     · have h5 := hyes (M - 1) (by omega)
       have h6 := (s.h _ (getD_mem (l := i.h) (j := M - 1) (by omega))).1
       rw [h5] at h6
       omega
   · rw [e5]
     exact fun x hx => s.h x (List.mem_of_mem_drop hx)
   · intro j hj
     rw [set_get (by rw [s.l]; exact hp), e4, e5]
     by_cases h5 : j = p
     · rw [if_pos h5]
       exact ⟨fun _ => .inl (by omega), fun _ => rfl⟩
     · rw [if_neg h5, s.g j hj]
       constructor
       · rintro (h6 | ⟨x, hx, h6⟩)
         · exact .inl (by omega)
         · obtain ⟨m, hm, h7⟩ := mem_getD hx
           by_cases h8 : m < M
           · have := hyes m h8
             rw [h7] at this
             exact .inl (by omega)
           · refine .inr ⟨x, ?_, h6⟩
             rw [← h7, show m = M + (m - M) by omega, ← hd_drop]
             exact getD_mem (by rw [List.length_drop]; omega)
       · rintro (h6 | ⟨x, hx, h6⟩)
         · by_cases h7 : (j : Int) < i.f
           · exact .inl h7
           · refine .inr ⟨i.h.getD (j - p - 1) Hl.z, getD_mem (by omega), ?_⟩
             rw [hyes (j - p - 1) (by omega)]
             omega
         · exact .inr ⟨x, List.mem_of_mem_drop hx, h6⟩
   · rw [e4, hlen]; omega
   · intro j hj
     rw [hlen] at hj
     cases j with
     | zero => show putB p 3 = _; rw [hpf]; congr 1; omega
     | succ j =>
       show ((i.h.take M).map (·.d)).getD j [] = _
       have h5 : ((i.h.take M).map (·.d)).getD j [] = (i.h.getD j Hl.z).d := by
         rw [List.getD_eq_getElem?_getD, List.getElem?_map, List.getElem?_take, if_pos (by omega), List.getD_eq_getElem?_getD, List.getElem?_eq_getElem (by omega)]
         rfl
       rw [h5, (s.h _ (getD_mem (l := i.h) (j := j) (by omega))).2, hyes j (by omega)]
       congr 1
       omega
 · rw [if_neg hpf] at e hok
   have hP := pos_le i.h p
   have eh : (putI i p (putB p 3)).h = insL i.h (posR i.h p) ⟨p, putB p 3⟩ := rfl
   have ef : (putI i p (putB p 3)).f = i.f := rfl
   have hmem : ∀ x, x ∈ insL i.h (posR i.h p) ⟨p, putB p 3⟩ ↔ x = ⟨p, putB p 3⟩ ∨ x ∈ i.h := fun x => by
     unfold insL
     rw [List.mem_append, List.mem_cons]
     have h5 : x ∈ i.h ↔ x ∈ i.h.take (posR i.h p) ∨ x ∈ i.h.drop (posR i.h p) := by
       rw [← List.mem_append, List.take_append_drop]
     rw [h5]
     constructor
     · rintro (h | h | h)
       · exact .inr (.inl h)
       · exact .inl h
       · exact .inr (.inr h)
     · rintro (h | h | h)
       · exact .inr (.inl h)
       · exact .inl h
       · exact .inr (.inr h)
   have hrun : runN i.f (insL i.h (posR i.h p) ⟨p, putB p 3⟩) = 0 := by
     rcases Nat.eq_zero_or_pos (runN i.f (insL i.h (posR i.h p) ⟨p, putB p 3⟩)) with h5 | h5
     · exact h5
     · exfalso
       have h6 := runN_yes _ _ 0 h5
       have h7 := runN_le (insL i.h (posR i.h p) ⟨p, putB p 3⟩) i.f
       have h8 := (hmem _).1 (getD_mem (l := insL i.h (posR i.h p) ⟨p, putB p 3⟩) (j := 0) (by omega))
       generalize (insL i.h (posR i.h p) ⟨p, putB p 3⟩).getD 0 Hl.z = x at *
       rcases h8 with rfl | h8
       · dsimp only at h6; omega
       · obtain ⟨m, hm, rfl⟩ := mem_getD h8
         have := hlo m hm
         omega
   have e3 : behO (putI i p (putB p 3)) 0 = [] := by
     unfold behO
     rw [eh, ef, List.drop_zero, hrun]; rfl
   have e4 : (behI (putI i p (putB p 3)) 0).f = i.f := by
     unfold behI
     show (onI _).f = _
     rw [(onI_k _).2.2.1, eh, ef, List.drop_zero, hrun]
     show (putI i p (putB p 3)).f + ((0 : Nat) : Int) = _
     rw [ef]; omega
   have e5 : (behI (putI i p (putB p 3)) 0).h = insL i.h (posR i.h p) ⟨p, putB p 3⟩ := by
     unfold behI
     rw [eh, ef, List.drop_zero, hrun]; rfl
   rw [e3] at e
   generalize behI (putI i p (putB p 3)) 0 = i' at *
   dsimp only at hok
   refine ⟨_, _, e, ⟨hok.1, hok.2.1.trans s.b, hok.2.2.1.trans s.k, by rw [e4]; exact s.f, ?_, by rw [List.length_set]; exact s.l, ?_⟩, by rw [e4]; simp, fun j hj => absurd hj (by simp)⟩
   · rw [e5]
     intro x hx
     rcases (hmem x).1 hx with rfl | hx
     · exact ⟨by dsimp only; omega, rfl⟩
     · exact s.h x hx
   · intro j hj
     rw [set_get (by rw [s.l]; exact hp), e4, e5]
     by_cases h5 : j = p
     · subst h5
       rw [if_pos rfl]
       exact ⟨fun _ => .inr ⟨⟨j, putB j 3⟩, (hmem _).2 (.inl rfl), rfl⟩, fun _ => rfl⟩
     · rw [if_neg h5, s.g j hj]
       constructor
       · rintro (h6 | ⟨x, hx, h6⟩)
         · exact .inl h6
         · exact .inr ⟨x, (hmem x).2 (.inr hx), h6⟩
       · rintro (h6 | ⟨x, hx, h6⟩)
         · exact .inl h6
         · rcases (hmem x).1 hx with rfl | hx
           · dsimp only at h6; omega
           · exact .inr ⟨x, hx, h6⟩
theorem all_left {i : In} {N : Nat} {g : List Bool} (s : AllS i N g) (h : 0 < g.count false) : i.f < (N : Int) := by
 have h1 := s.f
 rcases Classical.em (i.f < (N : Int)) with h2 | h2
 · exact h2
 · exfalso
   have h3 : false ∈ g := List.count_pos_iff.1 h
   obtain ⟨j, hj, e⟩ := List.getElem_of_mem h3
   have hj' : j < N := by rw [← s.l]; exact hj
   have h4 := (s.g j hj').2 (.inl (by omega))
   rw [List.getD_eq_getElem?_getD, List.getElem?_eq_getElem hj] at h4
   simp [e] at h4
theorem all_end {i : In} {N : Nat} {g : List Bool} (s : AllS i N g) (h : g.count false = 0) : i.f = (N : Int) ∧ i.h.length = 0 := by
 have hall : ∀ j, j < N → g.getD j false = true := fun j hj => by
   have hj' : j < g.length := by rw [s.l]; exact hj
   have h3 := List.count_eq_zero.1 h
   rw [List.getD_eq_getElem?_getD, List.getElem?_eq_getElem hj']
   show g[j] = true
   cases e : g[j] with
   | true => rfl
   | false => exact absurd (e ▸ List.getElem_mem hj') h3
 have h1 := s.f
 have h0 := s.v.f
 have hf : i.f = (N : Int) := by
   rcases Classical.em (i.f < (N : Int)) with h2 | h2
   · exfalso
     have h3 := hall i.f.toNat (by omega)
     rcases (s.g i.f.toNat (by omega)).1 h3 with h4 | ⟨x, hx, h4⟩
     · omega
     · obtain ⟨m, hm, rfl⟩ := mem_getD hx
       have := s.v.lo m hm
       omega
   · omega
 refine ⟨hf, ?_⟩
 rcases Nat.eq_zero_or_pos i.h.length with h2 | h2
 · exact h2
 · exfalso
   have h3 := s.v.lo 0 h2
   have h4 := (s.h _ (getD_mem h2)).1
   omega
theorem count_step {g : List Bool} {p : Nat} (hp : p < g.length) (hg : g.getD p false = false) : (g.set p true).count false + 1 = g.count false := by
 have h1 : g[p] = false := by rwa [List.getD_eq_getElem?_getD, List.getElem?_eq_getElem hp] at hg
 have h2 : 0 < g.count false := List.count_pos_iff.2 (h1 ▸ List.getElem_mem hp)
 rw [List.count_set hp, h1]
 simp
 omega
open Go.RowKit
variable {G : Nat → AV}
theorem b8_nat (n : Int) : ((b8 n).toNat : Int) = n % 256 := by
 have h := bAV_b8 n
 rw [IntKind.wrap_u8] at h
 exact (AV.int.inj h).2
theorem or8 (a : Int) (x : Nat) (h0 : 0 ≤ a) (h1 : a < 16777216) (hx : x < 256) : iarith .add .i64 (iarith .mul .i64 256 a) (IntKind.i64.wrap (x : Int)) = 256 * a + (x : Int) := by (exact T.num)
theorem get3_c (l : List UInt8) (hl : 3 ≤ l.length) : LSpec Tryd.prog G 14 [bv l, iAV 0, iAV 3] [] (fun _ => (iAV (65536 * ((l.getD 0 0).toNat : Int) + (256 * ((l.getD 1 0).toNat : Int) + (l.getD 2 0).toNat)), [])) := by
 refine goW [] Tryd.func14 rfl ?_
 conv => whnf
 repeat' ((first | refine T.s ?_ | ((first | apply goB | apply ABr.dec | apply ABr.gen) <;> intro h <;> try (exfalso; omega)) | refine LFresh.mk fun r => ?_ | (show SWpL _ _ _ _ _ _ _; first | refine SWpL.times 3 4 (by rfl) ?_ | refine AtL.step tyOk [] ?_) | exact T.z | refine ⟨_, rfl, rfl, ?_⟩ | fail) <;> conv => whnf)
 all_goals (try dsimp only)
 (show RetL _ _ _; refine goR ?_)
 have h0 := (l.getD 0 0).toNat_lt
 have h1 := (l.getD 1 0).toNat_lt
 have h2 := (l.getD 2 0).toNat_lt
 rw [show (iarith BinOp.add IntKind.i64 0 0).toNat * 1 = 0 from rfl, show (iarith BinOp.add IntKind.i64 0 (iarith BinOp.add IntKind.i64 0 1)).toNat * 1 = 1 from rfl, show (iarith BinOp.add IntKind.i64 0 (iarith BinOp.add IntKind.i64 (iarith BinOp.add IntKind.i64 0 1) 1)).toNat * 1 = 2 from rfl]
 generalize (l.getD 0 0).toNat = x at *
 generalize (l.getD 1 0).toNat = y at *
 generalize (l.getD 2 0).toNat = z at *
 refine congrArg (AV.int IntKind.i64) ?_
 rw [or8 0 x (by decide) (by decide) h0, or8 _ y (by omega) (by omega) h1, or8 _ z (by omega) (by omega) h2]
 omega
theorem sum3 (c : Int) (h0 : 0 ≤ c) (h1 : c < 16777216) : 65536 * (c / 65536 % 256) + (256 * (c / 256 % 256) + c % 256) = c := by omega
theorem getp_c (c : Int) (h : 0 ≤ c ∧ c < 16777216) : LSpec Tryd.prog G 14 [bv (putB c 3), iAV 0, iAV 3] [] (fun _ => (iAV c, [])) := by
 have h1 := get3_c (G := G) (putB c 3) (Nat.le_refl 3)
 have e0 : (((putB c 3).getD 0 0).toNat : Int) = (c / 65536) % 256 := by
   show ((b8 (c.fdiv (2 ^ min (8 * 2) 64))).toNat : Int) = _
   rw [b8_nat, Int.fdiv_eq_ediv_of_nonneg _ (by decide)]; rfl
 have e1 : (((putB c 3).getD 1 0).toNat : Int) = (c / 256) % 256 := by
   show ((b8 (c.fdiv (2 ^ min (8 * 1) 64))).toNat : Int) = _
   rw [b8_nat, Int.fdiv_eq_ediv_of_nonneg _ (by decide)]; rfl
 have e2 : (((putB c 3).getD 2 0).toNat : Int) = c % 256 := by
   show ((b8 (c.fdiv (2 ^ min (8 * 0) 64))).toNat : Int) = _
   rw [b8_nat, Int.fdiv_eq_ediv_of_nonneg _ (by decide), show (2 : Int) ^ min (8 * 0) 64 = 1 from rfl, Int.ediv_one]
 rw [e0, e1, e2, sum3 c h.1 h.2] at h1
 exact h1
theorem all_cases {i : In} {N : Nat} {g : List Bool} (s : AllS i N g) {p : Nat} (hp : p < N) (hN : N ≤ 60) (h1 : i.f ≤ p) (h2 : (p : Int) ≤ i.f + 31) (hl : i.h.length ≤ 99999) :
   ∃ i2 y e, LSpec Tryd.prog gl 12 [i.av, bv (sealB 6 p)] [] (fun _ => (.tup [i2.av, bsv y, iAV e], [])) ∧ AllS i2 N (g.set p true) ∧ i2.f = i.f + (y.length : Int) ∧ (∀ j, j < y.length → y.getD j [] = putB (i.f + j) 3) ∧ ((g.getD p false = true ∧ e = 12 ∧ y.length = 0 ∧ (g.set p true).count false = g.count false ∧ i.f < p) ∨ (g.getD p false = false ∧ e = 0 ∧ (g.set p true).count false + 1 = g.count false)) := by
 have hr := dreceive_c i (sealB 6 p) hl
 cases hg : g.getD p false with
 | true =>
   rw [all_old s hp hN h1 h2 hg] at hr
   have e : g.set p true = g := by
     refine List.ext_getElem (by simp) fun j h3 h4 => ?_
     rw [List.getElem_set]
     split
     · rename_i h5
       subst h5
       rw [List.getD_eq_getElem?_getD, List.getElem?_eq_getElem h4] at hg
       exact hg.symm
     · rfl
   have hf : i.f < p := by
     rcases (s.g p hp).1 hg with h3 | ⟨x, hx, h3⟩
     · omega
     · obtain ⟨m, hm, rfl⟩ := mem_getD hx
       have := s.v.lo m hm
       omega
   exact ⟨i, [], 12, hr, by rw [e]; exact s, by simp, fun j hj => absurd hj (by simp), .inl ⟨rfl, rfl, rfl, by rw [e], hf⟩⟩
 | false =>
   obtain ⟨i2, y, h3, h4, h5, h6⟩ := all_step s hp hN h1 h2 hg
   rw [h3] at hr
   exact ⟨i2, y, 0, hr, h4, h5, h6, .inr ⟨rfl, rfl, count_step (by rw [s.l]; exact hp) hg⟩⟩
theorem all_held {i : In} {N : Nat} {g : List Bool} (s : AllS i N g) (hN : N ≤ 60) : i.h.length ≤ 60 := by
 have key : ∀ j, j < i.h.length → (j : Int) ≤ (i.h.getD j Hl.z).c := by
   intro j
   induction j with
   | zero => intro hj; have := (s.v.lo 0 hj); have := s.v.f; omega
   | succ j ih =>
     intro hj
     have h1 := ih (by omega)
     have h2 := s.v.asc j (j + 1) (by omega) hj
     omega
 rcases Nat.eq_zero_or_pos i.h.length with h | h
 · omega
 · have h1 := key (i.h.length - 1) (by omega)
   have h2 := (s.h _ (getD_mem (l := i.h) (j := i.h.length - 1) (by omega))).1
   omega
theorem bset {g : List Bool} {p m : Nat} (h : m = p) (hp : p < g.length) : splice (g.map AV.bool) m [AV.bool true] = (g.set p true).map AV.bool := by
 subst h
 exact (AList.set (f := AV.bool) (v := .bool true) (x := true) (K := fun l => splice (g.map AV.bool) m [AV.bool true] = l → splice (g.map AV.bool) m [AV.bool true] = (g.set m true).map AV.bool) rfl hp (fun h => h)).go rfl
theorem all_cnt {i : In} {N : Nat} {g : List Bool} (s : AllS i N g) : g.count false ≤ N := by rw [← s.l]; exact List.count_le_length
theorem rep_count (N : Nat) : AV.int .i64 (N : Int) = AV.int .i64 (((List.replicate N false).count false : Nat) : Int) := by rw [List.count_replicate_self]
theorem zc_bool (N : Nat) : zcells [AV.bool false] ((N : Int).toNat * 1) = (List.replicate N false).map AV.bool := by
 unfold zcells
 rw [List.map_replicate]
 refine List.ext_getElem (by simp) fun j h1 h2 => ?_
 simp [Nat.mod_one]
theorem all17_c (t : List Int) (c : Int) : LSpec Tryd.prog gl 3 [iv t, iAV c] [] (fun _ => (.bool true, [])) := by
 by_cases ht : t.length ≤ 400
 · have hl := light_c (G := gl) t
   rw [decide_eq_true ht] at hl
   have hm := mod_c (G := gl) c 60
   have hmr := modR_lt c 60 (by decide) (by decide)
   obtain ⟨N, hN⟩ : ∃ N : Nat, modR c 60 = (N : Int) := ⟨(modR c 60).toNat, by omega⟩
   rw [hN] at hm hmr
   have hnew := dnew_c (G := gl) 6 0 awK
   rw [show newI 6 0 awK = (⟨6, awK, 0, 0, 0, 0, 0, []⟩, 0) by unfold newI; rw [if_pos (by decide +kernel), if_pos awK_ok]] at hnew
   have h0 := all_new N
   have hA : ∀ a, (a < t.length ∧ nextA t a = a + 1) ∨ (¬ a < t.length ∧ nextA t a = a) := fun a => by
     unfold nextA; split
     · exact .inl ⟨by assumption, rfl⟩
     · exact .inr ⟨by assumption, rfl⟩
   have hR : ∀ a, 0 ≤ nextR t a 8 ∧ nextR t a 8 < 8 := fun a => nextR_lt t a 8 (by decide) (by decide)
   refine goW [13] Tryd.func3 rfl ?_
   conv => whnf
   repeat' ((first | (show LCall _ _ 12 _ _ _; obtain ⟨i2, y, e, hr, s2, hf2, hy, hc⟩ := all_cases hS hp1 (by omega) hp2 hp3 (by have := all_held hS (by omega); omega); have hf3 := s2.f; have hf4 := s2.v.f; rcases hc with ⟨hg, rfl, hy0, hct, hpf⟩ | ⟨hg, rfl, hct⟩ <;> refine LCall.pure hr ?_) | exact Nm.b 0 | (refine And.intro ?_ ?_; (focus (first | ((try dsimp only); rw [List.length_map, hS.l]; omega) | exact T.kx | exact T.side))) | (show LCall _ _ _ _ _ _; first | refine LCall.pure (awake17_c) ?_ | refine LCall.pure (hl) ?_ | refine LCall.own (roll_c t) ?_ | refine LCall.pure (key17_c) ?_ | refine LCall.pure (hnew) ?_ | refine LCall.pure (hm) ?_ | (apply LCall.upd (next_c t _ _ ht _); (repeat first | refine goH ?_ | apply LHas.here | apply LHas.next); refine ⟨rfl, ?_⟩) | refine LCall.pure (seal17_c 6 _) ?_ | refine LCall.pure (getp_c _ (by omega)) ?_ | refine goE ?_) | (show ACell _ _ _; first | ((with_reducible show ACell _ (List.take _ (List.drop _ (List.map AV.bool _))) _); refine ACell.idx pk false ?_ ?_ ?_; (focus (first | exact rfl | (simp; done) | (simp; omega))); (focus (rw [hS.l]; exact hp1)); rw [hg]) | ((with_reducible show ACell _ (List.take _ (List.drop _ (List.map bv _))) _); refine ACell.idx m ([] : List UInt8) ?_ ?_ ?_; (focus (first | exact rfl | (simp; done) | (simp; omega))); (focus omega); rw [hy m (by omega)])) | (show AList _ _; first | (refine AList.eq (bset (p := pk) ?_ ?_) ?_; (focus (first | exact rfl | (simp; done) | (simp; omega))); (focus (rw [hS.l]; exact hp1)))) | refine T.s ?_ | ((first | apply goB | apply ABr.dec | apply ABr.gen) <;> intro h <;> try (exfalso; omega)) | refine LFresh.mk fun r => ?_ | (show SWpL _ _ _ (.loop _) _ _ _; first | (apply goO tyOk [13] 24 (S := Nat) [5, 6, 7, 8, 9, 11, 13] (fun m => ⟨[(10, .int .i64 (i.f + (m : Int))), (15, .int .i64 m)], [(q, ⟨4, (g.set pk true).map AV.bool⟩), (b6, ⟨32, i2.cs⟩), (b5, dice t (nextA t a))], m ≤ y.length, y.length - m⟩) (0) (by rfl); (focus ((repeat' first | exact trivial | (refine And.intro ?_ ?_) | exact LSub.nil | (with_reducible exact LSub.refl) | (apply LSub.cons; (repeat first | refine goH ?_ | apply LHas.here | apply LHas.next); refine And.intro ?_ ?_; (focus (try (first | (with_reducible rfl) | (refine congrArg (Pl.mk _) ?_; (first | rfl | (simp; done))) | rfl | (with_reducible refine congrArg (Pl.mk _) ?_))))) | assumption | (exact rep_count _) | (exact zc_bool _) | (exact congrArg (Pl.mk _) (zc_bool _)) | (exact s2) | (exact h0) | (first | (focus (apply Eq.trans; (conv => lhs; whnf); (conv => rhs; whnf); done)) | rfl | ((conv => lhs; whnf); first | rfl | (refine congrArg (AV.int _) ?_; (exact T.num)) | (refine congrArg AV.bool ?_; (exact T.num)) | (refine vw_congr ?_; first | (exact T.num) | (first | rfl | (simp; done))) | (refine sl_congr ?_ ?_ <;> first | (exact T.num) | (first | rfl | (simp; done))) | (first | rfl | (simp; done)))) | (exact T.num) | (dsimp only; (exact T.num)) | (first | rfl | (simp; done))); done)); rintro m hok; (try dsimp only at hok)) | (apply goO tyOk [13] 9 (S := In × (List Bool) × Nat × Nm × Nm × Nm) [8] (fun (i, g, a, b5, b6, q) => ⟨[(5, .ptr b5 0), (6, .ptr b6 0), (7, iAV 0), (9, .vw q 0 N 1), (10, .int .i64 i.f), (11, .int .i64 (g.count false : Int))], [(q, ⟨4, g.map AV.bool⟩), (b6, ⟨32, i.cs⟩), (b5, dice t a)], AllS i N g ∧ a ≤ t.length, (t.length - a) + g.count false⟩) ((⟨6, awK, 0, 0, 0, 0, 0, []⟩, List.replicate N false, 0, _, _, _)) (by rfl); (focus ((repeat' first | exact trivial | (refine And.intro ?_ ?_) | exact LSub.nil | (with_reducible exact LSub.refl) | (apply LSub.cons; (repeat first | refine goH ?_ | apply LHas.here | apply LHas.next); refine And.intro ?_ ?_; (focus (try (first | (with_reducible rfl) | (refine congrArg (Pl.mk _) ?_; (first | rfl | (simp; done))) | rfl | (with_reducible refine congrArg (Pl.mk _) ?_))))) | assumption | (exact rep_count _) | (exact zc_bool _) | (exact congrArg (Pl.mk _) (zc_bool _)) | (exact s2) | (exact h0) | (first | (focus (apply Eq.trans; (conv => lhs; whnf); (conv => rhs; whnf); done)) | rfl | ((conv => lhs; whnf); first | rfl | (refine congrArg (AV.int _) ?_; (exact T.num)) | (refine congrArg AV.bool ?_; (exact T.num)) | (refine vw_congr ?_; first | (exact T.num) | (first | rfl | (simp; done))) | (refine sl_congr ?_ ?_ <;> first | (exact T.num) | (first | rfl | (simp; done))) | (first | rfl | (simp; done)))) | (exact T.num) | (dsimp only; (exact T.num)) | (first | rfl | (simp; done))); done)); rintro ⟨i, g, a, b5, b6, q⟩ ⟨hk, hok⟩; (have hS := hk; have ha := hok; have hf0 := hS.v.f; have hfN := hS.f; have hLf := all_left hS; have hE := all_end hS; have hCl := all_cnt hS; have hAa := hA a; have hRa := hR a))) | (show SWpL _ _ _ _ _ _ _; first | refine gX 10 [1, 3] [0, 1, 2, 3, 4, 5] [b5] ?_ | refine gX 11 [] [0, 1, 2, 3, 4, 5, 6, 7, 8, 9] [b5] ?_ | refine gX 17 [0, 2] [0, 1, 2, 3, 4, 5, 6, 7, 8, 9, 10] [b5] ?_) | (show AtL _ _ _ _ _ _ _ _ _ _; first | (apply AtL.mk' (id := 24) (S := Nat) (m + 1); (repeat' first | exact trivial | (refine And.intro ?_ ?_) | exact LSub.nil | (with_reducible exact LSub.refl) | (apply LSub.cons; (repeat first | refine goH ?_ | apply LHas.here | apply LHas.next); refine And.intro ?_ ?_; (focus (try (first | (with_reducible rfl) | (refine congrArg (Pl.mk _) ?_; (first | rfl | (simp; done))) | rfl | (with_reducible refine congrArg (Pl.mk _) ?_))))) | assumption | (exact rep_count _) | (exact zc_bool _) | (exact congrArg (Pl.mk _) (zc_bool _)) | (exact s2) | (exact h0) | (first | (focus (apply Eq.trans; (conv => lhs; whnf); (conv => rhs; whnf); done)) | rfl | ((conv => lhs; whnf); first | rfl | (refine congrArg (AV.int _) ?_; (exact T.num)) | (refine congrArg AV.bool ?_; (exact T.num)) | (refine vw_congr ?_; first | (exact T.num) | (first | rfl | (simp; done))) | (refine sl_congr ?_ ?_ <;> first | (exact T.num) | (first | rfl | (simp; done))) | (first | rfl | (simp; done)))) | (exact T.num) | (dsimp only; (exact T.num)) | (first | rfl | (simp; done))); done) | (apply AtL.mk' (id := 9) (S := In × (List Bool) × Nat × Nm × Nm × Nm) ((i2, g.set pk true, nextA t a, b5, b6, q)); (repeat' first | exact trivial | (refine And.intro ?_ ?_) | exact LSub.nil | (with_reducible exact LSub.refl) | (apply LSub.cons; (repeat first | refine goH ?_ | apply LHas.here | apply LHas.next); refine And.intro ?_ ?_; (focus (try (first | (with_reducible rfl) | (refine congrArg (Pl.mk _) ?_; (first | rfl | (simp; done))) | rfl | (with_reducible refine congrArg (Pl.mk _) ?_))))) | assumption | (exact rep_count _) | (exact zc_bool _) | (exact congrArg (Pl.mk _) (zc_bool _)) | (exact s2) | (exact h0) | (first | (focus (apply Eq.trans; (conv => lhs; whnf); (conv => rhs; whnf); done)) | rfl | ((conv => lhs; whnf); first | rfl | (refine congrArg (AV.int _) ?_; (exact T.num)) | (refine congrArg AV.bool ?_; (exact T.num)) | (refine vw_congr ?_; first | (exact T.num) | (first | rfl | (simp; done))) | (refine sl_congr ?_ ?_ <;> first | (exact T.num) | (first | rfl | (simp; done))) | (first | rfl | (simp; done)))) | (exact T.num) | (dsimp only; (exact T.num)) | (first | rfl | (simp; done))); done) | (apply AtL.mk' (id := 24) (S := Nat) (m + 1); (repeat' first | exact trivial | (refine And.intro ?_ ?_) | exact LSub.nil | (with_reducible exact LSub.refl) | (apply LSub.cons; (repeat first | refine goH ?_ | apply LHas.here | apply LHas.next); refine And.intro ?_ ?_; (focus (try (first | (with_reducible rfl) | (refine congrArg (Pl.mk _) ?_; (first | rfl | (simp; done))) | rfl | (with_reducible refine congrArg (Pl.mk _) ?_))))) | assumption | (exact rep_count _) | (exact zc_bool _) | (exact congrArg (Pl.mk _) (zc_bool _)) | (exact s2) | (exact h0) | (first | (focus (apply Eq.trans; (conv => lhs; whnf); (conv => rhs; whnf); done)) | rfl | ((conv => lhs; whnf); first | rfl | (refine congrArg (AV.int _) ?_; (exact T.num)) | (refine congrArg AV.bool ?_; (exact T.num)) | (refine vw_congr ?_; first | (exact T.num) | (first | rfl | (simp; done))) | (refine sl_congr ?_ ?_ <;> first | (exact T.num) | (first | rfl | (simp; done))) | (first | rfl | (simp; done)))) | (exact T.num) | (dsimp only; (exact T.num)) | (first | rfl | (simp; done)))) | (apply AtL.mk' (id := 9) (S := In × (List Bool) × Nat × Nm × Nm × Nm) ((i2, g.set pk true, nextA t a, b5, b6, q)); (repeat' first | exact trivial | (refine And.intro ?_ ?_) | exact LSub.nil | (with_reducible exact LSub.refl) | (apply LSub.cons; (repeat first | refine goH ?_ | apply LHas.here | apply LHas.next); refine And.intro ?_ ?_; (focus (try (first | (with_reducible rfl) | (refine congrArg (Pl.mk _) ?_; (first | rfl | (simp; done))) | rfl | (with_reducible refine congrArg (Pl.mk _) ?_))))) | assumption | (exact rep_count _) | (exact zc_bool _) | (exact congrArg (Pl.mk _) (zc_bool _)) | (exact s2) | (exact h0) | (first | (focus (apply Eq.trans; (conv => lhs; whnf); (conv => rhs; whnf); done)) | rfl | ((conv => lhs; whnf); first | rfl | (refine congrArg (AV.int _) ?_; (exact T.num)) | (refine congrArg AV.bool ?_; (exact T.num)) | (refine vw_congr ?_; first | (exact T.num) | (first | rfl | (simp; done))) | (refine sl_congr ?_ ?_ <;> first | (exact T.num) | (first | rfl | (simp; done))) | (first | rfl | (simp; done)))) | (exact T.num) | (dsimp only; (exact T.num)) | (first | rfl | (simp; done))))) | (show CutL _ _ _ _ _ _ _ _; first | (refine goK tyOk [13] 13 (S := Nat) [5, 6, 7, 8, 9, 10, 11] (fun pk => ⟨[(12, .int .i64 pk)], [(q, ⟨4, g.map AV.bool⟩), (b6, ⟨32, i.cs⟩), (b5, dice t (nextA t a))], pk < N ∧ i.f ≤ (pk : Int) ∧ (pk : Int) ≤ i.f + 31 ∧ (t.length ≤ nextA t a → (pk : Int) = i.f), 0⟩) ?_ ?_; (rintro pk hok; (try dsimp only at hok); (repeat (have hk := And.left hok; replace hok := And.right hok)); (have hp1 : pk < N := (by assumption); have hp2 : i.f ≤ (pk : Int) := (by assumption); have hp3 : (pk : Int) ≤ i.f + 31 := (by assumption); have hp4 := hok)); rotate_left) | refine CutL.go tyOk [13] ?_) | (show AtC _ _ _ _ _ _ _ _; first | (apply AtC.mk' (id := 13) (S := Nat) (i.f.toNat); (repeat' first | exact trivial | (refine And.intro ?_ ?_) | exact LSub.nil | (with_reducible exact LSub.refl) | (apply LSub.cons; (repeat first | refine goH ?_ | apply LHas.here | apply LHas.next); refine And.intro ?_ ?_; (focus (try (first | (with_reducible rfl) | (refine congrArg (Pl.mk _) ?_; (first | rfl | (simp; done))) | rfl | (with_reducible refine congrArg (Pl.mk _) ?_))))) | assumption | (exact rep_count _) | (exact zc_bool _) | (exact congrArg (Pl.mk _) (zc_bool _)) | (exact s2) | (exact h0) | (first | (focus (apply Eq.trans; (conv => lhs; whnf); (conv => rhs; whnf); done)) | rfl | ((conv => lhs; whnf); first | rfl | (refine congrArg (AV.int _) ?_; (exact T.num)) | (refine congrArg AV.bool ?_; (exact T.num)) | (refine vw_congr ?_; first | (exact T.num) | (first | rfl | (simp; done))) | (refine sl_congr ?_ ?_ <;> first | (exact T.num) | (first | rfl | (simp; done))) | (first | rfl | (simp; done)))) | (exact T.num) | (dsimp only; (exact T.num)) | (first | rfl | (simp; done))); done) | (apply AtC.mk' (id := 13) (S := Nat) ((i.f + nextR t a 8).toNat); (repeat' first | exact trivial | (refine And.intro ?_ ?_) | exact LSub.nil | (with_reducible exact LSub.refl) | (apply LSub.cons; (repeat first | refine goH ?_ | apply LHas.here | apply LHas.next); refine And.intro ?_ ?_; (focus (try (first | (with_reducible rfl) | (refine congrArg (Pl.mk _) ?_; (first | rfl | (simp; done))) | rfl | (with_reducible refine congrArg (Pl.mk _) ?_))))) | assumption | (exact rep_count _) | (exact zc_bool _) | (exact congrArg (Pl.mk _) (zc_bool _)) | (exact s2) | (exact h0) | (first | (focus (apply Eq.trans; (conv => lhs; whnf); (conv => rhs; whnf); done)) | rfl | ((conv => lhs; whnf); first | rfl | (refine congrArg (AV.int _) ?_; (exact T.num)) | (refine congrArg AV.bool ?_; (exact T.num)) | (refine vw_congr ?_; first | (exact T.num) | (first | rfl | (simp; done))) | (refine sl_congr ?_ ?_ <;> first | (exact T.num) | (first | rfl | (simp; done))) | (first | rfl | (simp; done)))) | (exact T.num) | (dsimp only; (exact T.num)) | (first | rfl | (simp; done))); done) | (apply AtC.mk' (id := 13) (S := Nat) (i.f.toNat); (repeat' first | exact trivial | (refine And.intro ?_ ?_) | exact LSub.nil | (with_reducible exact LSub.refl) | (apply LSub.cons; (repeat first | refine goH ?_ | apply LHas.here | apply LHas.next); refine And.intro ?_ ?_; (focus (try (first | (with_reducible rfl) | (refine congrArg (Pl.mk _) ?_; (first | rfl | (simp; done))) | rfl | (with_reducible refine congrArg (Pl.mk _) ?_))))) | assumption | (exact rep_count _) | (exact zc_bool _) | (exact congrArg (Pl.mk _) (zc_bool _)) | (exact s2) | (exact h0) | (first | (focus (apply Eq.trans; (conv => lhs; whnf); (conv => rhs; whnf); done)) | rfl | ((conv => lhs; whnf); first | rfl | (refine congrArg (AV.int _) ?_; (exact T.num)) | (refine congrArg AV.bool ?_; (exact T.num)) | (refine vw_congr ?_; first | (exact T.num) | (first | rfl | (simp; done))) | (refine sl_congr ?_ ?_ <;> first | (exact T.num) | (first | rfl | (simp; done))) | (first | rfl | (simp; done)))) | (exact T.num) | (dsimp only; (exact T.num)) | (first | rfl | (simp; done)))) | (apply AtC.mk' (id := 13) (S := Nat) ((i.f + nextR t a 8).toNat); (repeat' first | exact trivial | (refine And.intro ?_ ?_) | exact LSub.nil | (with_reducible exact LSub.refl) | (apply LSub.cons; (repeat first | refine goH ?_ | apply LHas.here | apply LHas.next); refine And.intro ?_ ?_; (focus (try (first | (with_reducible rfl) | (refine congrArg (Pl.mk _) ?_; (first | rfl | (simp; done))) | rfl | (with_reducible refine congrArg (Pl.mk _) ?_))))) | assumption | (exact rep_count _) | (exact zc_bool _) | (exact congrArg (Pl.mk _) (zc_bool _)) | (exact s2) | (exact h0) | (first | (focus (apply Eq.trans; (conv => lhs; whnf); (conv => rhs; whnf); done)) | rfl | ((conv => lhs; whnf); first | rfl | (refine congrArg (AV.int _) ?_; (exact T.num)) | (refine congrArg AV.bool ?_; (exact T.num)) | (refine vw_congr ?_; first | (exact T.num) | (first | rfl | (simp; done))) | (refine sl_congr ?_ ?_ <;> first | (exact T.num) | (first | rfl | (simp; done))) | (first | rfl | (simp; done)))) | (exact T.num) | (dsimp only; (exact T.num)) | (first | rfl | (simp; done))))) | exact T.z | fail) <;> conv => whnf)
   all_goals (try dsimp only)
   all_goals try first | contradiction | (exfalso; omega)
   all_goals
     have hc0 : g.count false = 0 := by omega
     have hh := (hE hc0).2
     rw [hh]
     (show RetL _ _ _; refine goR ?_)
     rfl
 · have hl := light_c (G := gl) t
   rw [decide_eq_false ht] at hl
   refine goW [] Tryd.func3 rfl ?_
   conv => whnf
   repeat' ((first | exact Nm.b 0 | (show LCall _ _ _ _ _ _; first | refine LCall.pure (awake17_c) ?_ | refine LCall.pure (hl) ?_ | refine goE ?_) | refine T.s ?_ | ((first | apply goB | apply ABr.dec | apply ABr.gen) <;> intro h <;> try (exfalso; omega)) | refine LFresh.mk fun r => ?_ | (show SWpL _ _ _ _ _ _ _; first | (refine goD tyOk mixed 10 [1, 3] [0, 1, 2, 3, 4, 5] [] (by kernel_rfl) ?_) | (refine goD tyOk mixed 11 [] [0, 1, 2, 3, 4, 5, 6, 7, 8, 9] [] (by kernel_rfl) ?_) | (refine goD tyOk mixed 17 [0, 2] [0, 1, 2, 3, 4, 5, 6, 7, 8, 9, 10] [] (by kernel_rfl) ?_)) | exact T.z | fail) <;> conv => whnf)
   all_goals (try dsimp only)
   all_goals first | contradiction | ((show RetL _ _ _; refine goR ?_); rfl) | trace_state
open Go.ChangeShapes Go.WideShapes Go.ChangeAt Go.RowKit
theorem LSpec.stmt {P : Program} {G : Nat → AV} {f : FuncId} {args : List AV} (h : LSpec P G f args [] (fun _ => (.bool true, []))) {W : World} {vs : Array Value} (hg : Glob G (fun _ => none) W) (hr : RdL (fun _ => none) W args vs) :
   Calls P f vs W fun e W' => e = .returned (.bool true) ∧ Below W.heap.size W W' := by
 unfold LSpec at h
 refine (h.2.2 (fun _ => none) W vs ⟨nofun, nofun, 0, fun _ _ => rfl⟩ hg (by simp) (by simp) hr).mono ?_
 rintro e W' ⟨v, q, rfl, -, -, hv, -, hs⟩
 have hv : Rd _ W' (.bool true) v := hv
 cases hv
 exact ⟨rfl, hs.os, hs.tape, hs.output, hs.size, fun k hk => (hs.old k hk rfl).2⟩
theorem RdL.nil0 {σ : Store} {W : World} : RdL σ W [] #[] := ⟨rfl, fun i hi => by simp at hi⟩
theorem RdL.cons0 {σ : Store} {W : World} {a : AV} {v : Value} {al : List AV} {vs : List Value} (h : Rd σ W a v) (hs : RdL σ W al vs.toArray) : RdL σ W (a :: al) (v :: vs).toArray :=
 ⟨by have := hs.1; simp at this ⊢; omega, fun i hi => by
   cases i with
   | zero => simpa using h
   | succ i =>
     have h2 := hs.2 i (by simp at hi; omega)
     simpa using h2⟩
theorem exists_list {α : Type} (p : Nat → α → Prop) : ∀ (n : Nat), (∀ i, i < n → ∃ x, p i x) → ∃ l : List α, l.length = n ∧ ∀ i x, l[i]? = some x → p i x
 | 0, _ => ⟨[], rfl, by simp⟩
 | n + 1, h => by
   obtain ⟨l, h1, h2⟩ := exists_list p n fun i hi => h i (by omega)
   obtain ⟨x, hx⟩ := h n (by omega)
   refine ⟨l ++ [x], by simp [h1], fun i y hy => ?_⟩
   by_cases hi : i < l.length
   · rw [List.getElem?_append_left hi] at hy
     exact h2 i y hy
   · rw [List.getElem?_append_right (by omega)] at hy
     by_cases h0 : i - l.length = 0
     · rw [h0] at hy
       simp at hy
       subst hy
       have : i = n := by omega
       subst this
       exact hx
     · obtain ⟨k, hk⟩ := Nat.exists_eq_succ_of_ne_zero h0
       rw [hk] at hy
       simp at hy
section
variable {H : Type} {enc : TypeId × Value → H} {P : Program} {W : World} {base : Nat} {sp : Nat → Bool} {held : Bool} {b0 : Nat} {r : Reach}
theorem cell_row {α : Type} {A : α → AV} {u e : TypeId} (hu : P.underlying u = some (.slice e)) (hc : P.cellsOf e = 1) (he : ∀ (fuel : Nat) (c : Value) (y : DataW H × List MemPlace), DataW.trod enc P W base sp held fuel e [c] = some y → ∃ x, Rd (fun _ => none) W (A x) c)
   {c : Value} (hv : Cell.okWide P W r b0 u c) {fuel : Nat} {y : DataW H × List MemPlace} (h : DataW.trod enc P W base sp held fuel u [c] = some y) : ∃ l : List α, Rd (fun _ => none) W (.sl l.length (l.map A)) c := by
 rcases DataW.trod_slice hu h with ⟨h0, -⟩ | ⟨a, len, cap, elems, rest, n, -, h0, -, -, hl, hm, hlen, hel, -⟩
 · obtain rfl := (List.cons.inj h0).1
   exact ⟨[], .slnil⟩
 · obtain rfl := (List.cons.inj h0).1
   have hspot : a.spot = none := by
     simp only [Cell.okWide, hu, Cell.ok] at hv
     exact hv.2.2.2.1
   obtain ⟨b, off, spot⟩ := a
   simp only at hspot
   subst hspot
   have hadd : ∀ i, (⟨b, off, none⟩ : Addr).add i = ⟨b, off + i, none⟩ := fun i => by unfold Addr.add; split <;> simp_all
   obtain ⟨l, h1, h2⟩ := exists_list (fun i x => ∃ v, W.cell? ⟨b, off + i, none⟩ = some v ∧ Rd (fun _ => none) W (A x) v) len (fun i hi => by
     have hE := hel i hi
     rw [List.getElem?_eq_getElem (by omega)] at hE
     obtain ⟨c1, hc1, hy1⟩ := Option.bind_eq_some_iff.1 hE
     obtain ⟨-, h4, h5⟩ := World.cells?_some hc1
     rw [hc] at h4 h5
     match c1, h4 with
     | [v], _ =>
       have h6 := h5 0 (by omega)
       rw [Nat.mul_one, hadd] at h6
       have e0 : (⟨b, off + i, none⟩ : Addr).add 0 = ⟨b, off + i, none⟩ := by simp [Addr.add]
       rw [e0] at h6
       obtain ⟨x, hx⟩ := he n v _ hy1
       exact ⟨x, v, by simpa using h6, hx⟩)
   refine ⟨l, ?_⟩
   rw [h1]
   have h3 : ∀ i (hi : i < l.length), ∃ v, W.cell? ⟨b, off + i, none⟩ = some v ∧ Rd (fun _ => none) W (A l[i]) v := fun i hi => h2 i l[i] (List.getElem?_eq_getElem hi)
   refine .sl len _ b off cap (fun i => (W.cell? ⟨b, off + i, none⟩).getD undef) (fun _ => rfl) hl hm (fun i hi => ?_) (fun i hi => ?_)
   · obtain ⟨v, k1, -⟩ := h3 i (by simpa using hi)
     rw [k1]; rfl
   · have hi' : i < l.length := by simpa using hi
     obtain ⟨v, k1, k2⟩ := h3 i hi'
     rw [k1]
     simpa [List.getD_eq_getElem?_getD, hi'] using k2
theorem cell_ints {u e : TypeId} (hu : P.underlying u = some (.slice e)) (he : P.underlying e = some (.int .i64)) (hc : P.cellsOf e = 1) {c : Value} (hv : Cell.okWide P W r b0 u c) {fuel : Nat} {y : DataW H × List MemPlace} (h : DataW.trod enc P W base sp held fuel u [c] = some y) : ∃ l : List Int, Rd (fun _ => none) W (iv l) c :=
 cell_row (A := iAV) hu hc (fun fuel c y h => by
   obtain ⟨n, h1, -, -⟩ := DataW.trod_int he h
   obtain rfl := (List.cons.inj h1).1
   exact ⟨n, .int _ _⟩) hv h
theorem trod_fields {t : TypeId} {fs : Array Field} (ht : P.underlying t = some (.struct fs)) {fuel : Nat} {cs : List Value} {y : DataW H × List MemPlace} (h : DataW.trod enc P W base sp held fuel t cs = some y) :
   ∀ (i : Nat) (f : Field), fs[i]? = some f → ∃ n y', DataW.trod enc P W base sp held n f.type ((cs.drop f.offset).take (P.cellsOf f.type)) = some y' := by
 obtain ⟨xs, n, -, -, hl, hxl, hf⟩ := DataW.trod_struct ht h
 intro i f hfi
 have h1 := hf i f hfi
 have hi : i < xs.length := by rw [hxl]; exact (Array.getElem?_eq_some_iff.1 hfi).1
 rw [List.getElem?_eq_getElem hi] at h1
 exact ⟨n, _, h1⟩
end
section
variable {H : Type} {enc : TypeId × Value → H} {P : Program} {W : World} {base : Nat} {sp : Nat → Bool} {held : Bool} {b0 : Nat} {r : Reach} {v : Value} {d : DataW H} {p : List MemPlace}
theorem arg_ints {u e : TypeId} (hu : P.underlying u = some (.slice e)) (he : P.underlying e = some (.int .i64)) (hc : P.cellsOf e = 1) (hv : Value.okWide P W r b0 u v) (h : DataW.Trod enc P W base sp held u v d p) : ∃ l : List Int, Rd (fun _ => none) W (iv l) v := by
 obtain ⟨a, len, cap, rfl⟩ := okWide_slice hu hv
 obtain ⟨fuel, hf⟩ := h
 have hv : Cell.okWide P W r b0 u (.slice a len cap) := by simpa only [Value.okWide, hu] using hv
 exact cell_ints hu he hc hv hf
theorem arg_int {u : TypeId} (hu : P.underlying u = some (.int .i64)) (hv : Value.okWide P W r b0 u v) (h : DataW.Trod enc P W base sp held u v d p) : ∃ n : Int, Rd (fun _ => none) W (iAV n) v := by
 obtain ⟨n, rfl, -⟩ := open_int hu hv h
 exact ⟨n, .int _ _⟩
end
end Go.Proofs.YtnmifddidgofaaaDoor
