/-
  Contracts of the functions that the laws reach.
-/
import Derived.ProofKit
import Derived.OpenShut
import Derived.LaidMore
import Derived.Stop.Joined
import Derived.Test.YtnmifddidgofaaaGreatDoorRows
import Derived.Test.YtnmifddidgofaaaGreatDoorDw01
import Derived.Test.YtnmifddidgofaaaGreatDoorDw02
import Derived.Test.YtnmifddidgofaaaGreatDoorDw03
import Derived.Test.YtnmifddidgofaaaGreatDoorDw04
import Derived.Test.YtnmifddidgofaaaGreatDoorDw05
import Derived.Test.YtnmifddidgofaaaGreatDoorDw06
import Derived.Test.YtnmifddidgofaaaGreatDoorDw07
import Derived.Test.YtnmifddidgofaaaGreatDoorDw08
import Derived.Test.YtnmifddidgofaaaGreatDoorDw09
set_option maxHeartbeats 16000000
set_option linter.all false
namespace Go.Proofs.YtnmifddidgofaaaGreatDoor
open Go.RowKit
variable {G : Nat → AV}
theorem sealB_len (b c : Int) : (sealB b c).length ≤ 2999 := by
 unfold sealB sealR
 split
 · split
   · split
     · rw [sealL_len awK b c _ awK_ok (by assumption)]
       show (putB c 3).length + 6 ≤ 2999
       simp [putB]
     · exact Nat.zero_le _
   · exact Nat.zero_le _
 · exact Nat.zero_le _
theorem LTo.held (q d : Nm) {m l : LS} (A B : List AV) (n : Int) (hB : B = A ++ [iAV n, bv [1]]) (h : LHas l q fun c s _ => c.cs = A ++ [iAV n, .vw d 0 1 1] ∧ (LHas l d fun c' _ _ => c'.cs = [bAV 1]) ∧ LEra (s ⟨c.ty, B⟩) [d] (LSub m)) : LTo m l :=
 LTo.frz q [d] B (LHas.mono h fun c s _ ⟨h1, h2, h3⟩ => ⟨by rw [h1, hB]; exact LFs.app (LFs.same _) ⟨.eq rfl, LF.row InL.here (LHas.mono h2 fun c' _ _ hc => ⟨by decide, by rw [hc]; rfl, rfl, by rw [hc]; rfl⟩), trivial⟩, h3⟩)
def hl1 (n : Int) : Hl := ⟨n, [1]⟩
theorem fm_snoc (l : List Hl) (n : Int) : (l ++ [hl1 n]).flatMap Hl.cs = l.flatMap Hl.cs ++ [iAV n, bv [1]] := by
 rw [List.flatMap_append]; rfl
theorem tk_all (l : List Hl) (N m : Nat) (hN : N ≤ l.length) (hm : m = N * 2 + (l.length - N) * 2) : List.take m (l.flatMap Hl.cs) = l.flatMap Hl.cs := by
 subst hm
 rw [List.take_of_length_le]
 rw [hls_len]; omega
theorem hl_ok1 {i : In} {l : List Hl} {N : Nat} (h : i.h = l.drop N) (hN : N ≤ l.length) (x : Hl) : i.h ++ [x] = (l ++ [x]).drop N := by
 rw [h, List.drop_append_of_le_length hN]
theorem hl_ok0 {i : In} {l : List Hl} {N : Nat} (h : i.h = l.drop N) (x : Hl) : i.h ++ [x] = (l.drop N ++ [x]).drop 0 := by
 rw [h]; rfl
theorem len_snoc (l : List Hl) (N : Nat) (x : Hl) (hN : N ≤ l.length) : (l ++ [x]).length - N = l.length - N + 1 := by
 rw [List.length_append, List.length_singleton]; omega
theorem len_le (l : List Hl) (N : Nat) (x : Hl) (hN : N ≤ l.length) : N ≤ (l ++ [x]).length := by
 rw [List.length_append]; omega
theorem len_snoc0 (l : List Hl) (N : Nat) (x : Hl) : (l.drop N ++ [x]).length - 0 = l.length - N + 1 := by
 rw [List.length_append, List.length_drop, List.length_singleton]; omega
theorem EDel27_1 {p : Prop} (h : p := by (repeat' first | exact trivial | (refine And.intro ?_ ?_) | exact LSub.nil | (with_reducible exact LSub.refl) | (apply LSub.cons; (repeat first | refine goH ?_ | apply LHas.here | apply LHas.next); refine And.intro ?_ ?_; (focus (try (first | (with_reducible rfl) | (refine congrArg (Pl.mk _) ?_; (first | rfl | (simp; done))) | rfl | (with_reducible refine congrArg (Pl.mk _) ?_))))) | (with_reducible assumption) | fail | (show (_ : AV) = _; (first | (focus (apply Eq.trans; (conv => lhs; whnf); (conv => rhs; whnf); done)) | rfl | ((conv => lhs; whnf); first | rfl | (refine congrArg (AV.int _) ?_; (exact T.num)) | (refine congrArg AV.bool ?_; (exact T.num)) | (refine vw_congr ?_; first | (exact T.num) | (first | rfl | (simp; done))) | (refine sl_congr ?_ ?_ <;> first | (exact T.num) | (first | rfl | (simp; done))) | (first | rfl | (simp; done))))) | ((with_reducible first | (show (_ : Int) ≤ _) | (show (_ : Int) < _) | (show (_ : Nat) ≤ _) | (show (_ : Nat) < _) | (show (_ : Int) = _) | (show (_ : Nat) = _)); (exact T.num)) | (first | rfl | (simp; done))); first | done | fail) : p := h
theorem made17_c (t : List Int) : LSpec Tryz.prog gl 5 [iv t] [] (fun _ => (.bool true, [])) := by
 by_cases ht : t.length ≤ 400
 · have hl := light_c (G := gl) t
   rw [decide_eq_true ht] at hl
   have hr := fun p => random_w t ht p
   have hE := rdwE_ok t
   generalize rdwE t = E at *
   obtain ⟨⟨i, a0⟩, l0, N⟩ := E
   obtain ⟨⟨-, -, -, -⟩, hh, hle, hn0⟩ := hE
   dsimp only at hh hle hn0 hr
   have hone := fun a n p => one_c (G := gl) t a n ht p
   have hlen := hls_len l0
   refine goW [3, 6, 9, 11, 25] Tryz.func5 rfl ?_
   conv => whnf
   repeat' ((first | (show LCall _ _ 9 _ _ _; apply LCall.manyD (fun hnd => hr _)) | (show (_ ≠ 0 → _) ∧ _; refine And.intro (fun hoff => ?_) ?_) | (show AtC 11 _ _ _ _ _ _ _; first | (rename_i d; refine AtC.mkF (id := 11) (S := In × Nat × Nm × List Hl × Nat) ({ i with h := i.h ++ [hl1 i.n] }, nextA t (nextA t a), q, l0 ++ [hl1 i.n], N) (And.intro ?_ (And.intro ?_ (And.intro ?_ ?_))); (focus exact EDel27_1); (focus (exact T.sm)); (focus (dsimp only; rw [len_snoc l0 N _ hle]; refine LTo.held q d (List.take (N * 2 + (l0.length - N) * 2) (l0.flatMap Hl.cs)) ((l0 ++ [hl1 i.n]).flatMap Hl.cs) i.n (by rw [fm_snoc, tk_all l0 N _ hle rfl]) ?_; (repeat first | refine goH ?_ | apply LHas.here | apply LHas.next); refine And.intro rfl (And.intro ?_ ?_); (focus ((repeat first | refine goH ?_ | apply LHas.here | apply LHas.next); rfl)); (repeat first | refine goH ?_ | apply LHas.here | apply LHas.next); (repeat' first | exact LSub.nil | (with_reducible exact LSub.refl) | (apply LSub.cons; (repeat first | refine goH ?_ | apply LHas.here | apply LHas.next); refine And.intro ?_ ?_; (focus (try (first | (with_reducible rfl) | (refine congrArg (Pl.mk _) ?_; (first | rfl | (simp; done))) | rfl | (with_reducible refine congrArg (Pl.mk _) ?_)))))))); (focus exact And.intro (hl_ok1 hh hle _) (len_le l0 N _ hle))) | (rename_i d h1; refine AtC.mkF (id := 11) (S := In × Nat × Nm × List Hl × Nat) ({ i with h := i.h ++ [hl1 i.n] }, nextA t (nextA t a), r, l0.drop N ++ [hl1 i.n], 0) (And.intro ?_ (And.intro ?_ (And.intro ?_ ?_))); (focus exact EDel27_1); (focus (exact T.sm)); (focus (dsimp only; rw [len_snoc0 l0 N _]; refine LTo.held r d (List.take ((l0.length - N) * 2) (List.drop (N * 2) (l0.flatMap Hl.cs))) ((l0.drop N ++ [hl1 i.n]).flatMap Hl.cs) i.n (by rw [fm_snoc, hl_tail l0 N _ _ hle rfl rfl]) ?_; (repeat first | refine goH ?_ | apply LHas.here | apply LHas.next); refine And.intro rfl (And.intro ?_ ?_); (focus ((repeat first | refine goH ?_ | apply LHas.here | apply LHas.next); rfl)); (repeat first | refine goH ?_ | apply LHas.here | apply LHas.next); (repeat' first | exact LSub.nil | (with_reducible exact LSub.refl) | (apply LSub.cons; (repeat first | refine goH ?_ | apply LHas.here | apply LHas.next); refine And.intro ?_ ?_; (focus (try (first | (with_reducible rfl) | (refine congrArg (Pl.mk _) ?_; (first | rfl | (simp; done))) | rfl | (with_reducible refine congrArg (Pl.mk _) ?_)))))))); (focus exact And.intro (hl_ok0 hh _) (Nat.zero_le _)))) | (show LEra _ _ _; conv => whnf) | exact Nm.b 0 | (refine And.intro ?_ ?_; (focus (first | (rw [hls_len]; omega) | exact T.kx | exact T.side))) | (show LCall _ _ _ _ _ _; first | refine LCall.pure (awake17_c) ?_ | refine LCall.pure (hl) ?_ | refine LCall.own (roll_c t) ?_ | (apply LCall.upd (hone _ _ _); (repeat first | refine goH ?_ | apply LHas.here | apply LHas.next); refine ⟨rfl, ?_⟩) | (apply LCall.upd (next_c t _ _ ht _); (repeat first | refine goH ?_ | apply LHas.here | apply LHas.next); refine ⟨rfl, ?_⟩) | refine LCall.pure (mod_c _ _) ?_ | refine LCall.pure (seal17_c _ _) ?_ | (apply LCall.upd (dspoil_c t _ _ (by have := sealB_len i.b c; omega) ht _); (repeat first | refine goH ?_ | apply LHas.here | apply LHas.next); refine ⟨rfl, ?_⟩) | (apply LCall.upd (dkey_c t _ ht _); (repeat first | refine goH ?_ | apply LHas.here | apply LHas.next); refine ⟨rfl, ?_⟩) | (apply LCall.upd (doddkey_c t _ (keyR t a) (by simp [keyR, filled]) (by simp [keyR, filled]) ht _); (repeat first | refine goH ?_ | apply LHas.here | apply LHas.next); refine ⟨rfl, ?_⟩) | refine LCall.mk' (exact17_c i2 u k) [q] ⟨LF.in_ InL.here hS hL ?_, LF.eq rfl, LF.eq rfl, trivial⟩ ?_ | refine goE ?_) | (show AList _ _; first | ((with_reducible show AList (List.take _ (List.drop _ (List.flatMap _ _)) ++ _) _); refine AList.eq (congrArg (· ++ _) (hl_tail l0 N _ _ hle ?_ ?_)) ?_; (focus ((try dsimp only); omega)); (focus ((try dsimp only); omega)))) | refine T.s ?_ | ((first | apply goB | apply ABr.dec | apply ABr.gen) <;> intro h <;> try (exfalso; omega)) | refine LFresh.mk fun r => ?_ | (show SWpL _ _ _ _ _ _ _; first | refine gX 5 [1, 3] [0, 1, 2, 3, 4, 5, 6, 7] [p] ?_ | refine gX 7 [1, 3] [0, 1, 2, 3, 4, 5, 6, 7] [p] ?_ | refine gX 17 [1, 3] [0, 1, 2, 3, 4, 5, 6, 7] [p] ?_ | refine gX 19 [1, 3] [0, 1, 2, 3, 4, 5, 6, 7] [p] ?_ | refine gX 21 [1, 3] [0, 1, 2, 3, 4, 5, 6, 7] [p] ?_) | (show CutL _ _ _ _ _ _ _ _; first | (refine goK tyOk [3, 6, 9, 11, 25] 3 (S := Nm × Nat) [] (fun (p, z) => ⟨[(3, .ptr p 0)], [(p, dice t 0)], True, 0⟩) ?_ ?_; (rintro ⟨p, z⟩ -); rotate_left) | (refine goK tyOk [3, 6, 9, 11, 25] 6 (S := Int × Nat × Nm × Nm) [] (fun (c, a, b4, q) => ⟨[(3, .ptr p 0), (4, .ptr b4 0), (5, iAV c)], [(p, dice t a), (b4, ⟨32, inC i (.vw q (N * 2) (l0.length - N) 2)⟩), (q, ⟨56, l0.flatMap Hl.cs⟩)], True, 0⟩) ?_ ?_; (rintro ⟨c, a, b4, q⟩ -); rotate_left) | (refine goK tyOk [3, 6, 9, 11, 25] 9 (S := (List UInt8) × Nat) [] (fun (u, a) => ⟨[(3, .ptr p 0), (4, .ptr b4 0), (6, bv u)], [(p, dice t a), (b4, ⟨32, inC i (.vw q (N * 2) (l0.length - N) 2)⟩), (q, ⟨56, l0.flatMap Hl.cs⟩)], True, 0⟩) ?_ ?_; (rintro ⟨u, a⟩ -); rotate_left) | (refine goK tyOk [3, 6, 9, 11, 25] 11 (S := In × Nat × Nm × (List Hl) × Nat) [] (fun (i2, a, q, l2, M) => ⟨[(3, .ptr p 0), (4, .ptr b4 0), (6, bv u)], [(p, dice t a), (b4, ⟨32, inC i2 (.vw q (M * 2) (l2.length - M) 2)⟩), (q, ⟨56, l2.flatMap Hl.cs⟩)], i2.h = l2.drop M ∧ M ≤ l2.length, 0⟩) ?_ ?_; (rintro ⟨i2, a, q, l2, M⟩ ⟨hk, hok⟩; (have hS := hk; have hL := hok)); rotate_left) | (refine goK tyOk [3, 6, 9, 11, 25] 25 (S := Ky × Nat × Nm) [] (fun (k, a, b7) => ⟨[(4, .ptr b4 0), (6, bv u), (7, .ptr b7 0)], [(p, dice t a), (b4, ⟨32, inC i2 (.vw q (M * 2) (l2.length - M) 2)⟩), (q, ⟨56, l2.flatMap Hl.cs⟩), (b7, ⟨29, [bv k.s, bv k.g, iAV k.n, iAV k.b, iAV k.d]⟩)], True, 0⟩) ?_ ?_; (rintro ⟨k, a, b7⟩ -); rotate_left) | refine CutL.go tyOk [3, 6, 9, 11, 25] ?_) | (show AtC 3 _ _ _ _ _ _ _; first | (apply AtC.mk' (id := 3) (S := Nm × Nat) ((_, 0)); focus (refine T.a4 ?_ ?_ ?_ <;> exact EDel27_1))) | (show AtC 6 _ _ _ _ _ _ _; first | (apply AtC.mk' (id := 6) (S := Int × Nat × Nm × Nm) ((_, _, _, _)); focus (refine T.a4 ?_ ?_ ?_ <;> exact EDel27_1))) | (show AtC 9 _ _ _ _ _ _ _; first | (apply AtC.mk' (id := 9) (S := (List UInt8) × Nat) ((_, _)); focus (refine T.a4 ?_ ?_ ?_ <;> exact EDel27_1))) | (show AtC 11 _ _ _ _ _ _ _; first | (apply AtC.mk' (id := 11) (S := In × Nat × Nm × (List Hl) × Nat) ((i, _, q, l0, N)); focus (refine T.a4 ?_ ?_ ?_ <;> exact EDel27_1)) | (apply AtC.mk' (id := 11) (S := In × Nat × Nm × (List Hl) × Nat) (({ i with l := nextR t _ _ }, _, q, l0, N)); focus (refine T.a4 ?_ ?_ ?_ <;> exact EDel27_1)) | (apply AtC.mk' (id := 11) (S := In × Nat × Nm × (List Hl) × Nat) (({ i with m := iarith .add .i64 i.m _ }, _, q, l0, N)); focus (refine T.a4 ?_ ?_ ?_ <;> exact EDel27_1)) | (apply AtC.mk' (id := 11) (S := In × Nat × Nm × (List Hl) × Nat) (({ i with n := iarith .add .i64 i.n _ }, _, q, l0, N)); focus (refine T.a4 ?_ ?_ ?_ <;> exact EDel27_1)) | (apply AtC.mk' (id := 11) (S := In × Nat × Nm × (List Hl) × Nat) (({ i with f := iarith .add .i64 i.f _ }, _, q, l0, N)); focus (refine T.a4 ?_ ?_ ?_ <;> exact EDel27_1)) | (apply AtC.mk' (id := 11) (S := In × Nat × Nm × (List Hl) × Nat) (({ i with b := iarith .add .i64 4 _ }, _, q, l0, N)); focus (refine T.a4 ?_ ?_ ?_ <;> exact EDel27_1))) | (show AtC 25 _ _ _ _ _ _ _; first | (apply AtC.mk' (id := 25) (S := Ky × Nat × Nm) ((keyR t a, _, _)); focus (refine T.a4 ?_ ?_ ?_ <;> exact EDel27_1)) | (apply AtC.mk' (id := 25) (S := Ky × Nat × Nm) ((oddR t _ (keyR t a), _, _)); focus (refine T.a4 ?_ ?_ ?_ <;> exact EDel27_1))) | exact T.z | fail) <;> conv => whnf)
   all_goals (try dsimp only)
   all_goals first | contradiction | ((show RetL _ _ _; refine goR ?_); rfl) | trace_state
 · have hl := light_c (G := gl) t
   rw [decide_eq_false ht] at hl
   refine goW [] Tryz.func5 rfl ?_
   conv => whnf
   repeat' ((first | exact Nm.b 0 | (show LCall _ _ _ _ _ _; first | refine LCall.pure (awake17_c) ?_ | refine LCall.pure (hl) ?_ | refine goE ?_) | refine T.s ?_ | ((first | apply goB | apply ABr.dec | apply ABr.gen) <;> intro h <;> try (exfalso; omega)) | refine LFresh.mk fun r => ?_ | (show SWpL _ _ _ _ _ _ _; first | (refine goD tyOk mixed 5 [1, 3] [0, 1, 2, 3, 4, 5, 6, 7] [] (by kernel_rfl) ?_) | (refine goD tyOk mixed 7 [1, 3] [0, 1, 2, 3, 4, 5, 6, 7] [] (by kernel_rfl) ?_) | (refine goD tyOk mixed 17 [1, 3] [0, 1, 2, 3, 4, 5, 6, 7] [] (by kernel_rfl) ?_) | (refine goD tyOk mixed 19 [1, 3] [0, 1, 2, 3, 4, 5, 6, 7] [] (by kernel_rfl) ?_) | (refine goD tyOk mixed 21 [1, 3] [0, 1, 2, 3, 4, 5, 6, 7] [] (by kernel_rfl) ?_)) | exact T.z | fail) <;> conv => whnf)
   all_goals (try dsimp only)
   all_goals first | contradiction | ((show RetL _ _ _; refine goR ?_); rfl) | trace_state
open Go.ChangeShapes Go.WideShapes Go.ChangeAt Go.RowKit
theorem LSpec.stmt {P : Program} {G : Nat → AV} {f : FuncId} {args : List AV} (h : LSpec P G f args [] (fun _ => (.bool true, []))) {W : World} {vs : Array Value} (hg : Glob G (fun _ => none) W) (hr : RdL (fun _ => none) W args vs) :
   Calls P f vs W fun e W' => e = .returned (.bool true) ∧ Below W.heap.size W W' := by
 unfold LSpec at h
 refine (h.2.2 (fun _ => none) W vs ⟨nofun, nofun, 0, fun _ _ => rfl⟩ hg (by simp) (by simp) hr).mono ?_
 rintro e W' ⟨v, q, rfl, -, -, hv, -, hs⟩
 have hv : Rd _ W' (.bool true) v := hv
 cases hv
 exact ⟨rfl, hs.os, hs.tape, hs.output, hs.size, fun k hk => (hs.old k hk rfl).2⟩
theorem RdL.nil0 {σ : Store} {W : World} : RdL σ W [] #[] := ⟨rfl, fun i hi => by simp at hi⟩
theorem RdL.cons0 {σ : Store} {W : World} {a : AV} {v : Value} {al : List AV} {vs : List Value} (h : Rd σ W a v) (hs : RdL σ W al vs.toArray) : RdL σ W (a :: al) (v :: vs).toArray :=
 ⟨by have := hs.1; simp at this ⊢; omega, fun i hi => by
   cases i with
   | zero => simpa using h
   | succ i =>
     have h2 := hs.2 i (by simp at hi; omega)
     simpa using h2⟩
theorem exists_list {α : Type} (p : Nat → α → Prop) : ∀ (n : Nat), (∀ i, i < n → ∃ x, p i x) → ∃ l : List α, l.length = n ∧ ∀ i x, l[i]? = some x → p i x
 | 0, _ => ⟨[], rfl, by simp⟩
 | n + 1, h => by
   obtain ⟨l, h1, h2⟩ := exists_list p n fun i hi => h i (by omega)
   obtain ⟨x, hx⟩ := h n (by omega)
   refine ⟨l ++ [x], by simp [h1], fun i y hy => ?_⟩
   by_cases hi : i < l.length
   · rw [List.getElem?_append_left hi] at hy
     exact h2 i y hy
   · rw [List.getElem?_append_right (by omega)] at hy
     by_cases h0 : i - l.length = 0
     · rw [h0] at hy
       simp at hy
       subst hy
       have : i = n := by omega
       subst this
       exact hx
     · obtain ⟨k, hk⟩ := Nat.exists_eq_succ_of_ne_zero h0
       rw [hk] at hy
       simp at hy
section
variable {H : Type} {enc : TypeId × Value → H} {P : Program} {W : World} {base : Nat} {sp : Nat → Bool} {held : Bool} {b0 : Nat} {r : Reach}
theorem cell_row {α : Type} {A : α → AV} {u e : TypeId} (hu : P.underlying u = some (.slice e)) (hc : P.cellsOf e = 1) (he : ∀ (fuel : Nat) (c : Value) (y : DataW H × List MemPlace), DataW.trod enc P W base sp held fuel e [c] = some y → ∃ x, Rd (fun _ => none) W (A x) c)
   {c : Value} (hv : Cell.okWide P W r b0 u c) {fuel : Nat} {y : DataW H × List MemPlace} (h : DataW.trod enc P W base sp held fuel u [c] = some y) : ∃ l : List α, Rd (fun _ => none) W (.sl l.length (l.map A)) c := by
 rcases DataW.trod_slice hu h with ⟨h0, -⟩ | ⟨a, len, cap, elems, rest, n, -, h0, -, -, hl, hm, hlen, hel, -⟩
 · obtain rfl := (List.cons.inj h0).1
   exact ⟨[], .slnil⟩
 · obtain rfl := (List.cons.inj h0).1
   have hspot : a.spot = none := by
     simp only [Cell.okWide, hu, Cell.ok] at hv
     exact hv.2.2.2.1
   obtain ⟨b, off, spot⟩ := a
   simp only at hspot
   subst hspot
   have hadd : ∀ i, (⟨b, off, none⟩ : Addr).add i = ⟨b, off + i, none⟩ := fun i => by unfold Addr.add; split <;> simp_all
   obtain ⟨l, h1, h2⟩ := exists_list (fun i x => ∃ v, W.cell? ⟨b, off + i, none⟩ = some v ∧ Rd (fun _ => none) W (A x) v) len (fun i hi => by
     have hE := hel i hi
     rw [List.getElem?_eq_getElem (by omega)] at hE
     obtain ⟨c1, hc1, hy1⟩ := Option.bind_eq_some_iff.1 hE
     obtain ⟨-, h4, h5⟩ := World.cells?_some hc1
     rw [hc] at h4 h5
     match c1, h4 with
     | [v], _ =>
       have h6 := h5 0 (by omega)
       rw [Nat.mul_one, hadd] at h6
       have e0 : (⟨b, off + i, none⟩ : Addr).add 0 = ⟨b, off + i, none⟩ := by simp [Addr.add]
       rw [e0] at h6
       obtain ⟨x, hx⟩ := he n v _ hy1
       exact ⟨x, v, by simpa using h6, hx⟩)
   refine ⟨l, ?_⟩
   rw [h1]
   have h3 : ∀ i (hi : i < l.length), ∃ v, W.cell? ⟨b, off + i, none⟩ = some v ∧ Rd (fun _ => none) W (A l[i]) v := fun i hi => h2 i l[i] (List.getElem?_eq_getElem hi)
   refine .sl len _ b off cap (fun i => (W.cell? ⟨b, off + i, none⟩).getD undef) (fun _ => rfl) hl hm (fun i hi => ?_) (fun i hi => ?_)
   · obtain ⟨v, k1, -⟩ := h3 i (by simpa using hi)
     rw [k1]; rfl
   · have hi' : i < l.length := by simpa using hi
     obtain ⟨v, k1, k2⟩ := h3 i hi'
     rw [k1]
     simpa [List.getD_eq_getElem?_getD, hi'] using k2
theorem cell_ints {u e : TypeId} (hu : P.underlying u = some (.slice e)) (he : P.underlying e = some (.int .i64)) (hc : P.cellsOf e = 1) {c : Value} (hv : Cell.okWide P W r b0 u c) {fuel : Nat} {y : DataW H × List MemPlace} (h : DataW.trod enc P W base sp held fuel u [c] = some y) : ∃ l : List Int, Rd (fun _ => none) W (iv l) c :=
 cell_row (A := iAV) hu hc (fun fuel c y h => by
   obtain ⟨n, h1, -, -⟩ := DataW.trod_int he h
   obtain rfl := (List.cons.inj h1).1
   exact ⟨n, .int _ _⟩) hv h
theorem trod_fields {t : TypeId} {fs : Array Field} (ht : P.underlying t = some (.struct fs)) {fuel : Nat} {cs : List Value} {y : DataW H × List MemPlace} (h : DataW.trod enc P W base sp held fuel t cs = some y) :
   ∀ (i : Nat) (f : Field), fs[i]? = some f → ∃ n y', DataW.trod enc P W base sp held n f.type ((cs.drop f.offset).take (P.cellsOf f.type)) = some y' := by
 obtain ⟨xs, n, -, -, hl, hxl, hf⟩ := DataW.trod_struct ht h
 intro i f hfi
 have h1 := hf i f hfi
 have hi : i < xs.length := by rw [hxl]; exact (Array.getElem?_eq_some_iff.1 hfi).1
 rw [List.getElem?_eq_getElem hi] at h1
 exact ⟨n, _, h1⟩
end
section
variable {H : Type} {enc : TypeId × Value → H} {P : Program} {W : World} {base : Nat} {sp : Nat → Bool} {held : Bool} {b0 : Nat} {r : Reach} {v : Value} {d : DataW H} {p : List MemPlace}
theorem arg_ints {u e : TypeId} (hu : P.underlying u = some (.slice e)) (he : P.underlying e = some (.int .i64)) (hc : P.cellsOf e = 1) (hv : Value.okWide P W r b0 u v) (h : DataW.Trod enc P W base sp held u v d p) : ∃ l : List Int, Rd (fun _ => none) W (iv l) v := by
 obtain ⟨a, len, cap, rfl⟩ := okWide_slice hu hv
 obtain ⟨fuel, hf⟩ := h
 have hv : Cell.okWide P W r b0 u (.slice a len cap) := by simpa only [Value.okWide, hu] using hv
 exact cell_ints hu he hc hv hf
end
open Go.ChangeShapes Go.WideShapes Go.ChangeAt Go.RowKit
def sum2 : List (TypeId × Nat) → Nat
 | [] => 0
 | x :: l => x.2 + sum2 l
def offs : List (TypeId × Nat) → Nat → List (TypeId × Nat)
 | [], _ => []
 | x :: l, o => (x.1, o) :: offs l (o + x.2)
section
variable {H : Type} {enc : TypeId × Value → H} {P : Program} {W : World} {base : Nat} {sp : Nat → Bool} {held : Bool} {b0 : Nat} {r : Reach}
def IntT (enc : TypeId × Value → H) (P : Program) (W : World) (base : Nat) (sp : Nat → Bool) (held : Bool) (x : TypeId × Nat) : Prop :=
 P.cellsOf x.1 = x.2 ∧ ∀ (fuel : Nat) (cs : List Value) (y : DataW H × List MemPlace), DataW.trod enc P W base sp held fuel x.1 cs = some y → ∃ ns : List Int, ns.length = x.2 ∧ cs = ns.map fun z => Value.int .i64 z
theorem IntT.int {t : TypeId} (hu : P.underlying t = some (.int .i64)) (hc : P.cellsOf t = 1) : IntT enc P W base sp held (t, 1) := by
 refine ⟨hc, fun fuel cs y h => ?_⟩
 obtain ⟨n, h1, -, -⟩ := DataW.trod_int hu h
 exact ⟨[n], rfl, h1⟩
theorem IntT.fields {t : TypeId} {fs : Array Field} (ht : P.underlying t = some (.struct fs)) {fuel : Nat} {cs : List Value} {y : DataW H × List MemPlace} (h : DataW.trod enc P W base sp held fuel t cs = some y) : ∀ (L : List (TypeId × Nat)) (i o : Nat),
   (∀ x ∈ L, IntT enc P W base sp held x) → (fs.toList.drop i).map (fun f => (f.type, f.offset)) = offs L o → o + sum2 L = cs.length → ∃ ns : List Int, ns.length = sum2 L ∧ cs.drop o = ns.map fun z => Value.int .i64 z
 | [], i, o, _, _, hs => ⟨[], rfl, by rw [List.drop_eq_nil_of_le (by simp [sum2] at hs; omega)]; rfl⟩
 | x :: L, i, o, hx, hf, hs => by
   have h0 : fs[i]? = (fs.toList.drop i)[0]? := by simp
   cases hd : fs.toList.drop i with
   | nil => rw [hd] at hf; cases hf
   | cons f l =>
     rw [hd] at hf h0
     simp only [offs, List.map_cons, List.cons.injEq, Prod.mk.injEq] at hf
     obtain ⟨⟨h1, h2⟩, h3⟩ := hf
     obtain ⟨n, y', h4⟩ := trod_fields ht h i f (by rw [h0]; rfl)
     obtain ⟨k2, k1⟩ := hx x (List.mem_cons_self ..)
     rw [h1, h2, k2] at h4
     obtain ⟨ns, h5, h6⟩ := k1 n _ _ h4
     obtain ⟨ms, h7, h8⟩ := IntT.fields ht h L (i + 1) (o + x.2) (fun z hz => hx z (List.mem_cons_of_mem _ hz)) (by
       have e : fs.toList.drop (i + 1) = l := by rw [← List.drop_drop, hd]; rfl
       rw [e, h3]) (by rw [← hs]; show _ = o + (x.2 + sum2 L); omega)
     refine ⟨ns ++ ms, by rw [List.length_append, h5, h7]; rfl, ?_⟩
     rw [List.map_append, ← h6, ← h8, ← List.drop_drop, List.take_append_drop]
theorem IntT.struct {t : TypeId} {n : Nat} {fs : Array Field} (ht : P.underlying t = some (.struct fs)) (hc : P.cellsOf t = n) (L : List (TypeId × Nat)) (hx : ∀ x ∈ L, IntT enc P W base sp held x) (hf : fs.toList.map (fun f => (f.type, f.offset)) = offs L 0) (hn : sum2 L = n) : IntT enc P W base sp held (t, n) := by
 refine ⟨hc, fun fuel cs y h => ?_⟩
 obtain ⟨xs, m, -, -, hl, -, -⟩ := DataW.trod_struct ht h
 obtain ⟨ns, h1, h2⟩ := IntT.fields ht h L 0 0 hx hf (by rw [hl, hc, hn, Nat.zero_add])
 exact ⟨ns, by rw [h1]; exact hn, h2⟩
end
open Go.ChangeShapes Go.WideShapes Go.ChangeAt Go.RowKit
theorem array_ints {H : Type} {enc : TypeId × Value → H} {P : Program} {w : World} {base : Nat} {sp : Nat → Bool} {held : Bool} {t e n : Nat} (ht : P.underlying t = some (.array n e)) (he : P.underlying e = some (.int .i64)) (hc : P.cellsOf e = 1) {fuel : Nat} {cs : List Value} {zs : List Int} {p : List MemPlace}
   (h : DataW.trod enc P w base sp held fuel t cs = some (.agg (zs.map fun z => DataW.lit (Lit.int .i64 z)), p)) : ∀ (k : Nat) (z : Int), zs[k]? = some z → cs[k]? = some (.int .i64 z) := by
 obtain ⟨xs, m, -, hx, hl, hn, hel⟩ := DataW.trod_array ht h
 injection hx with hx1 hx2
 injection hx1 with hx1
 intro k z hz
 have hk : k < zs.length := (List.getElem?_eq_some_iff.1 hz).1
 have hlen : xs.length = zs.length := by simpa using (congrArg List.length hx1).symm
 have h1 := hel k (by omega)
 rw [hc, Nat.mul_one, List.getElem?_eq_getElem (by omega)] at h1
 obtain ⟨i, h2, h3, -⟩ := DataW.trod_int he h1
 have h4 : (xs.map (·.1))[k]? = some (.lit (.int .i64 i)) := by
   rw [List.getElem?_map, List.getElem?_eq_getElem (by omega)]
   simp [h3]
 rw [← hx1, List.getElem?_map, hz] at h4
 simp at h4
 subst h4
 have h5 := congrArg (·[0]?) h2
 simpa [List.getElem?_take, List.getElem?_drop] using h5
theorem gLanes : Tryz.prog.globalNamed "radiolink/stream.lanes" = some 0 := by kernel_rfl
theorem tLanes : (Tryz.prog.globals[0]?).map (·.type) = some 109 := by kernel_rfl
theorem lanes_of {W : World} (h : laidMetH Tryz.prog [("radiolink/stream.lanes", Rows.laid_radiolink_stream_lanes)] W) : Glob gl (fun _ => none) W := by
 rw [MakeChecks.laidMetH_plain _ _ _ (by kernel_rfl)] at h
 obtain ⟨ps, ⟨g0, t0, cs0, f0, p0, q0, hg0, ht0, hv0, hd0, -, -⟩, -, -⟩ := h
 obtain rfl := Option.some.inj (gLanes.symm.trans hg0)
 obtain rfl := Option.some.inj (tLanes.symm.trans ht0)
 obtain ⟨xs, m, -, hx, hl, hn, hel⟩ := DataW.trod_array Tryz.underlying109 hd0
 injection hx with hx1 hx2
 have hall : ∀ i : Nat, i < 8 → ∀ k z, ([[0, 4, 8, 12], [1, 5, 9, 13], [2, 6, 10, 14], [3, 7, 11, 15], [0, 5, 10, 15], [1, 6, 11, 12], [2, 7, 8, 13], [3, 4, 9, 14]] : List (List Int))[i]?.bind (·[k]?) = some z → cs0.toList[i * 4 + k]? = some (.int .i64 z) := by
   intro i hi k z hz
   obtain ⟨zs, hzs, hk⟩ := Option.bind_eq_some_iff.1 hz
   have h1 := hel i hi
   rw [show Tryz.prog.cellsOf 108 = 4 by kernel_rfl, List.getElem?_eq_getElem (by omega)] at h1
   have hmap : xs.map (·.1) = ([[0, 4, 8, 12], [1, 5, 9, 13], [2, 6, 10, 14], [3, 7, 11, 15], [0, 5, 10, 15], [1, 6, 11, 12], [2, 7, 8, 13], [3, 4, 9, 14]] : List (List Int)).map fun zs => DataW.agg (zs.map fun z => DataW.lit (Lit.int .i64 z)) := by
     injection hx1 with hx1
     exact hx1.symm
   have h2 : (xs.map (·.1))[i]? = some (.agg (zs.map fun z => DataW.lit (Lit.int .i64 z))) := by
     rw [hmap, List.getElem?_map, hzs]; rfl
   rw [List.getElem?_map, List.getElem?_eq_getElem (by omega)] at h2
   have h3 : (xs[i]'(by omega)).1 = .agg (zs.map fun z => DataW.lit (Lit.int .i64 z)) := Option.some.inj h2
   have h4 : DataW.trod (fun _ => ()) Tryz.prog W 0 (fun _ => true) false m 108 ((cs0.toList.drop (i * 4)).take 4) = some (.agg (zs.map fun z => DataW.lit (Lit.int .i64 z)), (xs[i]'(by omega)).2) := by
     rw [h1, ← h3]
   have h5 := array_ints Tryz.underlying108 Tryz.underlying3 (by kernel_rfl) h4 k z hk
   have hk4 : k < 4 := by
     have := (List.getElem?_eq_some_iff.1 h5).1
     simp at this
     omega
   simpa [List.getElem?_take, hk4, List.getElem?_drop] using h5
 have hcell : ∀ o z, tblN[o]? = some z → W.cell? ⟨0, 0 + o, none⟩ = some (.int .i64 z) := by
   intro o z hz
   have ho : o < 32 := (List.getElem?_eq_some_iff.1 hz).1
   have h1 := hall (o / 4) (by omega) (o % 4) z (by
     rw [← hz]
     have : ∀ o, o < 32 → (([[0, 4, 8, 12], [1, 5, 9, 13], [2, 6, 10, 14], [3, 7, 11, 15], [0, 5, 10, 15], [1, 6, 11, 12], [2, 7, 8, 13], [3, 4, 9, 14]] : List (List Int))[o / 4]?.bind (·[o % 4]?)) = tblN[o]? := by decide
     exact this o ho)
   have h2 := World.var?_cell hg0 hv0 o
   rw [show o / 4 * 4 + o % 4 = o by omega] at h1
   rw [Nat.zero_add, h2]
   simpa using h1
 refine Glob.of (fun g => by unfold gl; split <;> rfl) ?_
 intro g
 by_cases hg : g = 0
 · subst hg
   show Rd _ W (.ip (tblN.map iAV)) _
   refine .ip _ _ 0 (fun i => .int .i64 (tblN.getD i 0)) (fun _ => rfl) (fun i hi => ?_) (fun i hi => ?_)
   · have hi : i < tblN.length := by simpa using hi
     exact hcell i _ (by rw [List.getD_eq_getElem?_getD, List.getElem?_eq_getElem hi]; rfl)
   · have hi : i < tblN.length := by simpa using hi
     rw [List.getD_eq_getElem?_getD, List.getElem?_map, List.getD_eq_getElem?_getD, List.getElem?_eq_getElem hi]
     exact .int _ _
 · have : gl g = .any := by
     unfold gl
     split
     · rename_i hb
       exact absurd (Nat.eq_of_beq_eq_true hb) hg
     · rfl
   rw [this]
   exact .any _
theorem door_met (os : Os) (args : Array Value) : laidMetH Tryz.prog [("radiolink/stream.lanes", Rows.laid_radiolink_stream_lanes)] ((World.doorLaid Tryz.prog 400 os).forCall (fun _ _ => 0) ⟨#[], args, []⟩).memory :=
 laidMetH_of_parts3 (fuel := 8) (laidMet_of_run' 8 (by kernel_rfl) (by kernel_rfl)) (by kernel_rfl) (by kernel_rfl)
end Go.Proofs.YtnmifddidgofaaaGreatDoor
