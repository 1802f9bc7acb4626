/-
  Contracts of the functions that the laws reach.
-/
import Derived.Test.YtnmifddidgofaaaDoorDu01
import Derived.Test.YtnmifddidgofaaaDoorDu02
import Derived.Test.YtnmifddidgofaaaDoorDu03
import Derived.Test.YtnmifddidgofaaaDoorDu04
import Derived.Test.YtnmifddidgofaaaDoorDu05
import Derived.Test.YtnmifddidgofaaaDoorDu06
import Derived.Test.YtnmifddidgofaaaDoorDu08
import Derived.Test.YtnmifddidgofaaaDoorDu09
set_option maxHeartbeats 8000000
set_option linter.all false
namespace Go.Proofs.YtnmifddidgofaaaDoor
open Go.RowKit
section
variable {P : Program} {G : Nat → AV} {N : Nat} {e : Env} {l : LS} {σ σ0 : Store} {w0 w : World} {a : Act}
theorem Rel.adoptP {p : Nm} {j sz : Nat} {t0 : TypeId} {cs : List AV} (t : TypeId) (h : Rel G N e σ σ0 w0 a w) (hp : σ p = some ⟨t0, cs⟩) (hj : j < cs.length) (hn : cs.getD j .any = .nils) {k : Nat} (hk : σ (.v k) = none) :
   Rel G N e (upd (upd σ p ⟨t0, cs.set j (.vw (.v k) 0 0 sz)⟩) (.v k) ⟨t, []⟩) σ0 w0 a w := by
 have hpk : p ≠ .v k := fun e => by subst e; rw [hk] at hp; cases hp
 have hbn : ∀ b, σ (.b b) = none → (upd (upd σ p ⟨t0, cs.set j (.vw (.v k) 0 0 sz)⟩) (.v k) ⟨t, []⟩) (.b b) = none := fun b hb => by
   rw [upd_ne _ _ (by simp), upd_ne _ _ (fun e => by subst e; rw [hb] at hp; cases hp)]
   exact hb
 have hst : Stp σ w (upd (upd σ p ⟨t0, cs.set j (.vw (.v k) 0 0 sz)⟩) (.v k) ⟨t, []⟩) w := Stp.forget _ _ w hbn
 refine ⟨h.n, h.d.mono hst, fun x => (h.env x).mono hst, ⟨fun q c hq => ?_, fun m c hm => ?_, fin_upd (fin_upd h.mem.fin _ _) _ _⟩, h.st.trans hst, h.glob.mono hst⟩
 · rw [upd_ne _ _ (by simp)] at hq
   by_cases e : Nm.b q = p
   · subst e
     rw [upd_same] at hq; cases hq
     obtain ⟨cur, k1, k2, k3⟩ := h.mem.pl q _ hp
     refine ⟨cur, k1, by simpa using k2, fun i hi => ?_⟩
     have hi2 : i < cs.length := by
       have h5 : i < (cs.set j (AV.vw (.v k) 0 0 sz)).length := hi
       rwa [List.length_set] at h5
     by_cases hij : i = j
     · subst hij
       have k4 := k3 i hi2
       simp only at k4
       rw [hn] at k4
       have e2 : (cs.set i (AV.vw (.v k) 0 0 sz)).getD i .any = .vw (.v k) 0 0 sz := by simp [List.getD_eq_getElem?_getD, hi2]
       show Rd _ w ((cs.set i (AV.vw (.v k) 0 0 sz)).getD i .any) _
       rw [e2]
       generalize cur.getD i undef = u at k4
       cases k4
       exact .vwnil _ _
     · have e2 : (cs.set j (AV.vw (.v k) 0 0 sz)).getD i .any = cs.getD i .any := by
         simp only [List.getD_eq_getElem?_getD]
         rw [List.getElem?_set_ne (by omega)]
       show Rd _ w ((cs.set j (AV.vw (.v k) 0 0 sz)).getD i .any) _
       rw [e2]
       exact (k3 i hi2).mono hst
   · rw [upd_ne _ _ e] at hq
     obtain ⟨cur, k1, k2, k3⟩ := h.mem.pl q c hq
     exact ⟨cur, k1, k2, fun i hi => (k3 i hi).mono hst⟩
 · by_cases hmk : m = k
   · subst hmk; rw [upd_same] at hm; cases hm; rfl
   · rw [upd_ne _ _ (by simp; exact hmk)] at hm
     by_cases e : Nm.v m = p
     · subst e
       have := h.mem.vl m _ hp
       simp only at this
       rw [this] at hj
       simp at hj
     · rw [upd_ne _ _ e] at hm
       exact h.mem.vl m c hm
theorem SWpL.adoptP (p : Nm) (j sz : Nat) (t : TypeId) {c : Code} {Q : Exit → Env → LS → Prop} (h : LHas l p fun d s _ => j < d.cs.length ∧ d.cs.getD j .any = .nils ∧ ∀ q, SWpL P G N c Q e ((q, ⟨t, []⟩) :: s ⟨d.ty, d.cs.set j (.vw q 0 0 sz)⟩)) : SWpL P G N c Q e l := by
 obtain ⟨l1, d, l2, rfl, h1, h2, h3⟩ := h.ex
 refine ⟨fun φ hs => ⟨fun σ0 w0 a w hr hok => ?_⟩⟩
 obtain ⟨B, hB⟩ := hr.mem.fin
 have hk := hB B (Nat.le_refl _)
 have hs2 : Sep φ (l1 ++ (p, ⟨d.ty, d.cs.set j (.vw (.v B) 0 0 sz)⟩) :: l2) := hs.set
 have hr2 := hr.adoptP (sz := sz) t hs.get h1 h2 hk
 rw [hs.set'] at hr2
 have hs3 : Sep φ ((.v B, ⟨t, []⟩) :: (l1 ++ (p, ⟨d.ty, d.cs.set j (.vw (.v B) 0 0 sz)⟩) :: l2)) := hs2.new (by
   rw [← hs.set', upd_ne _ _ (fun e => by rw [e, hs.get] at hk; cases hk)]
   exact hk) _
 exact ((h3 (.v B)).run φ hs3).run σ0 w0 a w hr2 hok
end
open Go.RowKit
section
variable {P : Program} {G : Nat → AV} {N : Nat} {e : Env} {l : LS} {σ σ0 : Store} {w0 w : World} {a : Act}
theorem LFs.same {F : List Nm} : ∀ xs : List AV, LFs l F xs xs
 | [] => trivial
 | _ :: xs => ⟨.eq rfl, LFs.same xs⟩
end
open Go.RowKit
section
variable {P : Program} {G : Nat → AV} {l : LS}
theorem LCall.twoK {f : FuncId} {args : List AV} {x : AV} {r p : Nm} {c d c' d' : Pl} {K : AV → LS → Prop} (hs : r ≠ p → LSpec P G f args [(r, c), (p, d)] fun _ => (x, [(r, c'), (p, d')]))
   (hk : LHas l r fun c1 s rest => c1 = c ∧ LHas rest p fun d1 _ _ => d1 = d ∧ LHas (s c') p fun _ s2 _ => K x (s2 d')) : LCall P G f args l K := ⟨fun φ hsp => by
 obtain ⟨l1, c1, l2, rfl, rfl, ha⟩ := hk.ex
 obtain ⟨l3, d1, l4, e, rfl, hb⟩ := ha.ex
 obtain ⟨m1, e1, m2, e2, h⟩ := hb.ex
 clear hk ha hb
 have hnd := nd_mid hsp.nd
 have hp : p ∈ (l1 ++ l2).map (·.1) := by rw [e]; simp
 have hne : r ≠ p := fun hh => by
   subst hh
   rw [List.map_append, List.mem_append] at hp
   exact hp.elim hnd.1 hnd.2.1
 have hpp : putAll φ (l1 ++ (r, c1) :: l2) p = some d1 := by
   have h1 := hsp.rest
   rw [e] at h1
   have h2 := h1.get
   rw [← e, ← hsp.era', era_ne _ (Ne.symm hne)] at h2
   exact h2
 refine ⟨.inl ⟨[], args, [(r, c1), (p, d1)], _, rfl, fun _ _ => .refl _, hs hne, fun x hx => ?_, by simp [hne], fun q hq hn => ?_⟩⟩
 · simp only [List.mem_cons, List.not_mem_nil, or_false] at hx
   rcases hx with rfl | rfl
   · exact hsp.get
   · exact hpp
 · have h3 : Sep φ (l1 ++ (r, c') :: l2) := hsp.set
   have e3 : l1 ++ (r, c') :: l2 = m1 ++ (p, e1) :: m2 := e2
   have h4 := h3
   rw [e3] at h4
   refine ⟨m1 ++ (p, d') :: m2, ?_, h4.set, h⟩
   rw [← h4.set' d', ← e3, ← hsp.set' c']
   have key : ∀ σ : Store, Go.Proofs.YtnmifddidgofaaaDoor.upd (Go.Proofs.YtnmifddidgofaaaDoor.upd (era (era σ p) r) p d') r c' = Go.Proofs.YtnmifddidgofaaaDoor.upd (Go.Proofs.YtnmifddidgofaaaDoor.upd σ r c') p d' := fun σ => by
    funext y
    by_cases hy : y = r
    · subst hy
      rw [upd_same, upd_ne _ _ hne, upd_same]
    · rw [upd_ne _ _ hy]
      by_cases hz : y = p
      · subst hz; rw [upd_same, upd_same]
      · rw [upd_ne _ _ hz, upd_ne _ _ hz, upd_ne _ _ hy, era_ne _ hy, era_ne _ hz]
   exact key _⟩
end
open Go.RowKit
variable {G : Nat → AV}
def y0 (qs : List Nm) : Nm := qs.getD 0 (.b 0)
def y1 (qs : List Nm) : Nm := qs.getD 1 (.b 0)
@[simp] theorem y0_e (x y : Nm) : y0 [x, y] = x := rfl
@[simp] theorem y1_e (x y : Nm) : y1 [x, y] = y := rfl
theorem dready_c (s bp : Nm) (F : FuncId) : LSpecN Tryd.prog G 32 [.ptr s 0, .clo (.func F) [] [.ptr bp 0]] [] 2 (fun q => (.clo (.func 56) [] [.ptr (y0 q) 0, .ptr (y1 q) 0], [(y0 q, ⟨54, [.ptr s 0]⟩), (y1 q, ⟨49, [.clo (.func F) [] [.ptr bp 0]]⟩)])) := by
 refine LSpecN.introL tyOk Tryd.func32 rfl (by kernel_rfl) (by simp) (fun qs hq => by obtain ⟨x, y, rfl⟩ : ∃ x y, qs = [x, y] := (match qs, hq with | [x, y], _ => ⟨x, y, rfl⟩); exact ⟨by simp, by intro h1 h2; simp at h1 h2 ⊢; simp_all [eq_comm]⟩) ?_
 refine AWpL.sound tyOk [] _ _ _ _ ?_
 conv => whnf
 repeat' ((first | refine T.s ?_ | ((first | apply goB | apply ABr.dec | apply ABr.gen) <;> intro h <;> try (exfalso; omega)) | refine LFresh.mk fun r => ?_ | exact T.z | fail) <;> conv => whnf)
 all_goals (try dsimp only)
 rename_i a1
 refine RetLN.val [a1, r] rfl ?_ rfl ?_
 · exact LHas.next (LHas.here (LHas.here trivial))
 · (repeat' first | exact LSub.nil | (with_reducible exact LSub.refl) | (apply LSub.cons; (repeat first | refine goH ?_ | apply LHas.here | apply LHas.next); refine And.intro ?_ ?_; (focus (try (first | (with_reducible rfl) | (refine congrArg (Pl.mk _) ?_; (first | rfl | (simp; done))) | rfl | (with_reducible refine congrArg (Pl.mk _) ?_))))))
def hvA (q : Nm) (j n : Nat) : AV := if j = 0 ∨ j < n then .vw q (j * 2) (n - j) 2 else .sl 0 []
theorem hvA_lt {q : Nm} {j n : Nat} (h : j = 0 ∨ j < n) : hvA q j n = .vw q (j * 2) (n - j) 2 := if_pos h
theorem hvA_ge {q : Nm} {j n : Nat} (h : ¬ (j = 0 ∨ j < n)) : hvA q j n = .sl 0 [] := if_neg h
theorem hvA_next {q : Nm} {j n a b : Nat} (h : j + 1 < n) (ha : a = (j + 1) * 2) (hb : b = n - (j + 1)) : AV.vw q a b 2 = hvA q (j + 1) n := by subst ha hb; exact (hvA_lt (.inr h)).symm
theorem hvA_last {q : Nm} {j n : Nat} (h : ¬ j + 1 < n) : AV.sl 0 [] = hvA q (j + 1) n := (hvA_ge (by omega)).symm
theorem hv_cases {q : Nm} {j N : Nat} {l : List Hl} {hv : AV} {W : Nat → Int → Bool} (he : hv = hvA q j l.length) (hj : j ≤ N) (hN : N ≤ l.length) (hT : j < N → W j (l.getD j Hl.z).c = true) (hF : N < l.length → W N (l.getD N Hl.z).c = false) :
   (j < N ∧ j < l.length ∧ hv = .vw q (j * 2) (l.length - j) 2 ∧ W j (l.getD j Hl.z).c = true) ∨ (j = N ∧ j < l.length ∧ hv = .vw q (j * 2) (l.length - j) 2 ∧ W j (l.getD j Hl.z).c = false) ∨ (j = N ∧ j = l.length ∧ hv = .vw q 0 0 2) ∨ (j = N ∧ j = l.length ∧ hv = .sl 0 []) := by
 subst he
 by_cases h1 : j < N
 · exact .inl ⟨h1, by omega, hvA_lt (by omega), hT h1⟩
 · obtain rfl : j = N := by omega
   by_cases h2 : j < l.length
   · exact .inr (.inl ⟨rfl, h2, hvA_lt (by omega), hF h2⟩)
   · have h3 : j = l.length := by omega
     by_cases h4 : j = 0
     · refine .inr (.inr (.inl ⟨rfl, h3, ?_⟩))
       rw [hvA_lt (.inl h4), ← h3, h4]
     · exact .inr (.inr (.inr ⟨rfl, h3, hvA_ge (by omega)⟩))
attribute [irreducible] hvA
def outC (l : List (List UInt8)) : List AV := l.map bv
theorem dready1_c (b0 : Nat) (r0 : Loop) (e0 G0 : Nat → AV) (F : FuncId) (W : Nat → Int → Bool) (I : Nat → In) (l : List Hl) (j0 N : Nat) (outs : List (List UInt8)) (a w bp s q o : Nm) (hl : l.length ≤ 100000)
   (hj0 : j0 ≤ N) (hN : N ≤ l.length) (hT : ∀ j, j0 ≤ j → j < N → W j (l.getD j Hl.z).c = true) (hF : N < l.length → W N (l.getD N Hl.z).c = false)
   (hW : ∀ (j : Nat) (c : Int) (hv out : AV), j0 ≤ j → j ≤ N → ¬ bp = s → LSpec Tryd.prog (fun _ => .yl b0 r0 e0 G0) F [iAV c, .ptr bp 0] [(bp, ⟨54, [.ptr s 0]⟩), (s, ⟨57, sdC (I j) hv out⟩)] (fun _ => (.bool (W j c), [(bp, ⟨54, [.ptr s 0]⟩), (s, ⟨57, sdC (I j) hv out⟩)])))
   (hY : ∀ (j : Nat) (hv : AV) (o : Nm), j0 ≤ j → j < N → YSpec Tryd.prog b0 r0 e0 G0 (bv (l.getD j Hl.z).d) [(bp, ⟨54, [.ptr s 0]⟩), (s, ⟨57, sdC (I j) hv (.vw o 0 (outs.length + j) 1)⟩), (o, ⟨27, outC (outs ++ (l.take j).map (·.d))⟩)]
     (fun o' => [(o', ⟨27, outC (outs ++ (l.take (j + 1)).map (·.d))⟩), (bp, ⟨54, [.ptr s 0]⟩), (s, ⟨57, sdC (I (j + 1)) hv (.vw o' 0 (outs.length + (j + 1)) 1)⟩)]))
   (hn : [a, w, bp, s, q, o].Nodup) {hv0 : AV} (hv1 : hv0 = hvA q j0 l.length) :
   LSpec Tryd.prog (fun _ => .yl b0 r0 e0 G0) 56 [.lit (.func (.yield b0) #[] #[]), .ptr a 0, .ptr w 0]
     [(a, ⟨54, [.ptr s 0]⟩), (w, ⟨49, [.clo (.func F) [] [.ptr bp 0]]⟩), (bp, ⟨54, [.ptr s 0]⟩), (s, ⟨57, sdC (I j0) hv0 (.vw o 0 (outs.length + j0) 1)⟩), (q, ⟨67, l.flatMap Hl.cs⟩), (o, ⟨27, outC (outs ++ (l.take j0).map (·.d))⟩)]
     (fun o' => (.tup [], [(o', ⟨27, outC (outs ++ (l.take N).map (·.d))⟩), (a, ⟨54, [.ptr s 0]⟩), (w, ⟨49, [.clo (.func F) [] [.ptr bp 0]]⟩), (bp, ⟨54, [.ptr s 0]⟩), (s, ⟨57, sdC (I N) (hvA q N l.length) (.vw o' 0 (outs.length + N) 1)⟩), (q, ⟨67, l.flatMap Hl.cs⟩)])) := by
 subst hv1
 refine goW [2] Tryd.func56 rfl ?_
 conv => whnf
 repeat' ((first | (show CutL _ _ _ _ (.seq (.region 3 _ _) _) _ _ _; refine CutL.thenY tyOk [2] 2 rfl rfl rfl ?_) | (show AYlL _ _ _ _ _ _ _ _ _; apply AYlL.mk' (hY j _ _ (by omega) (by omega))) | exact Nm.b 0 | (refine And.intro ?_ ?_; (focus (first | ((try dsimp only); rw [hls_len]; omega) | exact T.kx | exact T.side))) | (show LCall _ _ _ _ _ _; first | (apply LCall.twoK (fun hne => hW _ _ _ _ (by omega) (by omega) hne); (repeat first | refine goH ?_ | apply LHas.here | apply LHas.next); refine ⟨rfl, ?_⟩; (repeat first | refine goH ?_ | apply LHas.here | apply LHas.next); refine ⟨rfl, ?_⟩; (repeat first | refine goH ?_ | apply LHas.here | apply LHas.next)) | refine goE ?_) | (show ACell _ _ _; first | (refine ACell.fld Hl.cs_len j 0 Hl.z (iAV (l.getD j Hl.z).c) ?_ (by decide) ?_ rfl ?_; (focus ((try dsimp only); omega)); (focus omega)) | (refine ACell.fld Hl.cs_len j 1 Hl.z (bv (l.getD j Hl.z).d) ?_ (by decide) ?_ rfl ?_; (focus ((try dsimp only); omega)); (focus omega))) | refine T.s ?_ | ((first | apply goB | apply ABr.dec | apply ABr.gen) <;> intro h <;> try (exfalso; omega)) | refine LFresh.mk fun r => ?_ | (show SWpL _ _ _ (.loop _) _ _ _; first | (apply goO tyOk [2] 0 (S := Nat × AV × Nm) [0] (fun (j, hv, o) => ⟨[(1, .ptr a 0), (2, .ptr w 0)], [(a, ⟨54, [.ptr s 0]⟩), (w, ⟨49, [.clo (.func F) [] [.ptr bp 0]]⟩), (bp, ⟨54, [.ptr s 0]⟩), (s, ⟨57, sdC (I j) hv (.vw o 0 (outs.length + j) 1)⟩), (q, ⟨67, l.flatMap Hl.cs⟩), (o, ⟨27, outC (outs ++ (l.take j).map (·.d))⟩)], hv = hvA q j l.length ∧ j0 ≤ j ∧ j ≤ N, N - j⟩) ((j0, hvA q j0 l.length, o)) (by rfl); (focus ((repeat' first | exact trivial | (refine And.intro ?_ ?_) | exact LSub.nil | (with_reducible exact LSub.refl) | (apply LSub.cons; (repeat first | refine goH ?_ | apply LHas.here | apply LHas.next); refine And.intro ?_ ?_; (focus (try (first | (with_reducible rfl) | (refine congrArg (Pl.mk _) ?_; (first | rfl | (simp; done))) | rfl | (with_reducible refine congrArg (Pl.mk _) ?_))))) | assumption | (exact hvA_next (by omega) (by omega) (by omega)) | (exact hvA_last (by omega)) | (first | (focus (apply Eq.trans; (conv => lhs; whnf); (conv => rhs; whnf); done)) | rfl | ((conv => lhs; whnf); first | rfl | (refine congrArg (AV.int _) ?_; (exact T.num)) | (refine congrArg AV.bool ?_; (exact T.num)) | (refine vw_congr ?_; first | (exact T.num) | (first | rfl | (simp; done))) | (refine sl_congr ?_ ?_ <;> first | (exact T.num) | (first | rfl | (simp; done))) | (first | rfl | (simp; done)))) | (exact T.num) | (dsimp only; (exact T.num)) | (first | rfl | (simp; done))); done)); rintro ⟨j, hv, o⟩ ⟨hk, hk, hok⟩; (have hv1 := hk; rcases hv_cases (by assumption) hok hN (fun h => hT j (by assumption) h) hF with ⟨hj1, hj2, rfl, hw⟩ | ⟨hj1, hj2, rfl, hw⟩ | ⟨hj1, hj2, rfl⟩ | ⟨hj1, hj2, rfl⟩))) | (show SWpL _ _ _ _ _ _ _; first | refine gX 0 [] [0, 1, 2, 3, 4, 5, 6, 7, 8, 9, 10, 11, 12, 13, 14, 15, 16, 17, 18] [s] ?_ | refine gX 2 [] [0, 1, 2, 3, 4, 5, 6, 7, 8, 9, 10] [s] ?_) | (show AtL _ _ _ _ _ _ _ _ _ _; first | (apply AtL.mk' (id := 0) (S := Nat × AV × Nm) ((j + 1, _, _)); (repeat' first | exact trivial | (refine And.intro ?_ ?_) | exact LSub.nil | (with_reducible exact LSub.refl) | (apply LSub.cons; (repeat first | refine goH ?_ | apply LHas.here | apply LHas.next); refine And.intro ?_ ?_; (focus (try (first | (with_reducible rfl) | (refine congrArg (Pl.mk _) ?_; (first | rfl | (simp; done))) | rfl | (with_reducible refine congrArg (Pl.mk _) ?_))))) | assumption | (exact hvA_next (by omega) (by omega) (by omega)) | (exact hvA_last (by omega)) | (first | (focus (apply Eq.trans; (conv => lhs; whnf); (conv => rhs; whnf); done)) | rfl | ((conv => lhs; whnf); first | rfl | (refine congrArg (AV.int _) ?_; (exact T.num)) | (refine congrArg AV.bool ?_; (exact T.num)) | (refine vw_congr ?_; first | (exact T.num) | (first | rfl | (simp; done))) | (refine sl_congr ?_ ?_ <;> first | (exact T.num) | (first | rfl | (simp; done))) | (first | rfl | (simp; done)))) | (exact T.num) | (dsimp only; (exact T.num)) | (first | rfl | (simp; done))); done) | (apply AtL.mk' (id := 0) (S := Nat × AV × Nm) ((j + 1, _, _)); (repeat' first | exact trivial | (refine And.intro ?_ ?_) | exact LSub.nil | (with_reducible exact LSub.refl) | (apply LSub.cons; (repeat first | refine goH ?_ | apply LHas.here | apply LHas.next); refine And.intro ?_ ?_; (focus (try (first | (with_reducible rfl) | (refine congrArg (Pl.mk _) ?_; (first | rfl | (simp; done))) | rfl | (with_reducible refine congrArg (Pl.mk _) ?_))))) | assumption | (exact hvA_next (by omega) (by omega) (by omega)) | (exact hvA_last (by omega)) | (first | (focus (apply Eq.trans; (conv => lhs; whnf); (conv => rhs; whnf); done)) | rfl | ((conv => lhs; whnf); first | rfl | (refine congrArg (AV.int _) ?_; (exact T.num)) | (refine congrArg AV.bool ?_; (exact T.num)) | (refine vw_congr ?_; first | (exact T.num) | (first | rfl | (simp; done))) | (refine sl_congr ?_ ?_ <;> first | (exact T.num) | (first | rfl | (simp; done))) | (first | rfl | (simp; done)))) | (exact T.num) | (dsimp only; (exact T.num)) | (first | rfl | (simp; done))))) | (show CutL _ _ _ _ _ _ _ _; first | refine CutL.go tyOk [2] ?_) | (show (_ → _) ∧ (¬ _ → _); first | refine T.y ?_ | refine dec_both (fun h => ?_) (fun h => ?_)) | exact T.z | fail) <;> conv => whnf)
 all_goals (try dsimp only)
 all_goals
   (try subst hj1)
   refine RetL.own o rfl ?_ ?_
   · (repeat first | refine goH ?_ | apply LHas.here | apply LHas.next); trivial
   · rw [← hk]
     (repeat' first | exact LSub.nil | (with_reducible exact LSub.refl) | (apply LSub.cons; (repeat first | refine goH ?_ | apply LHas.here | apply LHas.next); refine And.intro ?_ ?_; (focus (try (first | (with_reducible rfl) | (refine congrArg (Pl.mk _) ?_; (first | rfl | (simp; done))) | rfl | (with_reducible refine congrArg (Pl.mk _) ?_))))))
theorem hl_drop (l : List Hl) (i j : Nat) : (l.drop i).getD j Hl.z = l.getD (i + j) Hl.z := by simp only [List.getD_eq_getElem?_getD, List.getElem?_drop]
def runN (f : Int) : List Hl → Nat
 | [] => 0
 | x :: r => if x.c = f then runN (f + 1) r + 1 else 0
theorem runN_le : ∀ (l : List Hl) (f : Int), runN f l ≤ l.length
 | [], _ => Nat.le_refl _
 | x :: r, f => by
   unfold runN
   split
   · have := runN_le r (f + 1); simp; omega
   · simp
theorem runN_yes : ∀ (l : List Hl) (f : Int) (j : Nat), j < runN f l → (l.getD j Hl.z).c = f + j
 | [], _, j, h => by simp [runN] at h
 | x :: r, f, j, h => by
   unfold runN at h
   split at h
   · cases j with
     | zero => simpa using ‹x.c = f›
     | succ j =>
       have := runN_yes r (f + 1) j (by omega)
       simp only [List.getD_cons_succ]
       rw [this]; push_cast; omega
   · omega
theorem runN_no : ∀ (l : List Hl) (f : Int), runN f l < l.length → ¬ (l.getD (runN f l) Hl.z).c = f + runN f l
 | [], _, h => by simp at h
 | x :: r, f, h => by
   unfold runN at h ⊢
   split
   · rename_i hx
     rw [if_pos hx] at h
     have := runN_no r (f + 1) (by simpa using h)
     simp only [List.getD_cons_succ]
     push_cast
     rw [show f + ((runN (f + 1) r : Int) + 1) = f + 1 + runN (f + 1) r by omega]
     exact this
   · simpa using ‹¬ x.c = f›
attribute [irreducible] runN
def nxV (i : In) : Int := if i.n < i.f then i.f else i.n
def nxtI (i : In) : In := { i with n := nxV i }
def clrI (i : In) : In := if 0 < i.l ∧ i.m ≤ i.f then { i with l := 0, m := 0 } else i
def armI (i : In) : In := if i.l = 0 ∧ 0 < i.t ∧ i.f < i.n then { i with l := i.t, m := i.n } else i
def onI (i : In) : In := armI (clrI (nxtI i))
theorem onI_a {x : In} (h1 : 0 < x.l) (h2 : x.m ≤ x.f) (h3 : 0 < x.t) (h4 : x.f < nxV x) : onI x = { x with n := nxV x, l := x.t, m := nxV x } := by
 unfold onI
 rw [show clrI (nxtI x) = { x with n := nxV x, l := 0, m := 0 } from if_pos ⟨h1, h2⟩]
 exact if_pos ⟨rfl, h3, h4⟩
theorem onI_b {x : In} (h1 : 0 < x.l) (h2 : x.m ≤ x.f) (h3 : ¬ (0 < x.t ∧ x.f < nxV x)) : onI x = { x with n := nxV x, l := 0, m := 0 } := by
 unfold onI
 rw [show clrI (nxtI x) = { x with n := nxV x, l := 0, m := 0 } from if_pos ⟨h1, h2⟩]
 exact if_neg fun h => h3 h.2
theorem onI_c {x : In} (h1 : ¬ (0 < x.l ∧ x.m ≤ x.f)) (h2 : x.l = 0) (h3 : 0 < x.t) (h4 : x.f < nxV x) : onI x = { x with n := nxV x, l := x.t, m := nxV x } := by
 unfold onI
 rw [show clrI (nxtI x) = { x with n := nxV x } from if_neg h1]
 exact if_pos ⟨h2, h3, h4⟩
theorem onI_d {x : In} (h1 : ¬ (0 < x.l ∧ x.m ≤ x.f)) (h2 : ¬ (x.l = 0 ∧ 0 < x.t ∧ x.f < nxV x)) : onI x = { x with n := nxV x } := by
 unfold onI
 rw [show clrI (nxtI x) = { x with n := nxV x } from if_neg h1]
 exact if_neg h2
def stpI (i : In) (k : Nat) : In := { i with f := i.f + k }
theorem stp_succ (i : In) {j0 j : Nat} (h : j0 ≤ j) (hj : j ≤ 100000) (hf : 0 ≤ i.f ∧ i.f ≤ 4000000) : stpI i (j + 1 - j0) = { stpI i (j - j0) with f := iarith .add .i64 (stpI i (j - j0)).f 1 } := by
 have e : iarith .add .i64 (stpI i (j - j0)).f 1 = i.f + ((j + 1 - j0 : Nat) : Int) := by
   show iarith .add .i64 (i.f + ((j - j0 : Nat) : Int)) 1 = _
   have : ((j + 1 - j0 : Nat) : Int) = ((j - j0 : Nat) : Int) + 1 := by omega
   have h9 : ((j - j0 : Nat) : Int) ≤ 100000 := by omega
   rw [this]
   generalize ((j - j0 : Nat) : Int) = z at *
   (exact T.num)
 rw [e]; rfl
theorem out_succ (outs : List (List UInt8)) (l : List Hl) (j : Nat) (h : j < l.length) : outC (outs ++ (l.take (j + 1)).map (·.d)) = outC (outs ++ (l.take j).map (·.d)) ++ [bv (l.getD j Hl.z).d] := by
 have e : l.take (j + 1) = l.take j ++ [l.getD j Hl.z] := by
   rw [List.take_succ, List.getD_eq_getElem?_getD, List.getElem?_eq_getElem h]; rfl
 rw [e]
 simp [outC]
theorem dproceed_c (hG : ∀ g, (G g).isYl = false) (i : In) (l : List Hl) (j0 N : Nat) (outs : List (List UInt8)) (s q o : Nm) (hl : l.length ≤ 100000) (hf : 0 ≤ i.f ∧ i.f ≤ 4000000) (hN : N = j0 + runN i.f (l.drop j0)) (hj : j0 ≤ l.length) (ho : outs.length ≤ 100000) (hn : [s, q, o].Nodup) {hv0 : AV} (hv1 : hv0 = hvA q j0 l.length) :
   LSpec Tryd.prog G 29 [.ptr s 0] [(s, ⟨57, sdC i hv0 (.vw o 0 (outs.length + j0) 1)⟩), (q, ⟨67, l.flatMap Hl.cs⟩), (o, ⟨27, outC (outs ++ (l.take j0).map (·.d))⟩)]
     (fun o' => (.tup [], [(o', ⟨27, outC (outs ++ (l.take N).map (·.d))⟩), (s, ⟨57, sdC (onI (stpI i (N - j0))) (hvA q N l.length) (.vw o' 0 (outs.length + N) 1)⟩), (q, ⟨67, l.flatMap Hl.cs⟩)])) := by
 subst hv1
 have hr := runN_le (l.drop j0) i.f
 rw [List.length_drop] at hr
 have hT : ∀ j, j0 ≤ j → j < N → decide ((l.getD j Hl.z).c = (stpI i (j - j0)).f) = true := fun j h1 h2 => by
   have := runN_yes (l.drop j0) i.f (j - j0) (by omega)
   rw [hl_drop, show j0 + (j - j0) = j by omega] at this
   rw [this]; simp [stpI]
 have hF : N < l.length → decide ((l.getD N Hl.z).c = (stpI i (N - j0)).f) = false := fun h => by
   have := runN_no (l.drop j0) i.f (by rw [List.length_drop]; omega)
   rw [hl_drop, show j0 + runN i.f (l.drop j0) = N by omega] at this
   rw [decide_eq_false_iff_not]
   intro e
   refine this (e.trans ?_)
   show i.f + ((N - j0 : Nat) : Int) = _
   congr 2; omega
 have h0 : sdC i (hvA q j0 l.length) (.vw o 0 (outs.length + j0) 1) = sdC (stpI i (j0 - j0)) (hvA q j0 l.length) (.vw o 0 (outs.length + j0) 1) := by rw [Nat.sub_self]; simp [sdC, stpI]
 rw [h0]
 refine goW [] Tryd.func29 rfl ?_
 conv => whnf
 repeat' ((first | (show SWpL _ _ _ (.rangeFunc _ _ _ _) _ _ _; rename_i bp; apply SWpL.rangeFunc hG rfl (fun hnd fn us b D hus => dready1_c (hv0 := hvA q j0 l.length) b _ _ _ 48 (fun j c => decide (c = (stpI i (j - j0)).f)) (fun j => stpI i (j - j0)) l j0 N outs _ _ bp s q o hl (by omega) (by omega) hT hF (fun j c hv out _ _ hbs => dwant_c c bp s (stpI i (j - j0)) hv out (by simp [hbs])) (fun j hv o2 h1 h2 => YSpec.introL tyOk [] [] hG rfl rfl rfl hus (Nat.le_of_ble_eq_true rfl) rfl rfl (fun x => ⟨by simp, by intro h; simp at hnd h ⊢; simp_all⟩) (fun hnd2 => ?_)) (by exact hnd) rfl)) | exact Nm.b 0 | (show LCall _ _ _ _ _ _; first | refine LCall.mkN (dready_c _ _ _) [] (LFs.refl _) ?_ | refine goE ?_) | refine T.s ?_ | ((first | apply goB | apply ABr.dec | apply ABr.gen) <;> intro h <;> try (exfalso; omega)) | refine LFresh.mk fun r => ?_ | refine LFreshN.two fun r r2 => ?_ | refine LFreshN.three fun r r2 r3 => ?_ | (show SWpL _ _ _ _ _ _ _; first | (refine goD tyOk mixed 3 [0, 7] [0, 1, 2, 3, 4, 5, 6, 7, 8, 9, 10] [bp] (by kernel_rfl) ?_) | refine gX 5 [] [0, 1, 2, 3, 4, 5, 6, 7, 8, 9, 10, 11, 12, 13, 14, 15] [s] ?_ | refine gX 6 [] [0, 1, 2, 3, 4, 5, 6, 7, 8, 9, 10, 11, 12, 13, 14, 15, 16, 17, 18] [s] ?_ | refine gX 7 [1, 5] [0, 1, 2, 3, 4, 5, 6, 7, 8, 9] [s] ?_ | refine gX 8 [] [0, 1, 2, 3, 4, 5, 6, 7, 8, 9, 10, 11, 12, 13, 14, 15, 16, 17, 18, 19, 20, 21, 22, 23, 24, 25, 26] [s] ?_ | refine gX 9 [1, 15] [0, 1, 2, 3, 4, 5, 6, 7, 8, 9, 10, 11, 12, 13, 14, 15, 16, 17, 18, 19] [s] ?_) | exact T.z | fail) <;> conv => whnf)
 all_goals (try dsimp only)
 all_goals first
   | (show RetL (fun o' => (_, [(o', _), (s, _), (q, _)])) _ _
      refine RetL.own r rfl ?_ ?_
      · (repeat first | refine goH ?_ | apply LHas.here | apply LHas.next); trivial
      · first
          | rw [onI_a (by assumption) (by assumption) (by assumption) (by assumption)]
          | rw [onI_b (by assumption) (by assumption) (fun h => by first | exact absurd h.1 (by assumption) | exact absurd h.2 (by assumption))]
          | rw [onI_c (fun h => by first | exact absurd h.1 (by assumption) | exact absurd h.2 (by assumption)) (by assumption) (by assumption) (by assumption)]
          | rw [onI_d (fun h => by first | exact absurd h.1 (by assumption) | exact absurd h.2 (by assumption)) (fun h => by first | exact absurd h.1 (by assumption) | exact absurd h.2.1 (by assumption) | exact absurd h.2.2 (by assumption))]
        (repeat' first | exact LSub.nil | (with_reducible exact LSub.refl) | (apply LSub.cons; (repeat first | refine goH ?_ | apply LHas.here | apply LHas.next); refine And.intro ?_ ?_; (focus (try (first | (with_reducible rfl) | (refine congrArg (Pl.mk _) ?_; (first | rfl | (simp; done))) | rfl | (with_reducible refine congrArg (Pl.mk _) ?_)))))))
   | (refine RetL.own r rfl ?_ ?_
      · (repeat first | refine goH ?_ | apply LHas.here | apply LHas.next); trivial
      · rw [out_succ outs l j (by omega), stp_succ i (by assumption) (by omega) hf]
        (repeat' first | exact LSub.nil | (with_reducible exact LSub.refl) | (apply LSub.cons; (repeat first | refine goH ?_ | apply LHas.here | apply LHas.next); refine And.intro ?_ ?_; (focus (try (first | (with_reducible rfl) | (refine congrArg (Pl.mk _) ?_; (first | rfl | (simp; done))) | rfl | (with_reducible refine congrArg (Pl.mk _) ?_)))))))
   | trace_state
open Go.RowKit
variable {G : Nat → AV}
section
variable {P : Program} {l : LS}
theorem LCall.manyD {f : FuncId} {args : List AV} {ps : LS} {post : Nm → AV × LS} {K : AV → LS → Prop} (hs : (ps.map (·.1)).Nodup → LSpec P G f args ps post) (h : LTake l ps fun r => LFresh fun q => K (post q).1 ((post q).2 ++ r)) : LCall P G f args l K := ⟨fun φ hsp => by
 obtain ⟨r, -, -, -, h4, -⟩ := LTake.sound h hsp
 exact (LCall.mk' (hs h4) [] (.refl _) h).run φ hsp⟩
end
structure Vf (i : In) : Prop where
 b : bitsOk i.b = true
 k : i.k.ok = true
 f : 0 ≤ i.f ∧ i.f ≤ 1048576
 n : i.f ≤ i.n ∧ i.n ≤ 1048576
 t : 0 ≤ i.t ∧ i.t ≤ 1000
 l : 0 ≤ i.l ∧ i.l ≤ i.t
 m : (i.l = 0 ∧ i.m = 0) ∨ (0 < i.l ∧ i.f < i.m ∧ i.m ≤ i.n)
 w : i.n ≤ iarith .add .i64 i.f (winR i.b)
 h : ∀ j, j < i.h.length → lastC i.f i.h j < (i.h.getD j Hl.z).c ∧ (i.h.getD j Hl.z).c < i.n ∧ 1 ≤ (i.h.getD j Hl.z).d.length ∧ (i.h.getD j Hl.z).d.length ≤ 2048
 e : (i.f < i.n ∧ lastC i.f i.h i.h.length = i.n - 1 ∧ 0 < i.h.length) ∨ (i.f = i.n ∧ i.h = [])
theorem Vf.of {i : In} (h : i.ok = true) : Vf i := by
 unfold In.ok at h
 simp only [Bool.and_eq_true, decide_eq_true_eq] at h
 obtain ⟨h1, h2, ⟨h3, h4, h5, h6, h7, h8, h9, h10, h11⟩, h12⟩ := h
 have hh : heldOk i = true ∧ ((i.l = 0 ∧ i.m = 0) ∨ (0 < i.l ∧ i.f < i.m ∧ i.m ≤ i.n)) := by
   split at h12
   · simp only [Bool.and_eq_true, decide_eq_true_eq] at h12
     exact ⟨h12.2, .inr ⟨by assumption, h12.1⟩⟩
   · simp only [Bool.and_eq_true, decide_eq_true_eq] at h12
     exact ⟨h12.2, .inl ⟨by omega, h12.1⟩⟩
 obtain ⟨hh1, hh2⟩ := hh
 unfold heldOk at hh1
 rw [Bool.and_eq_true] at hh1
 obtain ⟨ha, hb⟩ := hh1
 refine ⟨h1, h2, ⟨h3, h4⟩, ⟨h5, h7⟩, ⟨h8, h9⟩, ⟨h10, h11⟩, hh2, h6, fun j hj => ?_, ?_⟩
 · unfold hldTo at ha
   rw [List.all_eq_true] at ha
   have := ha j (List.mem_range.2 hj)
   simpa [hlOk] using this
 · split at hb
   · rename_i hlt
     simp only [decide_eq_true_eq] at hb
     refine .inl ⟨hlt, ?_, hb.2⟩
     rw [hb.1]
     have : iarith .sub .i64 i.n 1 = i.n - 1 := by (exact T.num)
     exact this
   · simp only [decide_eq_true_eq] at hb
     exact .inr ⟨by omega, List.eq_nil_of_length_eq_zero hb⟩
theorem Vf.lo {i : In} (v : Vf i) : ∀ j, j < i.h.length → i.f < (i.h.getD j Hl.z).c := by
 intro j
 induction j with
 | zero => exact fun hj => (v.h 0 hj).1
 | succ j ih =>
   intro hj
   have h1 := (v.h (j + 1) hj).1
   have h2 := ih (by omega)
   simp only [lastC] at h1
   omega
theorem Vf.asc {i : In} (v : Vf i) : ascH i.h := by
 intro a b hab hb
 induction b with
 | zero => omega
 | succ b ih =>
   have h1 := (v.h (b + 1) hb).1
   simp only [lastC] at h1
   by_cases e : a = b
   · subst e; exact h1
   · have := ih (by omega) (by omega); omega
theorem Vf.rng {i : In} (v : Vf i) : rngH i.h := fun j hj => by
 have h1 := v.lo j hj
 have h2 := v.h j hj
 have h3 := v.f
 have h4 := v.n
 omega
def bsv (l : List (List UInt8)) : AV := .sl l.length (l.map bv)
def rAV (x : In × List (List UInt8) × Int) : AV := .tup [x.1.av, bsv x.2.1, iAV x.2.2]
def inZ : In := ⟨0, ⟨[], [], 0, 0, 0⟩, 0, 0, 0, 0, 0, []⟩
def behI (i : In) (j0 : Nat) : In := { onI (stpI i (runN i.f (i.h.drop j0))) with h := i.h.drop (j0 + runN i.f (i.h.drop j0)) }
def behO (i : In) (j0 : Nat) : List (List UInt8) := (i.h.take (j0 + runN i.f (i.h.drop j0))).map (·.d)
theorem hvA_0 (q : Nm) (n : Nat) : AV.vw q 0 n 2 = hvA q 0 n := (hvA_lt (.inl rfl)).symm
theorem LF.hv {l : LS} {F : List Nm} {q : Nm} {N : Nat} {l0 : List Hl} (hF : InL q F) (hN : N ≤ l0.length) (h : LHas l q fun c _ _ => c.cs = l0.flatMap Hl.cs) : LF l F (hvA q N l0.length) (hlv (l0.drop N)) := by
 by_cases hc : N = 0 ∨ N < l0.length
 · rw [hvA_lt hc]
   refine LF.part hF (LHas.mono h fun c _ _ hcs => ⟨by decide, ?_, by simp, ?_⟩)
   · rw [hcs, hls_len, ← Nat.add_mul]; exact Nat.mul_le_mul_right _ (by omega)
   · rw [hcs, fm_drop Hl.cs_len, List.take_of_length_le (by rw [hls_len, List.length_drop]; omega)]
 · rw [hvA_ge hc]
   refine LF.eq ?_
   rw [List.drop_eq_nil_of_le (by omega)]
   rfl
theorem ret_side {x : In} {l0 : List Hl} {N n : Nat} {q o : Nm} {outs : List (List UInt8)} {e : Int} {l : LS} {hv : AV} (he : hv = hvA q N l0.length) (hx : x.h = l0.drop N) (hN : N ≤ l0.length) (hn : n = outs.length) (h : LHas l q fun c _ r => c.cs = l0.flatMap Hl.cs ∧ LHas l o fun c' _ _ => c'.cs = outC outs ∧ LHas r o fun _ _ _ => True) :
   RetL (fun _ => (rAV (x, outs, e), [])) (.tup [.agg (inC x hv), .vw o 0 n 1, iAV e]) l := by
 subst he
 have h1 : LHas l q fun c _ _ => c.cs = l0.flatMap Hl.cs := LHas.mono h fun _ _ _ h => h.1
 have h2 : LHas l o fun c _ _ => c.cs = outs.map bv ∧ n = outs.length := by
   obtain ⟨l1, c, l2, -, -, h⟩ := h.ex
   exact LHas.mono h fun _ _ _ h => ⟨h.1, hn⟩
 have h3 : LEra l [q, o] (LSub []) := LHas.mono h fun _ _ r h => by
   obtain ⟨l1, c, l2, -, -, h⟩ := h.2.ex
   exact LHas.mono h fun _ _ _ _ => LSub.nil
 refine RetL.frz [q, o] (LF.tup ⟨LF.agg ⟨LF.eq rfl, LF.eq rfl, LF.eq rfl, LF.eq rfl, LF.eq rfl, LF.eq rfl, LF.eq rfl, LF.eq rfl, LF.eq rfl, LF.eq rfl, LF.eq rfl, ?_, trivial⟩, LF.rowF (InL.next InL.here) h2, LF.eq rfl, trivial⟩) h3
 show LF l [q, o] _ (hlv x.h)
 rw [hx]
 exact LF.hv InL.here hN h1
theorem ret_held {x : In} {q : Nm} {e : Int} {l : LS} {n : Nat} (hn : n = x.h.length) (h : LHas l q fun c _ _ => c.cs = x.h.flatMap Hl.cs) :
   RetL (fun _ => (rAV (x, [], e), [])) (.tup [.agg (inC x (.vw q 0 n 2)), .nils, iAV e]) l := by
 subst hn
 have h3 : LEra l [q] (LSub []) := LHas.mono h fun _ _ _ _ => LSub.nil
 exact RetL.frz [q] (LF.tup ⟨LF.agg ⟨LF.eq rfl, LF.eq rfl, LF.eq rfl, LF.eq rfl, LF.eq rfl, LF.eq rfl, LF.eq rfl, LF.eq rfl, LF.eq rfl, LF.eq rfl, LF.eq rfl, LF.row InL.here (LHas.mono h fun c _ _ hc => ⟨by decide, by rw [hc]; exact hls_len _, rfl, hc.symm⟩), trivial⟩, LF.nils rfl rfl, LF.eq rfl, trivial⟩) h3
theorem ret_zero {e : Int} {l : LS} : RetL (fun _ => (rAV (inZ, [], e), [])) (.tup [.agg zIn, .nils, iAV e]) l :=
 RetL.frz [] (LF.tup ⟨LF.agg ⟨LF.eq rfl, LF.nils rfl rfl, LF.nils rfl rfl, LF.eq rfl, LF.eq rfl, LF.eq rfl, LF.eq rfl, LF.eq rfl, LF.eq rfl, LF.eq rfl, LF.eq rfl, LF.nils rfl rfl, trivial⟩, LF.nils rfl rfl, LF.eq rfl, trivial⟩) LSub.nil
theorem dproceed_b (hG : ∀ g, (G g).isYl = false) (i : In) (j0 : Nat) (outs : List (List UInt8)) (s q o : Nm) (hl : i.h.length ≤ 100000) (hf : 0 ≤ i.f ∧ i.f ≤ 4000000) (hj : j0 ≤ i.h.length) (ho : outs.length ≤ 100000) (hn : [s, q, o].Nodup) {hv0 : AV} (hv1 : hv0 = hvA q j0 i.h.length) :
   LSpec Tryd.prog G 29 [.ptr s 0] [(s, ⟨57, sdC i hv0 (.vw o 0 (outs.length + j0) 1)⟩), (q, ⟨67, i.h.flatMap Hl.cs⟩), (o, ⟨27, outC (outs ++ (i.h.take j0).map (·.d))⟩)]
     (fun o' => (.tup [], [(o', ⟨27, outC (outs ++ behO i j0)⟩), (s, ⟨57, sdC (behI i j0) (hvA q (j0 + runN i.f (i.h.drop j0)) i.h.length) (.vw o' 0 (outs.length + (j0 + runN i.f (i.h.drop j0))) 1)⟩), (q, ⟨67, i.h.flatMap Hl.cs⟩)])) := by
 have h := dproceed_c hG i i.h j0 (j0 + runN i.f (i.h.drop j0)) outs s q o hl hf rfl hj ho hn hv1
 rw [Nat.add_sub_cancel_left] at h
 exact h
theorem run_le (i : In) {j0 : Nat} (h : j0 ≤ i.h.length) : j0 + runN i.f (i.h.drop j0) ≤ i.h.length := by
 have := runN_le (i.h.drop j0) i.f
 rw [List.length_drop] at this
 omega
theorem behO_len (i : In) {j0 : Nat} (h : j0 ≤ i.h.length) : (behO i j0).length = j0 + runN i.f (i.h.drop j0) := by
 have := run_le i h
 simp [behO]; omega
def tickR (i : In) : In × List (List UInt8) × Int :=
 if i.ok = true then (if i.l = 0 then (i, [], 0) else if i.l = 1 then (behI { i with l := 0, f := i.m, m := 0 } (posR i.h i.m), behO { i with l := 0, f := i.m, m := 0 } (posR i.h i.m), 0) else ({ i with l := i.l - 1 }, [], 0)) else (inZ, [], 1)
theorem dtick_c (hG : ∀ g, (G g).isYl = false) (i : In) (hl : i.h.length ≤ 100000) : LSpec Tryd.prog G 17 [i.av] [] (fun _ => (rAV (tickR i), [])) := by
 have hv := dvalid_c (G := G) i hl
 cases hok : i.ok with
 | false =>
   rw [show tickR i = (inZ, [], 1) by unfold tickR; rw [if_neg (by rw [hok]; decide)]]
   rw [hok] at hv
   refine goW [] Tryd.func17 rfl ?_
   conv => whnf
   repeat' ((first | exact Nm.b 0 | (show LCall _ _ _ _ _ _; first | refine LCall.pure (hv) ?_ | refine goE ?_) | refine T.s ?_ | ((first | apply goB | apply ABr.dec | apply ABr.gen) <;> intro h <;> try (exfalso; omega)) | refine LFresh.mk fun r => ?_ | (show SWpL _ _ _ _ _ _ _; first | (refine goD tyOk mixed 10 [0, 7] [0, 1, 2, 3, 4, 5, 6, 7, 8, 9, 10] [] (by kernel_rfl) ?_) | (refine goD tyOk mixed 11 [1, 10] [0, 1, 2, 3, 4, 5, 6, 7, 8, 9, 10, 11, 12, 13, 14] [] (by kernel_rfl) ?_) | (refine goD tyOk mixed 13 [4, 7, 8] [0, 1, 2, 3, 4, 5, 6, 7, 8, 9, 10] [] (by kernel_rfl) ?_)) | exact T.z | fail) <;> conv => whnf)
   all_goals (try dsimp only)
   exact ret_zero
 | true =>
   have v := Vf.of hok
   rw [hok] at hv
   have hc := dclone_o (G := G) i v.k hl (fun k hk => by have := (v.h k hk).2.2.2; omega)
   have hN1 := pos_le i.h i.m
   generalize hp : posR i.h i.m = N1 at *
   have hT : ∀ j, 0 ≤ j → j < N1 → decide ((i.h.getD j Hl.z).c < i.m) = true := fun j _ h => decide_eq_true (pos_lt i.h i.m j (by omega))
   have hF : N1 < i.h.length → decide ((i.h.getD N1 Hl.z).c < i.m) = false := fun h => by
     have := pos_ge i.h i.m (by omega)
     rw [hp] at this
     exact decide_eq_false (by omega)
   have hK := Classical.em (N1 + runN i.m (i.h.drop N1) = 0 ∨ N1 + runN i.m (i.h.drop N1) < i.h.length)
   have hE : ∀ q, ∃ v, hvA q (N1 + runN i.m (i.h.drop N1)) i.h.length = v := fun q => ⟨_, rfl⟩
   rcases hK with hK | hK
   all_goals
    refine goW [3] Tryd.func17 rfl ?_
    conv => whnf
    repeat' ((first | (first | rw [hvA_lt hK] | rw [hvA_ge hK]) | (show LCall _ _ _ [.ptr _ 0] _ _; apply LCall.manyD (fun hnd => dproceed_b (hv0 := hvA q N1 i.h.length) hG { i with l := iarith .sub .i64 i.l 1, f := i.m, m := 0 } N1 [] s q _ hl (by dsimp only; have h1 := v.n; have h2 := v.m; have h3 := v.f; omega) hN1 (by simp) (by exact hnd) rfl)) | (show SWpL _ _ _ (.rangeFunc _ _ _ _) _ _ _; refine SWpL.adoptP s 12 1 27 ?_; (repeat first | refine goH ?_ | apply LHas.here | apply LHas.next); refine ⟨Nat.le_of_ble_eq_true rfl, rfl, fun o => ?_⟩; (try dsimp only); apply SWpL.rangeFunc hG rfl (fun hnd fn us b D hus => dready1_c (hv0 := .vw q 0 i.h.length 2) b _ _ _ 33 (fun j c => decide (c < i.m)) (fun j => { i with l := iarith .sub .i64 i.l 1 }) i.h 0 N1 [] _ _ t s q o hl (by omega) (by omega) hT hF (fun j c hv out _ _ hbs => dwantT_c c t s { i with l := iarith .sub .i64 i.l 1 } hv out (by simp [hbs])) (fun j hv o2 h1 h2 => YSpec.introL tyOk [] [] hG rfl rfl rfl hus (Nat.le_of_ble_eq_true rfl) rfl rfl (fun x => ⟨by simp, by intro h; simp at hnd h ⊢; simp_all⟩) (fun hnd2 => ?_)) (by exact hnd) (hvA_0 q i.h.length))) | exact Nm.b 0 | (show LCall _ _ _ _ _ _; first | refine LCall.pure (hv) ?_ | refine LCall.own (hc) ?_ | refine LCall.mkN (dready_c _ _ _) [] (LFs.refl _) ?_ | refine goE ?_) | refine T.s ?_ | ((first | apply goB | apply ABr.dec | apply ABr.gen) <;> intro h <;> try (exfalso; omega)) | refine LFresh.mk fun r => ?_ | refine LFreshN.two fun r r2 => ?_ | refine LFreshN.three fun r r2 r3 => ?_ | (show SWpL _ _ _ _ _ _ _; first | (refine goD tyOk mixed 10 [0, 7] [0, 1, 2, 3, 4, 5, 6, 7, 8, 9, 10] [t] (by kernel_rfl) ?_) | ((skip); refine gX 11 [1, 10] [0, 1, 2, 3, 4, 5, 6, 7, 8, 9, 10, 11, 12, 13, 14] [s] ?_) | refine gX 13 [4, 7, 8] [0, 1, 2, 3, 4, 5, 6, 7, 8, 9, 10] [b2] ?_) | (show CutL _ _ _ _ _ _ _ _; first | (refine goK tyOk [3] 3 (S := Nm × Nm × Nm × Nm) [43] (fun (b2, q, s, t) => ⟨[(2, .ptr b2 0), (5, .ptr t 0)], [(t, ⟨54, [.ptr s 0]⟩), (s, ⟨57, sdC i (.vw q 0 i.h.length 2) .nils⟩), (q, ⟨67, i.h.flatMap Hl.cs⟩), (b2, ⟨32, zIn⟩)], True, 0⟩) ?_ ?_; (rintro ⟨b2, q, s, t⟩ -); rotate_left) | refine CutL.go tyOk [3] ?_) | (show AtC _ _ _ _ _ _ _ _; first | (show AtC 3 _ _ _ _ _ _ _; exact goM 3 (S := Nm × Nm × Nm × Nm) ((_, _, _, _))) | (apply AtC.mk' (id := 3) (S := Nm × Nm × Nm × Nm) ((_, _, _, _)); (repeat' first | exact trivial | (refine And.intro ?_ ?_) | exact LSub.nil | (with_reducible exact LSub.refl) | (apply LSub.cons; (repeat first | refine goH ?_ | apply LHas.here | apply LHas.next); refine And.intro ?_ ?_; (focus (try (first | (with_reducible rfl) | (refine congrArg (Pl.mk _) ?_; (first | rfl | (simp; done))) | rfl | (with_reducible refine congrArg (Pl.mk _) ?_))))) | assumption | (first | (focus (apply Eq.trans; (conv => lhs; whnf); (conv => rhs; whnf); done)) | rfl | ((conv => lhs; whnf); first | rfl | (refine congrArg (AV.int _) ?_; (exact T.num)) | (refine congrArg AV.bool ?_; (exact T.num)) | (refine vw_congr ?_; first | (exact T.num) | (first | rfl | (simp; done))) | (refine sl_congr ?_ ?_ <;> first | (exact T.num) | (first | rfl | (simp; done))) | (first | rfl | (simp; done)))) | (exact T.num) | (dsimp only; (exact T.num)) | (first | rfl | (simp; done))))) | exact T.z | fail) <;> conv => whnf)
    all_goals (try dsimp only)
    · rw [show tickR i = (i, [], 0) by unfold tickR; rw [if_pos hok, if_pos (by assumption)]]
      exact ret_held rfl (by (repeat first | refine goH ?_ | apply LHas.here | apply LHas.next); rfl)
    · have e2 : ({ i with l := 0, f := i.m, m := 0 } : In) = { i with l := iarith .sub .i64 i.l 1, f := i.m, m := 0 } := by rw [h]
      have e1 : i.l = 1 := by have h1 := v.l; have h2 := v.t; have h3 := h; have : iarith .sub .i64 i.l 1 = i.l - 1 := (by clear h3; (exact T.num)); omega
      rw [show tickR i = (behI { i with l := 0, f := i.m, m := 0 } N1, behO { i with l := 0, f := i.m, m := 0 } N1, 0) by unfold tickR; rw [if_pos hok, if_neg (by assumption), if_pos e1, hp], e2]
      refine ret_side (q := q) (by first | exact (hvA_lt hK).symm | exact (hvA_ge hK).symm) (x := behI { i with l := iarith .sub .i64 i.l 1, f := i.m, m := 0 } N1) (l0 := i.h) (N := N1 + runN i.m (i.h.drop N1)) rfl (run_le { i with l := iarith .sub .i64 i.l 1, f := i.m, m := 0 } hN1) ?_ ?_
      · rw [behO_len { i with l := iarith .sub .i64 i.l 1, f := i.m, m := 0 } hN1]
        exact Nat.zero_add _
      · (repeat first | refine goH ?_ | apply LHas.here | apply LHas.next)
        refine ⟨rfl, ?_⟩
        (repeat first | refine goH ?_ | apply LHas.here | apply LHas.next)
        refine ⟨rfl, ?_⟩
        (repeat first | refine goH ?_ | apply LHas.here | apply LHas.next)
        trivial
    · refine RetL.own r rfl ?_ ?_
      · (repeat first | refine goH ?_ | apply LHas.here | apply LHas.next); trivial
      · rw [out_succ [] i.h j (by omega)]
        (repeat' first | exact LSub.nil | (with_reducible exact LSub.refl) | (apply LSub.cons; (repeat first | refine goH ?_ | apply LHas.here | apply LHas.next); refine And.intro ?_ ?_; (focus (try (first | (with_reducible rfl) | (refine congrArg (Pl.mk _) ?_; (first | rfl | (simp; done))) | rfl | (with_reducible refine congrArg (Pl.mk _) ?_))))))
    · have e1 : iarith .sub .i64 i.l 1 = i.l - 1 := by have h1 := v.l; have h2 := v.t; (exact T.num)
      have e2 : ({ i with l := i.l - 1 } : In) = { i with l := iarith .sub .i64 i.l 1 } := by rw [e1]
      rw [show tickR i = ({ i with l := i.l - 1 }, [], 0) by unfold tickR; rw [if_pos hok, if_neg (by assumption), if_neg (by omega)], e2]
      exact ret_held rfl (by (repeat first | refine goH ?_ | apply LHas.here | apply LHas.next); rfl)
end Go.Proofs.YtnmifddidgofaaaDoor
