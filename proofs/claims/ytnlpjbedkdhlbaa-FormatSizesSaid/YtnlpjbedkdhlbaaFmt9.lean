import Derived.Test.YtnlpjbedkdhlbaaFmt8
namespace Go.Proofs.Ytnlpjbedkdhlbaa
open Go.RowKit
set_option linter.all false
variable {G : Nat → AV}
@[simp] theorem putB_ln (n : Int) (k : Nat) : (putB n k).length = k := by
  induction k with
  | zero => simp [putB]
  | succ k ih => simp [putB, ih]
theorem CutL.adopt {P : Program} {N : Nat} {e : Env} {l : LS} (x sz : Nat) (t : TypeId) {c d : Code} {Q : Exit → Env → LS → Prop} (hx : e x = .nils) (h : ∀ q, CutL P G N c d Q (put e x (.vw q 0 0 sz)) ((q, ⟨t, []⟩) :: l)) : CutL P G N c d Q e l := ⟨SWpL.adopt x sz t hx fun q => (h q).run⟩
theorem put2_c (l : List UInt8) (n : Int) (hl : l.length ≤ 1000) (p : Nm) : LSpec Try.prog G 33 [.vw p 0 l.length 1, iAV 2, iAV n] [(p, ⟨5, l.map bAV⟩)] (fun q => (.vw q 0 (l.length + 2) 1, [(q, ⟨5, (l ++ putB n 2).map bAV⟩)])) := by
  refine LSpec.introL tyOk Try.func33 rfl (by kernel_rfl) (by simp) (fun q => ⟨by simp, by simp⟩) ?_
  refine AWpL.sound tyOk [] _ _ _ _ ?_
  conv => whnf
  repeat' first
    | (show LHas _ _ _; ((try show LHas _ _ _); repeat (with_reducible show LHas _ _ _); first | apply LHas.here | apply LHas.next); conv => whnf)
    | ((first | (with_reducible refine And.intro ?_ ?_) | refine And.intro ?_ ?_); (focus (first | exact T.side)); conv => whnf)
    | (show ABr _ _ _; first | (refine ABr.tt ?_; conv => whnf) | (refine ABr.ff ?_; conv => whnf) | (refine ABr.byN ?_) | ((with_reducible refine ABr.geqT (by assumption) ?_); conv => whnf) | ((with_reducible refine ABr.geqF (by assumption) ?_); conv => whnf) | ((with_reducible refine ABr.geq (fun h => ?_) (fun h => ?_)) <;> first | (exfalso; omega) | conv => whnf) | (refine ABr.byT (by with_reducible assumption) ?_; conv => whnf) | (refine ABr.byF (by with_reducible assumption) ?_; conv => whnf) | ((with_reducible refine ABr.decT rfl ?_); conv => whnf) | ((with_reducible refine ABr.decT (by assumption) ?_); conv => whnf) | ((with_reducible refine ABr.decF (by assumption) ?_); conv => whnf) | (refine ABr.dec (fun h => ?_) (fun h => ?_) <;> first | (exfalso; omega) | conv => whnf) | (refine ABr.gen (fun h => ?_) (fun h => ?_) <;> conv => whnf))
    | (show ACell _ _ _; first | (refine ACell.cell 0 ?_ ?_; (focus (first | exact T.side)); conv => whnf) | (refine ACell.mk ?_; conv => whnf))
    | (show AList _ _; first | (refine AList.app ?_ ?_; (focus (first | exact T.side)); conv => whnf) | (refine AList.set (x := b8 _) (bAV_b8 _).symm ?_ ?_; (focus (first | exact T.side)); conv => whnf) | (refine AList.set (f := iAV) rfl ?_ ?_; (focus (first | exact T.side)); conv => whnf) | (refine AList.part ?_; conv => whnf) | (refine AList.force ?_; (conv => whnf); refine Lit.mk ?_; conv => whnf) | (refine AList.full ?_ ?_; (focus (first | exact Nat.le_of_ble_eq_true rfl | (simp; done) | (simp; omega))); conv => whnf) | (refine AList.mk ?_; conv => whnf))
    | (refine LFresh.mk fun r => ?_; conv => whnf)
    | (show SWpL _ _ _ _ _ _ _; first | (refine SWpL.times 2 3 (by rfl) ?_; conv => whnf) | (refine AtL.step tyOk [] ?_; conv => whnf))
    | (show KeepL _ _ _; first | (with_reducible exact KeepL.refl) | (refine KeepL.cons ?_; ((try show LHas _ _ _); repeat (with_reducible show LHas _ _ _); first | apply LHas.here | apply LHas.next); ((try show LHas _ _ _); repeat (with_reducible show LHas _ _ _); first | apply LHas.here | apply LHas.next); refine And.intro rfl ?_) | exact KeepL.nil)
    | (show InL _ _; first | exact InL.here | refine InL.next ?_)
    | (show False; (exact T.num))
    | (refine ⟨_, rfl, rfl, ?_⟩; conv => whnf)
  all_goals (try dsimp only)
  refine RetL.own r rfl ?_ ?_
  · ((try show LHas _ _ _); repeat (with_reducible show LHas _ _ _); first | apply LHas.here | apply LHas.next); trivial
  · apply LSub.cons
    ((try show LHas _ _ _); repeat (with_reducible show LHas _ _ _); first | apply LHas.here | apply LHas.next)
    refine And.intro (congrArg (Pl.mk _) ?_) LSub.nil
    simp only [putB, List.map_append, List.map_cons, List.map_nil, bAV_b8, List.append_assoc, List.cons_append, List.nil_append]
    rfl
theorem put1r_c (l : List UInt8) (n : Int) (hl : l.length ≤ 1000) (p : Nm) : LSpec Try.prog G 33 [.vw p 0 l.length 1, iAV 1, iAV n] [(p, ⟨5, l.map bAV⟩)] (fun q => (.vw q 0 (l.length + 1) 1, [(q, ⟨5, (l ++ putB n 1).map bAV⟩)])) := by
  refine LSpec.introL tyOk Try.func33 rfl (by kernel_rfl) (by simp) (fun q => ⟨by simp, by simp⟩) ?_
  refine AWpL.sound tyOk [] _ _ _ _ ?_
  conv => whnf
  repeat' first
    | (show LHas _ _ _; ((try show LHas _ _ _); repeat (with_reducible show LHas _ _ _); first | apply LHas.here | apply LHas.next); conv => whnf)
    | ((first | (with_reducible refine And.intro ?_ ?_) | refine And.intro ?_ ?_); (focus (first | exact T.side)); conv => whnf)
    | (show ABr _ _ _; first | (refine ABr.tt ?_; conv => whnf) | (refine ABr.ff ?_; conv => whnf) | (refine ABr.byN ?_) | ((with_reducible refine ABr.geqT (by assumption) ?_); conv => whnf) | ((with_reducible refine ABr.geqF (by assumption) ?_); conv => whnf) | ((with_reducible refine ABr.geq (fun h => ?_) (fun h => ?_)) <;> first | (exfalso; omega) | conv => whnf) | (refine ABr.byT (by with_reducible assumption) ?_; conv => whnf) | (refine ABr.byF (by with_reducible assumption) ?_; conv => whnf) | ((with_reducible refine ABr.decT rfl ?_); conv => whnf) | ((with_reducible refine ABr.decT (by assumption) ?_); conv => whnf) | ((with_reducible refine ABr.decF (by assumption) ?_); conv => whnf) | (refine ABr.dec (fun h => ?_) (fun h => ?_) <;> first | (exfalso; omega) | conv => whnf) | (refine ABr.gen (fun h => ?_) (fun h => ?_) <;> conv => whnf))
    | (show ACell _ _ _; first | (refine ACell.cell 0 ?_ ?_; (focus (first | exact T.side)); conv => whnf) | (refine ACell.mk ?_; conv => whnf))
    | (show AList _ _; first | (refine AList.app ?_ ?_; (focus (first | exact T.side)); conv => whnf) | (refine AList.set (x := b8 _) (bAV_b8 _).symm ?_ ?_; (focus (first | exact T.side)); conv => whnf) | (refine AList.set (f := iAV) rfl ?_ ?_; (focus (first | exact T.side)); conv => whnf) | (refine AList.part ?_; conv => whnf) | (refine AList.force ?_; (conv => whnf); refine Lit.mk ?_; conv => whnf) | (refine AList.full ?_ ?_; (focus (first | exact Nat.le_of_ble_eq_true rfl | (simp; done) | (simp; omega))); conv => whnf) | (refine AList.mk ?_; conv => whnf))
    | (refine LFresh.mk fun r => ?_; conv => whnf)
    | (show SWpL _ _ _ _ _ _ _; first | (refine SWpL.times 2 2 (by rfl) ?_; conv => whnf) | (refine AtL.step tyOk [] ?_; conv => whnf))
    | (show KeepL _ _ _; first | (with_reducible exact KeepL.refl) | (refine KeepL.cons ?_; ((try show LHas _ _ _); repeat (with_reducible show LHas _ _ _); first | apply LHas.here | apply LHas.next); ((try show LHas _ _ _); repeat (with_reducible show LHas _ _ _); first | apply LHas.here | apply LHas.next); refine And.intro rfl ?_) | exact KeepL.nil)
    | (show InL _ _; first | exact InL.here | refine InL.next ?_)
    | (show False; (exact T.num))
    | (refine ⟨_, rfl, rfl, ?_⟩; conv => whnf)
  all_goals (try dsimp only)
  refine RetL.own r rfl ?_ ?_
  · ((try show LHas _ _ _); repeat (with_reducible show LHas _ _ _); first | apply LHas.here | apply LHas.next); trivial
  · apply LSub.cons
    ((try show LHas _ _ _); repeat (with_reducible show LHas _ _ _); first | apply LHas.here | apply LHas.next)
    refine And.intro (congrArg (Pl.mk _) ?_) LSub.nil
    simp only [putB, List.map_append, List.map_cons, List.map_nil, bAV_b8, List.append_assoc, List.cons_append, List.nil_append]
    rfl
/-- The call of Put, over a row of bytes of the call's own. -/
theorem LCall.putk {k : Int} (kn : Nat) {q : Nm} {n : Nat} {x : Int} {l : LS} {K : AV → LS → Prop} (hs : ∀ (bs : List UInt8) (p : Nm), bs.length ≤ 1000 → LSpec Try.prog G 33 [.vw p 0 bs.length 1, .int .i64 k, .int .i64 x] [(p, ⟨5, bs.map bAV⟩)] (fun q => (.vw q 0 (bs.length + kn) 1, [(q, ⟨5, (bs ++ putB x kn).map bAV⟩)])))
    (h : LHas l q fun c _ r => ∃ bs : List UInt8, c = ⟨5, bs.map bAV⟩ ∧ n = bs.length ∧ bs.length ≤ 1000 ∧ LFresh fun q' => K (.vw q' 0 (bs.length + kn) 1) ((q', ⟨5, (bs ++ putB x kn).map bAV⟩) :: r)) : LCall Try.prog G 33 [.vw q 0 n 1, .int .i64 k, .int .i64 x] l K := by
  obtain ⟨l1, c, l2, rfl, bs, rfl, rfl, h1, h2⟩ := h.ex
  refine LCall.mk' (hs bs q h1) [] (LFs.refl _) ?_
  exact ⟨l1, _, l2, rfl, rfl, h2⟩
theorem AList.appB {bs : List UInt8} {m : Nat} {x : Int} {K : List AV → Prop} (h : bs.length ≤ m) (k : K ((bs ++ [b8 x]).map bAV)) : AList (List.take m (List.drop 0 (bs.map bAV)) ++ [.int .u8 (IntKind.u8.wrap x)]) K := AList.app h (by rw [← bAV_b8]; simpa using k)
theorem AList.appM {bs cs : List UInt8} {m : Nat} {xs : List AV} {K : List AV → Prop} (h : bs.length ≤ m) (hx : xs = cs.map bAV) (k : K ((bs ++ cs).map bAV)) : AList (List.take m (List.drop 0 (bs.map bAV)) ++ xs) K := AList.app h (by rw [hx]; simpa using k)
theorem b8_1 (a b : Int) : b8 (iarith .add .i64 (iarith .mul .i64 8 a) b) = b8 (8 * a + b) := by
  unfold b8
  simp only [iarith, IntKind.wrap_i64]
  congr 2
  omega
theorem b8_2 (a b : Int) : b8 (iarith .add .i64 (iarith .add .i64 128 (iarith .mul .i64 32 a)) b) = b8 (32 * (4 + a) + b) := by
  unfold b8
  simp only [iarith, IntKind.wrap_i64]
  congr 2
  omega
theorem b8_3 (c a : Int) : b8 (iarith .add .i64 c a) = b8 (c + a) := by
  unfold b8
  simp only [iarith, IntKind.wrap_i64]
  congr 2
  omega
theorem b8_f (a b c : Int) : b8 (iarith .add .i64 (iarith .add .i64 (iarith .mul .i64 128 a) (iarith .mul .i64 32 b)) (iarith .mul .i64 16 c)) = b8 (128 * a + 32 * b + 16 * c) := by
  unfold b8
  simp only [iarith, IntKind.wrap_i64]
  congr 2
  omega
theorem b8_g (a b c : Int) : b8 (iarith .add .i64 (iarith .add .i64 (iarith .add .i64 (iarith .mul .i64 128 a) (iarith .mul .i64 32 b)) (iarith .mul .i64 16 c)) 64) = b8 (128 * a + 64 + 32 * b + 16 * c) := by
  unfold b8
  simp only [iarith, IntKind.wrap_i64]
  congr 2
  omega
set_option maxHeartbeats 1000000 in
theorem rdyn_c (s : Sm) (hk : s.h.k = 1 ∨ s.h.k = 2) (hck : 0 ≤ s.h.ck) : LSpec Try.prog G 34 [s.av] [] (fun _ => (bv (dynL s.h s.d), [])) := by
  have w0 : someM s.h.ck = if s.h.ck = 0 then 0 else 1 := by unfold someM; split <;> split <;> omega
  refine LSpec.introL tyOk Try.func34 rfl (by kernel_rfl) (by simp) (fun q => ⟨by simp, by simp⟩) ?_
  refine AWpL.sound tyOk [] _ _ _ _ ?_
  conv => whnf
  repeat' first
    | (show LCall _ _ _ _ _ _; refine LCall.putk 2 (fun bs p hb => put2_c bs _ hb p) ?_; ((try show LHas _ _ _); repeat (with_reducible show LHas _ _ _); first | apply LHas.here | apply LHas.next); refine ⟨_, rfl, (by first | exact rfl | (simp; done)), (by first | exact Nat.le_of_ble_eq_true rfl | (simp; omega) | (simp; done)), ?_⟩; conv => whnf)
    | (show LCall _ _ _ _ _ _; refine LCall.putk 4 (fun bs p hb => put4_c bs _ hb p) ?_; ((try show LHas _ _ _); repeat (with_reducible show LHas _ _ _); first | apply LHas.here | apply LHas.next); refine ⟨_, rfl, (by first | exact rfl | (simp; done)), (by first | exact Nat.le_of_ble_eq_true rfl | (simp; omega) | (simp; done)), ?_⟩; conv => whnf)
    | (show LHas _ _ _; ((try show LHas _ _ _); repeat (with_reducible show LHas _ _ _); first | apply LHas.here | apply LHas.next); conv => whnf)
    | ((first | (with_reducible refine And.intro ?_ ?_) | refine And.intro ?_ ?_); (focus (first | exact T.side)); conv => whnf)
    | (show ABr _ _ _; first | (refine ABr.tt ?_; conv => whnf) | (refine ABr.ff ?_; conv => whnf) | (refine ABr.byN ?_) | ((with_reducible refine ABr.eqlT (by assumption) ?_); conv => whnf) | ((with_reducible refine ABr.eqlF (by assumption) ?_); conv => whnf) | ((with_reducible refine ABr.eql (fun h => ?_) (fun h => ?_)) <;> first | (exfalso; omega) | conv => whnf) | ((with_reducible refine ABr.neqT (by assumption) ?_); conv => whnf) | ((with_reducible refine ABr.neqF (by assumption) ?_); conv => whnf) | ((with_reducible refine ABr.neq (fun h => ?_) (fun h => ?_)) <;> first | (exfalso; omega) | conv => whnf) | (refine ABr.byT (by with_reducible assumption) ?_; conv => whnf) | (refine ABr.byF (by with_reducible assumption) ?_; conv => whnf) | ((with_reducible refine ABr.decT rfl ?_); conv => whnf) | ((with_reducible refine ABr.decT (by assumption) ?_); conv => whnf) | ((with_reducible refine ABr.decF (by assumption) ?_); conv => whnf) | (refine ABr.dec (fun h => ?_) (fun h => ?_) <;> first | (exfalso; omega) | conv => whnf) | (refine ABr.gen (fun h => ?_) (fun h => ?_) <;> conv => whnf))
    | (show ACell _ _ _; first | (refine ACell.cell 0 ?_ ?_; (focus (first | exact T.side)); conv => whnf) | (refine ACell.mk ?_; conv => whnf))
    | (show AList _ _; first | (refine AList.eq (show [_, _, _] = ([b8 _, b8 _, b8 _] : List UInt8).map bAV from (by simp only [List.map_cons, List.map_nil, bAV_b8]; rfl)) ?_; conv => whnf) | (refine AList.appB ?_ ?_; (focus (first | exact Nat.le_of_ble_eq_true rfl | (simp; done) | (simp; omega))); conv => whnf) | (refine AList.app ?_ ?_; (focus (first | exact T.side)); conv => whnf) | (refine AList.set (x := b8 _) (bAV_b8 _).symm ?_ ?_; (focus (first | exact T.side)); conv => whnf) | (refine AList.set (f := iAV) rfl ?_ ?_; (focus (first | exact T.side)); conv => whnf) | (refine AList.part ?_; conv => whnf) | (refine AList.force ?_; (conv => whnf); refine Lit.mk ?_; conv => whnf) | (refine AList.full ?_ ?_; (focus (first | exact Nat.le_of_ble_eq_true rfl | (simp; done) | (simp; omega))); conv => whnf) | (refine AList.mk ?_; conv => whnf))
    | (refine LFresh.mk fun r => ?_; conv => whnf)
    | (show SWpL _ _ _ _ _ _ _; first | (apply SWpL.draw tyOk mixed (id := 9) [[], [], [1], [0, 2, 1], [], [4], [3, 0, 2, 1, 5, 4], [6, 3, 0, 2, 1, 5, 4]] [5, 3] [0, 1, 2, 4, 5, 3, 6, 7] [_] (by kernel_rfl); conv => whnf) | (apply SWpL.draw tyOk mixed (id := 9) [[], [], [1], [0, 2, 1], [], [4], [3, 0, 2, 1, 5, 4], [6, 3, 0, 2, 1, 5, 4]] [5, 3] [0, 1, 2, 4, 5, 3, 6, 7] [] (by kernel_rfl); conv => whnf) | (apply SWpL.draw tyOk mixed (id := 10) [[], [], [1], [0, 2, 1], [], [4], [5, 4], [3, 0, 2, 1, 6, 5, 4], [7, 3, 0, 2, 1, 6, 5, 4]] [6, 3] [0, 1, 2, 4, 5, 6, 3, 7, 8] [_] (by kernel_rfl); conv => whnf) | (apply SWpL.draw tyOk mixed (id := 10) [[], [], [1], [0, 2, 1], [], [4], [5, 4], [3, 0, 2, 1, 6, 5, 4], [7, 3, 0, 2, 1, 6, 5, 4]] [6, 3] [0, 1, 2, 4, 5, 6, 3, 7, 8] [] (by kernel_rfl); conv => whnf))
    | (show KeepL _ _ _; first | (with_reducible exact KeepL.refl) | (refine KeepL.cons ?_; ((try show LHas _ _ _); repeat (with_reducible show LHas _ _ _); first | apply LHas.here | apply LHas.next); ((try show LHas _ _ _); repeat (with_reducible show LHas _ _ _); first | apply LHas.here | apply LHas.next); refine And.intro rfl ?_) | exact KeepL.nil)
    | (show InL _ _; first | exact InL.here | refine InL.next ?_)
    | (show False; (exact T.num))
    | exact Nm.b 0
    | (refine ⟨_, rfl, rfl, ?_⟩; conv => whnf)
  all_goals (try dsimp only)
  all_goals
    refine RetL.rowF (b := dynL s.h s.d) (f := bAV) ?_
    ((try show LHas _ _ _); repeat (with_reducible show LHas _ _ _); first | apply LHas.here | apply LHas.next)
    refine And.intro ?_ (And.intro ?_ ?_)
    · refine congrArg (List.map bAV) ?_
      simp only [dynL, w0]
      first
        | (have hk2 : s.h.k = 2 := by omega
           simp [b8_f, b8_g, hk2, *]; done)
        | (have hk2 : ¬ s.h.k = 2 := by omega
           simp [b8_f, b8_g, hk2, *]; done)
    · simp only [dynL]
      first
        | (have hk2 : s.h.k = 2 := by omega
           simp [hk2]; done)
        | (have hk2 : ¬ s.h.k = 2 := by omega
           simp [hk2]; done)
    · exact LSub.nil
end Go.Proofs.Ytnlpjbedkdhlbaa
