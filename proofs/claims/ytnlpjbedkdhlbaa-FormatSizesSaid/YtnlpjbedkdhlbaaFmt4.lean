import Derived.Test.YtnlpjbedkdhlbaaFmt3
namespace Go.Proofs.Ytnlpjbedkdhlbaa
open Go.RowKit
set_option linter.all false
variable {G : Nat → AV}
@[reducible] def q0 (q : List Nm) : Nm := q.getD 0 (.b 0)
@[reducible] def q1 (q : List Nm) : Nm := q.getD 1 (.b 0)
/-- The writer behind its pointer, and its two rows. -/
@[reducible] def wrPl (w p1 p2 : Nm) (ws vs : List Int) : LS := [(w, ⟨57, [.vw p1 0 ws.length 1, .vw p2 0 vs.length 1]⟩), (p1, ⟨3, ws.map iAV⟩), (p2, ⟨3, vs.map iAV⟩)]
theorem LNames.drop {l : LS} {o : Nm} {qs : List Nm} (h : LNames l (o :: qs)) {φ : Store} (hs : Sep φ l) : qs.Nodup ∧ ∀ q ∈ qs, φ q = none ∧ q ∈ l.map (·.1) := by
  obtain ⟨h1, h2⟩ := h.sound hs
  exact ⟨(List.nodup_cons.1 h1).2, fun q hq => h2 q (by simp [hq])⟩
/-- The end of a function that leaves a writer. -/
theorem RetLN.wr {w : Nm} {ws vs : List Int} {l : LS} (h : LHas l w fun c _ r => ∃ (p1 p2 : Nm) (n m : Nat), c = ⟨57, [.vw p1 0 n 1, .vw p2 0 m 1]⟩ ∧ n = ws.length ∧ m = vs.length ∧ LHas r p1 fun c1 _ r1 => c1 = ⟨3, ws.map iAV⟩ ∧ LHas r1 p2 fun c2 _ _ => c2 = ⟨3, vs.map iAV⟩) :
    RetLN 2 (fun q => (.tup [], wrPl w (q0 q) (q1 q) ws vs)) (.tup []) l := by
  obtain ⟨l1, c, l2, rfl, p1, p2, n, m, rfl, rfl, rfl, h'⟩ := h.ex
  have hsub : LSub (wrPl w p1 p2 ws vs) (l1 ++ (w, ⟨57, [.vw p1 0 ws.length 1, .vw p2 0 vs.length 1]⟩) :: l2) :=
    LSub.cons ⟨l1, _, l2, rfl, rfl, LSub.cons (LHas.mono h' fun c _ r k => ⟨k.1, LSub.cons (LHas.mono k.2 fun c _ r k => ⟨k, LSub.nil⟩)⟩)⟩
  have hn : LNames (l1 ++ (w, ⟨57, [.vw p1 0 ws.length 1, .vw p2 0 vs.length 1]⟩) :: l2) [w, p1, p2] := ⟨l1, _, l2, rfl, LHas.mono h' fun c _ r k => LHas.mono k.2 fun _ _ _ _ => trivial⟩
  refine ⟨fun φ hsp => ?_⟩
  obtain ⟨k1, k2⟩ := LNames.drop hn hsp
  obtain ⟨h2, h3⟩ := hsub.go φ hsp
  exact ⟨[], [p1, p2], rfl, k1, fun q hq => (k2 q hq).1, h2.nd, .refl _, h3⟩
theorem put0_c (w : Nm) (a b : Int) : LSpecN Try.prog G 28 [.ptr w 0, iAV a, iAV b] [(w, ⟨57, [.nils, .nils]⟩)] 2 (fun q => (.tup [], wrPl w (q0 q) (q1 q) [a] [b])) := by
  refine LSpecN.introL tyOk Try.func28 rfl (by kernel_rfl) (by simp) (fun qs hq => by obtain ⟨x, y, rfl⟩ : ∃ x y, qs = [x, y] := (match qs, hq with | [x, y], _ => ⟨x, y, rfl⟩); exact ⟨by simp, by intro h1 h2; simp at h1 h2 ⊢; simp_all [eq_comm]⟩) ?_
  refine AWpL.sound tyOk [] _ _ _ _ ?_
  conv => whnf
  repeat' first
    | (show LHas _ _ _; ((try show LHas _ _ _); repeat (with_reducible show LHas _ _ _); first | apply LHas.here | apply LHas.next); conv => whnf)
    | ((first | (with_reducible refine And.intro ?_ ?_) | refine And.intro ?_ ?_); (focus (first | exact T.side)); conv => whnf)
    | (show ABr _ _ _; first | (refine ABr.tt ?_; conv => whnf) | (refine ABr.ff ?_; conv => whnf) | (refine ABr.byN ?_) | (refine ABr.byT (by with_reducible assumption) ?_; conv => whnf) | (refine ABr.byF (by with_reducible assumption) ?_; conv => whnf) | ((with_reducible refine ABr.decT rfl ?_); conv => whnf) | ((with_reducible refine ABr.decT (by assumption) ?_); conv => whnf) | ((with_reducible refine ABr.decF (by assumption) ?_); conv => whnf) | (refine ABr.dec (fun h => ?_) (fun h => ?_) <;> first | (exfalso; omega) | conv => whnf) | (refine ABr.gen (fun h => ?_) (fun h => ?_) <;> conv => whnf))
    | (show ACell _ _ _; first | (refine ACell.cell 0 ?_ ?_; (focus (first | exact T.side)); conv => whnf) | (refine ACell.mk ?_; conv => whnf))
    | (show AList _ _; first | (refine AList.app ?_ ?_; (focus (first | exact T.side)); conv => whnf) | (refine AList.set (x := b8 _) (bAV_b8 _).symm ?_ ?_; (focus (first | exact T.side)); conv => whnf) | (refine AList.set (f := iAV) rfl ?_ ?_; (focus (first | exact T.side)); conv => whnf) | (refine AList.part ?_; conv => whnf) | (refine AList.force ?_; (conv => whnf); refine Lit.mk ?_; conv => whnf) | (refine AList.full ?_ ?_; (focus (first | exact Nat.le_of_ble_eq_true rfl | (simp; done) | (simp; omega))); conv => whnf) | (refine AList.mk ?_; conv => whnf))
    | (refine LFresh.mk fun r => ?_; conv => whnf)
    | (show SWpL _ _ _ _ _ _ _; first | (apply SWpL.draw tyOk mixed (id := 0) [[], [], [], [2], [3, 2], [4, 3, 2], [], [6], [5, 4, 3, 2, 7, 6], [], [9], [10, 9], [11, 10, 9], [], [13], [12, 11, 10, 9, 14, 13, 8, 5, 4, 3, 2, 7, 6], [0, 2, 3, 4, 5, 6, 7, 8, 12, 11, 10, 9, 15, 14, 13], [16, 0, 2, 3, 4, 5, 6, 7, 8, 12, 11, 10, 9, 15, 14, 13], [17, 16, 0, 2, 3, 4, 5, 6, 7, 8, 12, 11, 10, 9, 15, 14, 13], [1, 0, 2, 3, 4, 5, 6, 7, 8, 9, 10, 11, 12, 13, 14, 15, 16, 17, 18], [19, 1, 0, 2, 3, 4, 5, 6, 7, 8, 9, 10, 11, 12, 13, 14, 15, 16, 17, 18], [20, 19, 1, 0, 2, 3, 4, 5, 6, 7, 8, 9, 10, 11, 12, 13, 14, 15, 16, 17, 18]] [12, 8] [0, 1, 2, 3, 4, 5, 6, 9, 10, 11, 12, 13, 7, 8, 14, 15, 16, 17, 18, 19, 20, 21] [_] (by kernel_rfl); conv => whnf) | (apply SWpL.draw tyOk mixed (id := 0) [[], [], [], [2], [3, 2], [4, 3, 2], [], [6], [5, 4, 3, 2, 7, 6], [], [9], [10, 9], [11, 10, 9], [], [13], [12, 11, 10, 9, 14, 13, 8, 5, 4, 3, 2, 7, 6], [0, 2, 3, 4, 5, 6, 7, 8, 12, 11, 10, 9, 15, 14, 13], [16, 0, 2, 3, 4, 5, 6, 7, 8, 12, 11, 10, 9, 15, 14, 13], [17, 16, 0, 2, 3, 4, 5, 6, 7, 8, 12, 11, 10, 9, 15, 14, 13], [1, 0, 2, 3, 4, 5, 6, 7, 8, 9, 10, 11, 12, 13, 14, 15, 16, 17, 18], [19, 1, 0, 2, 3, 4, 5, 6, 7, 8, 9, 10, 11, 12, 13, 14, 15, 16, 17, 18], [20, 19, 1, 0, 2, 3, 4, 5, 6, 7, 8, 9, 10, 11, 12, 13, 14, 15, 16, 17, 18]] [12, 8] [0, 1, 2, 3, 4, 5, 6, 9, 10, 11, 12, 13, 7, 8, 14, 15, 16, 17, 18, 19, 20, 21] [] (by kernel_rfl); conv => whnf))
    | (show KeepL _ _ _; first | (with_reducible exact KeepL.refl) | (refine KeepL.cons ?_; ((try show LHas _ _ _); repeat (with_reducible show LHas _ _ _); first | apply LHas.here | apply LHas.next); ((try show LHas _ _ _); repeat (with_reducible show LHas _ _ _); first | apply LHas.here | apply LHas.next); refine And.intro rfl ?_) | exact KeepL.nil)
    | (show InL _ _; first | exact InL.here | refine InL.next ?_)
    | (show False; (exact T.num))
    | exact Nm.b 0
  all_goals (try dsimp only)
  all_goals (refine RetLN.wr ?_; ((try show LHas _ _ _); repeat (with_reducible show LHas _ _ _); first | apply LHas.here | apply LHas.next); refine ⟨_, _, _, _, rfl, (by simp), (by simp), ?_⟩; ((try show LHas _ _ _); repeat (with_reducible show LHas _ _ _); first | apply LHas.here | apply LHas.next); refine And.intro ?_ ?_; (focus (first | exact rfl | (simp [iAV]; done))); ((try show LHas _ _ _); repeat (with_reducible show LHas _ _ _); first | apply LHas.here | apply LHas.next); (first | exact rfl | (simp [iAV]; done)))
theorem put1_c (w p1 p2 : Nm) (ws vs : List Int) (a b : Int) (h1 : 0 < ws.length) (h2 : ws.length ≤ 200) (h3 : 0 < vs.length) (h4 : vs.length ≤ 200) : LSpecN Try.prog G 28 [.ptr w 0, iAV a, iAV b] (wrPl w p1 p2 ws vs) 2 (fun q => (.tup [], wrPl w (q0 q) (q1 q) (ws ++ [a]) (vs ++ [b]))) := by
  refine LSpecN.introL tyOk Try.func28 rfl (by kernel_rfl) (by simp) (fun qs hq => by obtain ⟨x, y, rfl⟩ : ∃ x y, qs = [x, y] := (match qs, hq with | [x, y], _ => ⟨x, y, rfl⟩); exact ⟨by simp, by intro h1 h2; simp at h1 h2 ⊢; simp_all [eq_comm]⟩) ?_
  refine AWpL.sound tyOk [] _ _ _ _ ?_
  conv => whnf
  repeat' first
    | (show LHas _ _ _; ((try show LHas _ _ _); repeat (with_reducible show LHas _ _ _); first | apply LHas.here | apply LHas.next); conv => whnf)
    | ((first | (with_reducible refine And.intro ?_ ?_) | refine And.intro ?_ ?_); (focus (first | exact T.side)); conv => whnf)
    | (show ABr _ _ _; first | (refine ABr.tt ?_; conv => whnf) | (refine ABr.ff ?_; conv => whnf) | (refine ABr.byN ?_) | (refine ABr.byT (by with_reducible assumption) ?_; conv => whnf) | (refine ABr.byF (by with_reducible assumption) ?_; conv => whnf) | ((with_reducible refine ABr.decT rfl ?_); conv => whnf) | ((with_reducible refine ABr.decT (by assumption) ?_); conv => whnf) | ((with_reducible refine ABr.decF (by assumption) ?_); conv => whnf) | (refine ABr.dec (fun h => ?_) (fun h => ?_) <;> first | (exfalso; omega) | conv => whnf) | (refine ABr.gen (fun h => ?_) (fun h => ?_) <;> conv => whnf))
    | (show ACell _ _ _; first | (refine ACell.cell 0 ?_ ?_; (focus (first | exact T.side)); conv => whnf) | (refine ACell.mk ?_; conv => whnf))
    | (show AList _ _; first | (refine AList.app ?_ ?_; (focus (first | exact T.side)); conv => whnf) | (refine AList.set (x := b8 _) (bAV_b8 _).symm ?_ ?_; (focus (first | exact T.side)); conv => whnf) | (refine AList.set (f := iAV) rfl ?_ ?_; (focus (first | exact T.side)); conv => whnf) | (refine AList.part ?_; conv => whnf) | (refine AList.force ?_; (conv => whnf); refine Lit.mk ?_; conv => whnf) | (refine AList.full ?_ ?_; (focus (first | exact Nat.le_of_ble_eq_true rfl | (simp; done) | (simp; omega))); conv => whnf) | (refine AList.mk ?_; conv => whnf))
    | (refine LFresh.mk fun r => ?_; conv => whnf)
    | (show SWpL _ _ _ _ _ _ _; first | (apply SWpL.draw tyOk mixed (id := 0) [[], [], [], [2], [3, 2], [4, 3, 2], [], [6], [5, 4, 3, 2, 7, 6], [], [9], [10, 9], [11, 10, 9], [], [13], [12, 11, 10, 9, 14, 13, 8, 5, 4, 3, 2, 7, 6], [0, 2, 3, 4, 5, 6, 7, 8, 12, 11, 10, 9, 15, 14, 13], [16, 0, 2, 3, 4, 5, 6, 7, 8, 12, 11, 10, 9, 15, 14, 13], [17, 16, 0, 2, 3, 4, 5, 6, 7, 8, 12, 11, 10, 9, 15, 14, 13], [1, 0, 2, 3, 4, 5, 6, 7, 8, 9, 10, 11, 12, 13, 14, 15, 16, 17, 18], [19, 1, 0, 2, 3, 4, 5, 6, 7, 8, 9, 10, 11, 12, 13, 14, 15, 16, 17, 18], [20, 19, 1, 0, 2, 3, 4, 5, 6, 7, 8, 9, 10, 11, 12, 13, 14, 15, 16, 17, 18]] [12, 8] [0, 1, 2, 3, 4, 5, 6, 9, 10, 11, 12, 13, 7, 8, 14, 15, 16, 17, 18, 19, 20, 21] [_] (by kernel_rfl); conv => whnf) | (apply SWpL.draw tyOk mixed (id := 0) [[], [], [], [2], [3, 2], [4, 3, 2], [], [6], [5, 4, 3, 2, 7, 6], [], [9], [10, 9], [11, 10, 9], [], [13], [12, 11, 10, 9, 14, 13, 8, 5, 4, 3, 2, 7, 6], [0, 2, 3, 4, 5, 6, 7, 8, 12, 11, 10, 9, 15, 14, 13], [16, 0, 2, 3, 4, 5, 6, 7, 8, 12, 11, 10, 9, 15, 14, 13], [17, 16, 0, 2, 3, 4, 5, 6, 7, 8, 12, 11, 10, 9, 15, 14, 13], [1, 0, 2, 3, 4, 5, 6, 7, 8, 9, 10, 11, 12, 13, 14, 15, 16, 17, 18], [19, 1, 0, 2, 3, 4, 5, 6, 7, 8, 9, 10, 11, 12, 13, 14, 15, 16, 17, 18], [20, 19, 1, 0, 2, 3, 4, 5, 6, 7, 8, 9, 10, 11, 12, 13, 14, 15, 16, 17, 18]] [12, 8] [0, 1, 2, 3, 4, 5, 6, 9, 10, 11, 12, 13, 7, 8, 14, 15, 16, 17, 18, 19, 20, 21] [] (by kernel_rfl); conv => whnf))
    | (show KeepL _ _ _; first | (with_reducible exact KeepL.refl) | (refine KeepL.cons ?_; ((try show LHas _ _ _); repeat (with_reducible show LHas _ _ _); first | apply LHas.here | apply LHas.next); ((try show LHas _ _ _); repeat (with_reducible show LHas _ _ _); first | apply LHas.here | apply LHas.next); refine And.intro rfl ?_) | exact KeepL.nil)
    | (show InL _ _; first | exact InL.here | refine InL.next ?_)
    | (show False; (exact T.num))
    | exact Nm.b 0
  all_goals (try dsimp only)
  all_goals (refine RetLN.wr ?_; ((try show LHas _ _ _); repeat (with_reducible show LHas _ _ _); first | apply LHas.here | apply LHas.next); refine ⟨_, _, _, _, rfl, (by simp), (by simp), ?_⟩; ((try show LHas _ _ _); repeat (with_reducible show LHas _ _ _); first | apply LHas.here | apply LHas.next); refine And.intro ?_ ?_; (focus (first | exact rfl | (simp [iAV]; done))); ((try show LHas _ _ _); repeat (with_reducible show LHas _ _ _); first | apply LHas.here | apply LHas.next); (first | exact rfl | (simp [iAV]; done)))
/-- The call of put. -/
theorem LCall.put {w : Nm} {a b : Int} {l : LS} {K : AV → LS → Prop} (h : LHas l w fun c _ r => ∃ (p1 p2 : Nm) (n m : Nat), c = ⟨57, [.vw p1 0 n 1, .vw p2 0 m 1]⟩ ∧ LHas r p1 fun c1 _ r1 => LHas r1 p2 fun c2 _ r2 => ∃ ws vs : List Int, c1 = ⟨3, ws.map iAV⟩ ∧ c2 = ⟨3, vs.map iAV⟩ ∧ n = ws.length ∧ m = vs.length ∧
    (0 < ws.length ∧ ws.length ≤ 200 ∧ 0 < vs.length ∧ vs.length ≤ 200) ∧ ∀ x y, K (.tup []) (wrPl w x y (ws ++ [a]) (vs ++ [b]) ++ r2)) : LCall Try.prog G 28 [.ptr w 0, .int .i64 a, .int .i64 b] l K := by
  obtain ⟨l1, c, l2, rfl, p1, p2, n, m, rfl, ha⟩ := h.ex
  obtain ⟨l3, c1, l4, e1, hb⟩ := ha.ex
  obtain ⟨l5, c2, l6, e2, ws, vs, rfl, rfl, rfl, rfl, ⟨k1, k2, k3, k4⟩, hc⟩ := hb.ex
  refine LCall.mkN (put1_c w p1 p2 ws vs a b k1 k2 k3 k4) [] (LFs.refl _) ?_
  exact ⟨l1, _, l2, rfl, rfl, ⟨l3, _, l4, e1, rfl, ⟨l5, _, l6, e2, rfl, LFreshN.two hc⟩⟩⟩
def stW (h : Hd) : List Int := [8, 32, 32, 16, 16] ++ (if h.k = 2 then [32] else [])
def stV (h : Hd) : List Int := [h.k, h.fr, h.to, h.fp, h.tp] ++ (if h.k = 2 then [h.sr] else [])
theorem wstatic_c (w p1 p2 : Nm) (ws vs : List Int) (x : Hd) (h1 : 0 < ws.length) (h2 : ws.length ≤ 100) (h3 : 0 < vs.length) (h4 : vs.length ≤ 100) : LSpecN Try.prog G 31 [.ptr w 0, x.av] (wrPl w p1 p2 ws vs) 2 (fun q => (.tup [], wrPl w (q0 q) (q1 q) (ws ++ stW x) (vs ++ stV x))) := by
  refine LSpecN.introL tyOk Try.func31 rfl (by kernel_rfl) (by simp) (fun qs hq => by obtain ⟨x, y, rfl⟩ : ∃ x y, qs = [x, y] := (match qs, hq with | [x, y], _ => ⟨x, y, rfl⟩); exact ⟨by simp, by intro h1 h2; simp at h1 h2 ⊢; simp_all [eq_comm]⟩) ?_
  refine AWpL.sound tyOk [] _ _ _ _ ?_
  conv => whnf
  repeat' first
    | (show LCall _ _ _ _ _ _; refine LCall.put ?_; ((try show LHas _ _ _); repeat (with_reducible show LHas _ _ _); first | apply LHas.here | apply LHas.next); refine ⟨_, _, _, _, rfl, ?_⟩; ((try show LHas _ _ _); repeat (with_reducible show LHas _ _ _); first | apply LHas.here | apply LHas.next); ((try show LHas _ _ _); repeat (with_reducible show LHas _ _ _); first | apply LHas.here | apply LHas.next); refine ⟨_, _, rfl, rfl, rfl, rfl, ?_, fun r r2 => ?_⟩; (focus (first | omega | (simp; omega) | (simp; done))); conv => whnf)
    | (show LHas _ _ _; ((try show LHas _ _ _); repeat (with_reducible show LHas _ _ _); first | apply LHas.here | apply LHas.next); conv => whnf)
    | ((first | (with_reducible refine And.intro ?_ ?_) | refine And.intro ?_ ?_); (focus (first | exact T.side)); conv => whnf)
    | (show ABr _ _ _; first | (refine ABr.tt ?_; conv => whnf) | (refine ABr.ff ?_; conv => whnf) | (refine ABr.byN ?_) | ((with_reducible refine ABr.eqlT (by assumption) ?_); conv => whnf) | ((with_reducible refine ABr.eqlF (by assumption) ?_); conv => whnf) | ((with_reducible refine ABr.eql (fun h => ?_) (fun h => ?_)) <;> first | (exfalso; omega) | conv => whnf) | (refine ABr.byT (by with_reducible assumption) ?_; conv => whnf) | (refine ABr.byF (by with_reducible assumption) ?_; conv => whnf) | ((with_reducible refine ABr.decT rfl ?_); conv => whnf) | ((with_reducible refine ABr.decT (by assumption) ?_); conv => whnf) | ((with_reducible refine ABr.decF (by assumption) ?_); conv => whnf) | (refine ABr.dec (fun h => ?_) (fun h => ?_) <;> first | (exfalso; omega) | conv => whnf) | (refine ABr.gen (fun h => ?_) (fun h => ?_) <;> conv => whnf))
    | (show ACell _ _ _; first | (refine ACell.cell 0 ?_ ?_; (focus (first | exact T.side)); conv => whnf) | (refine ACell.mk ?_; conv => whnf))
    | (show AList _ _; first | (refine AList.app ?_ ?_; (focus (first | exact T.side)); conv => whnf) | (refine AList.set (x := b8 _) (bAV_b8 _).symm ?_ ?_; (focus (first | exact T.side)); conv => whnf) | (refine AList.set (f := iAV) rfl ?_ ?_; (focus (first | exact T.side)); conv => whnf) | (refine AList.part ?_; conv => whnf) | (refine AList.force ?_; (conv => whnf); refine Lit.mk ?_; conv => whnf) | (refine AList.full ?_ ?_; (focus (first | exact Nat.le_of_ble_eq_true rfl | (simp; done) | (simp; omega))); conv => whnf) | (refine AList.mk ?_; conv => whnf))
    | (refine LFresh.mk fun r => ?_; conv => whnf)
    | (show KeepL _ _ _; first | (with_reducible exact KeepL.refl) | (refine KeepL.cons ?_; ((try show LHas _ _ _); repeat (with_reducible show LHas _ _ _); first | apply LHas.here | apply LHas.next); ((try show LHas _ _ _); repeat (with_reducible show LHas _ _ _); first | apply LHas.here | apply LHas.next); refine And.intro rfl ?_) | exact KeepL.nil)
    | (show InL _ _; first | exact InL.here | refine InL.next ?_)
    | (show False; (exact T.num))
  all_goals (try dsimp only)
  all_goals
    refine RetLN.wr ?_
    ((try show LHas _ _ _); repeat (with_reducible show LHas _ _ _); first | apply LHas.here | apply LHas.next)
    refine ⟨_, _, _, _, rfl, (by simp [stW, h]), (by simp [stV, h]), ?_⟩
    ((try show LHas _ _ _); repeat (with_reducible show LHas _ _ _); first | apply LHas.here | apply LHas.next)
    refine And.intro (by simp [stW, h, iAV]) ?_
    ((try show LHas _ _ _); repeat (with_reducible show LHas _ _ _); first | apply LHas.here | apply LHas.next)
    simp [stV, h, iAV]
def someM (x : Int) : Int := if 1 < x then 1 else x
theorem some_c (x : Int) : LSpec Try.prog G 60 [iAV x] [] (fun _ => (iAV (someM x), [])) := by
  refine LSpec.introL tyOk Try.func60 rfl (by kernel_rfl) (by simp) (fun q => ⟨by simp, by simp⟩) ?_
  refine AWpL.sound tyOk [] _ _ _ _ ?_
  conv => whnf
  repeat' first
    | (show LHas _ _ _; ((try show LHas _ _ _); repeat (with_reducible show LHas _ _ _); first | apply LHas.here | apply LHas.next); conv => whnf)
    | ((first | (with_reducible refine And.intro ?_ ?_) | refine And.intro ?_ ?_); (focus (first | exact T.side)); conv => whnf)
    | (show ABr _ _ _; first | (refine ABr.tt ?_; conv => whnf) | (refine ABr.ff ?_; conv => whnf) | (refine ABr.byN ?_) | (refine ABr.byT (by with_reducible assumption) ?_; conv => whnf) | (refine ABr.byF (by with_reducible assumption) ?_; conv => whnf) | ((with_reducible refine ABr.decT rfl ?_); conv => whnf) | ((with_reducible refine ABr.decT (by assumption) ?_); conv => whnf) | ((with_reducible refine ABr.decF (by assumption) ?_); conv => whnf) | (refine ABr.dec (fun h => ?_) (fun h => ?_) <;> first | (exfalso; omega) | conv => whnf) | (refine ABr.gen (fun h => ?_) (fun h => ?_) <;> conv => whnf))
    | (show ACell _ _ _; first | (refine ACell.cell 0 ?_ ?_; (focus (first | exact T.side)); conv => whnf) | (refine ACell.mk ?_; conv => whnf))
    | (show AList _ _; first | (refine AList.app ?_ ?_; (focus (first | exact T.side)); conv => whnf) | (refine AList.set (x := b8 _) (bAV_b8 _).symm ?_ ?_; (focus (first | exact T.side)); conv => whnf) | (refine AList.set (f := iAV) rfl ?_ ?_; (focus (first | exact T.side)); conv => whnf) | (refine AList.part ?_; conv => whnf) | (refine AList.force ?_; (conv => whnf); refine Lit.mk ?_; conv => whnf) | (refine AList.full ?_ ?_; (focus (first | exact Nat.le_of_ble_eq_true rfl | (simp; done) | (simp; omega))); conv => whnf) | (refine AList.mk ?_; conv => whnf))
    | (refine LFresh.mk fun r => ?_; conv => whnf)
    | (show KeepL _ _ _; first | (with_reducible exact KeepL.refl) | (refine KeepL.cons ?_; ((try show LHas _ _ _); repeat (with_reducible show LHas _ _ _); first | apply LHas.here | apply LHas.next); ((try show LHas _ _ _); repeat (with_reducible show LHas _ _ _); first | apply LHas.here | apply LHas.next); refine And.intro rfl ?_) | exact KeepL.nil)
    | (show InL _ _; first | exact InL.here | refine InL.next ?_)
    | (show False; (exact T.num))
  all_goals (try dsimp only)
  (refine RetL.val ?_ ?_; rotate_left; (focus ((repeat' first | exact LSub.nil | (with_reducible exact LSub.refl) | (apply LSub.cons; ((try show LHas _ _ _); repeat (with_reducible show LHas _ _ _); first | apply LHas.here | apply LHas.next); refine And.intro ?_ ?_; (focus (try (first | (with_reducible rfl) | (refine congrArg (Pl.mk _) ?_; (first | rfl | (simp; done))) | rfl | (with_reducible refine congrArg (Pl.mk _) ?_)))))))))
  rfl
def dyW (h : Hd) : List Int := [8, 8, 1, 1, 1, 1, 4] ++ (if h.k = 2 then [8, 16, 16, 32, 16] else [16])
def dyV (h : Hd) (d : Dy) : List Int := [h.tos, h.ttl, h.fx, someM h.ck, d.fo, h.mr, 0] ++ (if h.k = 2 then [h.ty, h.sq, h.id, h.tm, d.st] else [h.id])
set_option maxHeartbeats 1000000 in
theorem wdyn_c (w p1 p2 : Nm) (ws vs : List Int) (x : Hd) (d : Dy) (h1 : 0 < ws.length) (h2 : ws.length ≤ 100) (h3 : 0 < vs.length) (h4 : vs.length ≤ 100) : LSpecN Try.prog G 30 [.ptr w 0, x.av, d.av] (wrPl w p1 p2 ws vs) 2 (fun q => (.tup [], wrPl w (q0 q) (q1 q) (ws ++ dyW x) (vs ++ dyV x d))) := by
  refine LSpecN.introL tyOk Try.func30 rfl (by kernel_rfl) (by simp) (fun qs hq => by obtain ⟨x, y, rfl⟩ : ∃ x y, qs = [x, y] := (match qs, hq with | [x, y], _ => ⟨x, y, rfl⟩); exact ⟨by simp, by intro h1 h2; simp at h1 h2 ⊢; simp_all [eq_comm]⟩) ?_
  refine AWpL.sound tyOk [] _ _ _ _ ?_
  conv => whnf
  repeat' first
    | (show LCall _ _ _ _ _ _; refine LCall.put ?_; ((try show LHas _ _ _); repeat (with_reducible show LHas _ _ _); first | apply LHas.here | apply LHas.next); refine ⟨_, _, _, _, rfl, ?_⟩; ((try show LHas _ _ _); repeat (with_reducible show LHas _ _ _); first | apply LHas.here | apply LHas.next); ((try show LHas _ _ _); repeat (with_reducible show LHas _ _ _); first | apply LHas.here | apply LHas.next); refine ⟨_, _, rfl, rfl, rfl, rfl, ?_, fun r r2 => ?_⟩; (focus (first | omega | (simp; omega) | (simp; done))); conv => whnf)
    | (show LHas _ _ _; ((try show LHas _ _ _); repeat (with_reducible show LHas _ _ _); first | apply LHas.here | apply LHas.next); conv => whnf)
    | ((first | (with_reducible refine And.intro ?_ ?_) | refine And.intro ?_ ?_); (focus (first | exact T.side)); conv => whnf)
    | (show LCall _ _ _ _ _ _; first | (refine LCall.pure (some_c _) ?_; conv => whnf) | (apply LCall.eq; (focus (repeat first | (apply cons_congr; (focus (first | exact sl_bv rfl | exact sl_bv (by first | (simp; done) | (simp; (exact T.num))) | exact rfl))) | exact rfl)); first | (refine LCall.pure (some_c _) ?_; conv => whnf)))
    | (show ABr _ _ _; first | (refine ABr.tt ?_; conv => whnf) | (refine ABr.ff ?_; conv => whnf) | (refine ABr.byN ?_) | ((with_reducible refine ABr.lssT (by assumption) ?_); conv => whnf) | ((with_reducible refine ABr.lssF (by assumption) ?_); conv => whnf) | ((with_reducible refine ABr.lss (fun h => ?_) (fun h => ?_)) <;> first | (exfalso; omega) | conv => whnf) | ((with_reducible refine ABr.eqlT (by assumption) ?_); conv => whnf) | ((with_reducible refine ABr.eqlF (by assumption) ?_); conv => whnf) | ((with_reducible refine ABr.eql (fun h => ?_) (fun h => ?_)) <;> first | (exfalso; omega) | conv => whnf) | (refine ABr.byT (by with_reducible assumption) ?_; conv => whnf) | (refine ABr.byF (by with_reducible assumption) ?_; conv => whnf) | ((with_reducible refine ABr.decT rfl ?_); conv => whnf) | ((with_reducible refine ABr.decT (by assumption) ?_); conv => whnf) | ((with_reducible refine ABr.decF (by assumption) ?_); conv => whnf) | (refine ABr.dec (fun h => ?_) (fun h => ?_) <;> first | (exfalso; omega) | conv => whnf) | (refine ABr.gen (fun h => ?_) (fun h => ?_) <;> conv => whnf))
    | (show ACell _ _ _; first | (refine ACell.cell 0 ?_ ?_; (focus (first | exact T.side)); conv => whnf) | (refine ACell.mk ?_; conv => whnf))
    | (show AList _ _; first | (refine AList.app ?_ ?_; (focus (first | exact T.side)); conv => whnf) | (refine AList.set (x := b8 _) (bAV_b8 _).symm ?_ ?_; (focus (first | exact T.side)); conv => whnf) | (refine AList.set (f := iAV) rfl ?_ ?_; (focus (first | exact T.side)); conv => whnf) | (refine AList.part ?_; conv => whnf) | (refine AList.force ?_; (conv => whnf); refine Lit.mk ?_; conv => whnf) | (refine AList.full ?_ ?_; (focus (first | exact Nat.le_of_ble_eq_true rfl | (simp; done) | (simp; omega))); conv => whnf) | (refine AList.mk ?_; conv => whnf))
    | (refine LFresh.mk fun r => ?_; conv => whnf)
    | (show SWpL _ _ _ _ _ _ _; first | (refine SWpL.times 4 5 (by rfl) ?_; conv => whnf) | (apply SWpL.draw tyOk mixed (id := 3) [[], [0], [], [2], [3, 2], [], [5], [], [7], [1, 0, 4, 3, 2, 6, 5, 8, 7], [9, 1, 0, 4, 3, 2, 6, 5, 8, 7], []] [1, 6, 8, 4] [0, 1, 2, 3, 5, 6, 7, 8, 11, 4, 9, 10] [_, _] (by kernel_rfl); conv => whnf) | (apply SWpL.draw tyOk mixed (id := 3) [[], [0], [], [2], [3, 2], [], [5], [], [7], [1, 0, 4, 3, 2, 6, 5, 8, 7], [9, 1, 0, 4, 3, 2, 6, 5, 8, 7], []] [1, 6, 8, 4] [0, 1, 2, 3, 5, 6, 7, 8, 11, 4, 9, 10] [] (by kernel_rfl); conv => whnf) | (refine AtL.step tyOk [] ?_; conv => whnf))
    | (show KeepL _ _ _; first | (with_reducible exact KeepL.refl) | (refine KeepL.cons ?_; ((try show LHas _ _ _); repeat (with_reducible show LHas _ _ _); first | apply LHas.here | apply LHas.next); ((try show LHas _ _ _); repeat (with_reducible show LHas _ _ _); first | apply LHas.here | apply LHas.next); refine And.intro rfl ?_) | exact KeepL.nil)
    | (show InL _ _; first | exact InL.here | refine InL.next ?_)
    | (show False; (exact T.num))
    | exact Nm.b 0
  all_goals (try dsimp only)
  all_goals
    refine RetLN.wr ?_
    ((try show LHas _ _ _); repeat (with_reducible show LHas _ _ _); first | apply LHas.here | apply LHas.next)
    refine ⟨_, _, _, _, rfl, (by simp [dyW, h]), (by simp [dyV, h]), ?_⟩
    ((try show LHas _ _ _); repeat (with_reducible show LHas _ _ _); first | apply LHas.here | apply LHas.next)
    refine And.intro (by simp [dyW, h, iAV]) ?_
    ((try show LHas _ _ _); repeat (with_reducible show LHas _ _ _); first | apply LHas.here | apply LHas.next)
    simp [dyV, h, iAV]
attribute [irreducible] dyW dyV stW stV
end Go.Proofs.Ytnlpjbedkdhlbaa
