import Derived.Test.YtnlpjbedkdhlbaaFmt14
import Derived.Test.YtnlpjbedkdhlbaaFmt10
namespace Go.Proofs.Ytnlpjbedkdhlbaa
open Go.RowKit
set_option linter.all false
variable {G : Nat → AV}
@[reducible] def s0 (c f : Int) : Sm := ⟨c, f, 0, 0, 0, 0, 0, ⟨0, 0, 0, 0, 0, 0, 0, 0, 0, 0, 0, 0, 0, 0, 0⟩, ⟨0, 0⟩, 0, []⟩
@[reducible] def wpl (s : Sm) (X : Rdr) : Sm := { s with pl := rL X }
@[reducible] def wud (s : Sm) (n : Int) : Sm := { s with ud := n }
@[reducible] def wck (s : Sm) (n : Int) : Sm := { s with ck := n }
@[reducible] def whc (s : Sm) (n : Int) : Sm := { s with h := { s.h with ck := n } }
/-- The end of decoding: what is left is the payload, and the parts are encoded to the same bytes. -/
def finR (X : Rdr) (s : Sm) (b : List UInt8) : Sm ⊕ Int :=
  if rE X = true then .inr 5 else if encR (wpl s X) = (b, 0) then .inl (wpl s X) else .inr 4
def smallR (ck : Bool) (X : Rdr) (s : Sm) (b : List UInt8) : Sm ⊕ Int :=
  if ck = true then (if rE (rtk 2 X) = true then .inr 5 else if rv 2 X = 0 then .inr 4 else finR (rtk 2 X) (wud s (rv 2 X)) b) else finR X s b
def bigR (X : Rdr) (s : Sm) (fl : Int) (b : List UInt8) : Sm ⊕ Int :=
  if bitR fl 6 = 1 then finR (rtk 2 (rtk 1 X)) (whc (wck s (rv 1 X)) (rv 2 (rtk 1 X))) b else finR (rtk 1 X) (wck s (rv 1 X)) b
def fullR (c : Int) (Y : Rdr) (b : List UInt8) : Sm ⊕ Int :=
  if rE (rtk 1 Y) = true then .inr 5
  else if rv 1 Y = 2 then bigR (dynTX (rtk 4 (stX Y))) (dynT (rtk 4 (stX Y)) (stT Y (s0 c 5))) (dynF (rtk 4 (stX Y))) b
  else if rv 1 Y = 1 then bigR (dynUX (stX Y)) (dynU (stX Y) (stH Y (s0 c 5))) (dynF (stX Y)) b
  else .inr 4
def decB (f c : Int) (X : Rdr) (b : List UInt8) (k : Int) (ck : Bool) : Sm ⊕ Int :=
  if f = 1 then smallR ck (lwX1 X) (lw1 X k (s0 c 1)) b
  else if f = 2 then (if k = 2 then smallR ck (lwX2T X) (lw2T X k (s0 c 2)) b else smallR ck (lwX2U X) (lw2U X k (s0 c 2)) b)
  else if f = 3 then (if k = 2 then smallR ck (lwX3T X) (lw3T X k (s0 c 3)) b else smallR ck (lwX3U X) (lw3U X k (s0 c 3)) b)
  else if f = 4 then (if k = 2 then bigR (dynTX (rtk 1 X)) (dynT (rtk 1 X) (hdk (s0 c 4) k)) (dynF (rtk 1 X)) b else bigR (dynUX (rtk 1 X)) (dynU (rtk 1 X) (hdk (s0 c 4) k)) (dynF (rtk 1 X)) b)
  else if f = 5 then fullR c (rtk 1 X) b
  else finR (rtk 1 X) (s0 c 6) b
def decR (b : List UInt8) (hb : b.length ≤ 140737488355328) (k : Int) (ck : Bool) : Sm ⊕ Int :=
  if (peekR b).2.2 ≠ 0 then .inr (peekR b).2.2
  else if (peekR b).2.1 ≤ 4 ∧ k ≠ 1 ∧ k ≠ 2 then .inr 7
  else decB (peekR b).2.1 (peekR b).1 (if 0 < (peekR b).1 then rtk 1 (rdr b hb) else rdr b hb) b k ck
def zAV : AV := .agg [iAV 0, iAV 0, iAV 0, iAV 0, iAV 0, iAV 0, iAV 0, iAV 0, iAV 0, iAV 0, iAV 0, iAV 0, iAV 0, iAV 0, iAV 0, iAV 0, iAV 0, iAV 0, iAV 0, iAV 0, iAV 0, iAV 0, iAV 0, iAV 0, iAV 0, .nils]
def dsv : Sm ⊕ Int → AV
  | .inl s => s.av
  | .inr _ => zAV
def dse : Sm ⊕ Int → Int
  | .inl _ => 0
  | .inr e => e
def de (x : Sm ⊕ Int) : AV := .tup [dsv x, iAV (dse x)]
theorem rv_end (n : Nat) (X : Rdr) (h : rE (rtk n X) = true) : rv n X = 0 := by
  obtain ⟨_ | l, hl⟩ := X
  · unfold rv; rfl
  · unfold rv
    unfold rE rtk at h
    show (if l.length < n then 0 else beN (l.take n)) = 0
    by_cases hn : l.length < n
    · exact if_pos hn
    · exfalso
      have : tkR n (some l) = some (l.drop n) := if_neg hn
      simp [this] at h
theorem rcs_ok {X : Rdr} (h : rE X = false) : rcs X = [bv (rL X), .bool false] := by
  show [rV X, .bool (rE X)] = _
  rw [rV_some X h, h]
/-- The program's own end for the formats with low bits: without the test of a checksum that is nought. -/
def smallP (ck : Bool) (X : Rdr) (s : Sm) (b : List UInt8) : Sm ⊕ Int :=
  if ck = true then finR (rtk 2 X) (wud s (rv 2 X)) b else finR X s b
theorem fin_e {X : Rdr} {s : Sm} {b : List UInt8} (h : rE X = true) : finR X s b = .inr 5 := if_pos h
theorem fin_k {X : Rdr} {s : Sm} {b : List UInt8} (h : rE X = false) (h2 : (encR (wpl s X)).2 = 0) (h1 : (encR (wpl s X)).1 = b) : finR X s b = .inl (wpl s X) := by
  unfold finR
  rw [if_neg (by rw [h]; decide), if_pos (Prod.ext h1 h2)]
theorem fin_n1 {X : Rdr} {s : Sm} {b : List UInt8} (h : rE X = false) (h1 : ¬ (encR (wpl s X)).1 = b) : finR X s b = .inr 4 := by
  unfold finR
  rw [if_neg (by rw [h]; decide), if_neg (fun e => h1 (congrArg Prod.fst e))]
theorem fin_n2 {X : Rdr} {s : Sm} {b : List UInt8} (h : rE X = false) (h1 : ¬ (encR (wpl s X)).2 = 0) : finR X s b = .inr 4 := by
  unfold finR
  rw [if_neg (by rw [h]; decide), if_neg (fun e => h1 (congrArg Prod.snd e))]
theorem big_t {X : Rdr} {s : Sm} {fl : Int} {b : List UInt8} (h : bitR fl 6 = 1) : bigR X s fl b = finR (rtk 2 (rtk 1 X)) (whc (wck s (rv 1 X)) (rv 2 (rtk 1 X))) b := if_pos h
theorem big_f {X : Rdr} {s : Sm} {fl : Int} {b : List UInt8} (h : ¬ bitR fl 6 = 1) : bigR X s fl b = finR (rtk 1 X) (wck s (rv 1 X)) b := if_neg h
theorem small_e {X : Rdr} {s : Sm} {b : List UInt8} (h : rE (rtk 2 X) = true) : smallR true X s b = .inr 5 := if_pos h
theorem small_0 {X : Rdr} {s : Sm} {b : List UInt8} (h : rE (rtk 2 X) = false) (h0 : rv 2 X = 0) : smallR true X s b = .inr 4 := by
  unfold smallR
  rw [if_pos rfl, if_neg (by rw [h]; decide), if_pos h0]
theorem small_t {X : Rdr} {s : Sm} {b : List UInt8} (h : rE (rtk 2 X) = false) (h0 : ¬ rv 2 X = 0) : smallR true X s b = finR (rtk 2 X) (wud s (rv 2 X)) b := by
  unfold smallR
  rw [if_pos rfl, if_neg (by rw [h]; decide), if_neg h0]
theorem bequal_c (a b : List UInt8) : LSpec Try.prog G 56 [bv a, bv b] [] (fun _ => (.bool (decide (a = b)), [])) := by
  refine LSpec.introL tyOk Try.func56 rfl (by kernel_rfl) (by simp) (fun q => ⟨by simp, by simp⟩) ?_
  refine AWpL.sound tyOk [] _ _ _ _ ?_
  conv => whnf
  repeat' first
    | (show LHas _ _ _; ((try show LHas _ _ _); repeat (with_reducible show LHas _ _ _); first | apply LHas.here | apply LHas.next); conv => whnf)
    | ((first | (with_reducible refine And.intro ?_ ?_) | refine And.intro ?_ ?_); (focus (first | exact T.side)); conv => whnf)
    | (show ABr _ _ _; first | (refine ABr.tt ?_; conv => whnf) | (refine ABr.ff ?_; conv => whnf) | (refine ABr.byN ?_) | ((with_reducible refine ABr.eqlT (by assumption) ?_); conv => whnf) | ((with_reducible refine ABr.eqlF (by assumption) ?_); conv => whnf) | ((with_reducible refine ABr.eql (fun h => ?_) (fun h => ?_)) <;> first | (exfalso; omega) | conv => whnf) | (refine ABr.byT (by with_reducible assumption) ?_; conv => whnf) | (refine ABr.byF (by with_reducible assumption) ?_; conv => whnf) | ((with_reducible refine ABr.decT rfl ?_); conv => whnf) | ((with_reducible refine ABr.decT (by assumption) ?_); conv => whnf) | ((with_reducible refine ABr.decF (by assumption) ?_); conv => whnf) | (refine ABr.dec (fun h => ?_) (fun h => ?_) <;> first | (exfalso; omega) | conv => whnf) | (refine ABr.gen (fun h => ?_) (fun h => ?_) <;> conv => whnf))
    | (show ACell _ _ _; first | (refine ACell.cell 0 ?_ ?_; (focus (first | exact T.side)); conv => whnf) | (refine ACell.mk ?_; conv => whnf))
    | (show AList _ _; first | (refine AList.app ?_ ?_; (focus (first | exact T.side)); conv => whnf) | (refine AList.set (x := b8 _) (bAV_b8 _).symm ?_ ?_; (focus (first | exact T.side)); conv => whnf) | (refine AList.set (f := iAV) rfl ?_ ?_; (focus (first | exact T.side)); conv => whnf) | (refine AList.part ?_; conv => whnf) | (refine AList.force ?_; (conv => whnf); refine Lit.mk ?_; conv => whnf) | (refine AList.full ?_ ?_; (focus (first | exact Nat.le_of_ble_eq_true rfl | (simp; done) | (simp; omega))); conv => whnf) | (refine AList.mk ?_; conv => whnf))
    | (refine LFresh.mk fun r => ?_; conv => whnf)
    | (show KeepL _ _ _; first | (with_reducible exact KeepL.refl) | (refine KeepL.cons ?_; ((try show LHas _ _ _); repeat (with_reducible show LHas _ _ _); first | apply LHas.here | apply LHas.next); ((try show LHas _ _ _); repeat (with_reducible show LHas _ _ _); first | apply LHas.here | apply LHas.next); refine And.intro rfl ?_) | exact KeepL.nil)
    | (show InL _ _; first | exact InL.here | refine InL.next ?_)
    | (show False; (exact T.num))
    | (refine ⟨_, rfl, rfl, ?_⟩; conv => whnf)
  all_goals (try dsimp only)
  (refine RetL.val ?_ ?_; rotate_left; (focus ((repeat' first | exact LSub.nil | (with_reducible exact LSub.refl) | (apply LSub.cons; ((try show LHas _ _ _); repeat (with_reducible show LHas _ _ _); first | apply LHas.here | apply LHas.next); refine And.intro ?_ ?_; (focus (try (first | (with_reducible rfl) | (refine congrArg (Pl.mk _) ?_; (first | rfl | (simp; done))) | rfl | (with_reducible refine congrArg (Pl.mk _) ?_)))))))))
  refine congrArg AV.bool ?_
  rw [ByteArray.toList_eq, ByteArray.toList_eq, Bool.eq_iff_iff]
  simp
theorem fpk {b : List UInt8} {c f e : Int} (h : peekR b = (c, f, e)) : LSpec Try.prog G 21 [bv b] [] (fun _ => (.tup [iAV c, iAV f, iAV e], [])) := by
  have := fpeek_c (G := G) b
  rwa [h] at this
end Go.Proofs.Ytnlpjbedkdhlbaa
