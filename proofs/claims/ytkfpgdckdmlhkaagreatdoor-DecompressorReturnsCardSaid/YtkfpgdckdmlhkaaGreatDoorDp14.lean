import Derived.Test.YtkfpgdckdmlhkaaGreatDoorDp04
import Derived.Test.YtkfpgdckdmlhkaaGreatDoorDp11
namespace Go.Proofs.YtkfpgdckdmlhkaaGreatDoor
open Go.RowKit
set_option linter.all false
section
variable {P : Program} {T : Tys} {G : Nat → AV} {N : Nat} {e : Env} {l : LS}
structure Halt (G : Nat → AV) (N : Nat) (K : Env → LS → Prop) (e : Env) (l : LS) : Prop where
 run : WksL G N e l K
theorem Halt.go {K : Env → LS → Prop} (h : K e l) : Halt G N K e l := ⟨⟨fun φ hs => ⟨fun σ0 w0 a w hr => ⟨e, _, ⟨l, rfl, hs, h⟩, hr⟩⟩⟩⟩
theorem Halt.frz {K : Env → LS → Prop} {q p : Nm} (t : TypeId) {c0 : Pl} {rest : LS} {cs' : List AV} (h : LH rest p fun c s _ => c.ty = t ∧ LFs ((q, c0) :: rest) [q] c.cs cs' ∧ K e (s ⟨c.ty, cs'⟩)) : Halt G N K e ((q, c0) :: rest) := by
 obtain ⟨l1, c, l2, rfl, -, h1, h2⟩ := h.ex
 refine ⟨⟨fun φ hs => ⟨fun σ0 w0 a w hr => ?_⟩⟩⟩
 have hs1 : Sep φ (l1 ++ (p, c) :: l2) := ⟨(List.nodup_cons.1 hs.nd).2, fun x hx => hs.fr x (List.mem_cons_of_mem _ hx)⟩
 have hfz := (h1.frz hs).all
 have he : eraN (pQ φ ((q, c0) :: (l1 ++ (p, c) :: l2))) [q] = pQ φ (l1 ++ (p, c) :: l2) := Sep.era' (l1 := []) hs
 have hsub : Sub (pQ φ (l1 ++ (p, c) :: l2)) (pQ φ ((q, c0) :: (l1 ++ (p, c) :: l2))) := fun b d hb => eraN_sub _ [q] b d (by rw [he]; exact hb)
 have hr1 := hr.sub hsub
 have hset : pQ φ (l1 ++ (p, ⟨c.ty, cs'⟩) :: l2) = upd (pQ φ (l1 ++ (p, c) :: l2)) p ⟨c.ty, cs'⟩ := (Sep.set' hs1 _).symm
 have hst : Stp (pQ φ (l1 ++ (p, c) :: l2)) w (pQ φ (l1 ++ (p, ⟨c.ty, cs'⟩) :: l2)) w := Stp.forget _ _ w fun b hb => by
   rw [hset, upd_ne]
   · exact hb
   · intro hbp
     subst hbp
     rw [hs1.get] at hb
     cases hb
 have hcs : ∀ {v : Value} (i : Nat), i < c.cs.length → Rd (pQ φ ((q, c0) :: (l1 ++ (p, c) :: l2))) w (c.cs.getD i .any) v → Rd (pQ φ (l1 ++ (p, ⟨c.ty, cs'⟩) :: l2)) w (cs'.getD i .any) v := fun i hi hv => by
   have h3 := (hfz.2 i hi).sound hr.mem hv
   rw [he] at h3
   exact h3.mono hst
 have hp0 : pQ φ ((q, c0) :: (l1 ++ (p, c) :: l2)) p = some c := hsub _ _ hs1.get
 refine ⟨e, _, ⟨_, rfl, hs1.set, h2⟩, hr1.n, hr1.d, fun x => (hr1.env x).mono hst, ⟨fun b d hb => ?_, fun k d hk => ?_, ?_⟩, hr1.st.trans hst, hr1.glob.mono hst⟩
 · rw [hset] at hb
   by_cases hbp : Nm.b b = p
   · subst hbp
     rw [upd_same] at hb; cases hb
     obtain ⟨cur, k1, k2, k3⟩ := hr.mem.pl b c hp0
     have hl : cs'.length = c.cs.length := hfz.1.symm
     exact ⟨cur, k1, by show cs'.length ≤ _; omega, fun i hi => hcs i (by have hi : i < cs'.length := hi; omega) (k3 i (by have hi : i < cs'.length := hi; omega))⟩
   · rw [upd_ne _ _ hbp] at hb
     obtain ⟨cur, k1, k2, k3⟩ := hr1.mem.pl b d hb
     exact ⟨cur, k1, k2, fun i hi => (k3 i hi).mono hst⟩
 · rw [hset] at hk
   by_cases hkp : Nm.v k = p
   · subst hkp
     rw [upd_same] at hk; cases hk
     have hl : cs'.length = c.cs.length := hfz.1.symm
     rw [hr.mem.vl k c hp0] at hl
     exact List.eq_nil_of_length_eq_zero hl
   · rw [upd_ne _ _ hkp] at hk
     exact hr1.mem.vl k d hk
 · rw [hset]; exact fin_upd hr1.mem.fin _ _
theorem LFs.cons {F : List Nm} {x y : AV} {xs ys : List AV} (h : LF l F x y) (k : LFs l F xs ys) : LFs l F (x :: xs) (y :: ys) := ⟨h, k⟩
theorem LFs.nil {F : List Nm} : LFs l F [] [] := trivial
end
open Go.RowKit
variable {G : Nat → AV}
theorem fm1 {c : UInt8} (h : c.toNat < 128) : fmR c = 1 := by
 unfold fmR
 repeat' split
 all_goals omega
theorem fm2 {c : UInt8} (h : ¬ c.toNat < 128 ∧ c.toNat < 192) : fmR c = 2 := by
 unfold fmR
 repeat' split
 all_goals omega
theorem fm3 {c : UInt8} (h : c.toNat = 192 ∨ c.toNat = 193) : fmR c = 3 := by
 unfold fmR
 repeat' split
 all_goals omega
end Go.Proofs.YtkfpgdckdmlhkaaGreatDoor
