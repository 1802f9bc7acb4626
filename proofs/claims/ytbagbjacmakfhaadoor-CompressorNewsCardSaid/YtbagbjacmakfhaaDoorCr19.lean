/-
  Contracts of the functions that the laws reach.
-/
import Derived.Test.YtbagbjacmakfhaaDoorCr01
import Derived.Test.YtbagbjacmakfhaaDoorCr02
import Derived.Test.YtbagbjacmakfhaaDoorCr03
import Derived.Test.YtbagbjacmakfhaaDoorCr04
import Derived.Test.YtbagbjacmakfhaaDoorCr05
import Derived.Test.YtbagbjacmakfhaaDoorCr06
import Derived.Test.YtbagbjacmakfhaaDoorCr07
import Derived.Test.YtbagbjacmakfhaaDoorCr08
import Derived.Test.YtbagbjacmakfhaaDoorCr11
import Derived.Test.YtbagbjacmakfhaaDoorCr12
import Derived.Test.YtbagbjacmakfhaaDoorCr16
import Derived.Test.YtbagbjacmakfhaaDoorCr17
import Derived.Test.YtbagbjacmakfhaaDoorCr18
set_option linter.all false
namespace Go.Proofs.YtbagbjacmakfhaaDoor
open Go.RowKit
variable {G : Nat → AV}
theorem n0_e (x y : Nm) : n0 [x, y] = x := rfl
theorem n1_e (x y : Nm) : n1 [x, y] = y := rfl
section
variable {m w : Int} {x y u v s : Sn} {bg bh had : Bool} {X Y : Sn × Bool} {U : Sn} {last h : Hd} {rf : List Hd} {f : Int}
theorem leastF_3 (h3 : zd u h f) (h4 : f ≤ 3) : f = 1 ∨ f = 2 ∨ f = 3 := by have := h3.1; omega
theorem ke (h3 : zd u h f) : qc .add .i64 f 1 = f + 1 := by have h1 := h3.1; have h2 := h3.2.1; clear h3; (exact T.num)
theorem kd (h3 : zd u h f) : (5 - (f + 1)).toNat < (5 - f).toNat := by have h1 := h3.1; have h2 := h3.2.1; omega
end
theorem jC {a : Int} (h : 0 ≤ a ∧ a ≤ 32) : (if false = true then (if qc .add .i64 a 1 < 32 then 32 else qc .add .i64 a 1) else if 32 < qc .add .i64 a 1 then 32 else qc .add .i64 a 1) = min (a + 1) 32 := by
 have e : qc .add .i64 a 1 = a + 1 := by (exact T.num)
 rw [e, if_neg (by decide)]
 split <;> omega
theorem ye {a : Int} (h : 0 ≤ a ∧ a ≤ 3) : (if false = true then (if qc .add .i64 a 1 < 3 then 3 else qc .add .i64 a 1) else if 3 < qc .add .i64 a 1 then 3 else qc .add .i64 a 1) = min (a + 1) 3 := by
 have e : qc .add .i64 a 1 = a + 1 := by (exact T.num)
 rw [e, if_neg (by decide)]
 split <;> omega
theorem rf_side (l : List Hd) : 0 + l.length * 15 ≤ (l.flatMap Hd.cs).length := by rw [qJ Hd.cs_len]; omega
theorem rf_app (l : List Hd) (h : Hd) {n : Nat} (hn : n = l.length * 15) : List.take n (List.drop 0 (l.flatMap Hd.cs)) ++ h.cs = (l ++ [h]).flatMap Hd.cs := by
 rw [List.drop_zero, List.take_of_length_le (by rw [qJ Hd.cs_len]; omega), List.flatMap_append]
 simp
section
variable {l : List Hd} {h : Hd} {X : Int} {k : Nat}
theorem over_n (hX : X = (k : Int)) : ((l.length + 1 : Nat) : Int).toNat - X.toNat = ((l ++ [h]).drop k).length := by subst hX; simp
theorem max0 {a b e : Int} (h : qc .sub .i64 a b = e) : (if true = true then (if 0 < qc .sub .i64 a b then qc .sub .i64 a b else 0) else (if qc .sub .i64 a b < 0 then qc .sub .i64 a b else 0)) = max 0 e := by
 rw [h, if_pos rfl]
 split <;> omega
theorem ser_e {a b e : Int} (h : 0 ≤ a ∧ a ≤ 1000) (hb : b = e) (he : 0 ≤ e ∧ e ≤ 1000) : qc .sub .i64 a b = a - e := by subst hb; (exact T.num)
end
section
variable {m w : Int} {v : Sn} {h : Hd} {f : Int}
theorem csF_n (hc : ¬ (m ≠ 3 ∧ w < (v.rf.length : Int) + 1)) : csF m w h v f = { vu m h v f with rf := v.rf ++ [h] } := by unfold csF vu; rw [if_neg hc, if_neg hc]
theorem csF_o (hc : m ≠ 3 ∧ w < (v.rf.length : Int) + 1) : csF m w h v f = { vu m h v f with ser := max 0 (v.ser - ((v.rf.length : Int) + 1 - w)), rf := (v.rf ++ [h]).drop ((v.rf.length : Int) + 1 - w).toNat } := by unfold csF vu; rw [if_pos hc, if_pos hc]
end
section
variable {P : Program} {G : Nat → AV}
theorem LP.data {f : FuncId} {args : List AV} {v : Nm → AV} {c : Nm → Pl} {v' : AV} (h : LP P G f args [] (fun q => (v q, [(q, c q)]))) (hf : ∀ q, LF [(q, c q)] [q] (v q) v') : LP P G f args [] (fun _ => (v', [])) := by
 unfold LP at h ⊢
 refine ⟨h.1, fun q => ⟨by simp, by simp⟩, fun τ w vs h1 h2 h3 h4 h5 => (h.2.2 τ w vs h1 h2 h3 h4 h5).mono ?_⟩
 rintro e w' ⟨u, q, k1, k2, k3, k4, k5, k6⟩
 have hs : Sep τ [(q, c q)] := ⟨by simp, fun x hx => by simp at hx; subst hx; exact k2⟩
 have hz := (hf q).run τ hs
 have e1 : eraN (pQ τ [(q, c q)]) [q] = τ := by
   funext y
   show era (Go.Proofs.YtbagbjacmakfhaaDoor.upd τ q (c q)) q y = τ y
   by_cases hy : y = q
   · subst hy; rw [qG]; exact k2.symm
   · rw [qM _ hy, qg _ _ hy]
 have k4 : Rd (pQ τ [(q, c q)]) w' (v q) u := k4
 have k5 : Mem (pQ τ [(q, c q)]) w' := k5
 have k6 : Stp τ w (pQ τ [(q, c q)]) w' := k6
 have a1 := hz.sound k5 k4
 have a2 := k5.forget (zN (pQ τ [(q, c q)]) [q])
 have a3 := k6.trans (Stp.forget _ (eraN (pQ τ [(q, c q)]) [q]) w' fun b hb => qy _ [q] hb)
 rw [e1] at a1 a2 a3
 exact ⟨u, q, k1, k2, by simp, a1, a2, a3⟩
end
def fA (m : Int) (v : Sn) (f : Int) : Sn := { v with full := if m ≠ 3 ∧ f = 5 then v.full - 1 else v.full, refr := if m ≠ 3 ∧ f = 4 then v.refr - 1 else v.refr }
theorem fA_5 {m : Int} {v : Sn} {f : Int} (hm : ¬ m = 3) (h : f = 5) : ({ v with full := v.full - 1 } : Sn) = fA m v f := by unfold fA; rw [if_pos ⟨hm, h⟩, if_neg (by omega)]
theorem fA_4 {m : Int} {v : Sn} {f : Int} (hm : ¬ m = 3) (h : f = 4) : ({ v with refr := v.refr - 1 } : Sn) = fA m v f := by unfold fA; rw [if_neg (by omega), if_pos ⟨hm, h⟩]
theorem fA_0 {m : Int} {v : Sn} {f : Int} (h5 : ¬ (m ≠ 3 ∧ f = 5)) (h4 : ¬ (m ≠ 3 ∧ f = 4)) : v = fA m v f := by unfold fA; rw [if_neg h5, if_neg h4]
theorem F1_dy {m : Int} {h : Hd} {v : Sn} {f : Int} : (vu m h v f).dy = v.dy ∧ (vu m h v f).ser = v.ser ∧ (vu m h v f).rf = v.rf := ⟨rfl, rfl, rfl⟩
end Go.Proofs.YtbagbjacmakfhaaDoor
