/-
  Contracts of the functions that the laws reach.
-/
import Derived.Test.YtbagbjacmakfhaaDoorCr01
import Derived.Test.YtbagbjacmakfhaaDoorCr02
import Derived.Test.YtbagbjacmakfhaaDoorCr03
import Derived.Test.YtbagbjacmakfhaaDoorCr04
import Derived.Test.YtbagbjacmakfhaaDoorCr05
import Derived.Test.YtbagbjacmakfhaaDoorCr06
import Derived.Test.YtbagbjacmakfhaaDoorCr07
import Derived.Test.YtbagbjacmakfhaaDoorCr08
import Derived.Test.YtbagbjacmakfhaaDoorCr11
import Derived.Test.YtbagbjacmakfhaaDoorCr12
import Derived.Test.YtbagbjacmakfhaaDoorCr13
set_option linter.all false
namespace Go.Proofs.YtbagbjacmakfhaaDoor
open Go.RowKit
variable {G : Nat → AV}
def ownP (h : Hd) (s : Sn) : Bool := s.act && qo s.fst h
def wb : Option Nat → Int
 | some i => i
 | none => -1
def wL (o : Option Nat) : AV := .tup [iAV (wb o), .bool o.isSome]
theorem fld_le {α : Type} {f : α → List AV} {n i j : Nat} {l : List α} (hf : ∀ x, (f x).length = n) (h : (i : Int) < (l.length : Int)) (hj : j < n) : 1 ≤ (List.drop j (List.drop ((i : Int).toNat * n) (l.flatMap f))).length := by
 rw [List.length_drop, List.length_drop, qJ hf, ← Nat.sub_mul]
 have := Nat.le_mul_of_pos_left n (show 0 < l.length - (i : Int).toNat by omega)
 omega
theorem AC.fld2 {α : Type} {f : α → List AV} {n : Nat} {l : List α} {o m : Nat} {K : AV → Prop} (hf : ∀ x, (f x).length = n) (i j : Nat) (d : α) (v : AV) (ho : o = i * n) (hj : j + m ≤ n) (h : i < l.length) (hv : mkv false (((f (l.getD i d)).drop j).take m) = v) (k : K v) : AC false ((List.drop j (List.drop o (l.flatMap f))).take m) K := by
 rw [List.drop_drop, ho]
 exact AC.fld hf i j d v rfl hj h hv k
theorem xP {l : List Hd} (h : 0 < l.length) : 15 ≤ (List.drop (Int.toNat 0 * 15) (l.flatMap Hd.cs)).length := xt (i := 0) Hd.cs_len (by omega)
attribute [local irreducible] qo
theorem fndV_e (o : Option Nat) : AV.tup [.int .i64 (wb o), .bool (ql .geq (wb o) 0)] = wL o := by
 cases o with
 | none => rfl
 | some j => simp [wL, wb, ql, iAV]
end Go.Proofs.YtbagbjacmakfhaaDoor
