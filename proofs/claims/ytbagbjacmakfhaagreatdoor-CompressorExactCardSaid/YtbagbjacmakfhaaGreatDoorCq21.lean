/-
  Contracts of the functions that the laws reach.
-/
import Derived.Test.YtbagbjacmakfhaaGreatDoorCq01
import Derived.Test.YtbagbjacmakfhaaGreatDoorCq02
import Derived.Test.YtbagbjacmakfhaaGreatDoorCq03
import Derived.Test.YtbagbjacmakfhaaGreatDoorCq04
import Derived.Test.YtbagbjacmakfhaaGreatDoorCq05
import Derived.Test.YtbagbjacmakfhaaGreatDoorCq06
import Derived.Test.YtbagbjacmakfhaaGreatDoorCq08
import Derived.Test.YtbagbjacmakfhaaGreatDoorCq09
import Derived.Test.YtbagbjacmakfhaaGreatDoorCq13
import Derived.Test.YtbagbjacmakfhaaGreatDoorCq14
import Derived.Test.YtbagbjacmakfhaaGreatDoorCq15
import Derived.Test.YtbagbjacmakfhaaGreatDoorCq18
import Derived.Test.YtbagbjacmakfhaaGreatDoorCq19
set_option linter.all false
namespace Go.Proofs.YtbagbjacmakfhaaGreatDoor
open Go.RowKit
def rawD (r : List UInt8) : Sm := ⟨0, 6, 0, 0, 0, 0, 0, Hd.z, Dy.z, 0, r⟩
theorem rawD_ok (r : List UInt8) : (rawD r).ok = decide (r.length ≤ 1500) := by
 have : (rawD r).ok = (kV (rawD r) && true) := rfl
 rw [this, Bool.and_true]
 unfold kV
 have h8 : qO (cbR (rawD r).f) (rawD r).ck = true := (zW 8 0).2 (by decide)
 rw [h8, Bool.and_true]
 simp [rawD]
theorem rawD_hd (r : List UInt8) : hdL (rawD r) = [210] := by
 have h1 : ¬ 0 < (rawD r).cx := by show ¬ (0 : Int) < 0; decide
 have h2 : sumL (rawD r) = [] := by
   unfold sumL jp
   rfl
 rw [hdL_s, pre_neg h1, bL6 _ rfl, h2]
 rfl
end Go.Proofs.YtbagbjacmakfhaaGreatDoor
