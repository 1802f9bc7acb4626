/-
  Contracts of the functions that the laws reach.
-/
import Derived.Test.YtnmifddidgofaaaGreatDoorDx01
import Derived.Test.YtnmifddidgofaaaGreatDoorDx02
import Derived.Test.YtnmifddidgofaaaGreatDoorDx03
import Derived.Test.YtnmifddidgofaaaGreatDoorDx04
import Derived.Test.YtnmifddidgofaaaGreatDoorDx05
set_option linter.all false
namespace Go.Proofs.YtnmifddidgofaaaGreatDoor
open Go.RowKit
theorem bitsR_ok (t : List Int) (a : Nat) : bitsOk (bitsR t a) = true := by
 have h := nextR_lt t a 4 (by decide) (by decide)
 unfold bitsR
 generalize nextR t a 4 = x at *
 have : x = 0 ∨ x = 1 ∨ x = 2 ∨ x = 3 := by omega
 rcases this with rfl | rfl | rfl | rfl <;> decide +kernel
open Go.RowKit
theorem iadd_in (a b : Int) (h : -9223372036854775808 ≤ a + b) (h2 : a + b < 9223372036854775808) : iarith .add .i64 a b = a + b := by (exact T.num)
end Go.Proofs.YtnmifddidgofaaaGreatDoor
