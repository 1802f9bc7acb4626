import Derived.Test.YtnlpjbedkdhlbaaMade2
namespace Go.Proofs.Ytnlpjbedkdhlbaa
open Go.RowKit
set_option linter.all false
variable {G : Nat → AV}
/-- made.Some: the bytes, the place behind them. -/
def someR (t : List Int) (a : Nat) (most : Int) : List UInt8 := b8 (nextR t a 256) :: bytesL t (adv t a 2) (manyR t (adv t a 1) (iarith .sub .i64 most 1))
def someA (t : List Int) (a : Nat) (most : Int) : Nat := adv t (adv t a 2) (manyR t (adv t a 1) (iarith .sub .i64 most 1))
def oddR (t : List Int) (a : Nat) (k : Ky) : Ky :=
  if nextR t a 5 = 0 then { k with s := k.s.take (nextR t (adv t a 1) 32).toNat }
  else if nextR t a 5 = 1 then { k with g := k.g ++ [1] }
  else if nextR t a 5 = 2 then { k with n := [-1, 4294967296, 4294967295].getD (nextR t (adv t a 1) 3).toNat 0 }
  else if nextR t a 5 = 3 then { k with b := [-1, 255, 256].getD (nextR t (adv t a 1) 3).toNat 0 }
  else { k with d := iarith .sub .i64 (nextR t (adv t a 1) 4) 1 }
def oddA (t : List Int) (a : Nat) : Nat := if nextR t a 5 = 1 then adv t a 1 else adv t a 2
end Go.Proofs.Ytnlpjbedkdhlbaa
