import Derived.Test.YtnlpjbedkdhlbaaMade2
namespace Go.Proofs.Ytnlpjbedkdhlbaa
open Go.RowKit
set_option linter.all false
variable {G : Nat → AV}
def bitsOk (b : Int) : Bool := decide (5 ≤ b ∧ b ≤ 9)
def countOk (n : Int) : Bool := decide (0 ≤ n ∧ n < 1048576)
def Ky.ok (k : Ky) : Bool := decide (k.s.length = 32 ∧ k.g.length = 16 ∧ 0 ≤ k.n ∧ k.n ≤ 4294967295 ∧ 0 ≤ k.b ∧ k.b ≤ 255 ∧ (k.d = 0 ∨ k.d = 1))
attribute [irreducible] Ky.ok bitsOk countOk
end Go.Proofs.Ytnlpjbedkdhlbaa
