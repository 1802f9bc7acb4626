/-
  Plain functions: what the tunnel's functions compute.
-/
import Derived.Test.YtmfifkkmbkcibaaMsgRep
namespace Go.Proofs.Ytmfifkkmbkcibaa
set_option linter.unusedVariables false

/-- The messages are in order, from a tick on. -/
def okm (last : Int) : List Msg → Bool
  | [] => true
  | m :: r => if m.arr < last ∨ 2097152 < m.arr then false else okm m.arr r
def chk (delay : Int) (xs : List Msg) : Int :=
  if delay < 0 ∨ 1000 < delay then 3 else if 256 < xs.length then 2 else if okm 0 xs then 0 else 4
def bgn (delay : Int) (xs : List Msg) (tick : Int) : Int :=
  if chk delay xs = 0 then (if tick < 0 ∨ 1048576 < tick then 3 else 0) else chk delay xs
/-- When a message comes that is put. -/
def due (delay : Int) (xs : List Msg) (tick : Int) : Int :=
  match xs.getLast? with
  | none => tick + delay
  | some m => max (tick + delay) m.arr
def put (delay : Int) (xs : List Msg) (m : Msg) (tick : Int) : List Msg × Int :=
  if bgn delay xs tick = 0 then (if xs.length = 256 then (xs, 13) else (xs ++ [{ m with arr := due delay xs tick }], 0)) else (xs, bgn delay xs tick)
def upto (tick : Int) (xs : List Msg) : Nat := (xs.takeWhile fun m => decide (m.arr ≤ tick)).length
def take (delay : Int) (xs : List Msg) (tick : Int) : List Msg × List Msg × Int :=
  if bgn delay xs tick = 0 then (xs.drop (upto tick xs), xs.take (upto tick xs), 0) else (xs, [], bgn delay xs tick)

theorem okm_rng : ∀ (xs : List Msg) (last : Int), okm last xs = true → ∀ m ∈ xs, last ≤ m.arr ∧ m.arr ≤ 2097152
  | [], last, h, m, hm => by simp at hm
  | x :: xs, last, h, m, hm => by
    unfold okm at h
    split at h
    · simp at h
    · rename_i hc
      rcases List.mem_cons.1 hm with rfl | hm
      · omega
      · have := okm_rng xs x.arr h m hm; omega
theorem upto_le (tick : Int) (xs : List Msg) : upto tick xs ≤ xs.length := by
  unfold upto; exact (List.takeWhile_sublist _).length_le
end Go.Proofs.Ytmfifkkmbkcibaa
