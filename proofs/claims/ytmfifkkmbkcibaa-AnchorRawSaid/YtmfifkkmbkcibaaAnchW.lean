/-
  The example: awake.
-/
import Derived.Test.YtmfifkkmbkcibaaAnchT
namespace Go.Proofs.Ytmfifkkmbkcibaa
set_option linter.unusedVariables false
open Go.RowKit

def m0 : Msg := ⟨0, 1, 0, 0, 0, [], []⟩
def m8 : Msg := ⟨8, 1, 0, 0, 0, [], []⟩
theorem put_ex : put 3 [] m0 5 = ([m8], 0) := by simp [put, bgn, chk, okm, due, m0, m8]
theorem take_ex7 : take 3 [m8] 7 = ([m8], [], 0) := by simp [take, bgn, chk, okm, upto, m8]
theorem take_ex8 : take 3 [m8] 8 = ([], [m8], 0) := by simp [take, bgn, chk, okm, upto, m8]

set_option maxRecDepth 100000 in
set_option maxHeartbeats 4000000 in
theorem awake_any (w : World) :
    Calls Try.prog 6 #[] w fun e w' => e = .returned (.bool true) ∧ Below w.heap.size w w' := by
  have P := put_any 3 5 (.slice none 0 0) [] m0 [.int .i64 0, .int .i64 1, .int .i64 0, .int .i64 0, .int .i64 0, .slice none 0 0, .slice none 0 0] (fun _ => False) w Sl.nil ⟨_, _, rfl, by simp [rng, m0], by simp [rng, m0], by simp [rng, m0], by simp [rng, m0], by simp [rng, m0], Sl.nil, Sl.nil⟩ (by simp) (by simp) (by simp [Msg.fits, m0]) (by simp [rng])
  rw [put_ex] at P
  go_enter Try.func6, Try.ntmps6
  go_wp2_with fail
  refine P.mono ?_
  rintro e w1 ⟨v1, rfl, k1, hb1⟩
  clear P
  obtain ⟨oa, ocap, rfl⟩ := k1.len
  have k1 := (k1.sl (S' := fun _ => True) (fun b hb => trivial) (fun b hb => trivial))
  have hal := (Below.refl w1.heap.size w1).alloc (Nat.le_refl _) (.cells #[.int .i64 3, .slice oa 1 ocap] 27)
  have rt := Row.new w1 27 [.int .i64 3, .slice oa 1 ocap]
  have k1 := k1.below hal
  have hbx := hb1.trans (hal.mono hb1.size)
  have P7 := take_any 3 7 _ [m8] _ _ k1 (by simp) (by simp [Msg.fits, m8])
  rw [take_ex7] at P7
  have HB := Lib.hid hbx; clear hbx hal hb1
  have K1 := Lib.hid k1; clear k1
  have RT := Lib.hid rt; clear rt
  go_wp2_with fail
  refine P7.mono ?_
  rintro e w2 ⟨v7, l7, rfl, k7, j7, hb7⟩
  clear P7
  obtain ⟨a7, c7, rfl, -⟩ := j7.len
  obtain ⟨a7', c7', rfl, -⟩ := k7.len
  have rt := RT.out.below hb7 RT.out.lt
  have k1 := K1.out.below hb7
  have hbx := HB.out.trans (hb7.mono HB.out.size)
  clear HB K1 RT hb7 j7 k7
  generalize w1.alloc _ = W1 at *
  have hal := fun o => (Below.refl w2.heap.size w2).alloc (Nat.le_refl _) o
  have P8 := fun o => take_any 3 8 _ [m8] _ _ (k1.below (hal o)) (by simp) (by simp [Msg.fits, m8])
  simp only [take_ex8] at P8
  have t0 := fun o => (rt.below (hal o) rt.lt).cell 0
  have t1 := fun o => (rt.below (hal o) rt.lt).cell 1
  simp only [List.getElem?_cons_zero, List.getElem?_cons_succ] at t0 t1
  have HB := Lib.hid hbx; clear hbx
  have P8 := Lib.hid P8
  have HAL := Lib.hid hal
  clear rt k1 hal
  go_wp2_with fail
  refine (P8.out _).mono ?_
  rintro e w3 ⟨v8, l8, rfl, k8, j8, hb8⟩
  obtain ⟨a8, c8, rfl, -⟩ := j8.len
  obtain ⟨b, off, c, rfl, -, hrd, hcell⟩ := j8.at 0 (by simp)
  obtain ⟨pd, pt, rfl, -⟩ := hrd
  obtain ⟨a8', c8', rfl, -⟩ := k8.len
  have x0 : w3.cell? ⟨b, off, none⟩ = some (.int .i64 8) := hcell 0 (by decide)
  have x0 : ∀ o, (w3.alloc o).cell? ⟨b, off, none⟩ = some (.int .i64 8) := fun o => by rw [((Below.refl w3.heap.size w3).alloc (Nat.le_refl _) o).cell (p := ⟨b, off, none⟩) (World.block_lt_of_cell? _ _ x0)]; exact x0
  have hbx : Below w.heap.size w w3 := (HB.out.trans ((HAL.out _).mono HB.out.size)).trans (hb8.mono (by have := HB.out.size; simp; omega))
  have HBX := Lib.hid (fun o => hbx.alloc hbx.size o)
  clear hcell hbx HB HAL P8 hb8 j8 k8 t0 t1
  go_wp2_with fail
  refine bodyPost_ret (v := .bool true) (by simp [results, Try.results6, go_sem]) rfl ?_
  exact ⟨rfl, HBX.out _⟩
end Go.Proofs.Ytmfifkkmbkcibaa
