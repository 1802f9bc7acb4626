/-
  The abstract machine, eighteenth part: tests, rows that are appended to, numbers as bytes.
-/
import Derived.Test.YtnlpjbedkdhlbaaAm17
import Derived.Test.YtnlpjbedkdhlbaaTy
import Derived.Laws.BitsLemmas
namespace Go.Proofs.Ytnlpjbedkdhlbaa
open Go.RowKit

theorem mixed : Try.prog.follows .mixedOrders = true := by kernel_rfl
section
variable {A B : Prop} {a b : Int}
theorem ABr.lss (x : a < b → A) (y : ¬ a < b → B) : ABr (icmp .lss a b) A B := ⟨fun h => x (by simpa [icmp] using h), fun h => y (by simpa [icmp] using h)⟩
theorem ABr.leq (x : a ≤ b → A) (y : ¬ a ≤ b → B) : ABr (icmp .leq a b) A B := ⟨fun h => x (by simpa [icmp] using h), fun h => y (by simpa [icmp] using h)⟩
theorem ABr.gtr (x : b < a → A) (y : ¬ b < a → B) : ABr (icmp .gtr a b) A B := ⟨fun h => x (by simpa [icmp] using h), fun h => y (by simpa [icmp] using h)⟩
theorem ABr.geq (x : b ≤ a → A) (y : ¬ b ≤ a → B) : ABr (icmp .geq a b) A B := ⟨fun h => x (by simpa [icmp] using h), fun h => y (by simpa [icmp] using h)⟩
theorem ABr.eql (x : a = b → A) (y : ¬ a = b → B) : ABr (icmp .eql a b) A B := ⟨fun h => x (by simpa [icmp] using h), fun h => y (by simpa [icmp] using h)⟩
theorem ABr.neq (x : ¬ a = b → A) (y : a = b → B) : ABr (icmp .neq a b) A B := ⟨fun h => x (by simpa [icmp] using h), fun h => y (by simpa [icmp] using h)⟩
theorem ABr.lssT (h : a < b) (x : A) : ABr (icmp .lss a b) A B := .lss (fun _ => x) fun k => absurd h k
theorem ABr.lssF (h : ¬ a < b) (y : B) : ABr (icmp .lss a b) A B := .lss (fun k => absurd k h) fun _ => y
theorem ABr.leqT (h : a ≤ b) (x : A) : ABr (icmp .leq a b) A B := .leq (fun _ => x) fun k => absurd h k
theorem ABr.leqF (h : ¬ a ≤ b) (y : B) : ABr (icmp .leq a b) A B := .leq (fun k => absurd k h) fun _ => y
theorem ABr.gtrT (h : b < a) (x : A) : ABr (icmp .gtr a b) A B := .gtr (fun _ => x) fun k => absurd h k
theorem ABr.gtrF (h : ¬ b < a) (y : B) : ABr (icmp .gtr a b) A B := .gtr (fun k => absurd k h) fun _ => y
theorem ABr.geqT (h : b ≤ a) (x : A) : ABr (icmp .geq a b) A B := .geq (fun _ => x) fun k => absurd h k
theorem ABr.geqF (h : ¬ b ≤ a) (y : B) : ABr (icmp .geq a b) A B := .geq (fun k => absurd k h) fun _ => y
theorem ABr.eqlT (h : a = b) (x : A) : ABr (icmp .eql a b) A B := .eql (fun _ => x) fun k => absurd h k
theorem ABr.eqlF (h : ¬ a = b) (y : B) : ABr (icmp .eql a b) A B := .eql (fun k => absurd k h) fun _ => y
theorem ABr.neqT (h : ¬ a = b) (x : A) : ABr (icmp .neq a b) A B := .neq (fun _ => x) fun k => absurd k h
theorem ABr.neqF (h : a = b) (y : B) : ABr (icmp .neq a b) A B := .neq (fun k => absurd h k) fun _ => y
theorem ABr.dec {p : Prop} [Decidable p] (x : p → A) (y : ¬ p → B) : ABr (decide p) A B := ⟨fun h => x (by simpa using h), fun h => y (by simpa using h)⟩
theorem ABr.decT {p : Prop} [Decidable p] (h : p) (x : A) : ABr (decide p) A B := .dec (fun _ => x) fun k => absurd h k
theorem ABr.decF {p : Prop} [Decidable p] (h : ¬ p) (y : B) : ABr (decide p) A B := .dec (fun k => absurd k h) fun _ => y
theorem ABr.tt (x : A) : ABr true A B := ⟨fun _ => x, nofun⟩
theorem ABr.ff (y : B) : ABr false A B := ⟨nofun, fun _ => y⟩
theorem ABr.gen {t : Bool} (x : t = true → A) (y : t = false → B) : ABr t A B := ⟨x, y⟩
end
/-- A number as a byte. -/
def b8 (n : Int) : UInt8 := UInt8.ofNat (n % 256).toNat
theorem bAV_b8 (n : Int) : bAV (b8 n) = .int .u8 (IntKind.u8.wrap n) := by
  unfold bAV b8
  congr 1
  rw [IntKind.wrap_u8]
  simp
  omega
theorem b8_toNat (c : UInt8) : b8 (c.toNat : Int) = c := by
  unfold b8
  have := c.toNat_lt
  rw [show ((c.toNat : Int) % 256).toNat = c.toNat by omega]
  simp
/-- A list of bytes, of numbers. -/
def bv (l : List UInt8) : AV := .sl l.length (l.map bAV)
def iAV (n : Int) : AV := .int .i64 n
def iv (l : List Int) : AV := .sl l.length (l.map iAV)
theorem all_iAV (l : List Int) : ((l.map iAV).all AV.one) = true := all_one _ (fun _ => rfl) l
/-- A row is appended to. -/
theorem AList.app {α : Type} {f : α → AV} {l : List α} {m : Nat} {xs : List AV} {K : List AV → Prop} (h : l.length ≤ m) (k : K (l.map f ++ xs)) : AList (List.take m (List.drop 0 (l.map f)) ++ xs) K := ⟨by
  rw [List.drop_zero, List.take_of_length_le (by simpa using h)]; exact k⟩
theorem AList.full {cs : List AV} {m : Nat} {xs : List AV} {K : List AV → Prop} (h : cs.length ≤ m) (k : K (cs ++ xs)) : AList (List.take m (List.drop 0 cs) ++ xs) K := ⟨by
  rw [List.drop_zero, List.take_of_length_le h]; exact k⟩
theorem AList.set {α : Type} {f : α → AV} {l : List α} {i : Nat} {x : α} {v : AV} {K : List AV → Prop} (hv : v = f x) (h : i < l.length) (k : K ((l.set i x).map f)) : AList (splice (l.map f) i [v]) K := ⟨by
  have e : splice (l.map f) i [v] = (l.set i x).map f := by
    subst hv
    unfold splice
    rw [List.set_eq_take_append_cons_drop]
    simp [h, List.map_take, List.map_drop]
  rw [e]; exact k⟩
theorem AList.eq {cs cs' : List AV} {K : List AV → Prop} (h : cs = cs') (k : K cs') : AList cs K := ⟨h ▸ k⟩
theorem ACell.cell {α : Type} {l : List α} {f : α → AV} {o : Nat} {K : AV → Prop} (d : α) (h : o < l.length) (k : K (f (l.getD o d))) : ACell false ((List.drop o (l.map f)).take 1) K := ACell.elem d h k
theorem ACell.idx {α : Type} {l : List α} {f : α → AV} {o : Nat} {K : AV → Prop} (i : Nat) (d : α) (ho : o = i) (h : i < l.length) (k : K (f (l.getD i d))) : ACell false ((List.drop o (l.map f)).take 1) K := by subst ho; exact ACell.elem d h k
theorem vw_congr {p : Nm} {off n n' sz : Nat} (h : n = n') : AV.vw p off n sz = AV.vw p off n' sz := h ▸ rfl
theorem sl_congr {n n' : Nat} {cs cs' : List AV} (h : n = n') (k : cs = cs') : AV.sl n cs = AV.sl n' cs' := h ▸ k ▸ rfl
theorem ACell.eq {agg : Bool} {cs : List AV} {v : AV} {K : AV → Prop} (h : mkv agg cs = v) (k : K v) : ACell agg cs K := ⟨h ▸ k⟩
/-- A slice of a list, from a place on, or of some elements. -/
theorem AList.tailE {α : Type} {f : α → AV} {l : List α} {o' m : Nat} {K : List AV → Prop} (o : Nat) (h1 : o' = o) (h2 : l.length ≤ o + m) (k : K ((l.drop o).map f)) : AList (((l.map f).drop o').take m) K := ⟨by
  subst h1
  rw [← List.map_drop, List.take_of_length_le (by simp; omega)]; exact k⟩
theorem AList.subE {α : Type} {f : α → AV} {l : List α} {o' m' : Nat} {K : List AV → Prop} (o m : Nat) (h1 : o' = o) (h2 : m' = m) (k : K (((l.drop o).take m).map f)) : AList (((l.map f).drop o').take m') K := ⟨by
  subst h1 h2
  rw [← List.map_drop, ← List.map_take]; exact k⟩
theorem AList.headE {α : Type} {f : α → AV} {l : List α} {o' m' : Nat} {K : List AV → Prop} (m : Nat) (h1 : o' = 0) (h2 : m' = m) (k : K ((l.take m).map f)) : AList (((l.map f).drop o').take m') K := ⟨by
  subst h1 h2
  rw [List.drop_zero, ← List.map_take]; exact k⟩
theorem set_idx {α : Type} {f : α → AV} {l : List α} {i j : Nat} {x : α} (h : i = j) : (l.set i x).map f = (l.set j x).map f := h ▸ rfl
theorem lset_lt {α : Type} {l : List α} {i j : Nat} {x : α} (h : i < l.length) : i < (l.set j x).length := by simpa using h
theorem lset_le {α : Type} {l : List α} {i j : Nat} {x : α} (h : i ≤ l.length) : i ≤ (l.set j x).length := by simpa using h
theorem map_le {α : Type} {f : α → AV} {l : List α} {i : Nat} (h : i ≤ l.length) : i ≤ (l.map f).length := by simpa using h
theorem cons_congr {a b : AV} {l m : List AV} (h : a = b) (k : l = m) : a :: l = b :: m := h ▸ k ▸ rfl
theorem sl_bv {n : Nat} {l : List UInt8} (h : n = l.length) : AV.sl n (l.map bAV) = bv l := h ▸ rfl
/-- The end of a function that returns a row of its own as data. -/
theorem RetL.rowF {α : Type} {f : α → AV} {b : List α} {q : Nm} {n : Nat} {l m : LS} (h : LHas l q fun c _ r => c.cs = b.map f ∧ n = b.length ∧ LSub m r) : RetL (fun _ => (.sl b.length (b.map f), m)) (.vw q 0 n 1) l := by
  obtain ⟨l1, c, l2, rfl, h1, rfl, h2⟩ := h.ex
  refine RetL.frz [q] (LF.row InL.here ⟨l1, c, l2, rfl, by decide, by simp [h1], rfl, h1.symm⟩) ?_
  exact ⟨l1, c, l2, rfl, h2⟩
theorem LF.rowF {α : Type} {f : α → AV} {b : List α} {q : Nm} {n : Nat} {l : LS} {F : List Nm} (hq : InL q F) (h : LHas l q fun c _ _ => c.cs = b.map f ∧ n = b.length) : LF l F (.vw q 0 n 1) (.sl b.length (b.map f)) := by
  obtain ⟨l1, c, l2, rfl, h1, rfl⟩ := h.ex
  exact LF.row hq ⟨l1, c, l2, rfl, by decide, by simp [h1], rfl, h1.symm⟩
theorem LF.rowE {F : List Nm} {p : Nm} {n sz : Nat} {ds : List AV} {l : LS} (hF : InL p F) (h : LHas l p fun c _ _ => 0 < sz ∧ c.cs.length = n * sz ∧ ds = c.cs) : LF l F (.vw p 0 n sz) (.sl n ds) :=
  LF.row hF (LHas.mono h fun _ _ _ h => ⟨h.1, h.2.1, rfl, h.2.2⟩)
/-- A row of integers is lent to a call behind a number. -/
def ints : List AV → List Int
  | [] => []
  | .int _ n :: r => n :: ints r
  | _ :: r => ints r
theorem LCall.rowI {P : Program} {G : Nat → AV} {f : FuncId} {a : AV} {R : List Int → AV} {q : Nm} {n : Nat} {l : LS} {K : AV → LS → Prop} (hs : ∀ zs : List Int, zs.length = n → LSpec P G f [a, .sl zs.length (zs.map iAV)] [] fun _ => (R zs, []))
    (h : LHas l q fun c _ rest => (ints c.cs).length = n ∧ (ints c.cs).map iAV = c.cs ∧ K (R (ints c.cs)) rest) : LCall P G f [a, .vw q 0 n 1] l K := by
  obtain ⟨l1, c, l2, rfl, h1, h2, h3⟩ := h.ex
  refine LCall.mk' (hs (ints c.cs) h1) [q] ⟨LF.eq rfl, LF.row InL.here ⟨l1, c, l2, rfl, by decide, by rw [← h2]; simp [h1], h1, h2⟩, trivial⟩ ?_
  exact ⟨l1, c, l2, rfl, ⟨fun _ => h3⟩⟩
/-- Numbers; what else is asked beside a step: the tactics that a walk needs in many places stand here, once. -/
theorem T.num {p : Prop} (h : p := by (first | omega | (simp only [icmp, iarith, IntKind.wrap_i64, IntKind.wrap_u8, IntKind.wrap_u32, IntKind.wrap_u64, decide_eq_true_eq, decide_eq_false_iff_not, beq_iff_eq, bne_iff_ne, beq_eq_false_iff_ne, bne_eq_false_iff_eq, ne_eq, Bool.not_eq_true, List.length_map, List.length_append, List.length_cons, List.length_nil, List.length_range, List.length_take, List.length_drop, List.length_set] at * <;> omega))) : p := h
theorem T.side {p : Prop} (h : p := by first | exact trivial | (show eqOK _ _ = true; kernel_rfl) | exact rfl | exact InL.here | exact InL.next InL.here | (with_reducible exact KeepL.refl) | (show KeepL _ _ _; (repeat (refine KeepL.cons ?_; (repeat (with_reducible show LHas _ _ _); first | apply LHas.here | apply LHas.next); (repeat (with_reducible show LHas _ _ _); first | apply LHas.here | apply LHas.next); refine And.intro rfl ?_)); exact KeepL.nil) | decide | exact Nat.le_of_ble_eq_true rfl | exact T.num | (refine map_le ?_; ((try refine map_le ?_); (repeat first | refine lset_le ?_ | refine lset_lt ?_); first | exact Nat.le_of_ble_eq_true rfl | exact T.num | (simp; done) | (simp; exact T.num))) | exact fun _ _ => rfl | assumption | exact all_bAV _ | exact all_iAV _ | ((repeat first | exact all_bAV _ | exact all_iAV _ | exact all_one _ (fun _ => rfl) _ | refine all_cons rfl ?_ | refine all_app ?_ ?_ | refine all_take _ ?_ | refine all_drop _ ?_ | exact rfl); done) | (intro h; exact absurd rfl h) | (simp; done) | (simp; exact T.num)) : p := h
end Go.Proofs.Ytnlpjbedkdhlbaa
