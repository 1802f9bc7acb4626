/-
  The contract of tag.words: the words into which bytes are divided.
-/
import Derived.Test.YteahbonhdoaibaaTagMid
import Derived.Laws.CopyOwn
namespace Go.Proofs.Yteahbonhdoaibaa
open Go.RowKit

/-- The first k whole words. -/
def fw (l : List UInt8) (k : Nat) : List UInt64 := (List.range k).map fun i => ldw ((l.drop (8 * i)).take 8)
theorem fw_len (l : List UInt8) (k : Nat) : (fw l k).length = k := by simp [fw]
theorem fw_succ (l : List UInt8) (k : Nat) : fw l (k + 1) = fw l k ++ [ldw ((l.drop (8 * k)).take 8)] := by simp [fw, List.range_succ]
/-- The last word: what is left, and the length in the highest byte. -/
def wl (r : List UInt8) (n : Nat) : UInt64 := ldw r ||| shlU (byteOf n).toUInt64 56
/-- The words of bytes. -/
def wds (l : List UInt8) : List UInt64 := fw l (l.length / 8) ++ [wl (l.drop (8 * (l.length / 8))) l.length]
theorem wds_len (l : List UInt8) : (wds l).length = l.length / 8 + 1 := by simp [wds, fw_len]

theorem or_zero (x : UInt64) : x ||| 0 = x := by simp
theorem ldFrom_zeros (n : Nat) : ∀ acc i, ldFrom acc i (List.replicate n 0) = acc := by
  induction n with
  | zero => intro acc i; rfl
  | succ n ih =>
    intro acc i
    rw [List.replicate_succ]
    unfold ldFrom
    rw [ih]
    simp [shlU]
theorem ldFrom_append (l m : List UInt8) : ∀ acc i, ldFrom acc i (l ++ m) = ldFrom (ldFrom acc i l) (i + l.length) m := by
  induction l with
  | nil => intro acc i; simp [ldFrom]
  | cons x l ih => intro acc i; simp only [List.cons_append, ldFrom, ih, List.length_cons]; congr 1; omega
/-- The eight bytes of the last word make it. -/
theorem wl_eq (r : List UInt8) (n : Nat) (h : r.length ≤ 7) : ldw ((r ++ List.replicate (7 - r.length) 0) ++ [byteOf n]) = wl r n := by
  unfold ldw wl
  rw [ldFrom_snoc, ldFrom_append, ldFrom_zeros]
  have : 8 * (0 + (r ++ List.replicate (7 - r.length) 0).length) = 56 := by simp; omega
  rw [this]
  rfl

def slLen : Value → Nat | .slice _ n _ => n | _ => 0
/-- What is cut off behind the first k bytes. -/
theorem Bts.drop {w : World} {l : List UInt8} {b off cap k : Nat} (hk : k ≤ l.length) (h1 : l.length ≤ cap) (h2 : cap ≤ 9223372036854775807)
    (h : ∀ i, i < l.length → w.cell? ⟨b, off + i, none⟩ = some (.int .u8 (B (l.getD i 0)))) :
    Bts w (.slice (some ⟨b, off + k, none⟩) (l.length - k) (cap - k)) (l.drop k) := by
  have e : l.length - k = (l.drop k).length := by simp
  rw [e]
  refine Bts.mk (by simp; omega) (by omega) (fun i hi => ?_)
  have h3 := h (k + i) (by simp at hi; omega)
  rw [Nat.add_assoc, h3]
  simp [List.getD_eq_getElem?_getD]
theorem Bts.empty {w : World} {b off cap : Nat} (h2 : cap ≤ 9223372036854775807) : Bts w (.slice (some ⟨b, off, none⟩) 0 cap) [] :=
  Bts.mk (l := []) (by simp) h2 (fun i hi => by simp at hi)

/-- The row of the last word: zeros, the bytes laid over them, the length in the last place. -/
theorem last_row {w : World} {g : Nat} {t : TypeId} {r : List UInt8}
    (hr : w.heap[g]? = some (.cells (splice [.int .u8 0, .int .u8 0, .int .u8 0, .int .u8 0, .int .u8 0, .int .u8 0, .int .u8 0, .int .u8 0] 0 (r.map fun c => Value.int .u8 (B c))).toArray t (0, 0))) :
    Row w g t ((r ++ List.replicate (8 - r.length) 0).map fun c => Value.int .u8 (B c)) := by
  refine ⟨?_⟩
  rw [hr]
  congr 3
  unfold splice
  rw [show ([.int .u8 0, .int .u8 0, .int .u8 0, .int .u8 0, .int .u8 0, .int .u8 0, .int .u8 0, .int .u8 0] : List Value) = List.replicate 8 (.int .u8 (B 0)) from rfl]
  rw [List.drop_replicate, List.map_append, List.map_replicate, List.length_map, Nat.zero_add]
  rfl
theorem last_set (r : List UInt8) (x : UInt8) (h : r.length ≤ 7) : ((r ++ List.replicate (8 - r.length) 0).map fun c => Value.int .u8 (B c)).set 7 (.int .u8 (B x)) = ((r ++ List.replicate (7 - r.length) 0) ++ [x]).map fun c => Value.int .u8 (B c) := by
  rw [show 8 - r.length = (7 - r.length) + 1 by omega, List.replicate_succ', ← List.append_assoc, List.map_append, List.map_append (l₁ := r ++ _)]
  rw [List.set_append_right _ _ (by simp; omega)]
  simp
  rw [show 7 - (r.length + (7 - r.length)) = 0 by omega]
  rfl

set_option maxHeartbeats 1000000 in
theorem words_any (v : Value) (l : List UInt8) (w : World) (hl : l.length ≤ 1000000) (hb : Bts w v l) :
    Calls Try.prog 15 #[v] w fun e w' => ∃ v', e = .returned v' ∧ w'.ownsRow w.heap.size 40 1 v' (wds l).length ((wds l).map fun x => Value.int .u64 (U x)) ∧ Below w.heap.size w w' := by
  obtain ⟨i0, hi, hz0, hz1, hz2⟩ := info_parts (P := Try.prog) (e := 40) (z := .int .u64 0) (size := 1) (bytes := 8) (by kernel_rfl)
  obtain ⟨a0, cap0, rfl, -⟩ := hb.len
  have H0 := Lib.hid hb; clear hb
  go_enter Try.func15, Try.ntmps15
  go_wp2
  go_loopw [3, 4] (fun o r wr => ∃ k : Nat, 8 * k ≤ l.length ∧ wr.ownsRow w.heap.size 40 1 o k ((fw l k).map fun x => Value.int .u64 (U x)) ∧ Bts w r (l.drop (8 * k)) ∧ Below w.heap.size w wr) (fun _ r _ => slLen r)
  case atStart => exact ⟨0, by omega, World.ownsRow_nil _ _ _ _, H0.out, Below.refl _ _⟩
  case round =>
    obtain ⟨k, hk, hown, hr, hbel⟩ := hrel
    have HO := Lib.hid hown; clear hown
    have HB := Lib.hid hbel; clear hbel
    generalize hdr : l.drop (8 * k) = r at hr
    have hrl : r.length + 8 * k = l.length := by rw [← hdr]; simp; omega
    have HDR := Lib.hid hdr; clear hdr
    have HRL := Lib.hid hrl; clear hrl
    by_cases hlt : 8 ≤ r.length
    · rcases hr with ⟨rfl, rfl⟩ | ⟨b, off, cap, rfl, h1, h2, h3⟩
      · simp at hlt
      have g8 : 8 ≤ cap := by omega
      have HL := Lib.hid (load_any b off cap r wr hlt h1 (by
        have hx := (Bts.mk h1 h2 h3).below HB.out
        rcases hx with ⟨hx, _⟩ | ⟨b', off', cap', hx, _, _, hx3⟩
        · simp at hx
        · simp at hx; obtain ⟨⟨rfl, rfl⟩, rfl⟩ := hx; exact hx3))
      have H3 := Lib.hid h3; clear h3
      have hbd := HRL.out
      go_wp2_with (first
        | (go_at_call 21; refine HL.out.mono ?_; rintro e w' ⟨rfl, rfl⟩)
        | (at_builtin; refine wpList_app1 _ rfl _ _ 38 rfl w.heap.size 40 i0 (.int .u64 0) 8 Try.underlying38 hi hz0 hz1 hz2 rfl _ _ _ rfl (HO.out.alloc _) wr.heap.size (.int .u64 (U (ldw (r.take 8)))) rfl (new_cell _ _ _) rfl ?c3 ?c4 ?c5 ?_))
      case c3 => unfold maxLen; omega
      case c4 => omega
      case c5 => have := HB.out.size; simp; omega
      intro v' w1 hown1 hg1
      have hb1 := below_app HB.out (Nat.le_refl _) HO.out hg1
      rw [← HDR.out, ← List.map_singleton (f := fun x => Value.int .u64 (U x)), ← List.map_append, ← fw_succ] at hown1
      have HO1 := Lib.hid hown1; clear hown1
      have HB1 := Lib.hid hb1; clear hb1 hg1 HO HB
      by_cases hc8 : cap = 8
      · subst hc8
        obtain hr8 : r.length = 8 := by omega
        go_wp2
        go_roundw
        case rel => exact ⟨k + 1, by omega, HO1.out, by
          rw [show 8 * (k + 1) = 8 * k + 8 by omega, ← List.drop_drop, HDR.out, List.drop_of_length_le (by omega)]
          have := Bts.empty (w := w) (b := b) (off := off) (cap := 0) (by omega)
          simpa [hr8] using this, HB1.out⟩
        case measure => simp [slLen]; omega
      · go_wp2
        go_roundw
        case rel => exact ⟨k + 1, by omega, HO1.out, by
          rw [show 8 * (k + 1) = 8 * k + 8 by omega, ← List.drop_drop, HDR.out]
          exact Bts.drop hlt h1 h2 H3.out, HB1.out⟩
        case measure => simp [slLen]; omega
    · obtain ⟨ra, rcap, rfl, -⟩ := hr.len
      have HR := Lib.hid hr; clear hr
      go_wp2_with (with_reducible refine wpList_copy_splice rfl (.tmp 17) (.tmp 18) 22 22 rfl 5 Try.underlying22 (by kernel_rfl) (some ⟨wr.heap.size, 0, none⟩) ra 8 8 r.length rcap rfl rfl wr.heap.size 0 [.int .u8 0, .int .u8 0, .int .u8 0, .int .u8 0, .int .u8 0, .int .u8 0, .int .u8 0, .int .u8 0] 50 (heap_alloc_new wr _) (r.map fun c => Value.int .u8 (B c)) ?c1 ?c2 ?c3 ?c4 wr.heap.size wr ?c5 ?c6 ?_)
      case c1 => simp; show r.length = min r.length 8; omega
      case c2 =>
        intro hp
        have := ((HR.out.below HB.out).alloc (.cells #[Value.int IntKind.u8 0, Value.int IntKind.u8 0, Value.int IntKind.u8 0, Value.int IntKind.u8 0, Value.int IntKind.u8 0, Value.int IntKind.u8 0, Value.int IntKind.u8 0, Value.int IntKind.u8 0] 50)).src (by simpa using hp)
        first | exact ⟨rfl, this⟩ | exact this
      case c3 => simp; omega
      case c4 => intro v hv; simp at hv; obtain ⟨c, _, rfl⟩ := hv; rfl
      case c5 => exact (Below.refl _ _).alloc (Nat.le_refl _) _
      case c6 => exact Nat.le_refl _
      intro w1 hrow hb1
      have hr1 := last_row hrow.out
      clear hrow
      have c7 := hr1.cell 7
      have f7 := hr1.frz 7
      have e7 := mapB_get (r ++ List.replicate (8 - r.length) 0) 7 (by simp; omega)
      rw [e7] at c7
      generalize (r ++ List.replicate (8 - r.length) 0).getD 7 0 = c at c7
      clear e7
      have hr2 := hr1.set 7 (.int .u8 (B (byteOf (l.length : Int))))
      rw [last_set r _ (by omega)] at hr2
      have hlen8 : (((r ++ List.replicate (7 - r.length) 0) ++ [byteOf (l.length : Int)])).length = 8 := by simp; omega
      have HL2 := load_any wr.heap.size 0 8 ((r ++ List.replicate (7 - r.length) 0) ++ [byteOf (l.length : Int)]) (w1.setCell ⟨wr.heap.size, 7, none⟩ (.int .u8 (B (byteOf (l.length : Int))))) (by omega) (by omega) (fun i hi => by rw [Nat.zero_add, hr2.cell]; exact mapB_get _ i hi)
      rw [List.take_of_length_le (by omega), wl_eq r _ (by omega), hlen8] at HL2
      have hb2 : Below wr.heap.size wr (w1.setCell ⟨wr.heap.size, 7, none⟩ (.int .u8 (B (byteOf (l.length : Int))))) := hb1.setCell (by simp) _
      have ho2 := own_below HO.out hb2
      have hb3 := HB.out.trans (hb2.mono HB.out.size)
      have r1 := B_of
      have hsz := hb2.size
      have HX := Lib.hid HL2; clear HL2
      have H2 := Lib.hid ho2; clear ho2
      have H3 := Lib.hid hb3; clear hb3
      have hbd := HRL.out
      clear hr2 hr1 hb1 hb2 hlen8 HO HB H0
      go_wp2_with (fail)
      refine HX.out.mono ?_
      rintro e w' ⟨rfl, rfl⟩
      clear HX
      generalize (w1.setCell ⟨wr.heap.size, 7, none⟩ (.int .u8 (B (byteOf (l.length : Int))))) = w2 at *
      go_wp2_with (at_builtin; refine wpList_app1 _ rfl _ _ 38 rfl w.heap.size 40 i0 (.int .u64 0) 8 Try.underlying38 hi hz0 hz1 hz2 rfl _ _ _ rfl (H2.out.alloc _) w2.heap.size (.int .u64 (U (wl r l.length))) rfl (new_cell _ _ _) rfl ?d3 ?d4 ?d5 ?_)
      case d3 => unfold maxLen; omega
      case d4 => omega
      case d5 => have := H3.out.size; simp at this ⊢; omega
      intro v' w3 hown2 hg2
      have hb4 := below_app H3.out (Nat.le_refl _) H2.out hg2
      have hk8 : l.length / 8 = k := by omega
      have hfin : fw l k ++ [wl r l.length] = wds l := by unfold wds; rw [hk8, HDR.out]
      rw [← List.map_singleton (f := fun x => Value.int .u64 (U x)), ← List.map_append, hfin] at hown2
      have hn : k + 1 = (wds l).length := by rw [wds_len, hk8]
      rw [hn] at hown2
      have HO4 := Lib.hid hown2; clear hown2
      have HB4 := Lib.hid hb4; clear hb4 hg2 hfin hn hk8
      go_wp2_with (fail)
      go_ret
      exact ⟨_, rfl, HO4.out, HB4.out⟩
end Go.Proofs.Yteahbonhdoaibaa
