/-
  Layer 6: what the statement on chains calls: padded bytes as a block of their own, the first numbers, a block. Conditions: those written in each theorem.
-/
import Derived.Test.YtmclklhnbmkheaaDoorLawBlake5
namespace Go.Proofs.YtmclklhnbmkheaaDoor
open Go Go.RowKit
set_option maxRecDepth 100000
set_option linter.unusedVariables false
set_option linter.unusedSimpArgs false

theorem padded_new (l : List Byte) (p : Option Addr) (c : Nat) (s : Int) (w : World) (h : RdB w p l) (hl : l.length ≤ 140737488355328) (h0 : -9223372036854775808 ≤ s) (h1 : s ≤ 2147483648) :
    Calls Tryd.prog 11 #[.slice p l.length c, .int .i64 s] w fun e w' => ∃ g, e = .returned (.slice (some ⟨g, 0, none⟩) (pad l s).length (pad l s).length) ∧ w.heap.size ≤ g ∧ Row w' g 5 ((pad l s).map v8) ∧ Ext w w' := by
  have hr := roomN_lt l.length s
  have hx : Ext w (w.alloc (.cells ((zeros (l.length + roomN l.length s)).map v8).toArray 5)) := (Ext.refl w).alloc _
  have hrow := row_new w 5 ((zeros (l.length + roomN l.length s)).map v8)
  have hbb := h.ext hx
  go_enter Tryd.func11, Tryd.ntmps11
  go_wp2_with (first | (go_at_call 17; refine (room_any l.length s _ (by omega) h0 (by omega)).mono ?_; rintro e w' ⟨rfl, rfl⟩) | (with_reducible show wpList _ _ _ _ _ _; refine make_b (l.length + roomN l.length s) rfl rfl rfl rfl (by omega) (by omega) (by omega) ?_) | (with_reducible show wpList _ _ _ _ _ _; refine wpl_copy (over_pad' l s) rfl rfl rfl rfl rfl rfl (by kernel_rfl) hrow (by simp [zeros_length]) hbb ?_))
  go_ret
  refine ⟨w.heap.size, ?_, Nat.le_refl _, row_setRow hrow _, ext_setRow hx _ _ (Nat.le_refl _)⟩
  simp [pad]

/-- The first i bytes of a block, and noughts behind. -/
def blkF (b : List Byte) (i : Nat) : List Byte := tab 128 fun k => if k < i then nth b k else 0#8
theorem blkF_length (b : List Byte) (i : Nat) : (blkF b i).length = 128 := tab_length
theorem blkF_zero (b : List Byte) : blkF b 0 = zer 128 := nth_ext (by rw [blkF_length, zer_length]) fun i hi => by
  rw [blkF_length] at hi
  rw [blkF, nth_tab hi, zer, nth_tab hi]; simp
theorem blkF_step (b : List Byte) (i : Nat) (hi : i < 128) : setN (blkF b i) i (nth b i) = blkF b (i + 1) := nth_ext (by rw [setN_length, blkF_length, blkF_length]) fun k hk => by
  rw [setN_length, blkF_length] at hk
  rw [nth_set (by rw [blkF_length]; exact hk), blkF, blkF, nth_tab hk, nth_tab hk]
  by_cases e : i = k
  · subst e; rw [if_pos rfl, if_pos (by omega)]
  · rw [if_neg e]
    by_cases h : k < i
    · rw [if_pos h, if_pos (by omega)]
    · rw [if_neg h, if_neg (by omega)]
theorem blkF_all (b : List Byte) (hb : b.length ≤ 128) : blkF b b.length = blkN b := nth_ext (by rw [blkF_length, blkN_length]) fun k hk => by
  rw [blkF_length] at hk
  have e := gb_blkN b hb (k : Int)
  simp only [gb, Int.natCast_nonneg, if_true, Int.toNat_natCast, ge_iff_le] at e
  rw [blkF, nth_tab hk]
  show _ = (blkN b).getD k 0
  rw [e]
  by_cases h : k < b.length
  · rw [if_pos h]; rfl
  · rw [if_neg h]
    exact (nth_ge (l := b) (by omega)).symm
theorem mL_blkF (b : List Byte) (hb : b.length ≤ 128) : mL (blkF b b.length) = mL b := by rw [blkF_all b hb, mL_blkN b hb]
/-- A byte of the sum. -/
theorem outL_nth (h : List (BitVec 64)) (i : Nat) (hi : i < 8 * h.length) : nth (outL h) i = (nth h (i / 8) >>> (8 * (i % 8))).setWidth 8 := by
  induction h generalizing i with
  | nil => simp at hi
  | cons x h ih =>
    have e : outL (x :: h) = putL x 8 ++ outL h := by simp [outL]
    rw [e]
    by_cases h8 : i < 8
    · have e1 : nth (putL x 8 ++ outL h) i = nth (putL x 8) i := by
        simp only [nth, List.getD_eq_getElem?_getD]
        rw [List.getElem?_append_left (by rw [putL_length]; exact h8)]
      rw [e1, show i / 8 = 0 by omega, show i % 8 = i by omega]
      show nth (putL x 8) i = _
      simp [putL, nth, h8]
    · have e1 : nth (putL x 8 ++ outL h) i = nth (outL h) (i - 8) := by
        simp only [nth, List.getD_eq_getElem?_getD]
        rw [List.getElem?_append_right (by rw [putL_length]; omega), putL_length]
      rw [e1, ih (i - 8) (by simp at hi; omega), show i / 8 = (i - 8) / 8 + 1 by omega, show (i - 8) % 8 = i % 8 by omega]
      rfl

end Go.Proofs.YtmclklhnbmkheaaDoor
