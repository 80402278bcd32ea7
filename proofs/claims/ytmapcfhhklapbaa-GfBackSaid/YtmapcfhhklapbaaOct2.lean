/-
  Layer 1: blocks and numbers of 128 bits. Conditions: rows are shorter than 2^47, as each argument is.
-/
import Derived.Test.YtmapcfhhklapbaaOct1
namespace Go.Proofs.Ytmapcfhhklapbaa
open Go Go.RowKit
set_option maxRecDepth 100000

/-- A number of 128 bits as a value. -/
abbrev WV (lo hi : BitVec 64) : Value := .agg #[v64 lo, v64 hi]

@[local go_sem] theorem build_wide (a b : BitVec 64) (w : World) : (Instr.build 30 #[(0, v64 a), (1, v64 b)]).run Try.prog w = .ok (WV a b) w := by kernel_rfl

set_option maxHeartbeats 400000 in
theorem wide_any (l : List Byte) (hl : l.length = 16) (w : World) :
    Gives Try.prog 26 #[A8 l] w (WV (num l 0 8) (num l 8 8)) := by
  unfold Gives
  obtain ⟨W2, hW2⟩ : ∃ W2, W2 = (w.alloc (Obj.cells (List.map v8 l).toArray 34)).alloc (Obj.cells #[Value.int IntKind.u64 0, Value.int IntKind.u64 0] 30) := ⟨_, rfl⟩
  have hrow : Row W2 w.heap.size 34 (l.map v8) := by rw [hW2]; exact row_alloc (row_new _ _ _) _
  have hres : Row W2 (w.heap.size + 1) 30 [.int .u64 0, .int .u64 0] := by rw [hW2]; exact heap_alloc2_new _ _ _
  have hext : Ext w W2 := by rw [hW2]; exact ((Ext.refl w).alloc _).alloc _
  have HW2 := Lib.hid hW2
  clear hW2
  go_enter Try.func26, Try.ntmps26
  go_wp2
  rw [← HW2.out]
  clear HW2
  have hb : RdB W2 (some ⟨w.heap.size, 0, none⟩) l := RdB.of_row hrow
  refine region_at 5 (fun w' => Ext W2 w') 8 (by kernel_rfl) (by kernel_rfl) rfl (fun _ _ h k => h.trans k) (drew_ext _) ?_
  simp only [List.take_succ_cons, List.take_zero, List.drop_succ_cons, List.drop_zero, List.map_cons, List.map_nil]
  repeat (first
      | (apply walk_is rfl rfl rfl
         · (intro wx hwx; first | ((with_reducible show gives _ _ _ (Sem.run _ (execOp _ (Oper.mk _ (Op.load _ _) _ _ _ _)) _)); first | ((with_reducible apply gq_ldv (hm.ext hwx)); infer_instance; (exact rfl); (focus ((repeat (first | exact .hd | assumption | apply Has.tl)); done)); (focus (first | omega | (simp; omega) | (refine Nat.lt_of_lt_of_le (BitVec.isLt _) ?_; first | omega | (simp; done) | (simp; omega) | fail) | fail))) | ((with_reducible apply gq_ldW (hm.ext hwx)); infer_instance; (exact rfl); (focus ((repeat (first | exact .hd | assumption | apply Has.tl)); done)); (focus (first | rfl | omega | (simp; done) | (simp; omega) | fail))) | ((with_reducible apply gq_ld1 (hm.ext hwx)); infer_instance; (exact rfl); (focus ((repeat (first | exact .hd | assumption | apply Has.tl)); done)); (exact rfl)) | fail) | (go_simp; (try go_bits); first | exact gives_same | exact gives_skip | exact gives_call (hl ▸ number8 l _ 16 _ wx (hb.ext hwx) (by omega) (by omega) (by omega))))
         · (simp only [Act.put, List.setIfInBounds_toArray, List.set_cons_succ, List.set_cons_zero]; rfl))
      | (apply walk_not rfl rfl rfl
         · (simp only [Act.put, List.setIfInBounds_toArray, List.set_cons_succ, List.set_cons_zero]; rfl)))
  intro wz hwz
  simp only [List.zip_cons_cons, List.zip_nil_right]
  repeat (first | rw [fin_is] | (rw [fin_cons]; intro _ _))
  rw [fin_nil]
  try (replace hm := hm.ext hwz)
  simp only [Act.put, List.setIfInBounds_toArray, List.set_cons_succ, List.set_cons_zero]
  refine wpl_store_row (cs := [v64 (num l 0 8), v64 (num l 8 8)]) rfl rfl rfl rfl (row_ext hres hwz) rfl (by kernel_rfl) (by simp [one64]) ?_
  go_wp2
  refine ret_row rfl rfl (row_setRow (row_ext hres hwz) _) rfl rfl (by kernel_rfl) rfl ⟨rfl, ?_⟩
  exact ext_setRow (hext.trans hwz) _ _ (by omega)

set_option maxHeartbeats 400000 in
theorem load_any (l : List Byte) (p : Option Addr) (c : Nat) (w : World) (h : RdB w p l) (hl : l.length ≤ 140737488355328) :
    Gives Try.prog 22 #[.slice p l.length c] w (WV (num l 0 8) (num l 8 8)) := by
  unfold Gives
  have h1 : Ext w (w.alloc (.cells [Value.int .u64 0, .int .u64 0].toArray 30)) := (Ext.refl w).alloc _
  go_enter Try.func22, Try.ntmps22
  go_wp2_with fail
  refine (long_any l p c 0 _ (h.ext h1) hl (by omega) (by omega)).mono ?_
  rintro e w1 ⟨rfl, hx1⟩
  go_wp2_with fail
  refine (long_any l p c 8 _ (h.ext (h1.trans hx1)) hl (by omega) (by omega)).mono ?_
  rintro e w2 ⟨rfl, hx2⟩
  have hres := row_ext (row_ext (row_new w 30 [Value.int .u64 0, .int .u64 0]) hx1) hx2
  go_wp2_with (with_reducible show wpList _ _ _ _ _ _; refine wpl_store_row (cs := [v64 (num l 0 8), v64 (num l 8 8)]) rfl rfl rfl rfl hres rfl (by kernel_rfl) (by simp [one64]) ?_)
  refine ret_row rfl rfl (row_setRow hres _) rfl rfl (by kernel_rfl) rfl ⟨rfl, ?_⟩
  exact ext_setRow (h1.trans (hx1.trans hx2)) _ _ (by omega)

/-- Sixteen bytes, noughts where there are none. -/
def blk (l : List Byte) : List Byte := (List.range 16).map fun (i : Nat) => gb l i
def blkTo (l : List Byte) (k : Nat) : List Byte := (List.range 16).map fun (i : Nat) => if i < k then gb l i else 0
theorem blk_length (l : List Byte) : (blk l).length = 16 := by simp [blk]
theorem blkTo_length (l : List Byte) (k : Nat) : (blkTo l k).length = 16 := by simp [blkTo]
theorem blkTo_zero (l : List Byte) : blkTo l 0 = List.replicate 16 0 := by simp [blkTo, List.range_succ_eq_map]
theorem blkTo_all (l : List Byte) : blkTo l 16 = blk l := by
  unfold blkTo blk
  apply List.map_congr_left
  intro i hi; rw [if_pos (by simpa using hi)]
theorem blkTo_set (l : List Byte) (k : Nat) : (blkTo l k).set k (gb l k) = blkTo l (k + 1) := by
  apply List.ext_getElem
  · simp [blkTo]
  · intro i h1 h2
    simp [blkTo] at h1 h2
    simp only [List.getElem_set, blkTo, List.getElem_map, List.getElem_range]
    by_cases e : k = i
    · subst e; simp
    · rw [if_neg e]; congr 1; rw [eq_iff_iff]; omega

theorem zeros16 : (#[Value.int .u8 0, Value.int .u8 0, Value.int .u8 0, Value.int .u8 0, Value.int .u8 0, Value.int .u8 0, Value.int .u8 0, Value.int .u8 0, Value.int .u8 0, Value.int .u8 0, Value.int .u8 0, Value.int .u8 0, Value.int .u8 0, Value.int .u8 0, Value.int .u8 0, Value.int .u8 0] : Array Value) = ((List.replicate 16 (0 : Byte)).map v8).toArray := rfl

set_option maxHeartbeats 400000 in
theorem rblock_any (l : List Byte) (p : Option Addr) (c : Nat) (w : World) (h : RdB w p l) (hl : l.length ≤ 140737488355328) :
    Gives Try.prog 24 #[.slice p l.length c] w (A8 (blk l)) := by
  unfold Gives
  go_enter Try.func24, Try.ntmps24
  go_wp2
  rw [zeros16]
  go_loopw [4] (fun i wr => ∃ k : Nat, k ≤ 16 ∧ i = .int .i64 k ∧ Row wr (w.heap.size + 1) 34 ((blkTo l k).map v8) ∧ Row wr w.heap.size 34 ((List.replicate 16 (0 : Byte)).map v8) ∧ Ext w wr) (fun i _ => 16 - (intOf i).toNat)
  case atStart => exact ⟨0, Nat.zero_le _, rfl, by rw [blkTo_zero]; exact heap_alloc2_new _ _ _, heap_alloc2_old _ _ _, ((Ext.refl w).alloc _).alloc _⟩
  case round =>
    obtain ⟨k, hk, rfl, hr1, hr0, hx⟩ := hrel
    by_cases hlt : k < 16
    · have hc := row_v8 hr1 k (by simp [blkTo, hlt])
      have hf := row_free hr1 k
      have hlb := h.ext hx
      go_wp2_with (go_at_call 60; refine (at_any l p c _ _ _ hlb hl (by omega) (by omega) (by omega) (by omega)).mono ?_; rintro e w' ⟨rfl, rfl⟩)
      go_roundw
      case rel =>
        refine ⟨k + 1, by omega, by go_num, ?_, row_other hr0 _ _ (by simp), ext_setCell hx _ _ (by simp)⟩
        have := row_set hr1 k (v8 (gb l k))
        rw [← List.map_set, blkTo_set] at this
        simpa using this
      case measure => simp [intOf] <;> omega
    · obtain rfl : k = 16 := by omega
      rw [blkTo_all] at hr1
      go_wp2_with (first | (with_reducible show wpList _ _ _ _ _ _; refine wpl_load_row rfl rfl rfl hr1 rfl rfl (by kernel_rfl) ?_) | (with_reducible show wpList _ _ _ _ _ _; refine wpl_store_row (cs := (blk l).map v8) rfl rfl rfl rfl hr0 (by simp [blk]) (by kernel_rfl) (one_v8 _) ?_))
      refine ret_row rfl rfl (row_setRow hr0 _) rfl rfl (by kernel_rfl) rfl ⟨rfl, ?_⟩
      exact ext_setRow hx _ _ (by omega)

theorem over_blk (l : List Byte) : over (List.replicate 16 0) 0 (l.take 16) = blk l := by
  apply List.ext_getElem
  · rw [over_length _ _ _ (by simp; omega), blk_length]; simp
  · intro i h1 h2
    have hi : i < 16 := by rw [blk_length] at h2; exact h2
    simp only [over, List.take_zero, List.nil_append, Nat.zero_add, blk, List.getElem_map, List.getElem_range, gb_in, List.getD_eq_getElem?_getD]
    by_cases h : i < l.length
    · rw [List.getElem_append_left (by simp; omega)]
      simp [h]
    · rw [List.getElem_append_right (by simp; omega)]
      simp only [List.getElem_drop, List.getElem_replicate, List.getElem?_eq_none (show l.length ≤ i by omega), Option.getD_none]

set_option maxHeartbeats 400000 in
theorem oblock_any (l : List Byte) (p : Option Addr) (c : Nat) (w : World) (h : RdB w p l) :
    Gives Try.prog 27 #[.slice p l.length c] w (A8 (blk l)) := by
  unfold Gives
  have hz : Ext w ((w.alloc (.cells #[Value.int IntKind.u8 0, Value.int IntKind.u8 0, Value.int IntKind.u8 0, Value.int IntKind.u8 0, Value.int IntKind.u8 0, Value.int IntKind.u8 0, Value.int IntKind.u8 0, Value.int IntKind.u8 0, Value.int IntKind.u8 0, Value.int IntKind.u8 0, Value.int IntKind.u8 0, Value.int IntKind.u8 0, Value.int IntKind.u8 0, Value.int IntKind.u8 0, Value.int IntKind.u8 0, Value.int IntKind.u8 0] 34)).alloc (.cells #[Value.int IntKind.u8 0, Value.int IntKind.u8 0, Value.int IntKind.u8 0, Value.int IntKind.u8 0, Value.int IntKind.u8 0, Value.int IntKind.u8 0, Value.int IntKind.u8 0, Value.int IntKind.u8 0, Value.int IntKind.u8 0, Value.int IntKind.u8 0, Value.int IntKind.u8 0, Value.int IntKind.u8 0, Value.int IntKind.u8 0, Value.int IntKind.u8 0, Value.int IntKind.u8 0, Value.int IntKind.u8 0] 34)) := ((Ext.refl w).alloc _).alloc _
  have hr1 : Row ((w.alloc (.cells #[Value.int IntKind.u8 0, Value.int IntKind.u8 0, Value.int IntKind.u8 0, Value.int IntKind.u8 0, Value.int IntKind.u8 0, Value.int IntKind.u8 0, Value.int IntKind.u8 0, Value.int IntKind.u8 0, Value.int IntKind.u8 0, Value.int IntKind.u8 0, Value.int IntKind.u8 0, Value.int IntKind.u8 0, Value.int IntKind.u8 0, Value.int IntKind.u8 0, Value.int IntKind.u8 0, Value.int IntKind.u8 0] 34)).alloc (.cells #[Value.int IntKind.u8 0, Value.int IntKind.u8 0, Value.int IntKind.u8 0, Value.int IntKind.u8 0, Value.int IntKind.u8 0, Value.int IntKind.u8 0, Value.int IntKind.u8 0, Value.int IntKind.u8 0, Value.int IntKind.u8 0, Value.int IntKind.u8 0, Value.int IntKind.u8 0, Value.int IntKind.u8 0, Value.int IntKind.u8 0, Value.int IntKind.u8 0, Value.int IntKind.u8 0, Value.int IntKind.u8 0] 34)) (w.heap.size + 1) 34 ((List.replicate 16 (0 : Byte)).map v8) := heap_alloc2_new _ _ _
  have hr0 : Row ((w.alloc (.cells #[Value.int IntKind.u8 0, Value.int IntKind.u8 0, Value.int IntKind.u8 0, Value.int IntKind.u8 0, Value.int IntKind.u8 0, Value.int IntKind.u8 0, Value.int IntKind.u8 0, Value.int IntKind.u8 0, Value.int IntKind.u8 0, Value.int IntKind.u8 0, Value.int IntKind.u8 0, Value.int IntKind.u8 0, Value.int IntKind.u8 0, Value.int IntKind.u8 0, Value.int IntKind.u8 0, Value.int IntKind.u8 0] 34)).alloc (.cells #[Value.int IntKind.u8 0, Value.int IntKind.u8 0, Value.int IntKind.u8 0, Value.int IntKind.u8 0, Value.int IntKind.u8 0, Value.int IntKind.u8 0, Value.int IntKind.u8 0, Value.int IntKind.u8 0, Value.int IntKind.u8 0, Value.int IntKind.u8 0, Value.int IntKind.u8 0, Value.int IntKind.u8 0, Value.int IntKind.u8 0, Value.int IntKind.u8 0, Value.int IntKind.u8 0, Value.int IntKind.u8 0] 34)) w.heap.size 34 ((List.replicate 16 (0 : Byte)).map v8) := heap_alloc2_old _ _ _
  have hb := h.ext hz
  have hr1' := row_setRow hr1 ((blk l).map v8)
  have hr0' := row_setRow_other hr0 ((blk l).map v8).toArray (show w.heap.size ≠ w.heap.size + 1 by omega)
  have hz' := ext_setRow hz (w.heap.size + 1) ((blk l).map v8).toArray (by omega)
  go_enter Try.func27, Try.ntmps27
  go_wp2_with (first | (with_reducible show wpList _ _ _ _ _ _; refine wpl_copy (over_blk l) rfl rfl rfl rfl rfl rfl (by kernel_rfl) hr1 (by simp) hb ?_) | (with_reducible show wpList _ _ _ _ _ _; refine wpl_load_row rfl rfl rfl hr1' rfl rfl (by kernel_rfl) ?_) | (with_reducible show wpList _ _ _ _ _ _; refine wpl_store_row rfl rfl rfl rfl hr0' (by simp [blk_length]) (by kernel_rfl) (one_v8 _) ?_))
  refine ret_row rfl rfl (row_setRow hr0' _) rfl rfl (by kernel_rfl) rfl ⟨rfl, ?_⟩
  exact ext_setRow hz' _ _ (by omega)

end Go.Proofs.Ytmapcfhhklapbaa
