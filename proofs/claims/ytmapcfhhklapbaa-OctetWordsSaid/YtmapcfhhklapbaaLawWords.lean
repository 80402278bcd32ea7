/-
  THE STATEMENT OctetWords, PROVED: any bytes, at any place, as numbers and as a block. No conditions.
-/
import Derived.Test.YtmapcfhhklapbaaOct3
namespace Go.Proofs.Ytmapcfhhklapbaa
open Go Go.RowKit

theorem num_blk (l : List Byte) (a : Nat) (m : Nat) (h : a + m ≤ 16) : num (blk l) a m = num l a m := by
  induction m with
  | zero => rfl
  | succ m ih =>
    rw [num, num, ih (by omega)]
    congr 3
    have e : (a : Int) + (m : Int) = ((a + m : Nat) : Int) := by omega
    rw [e, gb_in]
    have hlt : a + m < 16 := by omega
    simp [blk, hlt]
theorem num_blk0 (l : List Byte) : num (blk l) 0 8 = num l 0 8 := num_blk l 0 8 (by omega)
theorem num_blk8 (l : List Byte) : num (blk l) 8 8 = num l 8 8 := num_blk l 8 8 (by omega)

@[local go_sem] theorem conv_64_32' (x : BitVec 64) (w : World) : (convert 26 24 (v64 x)).run Try.prog w = .ok (v32 (x.setWidth 32)) w := conv64_32 x _ _ _ w rfl rfl

set_option maxHeartbeats 1000000 in
theorem words_walk (l : List Byte) (p : Option Addr) (c : Nat) (at_ : Int) (w : World) (h : RdB w p l) (hm : l.length ≤ maxLen) (ha : -9223372036854775808 ≤ at_) (hb : at_ ≤ 9223372036854775807) :
    Calls Try.prog 4 #[.slice p l.length c, .int .i64 at_] w fun e w' => e = .returned (.bool true) ∧ Ext w w' := by
  unfold maxLen at hm
  by_cases h1 : (300 : Int) < l.length
  · clear h
    go_enter Try.func4, Try.ntmps4
    go_wp2
    go_ret
    exact ⟨rfl, Ext.refl w⟩
  go_enter Try.func4, Try.ntmps4
  go_wp2_with fail
  refine (load_any l p c _ h (by omega)).mono ?_
  rintro e w1 ⟨rfl, hx1⟩
  go_wp2_with (with_reducible show wpList _ _ _ _ _ _; refine wpl_store_row (cs := [v64 (num l 0 8), v64 (num l 8 8)]) rfl rfl rfl rfl (row_new w1 30 [.int .u64 0, .int .u64 0]) rfl (by kernel_rfl) (by simp [one64]) ?_)
  have hr5 := row_setRow (row_new w1 30 [.int .u64 0, .int .u64 0]) [v64 (num l 0 8), v64 (num l 8 8)]
  have hx2 := ext_setRow (hx1.alloc (.cells [Value.int .u64 0, .int .u64 0].toArray 30)) w1.heap.size [v64 (num l 0 8), v64 (num l 8 8)].toArray (by have := hx1.size; omega)
  refine (rblock_any l p c _ (h.ext hx2) (by omega)).mono ?_
  rintro e w3 ⟨rfl, hx3⟩
  have hr5' := row_ext hr5 hx3
  have hx3' := hx2.trans hx3
  have hr6 : Row (w3.alloc (.cells #[Value.int IntKind.u8 0, Value.int IntKind.u8 0, Value.int IntKind.u8 0, Value.int IntKind.u8 0, Value.int IntKind.u8 0, Value.int IntKind.u8 0, Value.int IntKind.u8 0, Value.int IntKind.u8 0, Value.int IntKind.u8 0, Value.int IntKind.u8 0, Value.int IntKind.u8 0, Value.int IntKind.u8 0, Value.int IntKind.u8 0, Value.int IntKind.u8 0, Value.int IntKind.u8 0, Value.int IntKind.u8 0] 34)) w3.heap.size 34 ((List.replicate 16 (0 : Byte)).map v8) := row_new w3 _ _
  go_wp2_with (with_reducible show wpList _ _ _ _ _ _; refine wpl_store_row (cs := (blk l).map v8) rfl rfl rfl rfl hr6 (by simp [blk_length]) (by kernel_rfl) (one_v8 _) ?_)
  have hr6' := row_setRow hr6 ((blk l).map v8)
  have hr5'' := row_setRow_other (row_alloc hr5' (.cells #[Value.int IntKind.u8 0, Value.int IntKind.u8 0, Value.int IntKind.u8 0, Value.int IntKind.u8 0, Value.int IntKind.u8 0, Value.int IntKind.u8 0, Value.int IntKind.u8 0, Value.int IntKind.u8 0, Value.int IntKind.u8 0, Value.int IntKind.u8 0, Value.int IntKind.u8 0, Value.int IntKind.u8 0, Value.int IntKind.u8 0, Value.int IntKind.u8 0, Value.int IntKind.u8 0, Value.int IntKind.u8 0] 34)) ((blk l).map v8).toArray (show w1.heap.size ≠ w3.heap.size by have := row_lt hr5'; omega)
  have hx4 := ext_setRow (hx3'.alloc (.cells #[Value.int IntKind.u8 0, Value.int IntKind.u8 0, Value.int IntKind.u8 0, Value.int IntKind.u8 0, Value.int IntKind.u8 0, Value.int IntKind.u8 0, Value.int IntKind.u8 0, Value.int IntKind.u8 0, Value.int IntKind.u8 0, Value.int IntKind.u8 0, Value.int IntKind.u8 0, Value.int IntKind.u8 0, Value.int IntKind.u8 0, Value.int IntKind.u8 0, Value.int IntKind.u8 0, Value.int IntKind.u8 0] 34)) w3.heap.size ((blk l).map v8).toArray hx3'.size
  generalize (w3.alloc (.cells #[Value.int IntKind.u8 0, Value.int IntKind.u8 0, Value.int IntKind.u8 0, Value.int IntKind.u8 0, Value.int IntKind.u8 0, Value.int IntKind.u8 0, Value.int IntKind.u8 0, Value.int IntKind.u8 0, Value.int IntKind.u8 0, Value.int IntKind.u8 0, Value.int IntKind.u8 0, Value.int IntKind.u8 0, Value.int IntKind.u8 0, Value.int IntKind.u8 0, Value.int IntKind.u8 0, Value.int IntKind.u8 0] 34)).setRow w3.heap.size ((blk l).map v8).toArray = W at *
  clear hr6 hr5' hr5
  have hB := h.ext hx4
  have c1 := fun wx (hwx : Ext W wx) => word_any l p c at_ wx (hB.ext hwx) (by omega) (by omega) (by omega)
  have c2 := fun wx (hwx : Ext W wx) => number4 l p c at_ wx (hB.ext hwx) (by omega) (by omega) (by omega)
  have c3 := fun wx (hwx : Ext W wx) => long_any l p c at_ wx (hB.ext hwx) (by omega) (by omega) (by omega)
  have c4 := fun wx (hwx : Ext W wx) => number8 l p c at_ wx (hB.ext hwx) (by omega) (by omega) (by omega)
  have c5 := fun wx => num_blk0 l ▸ num_blk8 l ▸ wide_any (blk l) (blk_length l) wx
  have c6 := fun wx (hwx : Ext W wx) => oblock_any l p c wx (hB.ext hwx)
  refine region_at 33 (fun w' => Ext W w') 46 (by kernel_rfl) (by kernel_rfl) rfl (fun _ _ h k => h.trans k) (drew_ext _) ?_
  simp only [List.take_succ_cons, List.take_zero, List.drop_succ_cons, List.drop_zero, List.map_cons, List.map_nil]
  repeat (first
      | (apply walk_is rfl rfl rfl
         · (intro wx hwx; exact gives_load_row rfl rfl (row_ext hr5'' hwx) rfl rfl (by kernel_rfl))
         · (simp only [Act.put, List.setIfInBounds_toArray, List.set_cons_succ, List.set_cons_zero]; rfl))
      | (apply walk_is rfl rfl rfl
         · (intro wx hwx; exact gives_load_row rfl rfl (row_ext hr6' hwx) rfl rfl (by kernel_rfl))
         · (simp only [Act.put, List.setIfInBounds_toArray, List.set_cons_succ, List.set_cons_zero]; rfl))
      | (apply walk_is rfl rfl rfl
         · (intro wx hwx; go_simp; first | exact gives_same | exact gives_skip | with_reducible exact gives_call (c1 wx hwx) | with_reducible exact gives_call (c2 wx hwx) | with_reducible exact gives_call (c3 wx hwx) | with_reducible exact gives_call (c4 wx hwx) | with_reducible exact gives_call (c5 wx) | with_reducible exact gives_call (c6 wx hwx) | with_reducible exact gives_call (awake1 wx))
         · (simp only [Act.put, List.setIfInBounds_toArray, List.set_cons_succ, List.set_cons_zero]; rfl))
      | (apply walk_not rfl rfl rfl
         · (simp only [Act.put, List.setIfInBounds_toArray, List.set_cons_succ, List.set_cons_zero]; rfl)))
  intro wz hwz
  simp only [List.zip_cons_cons, List.zip_nil_right]
  repeat (first | rw [fin_is] | (rw [fin_cons]; intro _ _))
  rw [fin_nil]
  simp only [Act.put, List.setIfInBounds_toArray, List.set_cons_succ, List.set_cons_zero]
  go_wp2
  go_ret
  exact ⟨rfl, hx4.trans hwz⟩

end Go.Proofs.Ytmapcfhhklapbaa
