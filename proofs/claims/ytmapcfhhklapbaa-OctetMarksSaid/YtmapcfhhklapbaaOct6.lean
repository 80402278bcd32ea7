/-
  Layer 1: the bytes of a number of 128 bits. No conditions.
-/
import Derived.Test.YtmapcfhhklapbaaOct5
namespace Go.Proofs.Ytmapcfhhklapbaa
open Go Go.RowKit

attribute [go_sem] putL_length
theorem over_low (lo : List Byte) (h : lo.length = 8) : over (List.replicate 16 0) 0 (lo.take 16) = lo ++ List.replicate 8 0 := by
  rw [List.take_of_length_le (by omega)]
  simp [over, h]
theorem over_high (lo hi : List Byte) (h : lo.length = 8) (h2 : hi.length = 8) : over (lo ++ List.replicate 8 0) 8 (hi.take 8) = lo ++ hi := by
  rw [List.take_of_length_le (by omega)]
  simp [over, h, h2, List.drop_append]

set_option maxHeartbeats 1000000 in
theorem bytes_any (lo hi : BitVec 64) (w : World) :
    Gives Try.prog 38 #[WV lo hi] w (A8 (putL lo 8 ++ putL hi 8)) := by
  unfold Gives
  obtain ⟨W, hW⟩ : ∃ W, W = ((w.alloc (.cells #[v64 lo, v64 hi] 30)).alloc (.cells #[Value.int IntKind.u8 0, Value.int IntKind.u8 0, Value.int IntKind.u8 0, Value.int IntKind.u8 0, Value.int IntKind.u8 0, Value.int IntKind.u8 0, Value.int IntKind.u8 0, Value.int IntKind.u8 0, Value.int IntKind.u8 0, Value.int IntKind.u8 0, Value.int IntKind.u8 0, Value.int IntKind.u8 0, Value.int IntKind.u8 0, Value.int IntKind.u8 0, Value.int IntKind.u8 0, Value.int IntKind.u8 0] 34)).alloc (.cells #[Value.int IntKind.u8 0, Value.int IntKind.u8 0, Value.int IntKind.u8 0, Value.int IntKind.u8 0, Value.int IntKind.u8 0, Value.int IntKind.u8 0, Value.int IntKind.u8 0, Value.int IntKind.u8 0, Value.int IntKind.u8 0, Value.int IntKind.u8 0, Value.int IntKind.u8 0, Value.int IntKind.u8 0, Value.int IntKind.u8 0, Value.int IntKind.u8 0, Value.int IntKind.u8 0, Value.int IntKind.u8 0] 34) := ⟨_, rfl⟩
  have hE : Ext w W := by rw [hW]; exact (((Ext.refl w).alloc _).alloc _).alloc _
  have hsz : W.heap.size = w.heap.size + 3 := by rw [hW]; simp
  have hA : Row W w.heap.size 30 [v64 lo, v64 hi] := by rw [hW]; exact row_alloc (row_alloc (row_new _ _ _) _) _
  have hR : Row W (w.heap.size + 1) 34 ((List.replicate 16 (0 : Byte)).map v8) := by rw [hW]; exact row_alloc (heap_alloc2_new _ _ _) _
  have hO : Row W (w.heap.size + 2) 34 ((List.replicate 16 (0 : Byte)).map v8) := by
    rw [hW]
    have := row_new ((w.alloc (.cells #[v64 lo, v64 hi] 30)).alloc (.cells #[Value.int IntKind.u8 0, Value.int IntKind.u8 0, Value.int IntKind.u8 0, Value.int IntKind.u8 0, Value.int IntKind.u8 0, Value.int IntKind.u8 0, Value.int IntKind.u8 0, Value.int IntKind.u8 0, Value.int IntKind.u8 0, Value.int IntKind.u8 0, Value.int IntKind.u8 0, Value.int IntKind.u8 0, Value.int IntKind.u8 0, Value.int IntKind.u8 0, Value.int IntKind.u8 0, Value.int IntKind.u8 0] 34)) 34 ((List.replicate 16 (0 : Byte)).map v8)
    rwa [show ((w.alloc (.cells #[v64 lo, v64 hi] 30)).alloc (.cells #[Value.int IntKind.u8 0, Value.int IntKind.u8 0, Value.int IntKind.u8 0, Value.int IntKind.u8 0, Value.int IntKind.u8 0, Value.int IntKind.u8 0, Value.int IntKind.u8 0, Value.int IntKind.u8 0, Value.int IntKind.u8 0, Value.int IntKind.u8 0, Value.int IntKind.u8 0, Value.int IntKind.u8 0, Value.int IntKind.u8 0, Value.int IntKind.u8 0, Value.int IntKind.u8 0, Value.int IntKind.u8 0] 34)).heap.size = w.heap.size + 2 from by simp] at this
  have HW := Lib.hid hW
  have Hsz := Lib.hid hsz
  clear hW hsz
  have cA := fun wx (hwx : Ext W wx) => row_cell (row_ext hA hwx) 0
  have cB := fun wx (hwx : Ext W wx) => row_cell (row_ext hA hwx) 1
  simp only [List.getElem?_cons_zero, List.getElem?_cons_succ] at cA cB
  have hB : W.heap.size ≤ W.heap.size := Nat.le_refl _
  go_enter Try.func38, Try.ntmps38
  go_wp2
  rw [← HW.out]
  refine region_new 8 (fun w' => Ext W w') 19 (by kernel_rfl) (by kernel_rfl) rfl (fun _ _ h k => h.trans k) (drew_ext _) ?_
  simp only [List.take_succ_cons, List.take_zero, List.drop_succ_cons, List.drop_zero, List.map_cons, List.map_nil]
  repeat (first
      | (apply walk_some (NewS (W.heap.size) 48 ((List.replicate 8 (0 : Byte)).map v8)) 4 (NewS.stable _ _ _) rfl rfl rfl rfl
         · (intro wx hwx; go_simp; exact gives_new (cs := (List.replicate 8 (0 : Byte)).map v8) hwx.size))
      | (apply walk_some (NewS (W.heap.size) 48 ((List.replicate 8 (0 : Byte)).map v8)) 5 (NewS.stable _ _ _) rfl rfl rfl rfl
         · (intro wx hwx; go_simp; exact gives_new (cs := (List.replicate 8 (0 : Byte)).map v8) hwx.size))
      | (apply walk_is rfl rfl rfl
         · (intro wx hwx; first | exact gives_ld8 (hm.ext hwx) rfl rfl (by repeat (first | exact Has.hd | assumption | apply Has.tl)) (by first | omega | (simp only [zeros_length, zer_length, tab_length, part_length, setN_length, List.length_map, List.length_cons, List.length_nil, List.length_append, List.length_take, List.length_drop, List.length_replicate, blk_length, putL_length]; omega) | (refine Nat.lt_of_lt_of_le (BitVec.isLt _) ?_; first | omega | (simp only [zeros_length, zer_length, tab_length, part_length, setN_length, List.length_map, List.length_cons, List.length_nil, List.length_append, List.length_take, List.length_drop, List.length_replicate, blk_length, putL_length]; omega) | decide | fail) | fail) | exact gives_ld64 (hm.ext hwx) rfl rfl (by repeat (first | exact Has.hd | assumption | apply Has.tl)) (by first | omega | (simp only [zeros_length, zer_length, tab_length, part_length, setN_length, List.length_map, List.length_cons, List.length_nil, List.length_append, List.length_take, List.length_drop, List.length_replicate, blk_length, putL_length]; omega) | (refine Nat.lt_of_lt_of_le (BitVec.isLt _) ?_; first | omega | (simp only [zeros_length, zer_length, tab_length, part_length, setN_length, List.length_map, List.length_cons, List.length_nil, List.length_append, List.length_take, List.length_drop, List.length_replicate, blk_length, putL_length]; omega) | decide | fail) | fail) | exact gives_ld32 (hm.ext hwx) rfl rfl (by repeat (first | exact Has.hd | assumption | apply Has.tl)) (by first | omega | (simp only [zeros_length, zer_length, tab_length, part_length, setN_length, List.length_map, List.length_cons, List.length_nil, List.length_append, List.length_take, List.length_drop, List.length_replicate, blk_length, putL_length]; omega) | (refine Nat.lt_of_lt_of_le (BitVec.isLt _) ?_; first | omega | (simp only [zeros_length, zer_length, tab_length, part_length, setN_length, List.length_map, List.length_cons, List.length_nil, List.length_append, List.length_take, List.length_drop, List.length_replicate, blk_length, putL_length]; omega) | decide | fail) | fail) | exact gives_ldW (hm.ext hwx) rfl rfl (by repeat (first | exact Has.hd | assumption | apply Has.tl)) (by first | rfl | omega | (simp only [zeros_length, zer_length, tab_length, part_length, setN_length, List.length_map, List.length_cons, List.length_nil, List.length_append, List.length_take, List.length_drop, List.length_replicate, blk_length, putL_length] <;> omega) | fail) | exact gives_ld1 (hm.ext hwx) rfl rfl (by repeat (first | exact Has.hd | assumption | apply Has.tl)) rfl | (go_simp; (try go_bits); first | exact gives_same | exact gives_skip | exact gives_call (putlong_any _ wx)))
         · (simp only [Act.put, List.setIfInBounds_toArray, List.set_cons_succ, List.set_cons_zero]; rfl))
      | (apply walk_not rfl rfl rfl
         · (simp only [Act.put, List.setIfInBounds_toArray, List.set_cons_succ, List.set_cons_zero]; rfl)))
  intro wz hwz
  simp only [List.zip_cons_cons, List.zip_nil_right]
  repeat rw [fin_is]
  rw [fin_cons]; intro x4 hx4
  repeat rw [fin_is]
  rw [fin_cons]; intro x5 hx5
  repeat rw [fin_is]
  rw [fin_nil]; intro hap
  simp only [Act.put, List.setIfInBounds_toArray, List.set_cons_succ, List.set_cons_zero] at hap ⊢
  obtain ⟨g4, rfl, hg4, hr4⟩ := hx4
  obtain ⟨g5, rfl, hg5, hr5⟩ := hx5
  have hne := apart_of hap (d := 4) (e := 5) (by decide) (by decide) (by decide) rfl rfl
  clear hap
  have hs3 := Hsz.out
  go_wp2_with (with_reducible show wpList _ _ _ _ _ _; first | (refine wpl_store_row (cs := (putL lo 8).map v8) rfl rfl rfl rfl hr4 (by simp [putL_length]) (by simp only [List.length_map, putL_length]; kernel_rfl) (one_v8 _) ?_) | (refine wpl_store_row (cs := (putL hi 8).map v8) rfl rfl rfl rfl (row_setRow_other hr5 _ (Ne.symm hne)) (by simp [putL_length]) (by simp only [List.length_map, putL_length]; kernel_rfl) (one_v8 _) ?_))
  have h4 := row_setRow_other (row_setRow hr4 ((putL lo 8).map v8)) ((putL hi 8).map v8).toArray hne
  have h5 := row_setRow (row_setRow_other hr5 ((putL lo 8).map v8).toArray (Ne.symm hne)) ((putL hi 8).map v8)
  have hO1 := row_setRow_other (row_setRow_other (row_ext hO hwz) ((putL lo 8).map v8).toArray (show w.heap.size + 2 ≠ g4 by omega)) ((putL hi 8).map v8).toArray (show w.heap.size + 2 ≠ g5 by omega)
  have hR1 := row_setRow_other (row_setRow_other (row_ext hR hwz) ((putL lo 8).map v8).toArray (show w.heap.size + 1 ≠ g4 by omega)) ((putL hi 8).map v8).toArray (show w.heap.size + 1 ≠ g5 by omega)
  have hE1 := ext_setRow (ext_setRow (hE.trans hwz) g4 ((putL lo 8).map v8).toArray (by omega)) g5 ((putL hi 8).map v8).toArray (by omega)
  generalize (wz.setRow g4 ((putL lo 8).map v8).toArray).setRow g5 ((putL hi 8).map v8).toArray = W1 at *
  clear hr4 hr5 hR hO hA cA cB hs3
  refine region_at 2 (fun w' => Ext W1 w') 19 (by kernel_rfl) (by kernel_rfl) rfl (fun _ _ h k => h.trans k) (drew_ext _) ?_
  simp only [List.take_succ_cons, List.take_zero, List.drop_succ_cons, List.drop_zero, List.map_cons, List.map_nil]
  repeat (first
      | (apply walk_is rfl rfl rfl
         · (intro wx hwx; first | exact gives_ld8 (hm.ext hwx) rfl rfl (by repeat (first | exact Has.hd | assumption | apply Has.tl)) (by first | omega | (simp only [zeros_length, zer_length, tab_length, part_length, setN_length, List.length_map, List.length_cons, List.length_nil, List.length_append, List.length_take, List.length_drop, List.length_replicate, blk_length, putL_length]; omega) | (refine Nat.lt_of_lt_of_le (BitVec.isLt _) ?_; first | omega | (simp only [zeros_length, zer_length, tab_length, part_length, setN_length, List.length_map, List.length_cons, List.length_nil, List.length_append, List.length_take, List.length_drop, List.length_replicate, blk_length, putL_length]; omega) | decide | fail) | fail) | exact gives_ld64 (hm.ext hwx) rfl rfl (by repeat (first | exact Has.hd | assumption | apply Has.tl)) (by first | omega | (simp only [zeros_length, zer_length, tab_length, part_length, setN_length, List.length_map, List.length_cons, List.length_nil, List.length_append, List.length_take, List.length_drop, List.length_replicate, blk_length, putL_length]; omega) | (refine Nat.lt_of_lt_of_le (BitVec.isLt _) ?_; first | omega | (simp only [zeros_length, zer_length, tab_length, part_length, setN_length, List.length_map, List.length_cons, List.length_nil, List.length_append, List.length_take, List.length_drop, List.length_replicate, blk_length, putL_length]; omega) | decide | fail) | fail) | exact gives_ld32 (hm.ext hwx) rfl rfl (by repeat (first | exact Has.hd | assumption | apply Has.tl)) (by first | omega | (simp only [zeros_length, zer_length, tab_length, part_length, setN_length, List.length_map, List.length_cons, List.length_nil, List.length_append, List.length_take, List.length_drop, List.length_replicate, blk_length, putL_length]; omega) | (refine Nat.lt_of_lt_of_le (BitVec.isLt _) ?_; first | omega | (simp only [zeros_length, zer_length, tab_length, part_length, setN_length, List.length_map, List.length_cons, List.length_nil, List.length_append, List.length_take, List.length_drop, List.length_replicate, blk_length, putL_length]; omega) | decide | fail) | fail) | exact gives_ldW (hm.ext hwx) rfl rfl (by repeat (first | exact Has.hd | assumption | apply Has.tl)) (by first | rfl | omega | (simp only [zeros_length, zer_length, tab_length, part_length, setN_length, List.length_map, List.length_cons, List.length_nil, List.length_append, List.length_take, List.length_drop, List.length_replicate, blk_length, putL_length] <;> omega) | fail) | exact gives_ld1 (hm.ext hwx) rfl rfl (by repeat (first | exact Has.hd | assumption | apply Has.tl)) rfl | (go_simp; (try go_bits); first | exact gives_same | exact gives_skip))
         · (simp only [Act.put, List.setIfInBounds_toArray, List.set_cons_succ, List.set_cons_zero]; rfl))
      | (apply walk_not rfl rfl rfl
         · (simp only [Act.put, List.setIfInBounds_toArray, List.set_cons_succ, List.set_cons_zero]; rfl)))
  intro wz hwz
  simp only [List.zip_cons_cons, List.zip_nil_right]
  repeat (first | rw [fin_is] | (rw [fin_cons]; intro _ _))
  rw [fin_nil]
  try (replace hm := hm.ext hwz)
  simp only [Act.put, List.setIfInBounds_toArray, List.set_cons_succ, List.set_cons_zero]
  refine wpl_copy (over_low (putL lo 8) (putL_length lo 8)) rfl rfl rfl rfl (putL_length lo 8).symm rfl (by kernel_rfl) (row_ext hO1 hwz) (by simp) (RdB.of_row (row_ext h4 hwz)) ?_
  have hO2 := row_setRow (row_ext hO1 hwz) ((putL lo 8 ++ List.replicate 8 0).map v8)
  have hR2 := row_setRow_other (row_ext hR1 hwz) ((putL lo 8 ++ List.replicate 8 0).map v8).toArray (show w.heap.size + 1 ≠ w.heap.size + 2 by omega)
  have hs3 := Hsz.out
  have h52 := row_setRow_other (row_ext h5 hwz) ((putL lo 8 ++ List.replicate 8 0).map v8).toArray (show g5 ≠ w.heap.size + 2 by omega)
  have hE2 := ext_setRow (hE1.trans hwz) (w.heap.size + 2) ((putL lo 8 ++ List.replicate 8 0).map v8).toArray (by omega)
  generalize wz.setRow (w.heap.size + 2) ((putL lo 8 ++ List.replicate 8 0).map v8).toArray = W2 at *
  clear h4 h5 hO1 hR1 hE1 hs3
  go_wp2
  refine region_at 2 (fun w' => Ext W2 w') 19 (by kernel_rfl) (by kernel_rfl) rfl (fun _ _ h k => h.trans k) (drew_ext _) ?_
  simp only [List.take_succ_cons, List.take_zero, List.drop_succ_cons, List.drop_zero, List.map_cons, List.map_nil]
  repeat (first
      | (apply walk_is rfl rfl rfl
         · (intro wx hwx; first | exact gives_ld8 (hm.ext hwx) rfl rfl (by repeat (first | exact Has.hd | assumption | apply Has.tl)) (by first | omega | (simp only [zeros_length, zer_length, tab_length, part_length, setN_length, List.length_map, List.length_cons, List.length_nil, List.length_append, List.length_take, List.length_drop, List.length_replicate, blk_length, putL_length]; omega) | (refine Nat.lt_of_lt_of_le (BitVec.isLt _) ?_; first | omega | (simp only [zeros_length, zer_length, tab_length, part_length, setN_length, List.length_map, List.length_cons, List.length_nil, List.length_append, List.length_take, List.length_drop, List.length_replicate, blk_length, putL_length]; omega) | decide | fail) | fail) | exact gives_ld64 (hm.ext hwx) rfl rfl (by repeat (first | exact Has.hd | assumption | apply Has.tl)) (by first | omega | (simp only [zeros_length, zer_length, tab_length, part_length, setN_length, List.length_map, List.length_cons, List.length_nil, List.length_append, List.length_take, List.length_drop, List.length_replicate, blk_length, putL_length]; omega) | (refine Nat.lt_of_lt_of_le (BitVec.isLt _) ?_; first | omega | (simp only [zeros_length, zer_length, tab_length, part_length, setN_length, List.length_map, List.length_cons, List.length_nil, List.length_append, List.length_take, List.length_drop, List.length_replicate, blk_length, putL_length]; omega) | decide | fail) | fail) | exact gives_ld32 (hm.ext hwx) rfl rfl (by repeat (first | exact Has.hd | assumption | apply Has.tl)) (by first | omega | (simp only [zeros_length, zer_length, tab_length, part_length, setN_length, List.length_map, List.length_cons, List.length_nil, List.length_append, List.length_take, List.length_drop, List.length_replicate, blk_length, putL_length]; omega) | (refine Nat.lt_of_lt_of_le (BitVec.isLt _) ?_; first | omega | (simp only [zeros_length, zer_length, tab_length, part_length, setN_length, List.length_map, List.length_cons, List.length_nil, List.length_append, List.length_take, List.length_drop, List.length_replicate, blk_length, putL_length]; omega) | decide | fail) | fail) | exact gives_ldW (hm.ext hwx) rfl rfl (by repeat (first | exact Has.hd | assumption | apply Has.tl)) (by first | rfl | omega | (simp only [zeros_length, zer_length, tab_length, part_length, setN_length, List.length_map, List.length_cons, List.length_nil, List.length_append, List.length_take, List.length_drop, List.length_replicate, blk_length, putL_length] <;> omega) | fail) | exact gives_ld1 (hm.ext hwx) rfl rfl (by repeat (first | exact Has.hd | assumption | apply Has.tl)) rfl | (go_simp; (try go_bits); first | exact gives_same | exact gives_skip))
         · (simp only [Act.put, List.setIfInBounds_toArray, List.set_cons_succ, List.set_cons_zero]; rfl))
      | (apply walk_not rfl rfl rfl
         · (simp only [Act.put, List.setIfInBounds_toArray, List.set_cons_succ, List.set_cons_zero]; rfl)))
  intro wz hwz
  simp only [List.zip_cons_cons, List.zip_nil_right]
  repeat (first | rw [fin_is] | (rw [fin_cons]; intro _ _))
  rw [fin_nil]
  try (replace hm := hm.ext hwz)
  simp only [Act.put, List.setIfInBounds_toArray, List.set_cons_succ, List.set_cons_zero]
  refine wpl_copy (over_high (putL lo 8) (putL hi 8) (putL_length lo 8) (putL_length hi 8)) rfl rfl rfl rfl (putL_length hi 8).symm rfl (by kernel_rfl) (row_ext hO2 hwz) (by simp [putL_length]) (RdB.of_row (row_ext h52 hwz)) ?_
  have hO3 := row_setRow (row_ext hO2 hwz) ((putL lo 8 ++ putL hi 8).map v8)
  have hR3 := row_setRow_other (row_ext hR2 hwz) ((putL lo 8 ++ putL hi 8).map v8).toArray (show w.heap.size + 1 ≠ w.heap.size + 2 by omega)
  have hE3 := ext_setRow (hE2.trans hwz) (w.heap.size + 2) ((putL lo 8 ++ putL hi 8).map v8).toArray (by omega)
  have hl16 : (putL lo 8 ++ putL hi 8).length = 16 := by simp [putL_length]
  have Hl := Lib.hid hl16
  clear hl16
  generalize hrr : putL lo 8 ++ putL hi 8 = r at *
  have Hrr := Lib.hid hrr
  clear hrr
  generalize wz.setRow (w.heap.size + 2) (r.map v8).toArray = W3 at *
  go_wp2_with (with_reducible show wpList _ _ _ _ _ _; first | (refine wpl_load_row rfl rfl rfl hO3 rfl rfl (by simp only [List.length_map, Hl.out]; kernel_rfl) ?_) | (refine wpl_store_row (cs := r.map v8) rfl rfl rfl rfl hR3 (by simp [Hl.out]) (by simp only [List.length_map, Hl.out]; kernel_rfl) (one_v8 _) ?_))
  refine ret_row rfl rfl (row_setRow hR3 _) rfl rfl (by simp only [List.length_map, Hl.out]; kernel_rfl) rfl ⟨by rw [Hrr.out], ?_⟩
  exact ext_setRow hE3 _ _ (by omega)

/-! ### The reference's bytes of a number -/
theorem putL_succ (n : BitVec 64) (m : Nat) : putL n (m + 1) = putL n m ++ [(n >>> (8 * m)).setWidth 8] := by
  simp [putL, List.range_succ]
theorem rem256 (n : BitVec 64) : (n % 256#64).setWidth 8 = n.setWidth 8 := by
  apply BitVec.eq_of_toNat_eq
  simp [BitVec.toNat_umod]
theorem quo256 (n : BitVec 64) (k : Nat) : (n >>> (8 * k)) / 256#64 = n >>> (8 * (k + 1)) := by
  apply BitVec.eq_of_toNat_eq
  simp only [BitVec.toNat_udiv, BitVec.toNat_ushiftRight, Nat.shiftRight_eq_div_pow, BitVec.toNat_ofNat]
  rw [Nat.div_div_eq_div_mul, show 8 * (k + 1) = 8 * k + 8 from by omega, Nat.pow_add]

end Go.Proofs.Ytmapcfhhklapbaa
