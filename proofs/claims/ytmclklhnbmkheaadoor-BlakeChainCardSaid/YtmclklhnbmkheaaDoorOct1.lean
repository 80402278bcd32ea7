/-
  Layer 1: one byte of a row, and numbers out of bytes. Conditions: rows are shorter than 2^47, as each argument is.
  Layer 1: blocks and numbers of 128 bits. Conditions: rows are shorter than 2^47, as each argument is.
  Layer 1: padded and marked rows, and what the chapter's examples say. Conditions: rows are shorter than 2^47, sizes at most 2^31.
-/
import Derived.Test.YtmclklhnbmkheaaDoorMem
import Derived.Test.YtmclklhnbmkheaaDoorProg
namespace Go.Proofs.YtmclklhnbmkheaaDoor
open Go Go.RowKit
set_option maxRecDepth 100000
set_option linter.unusedVariables false
set_option linter.unusedSimpArgs false

/-- The byte at a place, 0 where there is none. -/
def gb (l : List Byte) (j : Int) : Byte := if 0 ≤ j then l.getD j.toNat 0 else 0
theorem gb_neg (l : List Byte) (j : Int) (h : j < 0) : gb l j = 0 := by unfold gb; rw [if_neg (by omega)]
theorem gb_past (l : List Byte) (j : Int) (h : (l.length : Int) ≤ j) : gb l j = 0 := by
  unfold gb; rw [if_pos (by omega), List.getD_eq_getElem?_getD, List.getElem?_eq_none (by omega)]; rfl
theorem gb_in (l : List Byte) (i : Nat) : gb l i = l.getD i 0 := by unfold gb; rw [if_pos (by omega)]; rfl

/-- So many bytes from a place on, as a number, the lowest first. -/
def num (l : List Byte) (at_ : Int) : Nat → BitVec 64
  | 0 => 0
  | m + 1 => num l at_ m ||| ((gb l (at_ + m)).setWidth 64 <<< (8 * m))

set_option maxHeartbeats 400000 in
theorem from1_any (l : List Byte) (p : Option Addr) (c : Nat) (at_ k : Int) (x y : Addr) (w : World) (h : RdB w p l) (hl : l.length ≤ 140737488355328) (hk0 : 0 ≤ k) (hk : k ≤ 1000) (ha : -9223372036854775808 ≤ at_) (hb : at_ ≤ 9223372036854775807)
    (hx : w.cell? x = some (.int .i64 at_)) (hy : w.cell? y = some (.slice p l.length c)) :
    Calls Tryd.prog 25 #[.int .i64 k, .pointer (some x), .pointer (some y)] w fun e w' => e = .returned (v8 (gb l (at_ + k))) ∧ w = w' := by
  by_cases h1 : at_ < -k
  · rw [gb_neg l _ (by omega)]
    clear h
    by_cases h3 : (l.length : Int) - 1 - k < at_
    all_goals
      go_enter Tryd.func25, Tryd.ntmps25
      go_wp2
      go_ret
      exact ⟨rfl, rfl⟩
  · by_cases h2 : (l.length : Int) ≤ at_ + k
    · rw [gb_past l _ h2]
      clear h
      have h3 : (l.length : Int) - 1 - k < at_ := by omega
      go_enter Tryd.func25, Tryd.ntmps25
      go_wp2
      go_ret
      exact ⟨rfl, rfl⟩
    · have hs := h.isSome (at_ + k).toNat (by omega)
      have hc := h.at (at_ + k).toNat (by omega)
      have h3 : ¬ (l.length : Int) - 1 - k < at_ := by omega
      have e : gb l (at_ + k) = l.getD (at_ + k).toNat 0 := by unfold gb; rw [if_pos (by omega)]
      rw [e]
      clear h e
      go_enter Tryd.func25, Tryd.ntmps25
      go_wp2
      go_ret
      exact ⟨rfl, rfl⟩

@[local go_sem] theorem conv_8_64 (x : BitVec 8) (w : World) : (convert 5 37 (v8 x)).run Tryd.prog w = .ok (v64 (x.setWidth 64)) w := conv8_64 x _ _ _ w rfl rfl

set_option maxHeartbeats 400000 in
theorem gather_any (l : List Byte) (p : Option Addr) (c : Nat) (at_ : Int) (x y : Addr) (m : Nat) (w : World) (h : RdB w p l) (hl : l.length ≤ 140737488355328) (hm : m ≤ 8) (ha : -9223372036854775808 ≤ at_) (hb : at_ ≤ 9223372036854775807)
    (hx : w.cell? x = some (.int .i64 at_)) (hy : w.cell? y = some (.slice p l.length c)) :
    Calls Tryd.prog 21 #[.int .i64 m, .func (.func 25) #[] #[.pointer (some x), .pointer (some y)]] w fun e w' => e = .returned (v64 (num l at_ m)) ∧ w = w' := by
  go_enter Tryd.func21, Tryd.ntmps21
  go_wp2
  go_loop [5, 8] (fun n i => ∃ k : Nat, k ≤ m ∧ i = .int .i64 k ∧ n = v64 (num l at_ k)) (fun _ i => m - (intOf i).toNat)
  case atStart => exact ⟨0, Nat.zero_le _, rfl, rfl⟩
  case round =>
    obtain ⟨k, hk, rfl, rfl⟩ := hrel
    by_cases hlt : k < m
    · go_wp2_with (go_at_call 25; refine (from1_any l p c at_ k x y _ h hl (by omega) (by omega) ha hb hx hy).mono ?_; rintro e w' ⟨rfl, rfl⟩)
      go_round
      case rel => exact ⟨k + 1, by omega, by go_num, by rw [num]⟩
      case measure => simp [intOf] <;> omega
    · obtain rfl : k = m := by omega
      go_wp2
      go_ret
      exact ⟨rfl, rfl⟩

theorem gather4 (l : List Byte) (p : Option Addr) (c : Nat) (at_ : Int) (x y : Addr) (w : World) (h : RdB w p l) (hl : l.length ≤ 140737488355328) (ha : -9223372036854775808 ≤ at_) (hb : at_ ≤ 9223372036854775807)
    (hx : w.cell? x = some (.int .i64 at_)) (hy : w.cell? y = some (.slice p l.length c)) :
    Calls Tryd.prog 21 #[.int .i64 4, .func (.func 25) #[] #[.pointer (some x), .pointer (some y)]] w fun e w' => e = .returned (v64 (num l at_ 4)) ∧ w = w' :=
  gather_any l p c at_ x y 4 w h hl (by omega) ha hb hx hy
theorem gather8 (l : List Byte) (p : Option Addr) (c : Nat) (at_ : Int) (x y : Addr) (w : World) (h : RdB w p l) (hl : l.length ≤ 140737488355328) (ha : -9223372036854775808 ≤ at_) (hb : at_ ≤ 9223372036854775807)
    (hx : w.cell? x = some (.int .i64 at_)) (hy : w.cell? y = some (.slice p l.length c)) :
    Calls Tryd.prog 21 #[.int .i64 8, .func (.func 25) #[] #[.pointer (some x), .pointer (some y)]] w fun e w' => e = .returned (v64 (num l at_ 8)) ∧ w = w' :=
  gather_any l p c at_ x y 8 w h hl (by omega) ha hb hx hy

@[local go_sem] theorem conv_64_32 (x : BitVec 64) (w : World) : (convert 37 74 (v64 x)).run Tryd.prog w = .ok (v32 (x.setWidth 32)) w := conv64_32 x _ _ _ w rfl rfl

set_option maxHeartbeats 400000 in
theorem long_any (l : List Byte) (p : Option Addr) (c : Nat) (at_ : Int) (w : World) (h : RdB w p l) (hl : l.length ≤ 140737488355328) (ha : -9223372036854775808 ≤ at_) (hb : at_ ≤ 9223372036854775807) :
    Gives Tryd.prog 18 #[.slice p l.length c, .int .i64 at_] w (v64 (num l at_ 8)) := by
  unfold Gives
  have h' := h.ext (((Ext.refl w).alloc (.cells #[.slice p l.length c] 22)).alloc (.cells #[.int .i64 at_] 3))
  have hx : ((w.alloc (.cells #[.slice p l.length c] 22)).alloc (.cells #[.int .i64 at_] 3)).cell? ⟨w.heap.size + 1, 0, none⟩ = some (.int .i64 at_) := by simp
  have hy : ((w.alloc (.cells #[.slice p l.length c] 22)).alloc (.cells #[.int .i64 at_] 3)).cell? ⟨w.heap.size, 0, none⟩ = some (.slice p l.length c) := by simp
  go_enter Tryd.func18, Tryd.ntmps18
  go_wp2_with (first | (go_at_call 21; refine (gather8 l p c at_ _ _ _ h' hl ha hb hx hy).mono ?_; rintro e w' ⟨rfl, rfl⟩) | go_in)
  go_ret
  exact ⟨rfl, ((Ext.refl w).alloc _).alloc _⟩

theorem mul_add_or (x : BitVec 64) (b : BitVec 8) : x * BitVec.ofInt 64 256 + b.setWidth 64 = b.setWidth 64 ||| (x <<< 8) := by
  have h1 : x * BitVec.ofInt 64 256 = x <<< 8 := by
    rw [BitVec.shiftLeft_eq_mul_twoPow]; rfl
  rw [h1, BitVec.add_comm]
  refine BitVec.add_eq_or_of_and_eq_zero _ _ ?_
  apply BitVec.eq_of_getLsbD_eq
  intro i hi
  simp only [BitVec.getLsbD_and, BitVec.getLsbD_setWidth, BitVec.getLsbD_shiftLeft, BitVec.getLsbD_zero]
  by_cases h : i < 8
  · simp [h]
  · simp [BitVec.getLsbD_of_ge b i (by omega)]
theorem num_succ (l : List Byte) : ∀ (r : Nat) (a : Int), num l a (r + 1) = (gb l a).setWidth 64 ||| (num l (a + 1) r <<< 8)
  | 0, a => by simp [num]
  | r + 1, a => by
    rw [num, num_succ l r a, num, BitVec.shiftLeft_or_distrib, BitVec.or_assoc]
    congr 2
    rw [← BitVec.shiftLeft_add]
    rw [show 8 * (r + 1) = 8 * r + 8 from by omega, show a + ((r + 1 : Nat) : Int) = a + 1 + (r : Int) from by omega]

end Go.Proofs.YtmclklhnbmkheaaDoor
namespace Go.Proofs.YtmclklhnbmkheaaDoor
open Go Go.RowKit
set_option maxRecDepth 100000
set_option linter.unusedVariables false
set_option linter.unusedSimpArgs false

/-- A number of 128 bits as a value. -/
abbrev WV (lo hi : BitVec 64) : Value := .agg #[v64 lo, v64 hi]

@[local go_sem] theorem build_wide (a b : BitVec 64) (w : World) : (Instr.build 44 #[(0, v64 a), (1, v64 b)]).run Tryd.prog w = .ok (WV a b) w := by kernel_rfl

/-- Sixteen bytes, noughts where there are none. -/
def blk (l : List Byte) : List Byte := (List.range 16).map fun (i : Nat) => gb l i
def blkTo (l : List Byte) (k : Nat) : List Byte := (List.range 16).map fun (i : Nat) => if i < k then gb l i else 0
theorem blk_length (l : List Byte) : (blk l).length = 16 := by simp [blk]
theorem blkTo_length (l : List Byte) (k : Nat) : (blkTo l k).length = 16 := by simp [blkTo]
theorem blkTo_zero (l : List Byte) : blkTo l 0 = List.replicate 16 0 := by simp [blkTo, List.range_succ_eq_map]
theorem blkTo_all (l : List Byte) : blkTo l 16 = blk l := by
  unfold blkTo blk
  apply List.map_congr_left
  intro i hi; rw [if_pos (by simpa using hi)]
theorem blkTo_set (l : List Byte) (k : Nat) : (blkTo l k).set k (gb l k) = blkTo l (k + 1) := by
  apply List.ext_getElem
  · simp [blkTo]
  · intro i h1 h2
    simp [blkTo] at h1 h2
    simp only [List.getElem_set, blkTo, List.getElem_map, List.getElem_range]
    by_cases e : k = i
    · subst e; simp
    · rw [if_neg e]; congr 1; rw [eq_iff_iff]; omega

theorem zeros16 : (#[Value.int .u8 0, Value.int .u8 0, Value.int .u8 0, Value.int .u8 0, Value.int .u8 0, Value.int .u8 0, Value.int .u8 0, Value.int .u8 0, Value.int .u8 0, Value.int .u8 0, Value.int .u8 0, Value.int .u8 0, Value.int .u8 0, Value.int .u8 0, Value.int .u8 0, Value.int .u8 0] : Array Value) = ((List.replicate 16 (0 : Byte)).map v8).toArray := rfl

theorem over_blk (l : List Byte) : over (List.replicate 16 0) 0 (l.take 16) = blk l := by
  apply List.ext_getElem
  · rw [over_length _ _ _ (by simp; omega), blk_length]; simp
  · intro i h1 h2
    have hi : i < 16 := by rw [blk_length] at h2; exact h2
    simp only [over, List.take_zero, List.nil_append, Nat.zero_add, blk, List.getElem_map, List.getElem_range, gb_in, List.getD_eq_getElem?_getD]
    by_cases h : i < l.length
    · rw [List.getElem_append_left (by simp; omega)]
      simp [h]
    · rw [List.getElem_append_right (by simp; omega)]
      simp only [List.getElem_drop, List.getElem_replicate, List.getElem?_eq_none (show l.length ≤ i by omega), Option.getD_none]

end Go.Proofs.YtmclklhnbmkheaaDoor
namespace Go.Proofs.YtmclklhnbmkheaaDoor
open Go Go.RowKit
set_option maxRecDepth 100000
set_option linter.unusedVariables false
set_option linter.unusedSimpArgs false

/-- How many noughts a length lacks to a multiple of a size. -/
def roomN (n : Nat) (s : Int) : Nat := if s < 1 then 0 else (s.toNat - n % s.toNat) % s.toNat
theorem roomN_lt (n : Nat) (s : Int) : roomN n s ≤ s.toNat := by
  unfold roomN; split
  · omega
  · exact Nat.le_of_lt (Nat.mod_lt _ (by omega))
def pad (l : List Byte) (s : Int) : List Byte := l ++ List.replicate (roomN l.length s) 0
def marked (l : List Byte) (m : Byte) (s : Int) : List Byte := pad (l ++ [m]) s

set_option maxHeartbeats 400000 in
theorem room_any (n : Nat) (s : Int) (w : World) (hn : n ≤ 281474976710656) (h0 : -9223372036854775808 ≤ s) (h1 : s ≤ 9223372036854775807) :
    Calls Tryd.prog 17 #[.int .i64 n, .int .i64 s] w fun e w' => e = .returned (.int .i64 (roomN n s)) ∧ w = w' := by
  by_cases hs : s < 1
  · have e : ((roomN n s : Nat) : Int) = 0 := by unfold roomN; rw [if_pos hs]; rfl
    rw [e]
    clear e
    go_enter Tryd.func17, Tryd.ntmps17
    go_wp2
    go_ret
    exact ⟨rfl, rfl⟩
  · obtain ⟨k, rfl⟩ := Int.eq_ofNat_of_zero_le (show 0 ≤ s by omega)
    have hmod : (n : Int) % k < k := Int.emod_lt_of_pos _ (by omega)
    have hmod0 : 0 ≤ (n : Int) % k := Int.emod_nonneg _ (by omega)
    have e : ((roomN n k : Nat) : Int) = ((k : Int) - (n : Int) % k) % k := by
      unfold roomN; rw [if_neg hs, Int.toNat_natCast]
      have hlt : n % k < k := Nat.mod_lt _ (by omega)
      rw [Int.natCast_emod, Int.ofNat_sub (Nat.le_of_lt hlt), Int.natCast_emod]
    rw [e]
    clear e
    have hk : 1 ≤ (k : Int) := by omega
    have hkne : ((k : Int) == 0) = false := by simp; omega
    go_enter Tryd.func17, Tryd.ntmps17
    go_wp2
    go_ret
    exact ⟨rfl, rfl⟩

theorem over_pad (l : List Byte) (r : Nat) : over (zeros (l.length + r)) 0 (l.take (l.length + r)) = l ++ List.replicate r 0 := by
  unfold zeros
  rw [List.take_of_length_le (by omega)]
  simp [over]

theorem over_pad' (l : List Byte) (s : Int) : over (zeros (l.length + roomN l.length s)) 0 (l.take (l.length + roomN l.length s)) = pad l s := over_pad l _

theorem info_byte : ∃ i, Tryd.prog.info? 5 = some i ∧ i.zero = some (.int .u8 0) ∧ i.size = 1 ∧ i.bytes = 1 := by
  obtain ⟨i, h1, h2, h3, h4⟩ := info_parts (show (Tryd.prog.info? 5).map (fun i => (i.zero, i.size, i.bytes)) = some (some (.int .u8 0), 1, 1) by kernel_rfl)
  exact ⟨i, h1, h2, h3, h4⟩

theorem make_b {ops : Array Oper} {Q : Exit → Act → World → Prop} {rest : List Oper} {o : Oper} {a : Act} {w : World} {x y : Operand} {N M : Int} (n : Nat)
    (hgd : Region.wanted o (yielded ops a.tmps) = true) (ho : o.op = .makeSlice 22 x y) (hx : a.eval x = .int .i64 N) (hy : a.eval y = .int .i64 M) (hN : N = (n : Int)) (hM : M = (n : Int)) (hn : n ≤ 281474976710656)
    (h : wpList Tryd.prog ops Q rest (a.put o.dst (.slice (some ⟨w.heap.size, 0, Option.none⟩) n n)) (w.alloc (.cells ((zeros n).map v8).toArray 5))) : wpList Tryd.prog ops Q (o :: rest) a w := by
  obtain ⟨i, hi, hz, hs, hb⟩ := info_byte
  exact wpl_make hgd ho hx hy (by kernel_rfl) hi hz hs hb hN hM hn h

set_option maxHeartbeats 400000 in
theorem padded_any (l : List Byte) (p : Option Addr) (c : Nat) (s : Int) (w : World) (h : RdB w p l) (hl : l.length ≤ 140737488355328) (h0 : -9223372036854775808 ≤ s) (h1 : s ≤ 2147483648) :
    GivesR Tryd.prog 11 #[.slice p l.length c, .int .i64 s] w (BytesS (pad l s)) := by
  unfold GivesR
  have hr := roomN_lt l.length s
  have hx : Ext w (w.alloc (.cells ((zeros (l.length + roomN l.length s)).map v8).toArray 5)) := (Ext.refl w).alloc _
  have hrow := row_new w 5 ((zeros (l.length + roomN l.length s)).map v8)
  have hbb := h.ext hx
  go_enter Tryd.func11, Tryd.ntmps11
  go_wp2_with (first | (go_at_call 17; refine (room_any l.length s _ (by omega) h0 (by omega)).mono ?_; rintro e w' ⟨rfl, rfl⟩) | (with_reducible show wpList _ _ _ _ _ _; refine make_b (l.length + roomN l.length s) rfl rfl rfl rfl (by omega) (by omega) (by omega) ?_) | (with_reducible show wpList _ _ _ _ _ _; refine wpl_copy (over_pad' l s) rfl rfl rfl rfl rfl rfl (by kernel_rfl) hrow (by simp [zeros_length]) hbb ?_))
  go_ret
  refine ⟨_, rfl, ⟨_, _, ?_, Nat.le_refl _, RdB.of_row (row_setRow hrow _)⟩, ext_setRow hx _ _ (Nat.le_refl _)⟩
  simp [pad]

/-- A row with one nought behind it, and with a mark. -/
def with1 (l : List Byte) (m : Byte) : List Byte := l ++ [m]
theorem with1_length (l : List Byte) (m : Byte) : (with1 l m).length = l.length + 1 := by simp [with1]
theorem over_mark (l : List Byte) : over (zeros (l.length + 1)) 0 (l.take (l.length + 1)) = with1 l 0#8 := over_pad l 1
theorem set_mark (l : List Byte) (m : Byte) : ((with1 l 0#8).map v8).set l.length (v8 m) = (with1 l m).map v8 := by
  unfold with1
  rw [List.map_append, List.set_append_right _ _ (by simp)]; simp

theorem conv_str (p : Option Addr) (l : List Byte) (c : Nat) (w : World) (h : RdB w p l) : (convert 22 9 (.slice p l.length c)).run Tryd.prog w = .ok (.string (bstr l)) w :=
  run_conv_str (e := 5) (by kernel_rfl) (by kernel_rfl) (by kernel_rfl) c h

attribute [go_sem] blk_length
@[go_sem] theorem eql16 (d : Nat) (l m : List Byte) (w : World) (hl : l.length = 16) (hm : m.length = 16) : (Op.equalIn (d + 2) 55 (A8 l) (A8 m)).run Tryd.prog w = .ok (l == m) w :=
  run_equalIn_bytes w d _ 5 16 l m (by kernel_rfl) (by kernel_rfl) (by kernel_rfl) hl hm

end Go.Proofs.YtmclklhnbmkheaaDoor
