/-
  Layer 1: one byte of a row, and numbers out of bytes. Conditions: rows are shorter than 2^47, as each argument is.
-/
import Derived.Test.YtalcgmhdgegebaaDoorMem
import Derived.Test.YtalcgmhdgegebaaDoorProg
namespace Go.Proofs.YtalcgmhdgegebaaDoor
open Go Go.RowKit
set_option maxRecDepth 100000
set_option linter.unusedVariables false
set_option linter.unusedSimpArgs false

/-- The byte at a place, 0 where there is none. -/
def gb (l : List Byte) (j : Int) : Byte := if 0 ≤ j then l.getD j.toNat 0 else 0
theorem gb_neg (l : List Byte) (j : Int) (h : j < 0) : gb l j = 0 := by unfold gb; rw [if_neg (by omega)]
theorem gb_past (l : List Byte) (j : Int) (h : (l.length : Int) ≤ j) : gb l j = 0 := by
  unfold gb; rw [if_pos (by omega), List.getD_eq_getElem?_getD, List.getElem?_eq_none (by omega)]; rfl
theorem gb_in (l : List Byte) (i : Nat) : gb l i = l.getD i 0 := by unfold gb; rw [if_pos (by omega)]; rfl

set_option maxHeartbeats 400000 in
theorem at_any (l : List Byte) (p : Option Addr) (c : Nat) (at_ k : Int) (w : World) (h : RdB w p l) (hl : l.length ≤ 140737488355328) (hk0 : 0 ≤ k) (hk : k ≤ 1000) (ha : -9223372036854775808 ≤ at_) (hb : at_ ≤ 9223372036854775807) :
    Calls Tryd.prog 75 #[.slice p l.length c, .int .i64 at_, .int .i64 k] w fun e w' => e = .returned (v8 (gb l (at_ + k))) ∧ w = w' := by
  by_cases h1 : at_ < -k
  · rw [gb_neg l _ (by omega)]
    clear h
    go_enter Tryd.func75, Tryd.ntmps75
    go_wp2
    go_ret
    exact ⟨rfl, rfl⟩
  · by_cases h2 : (l.length : Int) ≤ at_ + k
    · rw [gb_past l _ h2]
      clear h
      by_cases h3 : (l.length : Int) ≤ at_
      all_goals
        go_enter Tryd.func75, Tryd.ntmps75
        go_wp2
        go_ret
        exact ⟨rfl, rfl⟩
    · have hs := h.isSome (at_ + k).toNat (by omega)
      have hc := h.at (at_ + k).toNat (by omega)
      have e : gb l (at_ + k) = l.getD (at_ + k).toNat 0 := by unfold gb; rw [if_pos (by omega)]
      rw [e]
      clear h e
      go_enter Tryd.func75, Tryd.ntmps75
      go_wp2
      go_ret
      exact ⟨rfl, rfl⟩

/-- So many bytes from a place on, as a number, the lowest first. -/
def num (l : List Byte) (at_ : Int) : Nat → BitVec 64
  | 0 => 0
  | m + 1 => num l at_ m ||| ((gb l (at_ + m)).setWidth 64 <<< (8 * m))

set_option maxHeartbeats 400000 in
theorem from1_any (l : List Byte) (p : Option Addr) (c : Nat) (at_ k : Int) (x y : Addr) (w : World) (h : RdB w p l) (hl : l.length ≤ 140737488355328) (hk0 : 0 ≤ k) (hk : k ≤ 1000) (ha : -9223372036854775808 ≤ at_) (hb : at_ ≤ 9223372036854775807)
    (hx : w.cell? x = some (.int .i64 at_)) (hy : w.cell? y = some (.slice p l.length c)) :
    Calls Tryd.prog 81 #[.int .i64 k, .pointer (some x), .pointer (some y)] w fun e w' => e = .returned (v8 (gb l (at_ + k))) ∧ w = w' := by
  by_cases h1 : at_ < -k
  · rw [gb_neg l _ (by omega)]
    clear h
    by_cases h3 : (l.length : Int) - 1 - k < at_
    all_goals
      go_enter Tryd.func81, Tryd.ntmps81
      go_wp2
      go_ret
      exact ⟨rfl, rfl⟩
  · by_cases h2 : (l.length : Int) ≤ at_ + k
    · rw [gb_past l _ h2]
      clear h
      have h3 : (l.length : Int) - 1 - k < at_ := by omega
      go_enter Tryd.func81, Tryd.ntmps81
      go_wp2
      go_ret
      exact ⟨rfl, rfl⟩
    · have hs := h.isSome (at_ + k).toNat (by omega)
      have hc := h.at (at_ + k).toNat (by omega)
      have h3 : ¬ (l.length : Int) - 1 - k < at_ := by omega
      have e : gb l (at_ + k) = l.getD (at_ + k).toNat 0 := by unfold gb; rw [if_pos (by omega)]
      rw [e]
      clear h e
      go_enter Tryd.func81, Tryd.ntmps81
      go_wp2
      go_ret
      exact ⟨rfl, rfl⟩

@[local go_sem] theorem conv_8_64 (x : BitVec 8) (w : World) : (convert 5 44 (v8 x)).run Tryd.prog w = .ok (v64 (x.setWidth 64)) w := conv8_64 x _ _ _ w rfl rfl

set_option maxHeartbeats 400000 in
theorem gather_any (l : List Byte) (p : Option Addr) (c : Nat) (at_ : Int) (x y : Addr) (m : Nat) (w : World) (h : RdB w p l) (hl : l.length ≤ 140737488355328) (hm : m ≤ 8) (ha : -9223372036854775808 ≤ at_) (hb : at_ ≤ 9223372036854775807)
    (hx : w.cell? x = some (.int .i64 at_)) (hy : w.cell? y = some (.slice p l.length c)) :
    Calls Tryd.prog 70 #[.int .i64 m, .func (.func 81) #[] #[.pointer (some x), .pointer (some y)]] w fun e w' => e = .returned (v64 (num l at_ m)) ∧ w = w' := by
  go_enter Tryd.func70, Tryd.ntmps70
  go_wp2
  go_loop [5, 8] (fun n i => ∃ k : Nat, k ≤ m ∧ i = .int .i64 k ∧ n = v64 (num l at_ k)) (fun _ i => m - (intOf i).toNat)
  case atStart => exact ⟨0, Nat.zero_le _, rfl, rfl⟩
  case round =>
    obtain ⟨k, hk, rfl, rfl⟩ := hrel
    by_cases hlt : k < m
    · go_wp2_with (go_at_call 81; refine (from1_any l p c at_ k x y _ h hl (by omega) (by omega) ha hb hx hy).mono ?_; rintro e w' ⟨rfl, rfl⟩)
      go_round
      case rel => exact ⟨k + 1, by omega, by go_num, by rw [num]⟩
      case measure => simp [intOf] <;> omega
    · obtain rfl : k = m := by omega
      go_wp2
      go_ret
      exact ⟨rfl, rfl⟩

theorem gather4 (l : List Byte) (p : Option Addr) (c : Nat) (at_ : Int) (x y : Addr) (w : World) (h : RdB w p l) (hl : l.length ≤ 140737488355328) (ha : -9223372036854775808 ≤ at_) (hb : at_ ≤ 9223372036854775807)
    (hx : w.cell? x = some (.int .i64 at_)) (hy : w.cell? y = some (.slice p l.length c)) :
    Calls Tryd.prog 70 #[.int .i64 4, .func (.func 81) #[] #[.pointer (some x), .pointer (some y)]] w fun e w' => e = .returned (v64 (num l at_ 4)) ∧ w = w' :=
  gather_any l p c at_ x y 4 w h hl (by omega) ha hb hx hy
theorem gather8 (l : List Byte) (p : Option Addr) (c : Nat) (at_ : Int) (x y : Addr) (w : World) (h : RdB w p l) (hl : l.length ≤ 140737488355328) (ha : -9223372036854775808 ≤ at_) (hb : at_ ≤ 9223372036854775807)
    (hx : w.cell? x = some (.int .i64 at_)) (hy : w.cell? y = some (.slice p l.length c)) :
    Calls Tryd.prog 70 #[.int .i64 8, .func (.func 81) #[] #[.pointer (some x), .pointer (some y)]] w fun e w' => e = .returned (v64 (num l at_ 8)) ∧ w = w' :=
  gather_any l p c at_ x y 8 w h hl (by omega) ha hb hx hy

@[local go_sem] theorem conv_64_32 (x : BitVec 64) (w : World) : (convert 44 77 (v64 x)).run Tryd.prog w = .ok (v32 (x.setWidth 32)) w := conv64_32 x _ _ _ w rfl rfl

set_option maxHeartbeats 400000 in
theorem word_any (l : List Byte) (p : Option Addr) (c : Nat) (at_ : Int) (w : World) (h : RdB w p l) (hl : l.length ≤ 140737488355328) (ha : -9223372036854775808 ≤ at_) (hb : at_ ≤ 9223372036854775807) :
    Gives Tryd.prog 44 #[.slice p l.length c, .int .i64 at_] w (v32 ((num l at_ 4).setWidth 32)) := by
  unfold Gives
  have h' := h.ext (((Ext.refl w).alloc (.cells #[.slice p l.length c] 53)).alloc (.cells #[.int .i64 at_] 3))
  have hx : ((w.alloc (.cells #[.slice p l.length c] 53)).alloc (.cells #[.int .i64 at_] 3)).cell? ⟨w.heap.size + 1, 0, none⟩ = some (.int .i64 at_) := by simp
  have hy : ((w.alloc (.cells #[.slice p l.length c] 53)).alloc (.cells #[.int .i64 at_] 3)).cell? ⟨w.heap.size, 0, none⟩ = some (.slice p l.length c) := by simp
  go_enter Tryd.func44, Tryd.ntmps44
  go_wp2_with (first | (go_at_call 70; refine (gather4 l p c at_ _ _ _ h' hl ha hb hx hy).mono ?_; rintro e w' ⟨rfl, rfl⟩) | go_in)
  go_ret
  exact ⟨rfl, ((Ext.refl w).alloc _).alloc _⟩

set_option maxHeartbeats 400000 in
theorem long_any (l : List Byte) (p : Option Addr) (c : Nat) (at_ : Int) (w : World) (h : RdB w p l) (hl : l.length ≤ 140737488355328) (ha : -9223372036854775808 ≤ at_) (hb : at_ ≤ 9223372036854775807) :
    Gives Tryd.prog 54 #[.slice p l.length c, .int .i64 at_] w (v64 (num l at_ 8)) := by
  unfold Gives
  have h' := h.ext (((Ext.refl w).alloc (.cells #[.slice p l.length c] 53)).alloc (.cells #[.int .i64 at_] 3))
  have hx : ((w.alloc (.cells #[.slice p l.length c] 53)).alloc (.cells #[.int .i64 at_] 3)).cell? ⟨w.heap.size + 1, 0, none⟩ = some (.int .i64 at_) := by simp
  have hy : ((w.alloc (.cells #[.slice p l.length c] 53)).alloc (.cells #[.int .i64 at_] 3)).cell? ⟨w.heap.size, 0, none⟩ = some (.slice p l.length c) := by simp
  go_enter Tryd.func54, Tryd.ntmps54
  go_wp2_with (first | (go_at_call 70; refine (gather8 l p c at_ _ _ _ h' hl ha hb hx hy).mono ?_; rintro e w' ⟨rfl, rfl⟩) | go_in)
  go_ret
  exact ⟨rfl, ((Ext.refl w).alloc _).alloc _⟩

theorem mul_add_or (x : BitVec 64) (b : BitVec 8) : x * BitVec.ofInt 64 256 + b.setWidth 64 = b.setWidth 64 ||| (x <<< 8) := by
  have h1 : x * BitVec.ofInt 64 256 = x <<< 8 := by
    rw [BitVec.shiftLeft_eq_mul_twoPow]; rfl
  rw [h1, BitVec.add_comm]
  refine BitVec.add_eq_or_of_and_eq_zero _ _ ?_
  apply BitVec.eq_of_getLsbD_eq
  intro i hi
  simp only [BitVec.getLsbD_and, BitVec.getLsbD_setWidth, BitVec.getLsbD_shiftLeft, BitVec.getLsbD_zero]
  by_cases h : i < 8
  · simp [h]
  · simp [BitVec.getLsbD_of_ge b i (by omega)]
theorem num_succ (l : List Byte) : ∀ (r : Nat) (a : Int), num l a (r + 1) = (gb l a).setWidth 64 ||| (num l (a + 1) r <<< 8)
  | 0, a => by simp [num]
  | r + 1, a => by
    rw [num, num_succ l r a, num, BitVec.shiftLeft_or_distrib, BitVec.or_assoc]
    congr 2
    rw [← BitVec.shiftLeft_add]
    rw [show 8 * (r + 1) = 8 * r + 8 from by omega, show a + ((r + 1 : Nat) : Int) = a + 1 + (r : Int) from by omega]

set_option maxHeartbeats 400000 in
theorem number_any (l : List Byte) (p : Option Addr) (c : Nat) (at_ : Int) (m : Nat) (w : World) (h : RdB w p l) (hl : l.length ≤ 140737488355328) (hm : m ≤ 8) (ha : -9223372036854775808 ≤ at_) (hb : at_ ≤ 9223372036854775807) :
    Calls Tryd.prog 57 #[.slice p l.length c, .int .i64 at_, .int .i64 m] w fun e w' => e = .returned (v64 (num l at_ m)) ∧ w = w' := by
  go_enter Tryd.func57, Tryd.ntmps57
  go_wp2
  go_loop [7, 8] (fun n i => ∃ k : Nat, k ≤ m ∧ i = .int .i64 ((k : Int) - 1) ∧ n = v64 (num l (at_ + k) (m - k))) (fun _ i => (intOf i + 1).toNat)
  case atStart => exact ⟨m, Nat.le_refl _, rfl, by rw [Nat.sub_self]; rfl⟩
  case round =>
    obtain ⟨k, hk, rfl, rfl⟩ := hrel
    by_cases hlt : 0 < k
    · obtain ⟨j, rfl⟩ : ∃ j, k = j + 1 := ⟨k - 1, by omega⟩
      have e : num l (at_ + ((j : Nat) : Int)) (m - j) = num l (at_ + ((j + 1 : Nat) : Int)) (m - (j + 1)) * BitVec.ofInt 64 256 + (gb l (at_ + j)).setWidth 64 := by
        rw [mul_add_or, show m - j = (m - (j + 1)) + 1 from by omega, num_succ]
        rw [show at_ + ((j + 1 : Nat) : Int) = at_ + (j : Int) + 1 from by omega]
      have He := Lib.hid e
      clear e
      go_wp2_with (go_at_call 75; refine (at_any l p c at_ _ _ h hl (by omega) (by omega) ha hb).mono ?_; rintro e w' ⟨rfl, rfl⟩)
      go_round
      case rel => exact ⟨j, by omega, by go_num, by rw [He.out]; simp⟩
      case measure => simp [intOf] <;> omega
    · obtain rfl : k = 0 := by omega
      go_wp2
      go_ret
      exact ⟨by simp, rfl⟩
theorem number4 (l : List Byte) (p : Option Addr) (c : Nat) (at_ : Int) (w : World) (h : RdB w p l) (hl : l.length ≤ 140737488355328) (ha : -9223372036854775808 ≤ at_) (hb : at_ ≤ 9223372036854775807) :
    Gives Tryd.prog 57 #[.slice p l.length c, .int .i64 at_, .int .i64 4] w (v64 (num l at_ 4)) := Gives.of_same (number_any l p c at_ 4 w h hl (by omega) ha hb)
theorem number8 (l : List Byte) (p : Option Addr) (c : Nat) (at_ : Int) (w : World) (h : RdB w p l) (hl : l.length ≤ 140737488355328) (ha : -9223372036854775808 ≤ at_) (hb : at_ ≤ 9223372036854775807) :
    Gives Tryd.prog 57 #[.slice p l.length c, .int .i64 at_, .int .i64 8] w (v64 (num l at_ 8)) := Gives.of_same (number_any l p c at_ 8 w h hl (by omega) ha hb)

end Go.Proofs.YtalcgmhdgegebaaDoor
