/-
  THE STATEMENT OctetSteps, PROVED: a longer number's bytes are those of its halves, one behind the other. No conditions.
-/
import Derived.Test.YtmapcfhhklapbaaOct3
namespace Go.Proofs.Ytmapcfhhklapbaa
open Go Go.RowKit

theorem num_split (l : List Byte) (a : Int) : num l a 8 = (num l a 4) ||| (num l (a + 4) 4 <<< 32) := by
  simp only [num]
  have e : ∀ x : BitVec 64, (0 : BitVec 64) ||| x = x := by simp
  simp only [BitVec.shiftLeft_or_distrib, ← BitVec.shiftLeft_add, Int.add_assoc, BitVec.or_assoc]
  simp
theorem num4_lt (l : List Byte) (a : Int) : (num l a 4).toNat < 2 ^ 32 := by
  have h : ∀ (x : BitVec 8) (k : Nat), k ≤ 24 → ((x.setWidth 64) <<< k).toNat < 2 ^ 32 := by
    intro x k hk
    simp only [BitVec.toNat_shiftLeft, BitVec.toNat_setWidth, Nat.shiftLeft_eq]
    have h1 : x.toNat < 256 := x.isLt
    refine Nat.lt_of_le_of_lt (Nat.mod_le _ _) ?_
    rw [Nat.mod_eq_of_lt (by omega)]
    calc x.toNat * 2 ^ k < 256 * 2 ^ k := Nat.mul_lt_mul_of_pos_right h1 (Nat.two_pow_pos k)
      _ ≤ 256 * 2 ^ 24 := Nat.mul_le_mul_left _ (Nat.pow_le_pow_right (by omega) hk)
      _ = 2 ^ 32 := by decide
  simp only [num, BitVec.toNat_or]
  exact Nat.or_lt_two_pow (Nat.or_lt_two_pow (Nat.or_lt_two_pow (Nat.or_lt_two_pow (by simp) (h _ 0 (by omega))) (h _ 8 (by omega))) (h _ 16 (by omega))) (h _ 24 (by omega))
theorem num4_wide (l : List Byte) (a : Int) : ((num l a 4).setWidth 32).setWidth 64 = num l a 4 := by
  apply BitVec.eq_of_toNat_eq
  simp only [BitVec.toNat_setWidth]
  have := num4_lt l a
  omega

@[local go_sem] theorem conv_16_i (x : BitVec 16) (w : World) : (convert 23 3 (v16 x)).run Try.prog w = .ok (.int .i64 x.toNat) w := conv16_i64 x _ _ _ w rfl rfl
@[local go_sem] theorem conv_32_64 (x : BitVec 32) (w : World) : (convert 24 26 (v32 x)).run Try.prog w = .ok (v64 (x.setWidth 64)) w := conv32_64 x _ _ _ w rfl rfl

set_option maxHeartbeats 1000000 in
theorem steps_walk (l : List Byte) (p : Option Addr) (c : Nat) (at_ : BitVec 16) (w : World) (h : RdB w p l) (hm : l.length ≤ maxLen) :
    Calls Try.prog 3 #[.slice p l.length c, v16 at_] w fun e w' => e = .returned (.bool true) ∧ Ext w w' := by
  unfold maxLen at hm
  have ha := at_.isLt
  by_cases h1 : (300 : Int) < l.length
  · clear h
    go_enter Try.func3, Try.ntmps3
    go_wp2
    go_ret
    exact ⟨rfl, Ext.refl w⟩
  by_cases h2 : (1000 : Int) < at_.toNat
  · clear h
    go_enter Try.func3, Try.ntmps3
    go_wp2
    go_ret
    exact ⟨rfl, Ext.refl w⟩
  have e1 := num_split l at_.toNat
  rw [← num4_wide l at_.toNat, ← num4_wide l (at_.toNat + 4)] at e1
  have E1 := Lib.hid e1
  clear e1
  go_enter Try.func3, Try.ntmps3
  go_wp2_with fail
  refine (word_any l p c at_.toNat _ h (by omega) (by omega) (by omega)).mono ?_
  rintro e w1 ⟨rfl, hx1⟩
  go_wp2_with fail
  refine (word_any l p c (at_.toNat + 4) _ (h.ext hx1) (by omega) (by omega) (by omega)).mono ?_
  rintro e w2 ⟨rfl, hx2⟩
  have hw2 := hx1.trans hx2
  go_wp2_with fail
  refine (long_any l p c at_.toNat _ (h.ext hw2) (by omega) (by omega) (by omega)).mono ?_
  rintro e w3 ⟨rfl, hx3⟩
  have hw3 := hw2.trans hx3
  rw [E1.out]
  go_wp2_with fail
  refine (load_any l p c _ (h.ext hw3) (by omega)).mono ?_
  rintro e w4 ⟨rfl, hx4⟩
  have hw4 := hw3.trans hx4
  go_wp2_with fail
  refine (long_any l p c 0 _ (h.ext hw4) (by omega) (by omega) (by omega)).mono ?_
  rintro e w5 ⟨rfl, hx5⟩
  have hw5 := hw4.trans hx5
  go_wp2_with fail
  refine (long_any l p c 8 _ (h.ext hw5) (by omega) (by omega) (by omega)).mono ?_
  rintro e w6 ⟨rfl, hx6⟩
  have hw6 := hw5.trans hx6
  go_wp2_with fail
  refine (awake1 _).mono ?_
  rintro e w7 ⟨rfl, hx7⟩
  go_wp2_with fail
  go_ret
  exact ⟨rfl, hw6.trans hx7⟩

end Go.Proofs.Ytmapcfhhklapbaa
