/-
  Layer 2: products, powers, inverses. No conditions.
-/
import Derived.Test.YtalcgmhdgegebaaDoorTypes
import Derived.Test.YtalcgmhdgegebaaDoorGfp
namespace Go.Proofs.YtalcgmhdgegebaaDoor
open Go Go.RowKit
set_option maxRecDepth 100000
set_option linter.unusedVariables false
set_option linter.unusedSimpArgs false

theorem double_any (a : Byte) (w : World) : Calls Tryd.prog 67 #[v8 a] w fun e w' => e = .returned (v8 (dbl a)) ∧ w = w' := by
  go_enter Tryd.func67, Tryd.ntmps67
  go_wp2
  go_ret
  exact ⟨rfl, rfl⟩

theorem shr_lt (b : Byte) (h : b ≠ 0#8) : (b >>> 1).toNat < b.toNat := by
  have : b.toNat ≠ 0 := fun e => h (BitVec.eq_of_toNat_eq e)
  simp only [BitVec.toNat_ushiftRight, Nat.shiftRight_eq_div_pow]; omega
theorem shr_fit (b : Byte) (n : Nat) (h : b.toNat < 2 ^ (n + 1)) : (b >>> 1).toNat < 2 ^ n := by
  simp only [BitVec.toNat_ushiftRight, Nat.shiftRight_eq_div_pow]; rw [Nat.pow_succ] at h; omega

set_option maxHeartbeats 1000000 in
theorem times_any (a0 b0 : Byte) (w : World) : Calls Tryd.prog 79 #[v8 a0, v8 b0] w fun e w' => e = .returned (v8 (tms a0 b0)) ∧ w = w' := by
  have h0 := tmsF_tms a0 b0
  have hb0 : b0.toNat < 2 ^ 8 := b0.isLt
  generalize tms a0 b0 = R at *
  have H0 := Lib.hid h0
  have Hb0 := Lib.hid hb0
  clear h0 hb0
  go_enter Tryd.func79, Tryd.ntmps79
  go_wp2
  refine wp_scope_goto 0 (fun a_ w_ => ∃ (a b s : Byte) (n : Nat) (u2 u3 u6 u7 u8 u9 u10 u11 u12 u13 u14 u15 u16 u17 u18 : Value), a_ = { tmps := #[v8 a, v8 b, u2, u3, (.int .u8 0), v8 s, u6, u7, u8, u9, u10, u11, u12, u13, u14, u15, u16, u17, u18], defers := [] } ∧ b.toNat < 2 ^ n ∧ tmsF n a b s = R ∧ w = w_) (fun a_ _ => (intOf (a_.tmps.getD 1 undef)).toNat) rfl ?_ ?_
  · rintro a' w' ⟨a, b, s, n, u2, u3, u6, u7, u8, u9, u10, u11, u12, u13, u14, u15, u16, u17, u18, rfl, ⟨hn, hR, rfl⟩⟩
    have Hn := Lib.hid hn
    have HR := Lib.hid hR
    clear hn hR
    by_cases hb : b = 0#8
    · subst hb
      have hr := HR.out
      rw [tmsF_end] at hr
      have Hr := Lib.hid hr
      clear hr
      go_wp2
      simp only [Exit.jump]
      go_ret
      exact ⟨by rw [Hr.out]; rfl, rfl⟩
    · have hb2 : (b == 0#8) = false := by simpa using hb
      have hlt := shr_lt b hb
      have Hlt := Lib.hid hlt
      have Hb := Lib.hid hb
      clear hb hlt
      go_wp2_with (go_at_call 67; (with_reducible refine (double_any _ _).mono ?_); rintro e w' ⟨rfl, rfl⟩)
      go_step3
      cases n with
      | zero => exact absurd Hn.out (by have := Hb.out; intro h; exact this (BitVec.eq_of_toNat_eq (by simp at h ⊢; omega)))
      | succ n => exact ⟨rfl, ⟨_, _, _, _, _, _, _, _, _, _, _, _, _, _, _, _, _, _, _, rfl, ⟨shr_fit b n Hn.out, HR.out, rfl⟩⟩, Hlt.out⟩
  · intro hp
    go_wp2
    go_step3
    rename_i hK
    exact hK _ _ (hp _ _ ⟨_, _, _, _, _, _, _, _, _, _, _, _, _, _, _, _, _, _, _, rfl, ⟨Hb0.out, H0.out, rfl⟩⟩)

@[go_sem] theorem and1_nat (t : TypeId) (N : Nat) : binOp .and t (.int .i64 (N : Int)) (.int .i64 1) = pure (.int .i64 ((N % 2 : Nat) : Int)) := by
  rw [binOp_and]
  show pure (Value.int .i64 (IntKind.i64.wrap ((BitVec.ofInt 64 (N : Int) &&& BitVec.ofInt 64 1).toNat : Nat))) = _
  have e : (BitVec.ofInt 64 (N : Int) &&& BitVec.ofInt 64 1).toNat = N % 2 := by
    rw [ofInt_nat', show BitVec.ofInt 64 1 = 1#64 from by decide, BitVec.toNat_and]
    simp only [BitVec.toNat_ofNat, show (1 % 2 ^ 64) = 1 from by decide, Nat.and_one_is_mod]
    omega
  rw [e, IntWalk.i64_in _ (by omega)]
theorem bits_and1 (N : Nat) : bits .and .i64 (N : Int) 1 = ((N % 2 : Nat) : Int) := by
  show IntKind.i64.wrap ((BitVec.ofInt 64 (N : Int) &&& BitVec.ofInt 64 1).toNat : Nat) = _
  have e : (BitVec.ofInt 64 (N : Int) &&& BitVec.ofInt 64 1).toNat = N % 2 := by
    rw [ofInt_nat', show BitVec.ofInt 64 1 = 1#64 from by decide, BitVec.toNat_and]
    simp only [BitVec.toNat_ofNat, show (1 % 2 ^ 64) = 1 from by decide, Nat.and_one_is_mod]
    omega
  rw [e, IntWalk.i64_in _ (by omega)]
@[go_sem] theorem shr1_nat (t : TypeId) (N : Nat) : binOp .shr t (.int .i64 (N : Int)) (.int .u64 1) = pure (.int .i64 ((N / 2 : Nat) : Int)) := by
  simp only [binOp_shr, Op.shift]
  have : ((N : Int).fdiv (2 ^ (min (1 : Int).toNat IntKind.i64.bits))) = ((N / 2 : Nat) : Int) := by
    rw [show min (1 : Int).toNat IntKind.i64.bits = 1 from by decide, Int.fdiv_eq_ediv_of_nonneg _ (by decide)]; omega
  rw [this]; rfl

theorem rotl_any (x : Byte) (k : Nat) (w : World) (hk : k < 8) : Calls Tryd.prog 80 #[v8 x, .int .i64 k] w fun e w' => e = .returned (v8 (rotl8 x k)) ∧ w = w' := by
  have hb : bits .and .u64 (k : Int) 7 = k := by
    have : ∀ k : Nat, k < 8 → bits .and .u64 (k : Int) 7 = k := by decide
    exact this k hk
  have h8 : ((8 : Int) - (k : Int)).toNat = 8 - k := by omega
  go_enter Tryd.func80, Tryd.ntmps80
  go_wp2
  go_ret
  exact ⟨rfl, rfl⟩

set_option maxHeartbeats 1000000 in
theorem box_any (i : Byte) (w : World) : Calls Tryd.prog 69 #[v8 i] w fun e w' => e = .returned (v8 (boxF i 5)) ∧ w = w' := by
  go_enter Tryd.func69, Tryd.ntmps69
  go_wp2
  go_loop [3, 5] (fun o k => ∃ n : Nat, n ≤ 5 ∧ k = .int .i64 n ∧ o = v8 (boxF i n)) (fun _ k => 5 - (intOf k).toNat)
  case atStart => exact ⟨0, by omega, rfl, rfl⟩
  case round =>
    obtain ⟨n, hn, rfl, rfl⟩ := hrel
    by_cases hlt : n < 5
    · go_wp2_with (go_at_call 80; (with_reducible refine (rotl_any _ n _ (by omega)).mono ?_); rintro e w' ⟨rfl, rfl⟩)
      go_round
      case rel => exact ⟨n + 1, by omega, by go_num, rfl⟩
      case measure => simp [intOf] <;> omega
    · obtain rfl : n = 5 := by omega
      go_wp2
      go_ret
      exact ⟨rfl, rfl⟩

end Go.Proofs.YtalcgmhdgegebaaDoor
