/-
  Layer 1: the bytes of a number of 128 bits. No conditions.
  Layer 1: the reference's bytes of a number. No conditions but on how many.
-/
import Derived.Test.YtmgopjeaehmbfaaDoorOct4
import Derived.Test.YtmgopjeaehmbfaaDoorOwn
namespace Go.Proofs.YtmgopjeaehmbfaaDoor
open Go Go.RowKit
set_option maxRecDepth 100000
set_option linter.unusedVariables false
set_option linter.unusedSimpArgs false

attribute [go_sem] putL_length
theorem over_low (lo : List Byte) (h : lo.length = 8) : over (List.replicate 16 0) 0 (lo.take 16) = lo ++ List.replicate 8 0 := by
  rw [List.take_of_length_le (by omega)]
  simp [over, h]
theorem over_high (lo hi : List Byte) (h : lo.length = 8) (h2 : hi.length = 8) : over (lo ++ List.replicate 8 0) 8 (hi.take 8) = lo ++ hi := by
  rw [List.take_of_length_le (by omega)]
  simp [over, h, h2, List.drop_append]

/-! ### The reference's bytes of a number -/
theorem putL_succ (n : BitVec 64) (m : Nat) : putL n (m + 1) = putL n m ++ [(n >>> (8 * m)).setWidth 8] := by
  simp [putL, List.range_succ]
theorem rem256 (n : BitVec 64) : (n % 256#64).setWidth 8 = n.setWidth 8 := by
  apply BitVec.eq_of_toNat_eq
  simp [BitVec.toNat_umod]
theorem quo256 (n : BitVec 64) (k : Nat) : (n >>> (8 * k)) / 256#64 = n >>> (8 * (k + 1)) := by
  apply BitVec.eq_of_toNat_eq
  simp only [BitVec.toNat_udiv, BitVec.toNat_ushiftRight, Nat.shiftRight_eq_div_pow, BitVec.toNat_ofNat]
  rw [Nat.div_div_eq_div_mul, show 8 * (k + 1) = 8 * k + 8 from by omega, Nat.pow_add]

end Go.Proofs.YtmgopjeaehmbfaaDoor
namespace Go.Proofs.YtmgopjeaehmbfaaDoor
open Go Go.RowKit
set_option maxRecDepth 100000
set_option linter.unusedVariables false
set_option linter.unusedSimpArgs false

@[local go_sem] theorem conv_64_8' (x : BitVec 64) (w : World) : (convert 102 5 (v64 x)).run Tryd.prog w = .ok (v8 (x.setWidth 8)) w := conv64_8 x _ _ _ w rfl rfl

set_option maxHeartbeats 1000000 in
theorem put_any (n : BitVec 64) (m : Nat) (w : World) (hm : m ≤ 1000) :
    Calls Tryd.prog 92 #[v64 n, .int .i64 m] w fun e w' => ∃ v, e = .returned v ∧ OwnB w' w.heap.size v (putL n m) ∧ Ext w w' := by
  go_enter Tryd.func92, Tryd.ntmps92
  go_wp2
  go_loopw [0, 5, 6] (fun nv v i wr => ∃ k : Nat, k ≤ m ∧ i = .int .i64 k ∧ nv = v64 (n >>> (8 * k)) ∧ OwnB wr w.heap.size v (putL n k) ∧ Ext w wr) (fun _ _ i _ => m - (intOf i).toNat)
  case atStart => exact ⟨0, Nat.zero_le _, rfl, by simp, OwnB.nil _ _, Ext.refl w⟩
  case round =>
    obtain ⟨k, hk, rfl, rfl, hown, hx⟩ := hrel
    by_cases hlt : k < m
    · obtain ⟨p0, c0, hv0, _, _⟩ := hown.slice
      have e1 := rem256 (n >>> (8 * k))
      have e2 := quo256 n k
      have E2 := Lib.hid e2
      have hs := putL_succ n k
      have Hs := Lib.hid hs
      clear hs e2
      have hbase := hx.size
      have hlk := putL_length n k
      have Hlk := Lib.hid hlk
      clear hlk
      go_wp2_with (with_reducible show wpList _ _ _ _ _ _; refine wpl_app (m := [(n >>> (8 * k)).setWidth 8]) rfl rfl rfl rfl rfl (hown.alloc _) (one_new _ _) (by simp) (by have := Hlk.out; simp; omega) (by simp; omega) ?_)
      intro v' w' ho' hb' _
      rw [← Hs.out] at ho'
      have hx' : Ext w w' := (hx.alloc _).trans' hb'
      go_wp2
      go_roundw
      case rel => exact ⟨k + 1, by omega, by go_num, by rw [← E2.out], ho', hx'⟩
      case measure => simp [intOf] <;> omega
    · obtain rfl : k = m := by omega
      go_wp2
      go_ret
      exact ⟨_, rfl, hown, hx⟩

theorem put8_any (n : BitVec 64) (w : World) : Calls Tryd.prog 92 #[v64 n, .int .i64 8] w fun e w' => ∃ v, e = .returned v ∧ OwnB w' w.heap.size v (putL n 8) ∧ Ext w w' := put_any n 8 w (by omega)
theorem put8R (n : BitVec 64) (w : World) : GivesR Tryd.prog 92 #[v64 n, .int .i64 8] w (BytesS (putL n 8)) := (put_any n 8 w (by omega)).mono fun _ _ ⟨v, h1, h2, h3⟩ => ⟨v, h1, h2.reads, h3⟩
theorem put4R (n : BitVec 64) (w : World) : GivesR Tryd.prog 92 #[v64 n, .int .i64 4] w (BytesS (putL n 4)) := (put_any n 4 w (by omega)).mono fun _ _ ⟨v, h1, h2, h3⟩ => ⟨v, h1, h2.reads, h3⟩

theorem putlong_any' (n : BitVec 64) (w : World) : Gives Tryd.prog 99 #[v64 n] w (A8 (putL n 8)) := by
  have := putlong_any n w; rwa [BitVec.setWidth_eq] at this

end Go.Proofs.YtmgopjeaehmbfaaDoor
