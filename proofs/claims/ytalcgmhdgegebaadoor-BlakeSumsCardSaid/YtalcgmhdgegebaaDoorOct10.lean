/-
  Layer 1: the reference's rows: padded, marked, put together by exclusive or. Conditions: rows of at most 2^46 bytes, sizes to 2^31.
-/
import Derived.Test.YtalcgmhdgegebaaDoorOct9
namespace Go.Proofs.YtalcgmhdgegebaaDoor
open Go Go.RowKit
set_option maxRecDepth 100000
set_option linter.unusedVariables false
set_option linter.unusedSimpArgs false

/-- A row and so many noughts. (Behind a name: not to be laid open by the walk.) -/
def padN (l : List Byte) (j : Nat) : List Byte := l ++ List.replicate j 0
theorem padN_length (l : List Byte) (j : Nat) : (padN l j).length = l.length + j := by simp [padN]
theorem padN_succ (l : List Byte) (j : Nat) : padN l j ++ [0#8] = padN l (j + 1) := by simp [padN, List.replicate_succ']
theorem padN_pad (l : List Byte) (s : Int) : padN l (roomN l.length s) = pad l s := rfl
theorem room_not (n j : Nat) (s : Int) (hs : 0 < s) (hj : j < roomN n s) : ((n + j : Nat) : Int) % s ≠ 0 := by
  obtain ⟨k, rfl⟩ := Int.eq_ofNat_of_zero_le (show 0 ≤ s by omega)
  have hk : 0 < k := by omega
  unfold roomN at hj
  rw [if_neg (by omega), Int.toNat_natCast] at hj
  have hlt : n % k < k := Nat.mod_lt _ hk
  have hne : n % k ≠ 0 := by intro h; rw [h, Nat.sub_zero, Nat.mod_self] at hj; omega
  rw [Nat.mod_eq_of_lt (by omega)] at hj
  have e : (n + j) % k = n % k + j := by
    rw [Nat.add_mod, Nat.mod_eq_of_lt (show j < k by omega), Nat.mod_eq_of_lt (by omega)]
  intro h
  have : ((n + j) % k : Nat) = 0 := by have := h; rw [← Int.natCast_emod] at this; omega
  omega
theorem room_is (n : Nat) (s : Int) (hs : 0 < s) : ((n + roomN n s : Nat) : Int) % s = 0 := by
  obtain ⟨k, rfl⟩ := Int.eq_ofNat_of_zero_le (show 0 ≤ s by omega)
  have hk : 0 < k := by omega
  unfold roomN
  rw [if_neg (by omega), Int.toNat_natCast, ← Int.natCast_emod]
  have hlt : n % k < k := Nat.mod_lt _ hk
  have : (n + (k - n % k) % k) % k = 0 := by
    by_cases h : n % k = 0
    · rw [h, Nat.sub_zero, Nat.mod_self, Nat.add_zero, h]
    · rw [Nat.mod_eq_of_lt (show k - n % k < k by omega)]
      have e : n + (k - n % k) = k * (n / k) + k := by have := Nat.div_add_mod n k; omega
      rw [e, Nat.mul_add_mod, Nat.mod_self]
  rw [this]; rfl

set_option maxHeartbeats 1000000 in
theorem rpadded_any (l : List Byte) (p : Option Addr) (c : Nat) (s : Int) (w0 : World) (h : RdB w0 p l) (hc : l.length ≤ c) (hl : l.length ≤ 70368744177664) (h0 : -9223372036854775808 ≤ s) (h1 : s ≤ 2147483648) :
    Calls Tryd.prog 60 #[.slice p l.length c, .int .i64 s] w0 fun e w' => ∃ v, e = .returned v ∧ OwnB w' w0.heap.size v (pad l s) ∧ Ext w0 w' := by
  have hr := roomN_lt l.length s
  have hp := padN_pad l s
  have hroom0 : s ≤ 0 → roomN l.length s = 0 := fun hs => by unfold roomN; rw [if_pos (by omega)]
  have hno := fun (j : Nat) (hs : 0 < s) (hj : j < roomN l.length s) => room_not l.length j s hs hj
  have hyes := fun (hs : 0 < s) => room_is l.length s hs
  generalize roomN l.length s = R at *
  have Hp := Lib.hid hp
  clear hp
  go_enter Tryd.func60, Tryd.ntmps60
  go_wp2_with (with_reducible show wpList _ _ _ _ _ _; refine wpl_app (m := l) rfl rfl rfl rfl rfl (OwnB.made w0 _ (Nat.le_refl _)) (h.ext ((Ext.refl _).alloc _)) hc (by simp; omega) (by simp) ?_)
  intro v w1 ho hb _
  have hx1 : Ext w0 w1 := ((Ext.refl w0).alloc _).trans' hb
  obtain ⟨q0, d0, rfl, _, _⟩ := ho.slice
  go_wp2
  go_loopw [5] (fun u wr => ∃ k : Nat, k ≤ R ∧ OwnB wr w0.heap.size u (padN l k) ∧ Ext w0 wr) (fun u _ => (l.length + R) - (match u with | .slice _ n _ => n | _ => 0))
  case atStart => exact ⟨0, Nat.zero_le _, by simpa [padN] using ho, hx1⟩
  case round =>
    obtain ⟨k, hk, hown, hx⟩ := hrel
    obtain ⟨q, d, rfl, hd, hrd⟩ := hown.slice
    have hlen := padN_length l k
    have hsz := hx.size
    rw [hlen] at hd hown ⊢
    by_cases hlt : k < R
    · have hs : 0 < s := by
        by_cases hs : 0 < s
        · exact hs
        · have := hroom0 (by omega); omega
      have hne := hno k hs hlt
      have hne2 : (((l.length : Int) + (k : Int)) % s == 0) = false := by simpa using hne
      have hs2 : (0 : Int) < s := hs
      have hsne : (s == 0) = false := by simp; omega
      have e1 := padN_succ l k
      have HE := Lib.hid e1
      have Hlen := Lib.hid hlen
      clear e1 hlen hne hno hyes
      go_wp2_with (with_reducible show wpList _ _ _ _ _ _; refine wpl_app (m := [0#8]) rfl rfl rfl rfl rfl (hown.alloc _) (one_new _ _) (by simp) (by have := Hlen.out; simp; omega) (by simp; omega) ?_)
      intro v' w' ho' hb' _
      rw [HE.out] at ho'
      obtain ⟨q', d', rfl, _, _⟩ := ho'.slice
      have hx' : Ext w0 w' := (hx.alloc _).trans' hb'
      have hl2 := padN_length l (k + 1)
      go_wp2
      go_roundw
      case rel => exact ⟨k + 1, by omega, ho', hx'⟩
      case measure => simp [padN_length]; omega
    · obtain rfl : k = R := by omega
      rw [Hp.out] at hown
      by_cases hs : 0 < s
      · have hy := hyes hs
        have hy2 : (((l.length : Int) + (k : Int)) % s == 0) = true := by simpa using hy
        have hsne : (s == 0) = false := by simp; omega
        clear hno hyes hy hlen
        go_wp2
        go_ret
        exact ⟨_, rfl, hown, hx⟩
      · have hs' : s ≤ 0 := by omega
        obtain rfl := hroom0 hs'
        clear hno hyes hlen hroom0 Hp
        simp only [Nat.add_zero] at *
        go_wp2
        go_ret
        exact ⟨_, rfl, hown, hx⟩

/-- Rows, a mark and a size, as a value. -/
abbrev RowsV (a b : List Byte) (p q : Option Addr) (c d : Nat) (m : Byte) (s : Int) : Value := .agg #[.slice p a.length c, .slice q b.length d, v8 m, .int .i64 s]

end Go.Proofs.YtalcgmhdgegebaaDoor
