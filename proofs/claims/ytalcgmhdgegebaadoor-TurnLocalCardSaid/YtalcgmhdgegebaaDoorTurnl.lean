/-
  Layer 3, plain: a byte that is another one. No program in sight, no conditions.
-/
import Derived.Test.YtalcgmhdgegebaaDoorTurnq
namespace Go.Proofs.YtalcgmhdgegebaaDoor
open Go
set_option linter.unusedVariables false
set_option linter.unusedSimpArgs false

theorem tms_inj (c u v : Byte) (hc : c ≠ 0#8) (h : tms c u = tms c v) : u = v := by
  have : tms c (u ^^^ v) = 0#8 := by rw [tms_xb, h, BitVec.xor_self]
  rcases (tms_eq_zero _ _).1 this with h | h
  · exact absurd h hc
  · exact BitVec.xor_eq_zero_iff.1 h
theorem mixes_ne (k : Nat) (h : k < 4) : nth mixesL k ≠ 0#8 := by
  rcases (show k = 0 ∨ k = 1 ∨ k = 2 ∨ k = 3 by omega) with rfl | rfl | rfl | rfl <;> decide
theorem cmb_one (r k0 : Nat) (hk : k0 < 4) (x y : Nat → Byte) (h : ∀ k, k < 4 → k ≠ k0 → x k = y k) (e : cmb mixesL r x = cmb mixesL r y) : x k0 = y k0 := by
  have hc : ∀ k, nth mixesL ((k + 4 - r) % 4) ≠ 0#8 := fun k => mixes_ne _ (Nat.mod_lt _ (by omega))
  unfold cmb at e
  rcases (show k0 = 0 ∨ k0 = 1 ∨ k0 = 2 ∨ k0 = 3 by omega) with rfl | rfl | rfl | rfl
  · rw [h 1 (by omega) (by omega), h 2 (by omega) (by omega), h 3 (by omega) (by omega)] at e
    simp only [BitVec.xor_left_inj, BitVec.xor_right_inj] at e
    exact tms_inj _ _ _ (hc 0) e
  · rw [h 0 (by omega) (by omega), h 2 (by omega) (by omega), h 3 (by omega) (by omega)] at e
    simp only [BitVec.xor_left_inj, BitVec.xor_right_inj] at e
    exact tms_inj _ _ _ (hc 1) e
  · rw [h 0 (by omega) (by omega), h 1 (by omega) (by omega), h 3 (by omega) (by omega)] at e
    simp only [BitVec.xor_left_inj, BitVec.xor_right_inj] at e
    exact tms_inj _ _ _ (hc 2) e
  · rw [h 0 (by omega) (by omega), h 1 (by omega) (by omega), h 2 (by omega) (by omega)] at e
    simp only [BitVec.xor_left_inj, BitVec.xor_right_inj] at e
    exact tms_inj _ _ _ (hc 3) e
/-- The column to which a byte comes. -/
def colOf (at_ : Nat) : Nat := (at_ / 4 + 4 - at_ % 4) % 4
theorem other_ne (b : List Byte) (at_ : Nat) (y : Byte) (hb : b.length = 16) (ha : at_ < 16) (hy : y ≠ 0#8) (j : Nat) (hj : j < 16) : nth (setN b at_ (nth b at_ ^^^ y)) j = if at_ = j then nth b at_ ^^^ y else nth b j := nth_set (by omega)
theorem xor_ne (x y : Byte) (h : y ≠ 0#8) : x ^^^ y ≠ x := fun e => h (by
  have := congrArg (x ^^^ ·) e
  simpa [← BitVec.xor_assoc] using this)
theorem at_shp (a k c : Nat) (ha : a < 16) (hk : k < 4) (hc : c < 4) : a = shp k c ↔ k = a % 4 ∧ c = colOf a := by
  have : ∀ a : Fin 16, ∀ k c : Fin 4, a.val = shp k.val c.val ↔ k.val = a.val % 4 ∧ c.val = colOf a.val := by decide
  exact this ⟨a, ha⟩ ⟨k, hk⟩ ⟨c, hc⟩
theorem local_rnd (b key : List Byte) (at_ : Nat) (y : Byte) (hb : b.length = 16) (ha : at_ < 16) (hy : y ≠ 0#8) (i : Nat) (hi : i < 16) : (nth (rnd b key) i = nth (rnd (setN b at_ (nth b at_ ^^^ y)) key) i) ↔ ¬ i / 4 = colOf at_ := by
  have hr : i % 4 < 4 := Nat.mod_lt _ (by omega)
  rw [rnd_cmb b key i hi, rnd_cmb _ key i hi, BitVec.xor_right_inj]
  have hs : ∀ k, k < 4 → nth (setN b at_ (nth b at_ ^^^ y)) (shp k (i / 4)) = if at_ = shp k (i / 4) then nth b at_ ^^^ y else nth b (shp k (i / 4)) := fun k hk => other_ne b at_ y hb ha hy _ (shp_lt _ _ hk)
  have hat : ∀ k, k < 4 → (at_ = shp k (i / 4) ↔ k = at_ % 4 ∧ i / 4 = colOf at_) := by
    intro k hk
    exact at_shp at_ k (i / 4) ha hk (by omega)
  constructor
  · intro e hcol
    have h0 : at_ % 4 < 4 := Nat.mod_lt _ (by omega)
    have := cmb_one (i % 4) (at_ % 4) h0 _ _ (fun k hk hne => by
      have : ¬ at_ = shp k (i / 4) := fun h => hne ((hat k hk).1 h).1
      show bxTo (nth b (shp k (i / 4))) = bxTo (nth (setN b at_ (nth b at_ ^^^ y)) (shp k (i / 4)))
      rw [hs k hk, if_neg this]) e
    have h1 := (hat (at_ % 4) h0).2 ⟨rfl, hcol⟩
    have h2 := to_inj this
    rw [hs _ h0, if_pos h1, ← h1] at h2
    exact xor_ne _ _ hy h2.symm
  · intro hcol
    apply cmb_congr
    intro k hk
    have : ¬ at_ = shp k (i / 4) := fun h => hcol ((hat k hk).1 h).2
    show bxTo (nth b (shp k (i / 4))) = bxTo (nth (setN b at_ (nth b at_ ^^^ y)) (shp k (i / 4)))
    rw [hs k hk, if_neg this]
theorem local_last (b key : List Byte) (at_ : Nat) (y : Byte) (hb : b.length = 16) (ha : at_ < 16) (hy : y ≠ 0#8) (i : Nat) (hi : i < 16) : (nth (last b key) i = nth (last (setN b at_ (nth b at_ ^^^ y)) key) i) ↔ ¬ i = 4 * colOf at_ + at_ % 4 := by
  have hr : i % 4 < 4 := Nat.mod_lt _ (by omega)
  rw [last, last, nth_tab hi, nth_tab hi, lastB, lastB, BitVec.xor_left_inj, other_ne b at_ y hb ha hy _ (shp_lt _ _ hr)]
  have hat : at_ = shp (i % 4) (i / 4) ↔ i = 4 * colOf at_ + at_ % 4 := by rw [at_shp at_ _ _ ha hr (by omega)]; have : colOf at_ < 4 := Nat.mod_lt _ (by omega); omega
  constructor
  · intro e h
    have h1 := hat.2 h
    have h2 := to_inj e
    rw [if_pos h1, ← h1] at h2
    exact xor_ne _ _ hy h2.symm
  · intro h
    rw [if_neg (fun e => h (hat.1 e))]

end Go.Proofs.YtalcgmhdgegebaaDoor
