/-
  Layer 3, plain: tables of columns, rounds. No program in sight, no conditions.
-/
import Derived.Test.YtalcgmhdgegebaaDoorGfp
namespace Go.Proofs.YtalcgmhdgegebaaDoor
open Go
set_option linter.unusedVariables false
set_option linter.unusedSimpArgs false

def mixesL : List Byte := [2#8, 3#8, 1#8, 1#8]
def unmixesL : List Byte := [14#8, 11#8, 13#8, 9#8]
/-- What a byte in a row brings to a column: its first r bytes. -/
def brg (by_ : List Byte) (row : Nat) (a : Byte) : Nat → BitVec 32
  | 0 => 0#32
  | r + 1 => brg by_ row a r ||| ((tms (nth by_ ((row + 4 - r) % 4)) a).setWidth 32 <<< (8 * r))
def mixF (i : Nat) : BitVec 32 := brg mixesL (i / 256) (bxTo (BitVec.ofNat 8 (i % 256))) 4
def unmixF (i : Nat) : BitVec 32 := brg unmixesL (i / 256) (BitVec.ofNat 8 (i % 256)) 4
def mixT : List (BitVec 32) := tab 1024 mixF
def unmixT : List (BitVec 32) := tab 1024 unmixF
theorem mixT_length : mixT.length = 1024 := tab_length
theorem unmixT_length : unmixT.length = 1024 := tab_length
theorem mixT_nth (row : Nat) (a : Byte) (h : row < 4) : nth mixT (row * 256 + a.toNat) = brg mixesL row (bxTo a) 4 := by
  have ha : a.toNat < 256 := a.isLt
  rw [mixT, nth_tab (by omega), mixF, show (row * 256 + a.toNat) / 256 = row from by omega, show (row * 256 + a.toNat) % 256 = a.toNat from by omega]
  simp
theorem unmixT_nth (row : Nat) (a : Byte) (h : row < 4) : nth unmixT (row * 256 + a.toNat) = brg unmixesL row a 4 := by
  have ha : a.toNat < 256 := a.isLt
  rw [unmixT, nth_tab (by omega), unmixF, show (row * 256 + a.toNat) / 256 = row from by omega, show (row * 256 + a.toNat) % 256 = a.toNat from by omega]
  simp
/-- The byte of a number of 32 bits. -/
def byteW (n : BitVec 32) (r : Nat) : Byte := (n >>> (8 * r)).setWidth 8
theorem byteW_xor (n m : BitVec 32) (r : Nat) : byteW (n ^^^ m) r = byteW n r ^^^ byteW m r := by
  simp only [byteW, BitVec.ushiftRight_xor_distrib, BitVec.setWidth_xor]
theorem byteW_or (n m : BitVec 32) (r : Nat) : byteW (n ||| m) r = byteW n r ||| byteW m r := by
  apply BitVec.eq_of_getLsbD_eq; intro i hi; simp [byteW, hi]
theorem byteW_shl (x : Byte) (s r : Nat) (hs : s < 4) (hr : r < 4) : byteW (x.setWidth 32 <<< (8 * s)) r = if s = r then x else 0#8 := by
  apply BitVec.eq_of_getLsbD_eq
  intro i hi
  simp only [byteW, BitVec.getLsbD_setWidth, BitVec.getLsbD_ushiftRight, BitVec.getLsbD_shiftLeft, hi, decide_true, Bool.true_and]
  by_cases e : s = r
  · subst e
    rw [if_pos rfl, show decide (8 * s + i < 8 * s) = false from by simp, show 8 * s + i - 8 * s = i from by omega]
    simp [show i < 32 by omega]; intro _; omega
  · rw [if_neg e]
    by_cases h : 8 * r + i < 8 * s
    · simp [h]
    · have : x.getLsbD (8 * r + i - 8 * s) = false := BitVec.getLsbD_of_ge _ _ (by omega)
      simp [this]
theorem byteW_brg (by_ : List Byte) (row : Nat) (a : Byte) (r : Nat) (hr : r < 4) : byteW (brg by_ row a 4) r = tms (nth by_ ((row + 4 - r) % 4)) a := by
  have key : ∀ k, k ≤ 4 → byteW (brg by_ row a k) r = if r < k then tms (nth by_ ((row + 4 - r) % 4)) a else 0#8 := by
    intro k
    induction k with
    | zero => intro _; simp [brg, byteW]
    | succ k ih =>
      intro hk
      rw [brg, byteW_or, ih (by omega), byteW_shl _ _ _ (by omega) hr]
      by_cases h1 : r < k
      · rw [if_pos h1, if_neg (by omega), if_pos (by omega)]; simp
      · by_cases h2 : k = r
        · subst h2; rw [if_neg (by omega), if_pos rfl, if_pos (by omega)]; simp
        · rw [if_neg h1, if_neg h2, if_neg (by omega)]; simp
  rw [key 4 (by omega), if_pos hr]
/-- The place from which the byte of a row and a column comes. -/
def shp (row col : Nat) : Nat := row + 4 * ((col + row) % 4)
theorem shp_lt (row col : Nat) (h : row < 4) : shp row col < 16 := by unfold shp; omega
/-- A column behind a round, its first rows put together. -/
def colW (b key : List Byte) (col : Nat) : Nat → BitVec 32
  | 0 => (nth key (4 * col)).setWidth 32 ||| ((nth key (4 * col + 1)).setWidth 32 <<< 8) ||| ((nth key (4 * col + 2)).setWidth 32 <<< 16) ||| ((nth key (4 * col + 3)).setWidth 32 <<< 24)
  | row + 1 => colW b key col row ^^^ brg mixesL row (bxTo (nth b (shp row col))) 4
def rndB (b key : List Byte) (i : Nat) : Byte := byteW (colW b key (i / 4) 4) (i % 4)
/-- A block behind a round. -/
def rnd (b key : List Byte) : List Byte := tab 16 (rndB b key)
def lastB (b key : List Byte) (i : Nat) : Byte := bxTo (nth b (shp (i % 4) (i / 4))) ^^^ nth key i
def last (b key : List Byte) : List Byte := tab 16 (lastB b key)
def bothL (a b : List Byte) : List Byte := tab 16 fun i => nth a i ^^^ nth b i
def rnds (b : List Byte) : List (List Byte) → List Byte
  | [] => b
  | k :: ks => rnds (rnd b k) ks
theorem rnd_length (b key : List Byte) : (rnd b key).length = 16 := tab_length
theorem last_length (b key : List Byte) : (last b key).length = 16 := tab_length
theorem bothL_length (a b : List Byte) : (bothL a b).length = 16 := tab_length
/-- The bytes of a round, one by one. -/
theorem rnd_nth (b key : List Byte) (i : Nat) (h : i < 16) : nth (rnd b key) i = nth key i ^^^ (((tms (nth mixesL ((0 + 4 - i % 4) % 4)) (bxTo (nth b (shp 0 (i / 4)))) ^^^ tms (nth mixesL ((1 + 4 - i % 4) % 4)) (bxTo (nth b (shp 1 (i / 4))))) ^^^ tms (nth mixesL ((2 + 4 - i % 4) % 4)) (bxTo (nth b (shp 2 (i / 4))))) ^^^ tms (nth mixesL ((3 + 4 - i % 4) % 4)) (bxTo (nth b (shp 3 (i / 4))))) := by
  rw [rnd, nth_tab h, rndB]
  have hr : i % 4 < 4 := Nat.mod_lt _ (by omega)
  have hk : byteW (colW b key (i / 4) 0) (i % 4) = nth key i := by
    have b0 : byteW ((nth key (4 * (i / 4))).setWidth 32) (i % 4) = if 0 = i % 4 then nth key (4 * (i / 4)) else 0#8 := by
      have := byteW_shl (nth key (4 * (i / 4))) 0 (i % 4) (by omega) hr; simpa using this
    have b1 : byteW ((nth key (4 * (i / 4) + 1)).setWidth 32 <<< 8) (i % 4) = if 1 = i % 4 then nth key (4 * (i / 4) + 1) else 0#8 := byteW_shl _ 1 (i % 4) (by omega) hr
    have b2 : byteW ((nth key (4 * (i / 4) + 2)).setWidth 32 <<< 16) (i % 4) = if 2 = i % 4 then nth key (4 * (i / 4) + 2) else 0#8 := byteW_shl _ 2 (i % 4) (by omega) hr
    have b3 : byteW ((nth key (4 * (i / 4) + 3)).setWidth 32 <<< 24) (i % 4) = if 3 = i % 4 then nth key (4 * (i / 4) + 3) else 0#8 := byteW_shl _ 3 (i % 4) (by omega) hr
    rw [colW, byteW_or, byteW_or, byteW_or, b0, b1, b2, b3]
    have hi : i = 4 * (i / 4) + i % 4 := by omega
    rcases (show i % 4 = 0 ∨ i % 4 = 1 ∨ i % 4 = 2 ∨ i % 4 = 3 by omega) with e | e | e | e <;> rw [e] at hi ⊢ <;> simp <;> exact congrArg (nth key) (by omega)
  simp only [colW] at hk ⊢
  simp only [byteW_xor, hk, byteW_brg _ _ _ _ hr]
  ac_rfl

end Go.Proofs.YtalcgmhdgegebaaDoor
