/-
  Layer 6, plain: the document's blocks. No program in sight, no conditions.
  Layer 6: the document's sum. No conditions beyond those written in each theorem.
-/
import Derived.Test.YtmclklhnbmkheaaDoorBlake3
import Derived.Test.YtmclklhnbmkheaaDoorRb2
import Derived.Test.YtmclklhnbmkheaaDoorBlake5
import Derived.Test.YtmclklhnbmkheaaDoorOct8
namespace Go.Proofs.YtmclklhnbmkheaaDoor
open Go Go.RowKit
set_option maxRecDepth 100000
set_option linter.unusedVariables false
set_option linter.unusedSimpArgs false

def padD (D : List Byte) : List Byte := pad (if D.length = 0 then [0#8] else D) 128
theorem room128 (n : Nat) (h : 0 < n) : n + roomN n 128 = 128 * (nbk n + 1) := by
  unfold roomN nbk
  rw [if_neg (by decide)]
  show n + (128 - n % 128) % 128 = _
  omega
theorem padD_length (D : List Byte) : (padD D).length = 128 * (nbk D.length + 1) := by
  unfold padD pad
  by_cases h : D.length = 0
  · rw [if_pos h, List.length_append, List.length_replicate, room128 _ (by decide), h]; rfl
  · rw [if_neg h, List.length_append, List.length_replicate, room128 _ (by omega)]
theorem getD_zeros (l : List Byte) (r i : Nat) : (l ++ List.replicate r 0#8).getD i 0 = l.getD i 0 := by
  rw [List.getD_eq_getElem?_getD, List.getD_eq_getElem?_getD]
  by_cases hi : i < l.length
  · rw [List.getElem?_append_left hi]
  · rw [List.getElem?_append_right (by omega), List.getElem?_eq_none (l := l) (by omega), List.getElem?_replicate]
    split <;> rfl
theorem gb_padD (D : List Byte) (j : Int) : gb (padD D) j = gb D j := by
  unfold gb padD pad
  split
  · rw [show (0 : Byte) = 0#8 from rfl]
    have := getD_zeros (if D.length = 0 then [0#8] else D) (roomN (if D.length = 0 then [0#8] else D).length 128) j.toNat
    rw [show (0 : Byte) = 0#8 from rfl] at this
    rw [this]
    by_cases h : D.length = 0
    · have hd : D = [] := List.eq_nil_of_length_eq_zero h
      subst hd
      rw [if_pos h]
      cases j.toNat <;> simp
    · rw [if_neg h]
  · rfl
theorem gb_bkAt (l : List Byte) (k : Nat) (j : Int) : gb (bkAt l k) j = if 0 ≤ j ∧ j < 128 then gb l (128 * k + j) else 0 := by
  unfold gb bkAt
  by_cases h0 : 0 ≤ j
  · rw [if_pos h0, List.getD_eq_getElem?_getD, List.getElem?_take]
    by_cases h1 : j < 128
    · rw [if_pos (by omega), if_pos ⟨h0, h1⟩, if_pos (by omega), List.getElem?_drop, List.getD_eq_getElem?_getD, show (128 * (k : Int) + j).toNat = 128 * k + j.toNat from by omega]
    · rw [if_neg (by omega), if_neg (by omega)]; rfl
  · rw [if_neg h0, if_neg (by omega)]
theorem num_congr {l m : List Byte} (h : ∀ j, gb l j = gb m j) : ∀ (r : Nat) (at_ : Int), num l at_ r = num m at_ r := by
  intro r at_
  induction r with
  | zero => rfl
  | succ r ih => simp only [num, h, ih]
theorem mL_congr {l m : List Byte} (h : ∀ j, gb l j = gb m j) : mL l = mL m := tab_ext fun i _ => num_congr h 8 _
theorem mL_padD (D : List Byte) (k : Nat) : mL (bkAt (padD D) k) = mL (bkAt D k) := mL_congr fun j => by rw [gb_bkAt, gb_bkAt, gb_padD]
/-- Eight numbers behind k of the document's blocks. -/
def docF (h : List (BitVec 64)) (D : List Byte) (k : Nat) : List (BitVec 64) := if k ≤ nbk D.length then chF h D k else finL h D
theorem docF_zero (h : List (BitVec 64)) (D : List Byte) : docF h D 0 = h := rfl
theorem docF_end (h : List (BitVec 64)) (D : List Byte) : docF h D (nbk D.length + 1) = finL h D := if_neg (by omega)
theorem docF_length (h : List (BitVec 64)) (D : List Byte) (hh : h.length = 8) (k : Nat) : (docF h D k).length = 8 := by
  unfold docF; split
  · exact chF_length _ _ hh _
  · exact finL_length _ _
theorem docF_step (h : List (BitVec 64)) (D : List Byte) (k : Nat) (hk : k < nbk D.length) : compL (docF h D k) (mL (bkAt (padD D) k)) (BitVec.ofNat 64 (128 * k + 128)) 0#64 false = docF h D (k + 1) := by
  rw [mL_padD, docF, docF, if_pos (by omega), if_pos (by omega)]; rfl
theorem docF_last (h : List (BitVec 64)) (D : List Byte) : compL (docF h D (nbk D.length)) (mL (bkAt (padD D) (nbk D.length))) (BitVec.ofNat 64 D.length) 0#64 true = docF h D (nbk D.length + 1) := by
  rw [mL_padD, docF_end, docF, if_pos (Nat.le_refl _), finL]
  congr 1
  rw [bkAt, List.take_of_length_le]
  rw [List.length_drop]; exact nbk_rest _

end Go.Proofs.YtmclklhnbmkheaaDoor
namespace Go.Proofs.YtmclklhnbmkheaaDoor
open Go Go.RowKit
set_option maxRecDepth 100000
set_option linter.unusedVariables false
set_option linter.unusedSimpArgs false

theorem slo_rdB {w0 w : World} {M R : List Blk} {p : Option Addr} {n c : Nat} {e : TypeId} {l : List Byte} (h : SlO M e 1 (.slice p n c) n (l.map v8)) (hm : Own w0 w (M ++ R)) : RdB w p l := by
  have hl := h.1
  rw [List.length_map, Nat.mul_one] at hl
  obtain ⟨_, _, hv, _, _, h0, hcell⟩ := h.cells hm
  cases hv
  refine ⟨fun hp => h0 (by omega), fun i hi => ?_⟩
  obtain ⟨a, rfl, ha⟩ := hcell i (v8 (l.getD i 0)) (by rw [List.getElem?_map, List.getElem?_eq_getElem hi, List.getD_eq_getElem?_getD, List.getElem?_eq_getElem hi]; rfl)
  exact ha
theorem start_bits2 (k s : Nat) (hk : k ≤ 64) (hs : s ≤ 64) (x : BitVec 64) : ((x ^^^ 16842752#64) ^^^ BitVec.ofInt 64 (256 * (k : Int))) ^^^ BitVec.ofInt 64 (s : Int) = x ^^^ (((0x01010000#64) ^^^ (BitVec.ofNat 64 k <<< 8)) ^^^ BitVec.ofNat 64 s) := by
  have h1 : ∀ k : Fin 65, BitVec.ofInt 64 (256 * (k.val : Int)) = BitVec.ofNat 64 k.val <<< 8 := by decide +kernel
  rw [h1 ⟨k, by omega⟩, show BitVec.ofInt 64 (s : Int) = BitVec.ofNat 64 s from rfl, BitVec.xor_assoc, BitVec.xor_assoc, BitVec.xor_assoc]

end Go.Proofs.YtmclklhnbmkheaaDoor
