/-
  Layer 1: rows put together by exclusive or, and held against each other. Conditions: rows are shorter than 2^47, as each argument is.
  Layer 1: the bytes of numbers. No conditions.
-/
import Derived.Test.YtmclklhnbmkheaaDoorOct1
namespace Go.Proofs.YtmclklhnbmkheaaDoor
open Go Go.RowKit
set_option maxRecDepth 100000
set_option linter.unusedVariables false
set_option linter.unusedSimpArgs false

/-- The first k of a row, noughts behind. -/
def fillTo (r : List Byte) (k : Nat) : List Byte := r.take k ++ List.replicate (r.length - k) 0
theorem fillTo_length (r : List Byte) (k : Nat) (h : k ≤ r.length) : (fillTo r k).length = r.length := by simp [fillTo]; omega
theorem fillTo_zero (r : List Byte) : fillTo r 0 = zeros r.length := by simp [fillTo, zeros]
theorem fillTo_all (r : List Byte) : fillTo r r.length = r := by simp [fillTo]
theorem fillTo_set (r : List Byte) (k : Nat) (h : k < r.length) : (fillTo r k).set k (r.getD k 0) = fillTo r (k + 1) := by
  apply List.ext_getElem
  · rw [List.length_set, fillTo_length _ _ (by omega), fillTo_length _ _ (by omega)]
  · intro i h1 h2
    rw [List.getElem_set]
    rw [List.length_set, fillTo_length _ _ (by omega)] at h1
    by_cases e : k = i
    · subst e
      rw [if_pos rfl]
      simp only [fillTo]
      rw [List.getElem_append_left (by simp; omega)]
      simp [h]
    · rw [if_neg e]
      simp only [fillTo]
      by_cases hik : i < k
      · rw [List.getElem_append_left (by simp; omega), List.getElem_append_left (by simp; omega)]
        simp
      · rw [List.getElem_append_right (by simp; omega), List.getElem_append_right (by simp; omega)]
        simp

def xorL (a b : List Byte) : List Byte := List.zipWith (fun x y => x ^^^ y) a b
theorem xorL_length (a b : List Byte) : (xorL a b).length = min a.length b.length := by simp [xorL]
theorem xorL_getD (a b : List Byte) (k : Nat) (h : k < (xorL a b).length) : (xorL a b).getD k 0 = a.getD k 0 ^^^ b.getD k 0 := by
  rw [xorL_length] at h
  have h1 : k < a.length := by omega
  have h2 : k < b.length := by omega
  simp [xorL, List.getElem?_zipWith, h1, h2]

/-- Two rows are the same if no byte of their exclusive or is other than 0. -/
def orL (a b : List Byte) : Nat → Byte
  | 0 => 0#8
  | k + 1 => orL a b k ||| (a.getD k 0 ^^^ b.getD k 0)
theorem orL_zero (a b : List Byte) : ∀ k, orL a b k = 0#8 ↔ ∀ i, i < k → a.getD i 0 = b.getD i 0
  | 0 => by simp [orL]
  | k + 1 => by
    have h0 : ∀ x y : Byte, x ||| y = 0#8 ↔ x = 0#8 ∧ y = 0#8 := by
      intro x y
      constructor
      · intro h
        constructor
        · apply BitVec.eq_of_getLsbD_eq; intro i hi
          have := congrArg (fun z => z.getLsbD i) h
          simp at this; simp [this.1]
        · apply BitVec.eq_of_getLsbD_eq; intro i hi
          have := congrArg (fun z => z.getLsbD i) h
          simp at this; simp [this.2]
      · rintro ⟨rfl, rfl⟩; simp
    rw [orL, h0, orL_zero a b k, BitVec.xor_eq_zero_iff]
    constructor
    · rintro ⟨h1, h2⟩ i hi
      by_cases e : i = k
      · subst e; exact h2
      · exact h1 i (by omega)
    · intro h; exact ⟨fun i hi => h i (by omega), h k (by omega)⟩
theorem orL_same (a b : List Byte) (h : a.length = b.length) : (orL a b a.length == 0#8) = (a == b) := by
  rw [Bool.eq_iff_iff, beq_iff_eq, beq_iff_eq, orL_zero]
  constructor
  · intro hh
    apply List.ext_getElem h
    intro i h1 h2
    have := hh i h1
    simpa [h1, h2] using this
  · rintro rfl _ _; rfl

end Go.Proofs.YtmclklhnbmkheaaDoor
namespace Go.Proofs.YtmclklhnbmkheaaDoor
open Go Go.RowKit
set_option maxRecDepth 100000
set_option linter.unusedVariables false
set_option linter.unusedSimpArgs false

/-- A number's lowest bytes, so many, the lowest first. -/
def putL (n : BitVec 64) (m : Nat) : List Byte := (List.range m).map fun k => (n >>> (8 * k)).setWidth 8
theorem putL_length (n : BitVec 64) (m : Nat) : (putL n m).length = m := by simp [putL]
theorem putL_getD (n : BitVec 64) (m k : Nat) (h : k < m) : (putL n m).getD k 0 = (n >>> (8 * k)).setWidth 8 := by simp [putL, h]
theorem fillTo_zero' (r : List Byte) (n : Nat) (h : r.length = n) : (fillTo r 0).map v8 = (List.replicate n (0 : Byte)).map v8 := by
  rw [fillTo_zero, h]; rfl

@[local go_sem] theorem conv_32_8 (x : BitVec 32) (w : World) : (convert 74 5 (v32 x)).run Tryd.prog w = .ok (v8 (x.setWidth 8)) w := conv32_8 x _ _ _ w rfl rfl
theorem zeros4 : (#[Value.int IntKind.u8 0, Value.int IntKind.u8 0, Value.int IntKind.u8 0, Value.int IntKind.u8 0] : Array Value) = ((List.replicate 4 (0 : Byte)).map v8).toArray := rfl
theorem put32_byte (n : BitVec 32) (k : Nat) : ((n.setWidth 64) >>> (8 * k)).setWidth 8 = (n >>> (8 * k)).setWidth 8 := by
  apply BitVec.eq_of_getLsbD_eq; intro i hi
  simp [hi]
  intro h; exact Classical.byContradiction fun h2 => by
    have := BitVec.getLsbD_of_ge n (8 * k + i) (by omega)
    rw [this] at h; cases h

@[local go_sem] theorem conv_64_8 (x : BitVec 64) (w : World) : (convert 37 5 (v64 x)).run Tryd.prog w = .ok (v8 (x.setWidth 8)) w := conv64_8 x _ _ _ w rfl rfl
theorem zeros8 : (#[Value.int IntKind.u8 0, Value.int IntKind.u8 0, Value.int IntKind.u8 0, Value.int IntKind.u8 0, Value.int IntKind.u8 0, Value.int IntKind.u8 0, Value.int IntKind.u8 0, Value.int IntKind.u8 0] : Array Value) = ((List.replicate 8 (0 : Byte)).map v8).toArray := rfl
theorem put64_byte (n : BitVec 64) (k : Nat) : ((n.setWidth 64) >>> (8 * k)).setWidth 8 = (n >>> (8 * k)).setWidth 8 := by
  apply BitVec.eq_of_getLsbD_eq; intro i hi
  simp [hi]

set_option maxHeartbeats 1000000 in
theorem putlong_any (n : BitVec 64) (w : World) :
    Gives Tryd.prog 16 #[v64 n] w (A8 (putL (n.setWidth 64) 8)) := by
  unfold Gives
  have hl := putL_length (n.setWidth 64) 8
  have hb : ∀ k, k < 8 → (fillTo (putL (n.setWidth 64) 8) k).set k ((n >>> (8 * k)).setWidth 8) = fillTo (putL (n.setWidth 64) 8) (k + 1) := by
    intro k hk
    rw [← put64_byte, ← putL_getD (n.setWidth 64) 8 k hk]
    exact fillTo_set _ k (by rw [hl]; exact hk)
  have h0 := fillTo_zero' (putL (n.setWidth 64) 8) 8 hl
  have h1 : fillTo (putL (n.setWidth 64) 8) 8 = putL (n.setWidth 64) 8 := by have := fillTo_all (putL (n.setWidth 64) 8); rwa [hl] at this
  have hlen : ∀ k, k ≤ 8 → (fillTo (putL (n.setWidth 64) 8) k).length = 8 := fun k hk => by rw [fillTo_length _ _ (by rw [hl]; exact hk), hl]
  generalize putL (n.setWidth 64) 8 = r at *
  have H0 := Lib.hid h0
  have H1 := Lib.hid h1
  have HB := Lib.hid hb
  have HL := Lib.hid hlen
  have Hl := Lib.hid hl
  clear h0 h1 hb hlen hl
  go_enter Tryd.func16, Tryd.ntmps16
  go_wp2
  rw [zeros8]
  go_loopw [4, 5] (fun _ i wr => ∃ k : Nat, k ≤ 8 ∧ i = .int .i64 k ∧ Row wr (w.heap.size + 1) 50 ((fillTo r k).map v8) ∧ Row wr w.heap.size 50 ((List.replicate 8 (0 : Byte)).map v8) ∧ Ext w wr) (fun _ i _ => 8 - (intOf i).toNat)
  case atStart => exact ⟨0, Nat.zero_le _, rfl, by rw [H0.out]; exact heap_alloc2_new _ _ _, heap_alloc2_old _ _ _, ((Ext.refl w).alloc _).alloc _⟩
  case round =>
    obtain ⟨k, hk, rfl, hr1, hr0, hx⟩ := hrel
    by_cases hlt : k < 8
    · have hc := row_v8 hr1 k (by rw [HL.out k hk]; exact hlt)
      have hf := row_free hr1 k
      have hrs := row_set hr1 k (v8 ((n >>> (8 * k)).setWidth 8))
      rw [← List.map_set, HB.out k hlt] at hrs
      go_wp2
      go_roundw
      case rel => exact ⟨k + 1, by omega, by go_num, hrs, row_other hr0 _ _ (by simp), ext_setCell hx _ _ (by simp)⟩
      case measure => simp [intOf] <;> omega
    · obtain rfl : k = 8 := by omega
      rw [H1.out] at hr1
      go_wp2_with (first | (with_reducible show wpList _ _ _ _ _ _; refine wpl_load_row rfl rfl rfl hr1 rfl rfl (by simp only [List.length_map, Hl.out]; kernel_rfl) ?_) | (with_reducible show wpList _ _ _ _ _ _; refine wpl_store_row (cs := r.map v8) rfl rfl rfl rfl hr0 (by simp [Hl.out]) (by simp only [List.length_map, Hl.out]; kernel_rfl) (one_v8 _) ?_))
      refine ret_row rfl rfl (row_setRow hr0 _) rfl rfl (by simp only [List.length_map, Hl.out]; kernel_rfl) rfl ⟨rfl, ?_⟩
      exact ext_setRow hx _ _ (by omega)

end Go.Proofs.YtmclklhnbmkheaaDoor
