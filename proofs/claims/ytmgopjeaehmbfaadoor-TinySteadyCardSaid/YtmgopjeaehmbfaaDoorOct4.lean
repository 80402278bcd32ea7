/-
  Layer 1: rows put together by exclusive or, and held against each other. Conditions: rows are shorter than 2^47, as each argument is.
  Layer 1: the bytes of numbers. No conditions.
-/
import Derived.Test.YtmgopjeaehmbfaaDoorOct1
namespace Go.Proofs.YtmgopjeaehmbfaaDoor
open Go Go.RowKit
set_option maxRecDepth 100000
set_option linter.unusedVariables false
set_option linter.unusedSimpArgs false

/-- The first k of a row, noughts behind. -/
def fillTo (r : List Byte) (k : Nat) : List Byte := r.take k ++ List.replicate (r.length - k) 0
theorem fillTo_length (r : List Byte) (k : Nat) (h : k ≤ r.length) : (fillTo r k).length = r.length := by simp [fillTo]; omega
theorem fillTo_zero (r : List Byte) : fillTo r 0 = zeros r.length := by simp [fillTo, zeros]
theorem fillTo_all (r : List Byte) : fillTo r r.length = r := by simp [fillTo]
theorem fillTo_set (r : List Byte) (k : Nat) (h : k < r.length) : (fillTo r k).set k (r.getD k 0) = fillTo r (k + 1) := by
  apply List.ext_getElem
  · rw [List.length_set, fillTo_length _ _ (by omega), fillTo_length _ _ (by omega)]
  · intro i h1 h2
    rw [List.getElem_set]
    rw [List.length_set, fillTo_length _ _ (by omega)] at h1
    by_cases e : k = i
    · subst e
      rw [if_pos rfl]
      simp only [fillTo]
      rw [List.getElem_append_left (by simp; omega)]
      simp [h]
    · rw [if_neg e]
      simp only [fillTo]
      by_cases hik : i < k
      · rw [List.getElem_append_left (by simp; omega), List.getElem_append_left (by simp; omega)]
        simp
      · rw [List.getElem_append_right (by simp; omega), List.getElem_append_right (by simp; omega)]
        simp

def xorL (a b : List Byte) : List Byte := List.zipWith (fun x y => x ^^^ y) a b
theorem xorL_length (a b : List Byte) : (xorL a b).length = min a.length b.length := by simp [xorL]
theorem xorL_getD (a b : List Byte) (k : Nat) (h : k < (xorL a b).length) : (xorL a b).getD k 0 = a.getD k 0 ^^^ b.getD k 0 := by
  rw [xorL_length] at h
  have h1 : k < a.length := by omega
  have h2 : k < b.length := by omega
  simp [xorL, List.getElem?_zipWith, h1, h2]

set_option maxHeartbeats 1000000 in
theorem xor_any (a b : List Byte) (p q : Option Addr) (c d : Nat) (w : World) (ha : RdB w p a) (hb : RdB w q b) (hla : a.length ≤ 140737488355328) (hlb : b.length ≤ 140737488355328) :
    GivesR Tryd.prog 46 #[.slice p a.length c, .slice q b.length d] w (BytesS (xorL a b)) := by
  unfold GivesR
  have hn := xorL_length a b
  generalize hN : (xorL a b).length = n at *
  have hx : Ext w (w.alloc (.cells ((zeros n).map v8).toArray 5)) := (Ext.refl w).alloc _
  have hrow := row_new w 5 ((zeros n).map v8)
  have HN := Lib.hid hN
  have Hn := Lib.hid hn
  have hn1 : n ≤ a.length := by omega
  have hn2 : n ≤ b.length := by omega
  clear hN hn
  rcases Nat.lt_or_ge b.length a.length with hab | hab
  all_goals
    go_enter Tryd.func46, Tryd.ntmps46
    go_wp2_with (with_reducible show wpList _ _ _ _ _ _; refine make_b n rfl rfl rfl rfl (by have := Hn.out; omega) (by have := Hn.out; omega) (by omega) ?_)
    go_loopw [6, 15] (fun _ i wr => ∃ k : Nat, k ≤ n ∧ i = .int .i64 k ∧ Row wr w.heap.size 5 ((fillTo (xorL a b) k).map v8) ∧ Ext w wr) (fun _ i _ => n - (intOf i).toNat)
    case atStart => exact ⟨0, Nat.zero_le _, rfl, by rw [fillTo_zero, HN.out]; exact hrow, hx⟩
    case round =>
      obtain ⟨k, hk, rfl, hr, hxr⟩ := hrel
      by_cases hlt : k < n
      · have hka : k < a.length := by omega
        have hkb : k < b.length := by omega
        have hpa := (ha.ext hxr).isSome k (by omega)
        have hpb := (hb.ext hxr).isSome k (by omega)
        have hca := fun wx (hwx : Ext wr wx) => ((ha.ext hxr).ext hwx).at k (by omega)
        have hcb := fun wx (hwx : Ext wr wx) => ((hb.ext hxr).ext hwx).at k (by omega)
        have hset := fillTo_set (xorL a b) k (by rw [HN.out]; exact hlt)
        have e : a.getD k 0 ^^^ b.getD k 0 = a[k] ^^^ b[k] := by simp [hka, hkb]
        rw [xorL_getD a b k (by rw [HN.out]; exact hlt), e] at hset
        have Hset := Lib.hid hset
        clear hset e
        go_wp2
        refine region_at 12 (fun w' => Ext wr w') 32 (by kernel_rfl) (by kernel_rfl) rfl (fun _ _ h k => h.trans k) (drew_ext _) ?_
        simp only [List.take_succ_cons, List.take_zero, List.drop_succ_cons, List.drop_zero, List.map_cons, List.map_nil]
        repeat (first
            | (apply walk_is rfl rfl rfl
               · (intro wx hwx; first | ((with_reducible show gives _ _ _ (Sem.run _ (execOp _ (Oper.mk _ (Op.load _ _) _ _ _ _)) _)); first | ((with_reducible apply gq_ldv (hm.ext hwx)); infer_instance; (exact rfl); (focus ((repeat (first | exact .hd | assumption | apply Has.tl)); done)); (focus (first | omega | (simp; omega) | (refine Nat.lt_of_lt_of_le (BitVec.isLt _) ?_; first | omega | (simp; done) | (simp; omega) | fail) | fail))) | ((with_reducible apply gq_ldW (hm.ext hwx)); infer_instance; (exact rfl); (focus ((repeat (first | exact .hd | assumption | apply Has.tl)); done)); (focus (first | rfl | omega | (simp; done) | (simp; omega) | fail))) | ((with_reducible apply gq_ld1 (hm.ext hwx)); infer_instance; (exact rfl); (focus ((repeat (first | exact .hd | assumption | apply Has.tl)); done)); (exact rfl)) | fail) | (go_simp; (try go_bits); first | exact gives_same | exact gives_skip))
               · (simp only [Act.put, List.setIfInBounds_toArray, List.set_cons_succ, List.set_cons_zero]; rfl))
            | (apply walk_not rfl rfl rfl
               · (simp only [Act.put, List.setIfInBounds_toArray, List.set_cons_succ, List.set_cons_zero]; rfl)))
        intro wz hwz
        simp only [List.zip_cons_cons, List.zip_nil_right]
        repeat (first | rw [fin_is] | (rw [fin_cons]; intro _ _))
        rw [fin_nil]
        try (replace hm := hm.ext hwz)
        simp only [Act.put, List.setIfInBounds_toArray, List.set_cons_succ, List.set_cons_zero]
        have hr' := row_ext hr hwz
        have hc := row_v8 hr' k (by rw [fillTo_length _ _ (by rw [HN.out]; omega), HN.out]; exact hlt)
        have hf := row_free hr' k
        have hrs := row_set hr' k (v8 (a[k] ^^^ b[k]))
        rw [← List.map_set, Hset.out] at hrs
        have hxz := ext_setCell (hxr.trans hwz) ⟨w.heap.size, k, none⟩ (v8 (a[k] ^^^ b[k])) (Nat.le_refl _)
        go_wp2
        go_roundw
        case rel => exact ⟨k + 1, by omega, by go_num, hrs, hxz⟩
        case measure => simp [intOf] <;> omega
      · obtain rfl : k = n := by omega
        go_wp2
        go_ret
        have hr' : Row wr w.heap.size 5 ((xorL a b).map v8) := by rw [← HN.out, fillTo_all] at hr; exact hr
        exact ⟨_, rfl, ⟨_, _, by rw [HN.out]; rfl, by rw [HN.out]; exact Nat.le_refl _, RdB.of_row hr'⟩, hxr⟩

/-- Two rows are the same if no byte of their exclusive or is other than 0. -/
def orL (a b : List Byte) : Nat → Byte
  | 0 => 0#8
  | k + 1 => orL a b k ||| (a.getD k 0 ^^^ b.getD k 0)
theorem orL_zero (a b : List Byte) : ∀ k, orL a b k = 0#8 ↔ ∀ i, i < k → a.getD i 0 = b.getD i 0
  | 0 => by simp [orL]
  | k + 1 => by
    have h0 : ∀ x y : Byte, x ||| y = 0#8 ↔ x = 0#8 ∧ y = 0#8 := by
      intro x y
      constructor
      · intro h
        constructor
        · apply BitVec.eq_of_getLsbD_eq; intro i hi
          have := congrArg (fun z => z.getLsbD i) h
          simp at this; simp [this.1]
        · apply BitVec.eq_of_getLsbD_eq; intro i hi
          have := congrArg (fun z => z.getLsbD i) h
          simp at this; simp [this.2]
      · rintro ⟨rfl, rfl⟩; simp
    rw [orL, h0, orL_zero a b k, BitVec.xor_eq_zero_iff]
    constructor
    · rintro ⟨h1, h2⟩ i hi
      by_cases e : i = k
      · subst e; exact h2
      · exact h1 i (by omega)
    · intro h; exact ⟨fun i hi => h i (by omega), h k (by omega)⟩
theorem orL_same (a b : List Byte) (h : a.length = b.length) : (orL a b a.length == 0#8) = (a == b) := by
  rw [Bool.eq_iff_iff, beq_iff_eq, beq_iff_eq, orL_zero]
  constructor
  · intro hh
    apply List.ext_getElem h
    intro i h1 h2
    have := hh i h1
    simpa [h1, h2] using this
  · rintro rfl _ _; rfl

end Go.Proofs.YtmgopjeaehmbfaaDoor
namespace Go.Proofs.YtmgopjeaehmbfaaDoor
open Go Go.RowKit
set_option maxRecDepth 100000
set_option linter.unusedVariables false
set_option linter.unusedSimpArgs false

/-- A number's lowest bytes, so many, the lowest first. -/
def putL (n : BitVec 64) (m : Nat) : List Byte := (List.range m).map fun k => (n >>> (8 * k)).setWidth 8
theorem putL_length (n : BitVec 64) (m : Nat) : (putL n m).length = m := by simp [putL]
theorem putL_getD (n : BitVec 64) (m k : Nat) (h : k < m) : (putL n m).getD k 0 = (n >>> (8 * k)).setWidth 8 := by simp [putL, h]
theorem fillTo_zero' (r : List Byte) (n : Nat) (h : r.length = n) : (fillTo r 0).map v8 = (List.replicate n (0 : Byte)).map v8 := by
  rw [fillTo_zero, h]; rfl

@[local go_sem] theorem conv_32_8 (x : BitVec 32) (w : World) : (convert 118 5 (v32 x)).run Tryd.prog w = .ok (v8 (x.setWidth 8)) w := conv32_8 x _ _ _ w rfl rfl
theorem zeros4 : (#[Value.int IntKind.u8 0, Value.int IntKind.u8 0, Value.int IntKind.u8 0, Value.int IntKind.u8 0] : Array Value) = ((List.replicate 4 (0 : Byte)).map v8).toArray := rfl
theorem put32_byte (n : BitVec 32) (k : Nat) : ((n.setWidth 64) >>> (8 * k)).setWidth 8 = (n >>> (8 * k)).setWidth 8 := by
  apply BitVec.eq_of_getLsbD_eq; intro i hi
  simp [hi]
  intro h; exact Classical.byContradiction fun h2 => by
    have := BitVec.getLsbD_of_ge n (8 * k + i) (by omega)
    rw [this] at h; cases h

set_option maxHeartbeats 1000000 in
theorem putword_any (n : BitVec 32) (w : World) :
    Gives Tryd.prog 121 #[v32 n] w (A8 (putL (n.setWidth 64) 4)) := by
  unfold Gives
  have hl := putL_length (n.setWidth 64) 4
  have hb : ∀ k, k < 4 → (fillTo (putL (n.setWidth 64) 4) k).set k ((n >>> (8 * k)).setWidth 8) = fillTo (putL (n.setWidth 64) 4) (k + 1) := by
    intro k hk
    rw [← put32_byte, ← putL_getD (n.setWidth 64) 4 k hk]
    exact fillTo_set _ k (by rw [hl]; exact hk)
  have h0 := fillTo_zero' (putL (n.setWidth 64) 4) 4 hl
  have h1 : fillTo (putL (n.setWidth 64) 4) 4 = putL (n.setWidth 64) 4 := by have := fillTo_all (putL (n.setWidth 64) 4); rwa [hl] at this
  have hlen : ∀ k, k ≤ 4 → (fillTo (putL (n.setWidth 64) 4) k).length = 4 := fun k hk => by rw [fillTo_length _ _ (by rw [hl]; exact hk), hl]
  generalize putL (n.setWidth 64) 4 = r at *
  have H0 := Lib.hid h0
  have H1 := Lib.hid h1
  have HB := Lib.hid hb
  have HL := Lib.hid hlen
  have Hl := Lib.hid hl
  clear h0 h1 hb hlen hl
  go_enter Tryd.func121, Tryd.ntmps121
  go_wp2
  rw [zeros4]
  go_loopw [4, 5] (fun _ i wr => ∃ k : Nat, k ≤ 4 ∧ i = .int .i64 k ∧ Row wr (w.heap.size + 1) 124 ((fillTo r k).map v8) ∧ Row wr w.heap.size 124 ((List.replicate 4 (0 : Byte)).map v8) ∧ Ext w wr) (fun _ i _ => 4 - (intOf i).toNat)
  case atStart => exact ⟨0, Nat.zero_le _, rfl, by rw [H0.out]; exact heap_alloc2_new _ _ _, heap_alloc2_old _ _ _, ((Ext.refl w).alloc _).alloc _⟩
  case round =>
    obtain ⟨k, hk, rfl, hr1, hr0, hx⟩ := hrel
    by_cases hlt : k < 4
    · have hc := row_v8 hr1 k (by rw [HL.out k hk]; exact hlt)
      have hf := row_free hr1 k
      have hrs := row_set hr1 k (v8 ((n >>> (8 * k)).setWidth 8))
      rw [← List.map_set, HB.out k hlt] at hrs
      go_wp2
      go_roundw
      case rel => exact ⟨k + 1, by omega, by go_num, hrs, row_other hr0 _ _ (by simp), ext_setCell hx _ _ (by simp)⟩
      case measure => simp [intOf] <;> omega
    · obtain rfl : k = 4 := by omega
      rw [H1.out] at hr1
      go_wp2_with (first | (with_reducible show wpList _ _ _ _ _ _; refine wpl_load_row rfl rfl rfl hr1 rfl rfl (by simp only [List.length_map, Hl.out]; kernel_rfl) ?_) | (with_reducible show wpList _ _ _ _ _ _; refine wpl_store_row (cs := r.map v8) rfl rfl rfl rfl hr0 (by simp [Hl.out]) (by simp only [List.length_map, Hl.out]; kernel_rfl) (one_v8 _) ?_))
      refine ret_row rfl rfl (row_setRow hr0 _) rfl rfl (by simp only [List.length_map, Hl.out]; kernel_rfl) rfl ⟨rfl, ?_⟩
      exact ext_setRow hx _ _ (by omega)

@[local go_sem] theorem conv_64_8 (x : BitVec 64) (w : World) : (convert 102 5 (v64 x)).run Tryd.prog w = .ok (v8 (x.setWidth 8)) w := conv64_8 x _ _ _ w rfl rfl
theorem zeros8 : (#[Value.int IntKind.u8 0, Value.int IntKind.u8 0, Value.int IntKind.u8 0, Value.int IntKind.u8 0, Value.int IntKind.u8 0, Value.int IntKind.u8 0, Value.int IntKind.u8 0, Value.int IntKind.u8 0] : Array Value) = ((List.replicate 8 (0 : Byte)).map v8).toArray := rfl
theorem put64_byte (n : BitVec 64) (k : Nat) : ((n.setWidth 64) >>> (8 * k)).setWidth 8 = (n >>> (8 * k)).setWidth 8 := by
  apply BitVec.eq_of_getLsbD_eq; intro i hi
  simp [hi]

set_option maxHeartbeats 1000000 in
theorem putlong_any (n : BitVec 64) (w : World) :
    Gives Tryd.prog 99 #[v64 n] w (A8 (putL (n.setWidth 64) 8)) := by
  unfold Gives
  have hl := putL_length (n.setWidth 64) 8
  have hb : ∀ k, k < 8 → (fillTo (putL (n.setWidth 64) 8) k).set k ((n >>> (8 * k)).setWidth 8) = fillTo (putL (n.setWidth 64) 8) (k + 1) := by
    intro k hk
    rw [← put64_byte, ← putL_getD (n.setWidth 64) 8 k hk]
    exact fillTo_set _ k (by rw [hl]; exact hk)
  have h0 := fillTo_zero' (putL (n.setWidth 64) 8) 8 hl
  have h1 : fillTo (putL (n.setWidth 64) 8) 8 = putL (n.setWidth 64) 8 := by have := fillTo_all (putL (n.setWidth 64) 8); rwa [hl] at this
  have hlen : ∀ k, k ≤ 8 → (fillTo (putL (n.setWidth 64) 8) k).length = 8 := fun k hk => by rw [fillTo_length _ _ (by rw [hl]; exact hk), hl]
  generalize putL (n.setWidth 64) 8 = r at *
  have H0 := Lib.hid h0
  have H1 := Lib.hid h1
  have HB := Lib.hid hb
  have HL := Lib.hid hlen
  have Hl := Lib.hid hl
  clear h0 h1 hb hlen hl
  go_enter Tryd.func99, Tryd.ntmps99
  go_wp2
  rw [zeros8]
  go_loopw [4, 5] (fun _ i wr => ∃ k : Nat, k ≤ 8 ∧ i = .int .i64 k ∧ Row wr (w.heap.size + 1) 142 ((fillTo r k).map v8) ∧ Row wr w.heap.size 142 ((List.replicate 8 (0 : Byte)).map v8) ∧ Ext w wr) (fun _ i _ => 8 - (intOf i).toNat)
  case atStart => exact ⟨0, Nat.zero_le _, rfl, by rw [H0.out]; exact heap_alloc2_new _ _ _, heap_alloc2_old _ _ _, ((Ext.refl w).alloc _).alloc _⟩
  case round =>
    obtain ⟨k, hk, rfl, hr1, hr0, hx⟩ := hrel
    by_cases hlt : k < 8
    · have hc := row_v8 hr1 k (by rw [HL.out k hk]; exact hlt)
      have hf := row_free hr1 k
      have hrs := row_set hr1 k (v8 ((n >>> (8 * k)).setWidth 8))
      rw [← List.map_set, HB.out k hlt] at hrs
      go_wp2
      go_roundw
      case rel => exact ⟨k + 1, by omega, by go_num, hrs, row_other hr0 _ _ (by simp), ext_setCell hx _ _ (by simp)⟩
      case measure => simp [intOf] <;> omega
    · obtain rfl : k = 8 := by omega
      rw [H1.out] at hr1
      go_wp2_with (first | (with_reducible show wpList _ _ _ _ _ _; refine wpl_load_row rfl rfl rfl hr1 rfl rfl (by simp only [List.length_map, Hl.out]; kernel_rfl) ?_) | (with_reducible show wpList _ _ _ _ _ _; refine wpl_store_row (cs := r.map v8) rfl rfl rfl rfl hr0 (by simp [Hl.out]) (by simp only [List.length_map, Hl.out]; kernel_rfl) (one_v8 _) ?_))
      refine ret_row rfl rfl (row_setRow hr0 _) rfl rfl (by simp only [List.length_map, Hl.out]; kernel_rfl) rfl ⟨rfl, ?_⟩
      exact ext_setRow hx _ _ (by omega)

end Go.Proofs.YtmgopjeaehmbfaaDoor
