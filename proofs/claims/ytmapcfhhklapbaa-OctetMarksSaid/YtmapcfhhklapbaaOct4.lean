/-
  Layer 1: rows put together by exclusive or, and held against each other. Conditions: rows are shorter than 2^47, as each argument is.
-/
import Derived.Test.YtmapcfhhklapbaaOct3
namespace Go.Proofs.Ytmapcfhhklapbaa
open Go Go.RowKit

/-- The first k of a row, noughts behind. -/
def fillTo (r : List Byte) (k : Nat) : List Byte := r.take k ++ List.replicate (r.length - k) 0
theorem fillTo_length (r : List Byte) (k : Nat) (h : k ≤ r.length) : (fillTo r k).length = r.length := by simp [fillTo]; omega
theorem fillTo_zero (r : List Byte) : fillTo r 0 = zeros r.length := by simp [fillTo, zeros]
theorem fillTo_all (r : List Byte) : fillTo r r.length = r := by simp [fillTo]
theorem fillTo_set (r : List Byte) (k : Nat) (h : k < r.length) : (fillTo r k).set k (r.getD k 0) = fillTo r (k + 1) := by
  apply List.ext_getElem
  · rw [List.length_set, fillTo_length _ _ (by omega), fillTo_length _ _ (by omega)]
  · intro i h1 h2
    rw [List.getElem_set]
    rw [List.length_set, fillTo_length _ _ (by omega)] at h1
    by_cases e : k = i
    · subst e
      rw [if_pos rfl]
      simp only [fillTo]
      rw [List.getElem_append_left (by simp; omega)]
      simp [h]
    · rw [if_neg e]
      simp only [fillTo]
      by_cases hik : i < k
      · rw [List.getElem_append_left (by simp; omega), List.getElem_append_left (by simp; omega)]
        simp
      · rw [List.getElem_append_right (by simp; omega), List.getElem_append_right (by simp; omega)]
        simp

def xorL (a b : List Byte) : List Byte := List.zipWith (fun x y => x ^^^ y) a b
theorem xorL_length (a b : List Byte) : (xorL a b).length = min a.length b.length := by simp [xorL]
theorem xorL_getD (a b : List Byte) (k : Nat) (h : k < (xorL a b).length) : (xorL a b).getD k 0 = a.getD k 0 ^^^ b.getD k 0 := by
  rw [xorL_length] at h
  have h1 : k < a.length := by omega
  have h2 : k < b.length := by omega
  simp [xorL, List.getElem?_zipWith, h1, h2]

set_option maxHeartbeats 1000000 in
theorem xor_any (a b : List Byte) (p q : Option Addr) (c d : Nat) (w : World) (ha : RdB w p a) (hb : RdB w q b) (hla : a.length ≤ 140737488355328) (hlb : b.length ≤ 140737488355328) :
    GivesR Try.prog 28 #[.slice p a.length c, .slice q b.length d] w (BytesS (xorL a b)) := by
  unfold GivesR
  have hn := xorL_length a b
  generalize hN : (xorL a b).length = n at *
  have hx : Ext w (w.alloc (.cells ((zeros n).map v8).toArray 5)) := (Ext.refl w).alloc _
  have hrow := row_new w 5 ((zeros n).map v8)
  have HN := Lib.hid hN
  have Hn := Lib.hid hn
  have hn1 : n ≤ a.length := by omega
  have hn2 : n ≤ b.length := by omega
  clear hN hn
  rcases Nat.lt_or_ge b.length a.length with hab | hab
  all_goals
    go_enter Try.func28, Try.ntmps28
    go_wp2_with (with_reducible show wpList _ _ _ _ _ _; refine make_b n rfl rfl rfl rfl (by have := Hn.out; omega) (by have := Hn.out; omega) (by omega) ?_)
    go_loopw [6, 15] (fun _ i wr => ∃ k : Nat, k ≤ n ∧ i = .int .i64 k ∧ Row wr w.heap.size 5 ((fillTo (xorL a b) k).map v8) ∧ Ext w wr) (fun _ i _ => n - (intOf i).toNat)
    case atStart => exact ⟨0, Nat.zero_le _, rfl, by rw [fillTo_zero, HN.out]; exact hrow, hx⟩
    case round =>
      obtain ⟨k, hk, rfl, hr, hxr⟩ := hrel
      by_cases hlt : k < n
      · have hka : k < a.length := by omega
        have hkb : k < b.length := by omega
        have hpa := (ha.ext hxr).isSome k (by omega)
        have hpb := (hb.ext hxr).isSome k (by omega)
        have hca := fun wx (hwx : Ext wr wx) => ((ha.ext hxr).ext hwx).at k (by omega)
        have hcb := fun wx (hwx : Ext wr wx) => ((hb.ext hxr).ext hwx).at k (by omega)
        have hset := fillTo_set (xorL a b) k (by rw [HN.out]; exact hlt)
        have e : a.getD k 0 ^^^ b.getD k 0 = a[k] ^^^ b[k] := by simp [hka, hkb]
        rw [xorL_getD a b k (by rw [HN.out]; exact hlt), e] at hset
        have Hset := Lib.hid hset
        clear hset e
        go_wp2
        refine region_at 12 (fun w' => Ext wr w') 32 (by kernel_rfl) (by kernel_rfl) rfl (fun _ _ h k => h.trans k) (drew_ext _) ?_
        simp only [List.take_succ_cons, List.take_zero, List.drop_succ_cons, List.drop_zero, List.map_cons, List.map_nil]
        repeat (first
            | (apply walk_is rfl rfl rfl
               · (intro wx hwx; first | exact gives_ld8 (hm.ext hwx) rfl rfl (by repeat (first | exact Has.hd | assumption | apply Has.tl)) (by first | omega | (simp only [zeros_length, zer_length, tab_length, part_length, setN_length, List.length_map, List.length_cons, List.length_nil, List.length_append, List.length_take, List.length_drop, List.length_replicate, blk_length, putL_length]; omega) | (refine Nat.lt_of_lt_of_le (BitVec.isLt _) ?_; first | omega | (simp only [zeros_length, zer_length, tab_length, part_length, setN_length, List.length_map, List.length_cons, List.length_nil, List.length_append, List.length_take, List.length_drop, List.length_replicate, blk_length, putL_length]; omega) | decide | fail) | fail) | exact gives_ld64 (hm.ext hwx) rfl rfl (by repeat (first | exact Has.hd | assumption | apply Has.tl)) (by first | omega | (simp only [zeros_length, zer_length, tab_length, part_length, setN_length, List.length_map, List.length_cons, List.length_nil, List.length_append, List.length_take, List.length_drop, List.length_replicate, blk_length, putL_length]; omega) | (refine Nat.lt_of_lt_of_le (BitVec.isLt _) ?_; first | omega | (simp only [zeros_length, zer_length, tab_length, part_length, setN_length, List.length_map, List.length_cons, List.length_nil, List.length_append, List.length_take, List.length_drop, List.length_replicate, blk_length, putL_length]; omega) | decide | fail) | fail) | exact gives_ld32 (hm.ext hwx) rfl rfl (by repeat (first | exact Has.hd | assumption | apply Has.tl)) (by first | omega | (simp only [zeros_length, zer_length, tab_length, part_length, setN_length, List.length_map, List.length_cons, List.length_nil, List.length_append, List.length_take, List.length_drop, List.length_replicate, blk_length, putL_length]; omega) | (refine Nat.lt_of_lt_of_le (BitVec.isLt _) ?_; first | omega | (simp only [zeros_length, zer_length, tab_length, part_length, setN_length, List.length_map, List.length_cons, List.length_nil, List.length_append, List.length_take, List.length_drop, List.length_replicate, blk_length, putL_length]; omega) | decide | fail) | fail) | exact gives_ldW (hm.ext hwx) rfl rfl (by repeat (first | exact Has.hd | assumption | apply Has.tl)) (by first | rfl | omega | (simp only [zeros_length, zer_length, tab_length, part_length, setN_length, List.length_map, List.length_cons, List.length_nil, List.length_append, List.length_take, List.length_drop, List.length_replicate, blk_length, putL_length] <;> omega) | fail) | exact gives_ld1 (hm.ext hwx) rfl rfl (by repeat (first | exact Has.hd | assumption | apply Has.tl)) rfl | (go_simp; (try go_bits); first | exact gives_same | exact gives_skip))
               · (simp only [Act.put, List.setIfInBounds_toArray, List.set_cons_succ, List.set_cons_zero]; rfl))
            | (apply walk_not rfl rfl rfl
               · (simp only [Act.put, List.setIfInBounds_toArray, List.set_cons_succ, List.set_cons_zero]; rfl)))
        intro wz hwz
        simp only [List.zip_cons_cons, List.zip_nil_right]
        repeat (first | rw [fin_is] | (rw [fin_cons]; intro _ _))
        rw [fin_nil]
        try (replace hm := hm.ext hwz)
        simp only [Act.put, List.setIfInBounds_toArray, List.set_cons_succ, List.set_cons_zero]
        have hr' := row_ext hr hwz
        have hc := row_v8 hr' k (by rw [fillTo_length _ _ (by rw [HN.out]; omega), HN.out]; exact hlt)
        have hf := row_free hr' k
        have hrs := row_set hr' k (v8 (a[k] ^^^ b[k]))
        rw [← List.map_set, Hset.out] at hrs
        have hxz := ext_setCell (hxr.trans hwz) ⟨w.heap.size, k, none⟩ (v8 (a[k] ^^^ b[k])) (Nat.le_refl _)
        go_wp2
        go_roundw
        case rel => exact ⟨k + 1, by omega, by go_num, hrs, hxz⟩
        case measure => simp [intOf] <;> omega
      · obtain rfl : k = n := by omega
        go_wp2
        go_ret
        have hr' : Row wr w.heap.size 5 ((xorL a b).map v8) := by rw [← HN.out, fillTo_all] at hr; exact hr
        exact ⟨_, rfl, ⟨_, _, by rw [HN.out]; rfl, by rw [HN.out]; exact Nat.le_refl _, RdB.of_row hr'⟩, hxr⟩

/-- Two rows are the same if no byte of their exclusive or is other than 0. -/
def orL (a b : List Byte) : Nat → Byte
  | 0 => 0#8
  | k + 1 => orL a b k ||| (a.getD k 0 ^^^ b.getD k 0)
theorem orL_zero (a b : List Byte) : ∀ k, orL a b k = 0#8 ↔ ∀ i, i < k → a.getD i 0 = b.getD i 0
  | 0 => by simp [orL]
  | k + 1 => by
    have h0 : ∀ x y : Byte, x ||| y = 0#8 ↔ x = 0#8 ∧ y = 0#8 := by
      intro x y
      constructor
      · intro h
        constructor
        · apply BitVec.eq_of_getLsbD_eq; intro i hi
          have := congrArg (fun z => z.getLsbD i) h
          simp at this; simp [this.1]
        · apply BitVec.eq_of_getLsbD_eq; intro i hi
          have := congrArg (fun z => z.getLsbD i) h
          simp at this; simp [this.2]
      · rintro ⟨rfl, rfl⟩; simp
    rw [orL, h0, orL_zero a b k, BitVec.xor_eq_zero_iff]
    constructor
    · rintro ⟨h1, h2⟩ i hi
      by_cases e : i = k
      · subst e; exact h2
      · exact h1 i (by omega)
    · intro h; exact ⟨fun i hi => h i (by omega), h k (by omega)⟩
theorem orL_same (a b : List Byte) (h : a.length = b.length) : (orL a b a.length == 0#8) = (a == b) := by
  rw [Bool.eq_iff_iff, beq_iff_eq, beq_iff_eq, orL_zero]
  constructor
  · intro hh
    apply List.ext_getElem h
    intro i h1 h2
    have := hh i h1
    simpa [h1, h2] using this
  · rintro rfl _ _; rfl

set_option maxHeartbeats 1000000 in
theorem same_any (a b : List Byte) (p q : Option Addr) (c d : Nat) (w : World) (ha : RdB w p a) (hb : RdB w q b) (_hla : a.length ≤ 140737488355328) (hlb : b.length ≤ 140737488355328) :
    Gives Try.prog 31 #[.slice p a.length c, .slice q b.length d] w (.bool (a == b)) := by
  unfold Gives
  by_cases hab : a.length = b.length
  · have hne : ((a.length : Int) != b.length) = false := by rw [hab]; simp
    have hs := orL_same a b hab
    have Hs := Lib.hid hs
    have Hab := Lib.hid hab
    have hab' : a.length ≤ b.length := by omega
    clear hab hs
    go_enter Try.func31, Try.ntmps31
    go_wp2
    go_loopw [5, 6, 14] (fun acc _ i wr => ∃ k : Nat, k ≤ a.length ∧ i = .int .i64 k ∧ acc = v8 (orL a b k) ∧ Ext w wr) (fun _ _ i _ => a.length - (intOf i).toNat)
    case atStart => exact ⟨0, Nat.zero_le _, rfl, rfl, Ext.refl w⟩
    case round =>
      obtain ⟨k, hk, rfl, rfl, hxr⟩ := hrel
      by_cases hlt : k < a.length
      · have hkb : k < b.length := by omega
        have hpa := (ha.ext hxr).isSome k (by omega)
        have hpb := (hb.ext hxr).isSome k (by omega)
        have hca := fun wx (hwx : Ext wr wx) => ((ha.ext hxr).ext hwx).at k (by omega)
        have hcb := fun wx (hwx : Ext wr wx) => ((hb.ext hxr).ext hwx).at k (by omega)
        have e : orL a b (k + 1) = orL a b k ||| (a[k] ^^^ b[k]) := by rw [orL]; simp [hlt, hkb]
        have He := Lib.hid e
        clear e
        go_wp2
        refine region_at 12 (fun w' => Ext wr w') 31 (by kernel_rfl) (by kernel_rfl) rfl (fun _ _ h k => h.trans k) (drew_ext _) ?_
        simp only [List.take_succ_cons, List.take_zero, List.drop_succ_cons, List.drop_zero, List.map_cons, List.map_nil]
        repeat (first
            | (apply walk_is rfl rfl rfl
               · (intro wx hwx; first | exact gives_ld8 (hm.ext hwx) rfl rfl (by repeat (first | exact Has.hd | assumption | apply Has.tl)) (by first | omega | (simp only [zeros_length, zer_length, tab_length, part_length, setN_length, List.length_map, List.length_cons, List.length_nil, List.length_append, List.length_take, List.length_drop, List.length_replicate, blk_length, putL_length]; omega) | (refine Nat.lt_of_lt_of_le (BitVec.isLt _) ?_; first | omega | (simp only [zeros_length, zer_length, tab_length, part_length, setN_length, List.length_map, List.length_cons, List.length_nil, List.length_append, List.length_take, List.length_drop, List.length_replicate, blk_length, putL_length]; omega) | decide | fail) | fail) | exact gives_ld64 (hm.ext hwx) rfl rfl (by repeat (first | exact Has.hd | assumption | apply Has.tl)) (by first | omega | (simp only [zeros_length, zer_length, tab_length, part_length, setN_length, List.length_map, List.length_cons, List.length_nil, List.length_append, List.length_take, List.length_drop, List.length_replicate, blk_length, putL_length]; omega) | (refine Nat.lt_of_lt_of_le (BitVec.isLt _) ?_; first | omega | (simp only [zeros_length, zer_length, tab_length, part_length, setN_length, List.length_map, List.length_cons, List.length_nil, List.length_append, List.length_take, List.length_drop, List.length_replicate, blk_length, putL_length]; omega) | decide | fail) | fail) | exact gives_ld32 (hm.ext hwx) rfl rfl (by repeat (first | exact Has.hd | assumption | apply Has.tl)) (by first | omega | (simp only [zeros_length, zer_length, tab_length, part_length, setN_length, List.length_map, List.length_cons, List.length_nil, List.length_append, List.length_take, List.length_drop, List.length_replicate, blk_length, putL_length]; omega) | (refine Nat.lt_of_lt_of_le (BitVec.isLt _) ?_; first | omega | (simp only [zeros_length, zer_length, tab_length, part_length, setN_length, List.length_map, List.length_cons, List.length_nil, List.length_append, List.length_take, List.length_drop, List.length_replicate, blk_length, putL_length]; omega) | decide | fail) | fail) | exact gives_ldW (hm.ext hwx) rfl rfl (by repeat (first | exact Has.hd | assumption | apply Has.tl)) (by first | rfl | omega | (simp only [zeros_length, zer_length, tab_length, part_length, setN_length, List.length_map, List.length_cons, List.length_nil, List.length_append, List.length_take, List.length_drop, List.length_replicate, blk_length, putL_length] <;> omega) | fail) | exact gives_ld1 (hm.ext hwx) rfl rfl (by repeat (first | exact Has.hd | assumption | apply Has.tl)) rfl | (go_simp; (try go_bits); first | exact gives_same | exact gives_skip))
               · (simp only [Act.put, List.setIfInBounds_toArray, List.set_cons_succ, List.set_cons_zero]; rfl))
            | (apply walk_not rfl rfl rfl
               · (simp only [Act.put, List.setIfInBounds_toArray, List.set_cons_succ, List.set_cons_zero]; rfl)))
        intro wz hwz
        simp only [List.zip_cons_cons, List.zip_nil_right]
        repeat (first | rw [fin_is] | (rw [fin_cons]; intro _ _))
        rw [fin_nil]
        try (replace hm := hm.ext hwz)
        simp only [Act.put, List.setIfInBounds_toArray, List.set_cons_succ, List.set_cons_zero]
        go_wp2
        go_roundw
        case rel => exact ⟨k + 1, by omega, by go_num, by rw [He.out], hxr.trans hwz⟩
        case measure => simp [intOf] <;> omega
      · obtain rfl : k = a.length := by omega
        go_wp2
        go_ret
        exact ⟨by rw [← Hs.out]; rfl, hxr⟩
  · have hne : ((a.length : Int) != b.length) = true := by rw [bne_iff_ne]; omega
    have hf : (a == b) = false := by rw [beq_eq_false_iff_ne]; rintro rfl; exact hab rfl
    rw [hf]
    clear ha hb hab hf
    go_enter Try.func31, Try.ntmps31
    go_wp2
    go_ret
    exact ⟨rfl, Ext.refl w⟩

end Go.Proofs.Ytmapcfhhklapbaa
