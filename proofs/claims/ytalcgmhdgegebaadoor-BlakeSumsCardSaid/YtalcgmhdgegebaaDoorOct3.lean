/-
  Layer 1: padded and marked rows, and what the chapter's examples say. Conditions: rows are shorter than 2^47, sizes at most 2^31.
-/
import Derived.Test.YtalcgmhdgegebaaDoorOct2
namespace Go.Proofs.YtalcgmhdgegebaaDoor
open Go Go.RowKit
set_option maxRecDepth 100000
set_option linter.unusedVariables false
set_option linter.unusedSimpArgs false

/-- How many noughts a length lacks to a multiple of a size. -/
def roomN (n : Nat) (s : Int) : Nat := if s < 1 then 0 else (s.toNat - n % s.toNat) % s.toNat
theorem roomN_lt (n : Nat) (s : Int) : roomN n s ≤ s.toNat := by
  unfold roomN; split
  · omega
  · exact Nat.le_of_lt (Nat.mod_lt _ (by omega))
def pad (l : List Byte) (s : Int) : List Byte := l ++ List.replicate (roomN l.length s) 0
def marked (l : List Byte) (m : Byte) (s : Int) : List Byte := pad (l ++ [m]) s

set_option maxHeartbeats 400000 in
theorem room_any (n : Nat) (s : Int) (w : World) (hn : n ≤ 281474976710656) (h0 : -9223372036854775808 ≤ s) (h1 : s ≤ 9223372036854775807) :
    Calls Tryd.prog 64 #[.int .i64 n, .int .i64 s] w fun e w' => e = .returned (.int .i64 (roomN n s)) ∧ w = w' := by
  by_cases hs : s < 1
  · have e : ((roomN n s : Nat) : Int) = 0 := by unfold roomN; rw [if_pos hs]; rfl
    rw [e]
    clear e
    go_enter Tryd.func64, Tryd.ntmps64
    go_wp2
    go_ret
    exact ⟨rfl, rfl⟩
  · obtain ⟨k, rfl⟩ := Int.eq_ofNat_of_zero_le (show 0 ≤ s by omega)
    have hmod : (n : Int) % k < k := Int.emod_lt_of_pos _ (by omega)
    have hmod0 : 0 ≤ (n : Int) % k := Int.emod_nonneg _ (by omega)
    have e : ((roomN n k : Nat) : Int) = ((k : Int) - (n : Int) % k) % k := by
      unfold roomN; rw [if_neg hs, Int.toNat_natCast]
      have hlt : n % k < k := Nat.mod_lt _ (by omega)
      rw [Int.natCast_emod, Int.ofNat_sub (Nat.le_of_lt hlt), Int.natCast_emod]
    rw [e]
    clear e
    have hk : 1 ≤ (k : Int) := by omega
    have hkne : ((k : Int) == 0) = false := by simp; omega
    go_enter Tryd.func64, Tryd.ntmps64
    go_wp2
    go_ret
    exact ⟨rfl, rfl⟩

theorem over_pad (l : List Byte) (r : Nat) : over (zeros (l.length + r)) 0 (l.take (l.length + r)) = l ++ List.replicate r 0 := by
  unfold zeros
  rw [List.take_of_length_le (by omega)]
  simp [over]

theorem over_pad' (l : List Byte) (s : Int) : over (zeros (l.length + roomN l.length s)) 0 (l.take (l.length + roomN l.length s)) = pad l s := over_pad l _

theorem info_byte : ∃ i, Tryd.prog.info? 5 = some i ∧ i.zero = some (.int .u8 0) ∧ i.size = 1 ∧ i.bytes = 1 := by
  obtain ⟨i, h1, h2, h3, h4⟩ := info_parts (show (Tryd.prog.info? 5).map (fun i => (i.zero, i.size, i.bytes)) = some (some (.int .u8 0), 1, 1) by kernel_rfl)
  exact ⟨i, h1, h2, h3, h4⟩

theorem make_b {ops : Array Oper} {Q : Exit → Act → World → Prop} {rest : List Oper} {o : Oper} {a : Act} {w : World} {x y : Operand} {N M : Int} (n : Nat)
    (hgd : Region.wanted o (yielded ops a.tmps) = true) (ho : o.op = .makeSlice 53 x y) (hx : a.eval x = .int .i64 N) (hy : a.eval y = .int .i64 M) (hN : N = (n : Int)) (hM : M = (n : Int)) (hn : n ≤ 281474976710656)
    (h : wpList Tryd.prog ops Q rest (a.put o.dst (.slice (some ⟨w.heap.size, 0, Option.none⟩) n n)) (w.alloc (.cells ((zeros n).map v8).toArray 5))) : wpList Tryd.prog ops Q (o :: rest) a w := by
  obtain ⟨i, hi, hz, hs, hb⟩ := info_byte
  exact wpl_make hgd ho hx hy (by kernel_rfl) hi hz hs hb hN hM hn h

set_option maxHeartbeats 400000 in
theorem padded_any (l : List Byte) (p : Option Addr) (c : Nat) (s : Int) (w : World) (h : RdB w p l) (hl : l.length ≤ 140737488355328) (h0 : -9223372036854775808 ≤ s) (h1 : s ≤ 2147483648) :
    GivesR Tryd.prog 35 #[.slice p l.length c, .int .i64 s] w (BytesS (pad l s)) := by
  unfold GivesR
  have hr := roomN_lt l.length s
  have hx : Ext w (w.alloc (.cells ((zeros (l.length + roomN l.length s)).map v8).toArray 5)) := (Ext.refl w).alloc _
  have hrow := row_new w 5 ((zeros (l.length + roomN l.length s)).map v8)
  have hbb := h.ext hx
  go_enter Tryd.func35, Tryd.ntmps35
  go_wp2_with (first | (go_at_call 64; refine (room_any l.length s _ (by omega) h0 (by omega)).mono ?_; rintro e w' ⟨rfl, rfl⟩) | (with_reducible show wpList _ _ _ _ _ _; refine make_b (l.length + roomN l.length s) rfl rfl rfl rfl (by omega) (by omega) (by omega) ?_) | (with_reducible show wpList _ _ _ _ _ _; refine wpl_copy (over_pad' l s) rfl rfl rfl rfl rfl rfl (by kernel_rfl) hrow (by simp [zeros_length]) hbb ?_))
  go_ret
  refine ⟨_, rfl, ⟨_, _, ?_, Nat.le_refl _, RdB.of_row (row_setRow hrow _)⟩, ext_setRow hx _ _ (Nat.le_refl _)⟩
  simp [pad]

/-- A row with one nought behind it, and with a mark. -/
def with1 (l : List Byte) (m : Byte) : List Byte := l ++ [m]
theorem with1_length (l : List Byte) (m : Byte) : (with1 l m).length = l.length + 1 := by simp [with1]
theorem over_mark (l : List Byte) : over (zeros (l.length + 1)) 0 (l.take (l.length + 1)) = with1 l 0#8 := over_pad l 1
theorem set_mark (l : List Byte) (m : Byte) : ((with1 l 0#8).map v8).set l.length (v8 m) = (with1 l m).map v8 := by
  unfold with1
  rw [List.map_append, List.set_append_right _ _ (by simp)]; simp

theorem conv_str (p : Option Addr) (l : List Byte) (c : Nat) (w : World) (h : RdB w p l) : (convert 53 9 (.slice p l.length c)).run Tryd.prog w = .ok (.string (bstr l)) w :=
  run_conv_str (e := 5) (by kernel_rfl) (by kernel_rfl) (by kernel_rfl) c h

attribute [go_sem] blk_length
@[go_sem] theorem eql16 (d : Nat) (l m : List Byte) (w : World) (hl : l.length = 16) (hm : m.length = 16) : (Op.equalIn (d + 2) 22 (A8 l) (A8 m)).run Tryd.prog w = .ok (l == m) w :=
  run_equalIn_bytes w d _ 5 16 l m (by kernel_rfl) (by kernel_rfl) (by kernel_rfl) hl hm

end Go.Proofs.YtalcgmhdgegebaaDoor
