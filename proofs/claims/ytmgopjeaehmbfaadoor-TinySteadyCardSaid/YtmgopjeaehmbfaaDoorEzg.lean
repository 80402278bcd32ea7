/-
  What is told of a call's own blocks and of keys, ahead of both ways to reckon. Conditions: those written in each theorem.
-/
import Derived.Test.YtmgopjeaehmbfaaDoorEz3
import Derived.Test.YtmgopjeaehmbfaaDoorBs
namespace Go.Proofs.YtmgopjeaehmbfaaDoor
open Go Go.RowKit
set_option maxRecDepth 100000
set_option linter.unusedVariables false
set_option linter.unusedSimpArgs false

theorem right15_any (key : List Byte) (p : Option Addr) (c : Nat) (w : World) : Calls Tryd.prog 19 #[.slice p key.length c] w fun e w' => e = .returned (.bool (rightL key)) ∧ w = w' := by
  by_cases h0 : 0 < key.length
  · have a1 : decide ((0 : Int) < (key.length : Int)) = true := decide_eq_true (by omega)
    have a2 : (0 : Int) < (key.length : Int) := by omega
    have e1 : decide (0 < key.length) = true := decide_eq_true h0
    by_cases h1 : key.length ≤ 128
    · have a3 : decide ((key.length : Int) ≤ 128) = true := decide_eq_true (by omega)
      have a4 : (key.length : Int) ≤ 128 := by omega
      have e : Hid (rightL key = true) := Lib.hid (by rw [rightL, e1, decide_eq_true h1]; rfl)
      rw [e.out]
      clear e1
      go_enter Tryd.func19, Tryd.ntmps19
      go_wp2
      go_ret
      exact ⟨rfl, rfl⟩
    · have a3 : decide ((key.length : Int) ≤ 128) = false := decide_eq_false (by omega)
      have a4 : ¬ (key.length : Int) ≤ 128 := by omega
      have e : Hid (rightL key = false) := Lib.hid (by rw [rightL, e1, decide_eq_false h1]; rfl)
      rw [e.out]
      clear e1
      go_enter Tryd.func19, Tryd.ntmps19
      go_wp2
      go_ret
      exact ⟨rfl, rfl⟩
  · have e : rightL key = false := by rw [rightL, decide_eq_false h0]; rfl
    rw [e]
    have a2 : key.length = 0 := by omega
    rw [a2]
    go_enter Tryd.func19, Tryd.ntmps19
    go_wp2
    go_ret
    exact ⟨rfl, rfl⟩
/-- The call's own blocks, before and since. -/
theorem Own.join {w0 w w' : World} {L M : List Blk} (h : Own w0 w L) (k : Own w w' M) : Own w0 w' (M ++ L) :=
  ⟨h.1.trans k.1, by
    rw [List.map_append, List.nodup_append]
    refine ⟨k.2.1, h.2.1, fun a ha b hb e => ?_⟩
    obtain ⟨x, hx, rfl⟩ := List.mem_map.1 ha
    obtain ⟨y, hy, rfl⟩ := List.mem_map.1 hb
    have h1 := (k.2.2 x hx).1
    have h2 := h.lt y hy
    omega, fun b hb => by
    rcases List.mem_append.1 hb with hb | hb
    · exact ⟨Nat.le_trans h.1.size (k.2.2 b hb).1, (k.2.2 b hb).2⟩
    · exact ⟨(h.2.2 b hb).1, row_ext (h.2.2 b hb).2 k.1⟩⟩
theorem Own.rdK {w0 w : World} {L : List Blk} {g : Nat} {e : TypeId} {ks : List (List Byte)} (hm : Own w0 w L) (hh : Has L ⟨g, e, catV ks⟩) (hk : ∀ k ∈ ks, k.length = 16) : RdK w (some ⟨g, 0, none⟩) 16 ks := ⟨hk, RdB.of_row (hm.row hh)⟩
theorem RdR.row {w : World} {p : Option Addr} {ls : List (List Byte)} (h : RdR w p ls) (k : Nat) (hk : k < ls.length) : ∃ a : Addr, p = some a ∧ ∃ (q : Option Addr) (c : Nat), w.cell? (a.add k) = some (.slice q (ls.getD k []).length c) ∧ RdB w q (ls.getD k []) ∧ (ls.getD k []).length ≤ c ∧ (ls.getD k []).length ≤ maxLen := by
  obtain ⟨a, rfl⟩ := Option.isSome_iff_exists.1 (h.1 (by omega))
  exact ⟨a, rfl, h.2 k hk⟩
theorem bs1_1 (w : World) : (Instr.buildSlice 22 1 #[(0, .int .u8 1)]).run Tryd.prog w = .ok (.slice (some ⟨w.heap.size, 0, none⟩) 1 1) (w.alloc (.cells [v8 1#8].toArray 5)) := by kernel_rfl

end Go.Proofs.YtmgopjeaehmbfaaDoor
