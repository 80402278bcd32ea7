/-
  Rows of bytes that the call itself makes by append. Conditions: rows are shorter than 2^47.
-/
import Derived.Test.YtalcgmhdgegebaaDoorOct3
import Derived.Laws.AppendOwnNone
namespace Go.Proofs.YtalcgmhdgegebaaDoor
open Go Go.RowKit
set_option maxRecDepth 100000
set_option linter.unusedVariables false
set_option linter.unusedSimpArgs false

/-- A slice of the call's own, among the blocks from B on, that holds just l. -/
def OwnB (w : World) (B : Nat) (v : Value) (l : List Byte) : Prop := w.ownsRow B 5 1 v l.length (l.map v8)
theorem OwnB.nil (w : World) (B : Nat) : OwnB w B (.slice none 0 0) [] := World.ownsRow_nil w B _ 1
theorem OwnB.made (w : World) (B : Nat) (hB : B ≤ w.heap.size) : OwnB (w.alloc (.cells #[] 5)) B (.slice (some ⟨w.heap.size, 0, none⟩) 0 0) [] :=
  World.ownsRow_made w #[] 0 hB (by simp [maxLen]) rfl
theorem OwnB.drew {w : World} {B : Nat} {v : Value} {l : List Byte} (h : OwnB w B v l) : OwnB w.drew B v l := h
theorem OwnB.alloc {w : World} {B : Nat} {v : Value} {l : List Byte} (h : OwnB w B v l) (o : Obj) : OwnB (w.alloc o) B v l := World.ownsRow.alloc h o
theorem OwnB.ext {w w' : World} {B : Nat} {v : Value} {l : List Byte} (h : OwnB w B v l) (hx : Ext w w') : OwnB w' B v l :=
  World.ownsRow.kept h (row := none) ⟨hx.os, hx.tape, hx.output, hx.size, fun k hk _ => Below.block hx k hk⟩ (by cases hv : v.ownBlock <;> simp)
/-- It reads as l. -/
theorem OwnB.reads {w : World} {B : Nat} {v : Value} {l : List Byte} (h : OwnB w B v l) : BytesS l v w := by
  obtain ⟨h1, h2⟩ := h
  rcases h2 with ⟨rfl, h0⟩ | ⟨g, cap, cur, rfl, hg, hh, hn, hc, hs, ht⟩
  · have : l = [] := List.eq_nil_of_length_eq_zero h0
    subst this
    exact ⟨none, 0, rfl, Nat.le_refl _, RdB.nil _ _⟩
  · refine ⟨some ⟨g, 0, none⟩, cap, rfl, hn, fun _ => rfl, fun i hi => ?_⟩
    have e : (⟨g, 0, none⟩ : Addr).add i = ⟨g, i, none⟩ := by simp [Addr.add]; omega
    show w.cell? ((⟨g, 0, none⟩ : Addr).add i) = _
    rw [e, cell_of_row w g i cur _ _ hh]
    have : (cur.toList.take (l.length * 1))[i]? = (l.map v8)[i]? := by rw [ht]
    rw [List.getElem?_take, if_pos (by omega)] at this
    rw [← Array.getElem?_toList, this]
    simp [hi]
theorem OwnB.slice {w : World} {B : Nat} {v : Value} {l : List Byte} (h : OwnB w B v l) : ∃ p c, v = .slice p l.length c ∧ l.length ≤ c ∧ RdB w p l := h.reads
theorem OwnB.slice' {w : World} {B : Nat} {v : Value} {l : List Byte} (h : OwnB w B v l) : ∃ (p : Option Addr) (c n : Nat), v = .slice p n c ∧ n ≤ l.length ∧ l.length ≤ n := by
  obtain ⟨p, c, h1, _⟩ := h.reads; exact ⟨p, c, _, h1, Nat.le_refl _, Nat.le_refl _⟩
theorem OwnB.lt {w : World} {B : Nat} {v : Value} {l : List Byte} (h : OwnB w B v l) : ∀ k, v.ownBlock = some k → B ≤ k ∧ k < w.heap.size := World.ownsRow.lt h

theorem wpl_app {ops : Array Oper} {Q : Exit → Act → World → Prop} {rest : List Oper} {o : Oper} {a : Act} {w : World} {s x : Operand} {p : Option Addr} {B c : Nat} {v : Value} {l m : List Byte}
    (hgd : o.guard = none) (ho : o.op = .call { callee := .builtin .append, args := #[s, x], argTypes := #[53, 53] }) (hs : a.eval s = v) {n : Nat} (hx : a.eval x = .slice p n c) (hn : n = m.length)
    (hown : OwnB w B v l) (hr : RdB w p m) (hc : m.length ≤ c) (hlen : l.length + m.length ≤ 140737488355328) (hB : B ≤ w.heap.size)
    (h : ∀ v' w', OwnB w' B v' (l ++ m) → Below B w w' → w.grownBy w' v.ownBlock → wpList Tryd.prog ops Q rest (a.put o.dst v') w') : wpList Tryd.prog ops Q (o :: rest) a w := by
  subst hn
  obtain ⟨i, hi, hz, hsz, hb⟩ := info_byte
  cases p with
  | some ad =>
    refine wpList_append_own w hgd s x 53 ho B 5 i (.int .u8 0) 1 1 (by kernel_rfl) hi hz hsz hb rfl (by decide) v l.length (l.map v8) hs hown ad m.length c (m.map v8) hx (by simp) ?_ (one_v8 m) (by unfold maxLen; omega) (by omega) hB ?_
    · intro j u hj
      simp only [List.getElem?_map] at hj
      obtain ⟨y, hy, rfl⟩ := Option.map_eq_some_iff.1 hj
      obtain ⟨hlt, hy'⟩ := List.getElem?_eq_some_iff.1 hy
      have := hr.2 j hlt
      simp only [Option.getD_some] at this
      rw [this]; simp [hlt, hy']
    · intro v' w' h1 h2 _
      refine h v' w' ?_ ((Below.refl B w).grown h2 hB fun k hk => (hown.lt k hk).1) h2
      unfold OwnB; rw [List.length_append, List.map_append]; exact h1
  | none =>
    have := hr.none; subst this
    have hrun : (Builtin.append_ #[53, 53] o.type #[v, .slice none 0 c]).run Tryd.prog w = .ok v w :=
      run_append_owned_none (P := Tryd.prog) (w := w) B 53 o.type 5 i 1 (by kernel_rfl) hi v l.length (l.map v8) hown
    refine wpList_plain hgd fun K hK => ?_
    unfold Oper.wp
    simp only [List.length_nil] at hx
    simp [execOp, ho, resolve, invoke, builtin, hs, hx, hrun, Result.andThen]
    refine hK _ _ (h v w (by simpa using hown) (Below.refl _ _) ⟨rfl, rfl, rfl, Nat.le_refl _, fun _ _ _ => rfl⟩)

theorem one_new (w : World) (x : Byte) : RdB (w.alloc (.cells #[v8 x] 5)) (some ⟨w.heap.size, 0, none⟩) [x] := RdB.of_row (row_new w 5 [v8 x])

end Go.Proofs.YtalcgmhdgegebaaDoor
