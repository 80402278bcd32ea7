/-
  What the arguments of a statement are, read as data: numbers, arrays, structs, slices. No conditions.
-/
import Derived.Test.YtalcgmhdgegebaaDoorOwn
import Derived.WalkKit
import Derived.ProofKit
import Derived.OpenShut
import Derived.ShutString
import Derived.ChangeOld
import Derived.Below
import Derived.Deep.Slices
namespace Go.Proofs.YtalcgmhdgegebaaDoor
open Go Go.RowKit Go.ChangeShapes Go.WideShapes Go.ChangeAt Go.Deep
set_option maxRecDepth 100000
set_option linter.unusedVariables false
set_option linter.unusedSimpArgs false

/-- These cells read as data of this type. -/
def Trd {H : Type} (enc : TypeId × Value → H) (P : Program) (w : World) (T : TypeId) (cs : List Value) : Prop := ∃ fuel x, DataW.trod enc P w 0 (fun _ => true) true fuel T cs = some x

section
variable {H : Type} {enc : TypeId × Value → H} {P : Program} {w : World} {T e : TypeId} {cs : List Value}
theorem Trd.of {v : Value} {d : DataW H} {p : List MemPlace} (h : DataW.Trod enc P w 0 (fun _ => true) true T v d p) : Trd enc P w T v.cells.toList := by
  obtain ⟨f, hf⟩ := h; exact ⟨f, _, hf⟩
theorem Trd.cells {v : Value} {cs : List Value} (h : Trd enc P w T v.cells.toList) (he : v.cells.toList = cs) : Trd enc P w T cs := he ▸ h
theorem okWide_agg {r : Reach} {base : Nat} {v : Value} (hT : ((P.underlying T).map fun d => d.isRow) = some true) (h : Value.okWide P w r base T v) : ∃ cs : List Value, v = .agg cs.toArray := by
  obtain ⟨d, hu, hd⟩ := Option.map_eq_some_iff.1 hT
  simp only [Value.okWide, hu] at h
  cases d <;> simp [TypeDesc.isRow] at hd
  all_goals
    obtain ⟨cs, h1, _⟩ := h
    exact ⟨cs.toList, by rw [h1]⟩
theorem Trd.int {k : IntKind} (ht : P.underlying T = some (.int k)) (h : Trd enc P w T cs) : ∃ n, cs = [.int k n] ∧ (Lit.int k n).wf = true := by
  obtain ⟨f, x, hf⟩ := h
  obtain ⟨n, h1, _, h2⟩ := DataW.trod_int ht hf
  exact ⟨n, h1, h2⟩
theorem Trd.u8 (ht : P.underlying T = some (.int .u8)) (h : Trd enc P w T cs) : ∃ x : BitVec 8, cs = [v8 x] := by
  obtain ⟨n, rfl, hw⟩ := h.int ht; exact ⟨_, by rw [int_v8 _ hw]⟩
theorem Trd.u16 (ht : P.underlying T = some (.int .u16)) (h : Trd enc P w T cs) : ∃ x : BitVec 16, cs = [v16 x] := by
  obtain ⟨n, rfl, hw⟩ := h.int ht; exact ⟨_, by rw [int_v16 _ hw]⟩
theorem Trd.u32 (ht : P.underlying T = some (.int .u32)) (h : Trd enc P w T cs) : ∃ x : BitVec 32, cs = [v32 x] := by
  obtain ⟨n, rfl, hw⟩ := h.int ht; exact ⟨_, by rw [int_v32 _ hw]⟩
theorem Trd.u64 (ht : P.underlying T = some (.int .u64)) (h : Trd enc P w T cs) : ∃ x : BitVec 64, cs = [v64 x] := by
  obtain ⟨n, rfl, hw⟩ := h.int ht; exact ⟨_, by rw [int_v64 _ hw]⟩
theorem Trd.i64 (ht : P.underlying T = some (.int .i64)) (h : Trd enc P w T cs) : ∃ n : Int, cs = [.int .i64 n] ∧ -9223372036854775808 ≤ n ∧ n ≤ 9223372036854775807 := by
  obtain ⟨n, rfl, hw⟩ := h.int ht; exact ⟨n, rfl, int_i64 n hw⟩
theorem Trd.bool (ht : P.underlying T = some .bool) (h : Trd enc P w T cs) : ∃ b : Bool, cs = [.bool b] := by
  obtain ⟨f, x, hf⟩ := h
  obtain ⟨b, h1, _⟩ := DataW.trod_bool ht hf
  exact ⟨b, h1⟩
theorem Trd.str (ht : P.underlying T = some .string) (h : Trd enc P w T cs) : ∃ s : ByteArray, cs = [.string s] ∧ s.size ≤ maxLen := by
  obtain ⟨f, x, hf⟩ := h
  obtain ⟨b, h1, _, h2⟩ := DataW.trod_string ht hf
  exact ⟨b, h1, h2⟩
theorem Trd.arr {n s m : Nat} (ht : P.underlying T = some (.array n e)) (hc : P.cellsOf e = s) (hm : P.cellsOf T = m) (h : Trd enc P w T cs) : cs.length = m ∧ ∀ i, i < n → Trd enc P w e ((cs.drop (i * s)).take s) := by
  obtain ⟨f, x, hf⟩ := h
  obtain ⟨xs, m', rfl, rfl, h1, h2, h3⟩ := DataW.trod_array ht hf
  subst hc hm
  exact ⟨h1, fun i hi => ⟨m', xs[i]'(by omega), by rw [h3 i hi]; exact List.getElem?_eq_getElem (by omega)⟩⟩
theorem Trd.struct {fs : Array Field} {m : Nat} (ht : P.underlying T = some (.struct fs)) (hm : P.cellsOf T = m) (h : Trd enc P w T cs) : cs.length = m ∧ ∀ (i : Nat) (f : Field), fs[i]? = some f → Trd enc P w f.type ((cs.drop f.offset).take (P.cellsOf f.type)) := by
  obtain ⟨f, x, hf⟩ := h
  obtain ⟨xs, m', rfl, rfl, h1, h2, h3⟩ := DataW.trod_struct ht hf
  subst hm
  refine ⟨h1, fun i f hi => ?_⟩
  have hlt : i < xs.length := by rw [h2]; exact (Array.getElem?_eq_some_iff.1 hi).1
  exact ⟨m', xs[i], by rw [h3 i f hi]; exact List.getElem?_eq_getElem hlt⟩
/-- One field of a struct, by its place. -/
theorem Trd.field {fs : Array Field} {i off n : Nat} {ft : TypeId} (h : ∀ (i : Nat) (f : Field), fs[i]? = some f → Trd enc P w f.type ((cs.drop f.offset).take (P.cellsOf f.type))) (hf : (fs[i]?).map (fun f => (f.type, f.offset)) = some (ft, off)) (hn : P.cellsOf ft = n) : Trd enc P w ft ((cs.drop off).take n) := by
  obtain ⟨f, hf1, hf2⟩ := Option.map_eq_some_iff.1 hf
  simp only [Prod.mk.injEq] at hf2
  obtain ⟨rfl, rfl⟩ := hf2
  subst hn
  exact h i f hf1
theorem glue (cs : List Value) (off n : Nat) : cs.drop off = (cs.drop off).take n ++ cs.drop (off + n) := by
  rw [← List.drop_drop, List.take_append_drop]
theorem arr_cells {α : Type} (f : α → Value) (n : Nat) (cs : List Value) (hl : cs.length = n) (h : ∀ i, i < n → ∃ x, (cs.drop i).take 1 = [f x]) : ∃ l : List α, l.length = n ∧ cs = l.map f := by
  induction n generalizing cs with
  | zero => exact ⟨[], rfl, by simpa using hl⟩
  | succ n ih =>
    cases cs with
    | nil => simp at hl
    | cons c cs =>
      obtain ⟨x, hx⟩ := h 0 (by omega)
      simp at hx
      obtain ⟨l, h1, h2⟩ := ih cs (by simpa using hl) (fun i hi => by have := h (i + 1) (by omega); simpa using this)
      exact ⟨x :: l, by simp [h1], by simp [hx, h2]⟩
theorem Trd.arr8 {n : Nat} (ht : P.underlying T = some (.array n e)) (he : P.underlying e = some (.int .u8)) (hc : P.cellsOf e = 1) (hm : P.cellsOf T = n) (h : Trd enc P w T cs) : ∃ l : List (BitVec 8), l.length = n ∧ cs = l.map v8 := by
  obtain ⟨h1, h2⟩ := h.arr ht hc hm
  exact arr_cells v8 n cs h1 fun i hi => by have := (h2 i hi).u8 he; simpa using this
theorem Trd.arr64 {n : Nat} (ht : P.underlying T = some (.array n e)) (he : P.underlying e = some (.int .u64)) (hc : P.cellsOf e = 1) (hm : P.cellsOf T = n) (h : Trd enc P w T cs) : ∃ l : List (BitVec 64), l.length = n ∧ cs = l.map v64 := by
  obtain ⟨h1, h2⟩ := h.arr ht hc hm
  exact arr_cells v64 n cs h1 fun i hi => by have := (h2 i hi).u64 he; simpa using this
/-- A slice of bytes. -/
theorem Trd.bytes (ht : P.underlying T = some (.slice e)) (he : P.underlying e = some (.int .u8)) (hc : P.cellsOf e = 1) (h : Trd enc P w T cs) : ∃ (p : Option Addr) (l : List Byte) (c : Nat), cs = [.slice p l.length c] ∧ RdB w p l ∧ l.length ≤ c ∧ l.length ≤ maxLen := by
  obtain ⟨f, x, hf⟩ := h
  rcases open_ints ht he hc hf with ⟨rfl, _⟩ | ⟨a, len, cap, zs, rfl, _, hl, hm, hz, _, hcell, hwz⟩
  · exact ⟨none, [], 0, rfl, RdB.nil _ _, Nat.le_refl _, by simp⟩
  · obtain ⟨l, h1, h2, h3, h4⟩ := rdB_of (w := w) (a := some a) (len := len) (cap := cap) (zs := zs) (.inr ⟨a, rfl, hl, hm, by simpa using hz, hcell, hwz⟩)
    exact ⟨some a, l, cap, by rw [h1], h2, h3, h4⟩

/-- A slice of slices of bytes: at the address p they lie, each with its bytes. -/
def RdR (w : World) (p : Option Addr) (ls : List (List Byte)) : Prop :=
  (0 < ls.length → p.isSome = true) ∧ ∀ i, i < ls.length → ∃ (q : Option Addr) (c : Nat), w.cell? ((p.getD default).add i) = some (.slice q (ls.getD i []).length c) ∧ RdB w q (ls.getD i []) ∧ (ls.getD i []).length ≤ c ∧ (ls.getD i []).length ≤ maxLen
theorem RdR.ext {w w' : World} {p : Option Addr} {ls : List (List Byte)} (h : RdR w p ls) (hx : Ext w w') : RdR w' p ls :=
  ⟨h.1, fun i hi => by obtain ⟨q, c, h1, h2, h3⟩ := h.2 i hi; exact ⟨q, c, hx.cell h1, h2.ext hx, h3⟩⟩
theorem Trd.rows {q : TypeId} (ht : P.underlying T = some (.slice e)) (he : P.underlying e = some (.slice q)) (hq : P.underlying q = some (.int .u8)) (hc : P.cellsOf e = 1) (hcq : P.cellsOf q = 1) (h : Trd enc P w T cs) :
    ∃ (p : Option Addr) (ls : List (List Byte)) (c : Nat), cs = [.slice p ls.length c] ∧ RdR w p ls ∧ ls.length ≤ c ∧ ls.length ≤ maxLen := by
  obtain ⟨f, x, hf⟩ := h
  rcases open_slice1 ht hc hf with ⟨rfl, _⟩ | ⟨a, len, cap, m, n, V, D, Pl, rfl, _, hl, hm, hmm, _, hel⟩
  · exact ⟨none, [], 0, rfl, ⟨by simp, by simp⟩, Nat.le_refl _, by simp⟩
  · simp only [if_true] at hmm
    have each : ∀ i, i < len → ∃ l : List Byte, ∃ (q' : Option Addr) (c : Nat), V i = .slice q' l.length c ∧ RdB w q' l ∧ l.length ≤ c ∧ l.length ≤ maxLen := fun i hi => by
      obtain ⟨p', l, c', h1, h2, h3, h4⟩ := Trd.bytes (cs := [V i]) he hq hcq ⟨n, _, (hel i (by omega)).2⟩
      exact ⟨l, p', c', by simpa using h1, h2, h3, h4⟩
    have : ∃ ls : List (List Byte), ls.length = len ∧ ∀ i, i < len → ∃ (q' : Option Addr) (c : Nat), V i = .slice q' (ls.getD i []).length c ∧ RdB w q' (ls.getD i []) ∧ (ls.getD i []).length ≤ c ∧ (ls.getD i []).length ≤ maxLen := by
      have key : ∀ k, k ≤ len → ∃ ls : List (List Byte), ls.length = k ∧ ∀ i, i < k → ∃ (q' : Option Addr) (c : Nat), V i = .slice q' (ls.getD i []).length c ∧ RdB w q' (ls.getD i []) ∧ (ls.getD i []).length ≤ c ∧ (ls.getD i []).length ≤ maxLen := by
        intro k
        induction k with
        | zero => intro _; exact ⟨[], rfl, by intros; omega⟩
        | succ k ih =>
          intro hk
          obtain ⟨ls, h1, h2⟩ := ih (by omega)
          obtain ⟨l, hl'⟩ := each k (by omega)
          refine ⟨ls ++ [l], by simp [h1], fun i hi => ?_⟩
          by_cases hik : i < k
          · have : (ls ++ [l]).getD i [] = ls.getD i [] := by simp [List.getElem?_append_left (show i < ls.length by omega)]
            rw [this]; exact h2 i hik
          · have : (ls ++ [l]).getD i [] = l := by
              have : i = ls.length := by omega
              subst this; simp
            rw [this]
            have : i = k := by omega
            subst this; exact hl'
      exact key len (Nat.le_refl _)
    obtain ⟨ls, h1, h2⟩ := this
    subst h1
    refine ⟨some a, ls, cap, rfl, ⟨fun _ => rfl, fun i hi => ?_⟩, hl, by omega⟩
    obtain ⟨q', c, h3, h4⟩ := h2 i hi
    refine ⟨q', c, ?_, h4⟩
    rw [← h3]
    exact (hel i (by omega)).1

/-- A slice of blocks of n bytes: their bytes lie one behind the other. -/
def RdK (w : World) (p : Option Addr) (n : Nat) (ks : List (List Byte)) : Prop := (∀ k ∈ ks, k.length = n) ∧ RdB w p ks.flatten
theorem RdK.ext {w w' : World} {p : Option Addr} {n : Nat} {ks : List (List Byte)} (h : RdK w p n ks) (hx : Ext w w') : RdK w' p n ks := ⟨h.1, h.2.ext hx⟩
theorem flatten_length (n : Nat) : ∀ (ks : List (List Byte)), (∀ k ∈ ks, k.length = n) → ks.flatten.length = ks.length * n
  | [], _ => by simp
  | k :: ks, h => by
    simp only [List.flatten_cons, List.length_append, flatten_length n ks (fun x hx => h x (by simp [hx])), h k (by simp), List.length_cons, Nat.succ_mul]; omega
theorem flatten_getD (n : Nat) : ∀ (ks : List (List Byte)) (i j : Nat), (∀ k ∈ ks, k.length = n) → i < ks.length → j < n → ks.flatten.getD (i * n + j) 0 = (ks.getD i []).getD j 0
  | [], _, _, _, h, _ => by simp at h
  | k :: ks, 0, j, h, _, hj => by
    have := h k (by simp)
    simp [List.getElem?_append_left (show j < k.length by omega)]
  | k :: ks, i + 1, j, h, hi, hj => by
    have hk := h k (by simp)
    have := flatten_getD n ks i j (fun x hx => h x (by simp [hx])) (by simpa using hi) hj
    simp only [List.flatten_cons, List.getD_eq_getElem?_getD, List.getD_cons_succ] at this ⊢
    rw [List.getElem?_append_right (by rw [hk, Nat.succ_mul]; omega), hk, show (i + 1) * n + j - n = i * n + j from by rw [Nat.succ_mul]; omega]
    exact this
theorem Trd.blocks {q : TypeId} {n : Nat} (ht : P.underlying T = some (.slice e)) (he : P.underlying e = some (.array n q)) (hq : P.underlying q = some (.int .u8)) (hc : P.cellsOf e = n) (hcq : P.cellsOf q = 1) (hn : 0 < n) (h : Trd enc P w T cs) :
    ∃ (p : Option Addr) (ks : List (List Byte)) (c : Nat), cs = [.slice p ks.length c] ∧ RdK w p n ks ∧ ks.length ≤ c ∧ ks.length ≤ maxLen := by
  obtain ⟨f, x, hf⟩ := h
  rcases open_slice ht hf with ⟨rfl, _⟩ | ⟨a, len, cap, m, n', D, Pl, rfl, _, hl, hm, hmm, _, hel⟩
  · exact ⟨none, [], 0, rfl, ⟨by simp, RdB.nil _ _⟩, Nat.le_refl _, by simp⟩
  · simp only [if_true] at hmm
    rw [hc] at hel
    have key : ∀ k, k ≤ len → ∃ ks : List (List Byte), ks.length = k ∧ (∀ x ∈ ks, x.length = n) ∧ ∀ i, i < k → ∀ j, j < n → w.cell? (a.add (i * n + j)) = some (v8 ((ks.getD i []).getD j 0)) := by
      intro k
      induction k with
      | zero => intro _; exact ⟨[], rfl, by simp, by intros; omega⟩
      | succ k ih =>
        intro hk
        obtain ⟨ks, h1, h2, h3⟩ := ih (by omega)
        obtain ⟨cs', hcs, htr⟩ := hel k (by omega)
        obtain ⟨l, hl1, rfl⟩ := Trd.arr8 (cs := cs') he hq hcq hc ⟨n', _, htr⟩
        obtain ⟨_, _, hcell⟩ := World.cells?_some hcs
        refine ⟨ks ++ [l], by simp [h1], fun x hx => ?_, fun i hi j hj => ?_⟩
        · rcases List.mem_append.1 hx with hx | hx
          · exact h2 x hx
          · rw [List.mem_singleton.1 hx, hl1]
        · by_cases hik : i < k
          · have : (ks ++ [l]).getD i [] = ks.getD i [] := by simp [List.getElem?_append_left (show i < ks.length by omega)]
            rw [this]; exact h3 i hik j hj
          · have hik' : i = ks.length := by omega
            have : (ks ++ [l]).getD i [] = l := by subst hik'; simp
            rw [this]
            have hik2 : i = k := by omega
            subst hik2
            have := hcell j hj
            rw [List.getElem?_map, List.getElem?_eq_getElem (by omega)] at this
            have e : (a.add (i * n)).add j = a.add (i * n + j) := by unfold Addr.add; split <;> split <;> simp_all <;> omega
            rw [e] at this
            rw [this]; simp [show j < l.length by omega]
    obtain ⟨ks, h1, h2, h3⟩ := key len (Nat.le_refl _)
    subst h1
    refine ⟨some a, ks, cap, rfl, ⟨h2, fun _ => rfl, fun i hi => ?_⟩, hl, by omega⟩
    rw [flatten_length n ks h2] at hi
    have hlt : i / n < ks.length := by rw [Nat.div_lt_iff_lt_mul hn]; exact hi
    have hmod : i % n < n := Nat.mod_lt _ hn
    have e : i / n * n + i % n = i := by rw [Nat.mul_comm]; exact Nat.div_add_mod i n
    have := h3 (i / n) hlt (i % n) hmod
    rw [e] at this
    simp only [Option.getD_some]
    rw [this]
    have := flatten_getD n ks (i / n) (i % n) h2 hlt hmod
    rw [e] at this
    rw [this]

/-! ### An argument's value -/
section
variable {r : Reach} {b0 : Nat} {v : Value} {d : DataW H} {ps : List MemPlace}
theorem val_agg (hT : ((P.underlying T).map fun d => d.isRow) = some true) (hval : Value.okWide P w r b0 T v) (h : DataW.Trod enc P w 0 (fun _ => true) true T v d ps) : ∃ cs : List Value, v = .agg cs.toArray ∧ Trd enc P w T cs := by
  obtain ⟨cs, rfl⟩ := okWide_agg hT hval
  exact ⟨cs, rfl, (Trd.of h).cells rfl⟩
theorem val_u8 (ht : P.underlying T = some (.int .u8)) (hval : Value.okWide P w r b0 T v) (h : DataW.Trod enc P w 0 (fun _ => true) true T v d ps) : ∃ x : BitVec 8, v = v8 x := by
  obtain ⟨n, rfl⟩ := okWide_int ht hval
  obtain ⟨x, e⟩ := ((Trd.of h).cells (cs := [.int .u8 n]) rfl).u8 ht
  exact ⟨x, (List.cons.inj e).1⟩
theorem val_u16 (ht : P.underlying T = some (.int .u16)) (hval : Value.okWide P w r b0 T v) (h : DataW.Trod enc P w 0 (fun _ => true) true T v d ps) : ∃ x : BitVec 16, v = v16 x := by
  obtain ⟨n, rfl⟩ := okWide_int ht hval
  obtain ⟨x, e⟩ := ((Trd.of h).cells (cs := [.int .u16 n]) rfl).u16 ht
  exact ⟨x, (List.cons.inj e).1⟩
theorem val_u32 (ht : P.underlying T = some (.int .u32)) (hval : Value.okWide P w r b0 T v) (h : DataW.Trod enc P w 0 (fun _ => true) true T v d ps) : ∃ x : BitVec 32, v = v32 x := by
  obtain ⟨n, rfl⟩ := okWide_int ht hval
  obtain ⟨x, e⟩ := ((Trd.of h).cells (cs := [.int .u32 n]) rfl).u32 ht
  exact ⟨x, (List.cons.inj e).1⟩
theorem val_u64 (ht : P.underlying T = some (.int .u64)) (hval : Value.okWide P w r b0 T v) (h : DataW.Trod enc P w 0 (fun _ => true) true T v d ps) : ∃ x : BitVec 64, v = v64 x := by
  obtain ⟨n, rfl⟩ := okWide_int ht hval
  obtain ⟨x, e⟩ := ((Trd.of h).cells (cs := [.int .u64 n]) rfl).u64 ht
  exact ⟨x, (List.cons.inj e).1⟩
theorem val_i64 (ht : P.underlying T = some (.int .i64)) (hval : Value.okWide P w r b0 T v) (h : DataW.Trod enc P w 0 (fun _ => true) true T v d ps) : ∃ n : Int, v = .int .i64 n ∧ -9223372036854775808 ≤ n ∧ n ≤ 9223372036854775807 := by
  obtain ⟨n, rfl⟩ := okWide_int ht hval
  obtain ⟨x, e, h1, h2⟩ := ((Trd.of h).cells (cs := [.int .i64 n]) rfl).i64 ht
  exact ⟨x, (List.cons.inj e).1, h1, h2⟩
theorem val_bool (ht : P.underlying T = some .bool) (hval : Value.okWide P w r b0 T v) : ∃ b : Bool, v = .bool b := okWide_bool ht hval
theorem val_str (ht : P.underlying T = some .string) (hval : Value.okWide P w r b0 T v) (h : DataW.Trod enc P w 0 (fun _ => true) true T v d ps) : ∃ s : ByteArray, v = .string s ∧ s.size ≤ maxLen := by
  obtain ⟨n, rfl⟩ := okWide_string ht hval
  obtain ⟨x, e, h1⟩ := ((Trd.of h).cells (cs := [.string n]) rfl).str ht
  exact ⟨x, (List.cons.inj e).1, h1⟩
theorem val_bytes (ht : P.underlying T = some (.slice e)) (he : P.underlying e = some (.int .u8)) (hc : P.cellsOf e = 1) (hval : Value.okWide P w r b0 T v) (h : DataW.Trod enc P w 0 (fun _ => true) true T v d ps) : ∃ (p : Option Addr) (l : List Byte) (c : Nat), v = .slice p l.length c ∧ RdB w p l ∧ l.length ≤ c ∧ l.length ≤ maxLen := by
  obtain ⟨a, n, c, rfl⟩ := okWide_slice ht hval
  obtain ⟨p, l, c', e, h1⟩ := ((Trd.of h).cells (cs := [.slice a n c]) rfl).bytes ht he hc
  exact ⟨p, l, c', (List.cons.inj e).1, h1⟩
theorem val_rows {q : TypeId} (ht : P.underlying T = some (.slice e)) (he : P.underlying e = some (.slice q)) (hq : P.underlying q = some (.int .u8)) (hc : P.cellsOf e = 1) (hcq : P.cellsOf q = 1) (hval : Value.okWide P w r b0 T v) (h : DataW.Trod enc P w 0 (fun _ => true) true T v d ps) :
    ∃ (p : Option Addr) (ls : List (List Byte)) (c : Nat), v = .slice p ls.length c ∧ RdR w p ls ∧ ls.length ≤ c ∧ ls.length ≤ maxLen := by
  obtain ⟨a, n, c, rfl⟩ := okWide_slice ht hval
  obtain ⟨p, l, c', e, h1⟩ := ((Trd.of h).cells (cs := [.slice a n c]) rfl).rows ht he hq hc hcq
  exact ⟨p, l, c', (List.cons.inj e).1, h1⟩
theorem val_blocks {q : TypeId} {n : Nat} (ht : P.underlying T = some (.slice e)) (he : P.underlying e = some (.array n q)) (hq : P.underlying q = some (.int .u8)) (hc : P.cellsOf e = n) (hcq : P.cellsOf q = 1) (hn : 0 < n) (hval : Value.okWide P w r b0 T v) (h : DataW.Trod enc P w 0 (fun _ => true) true T v d ps) :
    ∃ (p : Option Addr) (ks : List (List Byte)) (c : Nat), v = .slice p ks.length c ∧ RdK w p n ks ∧ ks.length ≤ c ∧ ks.length ≤ maxLen := by
  obtain ⟨a, m, c, rfl⟩ := okWide_slice ht hval
  obtain ⟨p, l, c', e, h1⟩ := ((Trd.of h).cells (cs := [.slice a m c]) rfl).blocks ht he hq hc hcq hn
  exact ⟨p, l, c', (List.cons.inj e).1, h1⟩
end
end
end Go.Proofs.YtalcgmhdgegebaaDoor
