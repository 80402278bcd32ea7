/-
  What the arguments of a statement are, read as data: numbers, arrays, structs, slices. No conditions.
  Rows of whatever parts that the call itself makes by append. Conditions: rows are shorter than 2^47 bytes.
  A part of bytes that came in; a block of a slice of blocks. No conditions beyond those written in each theorem.
  A block of the call's own, changed in two steps, or in one cell. No conditions beyond those written in each theorem.
  Slices of the call's own, from whatever place of a block on, as a part of the list of its own blocks; append to them. Conditions: rows are shorter than 2^47 bytes.
  Layer 1: rows put together by exclusive or, and held against each other. Conditions: rows are shorter than 2^47, as each argument is.
  Layer 1: the bytes of numbers. No conditions.
-/
import Derived.Test.YtdmgchdhilcncaaGreatDoorZTopStore0
import Derived.Test.YtdmgchdhilcncaaGreatDoorZTopStore4
import Derived.WalkKit
import Derived.ProofKit
import Derived.OpenShut
import Derived.ShutString
import Derived.ChangeOld
import Derived.Below
import Derived.Deep.Slices
import Derived.RegionTactic
import Derived.ChangeAlike
import Derived.ArgAppend
import Derived.Test.YtdmgchdhilcncaaGreatDoorZTopStore3
set_option linter.unusedSimpArgs false
set_option linter.unusedVariables false
namespace Go.Proofs.YtdmgchdhilcncaaGreatDoor
open Go Go.RowKit Go.ChangeShapes Go.WideShapes Go.ChangeAt Go.Deep
set_option maxRecDepth 100000
def Trd {H : Type} (enc : TypeId × Value → H) (P : Program) (w : World) (T : TypeId) (cs : List Value) : Prop := ∃ fuel x, DataW.trod enc P w 0 (fun _ => true) true fuel T cs = some x
section
variable {H : Type} {enc : TypeId × Value → H} {P : Program} {w : World} {T e : TypeId} {cs : List Value}
theorem Trd.of {v : Value} {d : DataW H} {p : List MemPlace} (h : DataW.Trod enc P w 0 (fun _ => true) true T v d p) : Trd enc P w T v.cells.toList := by
 obtain ⟨f, hf⟩ := h; exact ⟨f, _, hf⟩
theorem Trd.cells {v : Value} {cs : List Value} (h : Trd enc P w T v.cells.toList) (he : v.cells.toList = cs) : Trd enc P w T cs := he ▸ h
theorem okWide_agg {r : Reach} {base : Nat} {v : Value} (hT : ((P.underlying T).map fun d => d.isRow) = some true) (h : Value.okWide P w r base T v) : ∃ cs : List Value, v = .agg cs.toArray := by
 obtain ⟨d, hu, hd⟩ := Option.map_eq_some_iff.1 hT
 simp only [Value.okWide, hu] at h
 cases d <;> simp [TypeDesc.isRow] at hd
 all_goals
   obtain ⟨cs, h1, _⟩ := h
   exact ⟨cs.toList, by rw [h1]⟩
theorem Trd.int {k : IntKind} (ht : P.underlying T = some (.int k)) (h : Trd enc P w T cs) : ∃ n, cs = [.int k n] ∧ (Lit.int k n).wf = true := by
 obtain ⟨f, x, hf⟩ := h
 obtain ⟨n, h1, _, h2⟩ := DataW.trod_int ht hf
 exact ⟨n, h1, h2⟩
theorem Trd.u8 (ht : P.underlying T = some (.int .u8)) (h : Trd enc P w T cs) : ∃ x : BitVec 8, cs = [v8 x] := by
 obtain ⟨n, rfl, hw⟩ := h.int ht; exact ⟨_, by rw [int_v8 _ hw]⟩
theorem Trd.u16 (ht : P.underlying T = some (.int .u16)) (h : Trd enc P w T cs) : ∃ x : BitVec 16, cs = [v16 x] := by
 obtain ⟨n, rfl, hw⟩ := h.int ht; exact ⟨_, by rw [int_v16 _ hw]⟩
theorem Trd.u32 (ht : P.underlying T = some (.int .u32)) (h : Trd enc P w T cs) : ∃ x : BitVec 32, cs = [v32 x] := by
 obtain ⟨n, rfl, hw⟩ := h.int ht; exact ⟨_, by rw [int_v32 _ hw]⟩
theorem Trd.u64 (ht : P.underlying T = some (.int .u64)) (h : Trd enc P w T cs) : ∃ x : BitVec 64, cs = [v64 x] := by
 obtain ⟨n, rfl, hw⟩ := h.int ht; exact ⟨_, by rw [int_v64 _ hw]⟩
theorem Trd.i64 (ht : P.underlying T = some (.int .i64)) (h : Trd enc P w T cs) : ∃ n : Int, cs = [.int .i64 n] ∧ -9223372036854775808 ≤ n ∧ n ≤ 9223372036854775807 := by
 obtain ⟨n, rfl, hw⟩ := h.int ht; exact ⟨n, rfl, int_i64 n hw⟩
theorem Trd.bool (ht : P.underlying T = some .bool) (h : Trd enc P w T cs) : ∃ b : Bool, cs = [.bool b] := by
 obtain ⟨f, x, hf⟩ := h
 obtain ⟨b, h1, _⟩ := DataW.trod_bool ht hf
 exact ⟨b, h1⟩
theorem Trd.arr {n s m : Nat} (ht : P.underlying T = some (.array n e)) (hc : P.cellsOf e = s) (hm : P.cellsOf T = m) (h : Trd enc P w T cs) : cs.length = m ∧ ∀ i, i < n → Trd enc P w e ((cs.drop (i * s)).take s) := by
 obtain ⟨f, x, hf⟩ := h
 obtain ⟨xs, m', rfl, rfl, h1, h2, h3⟩ := DataW.trod_array ht hf
 subst hc hm
 exact ⟨h1, fun i hi => ⟨m', xs[i]'(by omega), by rw [h3 i hi]; exact List.getElem?_eq_getElem (by omega)⟩⟩
theorem Trd.struct {fs : Array Field} {m : Nat} (ht : P.underlying T = some (.struct fs)) (hm : P.cellsOf T = m) (h : Trd enc P w T cs) : cs.length = m ∧ ∀ (i : Nat) (f : Field), fs[i]? = some f → Trd enc P w f.type ((cs.drop f.offset).take (P.cellsOf f.type)) := by
 obtain ⟨f, x, hf⟩ := h
 obtain ⟨xs, m', rfl, rfl, h1, h2, h3⟩ := DataW.trod_struct ht hf
 subst hm
 refine ⟨h1, fun i f hi => ?_⟩
 have hlt : i < xs.length := by rw [h2]; exact (Array.getElem?_eq_some_iff.1 hi).1
 exact ⟨m', xs[i], by rw [h3 i f hi]; exact List.getElem?_eq_getElem hlt⟩
theorem Trd.field {fs : Array Field} {i off n : Nat} {ft : TypeId} (h : ∀ (i : Nat) (f : Field), fs[i]? = some f → Trd enc P w f.type ((cs.drop f.offset).take (P.cellsOf f.type))) (hf : (fs[i]?).map (fun f => (f.type, f.offset)) = some (ft, off)) (hn : P.cellsOf ft = n) : Trd enc P w ft ((cs.drop off).take n) := by
 obtain ⟨f, hf1, hf2⟩ := Option.map_eq_some_iff.1 hf
 simp only [Prod.mk.injEq] at hf2
 obtain ⟨rfl, rfl⟩ := hf2
 subst hn
 exact h i f hf1
theorem glue (cs : List Value) (off n : Nat) : cs.drop off = (cs.drop off).take n ++ cs.drop (off + n) := by
 rw [← List.drop_drop, List.take_append_drop]
theorem arr_cells {α : Type} (f : α → Value) (n : Nat) (cs : List Value) (hl : cs.length = n) (h : ∀ i, i < n → ∃ x, (cs.drop i).take 1 = [f x]) : ∃ l : List α, l.length = n ∧ cs = l.map f := by
 induction n generalizing cs with
 | zero => exact ⟨[], rfl, by simpa using hl⟩
 | succ n ih =>
   cases cs with
   | nil => simp at hl
   | cons c cs =>
     obtain ⟨x, hx⟩ := h 0 (by omega)
     simp at hx
     obtain ⟨l, h1, h2⟩ := ih cs (by simpa using hl) (fun i hi => by have := h (i + 1) (by omega); simpa using this)
     exact ⟨x :: l, by simp [h1], by simp [hx, h2]⟩
theorem Trd.arr8 {n : Nat} (ht : P.underlying T = some (.array n e)) (he : P.underlying e = some (.int .u8)) (hc : P.cellsOf e = 1) (hm : P.cellsOf T = n) (h : Trd enc P w T cs) : ∃ l : List (BitVec 8), l.length = n ∧ cs = l.map v8 := by
 obtain ⟨h1, h2⟩ := h.arr ht hc hm
 exact arr_cells v8 n cs h1 fun i hi => by have := (h2 i hi).u8 he; simpa using this
theorem Trd.bytes (ht : P.underlying T = some (.slice e)) (he : P.underlying e = some (.int .u8)) (hc : P.cellsOf e = 1) (h : Trd enc P w T cs) : ∃ (p : Option Addr) (l : List Byte) (c : Nat), cs = [.slice p l.length c] ∧ RdB w p l ∧ l.length ≤ c ∧ l.length ≤ maxLen := by
 obtain ⟨f, x, hf⟩ := h
 rcases open_ints ht he hc hf with ⟨rfl, _⟩ | ⟨a, len, cap, zs, rfl, _, hl, hm, hz, _, hcell, hwz⟩
 · exact ⟨none, [], 0, rfl, RdB.nil _ _, Nat.le_refl _, by simp⟩
 · obtain ⟨l, h1, h2, h3, h4⟩ := rdB_of (w := w) (a := some a) (len := len) (cap := cap) (zs := zs) (.inr ⟨a, rfl, hl, hm, by simpa using hz, hcell, hwz⟩)
   exact ⟨some a, l, cap, by rw [h1], h2, h3, h4⟩
def RdR (w : World) (p : Option Addr) (ls : List (List Byte)) : Prop :=
 (0 < ls.length → p.isSome = true) ∧ ∀ i, i < ls.length → ∃ (q : Option Addr) (c : Nat), w.cell? ((p.getD default).add i) = some (.slice q (ls.getD i []).length c) ∧ RdB w q (ls.getD i []) ∧ (ls.getD i []).length ≤ c ∧ (ls.getD i []).length ≤ maxLen
theorem RdR.ext {w w' : World} {p : Option Addr} {ls : List (List Byte)} (h : RdR w p ls) (hx : Ext w w') : RdR w' p ls :=
 ⟨h.1, fun i hi => by obtain ⟨q, c, h1, h2, h3⟩ := h.2 i hi; exact ⟨q, c, hx.cell h1, h2.ext hx, h3⟩⟩
theorem Trd.rows {q : TypeId} (ht : P.underlying T = some (.slice e)) (he : P.underlying e = some (.slice q)) (hq : P.underlying q = some (.int .u8)) (hc : P.cellsOf e = 1) (hcq : P.cellsOf q = 1) (h : Trd enc P w T cs) :
   ∃ (p : Option Addr) (ls : List (List Byte)) (c : Nat), cs = [.slice p ls.length c] ∧ RdR w p ls ∧ ls.length ≤ c ∧ ls.length ≤ maxLen := by
 obtain ⟨f, x, hf⟩ := h
 rcases open_slice1 ht hc hf with ⟨rfl, _⟩ | ⟨a, len, cap, m, n, V, D, Pl, rfl, _, hl, hm, hmm, _, hel⟩
 · exact ⟨none, [], 0, rfl, ⟨by simp, by simp⟩, Nat.le_refl _, by simp⟩
 · simp only [if_true] at hmm
   have each : ∀ i, i < len → ∃ l : List Byte, ∃ (q' : Option Addr) (c : Nat), V i = .slice q' l.length c ∧ RdB w q' l ∧ l.length ≤ c ∧ l.length ≤ maxLen := fun i hi => by
     obtain ⟨p', l, c', h1, h2, h3, h4⟩ := Trd.bytes (cs := [V i]) he hq hcq ⟨n, _, (hel i (by omega)).2⟩
     exact ⟨l, p', c', by simpa using h1, h2, h3, h4⟩
   have : ∃ ls : List (List Byte), ls.length = len ∧ ∀ i, i < len → ∃ (q' : Option Addr) (c : Nat), V i = .slice q' (ls.getD i []).length c ∧ RdB w q' (ls.getD i []) ∧ (ls.getD i []).length ≤ c ∧ (ls.getD i []).length ≤ maxLen := by
     have key : ∀ k, k ≤ len → ∃ ls : List (List Byte), ls.length = k ∧ ∀ i, i < k → ∃ (q' : Option Addr) (c : Nat), V i = .slice q' (ls.getD i []).length c ∧ RdB w q' (ls.getD i []) ∧ (ls.getD i []).length ≤ c ∧ (ls.getD i []).length ≤ maxLen := by
       intro k
       induction k with
       | zero => intro _; exact ⟨[], rfl, by intros; omega⟩
       | succ k ih =>
         intro hk
         obtain ⟨ls, h1, h2⟩ := ih (by omega)
         obtain ⟨l, hl'⟩ := each k (by omega)
         refine ⟨ls ++ [l], by simp [h1], fun i hi => ?_⟩
         by_cases hik : i < k
         · have : (ls ++ [l]).getD i [] = ls.getD i [] := by simp [List.getElem?_append_left (show i < ls.length by omega)]
           rw [this]; exact h2 i hik
         · have : (ls ++ [l]).getD i [] = l := by
             have : i = ls.length := by omega
             subst this; simp
           rw [this]
           have : i = k := by omega
           subst this; exact hl'
     exact key len (Nat.le_refl _)
   obtain ⟨ls, h1, h2⟩ := this
   subst h1
   refine ⟨some a, ls, cap, rfl, ⟨fun _ => rfl, fun i hi => ?_⟩, hl, by omega⟩
   obtain ⟨q', c, h3, h4⟩ := h2 i hi
   refine ⟨q', c, ?_, h4⟩
   rw [← h3]
   exact (hel i (by omega)).1
def RdK (w : World) (p : Option Addr) (n : Nat) (ks : List (List Byte)) : Prop := (∀ k ∈ ks, k.length = n) ∧ RdB w p ks.flatten
theorem RdK.ext {w w' : World} {p : Option Addr} {n : Nat} {ks : List (List Byte)} (h : RdK w p n ks) (hx : Ext w w') : RdK w' p n ks := ⟨h.1, h.2.ext hx⟩
theorem flatten_length (n : Nat) : ∀ (ks : List (List Byte)), (∀ k ∈ ks, k.length = n) → ks.flatten.length = ks.length * n
 | [], _ => by simp
 | k :: ks, h => by
   simp only [List.flatten_cons, List.length_append, flatten_length n ks (fun x hx => h x (by simp [hx])), h k (by simp), List.length_cons, Nat.succ_mul]; omega
theorem flatten_getD (n : Nat) : ∀ (ks : List (List Byte)) (i j : Nat), (∀ k ∈ ks, k.length = n) → i < ks.length → j < n → ks.flatten.getD (i * n + j) 0 = (ks.getD i []).getD j 0
 | [], _, _, _, h, _ => by simp at h
 | k :: ks, 0, j, h, _, hj => by
   have := h k (by simp)
   simp [List.getElem?_append_left (show j < k.length by omega)]
 | k :: ks, i + 1, j, h, hi, hj => by
   have hk := h k (by simp)
   have := flatten_getD n ks i j (fun x hx => h x (by simp [hx])) (by simpa using hi) hj
   simp only [List.flatten_cons, List.getD_eq_getElem?_getD, List.getD_cons_succ] at this ⊢
   rw [List.getElem?_append_right (by rw [hk, Nat.succ_mul]; omega), hk, show (i + 1) * n + j - n = i * n + j from by rw [Nat.succ_mul]; omega]
   exact this
/-! ### An argument's value -/
section
variable {r : Reach} {b0 : Nat} {v : Value} {d : DataW H} {ps : List MemPlace}
theorem val_agg (hT : ((P.underlying T).map fun d => d.isRow) = some true) (hval : Value.okWide P w r b0 T v) (h : DataW.Trod enc P w 0 (fun _ => true) true T v d ps) : ∃ cs : List Value, v = .agg cs.toArray ∧ Trd enc P w T cs := by
 obtain ⟨cs, rfl⟩ := okWide_agg hT hval
 exact ⟨cs, rfl, (Trd.of h).cells rfl⟩
end
end
open Go Go.RowKit
class Elem (P : Program) (e : TypeId) (sz by_ : outParam Nat) : Prop where
 out : ∃ i z, P.info? e = some i ∧ i.zero = some z ∧ i.size = sz ∧ i.bytes = by_ ∧ z.cells.size = sz ∧ 0 < sz
theorem Elem.of {P : Program} {e : TypeId} {sz by_ : Nat} (h : (P.info? e).map (fun i => (i.zero.map fun z => z.cells.size, i.size, i.bytes)) = some (some sz, sz, by_)) (h0 : 0 < sz) : Elem P e sz by_ := ⟨by
 obtain ⟨i, hi, h⟩ := Option.map_eq_some_iff.1 h
 simp only [Prod.mk.injEq] at h
 obtain ⟨h1, h2, h3⟩ := h
 obtain ⟨z, hz, h4⟩ := Option.map_eq_some_iff.1 h1
 exact ⟨i, z, hi, hz, h2, h3, h4, h0⟩⟩
def OwnC (w : World) (B : Nat) (e : TypeId) (sz : Nat) (v : Value) (n : Nat) (cs : List Value) : Prop := w.ownsRow B e sz v n cs
section
variable {w w' : World} {B n sz : Nat} {e : TypeId} {v : Value} {cs : List Value}
theorem OwnC.nil (w : World) (B : Nat) (e : TypeId) (sz : Nat) : OwnC w B e sz (.slice none 0 0) 0 [] := World.ownsRow_nil w B _ _
theorem OwnC.alloc (h : OwnC w B e sz v n cs) (o : Obj) : OwnC (w.alloc o) B e sz v n cs := World.ownsRow.alloc h o
theorem OwnC.ext (h : OwnC w B e sz v n cs) (hx : Ext w w') : OwnC w' B e sz v n cs :=
 World.ownsRow.kept h (row := none) ⟨hx.os, hx.tape, hx.output, hx.size, fun k hk _ => Below.block hx k hk⟩ (by cases hv : v.ownBlock <;> simp)
theorem OwnC.lt (h : OwnC w B e sz v n cs) : ∀ k, v.ownBlock = some k → B ≤ k ∧ k < w.heap.size := World.ownsRow.lt h
theorem OwnC.len (h : OwnC w B e sz v n cs) : cs.length = n * sz := h.1
theorem OwnC.slice (h : OwnC w B e sz v n cs) : ∃ (p : Option Addr) (c : Nat), v = .slice p n c ∧ n ≤ c ∧ c ≤ maxLen ∧ (0 < n → p.isSome = true) ∧ ∀ (j : Nat) (u : Value), cs[j]? = some u → w.cell? ((p.getD default).add j) = some u := by
 obtain ⟨h1, h2⟩ := h
 rcases h2 with ⟨rfl, h0⟩ | ⟨g, cap, cur, rfl, hg, hh, hn, hc, hs, ht⟩
 · subst h0
   have : cs = [] := List.eq_nil_of_length_eq_zero (by simpa using h1)
   subst this
   exact ⟨none, 0, rfl, Nat.le_refl _, by simp [maxLen], by simp, by simp⟩
 · refine ⟨some ⟨g, 0, none⟩, cap, rfl, hn, hc, fun _ => rfl, fun j u hj => ?_⟩
   have e' : (⟨g, 0, none⟩ : Addr).add j = ⟨g, j, none⟩ := by simp [Addr.add]; omega
   show w.cell? ((⟨g, 0, none⟩ : Addr).add j) = _
   rw [e', cell_of_row w g j cur _ _ hh]
   rw [← ht, List.getElem?_take] at hj
   split at hj
   · rw [← Array.getElem?_toList]; exact hj
   · cases hj
def catV (ks : List (List Byte)) : List Value := ks.flatten.map v8
theorem catV_append (ks ls : List (List Byte)) : catV (ks ++ ls) = catV ks ++ catV ls := by simp [catV]
theorem catV_length (n : Nat) (ks : List (List Byte)) (h : ∀ k ∈ ks, k.length = n) : (catV ks).length = ks.length * n := by rw [catV, List.length_map, flatten_length n ks h]
theorem catV_one (ks : List (List Byte)) : ∀ u ∈ catV ks, u.oneCell' = true := one_map _
theorem RdK.cells {w : World} {p : Option Addr} {n : Nat} {ks : List (List Byte)} (h : RdK w p n ks) : ∀ (j : Nat) (u : Value), (catV ks)[j]? = some u → ∃ a, p = some a ∧ w.cell? (a.add j) = some u := by
 intro j u hj
 rw [catV, List.getElem?_map] at hj
 obtain ⟨x, hx, rfl⟩ := Option.map_eq_some_iff.1 hj
 obtain ⟨hlt, hx'⟩ := List.getElem?_eq_some_iff.1 hx
 obtain ⟨a, rfl⟩ := Option.isSome_iff_exists.1 (h.2.1 (by omega))
 refine ⟨a, rfl, ?_⟩
 have := h.2.2 j hlt
 simp only [Option.getD_some] at this
 rw [this, List.getD_eq_getElem?_getD, hx]; rfl
theorem OwnC.reads {m : Nat} {ks : List (List Byte)} (h : OwnC w B e m v ks.length (catV ks)) (hk : ∀ k ∈ ks, k.length = m) : ∃ p c, v = .slice p ks.length c ∧ ks.length ≤ c ∧ RdK w p m ks := by
 obtain ⟨p, c, rfl, h1, _, h3, h4⟩ := h.slice
 refine ⟨p, c, rfl, h1, hk, fun hl => h3 ?_, fun i hi => ?_⟩
 · rcases Nat.eq_zero_or_pos ks.length with h0 | h0
   · rw [List.eq_nil_of_length_eq_zero h0] at hl; simp at hl
   · exact h0
 · exact h4 i (v8 (ks.flatten.getD i 0)) (by rw [catV, List.getElem?_map, List.getElem?_eq_getElem hi, List.getD_eq_getElem?_getD, List.getElem?_eq_getElem hi]; rfl)
end
theorem add_add (a : Addr) (i j : Nat) : (a.add i).add j = a.add (i + j) := by unfold Addr.add; split <;> split <;> simp_all <;> omega
theorem RdB.sub {w : World} {p : Option Addr} {l : List Byte} (h : RdB w p l) (o n : Nat) (hn : o + n ≤ l.length) (h0 : 0 < n) : RdB w (some ((p.getD default).add o)) ((l.drop o).take n) :=
 ⟨fun _ => rfl, fun i hi => by
   simp only [List.length_take, List.length_drop] at hi
   simp only [Option.getD_some]
   rw [add_add, h.2 (o + i) (by omega)]
   simp [List.getElem?_take, List.getElem?_drop, show i < n by omega]⟩
theorem flatten_seg (n : Nat) : ∀ (ks : List (List Byte)) (i : Nat), (∀ k ∈ ks, k.length = n) → i < ks.length → (ks.flatten.drop (i * n)).take n = ks.getD i []
 | [], _, _, h => by simp at h
 | k :: ks, 0, h, _ => by
   have := h k (by simp)
   simp [List.take_append_of_le_length (Nat.le_of_eq this.symm), List.take_of_length_le (Nat.le_of_eq this)]
 | k :: ks, i + 1, h, hi => by
   have hk := h k (by simp)
   have := flatten_seg n ks i (fun x hx => h x (by simp [hx])) (by simpa using hi)
   rw [List.flatten_cons, show (i + 1) * n = k.length + i * n from by rw [hk, Nat.succ_mul]; omega, List.drop_append, List.drop_eq_nil_of_le (by omega), List.nil_append, show k.length + i * n - k.length = i * n from by omega, this]
   simp
theorem RdK.at {w : World} {p : Option Addr} {n : Nat} {ks : List (List Byte)} (h : RdK w p n ks) (hn : 0 < n) (i : Nat) (hi : i < ks.length) : RdB w (some ((p.getD default).add (i * n))) (ks.getD i []) ∧ (ks.getD i []).length = n := by
 have hl := flatten_length n ks h.1
 have hle : (i + 1) * n ≤ ks.length * n := Nat.mul_le_mul_right n hi
 rw [Nat.succ_mul] at hle
 have := h.2.sub (i * n) n (by rw [hl]; omega) hn
 rw [flatten_seg n ks i h.1 hi] at this
 refine ⟨this, h.1 _ ?_⟩
 rw [List.getD_eq_getElem?_getD, List.getElem?_eq_getElem hi]
 exact List.getElem_mem hi
theorem RdK.addr {w : World} {p : Option Addr} {n : Nat} {ks : List (List Byte)} (h : RdK w p n ks) (hn : 0 < n) (hk : 0 < ks.length) : ∃ a, p = some a := by
 have hl := flatten_length n ks h.1
 exact Option.isSome_iff_exists.1 (h.2.1 (by rw [hl]; exact Nat.mul_pos hk hn))
theorem Swap.split {L L' : List Blk} {b b' : Blk} (c : Blk) (h : Swap L b b' L') : ∃ M, Swap L b c M ∧ Swap M c b' L' := by
 induction h with
 | hd => exact ⟨_, .hd, .hd⟩
 | tl _ ih => obtain ⟨M, h1, h2⟩ := ih; exact ⟨_, .tl h1, .tl h2⟩
theorem Own.turnC {w0 w : World} {L L' : List Blk} {g k : Nat} {t : TypeId} {cs : List Value} {v : Value} (h : Own w0 w L) (hs : Swap L ⟨g, t, cs⟩ ⟨g, t, cs.set k v⟩ L') : Own w0 (w.setCell ⟨g, k, none⟩ v) L' := by
 have hr : Row w g t cs := h.row hs.has
 have hb : w0.heap.size ≤ g := h.base hs.has
 refine ⟨ext_setCell h.1 _ _ hb, by rw [hs.keys rfl]; exact h.2.1, fun c hc => ?_⟩
 rcases hs.cases rfl h.2.1 hc with rfl | ⟨h1, h2⟩
 · exact ⟨hb, row_set hr k v⟩
 · exact ⟨(h.2.2 c h1).1, row_other (h.2.2 c h1).2 _ _ h2⟩
theorem Own.turn8 {w0 w : World} {L L' : List Blk} {g k : Nat} {t : TypeId} {l : List Byte} {b : Byte} (h : Own w0 w L) (hs : Swap L ⟨g, t, l.map v8⟩ ⟨g, t, (setN l k b).map v8⟩ L') : Own w0 (w.setCell ⟨g, k, none⟩ (v8 b)) L' := by
 rw [← mapv_set] at hs; exact h.turnC hs
theorem Own.perm {w0 w : World} {L M : List Blk} (h : Own w0 w L) (p : L.Perm M) : Own w0 w M :=
 ⟨h.1, (p.map Blk.g).nodup_iff.1 h.2.1, fun b hb => h.2.2 b (p.mem_iff.2 hb)⟩
theorem Has.perm {L : List Blk} {b : Blk} (h : Has L b) : ∃ R, L.Perm (b :: R) := by
 induction h with
 | hd => exact ⟨_, List.Perm.refl _⟩
 | @tl b c L _ ih => obtain ⟨R, p⟩ := ih; exact ⟨c :: R, (p.cons c).trans (List.Perm.swap b c R)⟩
theorem Swap.front {L L' : List Blk} {b b' : Blk} (h : Swap L b b' L') : ∃ R, L.Perm (b :: R) ∧ L'.Perm (b' :: R) := by
 induction h with
 | hd => exact ⟨_, List.Perm.refl _, List.Perm.refl _⟩
 | @tl b b' c L L' _ ih => obtain ⟨R, p, q⟩ := ih; exact ⟨c :: R, (p.cons c).trans (List.Perm.swap b c R), (q.cons c).trans (List.Perm.swap b' c R)⟩
theorem Own.dropN {w0 w : World} {M L : List Blk} (h : Own w0 w (M ++ L)) : Own w0 w L :=
 ⟨h.1, by have := h.2.1; rw [List.map_append] at this; exact (List.nodup_append.1 this).2.1, fun b hb => h.2.2 b (by simp [hb])⟩
theorem Has.app {M L : List Blk} {b : Blk} (h : Has L b) : Has (M ++ L) b := by
 induction M with
 | nil => exact h
 | cons c M ih => exact .tl ih
theorem Swap.app {M L L' : List Blk} {b b' : Blk} (h : Swap L b b' L') : Swap (M ++ L) b b' (M ++ L') := by
 induction M with
 | nil => exact h
 | cons c M ih => exact .tl ih
theorem Has.front {M L : List Blk} {b : Blk} (h : Has M b) : Has (M ++ L) b := by
 induction h with
 | hd => exact .hd
 | tl _ ih => exact .tl ih
def ovr : List Value → Nat → List Value → List Value
 | cs, _, [] => cs
 | cs, o, v :: vs => ovr (cs.set o v) (o + 1) vs
theorem ovr_length (vs : List Value) : ∀ (cs : List Value) (o : Nat), (ovr cs o vs).length = cs.length := by
 induction vs with
 | nil => intro cs o; rfl
 | cons v vs ih => intro cs o; rw [ovr, ih]; simp
theorem ovr_at (vs : List Value) : ∀ (cs : List Value) (o j : Nat), o + vs.length ≤ cs.length → (ovr cs o vs)[j]? = if o ≤ j ∧ j < o + vs.length then vs[j - o]? else cs[j]? := by
 induction vs with
 | nil => intro cs o j _; rw [ovr, if_neg (by simp)]
 | cons v vs ih =>
   intro cs o j hl
   simp only [List.length_cons] at hl
   rw [ovr, ih _ _ _ (by simp; omega)]
   by_cases h1 : j = o
   · subst h1
     rw [if_neg (by omega), if_pos (by simp), List.getElem?_set]
     simp; omega
   · by_cases h2 : o + 1 ≤ j ∧ j < o + 1 + vs.length
     · rw [if_pos h2, if_pos (by simp; omega), show j - o = (j - (o + 1)) + 1 from by omega, List.getElem?_cons_succ]
     · rw [if_neg h2, if_neg (by simp; omega), List.getElem?_set_ne (by omega)]
theorem Own.setCells {w0 : World} {g : Nat} {t : TypeId} (vs : List Value) : ∀ {w : World} {L L' : List Blk} {cs : List Value} {o : Nat}, Own w0 w L → Swap L ⟨g, t, cs⟩ ⟨g, t, ovr cs o vs⟩ L' → Own w0 (w.setCells g o vs) L' := by
 induction vs with
 | nil =>
   intro w L L' cs o h hs
   have := h.turn hs
   have hr : Row w g t cs := h.row hs.has
   rw [show ovr cs o [] = cs from rfl, setRow_self w g _ t (0, 0) hr] at this
   exact this
 | cons v vs ih =>
   intro w L L' cs o h hs
   obtain ⟨M, h1, h2⟩ := hs.split ⟨g, t, cs.set o v⟩
   exact ih (h.turnC h1) h2
def SlO (M : List Blk) (e : TypeId) (sz : Nat) (v : Value) (n : Nat) (cs : List Value) : Prop :=
 cs.length = n * sz ∧ ((v = .slice none 0 0 ∧ n = 0 ∧ M = []) ∨ ∃ g o cap cur, v = .slice (some ⟨g, o, none⟩) n cap ∧ M = [⟨g, e, cur⟩] ∧ n ≤ cap ∧ cap ≤ maxLen ∧ o + cap * sz ≤ cur.length ∧ (cur.drop o).take (n * sz) = cs)
section
variable {w0 w : World} {M R : List Blk} {e : TypeId} {sz n : Nat} {v : Value} {cs : List Value}
theorem SlO.nil (e : TypeId) (sz : Nat) : SlO [] e sz (.slice none 0 0) 0 [] := ⟨by simp, .inl ⟨rfl, rfl, rfl⟩⟩
theorem SlO.whole (g : Nat) (e : TypeId) (sz n : Nat) (cs : List Value) (hl : cs.length = n * sz) (hn : n ≤ maxLen) : SlO [⟨g, e, cs⟩] e sz (.slice (some ⟨g, 0, none⟩) n n) n cs :=
 ⟨hl, .inr ⟨g, 0, n, cs, rfl, rfl, Nat.le_refl _, hn, by omega, by rw [List.drop_zero, List.take_of_length_le (by omega)]⟩⟩
theorem SlO.room (g : Nat) (e : TypeId) (sz cap : Nat) (cur : List Value) (hl : cur.length = cap * sz) (hn : cap ≤ maxLen) : SlO [⟨g, e, cur⟩] e sz (.slice (some ⟨g, 0, none⟩) 0 cap) 0 [] :=
 ⟨by simp, .inr ⟨g, 0, cap, cur, rfl, rfl, by omega, hn, by omega, by simp⟩⟩
theorem SlO.form (h : SlO M e sz v n cs) : ∃ p c, v = .slice p n c := by
 rcases h.2 with ⟨h1, rfl, _⟩ | ⟨g, o, cap, cur, h1, _⟩ <;> exact ⟨_, _, h1⟩
theorem SlO.cells (h : SlO M e sz v n cs) (hm : Own w0 w (M ++ R)) : ∃ (p : Option Addr) (c : Nat), v = .slice p n c ∧ n ≤ c ∧ c ≤ maxLen ∧ (0 < n → p.isSome = true) ∧ ∀ (j : Nat) (u : Value), cs[j]? = some u → ∃ a, p = some a ∧ w.cell? (a.add j) = some u := by
 obtain ⟨hl, h⟩ := h
 rcases h with ⟨rfl, rfl, rfl⟩ | ⟨g, o, cap, cur, rfl, rfl, h1, h2, h3, h4⟩
 · have : cs = [] := List.eq_nil_of_length_eq_zero (by simpa using hl)
   subst this
   exact ⟨none, 0, rfl, Nat.le_refl _, by simp, by simp, by simp⟩
 · refine ⟨_, cap, rfl, h1, h2, fun _ => rfl, fun j u hj => ⟨_, rfl, ?_⟩⟩
   have hr : Row w g e cur := hm.row (.hd)
   show w.cell? ((⟨g, o, none⟩ : Addr).add j) = _
   rw [Addr.add_mid, row_cell hr]
   rw [← h4, List.getElem?_take] at hj
   split at hj
   · rwa [List.getElem?_drop] at hj
   · cases hj
end
theorem ownsRow_sl {w0 w w' : World} {R : List Blk} {e : TypeId} {sz n : Nat} {v : Value} {cs : List Value} (hm : Own w0 w R) (hx : Ext w w') (h : w'.ownsRow w.heap.size e sz v n cs) : ∃ M, Own w0 w' (M ++ R) ∧ SlO M e sz v n cs := by
 obtain ⟨h1, h2⟩ := h
 rcases h2 with ⟨rfl, h0⟩ | ⟨g, cap, cur, rfl, hg, hh, hn, hc, hs, ht⟩
 · exact ⟨[], hm.ext hx, h1, .inl ⟨rfl, h0, rfl⟩⟩
 · have hr : Row w' g e cur.toList := hh
   refine ⟨[⟨g, e, cur.toList⟩], hm.push hx hg hr, h1, .inr ⟨g, 0, cap, cur.toList, rfl, rfl, hn, hc, by simp; omega, by rw [List.drop_zero, ht]⟩⟩
theorem run_append_none {P : Program} {w : World} {t ty e : TypeId} {i : TypeInfo} (ht : P.underlying t = some (.slice e)) (hi : P.info? e = some i) (q : Option Addr) (n cap c : Nat) (hnc : n ≤ cap) : (Builtin.append_ #[t, t] ty #[.slice q n cap, .slice none 0 c]).run P w = .ok (.slice q n cap) w := by
 cases q <;> simp [Builtin.append_, run_underlying ht, sizeOf, typeInfo, hi, Builtin.lenOf, Builtin.firstCells, hnc, storeCells]
theorem wplO_app {P : Program} {ops : Array Oper} {Q : Exit → Act → World → Prop} {rest : List Oper} {o : Oper} {a : Act} {w0 w : World} {M R : List Blk} {s x : Operand} {p : Option Addr} {c n m sz by_ : Nat} {T e : TypeId} {v : Value} {cs ds : List Value}
   (hm : Own w0 w (M ++ R)) (hsl : SlO M e sz v n cs) (hgd : o.guard = none) (ho : o.op = .call { callee := .builtin .append, args := #[s, x], argTypes := #[T, T] }) (hs : a.eval s = v) (hx : a.eval x = .slice p m c) (hT : P.underlying T = some (.slice e)) [hE : Elem P e sz by_]
   (hl : ds.length = m * sz) (hr : ∀ (j : Nat) (u : Value), ds[j]? = some u → ∃ a, p = some a ∧ w.cell? (a.add j) = some u) (h1 : ∀ u ∈ ds, u.oneCell' = true) (hlen : (n + m) * (by_ + 1) ≤ 140737488355328)
   (h : ∀ v' w' M', Own w0 w' (M' ++ R) → SlO M' e sz v' (n + m) (cs ++ ds) → wpList P ops Q rest (a.put o.dst v') w') : wpList P ops Q (o :: rest) a w := by
 obtain ⟨i, z, hi, hz, hsz, hb, hzz, h0⟩ := hE.out
 have hlen1 : n + m ≤ maxLen := by
   have : n + m ≤ (n + m) * (by_ + 1) := Nat.le_mul_of_pos_right _ (by omega)
   unfold maxLen; omega
 have hlen2 : (n + m) * by_ ≤ 140737488355328 := Nat.le_trans (Nat.mul_le_mul_left _ (by omega)) hlen
 cases p with
 | none =>
   have hd : ds = [] := by
     cases ds with
     | nil => rfl
     | cons u ds => obtain ⟨_, ha, _⟩ := hr 0 u rfl; cases ha
   subst hd
   have hm0 : m = 0 := by
     rcases Nat.eq_zero_or_pos m with h | h
     · exact h
     · have := Nat.mul_pos h h0; rw [← hl] at this; simp at this
   subst hm0
   obtain ⟨q, k, rfl, hnk, _⟩ := hsl.cells hm
   refine wpList_plain hgd fun K hK => ?_
   unfold Oper.wp
   simp [execOp, ho, resolve, invoke, builtin, hs, hx, run_append_none hT hi _ _ _ _ hnk, Result.andThen]
   exact hK _ _ (h _ w M hm (by simpa using hsl))
 | some ad =>
   have hr' : ∀ (j : Nat) (u : Value), ds[j]? = some u → w.cell? (ad.add j) = some u := fun j u hj => by
     obtain ⟨a', ha, hc⟩ := hr j u hj
     cases ha; exact hc
   obtain ⟨hcl, hsl'⟩ := id hsl
   rcases hsl' with ⟨rfl, rfl, rfl⟩ | ⟨g, off, cap, cur, rfl, rfl, k1, k2, k3, k4⟩
   · have hcs : cs = [] := List.eq_nil_of_length_eq_zero (by simpa using hcl)
     subst hcs
     refine wpList_append_own w hgd s x T ho w.heap.size e i z sz by_ hT hi hz hsz hb hzz h0 _ 0 [] hs (World.ownsRow_nil w _ e sz) ad m c ds hx hl hr' h1 hlen1 hlen2 (Nat.le_refl _) ?_
     intro v' w' r1 r2 _
     have hx : Ext w w' := (Below.refl w.heap.size w).grown r2 (Nat.le_refl _) fun k hk => by cases hk
     obtain ⟨M', m1, m2⟩ := ownsRow_sl hm hx r1
     exact h v' w' M' m1 m2
   · have hrow : Row w g e cur := hm.row (.hd)
     have hcells : ∀ (j : Nat) (u : Value), cs[j]? = some u → w.cell? ((⟨g, off, none⟩ : Addr).add j) = some u := fun j u hj => by
       rw [Addr.add_mid, row_cell hrow]
       rw [← k4, List.getElem?_take] at hj
       split at hj
       · rwa [List.getElem?_drop] at hj
       · cases hj
     by_cases hfit : n + m ≤ cap
     · have hin : off + n * sz + ds.length ≤ cur.length := by
         have : (n + m) * sz ≤ cap * sz := Nat.mul_le_mul_right _ hfit
         rw [Nat.add_mul] at this; omega
       have hrun := run_append_room_cells (P := P) w T o.type e i hT hi g off n cap ad m c ds (by rw [hsz]; exact hl) hr' h1 hfit
         (fun j hj => by rw [row_cell hrow, hsz, List.getElem?_eq_getElem (by omega)]; rfl) (fun j hj => row_free hrow _)
       rw [hsz] at hrun
       have hm2 : Own w0 (w.setCells g (off + n * sz) ds) (⟨g, e, ovr cur (off + n * sz) ds⟩ :: R) := Own.setCells ds hm .hd
       refine wpList_plain hgd fun K hK => ?_
       unfold Oper.wp
       simp [execOp, ho, resolve, invoke, builtin, hs, hx, hrun, Result.andThen]
       refine hK _ _ (h _ _ [⟨g, e, ovr cur (off + n * sz) ds⟩] hm2 ⟨by rw [List.length_append, hcl, hl, Nat.add_mul], .inr ⟨g, off, cap, _, rfl, rfl, hfit, k2, by rw [ovr_length]; exact k3, ?_⟩⟩)
       apply List.ext_getElem?
       intro j
       rw [List.getElem?_take, Nat.add_mul, ← hl]
       by_cases hj : j < n * sz
       · rw [if_pos (by omega), List.getElem?_drop, ovr_at _ _ _ _ hin, if_neg (by omega), List.getElem?_append_left (by omega), ← k4, List.getElem?_take, if_pos hj, List.getElem?_drop]
       · by_cases hj2 : j < n * sz + ds.length
         · rw [if_pos hj2, List.getElem?_drop, ovr_at _ _ _ _ hin, if_pos (by omega), List.getElem?_append_right (by omega), hcl]
           congr 1; omega
         · rw [if_neg hj2, List.getElem?_eq_none (by rw [List.length_append]; omega)]
     · refine wpList_append_grows w hgd s x T ho e i z sz by_ hT hi hz hsz hb hzz h0 (some ⟨g, off, none⟩) n cap cs hs (by simp) hcl (fun b hb => by cases hb; exact hcells) ad m c ds hx hl hr' h1 (by omega) hlen1 hlen2 ?_
       intro v' w' r1 r2
       have hx : Ext w w' := (Below.refl w.heap.size w).grown r2 (Nat.le_refl _) fun k hk => by cases hk
       obtain ⟨M', m1, m2⟩ := ownsRow_sl (hm.drop) hx r1
       exact h v' w' M' m1 m2
theorem SlO.behind {M : List Blk} {e : TypeId} {sz n k : Nat} {g o cap : Nat} {cs : List Value} (h : SlO M e sz (.slice (some ⟨g, o, none⟩) n cap) n cs) (hk : k ≤ n) : SlO M e sz (.slice (some ⟨g, o + k * sz, none⟩) (n - k) (cap - k)) (n - k) (cs.drop (k * sz)) := by
 obtain ⟨hl, h⟩ := h
 rcases h with ⟨h, _⟩ | ⟨g', o', cap', cur, he, rfl, k1, k2, k3, k4⟩
 · cases h
 · cases he
   have hks : k * sz ≤ n * sz := Nat.mul_le_mul_right _ hk
   have hkc : k * sz ≤ cap * sz := Nat.mul_le_mul_right _ (by omega)
   refine ⟨by rw [List.length_drop, hl, Nat.sub_mul], .inr ⟨g, _, _, cur, rfl, rfl, by omega, by omega, by rw [Nat.sub_mul]; omega, ?_⟩⟩
   rw [← k4, List.drop_take, List.drop_drop, Nat.sub_mul]
def fillTo (r : List Byte) (k : Nat) : List Byte := r.take k ++ List.replicate (r.length - k) 0
theorem fillTo_length (r : List Byte) (k : Nat) (h : k ≤ r.length) : (fillTo r k).length = r.length := by simp [fillTo]; omega
theorem fillTo_zero (r : List Byte) : fillTo r 0 = zeros r.length := by simp [fillTo, zeros]
theorem fillTo_all (r : List Byte) : fillTo r r.length = r := by simp [fillTo]
theorem fillTo_set (r : List Byte) (k : Nat) (h : k < r.length) : (fillTo r k).set k (r.getD k 0) = fillTo r (k + 1) := by
 apply List.ext_getElem
 · rw [List.length_set, fillTo_length _ _ (by omega), fillTo_length _ _ (by omega)]
 · intro i h1 h2
   rw [List.getElem_set]
   rw [List.length_set, fillTo_length _ _ (by omega)] at h1
   by_cases e : k = i
   · subst e
     rw [if_pos rfl]
     simp only [fillTo]
     rw [List.getElem_append_left (by simp; omega)]
     simp [h]
   · rw [if_neg e]
     simp only [fillTo]
     by_cases hik : i < k
     · rw [List.getElem_append_left (by simp; omega), List.getElem_append_left (by simp; omega)]
       simp
     · rw [List.getElem_append_right (by simp; omega), List.getElem_append_right (by simp; omega)]
       simp
def xorL (a b : List Byte) : List Byte := List.zipWith (fun x y => x ^^^ y) a b
theorem xorL_length (a b : List Byte) : (xorL a b).length = min a.length b.length := by simp [xorL]
theorem xorL_getD (a b : List Byte) (k : Nat) (h : k < (xorL a b).length) : (xorL a b).getD k 0 = a.getD k 0 ^^^ b.getD k 0 := by
 rw [xorL_length] at h
 have h1 : k < a.length := by omega
 have h2 : k < b.length := by omega
 simp [xorL, List.getElem?_zipWith, h1, h2]
set_option maxHeartbeats 1000000 in
theorem xor_any (a b : List Byte) (p q : Option Addr) (c d : Nat) (w : World) (ha : RdB w p a) (hb : RdB w q b) (hla : a.length ≤ 140737488355328) (hlb : b.length ≤ 140737488355328) :
   GivesR Tryz.prog 51 #[.slice p a.length c, .slice q b.length d] w (BytesS (xorL a b)) := by
 unfold GivesR
 have hn := xorL_length a b
 generalize hN : (xorL a b).length = n at *
 have hx : Ext w (w.alloc (.cells ((zeros n).map v8).toArray 5)) := (Ext.refl w).alloc _
 have hrow := row_new w 5 ((zeros n).map v8)
 have HN := Lib.hid hN
 have Hn := Lib.hid hn
 have hn1 : n ≤ a.length := by omega
 have hn2 : n ≤ b.length := by omega
 clear hN hn
 rcases Nat.lt_or_ge b.length a.length with hab | hab
 all_goals
   go_enter Tryz.func51, Tryz.ntmps51
   go_wp2_with (with_reducible show wpList _ _ _ _ _ _; refine make_b n rfl rfl rfl rfl (by have := Hn.out; omega) (by have := Hn.out; omega) (by omega) ?_)
   go_loopw [6, 15] (fun _ i wr => ∃ k : Nat, k ≤ n ∧ i = .int .i64 k ∧ Row wr w.heap.size 5 ((fillTo (xorL a b) k).map v8) ∧ Ext w wr) (fun _ i _ => n - (intOf i).toNat)
   case atStart => exact ⟨0, Nat.zero_le _, rfl, by rw [fillTo_zero, HN.out]; exact hrow, hx⟩
   case round =>
     obtain ⟨k, hk, rfl, hr, hxr⟩ := hrel
     by_cases hlt : k < n
     · have hka : k < a.length := by omega
       have hkb : k < b.length := by omega
       have hpa := (ha.ext hxr).isSome k (by omega)
       have hpb := (hb.ext hxr).isSome k (by omega)
       have hca := fun wx (hwx : Ext wr wx) => ((ha.ext hxr).ext hwx).at k (by omega)
       have hcb := fun wx (hwx : Ext wr wx) => ((hb.ext hxr).ext hwx).at k (by omega)
       have hset := fillTo_set (xorL a b) k (by rw [HN.out]; exact hlt)
       have e : a.getD k 0 ^^^ b.getD k 0 = a[k] ^^^ b[k] := by simp [hka, hkb]
       rw [xorL_getD a b k (by rw [HN.out]; exact hlt), e] at hset
       have Hset := Lib.hid hset
       clear hset e
       go_wp2
       refine region_at 12 (fun w' => Ext wr w') 32 (by kernel_rfl) (by kernel_rfl) rfl (fun _ _ h k => h.trans k) (drew_ext _) ?_
       simp only [tSC, List.take_zero, dSC, List.drop_zero, List.map_cons, List.map_nil]
       repeat (first
           | (apply walk_is rfl rfl rfl
              · (intro wx hwx; go_simp; (try go_bits); first | exact gives_same | exact gives_skip)
              · (simp only [Act.put, sIB, sCS, sCZ]; rfl))
           | (apply walk_not rfl rfl rfl
              · (simp only [Act.put, sIB, sCS, sCZ]; rfl)))
       intro wz hwz
       simp only [zCC, zNR]
       repeat (first | rw [fin_is] | (rw [fin_cons]; intro _ _))
       rw [fin_nil]
       try (replace hm := hm.ext hwz)
       simp only [Act.put, sIB, sCS, sCZ]
       have hr' := row_ext hr hwz
       have hc := row_v8 hr' k (by rw [fillTo_length _ _ (by rw [HN.out]; omega), HN.out]; exact hlt)
       have hf := row_free hr' k
       have hrs := row_set hr' k (v8 (a[k] ^^^ b[k]))
       rw [← List.map_set, Hset.out] at hrs
       have hxz := ext_setCell (hxr.trans hwz) ⟨w.heap.size, k, none⟩ (v8 (a[k] ^^^ b[k])) (Nat.le_refl _)
       go_wp2
       go_roundw
       case rel => exact ⟨k + 1, by omega, by go_num, hrs, hxz⟩
       case measure => simp [intOf] <;> omega
     · obtain rfl : k = n := by omega
       go_wp2
       go_ret
       have hr' : Row wr w.heap.size 5 ((xorL a b).map v8) := by rw [← HN.out, fillTo_all] at hr; exact hr
       exact ⟨_, rfl, ⟨_, _, by rw [HN.out]; rfl, by rw [HN.out]; exact Nat.le_refl _, RdB.of_row hr'⟩, hxr⟩
def orL (a b : List Byte) : Nat → Byte
 | 0 => 0#8
 | k + 1 => orL a b k ||| (a.getD k 0 ^^^ b.getD k 0)
def putL (n : BitVec 64) (m : Nat) : List Byte := (List.range m).map fun k => (n >>> (8 * k)).setWidth 8
theorem putL_length (n : BitVec 64) (m : Nat) : (putL n m).length = m := by simp [putL]
theorem putL_getD (n : BitVec 64) (m k : Nat) (h : k < m) : (putL n m).getD k 0 = (n >>> (8 * k)).setWidth 8 := by simp [putL, h]
theorem fillTo_zero' (r : List Byte) (n : Nat) (h : r.length = n) : (fillTo r 0).map v8 = (List.replicate n (0 : Byte)).map v8 := by
 rw [fillTo_zero, h]; rfl
@[local go_sem] theorem conv_32_8 (x : BitVec 32) (w : World) : (convert 62 5 (v32 x)).run Tryz.prog w = .ok (v8 (x.setWidth 8)) w := conv32_8 x _ _ _ w rfl rfl
theorem zeros4 : (#[Value.int IntKind.u8 0, Value.int IntKind.u8 0, Value.int IntKind.u8 0, Value.int IntKind.u8 0] : Array Value) = ((List.replicate 4 (0 : Byte)).map v8).toArray := rfl
theorem put32_byte (n : BitVec 32) (k : Nat) : ((n.setWidth 64) >>> (8 * k)).setWidth 8 = (n >>> (8 * k)).setWidth 8 := by
 apply BitVec.eq_of_getLsbD_eq; intro i hi
 simp [hi]
 intro h; exact Classical.byContradiction fun h2 => by
   have := BitVec.getLsbD_of_ge n (8 * k + i) (by omega)
   rw [this] at h; cases h
set_option maxHeartbeats 1000000 in
theorem putword_any (n : BitVec 32) (w : World) :
   Gives Tryz.prog 53 #[v32 n] w (A8 (putL (n.setWidth 64) 4)) := by
 unfold Gives
 have hl := putL_length (n.setWidth 64) 4
 have hb : ∀ k, k < 4 → (fillTo (putL (n.setWidth 64) 4) k).set k ((n >>> (8 * k)).setWidth 8) = fillTo (putL (n.setWidth 64) 4) (k + 1) := by
   intro k hk
   rw [← put32_byte, ← putL_getD (n.setWidth 64) 4 k hk]
   exact fillTo_set _ k (by rw [hl]; exact hk)
 have h0 := fillTo_zero' (putL (n.setWidth 64) 4) 4 hl
 have h1 : fillTo (putL (n.setWidth 64) 4) 4 = putL (n.setWidth 64) 4 := by have := fillTo_all (putL (n.setWidth 64) 4); rwa [hl] at this
 have hlen : ∀ k, k ≤ 4 → (fillTo (putL (n.setWidth 64) 4) k).length = 4 := fun k hk => by rw [fillTo_length _ _ (by rw [hl]; exact hk), hl]
 generalize putL (n.setWidth 64) 4 = r at *
 have H0 := Lib.hid h0
 have H1 := Lib.hid h1
 have HB := Lib.hid hb
 have HL := Lib.hid hlen
 have Hl := Lib.hid hl
 clear h0 h1 hb hlen hl
 go_enter Tryz.func53, Tryz.ntmps53
 go_wp2
 rw [zeros4]
 go_loopw [4, 5] (fun _ i wr => ∃ k : Nat, k ≤ 4 ∧ i = .int .i64 k ∧ Row wr (w.heap.size + 1) 76 ((fillTo r k).map v8) ∧ Row wr w.heap.size 76 ((List.replicate 4 (0 : Byte)).map v8) ∧ Ext w wr) (fun _ i _ => 4 - (intOf i).toNat)
 case atStart => exact ⟨0, Nat.zero_le _, rfl, by rw [H0.out]; exact heap_alloc2_new _ _ _, heap_alloc2_old _ _ _, ((Ext.refl w).alloc _).alloc _⟩
 case round =>
   obtain ⟨k, hk, rfl, hr1, hr0, hx⟩ := hrel
   by_cases hlt : k < 4
   · have hc := row_v8 hr1 k (by rw [HL.out k hk]; exact hlt)
     have hf := row_free hr1 k
     have hrs := row_set hr1 k (v8 ((n >>> (8 * k)).setWidth 8))
     rw [← List.map_set, HB.out k hlt] at hrs
     go_wp2
     go_roundw
     case rel => exact ⟨k + 1, by omega, by go_num, hrs, row_other hr0 _ _ (by simp), ext_setCell hx _ _ (by simp)⟩
     case measure => simp [intOf] <;> omega
   · obtain rfl : k = 4 := by omega
     rw [H1.out] at hr1
     go_wp2_with (first | (with_reducible show wpList _ _ _ _ _ _; refine wpl_load_row rfl rfl rfl hr1 rfl rfl (by simp only [List.length_map, Hl.out]; kernel_rfl) ?_) | (with_reducible show wpList _ _ _ _ _ _; refine wpl_store_row (cs := r.map v8) rfl rfl rfl rfl hr0 (by simp [Hl.out]) (by simp only [List.length_map, Hl.out]; kernel_rfl) (one_v8 _) ?_))
     refine ret_row rfl rfl (row_setRow hr0 _) rfl rfl (by simp only [List.length_map, Hl.out]; kernel_rfl) rfl ⟨rfl, ?_⟩
     exact ext_setRow hx _ _ (by omega)
@[local go_sem] theorem conv_64_8 (x : BitVec 64) (w : World) : (convert 95 5 (v64 x)).run Tryz.prog w = .ok (v8 (x.setWidth 8)) w := conv64_8 x _ _ _ w rfl rfl
theorem zeros8 : (#[Value.int IntKind.u8 0, Value.int IntKind.u8 0, Value.int IntKind.u8 0, Value.int IntKind.u8 0, Value.int IntKind.u8 0, Value.int IntKind.u8 0, Value.int IntKind.u8 0, Value.int IntKind.u8 0] : Array Value) = ((List.replicate 8 (0 : Byte)).map v8).toArray := rfl
theorem put64_byte (n : BitVec 64) (k : Nat) : ((n.setWidth 64) >>> (8 * k)).setWidth 8 = (n >>> (8 * k)).setWidth 8 := by
 apply BitVec.eq_of_getLsbD_eq; intro i hi
 simp [hi]
set_option maxHeartbeats 1000000 in
theorem putlong_any (n : BitVec 64) (w : World) :
   Gives Tryz.prog 48 #[v64 n] w (A8 (putL (n.setWidth 64) 8)) := by
 unfold Gives
 have hl := putL_length (n.setWidth 64) 8
 have hb : ∀ k, k < 8 → (fillTo (putL (n.setWidth 64) 8) k).set k ((n >>> (8 * k)).setWidth 8) = fillTo (putL (n.setWidth 64) 8) (k + 1) := by
   intro k hk
   rw [← put64_byte, ← putL_getD (n.setWidth 64) 8 k hk]
   exact fillTo_set _ k (by rw [hl]; exact hk)
 have h0 := fillTo_zero' (putL (n.setWidth 64) 8) 8 hl
 have h1 : fillTo (putL (n.setWidth 64) 8) 8 = putL (n.setWidth 64) 8 := by have := fillTo_all (putL (n.setWidth 64) 8); rwa [hl] at this
 have hlen : ∀ k, k ≤ 8 → (fillTo (putL (n.setWidth 64) 8) k).length = 8 := fun k hk => by rw [fillTo_length _ _ (by rw [hl]; exact hk), hl]
 generalize putL (n.setWidth 64) 8 = r at *
 have H0 := Lib.hid h0
 have H1 := Lib.hid h1
 have HB := Lib.hid hb
 have HL := Lib.hid hlen
 have Hl := Lib.hid hl
 clear h0 h1 hb hlen hl
 go_enter Tryz.func48, Tryz.ntmps48
 go_wp2
 rw [zeros8]
 go_loopw [4, 5] (fun _ i wr => ∃ k : Nat, k ≤ 8 ∧ i = .int .i64 k ∧ Row wr (w.heap.size + 1) 122 ((fillTo r k).map v8) ∧ Row wr w.heap.size 122 ((List.replicate 8 (0 : Byte)).map v8) ∧ Ext w wr) (fun _ i _ => 8 - (intOf i).toNat)
 case atStart => exact ⟨0, Nat.zero_le _, rfl, by rw [H0.out]; exact heap_alloc2_new _ _ _, heap_alloc2_old _ _ _, ((Ext.refl w).alloc _).alloc _⟩
 case round =>
   obtain ⟨k, hk, rfl, hr1, hr0, hx⟩ := hrel
   by_cases hlt : k < 8
   · have hc := row_v8 hr1 k (by rw [HL.out k hk]; exact hlt)
     have hf := row_free hr1 k
     have hrs := row_set hr1 k (v8 ((n >>> (8 * k)).setWidth 8))
     rw [← List.map_set, HB.out k hlt] at hrs
     go_wp2
     go_roundw
     case rel => exact ⟨k + 1, by omega, by go_num, hrs, row_other hr0 _ _ (by simp), ext_setCell hx _ _ (by simp)⟩
     case measure => simp [intOf] <;> omega
   · obtain rfl : k = 8 := by omega
     rw [H1.out] at hr1
     go_wp2_with (first | (with_reducible show wpList _ _ _ _ _ _; refine wpl_load_row rfl rfl rfl hr1 rfl rfl (by simp only [List.length_map, Hl.out]; kernel_rfl) ?_) | (with_reducible show wpList _ _ _ _ _ _; refine wpl_store_row (cs := r.map v8) rfl rfl rfl rfl hr0 (by simp [Hl.out]) (by simp only [List.length_map, Hl.out]; kernel_rfl) (one_v8 _) ?_))
     refine ret_row rfl rfl (row_setRow hr0 _) rfl rfl (by simp only [List.length_map, Hl.out]; kernel_rfl) rfl ⟨rfl, ?_⟩
     exact ext_setRow hx _ _ (by omega)
end Go.Proofs.YtdmgchdhilcncaaGreatDoor
