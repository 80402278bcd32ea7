/-
  What slices of bytes read as, and small facts on worlds. No conditions.
  Plain lists: made by a function of the place, and filled place by place. No conditions.
-/
import Derived.Test.YtmclklhnbmkheaaDoorReg
namespace Go.Proofs.YtmclklhnbmkheaaDoor
open Go Go.RowKit
set_option maxRecDepth 100000
set_option linter.unusedVariables false
set_option linter.unusedSimpArgs false

abbrev Byte := BitVec 8

/-- At the address p lie the bytes l. -/
def RdB (w : World) (p : Option Addr) (l : List Byte) : Prop :=
  (0 < l.length → p.isSome = true) ∧ ∀ i, i < l.length → w.cell? ((p.getD default).add i) = some (v8 (l.getD i 0))
theorem RdB.isSome {w : World} {p : Option Addr} {l : List Byte} (h : RdB w p l) (i : Nat) (hi : i < l.length) : p.isSome = true := h.1 (by omega)
theorem RdB.at {w : World} {p : Option Addr} {l : List Byte} (h : RdB w p l) (i : Nat) (hi : i < l.length) : w.cell? ((p.getD default).add i) = some (v8 (l.getD i 0)) := h.2 i hi
theorem RdB.ext {w w' : World} {p : Option Addr} {l : List Byte} (h : RdB w p l) (hx : Ext w w') : RdB w' p l := ⟨h.1, fun i hi => hx.cell (h.2 i hi)⟩
theorem RdB.nil (w : World) (p : Option Addr) : RdB w p [] := ⟨by simp, by simp⟩

/-- A slice that reads as l. -/
def BytesS (l : List Byte) : Slot := fun v w => ∃ p c, v = .slice p l.length c ∧ l.length ≤ c ∧ RdB w p l
theorem BytesS.stable (l : List Byte) : Stable (BytesS l) := fun _ _ _ ⟨p, c, h1, h2, h3⟩ hx => ⟨p, c, h1, h2, h3.ext hx⟩

/-- An index into a slice whose address is a variable. -/
@[go_sem] theorem run_indexAt_opt {P : Program} (w : World) (t : TypeId) (p : Option Addr) (len cap : Nat) (k : IntKind) (i : Int) (h : P.underlying t = some (.slice (P.elem t))) (hp : p.isSome = true) :
    (Instr.indexAt t (.slice p len cap) (.int k i)).run P w =
      if 0 ≤ i ∧ i < len then ((sizeOf (P.elem t)).run P w).andThen fun s w => .ok (.pointer (some ((p.getD default).add (i.toNat * s)))) w
      else (boundsPanic k i len .index).run P w := by
  obtain ⟨a, rfl⟩ := Option.isSome_iff_exists.1 hp
  exact run_indexAt_slice w t a len cap k i h

theorem Gives.of_same {P : Program} {f : FuncId} {args : Array Value} {w : World} {c : Value} (h : Calls P f args w fun e w' => e = .returned c ∧ w = w') : Gives P f args w c :=
  h.mono fun _ _ ⟨he, hw⟩ => ⟨he, by subst hw; exact Ext.refl w⟩

theorem drew_ext (w : World) : Ext w w.drew := Below.drew (Below.refl _ _)

/-! ### Blocks of the call's own -/

/-- Block g holds just these cells, all of which may be written. -/
abbrev Row (w : World) (g : Nat) (t : TypeId) (cs : List Value) : Prop := w.heap[g]? = some (.cells cs.toArray t (0, 0))
/-- A row of bytes as an array's value. -/
abbrev A8 (l : List Byte) : Value := .agg (l.map v8).toArray
theorem row_lt {w : World} {g : Nat} {t : TypeId} {cs : List Value} (h : Row w g t cs) : g < w.heap.size := (Array.getElem?_eq_some_iff.1 h).1
theorem row_new (w : World) (t : TypeId) (cs : List Value) : Row (w.alloc (.cells cs.toArray t)) w.heap.size t cs := heap_alloc_new w _
theorem row_alloc {w : World} {g : Nat} {t : TypeId} {cs : List Value} (h : Row w g t cs) (o : Obj) : Row (w.alloc o) g t cs := by
  unfold Row; rw [Below.heap_alloc w o g (row_lt h)]; exact h
theorem row_drew {w : World} {g : Nat} {t : TypeId} {cs : List Value} (h : Row w g t cs) : Row w.drew g t cs := h
theorem row_ext {w w' : World} {g : Nat} {t : TypeId} {cs : List Value} (h : Row w g t cs) (hx : Ext w w') : Row w' g t cs := hx.block h
theorem row_cell {w : World} {g : Nat} {t : TypeId} {cs : List Value} (h : Row w g t cs) (i : Nat) : w.cell? ⟨g, i, none⟩ = cs[i]? := by
  rw [cell_of_row w g i _ t _ h]; simp
theorem row_free {w : World} {g : Nat} {t : TypeId} {cs : List Value} (h : Row w g t cs) (i : Nat) : w.frozen? ⟨g, i, none⟩ = false := frozen_of_row w g i _ t h
theorem row_set {w : World} {g : Nat} {t : TypeId} {cs : List Value} (h : Row w g t cs) (i : Nat) (v : Value) : Row (w.setCell ⟨g, i, none⟩ v) g t (cs.set i v) := by
  unfold Row; rw [heap_setCell_same w g i _ t v h]; simp
theorem row_other {w : World} {g : Nat} {t : TypeId} {cs : List Value} (h : Row w g t cs) (a : Addr) (v : Value) (hne : g ≠ a.block) : Row (w.setCell a v) g t cs := by
  unfold Row; rw [heap_setCell_other w a g v hne]; exact h
theorem row_size (w : World) (a : Addr) (v : Value) : (w.setCell a v).heap.size = w.heap.size := by simp [World.setCell]
theorem row_v8 {w : World} {g : Nat} {t : TypeId} {l : List Byte} (h : Row w g t (l.map v8)) (i : Nat) (hi : i < l.length) : w.cell? ⟨g, i, none⟩ = some (v8 (l.getD i 0)) := by
  rw [row_cell h, List.getElem?_map, List.getElem?_eq_getElem hi]; simp [hi]
theorem RdB.of_row {w : World} {g : Nat} {t : TypeId} {l : List Byte} (h : Row w g t (l.map v8)) : RdB w (some ⟨g, 0, none⟩) l :=
  ⟨fun _ => rfl, fun i hi => by
    have : (⟨g, 0, none⟩ : Addr).add i = ⟨g, i, none⟩ := by simp [Addr.add]; omega
    show w.cell? ((⟨g, 0, none⟩ : Addr).add i) = _
    rw [this]; exact row_v8 h i hi⟩
theorem below_of_ext {w w' : World} (h : Ext w w') {B : Nat} (hB : B ≤ w.heap.size) : Below B w w' := h.mono hB

/-- A whole array or struct, stored into a block of its own. -/
theorem run_storeAt_row {P : Program} {w : World} {g : Nat} {T t : TypeId} {cs0 cs : List Value} (h : Row w g t cs0) (hl : cs.length = cs0.length) (hi : (P.info? T).map (·.size) = some cs.length) (h1 : ∀ v ∈ cs, v.oneCell' = true) :
    (Instr.storeAt T (.pointer (some ⟨g, 0, none⟩)) (.agg cs.toArray)).run P w = .ok () (w.setRow g cs.toArray) := by
  have hs := run_storeCells_at P g 0 t cs 0 cs0.toArray w h (by simp; omega) h1
  simp only [Nat.zero_add, List.take_zero, List.nil_append] at hs
  rw [show cs0.toArray.toList.drop cs.length = [] by simp [hl], List.append_nil] at hs
  obtain ⟨i, hi1, hi2⟩ := Option.map_eq_some_iff.1 hi
  simp [Instr.storeAt, Instr.sureAddr, storeVar, sizeOf, typeInfo, hi1, hi2, Value.cells, hs]
theorem row_setRow {w : World} {g : Nat} {t : TypeId} {cs0 : List Value} (h : Row w g t cs0) (cs : List Value) : Row (w.setRow g cs.toArray) g t cs := setRow_heap w g _ _ t _ h
theorem row_setRow_other {w : World} {g k : Nat} {t : TypeId} {cs0 : List Value} (h : Row w k t cs0) (cs : Array Value) (hne : k ≠ g) : Row (w.setRow g cs) k t cs0 := by
  unfold Row; rw [setRow_other w g k cs hne]; exact h
theorem below_setRow {B : Nat} {w w' : World} (h : Below B w w') (g : Nat) (cs : Array Value) (hg : B ≤ g) : Below B w (w'.setRow g cs) :=
  h.trans ⟨rfl, rfl, rfl, by simp, fun k hk => setRow_other w' g k cs (by omega)⟩
theorem ext_setRow {w w' : World} (h : Ext w w') (g : Nat) (cs : Array Value) (hg : w.heap.size ≤ g) : Ext w (w'.setRow g cs) := below_setRow h g cs hg
theorem ext_setCell {w w' : World} (h : Ext w w') (a : Addr) (v : Value) (hg : w.heap.size ≤ a.block) : Ext w (w'.setCell a v) := Below.setCell h hg v
/-- A whole array or struct, loaded from a block of its own. -/
theorem run_loadAt_row {P : Program} {w : World} {g : Nat} {T t : TypeId} {cs : List Value} {d : TypeDesc} (h : Row w g t cs) (hu : P.underlying T = some d) (hd : (match d with | .struct _ | .array _ _ => true | _ => false) = true) (hi : (P.info? T).map (·.size) = some cs.length) :
    (Instr.loadAt T (.pointer (some ⟨g, 0, none⟩))).run P w = .ok (.agg cs.toArray) w := by
  simp only [Instr.loadAt, Instr.sureAddr, Sem.run_bind, Sem.run_pure, Result.andThen_ok]
  exact run_loadVar_row w g t T cs.toArray (0, 0) d h hu hd (by simpa using hi)
/-- The end of a function whose result lies in a block of its own. -/
theorem ret_row {P : Program} {fn : Func} {R : Ending → World → Prop} {a : Act} {w : World} {p : Tmp} {T t : TypeId} {g : Nat} {cs : List Value} {d : TypeDesc} (h : fn.results = #[.cell p T]) (hp : a.tmps.getD p undef = .pointer (some ⟨g, 0, none⟩)) (hr : Row w g t cs)
    (hu : P.underlying T = some d) (hd : (match d with | .struct _ | .array _ _ => true | _ => false) = true) (hi : (P.info? T).map (·.size) = some cs.length) (hf : a.defers = []) (hR : R (.returned (.agg cs.toArray)) w) : bodyPost P fn R .ret a w :=
  bodyPost_ret (results_cell_row h _ w g t cs.toArray (0, 0) d hp hr hu hd (by simpa using hi)) hf hR
theorem one_v8 (l : List Byte) : ∀ v ∈ l.map v8, v.oneCell' = true := by
  intro v hv; obtain ⟨x, _, rfl⟩ := List.mem_map.1 hv; rfl

theorem wpList_want {P : Program} {ops : Array Oper} {Q : Exit → Act → World → Prop} {rest : List Oper} {o : Oper} {a : Act} {w : World} (hgd : Region.wanted o (yielded ops a.tmps) = true)
    (h : ∀ K : Act → World → Prop, (∀ a w, wpList P ops Q rest a w → K a w) → o.wp P a w K Q) : wpList P ops Q (o :: rest) a w := by
  unfold wpList
  rw [if_pos hgd]
  exact .inl (h _ (fun _ _ h => h))
/-- The same two as steps of a walk. -/
theorem wpl_store_row {P : Program} {ops : Array Oper} {Q : Exit → Act → World → Prop} {rest : List Oper} {o : Oper} {a : Act} {w : World} {T t : TypeId} {x y : Operand} {g : Nat} {cs0 cs : List Value}
    (hgd : Region.wanted o (yielded ops a.tmps) = true) (ho : o.op = .store T x y) (hx : a.eval x = .pointer (some ⟨g, 0, none⟩)) (hy : a.eval y = .agg cs.toArray) (h : Row w g t cs0) (hl : cs.length = cs0.length) (hi : (P.info? T).map (·.size) = some cs.length) (h1 : ∀ v ∈ cs, v.oneCell' = true)
    (hr : wpList P ops Q rest (a.put o.dst undef) (w.setRow g cs.toArray)) : wpList P ops Q (o :: rest) a w :=
  wpList_want hgd fun K hK => by
    unfold Oper.wp execOp
    simp only [ho, hx, hy, Sem.run_bind, run_storeAt_row h hl hi h1, Result.andThen_ok]
    exact hK _ _ hr
theorem wpl_load_row {P : Program} {ops : Array Oper} {Q : Exit → Act → World → Prop} {rest : List Oper} {o : Oper} {a : Act} {w : World} {T t : TypeId} {x : Operand} {g : Nat} {cs : List Value} {d : TypeDesc}
    (hgd : Region.wanted o (yielded ops a.tmps) = true) (ho : o.op = .load T x) (hx : a.eval x = .pointer (some ⟨g, 0, none⟩)) (h : Row w g t cs) (hu : P.underlying T = some d) (hd : (match d with | .struct _ | .array _ _ => true | _ => false) = true) (hi : (P.info? T).map (·.size) = some cs.length)
    (hr : wpList P ops Q rest (a.put o.dst (.agg cs.toArray)) w) : wpList P ops Q (o :: rest) a w :=
  wpList_want hgd fun K hK => by
    unfold Oper.wp execOp
    simp only [ho, hx, Sem.run_bind, run_loadAt_row h hu hd hi, Result.andThen_ok, Sem.run_pure]
    exact hK _ _ hr

/-- Bytes laid over others, at a place. -/
def over (cur : List Byte) (o : Nat) (xs : List Byte) : List Byte := cur.take o ++ xs ++ cur.drop (o + xs.length)
theorem over_length (cur : List Byte) (o : Nat) (xs : List Byte) (h : o + xs.length ≤ cur.length) : (over cur o xs).length = cur.length := by
  simp [over]; omega
theorem RdB.none {w : World} {l : List Byte} (h : RdB w none l) : l = [] := by
  cases l with
  | nil => rfl
  | cons x l => have := h.1 (by simp); simp at this

/-- The built-in copy, from bytes into a block of the call's own. -/
theorem run_copy_bytes {P : Program} {w : World} {dT sT ty elem t : TypeId} {g o dLen dCap sCap : Nat} {p : Option Addr} {cur l : List Byte} (hu : P.underlying dT = some (.slice elem)) (hs : (P.info? elem).map (·.size) = some 1)
    (hg : Row w g t (cur.map v8)) (hfit : o + dLen ≤ cur.length) (hr : RdB w p l) :
    (Builtin.copy_ #[dT, sT] ty #[.slice (some ⟨g, o, Option.none⟩) dLen dCap, .slice p l.length sCap]).run P w = .ok (goInt (min l.length dLen : Nat)) (w.setRow g ((over cur o (l.take dLen)).map v8).toArray) := by
  cases p with
  | none =>
    have := hr.none; subst this
    obtain ⟨i, hi1, hi2⟩ := Option.map_eq_some_iff.1 hs
    have e : w.setRow g ((over cur o (([] : List Byte).take dLen)).map v8).toArray = w := by
      have : over cur o (([] : List Byte).take dLen) = cur := by simp [over]
      rw [this]; exact setRow_self w g _ t (0, 0) hg
    rw [e]
    simp [Builtin.copy_, run_underlying hu, Builtin.lenOf, Builtin.firstCells, sizeOf, typeInfo, hi1, storeCells]
  | some a =>
    have h := run_copy_row (P := P) w dT sT ty elem g o dLen dCap a l.length sCap ((cur.map v8).toArray) t ((l.take dLen).map v8) hu hs hg (by simp [Nat.min_comm])
      (fun j v hj => by
        simp only [List.getElem?_map, List.getElem?_take] at hj
        by_cases hjd : j < dLen
        · rw [if_pos hjd] at hj
          obtain ⟨x, hx, rfl⟩ := Option.map_eq_some_iff.1 hj
          obtain ⟨hlt, hx'⟩ := List.getElem?_eq_some_iff.1 hx
          have := hr.2 j hlt
          simp only [Option.getD_some] at this
          rw [this]; simp [hlt, hx']
        · rw [if_neg hjd] at hj; simp at hj)
      (by simp; omega) (one_v8 _)
    rw [h]
    simp only [List.length_map, List.length_take, List.map_append, over, List.map_take, List.map_drop]
    rw [Nat.min_comm dLen l.length]
theorem wpl_copy {P : Program} {ops : Array Oper} {Q : Exit → Act → World → Prop} {rest : List Oper} {o : Oper} {a : Act} {w : World} {dT sT elem t : TypeId} {x y : Operand} {g k dLen dCap sCap : Nat} {p : Option Addr} {cur cur' l : List Byte}
    (hc : over cur k (l.take dLen) = cur') (hgd : Region.wanted o (yielded ops a.tmps) = true) (ho : o.op = .call { callee := .builtin .copy, args := #[x, y], argTypes := #[dT, sT] }) (hx : a.eval x = .slice (some ⟨g, k, Option.none⟩) dLen dCap) {n : Nat} (hy : a.eval y = .slice p n sCap) (hn : n = l.length)
    (hu : P.underlying dT = some (.slice elem)) (hs : (P.info? elem).map (·.size) = some 1) (hg : Row w g t (cur.map v8)) (hfit : k + dLen ≤ cur.length) (hr : RdB w p l)
    (h : wpList P ops Q rest (a.put o.dst (goInt (min l.length dLen : Nat))) (w.setRow g (cur'.map v8).toArray)) : wpList P ops Q (o :: rest) a w :=
  wpList_want hgd fun K hK => by
    subst hc hn
    unfold Oper.wp execOp
    simp only [ho, resolve, invoke, builtin, Sem.run_bind, Sem.run_pure, Result.andThen_ok, List.map_toArray, List.map_cons, List.map_nil, hx, hy, run_copy_bytes (ty := o.type) hu hs hg hfit hr]
    exact hK _ _ h

/-- So many noughts. (Behind a name: not to be laid open by the walk.) -/
def zeros (n : Nat) : List Byte := List.replicate n 0
theorem zeros_length (n : Nat) : (zeros n).length = n := by simp [zeros]
/-- 'make' of bytes. -/
theorem madeCells_v8 (n : Nat) : madeCells #[Value.int .u8 0] n = ((zeros n).map v8).toArray := by
  unfold zeros
  apply Array.ext
  · simp [madeCells]
  · intro i h1 h2
    simp [madeCells, Nat.mod_one] at h1 ⊢
    rfl
theorem run_make_bytes {P : Program} {w : World} {t e : TypeId} {i : TypeInfo} (ht : P.underlying t = some (.slice e)) (hi : P.info? e = some i) (hz : i.zero = some (.int .u8 0)) (hs : i.size = 1) (hb : i.bytes = 1) (n : Nat) (hn : n ≤ 281474976710656) :
    (Instr.makeSlice t (.int .i64 n) (.int .i64 n)).run P w = .ok (.slice (some ⟨w.heap.size, 0, Option.none⟩) n n) (w.alloc (.cells ((zeros n).map v8).toArray e)) := by
  have h := run_make (P := P) w t e i (.int .u8 0) ht hi hz .i64 .i64 n n (by omega) (Int.le_refl _) (by rw [hb]; omega) (by omega)
  rw [h, hs, Nat.mul_one]
  simp only [Int.toNat_natCast, Value.cells, madeCells_v8]
theorem wpl_make {P : Program} {ops : Array Oper} {Q : Exit → Act → World → Prop} {rest : List Oper} {o : Oper} {a : Act} {w : World} {t e : TypeId} {x y : Operand} {n : Nat} {N M : Int} {i : TypeInfo}
    (hgd : Region.wanted o (yielded ops a.tmps) = true) (ho : o.op = .makeSlice t x y) (hx : a.eval x = .int .i64 N) (hy : a.eval y = .int .i64 M) (ht : P.underlying t = some (.slice e)) (hi : P.info? e = some i) (hz : i.zero = some (.int .u8 0)) (hs : i.size = 1) (hb : i.bytes = 1) (hN : N = (n : Int)) (hM : M = (n : Int)) (hn : n ≤ 281474976710656)
    (h : wpList P ops Q rest (a.put o.dst (.slice (some ⟨w.heap.size, 0, Option.none⟩) n n)) (w.alloc (.cells ((zeros n).map v8).toArray e))) : wpList P ops Q (o :: rest) a w :=
  wpList_want hgd fun K hK => by
    subst hN hM
    unfold Oper.wp execOp
    simp only [ho, hx, hy, Sem.run_bind, run_make_bytes ht hi hz hs hb n hn, Result.andThen_ok, Sem.run_pure]
    exact hK _ _ h

/-- Bytes as a string. -/
def bstr (l : List Byte) : ByteArray := ⟨(l.map UInt8.ofBitVec).toArray⟩
theorem bstr_inj {l m : List Byte} (h : (bstr l).toList = (bstr m).toList) : l = m := by
  rw [ByteArray.toList_eq, ByteArray.toList_eq] at h
  simp only [bstr] at h
  exact (List.map_inj_right (fun x y e => by have := congrArg UInt8.toBitVec e; simpa using this)).1 h
@[go_sem] theorem bstr_beq (l m : List Byte) : ((bstr l).toList == (bstr m).toList) = (l == m) := by
  rw [Bool.eq_iff_iff]; simp only [beq_iff_eq]
  exact ⟨bstr_inj, fun e => by rw [e]⟩
theorem run_conv_str {P : Program} {w : World} {src dst e : TypeId} (hs : P.underlying src = some (.slice e)) (he : P.underlying e = some (.int .u8)) (hd : P.underlying dst = some .string) {p : Option Addr} {l : List Byte} (c : Nat) (h : RdB w p l) :
    (convert src dst (.slice p l.length c)).run P w = .ok (.string (bstr l)) w := by
  cases p with
  | none =>
    have := h.none; subst this
    rw [List.length_nil, run_convert_bytes_nil w src e hs he 0 c dst hd]; rfl
  | some a =>
    rw [run_convert_bytes_string w src dst e _ _ c hs he hd]
    have hl := run_loadCells_list (P := P) w a (l.map v8) (fun j v hj => by
      simp only [List.getElem?_map] at hj
      obtain ⟨x, hx, rfl⟩ := Option.map_eq_some_iff.1 hj
      obtain ⟨hlt, hx'⟩ := List.getElem?_eq_some_iff.1 hx
      have := h.2 j hlt
      simp only [Option.getD_some] at this
      rw [this]; simp [hlt, hx'])
    have e1 : l.map v8 = (l.map fun x => (x.toNat : Int)).map (Value.int .u8) := by rw [List.map_map]; rfl
    rw [List.length_map, e1] at hl
    rw [run_bytesToString w a l.length c _ hl, foldl_push_bytes]
    congr 2
    apply ByteArray.ext
    simp only [bstr]
    simp
theorem bytes_new (w : World) (l : List Byte) (e : TypeId) : BytesS l (.slice (some ⟨w.heap.size, 0, Option.none⟩) l.length l.length) (w.alloc (.cells (l.map v8).toArray e)) :=
  ⟨_, _, rfl, Nat.le_refl _, RdB.of_row (row_new w e _)⟩

/-- What is told of a slice of numbers that came in: nil, or a row of 'cap' cells, of which the first 'len' are its elements. -/
def IsRow (k : IntKind) (w : World) (a : Option Addr) (len cap : Nat) (zs : List Int) : Prop :=
  (a = none ∧ len = 0 ∧ cap = 0 ∧ zs = []) ∨
  ∃ x, a = some x ∧ len ≤ cap ∧ cap ≤ maxLen ∧ zs.length = cap ∧ (∀ i, i < zs.length → w.cell? (x.add i) = some (.int k (zs.getD i 0))) ∧ ∀ n ∈ zs, (Lit.int k n).wf = true
theorem int_v8 (n : Int) (h : (Lit.int .u8 n).wf = true) : Value.int .u8 n = v8 (BitVec.ofInt 8 n) := by
  have hx : 0 ≤ n ∧ n ≤ 255 := by simpa [Lit.wf, IntKind.min, IntKind.max, IntKind.signed, IntKind.bits] using h
  rw [← int8, IntWalk.u8_in _ hx]
theorem int_v16 (n : Int) (h : (Lit.int .u16 n).wf = true) : Value.int .u16 n = v16 (BitVec.ofInt 16 n) := by
  have hx : 0 ≤ n ∧ n ≤ 65535 := by simpa [Lit.wf, IntKind.min, IntKind.max, IntKind.signed, IntKind.bits] using h
  rw [← int16, IntWalk.u16_in _ hx]
theorem int_v32 (n : Int) (h : (Lit.int .u32 n).wf = true) : Value.int .u32 n = v32 (BitVec.ofInt 32 n) := by
  have hx : 0 ≤ n ∧ n ≤ 4294967295 := by simpa [Lit.wf, IntKind.min, IntKind.max, IntKind.signed, IntKind.bits] using h
  rw [← int32, IntWalk.u32_in _ hx]
theorem int_v64 (n : Int) (h : (Lit.int .u64 n).wf = true) : Value.int .u64 n = v64 (BitVec.ofInt 64 n) := by
  have hx : 0 ≤ n ∧ n ≤ 18446744073709551615 := by simpa [Lit.wf, IntKind.min, IntKind.max, IntKind.signed, IntKind.bits] using h
  rw [← int64, IntWalk.u64_in _ hx]
theorem int_i64 (n : Int) (h : (Lit.int .i64 n).wf = true) : -9223372036854775808 ≤ n ∧ n ≤ 9223372036854775807 := by
  simpa [Lit.wf, IntKind.min, IntKind.max, IntKind.signed, IntKind.bits] using h
/-- Bytes that came in. -/
theorem rdB_of {w : World} {a : Option Addr} {len cap : Nat} {zs : List Int} (h : IsRow .u8 w a len cap zs) : ∃ l : List Byte, len = l.length ∧ RdB w a l ∧ l.length ≤ cap ∧ l.length ≤ maxLen := by
  rcases h with ⟨rfl, rfl, rfl, rfl⟩ | ⟨x, rfl, h1, h2, h3, h4, h5⟩
  · exact ⟨[], rfl, RdB.nil _ _, Nat.le_refl _, by simp⟩
  · refine ⟨(zs.take len).map (BitVec.ofInt 8), by simp; omega, ⟨fun _ => rfl, fun i hi => ?_⟩, by simp; omega, by simp; omega⟩
    simp at hi
    have hlt : i < zs.length := by omega
    have := h4 i hlt
    simp only [Option.getD_some]
    rw [this]
    have hm : zs[i] ∈ zs := List.getElem_mem hlt
    rw [List.getD_eq_getElem?_getD, List.getD_eq_getElem?_getD, List.getElem?_eq_getElem hlt, List.getElem?_map, List.getElem?_take, if_pos (by omega), List.getElem?_eq_getElem hlt]
    exact congrArg some (int_v8 _ (h5 _ hm))

/-! ### Arrays of bytes held against each other -/
theorem run_part_v8 {P : Program} (w : World) (e : TypeId) (k : IntKind) (he : P.underlying e = some (.int k)) (l : List Byte) (i : Nat) (hi : i < l.length) : (part e (l.map v8).toArray i).run P w = .ok (v8 (l.getD i 0)) w := by
  simp [part, isAgg, run_underlying he, hi]
theorem eq_loop (P : Program) (w : World) (f : Nat → Option Bool × Unit → Sem (ForInStep (Option Bool × Unit))) (l m : List Byte) (n : Nat) (hl : l.length = n) (hm : m.length = n)
    (hf : ∀ i s, i < n → (f i s).run P w = .ok (if l.getD i 0 == m.getD i 0 then .yield (none, ()) else .done (some false, ())) w) :
    ∀ k a, a + k = n → (forIn (List.range' a k) ((none : Option Bool), ()) f).run P w = .ok (if l.drop a == m.drop a then (none, ()) else (some false, ())) w := by
  intro k
  induction k with
  | zero =>
    intro a ha
    have e1 : l.drop a = [] := List.drop_eq_nil_of_le (by omega)
    have e2 : m.drop a = [] := List.drop_eq_nil_of_le (by omega)
    rw [e1, e2]
    simp
  | succ k ih =>
    intro a ha
    have hla : a < l.length := by omega
    have hma : a < m.length := by omega
    simp only [List.range'_succ, List.forIn_cons, Sem.run_bind, hf a _ (by omega)]
    have e1 : l.drop a = l.getD a 0 :: l.drop (a + 1) := by rw [List.drop_eq_getElem_cons hla]; simp [hla]
    have e2 : m.drop a = m.getD a 0 :: m.drop (a + 1) := by rw [List.drop_eq_getElem_cons hma]; simp [hma]
    rw [e1, e2]
    by_cases h : l.getD a 0 = m.getD a 0
    · rw [h]
      have := ih (a + 1) (by omega)
      simp only [beq_self_eq_true, if_true, Result.andThen_ok, this]
      simp
    · have hb : (l.getD a 0 == m.getD a 0) = false := by simpa using h
      rw [hb]
      have hc : (l.getD a 0 :: l.drop (a + 1) == m.getD a 0 :: m.drop (a + 1)) = false := by
        rw [beq_eq_false_iff_ne]; intro e; exact h (List.cons.inj e).1
      rw [hc]
      simp only [Result.andThen_ok, Bool.false_eq_true, if_false, Sem.run_pure]
theorem run_equalIn_bytes {P : Program} (w : World) (d : Nat) (T e : TypeId) (n : Nat) (l m : List Byte) (hT : P.underlying T = some (.array n e)) (he : P.underlying e = some (.int .u8)) (hs : (P.info? e).map (·.size) = some 1) (hl : l.length = n) (hm : m.length = n) :
    (Op.equalIn (d + 2) T (A8 l) (A8 m)).run P w = .ok (l == m) w := by
  obtain ⟨i, hi1, hi2⟩ := Option.map_eq_some_iff.1 hs
  rw [Op.equalIn]
  simp only [Sem.run_bind, run_underlying hT, Result.andThen_ok, sizeOf, typeInfo, run_program, hi1, Sem.run_pure, hi2, Std.Legacy.Range.forIn_eq_forIn_range', Nat.mul_one, Std.Legacy.Range.size, Nat.sub_zero, Nat.add_sub_cancel, Nat.div_one]
  rw [eq_loop P w _ l m n hl hm ?hf n 0 (by omega)]
  case hf =>
    intro j s hj
    simp only [Sem.run_bind, run_part_v8 w e .u8 he l j (by omega), run_part_v8 w e .u8 he m j (by omega), Result.andThen_ok]
    rw [run_equalIn8 e _ _ P w d .u8 he]
    cases l.getD j 0 == m.getD j 0 <;> simp
  · simp only [List.drop_zero]
    cases l == m <;> simp

/-- A load of a whole block, as a step of a region. -/
theorem gives_load_row {P : Program} {o : Oper} {a : Act} {w : World} {T t : TypeId} {x : Operand} {g : Nat} {cs : List Value} {d : TypeDesc} (ho : o.op = .load T x) (hx : a.eval x = .pointer (some ⟨g, 0, none⟩)) (h : Row w g t cs)
    (hu : P.underlying T = some d) (hd : (match d with | .struct _ | .array _ _ => true | _ => false) = true) (hi : (P.info? T).map (·.size) = some cs.length) : gives P w (Is (.agg cs.toArray)) ((execOp a.eval o).run P w) := by
  unfold execOp
  simp only [ho, hx, Sem.run_bind, run_loadAt_row h hu hd hi, Result.andThen_ok, Sem.run_pure]
  exact gives_same

/-- A pointer to a block made since. -/
def NewS (B : Nat) (t : TypeId) (cs : List Value) : Slot := fun v w => ∃ g, v = .pointer (some ⟨g, 0, none⟩) ∧ B ≤ g ∧ Row w g t cs
theorem NewS.stable (B : Nat) (t : TypeId) (cs : List Value) : Stable (NewS B t cs) := fun _ _ _ ⟨g, h1, h2, h3⟩ hx => ⟨g, h1, h2, row_ext h3 hx⟩
theorem gives_new {P : Program} {B : Nat} {t : TypeId} {cs : List Value} {w : World} (h : B ≤ w.heap.size) : gives P w (NewS B t cs) (.ok (.value (.pointer (some ⟨w.heap.size, 0, none⟩))) (w.alloc (.cells cs.toArray t))) :=
  ⟨(Ext.refl w).alloc _, _, rfl, h, row_new w t cs⟩
theorem apart_of {ds : List Nat} {a : Act} (h : Apart ds a) {d e g k : Nat} (hd : d ∈ ds) (he : e ∈ ds) (hne : d ≠ e) (h1 : a.tmps.getD d undef = .pointer (some ⟨g, 0, none⟩)) (h2 : a.tmps.getD e undef = .pointer (some ⟨k, 0, none⟩)) : g ≠ k := by
  rintro rfl; exact h d hd e he hne (h1.trans h2.symm)

theorem Ext.trans' {w w1 w2 : World} (h : Ext w w1) (k : Below w.heap.size w1 w2) : Ext w w2 := Below.trans h k

theorem heap_alloc3_new (w : World) (A B C : Obj) : (((w.alloc A).alloc B).alloc C).heap[w.heap.size + 1 + 1]? = some C := by
  have := heap_alloc_new ((w.alloc A).alloc B) C
  rwa [show ((w.alloc A).alloc B).heap.size = w.heap.size + 1 + 1 from by simp] at this

end Go.Proofs.YtmclklhnbmkheaaDoor
namespace Go.Proofs.YtmclklhnbmkheaaDoor
open Go Go.RowKit
set_option maxRecDepth 100000
set_option linter.unusedVariables false
set_option linter.unusedSimpArgs false

/-- The number at a place. (Behind a name: not to be laid open by the walk.) -/
def nth {n : Nat} (l : List (BitVec n)) (k : Nat) : BitVec n := l.getD k 0
/-- So many numbers, each by its place. -/
def tab {n : Nat} (m : Nat) (f : Nat → BitVec n) : List (BitVec n) := (List.range m).map f
/-- The first k by f, the others by g. -/
def part {n : Nat} (m k : Nat) (f g : Nat → BitVec n) : List (BitVec n) := tab m fun i => if i < k then f i else g i
/-- A number put at a place. -/
def setN {n : Nat} (l : List (BitVec n)) (k : Nat) (x : BitVec n) : List (BitVec n) := l.set k x

/-- So many noughts. -/
def zer {n : Nat} (m : Nat) : List (BitVec n) := tab m fun _ => 0
section
variable {n m k i : Nat} {f g : Nat → BitVec n} {l l' : List (BitVec n)} {x : BitVec n}
theorem tab_length : (tab m f).length = m := by simp [tab]
theorem part_length : (part m k f g).length = m := by simp [part, tab]
theorem setN_length : (setN l k x).length = l.length := by simp [setN]
theorem nth_tab (h : i < m) : nth (tab m f) i = f i := by simp [nth, tab, h]
theorem nth_tab_ge (h : m ≤ i) : nth (tab m f) i = 0 := by simp [nth, tab, h]
theorem nth_ge (h : l.length ≤ i) : nth l i = 0 := by simp [nth, h]
theorem nth_part_lt (h : i < m) (h2 : i < k) : nth (part m k f g) i = f i := by rw [part, nth_tab h, if_pos h2]
theorem nth_part_ge (h : i < m) (h2 : k ≤ i) : nth (part m k f g) i = g i := by rw [part, nth_tab h, if_neg (by omega)]
theorem nth_set (h : i < l.length) : nth (setN l k x) i = if k = i then x else nth l i := by
  simp only [nth, setN, List.getD_eq_getElem?_getD, List.getElem?_set]
  by_cases e : k = i
  · subst e; simp [h]
  · simp [e]
theorem nth_ext (h : l.length = l'.length) (hh : ∀ i, i < l.length → nth l i = nth l' i) : l = l' := by
  apply List.ext_getElem h
  intro i h1 h2
  have := hh i h1
  simpa [nth, h1, h2] using this
theorem nth_get (h : i < l.length) : nth l i = l[i] := by simp [nth, h]
theorem tab_eq (h : l.length = m) : l = tab m (nth l) := nth_ext (by rw [tab_length, h]) fun i hi => by rw [nth_tab (by omega)]
theorem tab_ext (h : ∀ i, i < m → f i = g i) : tab m f = tab m g := nth_ext (by rw [tab_length, tab_length]) fun i hi => by rw [tab_length] at hi; rw [nth_tab hi, nth_tab hi, h i hi]
theorem part_zero : part m 0 f g = tab m g := tab_ext fun i _ => if_neg (by omega)
theorem part_all : part m m f g = tab m f := tab_ext fun i h => if_pos h
theorem part_set (h : k < m) : setN (part m k f g) k (f k) = part m (k + 1) f g :=
  nth_ext (by rw [setN_length, part_length, part_length]) fun i hi => by
    rw [setN_length, part_length] at hi
    rw [nth_set (by rw [part_length]; exact hi), part, nth_tab hi, part, nth_tab hi]
    by_cases e : k = i
    · subst e; rw [if_pos rfl, if_pos (by omega)]
    · rw [if_neg e]; congr 1; rw [eq_iff_iff]; omega
theorem part_set' (h : k < m) (hx : x = f k) : setN (part m k f g) k x = part m (k + 1) f g := by rw [hx, part_set h]
theorem tab_const_replicate (x : BitVec n) : tab m (fun _ => x) = List.replicate m x := by simp [tab, List.map_const']
theorem zer_length : (zer (n := n) m).length = m := tab_length
theorem zer_start : zer (n := n) m = part m 0 f (fun _ => 0) := by rw [part_zero]; rfl
/-- Old ones turned into new ones, place by place. -/
theorem part_start (h : l.length = m) : l = part m 0 f (nth l) := by rw [part_zero]; exact tab_eq h
end

attribute [simp] tab_length part_length setN_length zer_length zeros_length
/-- A kind of numbers, each of which is one cell. -/
class CellV {b : Nat} (f : BitVec b → Value) : Prop where
  cells : ∀ x, (f x).cells = #[f x]
  one : ∀ x, (f x).oneCell' = true
instance : CellV v8 := ⟨fun _ => rfl, fun _ => rfl⟩
instance : CellV v16 := ⟨fun _ => rfl, fun _ => rfl⟩
instance : CellV v32 := ⟨fun _ => rfl, fun _ => rfl⟩
instance : CellV v64 := ⟨fun _ => rfl, fun _ => rfl⟩
theorem mapv_at {b k : Nat} (f : BitVec b → Value) (l : List (BitVec b)) (h : k < l.length) : (l.map f)[k]? = some (f (nth l k)) := by simp [nth, h]
theorem mapv_set {b k : Nat} (f : BitVec b → Value) (l : List (BitVec b)) (x : BitVec b) : (l.map f).set k (f x) = (setN l k x).map f := by simp [setN, List.map_set]
theorem one_map {b : Nat} {f : BitVec b → Value} [CellV f] (l : List (BitVec b)) : ∀ v ∈ l.map f, v.oneCell' = true := by
  intro v hv; obtain ⟨x, _, rfl⟩ := List.mem_map.1 hv; exact CellV.one x
section
variable {k i : Nat}
theorem map8_at (l : List (BitVec 8)) (h : k < l.length) : (l.map v8)[k]? = some (v8 (nth l k)) := by simp [nth, h]
theorem map16_at (l : List (BitVec 16)) (h : k < l.length) : (l.map v16)[k]? = some (v16 (nth l k)) := by simp [nth, h]
theorem map32_at (l : List (BitVec 32)) (h : k < l.length) : (l.map v32)[k]? = some (v32 (nth l k)) := by simp [nth, h]
theorem map64_at (l : List (BitVec 64)) (h : k < l.length) : (l.map v64)[k]? = some (v64 (nth l k)) := by simp [nth, h]
theorem map8_set (l : List (BitVec 8)) (x : BitVec 8) : (l.map v8).set k (v8 x) = (setN l k x).map v8 := by simp [setN, List.map_set]
theorem map16_set (l : List (BitVec 16)) (x : BitVec 16) : (l.map v16).set k (v16 x) = (setN l k x).map v16 := by simp [setN, List.map_set]
theorem map32_set (l : List (BitVec 32)) (x : BitVec 32) : (l.map v32).set k (v32 x) = (setN l k x).map v32 := by simp [setN, List.map_set]
theorem map64_set (l : List (BitVec 64)) (x : BitVec 64) : (l.map v64).set k (v64 x) = (setN l k x).map v64 := by simp [setN, List.map_set]
end
theorem one_v16 (l : List (BitVec 16)) : ∀ v ∈ l.map v16, v.oneCell' = true := by
  intro v hv; obtain ⟨x, _, rfl⟩ := List.mem_map.1 hv; rfl
theorem one_v32 (l : List (BitVec 32)) : ∀ v ∈ l.map v32, v.oneCell' = true := by
  intro v hv; obtain ⟨x, _, rfl⟩ := List.mem_map.1 hv; rfl
theorem one_v64l (l : List (BitVec 64)) : ∀ v ∈ l.map v64, v.oneCell' = true := by
  intro v hv; obtain ⟨x, _, rfl⟩ := List.mem_map.1 hv; rfl

end Go.Proofs.YtmclklhnbmkheaaDoor
