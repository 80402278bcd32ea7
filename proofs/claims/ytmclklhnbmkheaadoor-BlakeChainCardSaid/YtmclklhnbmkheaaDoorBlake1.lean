/-
  Layer 6, plain: BLAKE2b on lists of numbers. No program in sight, no conditions.
  Layer 6: four numbers stirred. No conditions beyond those written in each theorem.
-/
import Derived.Test.YtmclklhnbmkheaaDoorMem
import Derived.Test.YtmclklhnbmkheaaDoorOpen
import Derived.Test.YtmclklhnbmkheaaDoorOct4
import Derived.Test.YtmclklhnbmkheaaDoorTypes
namespace Go.Proofs.YtmclklhnbmkheaaDoor
open Go
set_option linter.unusedVariables false
set_option linter.unusedSimpArgs false

/-- A number, turned to the right. -/
def rotr (x : BitVec 64) (k : Nat) : BitVec 64 := (x <<< (64 - k)) ||| (x >>> k)
def half1 (v : List (BitVec 64)) (a b : Nat) (x : BitVec 64) : List (BitVec 64) := setN v a (nth v a + (nth v b + x))
def half2 (v : List (BitVec 64)) (a d m : Nat) : List (BitVec 64) := setN v d (rotr (nth v d ^^^ nth v a) m)
def half3 (v : List (BitVec 64)) (c d : Nat) : List (BitVec 64) := setN v c (nth v c + nth v d)
def halfL (v : List (BitVec 64)) (a b c d : Nat) (x : BitVec 64) (m n : Nat) : List (BitVec 64) := half2 (half3 (half2 (half1 v a b x) a d m) c d) c b n
theorem halfL_length (v : List (BitVec 64)) (a b c d : Nat) (x : BitVec 64) (m n : Nat) : (halfL v a b c d x m n).length = v.length := by simp [halfL, half1, half2, half3]
/-- Four numbers stirred, of a column or on a slant. -/
def stirL (v : List (BitVec 64)) (i by_ : Nat) (x y : BitVec 64) : List (BitVec 64) :=
  halfL (halfL v i (4 + (i + by_) % 4) (8 + (i + 2 * by_) % 4) (12 + (i + 3 * by_) % 4) x 32 24) i (4 + (i + by_) % 4) (8 + (i + 2 * by_) % 4) (12 + (i + 3 * by_) % 4) y 16 63
theorem stirL_length (v : List (BitVec 64)) (i by_ : Nat) (x y : BitVec 64) : (stirL v i by_ x y).length = v.length := by rw [stirL, halfL_length, halfL_length]
def firstL : List (BitVec 64) := [0x6a09e667f3bcc908#64, 0xbb67ae8584caa73b#64, 0x3c6ef372fe94f82b#64, 0xa54ff53a5f1d36f1#64, 0x510e527fade682d1#64, 0x9b05688c2b3e6c1f#64, 0x1f83d9abfb41bd6b#64, 0x5be0cd19137e2179#64]
theorem firstL_length : firstL.length = 8 := rfl
def rowsL : List (List Byte) := [
  [0#8, 1#8, 2#8, 3#8, 4#8, 5#8, 6#8, 7#8, 8#8, 9#8, 10#8, 11#8, 12#8, 13#8, 14#8, 15#8],
  [14#8, 10#8, 4#8, 8#8, 9#8, 15#8, 13#8, 6#8, 1#8, 12#8, 0#8, 2#8, 11#8, 7#8, 5#8, 3#8],
  [11#8, 8#8, 12#8, 0#8, 5#8, 2#8, 15#8, 13#8, 10#8, 14#8, 3#8, 6#8, 7#8, 1#8, 9#8, 4#8],
  [7#8, 9#8, 3#8, 1#8, 13#8, 12#8, 11#8, 14#8, 2#8, 6#8, 5#8, 10#8, 4#8, 0#8, 15#8, 8#8],
  [9#8, 0#8, 5#8, 7#8, 2#8, 4#8, 10#8, 15#8, 14#8, 1#8, 11#8, 12#8, 6#8, 8#8, 3#8, 13#8],
  [2#8, 12#8, 6#8, 10#8, 0#8, 11#8, 8#8, 3#8, 4#8, 13#8, 7#8, 5#8, 15#8, 14#8, 1#8, 9#8],
  [12#8, 5#8, 1#8, 15#8, 14#8, 13#8, 4#8, 10#8, 0#8, 7#8, 6#8, 3#8, 9#8, 2#8, 8#8, 11#8],
  [13#8, 11#8, 7#8, 14#8, 12#8, 1#8, 3#8, 9#8, 5#8, 0#8, 15#8, 4#8, 8#8, 6#8, 2#8, 10#8],
  [6#8, 15#8, 14#8, 9#8, 11#8, 3#8, 0#8, 8#8, 12#8, 2#8, 13#8, 7#8, 1#8, 4#8, 10#8, 5#8],
  [10#8, 2#8, 8#8, 4#8, 7#8, 6#8, 1#8, 5#8, 15#8, 11#8, 9#8, 14#8, 3#8, 12#8, 13#8, 0#8]]
theorem rowsL_length : rowsL.length = 10 := rfl
theorem rowsL_each : ∀ k ∈ rowsL, k.length = 16 := by decide
theorem rowsL_lt : ∀ k ∈ rowsL, ∀ x ∈ k, x.toNat < 16 := by decide
def rowL (r : Nat) : List Byte := rowsL.getD (r % 10) []
theorem rowL_length (r : Nat) : (rowL r).length = 16 := by
  have h : r % 10 < rowsL.length := Nat.mod_lt _ (by decide)
  rw [rowL, List.getD_eq_getElem?_getD, List.getElem?_eq_getElem h]; exact rowsL_each _ (List.getElem_mem h)
theorem rowL_lt (r i : Nat) : (nth (rowL r) i).toNat < 16 := by
  have h : r % 10 < rowsL.length := Nat.mod_lt _ (by decide)
  by_cases hi : i < (rowL r).length
  · rw [nth_get hi]
    refine rowsL_lt (rowL r) ?_ _ (List.getElem_mem hi)
    rw [rowL, List.getD_eq_getElem?_getD, List.getElem?_eq_getElem h]; exact List.getElem_mem h
  · rw [nth_ge (by omega)]; decide
/-- The first i steps of a round. -/
def stepF (m : List (BitVec 64)) (row : List Byte) (v : List (BitVec 64)) : Nat → List (BitVec 64)
  | 0 => v
  | i + 1 => stirL (stepF m row v i) (i % 4) (i / 4) (nth m (nth row (2 * i)).toNat) (nth m (nth row (2 * i + 1)).toNat)
theorem stepF_length (m : List (BitVec 64)) (row : List Byte) (v : List (BitVec 64)) (i : Nat) : (stepF m row v i).length = v.length := by
  induction i with
  | zero => rfl
  | succ i ih => rw [stepF, stirL_length, ih]
/-- The first r rounds. -/
def roundF (m v : List (BitVec 64)) : Nat → List (BitVec 64)
  | 0 => v
  | r + 1 => stepF m (rowL r) (roundF m v r) 8
theorem roundF_length (m v : List (BitVec 64)) (r : Nat) : (roundF m v r).length = v.length := by
  induction r with
  | zero => rfl
  | succ r ih => rw [roundF, stepF_length, ih]
/-- The sixteen numbers at the start: the first k of eight are put, each with its own. -/
def startF (h : List (BitVec 64)) : Nat → List (BitVec 64)
  | 0 => zer 16
  | k + 1 => setN (setN (startF h k) k (nth h k)) (k + 8) (nth firstL k)
theorem startF_length (h : List (BitVec 64)) (k : Nat) : (startF h k).length = 16 := by
  induction k with
  | zero => exact zer_length
  | succ k ih => rw [startF, setN_length, setN_length, ih]
def xorN (v : List (BitVec 64)) (i : Nat) (x : BitVec 64) : List (BitVec 64) := setN v i (nth v i ^^^ x)
def notN (v : List (BitVec 64)) (i : Nat) : List (BitVec 64) := setN v i (~~~ (nth v i))
def initL (h : List (BitVec 64)) (lo hi : BitVec 64) (last : Bool) : List (BitVec 64) :=
  let v := xorN (xorN (startF h 8) 12 lo) 13 hi
  if last then notN v 14 else v
theorem initL_length (h : List (BitVec 64)) (lo hi : BitVec 64) (last : Bool) : (initL h lo hi last).length = 16 := by
  unfold initL; cases last <;> simp [xorN, notN, startF_length]
/-- Eight numbers, compressed. -/
def compL (h m : List (BitVec 64)) (lo hi : BitVec 64) (last : Bool) : List (BitVec 64) :=
  tab 8 fun i => nth h i ^^^ (nth (roundF m (initL h lo hi last) 12) i ^^^ nth (roundF m (initL h lo hi last) 12) (i + 8))
theorem compL_length (h m : List (BitVec 64)) (lo hi : BitVec 64) (last : Bool) : (compL h m lo hi last).length = 8 := tab_length

end Go.Proofs.YtmclklhnbmkheaaDoor
namespace Go.Proofs.YtmclklhnbmkheaaDoor
open Go Go.RowKit
set_option maxRecDepth 100000
set_option linter.unusedVariables false
set_option linter.unusedSimpArgs false

theorem neg_mask (n : Nat) (h0 : 0 < n) (h1 : n ≤ 63) : bits BinOp.and IntKind.u64 (IntKind.u64.wrap (-(n : Int))) 63 = ((64 - n : Nat) : Int) ∧ IntKind.u64.wrap (64 - ((64 - n : Nat) : Int)) = (n : Int) := by
  have : ∀ k : Fin 64, 0 < k.val → bits BinOp.and IntKind.u64 (IntKind.u64.wrap (-(k.val : Int))) 63 = ((64 - k.val : Nat) : Int) ∧ IntKind.u64.wrap (64 - ((64 - k.val : Nat) : Int)) = (k.val : Int) := by decide +kernel
  exact this ⟨n, by omega⟩ h0
theorem rot64_any (x : BitVec 64) (n : Nat) (h0 : 0 < n) (h1 : n ≤ 63) (w : World) : Calls Tryd.prog 26 #[v64 x, .int .i64 (-(n : Int))] w fun e w' => e = .returned (v64 (rotr x n)) ∧ w = w' := by
  obtain ⟨hb, hw⟩ := neg_mask n h0 h1
  obtain ⟨q, hq⟩ : ∃ q : Nat, 64 - n = q := ⟨_, rfl⟩
  rw [hq] at hb hw
  have E := Lib.hid (show rotr x n = (x <<< q) ||| (x >>> n) by rw [rotr, hq])
  clear hq
  go_enter Tryd.func26, Tryd.ntmps26
  go_wp2
  go_ret
  exact ⟨by rw [E.out]; rfl, rfl⟩
theorem rot64_G (x : BitVec 64) (n : Nat) (h0 : 0 < n) (h1 : n ≤ 63) (w : World) : Gives Tryd.prog 26 #[v64 x, .int .i64 (-(n : Int))] w (v64 (rotr x n)) := .of_same (rot64_any x n h0 h1 w)

set_option maxHeartbeats 2000000 in
theorem half_any (g : Nat) (l : List (BitVec 64)) (a b c d : Nat) (x : BitVec 64) (m n : Nat) (hl : l.length = 16) (ha : a < 16) (hb : b < 16) (hc : c < 16) (hd : d < 16) (hm0 : 0 < m) (hm1 : m ≤ 63) (hn0 : 0 < n) (hn1 : n ≤ 63) (w0 w : World) (L L' : List Blk) (hm : Own w0 w L) (hs : Swap L ⟨g, 53, l.map v64⟩ ⟨g, 53, (halfL l a b c d x m n).map v64⟩ L') :
    Calls Tryd.prog 23 #[.pointer (some ⟨g, 0, none⟩), .int .i64 a, .int .i64 b, .int .i64 c, .int .i64 d, v64 x, .int .i64 m, .int .i64 n] w fun e w' => e = .returned (.tuple #[]) ∧ Own w0 w' L' := by
  obtain ⟨R, p1, p2⟩ := hs.front
  replace hm := hm.perm p1
  have P2 := Lib.hid p2.symm
  have HE := Lib.hid (show halfL l a b c d x m n = half2 (half3 (half2 (half1 l a b x) a d m) c d) c b n from rfl)
  have hl1 : l.length = 16 := hl
  have l1 : (half1 l a b x).length = 16 := by simp [half1, hl]
  have l2 : (half2 (half1 l a b x) a d m).length = 16 := by simp [half1, half2, hl]
  have l3 : (half3 (half2 (half1 l a b x) a d m) c d).length = 16 := by simp [half1, half2, half3, hl]
  have ai : (a : Int) < 16 := by omega
  have bi : (b : Int) < 16 := by omega
  have ci : (c : Int) < 16 := by omega
  have di : (d : Int) < 16 := by omega
  have D1 := Lib.hid fun y wx => rot64_G y m hm0 hm1 wx
  have D2 := Lib.hid fun y wx => rot64_G y n hn0 hn1 wx
  have hmi : (m : Int) ≤ 63 := by omega
  have hni : (n : Int) ≤ 63 := by omega
  clear hs p1 p2 hl
  go_enter Tryd.func23, Tryd.ntmps23
  go_wp2_with fail
  refine region_at 15 (fun w' => Ext _ w') 80 (by kernel_rfl) (by kernel_rfl) rfl (fun _ _ h k => h.trans k) (drew_ext _) ?_
  simp only [List.take_succ_cons, List.take_zero, List.drop_succ_cons, List.drop_zero, List.map_cons, List.map_nil]
  repeat (first
      | (apply walk_is rfl rfl rfl
         · (intro wx hwx; first | ((with_reducible show gives _ _ _ (Sem.run _ (execOp _ (Oper.mk _ (Op.load _ _) _ _ _ _)) _)); first | ((with_reducible apply gq_ldv (hm.ext hwx)); infer_instance; (exact rfl); (focus ((repeat (first | exact .hd | assumption | apply Has.tl)); done)); (focus (first | omega | (simp; omega) | (refine Nat.lt_of_lt_of_le (BitVec.isLt _) ?_; first | omega | (simp; done) | (simp; omega) | fail) | fail))) | ((with_reducible apply gq_ldW (hm.ext hwx)); infer_instance; (exact rfl); (focus ((repeat (first | exact .hd | assumption | apply Has.tl)); done)); (focus (first | rfl | omega | (simp; done) | (simp; omega) | fail))) | ((with_reducible apply gq_ld1 (hm.ext hwx)); infer_instance; (exact rfl); (focus ((repeat (first | exact .hd | assumption | apply Has.tl)); done)); (exact rfl)) | fail) | (go_simp; (try go_bits); first | exact gives_same | exact gives_skip))
         · (simp only [Act.put, List.setIfInBounds_toArray, List.set_cons_succ, List.set_cons_zero]; rfl))
      | (apply walk_not rfl rfl rfl
         · (simp only [Act.put, List.setIfInBounds_toArray, List.set_cons_succ, List.set_cons_zero]; rfl)))
  intro wz hwz
  simp only [List.zip_cons_cons, List.zip_nil_right]
  repeat (first | rw [fin_is] | (rw [fin_cons]; intro _ _))
  rw [fin_nil]
  try (replace hm := hm.ext hwz)
  simp only [Act.put, List.setIfInBounds_toArray, List.set_cons_succ, List.set_cons_zero]
  go_wp2_with (first | ((((with_reducible show wpList _ _ _ (Oper.mk _ (Op.store _ _ _) _ _ _ _ :: _) _ _); first | ((with_reducible apply wq_stv hm); (exact rfl); infer_instance; (exact rfl); (focus ((repeat (first | exact .hd | assumption | apply Swap.tl)); done)); infer_instance; (exact rfl); (focus (first | omega | (simp; omega) | (refine Nat.lt_of_lt_of_le (BitVec.isLt _) ?_; first | omega | (simp; done) | (simp; omega) | fail) | fail))) | fail)); clear hm; intro w hm) | fail)
  replace hm : Own w0 w (⟨g, 53, (half1 l a b x).map v64⟩ :: R) := hm
  generalize half1 l a b x = v1 at *
  refine region_at 18 (fun w' => Ext _ w') 80 (by kernel_rfl) (by kernel_rfl) rfl (fun _ _ h k => h.trans k) (drew_ext _) ?_
  simp only [List.take_succ_cons, List.take_zero, List.drop_succ_cons, List.drop_zero, List.map_cons, List.map_nil]
  repeat (first
      | (apply walk_is rfl rfl rfl
         · (intro wx hwx; first | ((with_reducible show gives _ _ _ (Sem.run _ (execOp _ (Oper.mk _ (Op.load _ _) _ _ _ _)) _)); first | ((with_reducible apply gq_ldv (hm.ext hwx)); infer_instance; (exact rfl); (focus ((repeat (first | exact .hd | assumption | apply Has.tl)); done)); (focus (first | omega | (simp; omega) | (refine Nat.lt_of_lt_of_le (BitVec.isLt _) ?_; first | omega | (simp; done) | (simp; omega) | fail) | fail))) | ((with_reducible apply gq_ldW (hm.ext hwx)); infer_instance; (exact rfl); (focus ((repeat (first | exact .hd | assumption | apply Has.tl)); done)); (focus (first | rfl | omega | (simp; done) | (simp; omega) | fail))) | ((with_reducible apply gq_ld1 (hm.ext hwx)); infer_instance; (exact rfl); (focus ((repeat (first | exact .hd | assumption | apply Has.tl)); done)); (exact rfl)) | fail) | (go_simp; (try go_bits); first | exact gives_same | exact gives_skip | with_reducible exact gives_call (D1.out _ wx)))
         · (simp only [Act.put, List.setIfInBounds_toArray, List.set_cons_succ, List.set_cons_zero]; rfl))
      | (apply walk_not rfl rfl rfl
         · (simp only [Act.put, List.setIfInBounds_toArray, List.set_cons_succ, List.set_cons_zero]; rfl)))
  intro wz hwz
  simp only [List.zip_cons_cons, List.zip_nil_right]
  repeat (first | rw [fin_is] | (rw [fin_cons]; intro _ _))
  rw [fin_nil]
  try (replace hm := hm.ext hwz)
  simp only [Act.put, List.setIfInBounds_toArray, List.set_cons_succ, List.set_cons_zero]
  go_wp2_with (first | ((((with_reducible show wpList _ _ _ (Oper.mk _ (Op.store _ _ _) _ _ _ _ :: _) _ _); first | ((with_reducible apply wq_stv hm); (exact rfl); infer_instance; (exact rfl); (focus ((repeat (first | exact .hd | assumption | apply Swap.tl)); done)); infer_instance; (exact rfl); (focus (first | omega | (simp; omega) | (refine Nat.lt_of_lt_of_le (BitVec.isLt _) ?_; first | omega | (simp; done) | (simp; omega) | fail) | fail))) | fail)); clear hm; intro w hm) | fail)
  replace hm : Own w0 w (⟨g, 53, (half2 v1 a d m).map v64⟩ :: R) := hm
  generalize half2 v1 a d m = v2 at *
  refine region_at 13 (fun w' => Ext _ w') 80 (by kernel_rfl) (by kernel_rfl) rfl (fun _ _ h k => h.trans k) (drew_ext _) ?_
  simp only [List.take_succ_cons, List.take_zero, List.drop_succ_cons, List.drop_zero, List.map_cons, List.map_nil]
  repeat (first
      | (apply walk_is rfl rfl rfl
         · (intro wx hwx; first | ((with_reducible show gives _ _ _ (Sem.run _ (execOp _ (Oper.mk _ (Op.load _ _) _ _ _ _)) _)); first | ((with_reducible apply gq_ldv (hm.ext hwx)); infer_instance; (exact rfl); (focus ((repeat (first | exact .hd | assumption | apply Has.tl)); done)); (focus (first | omega | (simp; omega) | (refine Nat.lt_of_lt_of_le (BitVec.isLt _) ?_; first | omega | (simp; done) | (simp; omega) | fail) | fail))) | ((with_reducible apply gq_ldW (hm.ext hwx)); infer_instance; (exact rfl); (focus ((repeat (first | exact .hd | assumption | apply Has.tl)); done)); (focus (first | rfl | omega | (simp; done) | (simp; omega) | fail))) | ((with_reducible apply gq_ld1 (hm.ext hwx)); infer_instance; (exact rfl); (focus ((repeat (first | exact .hd | assumption | apply Has.tl)); done)); (exact rfl)) | fail) | (go_simp; (try go_bits); first | exact gives_same | exact gives_skip))
         · (simp only [Act.put, List.setIfInBounds_toArray, List.set_cons_succ, List.set_cons_zero]; rfl))
      | (apply walk_not rfl rfl rfl
         · (simp only [Act.put, List.setIfInBounds_toArray, List.set_cons_succ, List.set_cons_zero]; rfl)))
  intro wz hwz
  simp only [List.zip_cons_cons, List.zip_nil_right]
  repeat (first | rw [fin_is] | (rw [fin_cons]; intro _ _))
  rw [fin_nil]
  try (replace hm := hm.ext hwz)
  simp only [Act.put, List.setIfInBounds_toArray, List.set_cons_succ, List.set_cons_zero]
  go_wp2_with (first | ((((with_reducible show wpList _ _ _ (Oper.mk _ (Op.store _ _ _) _ _ _ _ :: _) _ _); first | ((with_reducible apply wq_stv hm); (exact rfl); infer_instance; (exact rfl); (focus ((repeat (first | exact .hd | assumption | apply Swap.tl)); done)); infer_instance; (exact rfl); (focus (first | omega | (simp; omega) | (refine Nat.lt_of_lt_of_le (BitVec.isLt _) ?_; first | omega | (simp; done) | (simp; omega) | fail) | fail))) | fail)); clear hm; intro w hm) | fail)
  replace hm : Own w0 w (⟨g, 53, (half3 v2 c d).map v64⟩ :: R) := hm
  generalize half3 v2 c d = v3 at *
  refine region_at 18 (fun w' => Ext _ w') 80 (by kernel_rfl) (by kernel_rfl) rfl (fun _ _ h k => h.trans k) (drew_ext _) ?_
  simp only [List.take_succ_cons, List.take_zero, List.drop_succ_cons, List.drop_zero, List.map_cons, List.map_nil]
  repeat (first
      | (apply walk_is rfl rfl rfl
         · (intro wx hwx; first | ((with_reducible show gives _ _ _ (Sem.run _ (execOp _ (Oper.mk _ (Op.load _ _) _ _ _ _)) _)); first | ((with_reducible apply gq_ldv (hm.ext hwx)); infer_instance; (exact rfl); (focus ((repeat (first | exact .hd | assumption | apply Has.tl)); done)); (focus (first | omega | (simp; omega) | (refine Nat.lt_of_lt_of_le (BitVec.isLt _) ?_; first | omega | (simp; done) | (simp; omega) | fail) | fail))) | ((with_reducible apply gq_ldW (hm.ext hwx)); infer_instance; (exact rfl); (focus ((repeat (first | exact .hd | assumption | apply Has.tl)); done)); (focus (first | rfl | omega | (simp; done) | (simp; omega) | fail))) | ((with_reducible apply gq_ld1 (hm.ext hwx)); infer_instance; (exact rfl); (focus ((repeat (first | exact .hd | assumption | apply Has.tl)); done)); (exact rfl)) | fail) | (go_simp; (try go_bits); first | exact gives_same | exact gives_skip | with_reducible exact gives_call (D2.out _ wx)))
         · (simp only [Act.put, List.setIfInBounds_toArray, List.set_cons_succ, List.set_cons_zero]; rfl))
      | (apply walk_not rfl rfl rfl
         · (simp only [Act.put, List.setIfInBounds_toArray, List.set_cons_succ, List.set_cons_zero]; rfl)))
  intro wz hwz
  simp only [List.zip_cons_cons, List.zip_nil_right]
  repeat (first | rw [fin_is] | (rw [fin_cons]; intro _ _))
  rw [fin_nil]
  try (replace hm := hm.ext hwz)
  simp only [Act.put, List.setIfInBounds_toArray, List.set_cons_succ, List.set_cons_zero]
  go_wp2_with (first | ((((with_reducible show wpList _ _ _ (Oper.mk _ (Op.store _ _ _) _ _ _ _ :: _) _ _); first | ((with_reducible apply wq_stv hm); (exact rfl); infer_instance; (exact rfl); (focus ((repeat (first | exact .hd | assumption | apply Swap.tl)); done)); infer_instance; (exact rfl); (focus (first | omega | (simp; omega) | (refine Nat.lt_of_lt_of_le (BitVec.isLt _) ?_; first | omega | (simp; done) | (simp; omega) | fail) | fail))) | fail)); clear hm; intro w hm) | fail)
  go_end0
  refine ⟨rfl, ?_⟩
  rw [HE.out] at P2
  exact hm.perm P2.out

set_option maxHeartbeats 2000000 in
theorem stir_any (g : Nat) (l : List (BitVec 64)) (i by_ : Nat) (x y : BitVec 64) (hl : l.length = 16) (hi : i < 4) (hb : by_ < 2) (w0 w : World) (L L' : List Blk) (hm : Own w0 w L) (hs : Swap L ⟨g, 53, l.map v64⟩ ⟨g, 53, (stirL l i by_ x y).map v64⟩ L') :
    Calls Tryd.prog 19 #[.pointer (some ⟨g, 0, none⟩), .int .i64 i, .int .i64 by_, v64 x, v64 y] w fun e w' => e = .returned (.tuple #[]) ∧ Own w0 w' L' := by
  obtain ⟨q1, h1, h14⟩ : ∃ q : Nat, (i + by_) % 4 = q ∧ q < 4 := ⟨_, rfl, Nat.mod_lt _ (by omega)⟩
  obtain ⟨q2, h2, h24⟩ : ∃ q : Nat, (i + 2 * by_) % 4 = q ∧ q < 4 := ⟨_, rfl, Nat.mod_lt _ (by omega)⟩
  obtain ⟨q3, h3, h34⟩ : ∃ q : Nat, (i + 3 * by_) % 4 = q ∧ q < 4 := ⟨_, rfl, Nat.mod_lt _ (by omega)⟩
  have a1 : ((i : Int) + (by_ : Int)) % 4 = (q1 : Int) := by omega
  have a2 : ((i : Int) + (by_ : Int)).tmod 4 = (q1 : Int) := by rw [Int.tmod_eq_emod_of_nonneg (by omega)]; exact a1
  have a3 : ((i : Int) + 2 * (by_ : Int)) % 4 = (q2 : Int) := by omega
  have a4 : ((i : Int) + 2 * (by_ : Int)).tmod 4 = (q2 : Int) := by rw [Int.tmod_eq_emod_of_nonneg (by omega)]; exact a3
  have a5 : ((i : Int) + 3 * (by_ : Int)) % 4 = (q3 : Int) := by omega
  have a6 : ((i : Int) + 3 * (by_ : Int)).tmod 4 = (q3 : Int) := by rw [Int.tmod_eq_emod_of_nonneg (by omega)]; exact a5
  obtain ⟨M, m1, m2⟩ := hs.split ⟨g, 53, (halfL l i (4 + q1) (8 + q2) (12 + q3) x 32 24).map v64⟩
  have e : stirL l i by_ x y = halfL (halfL l i (4 + q1) (8 + q2) (12 + q3) x 32 24) i (4 + q1) (8 + q2) (12 + q3) y 16 63 := by rw [stirL, h1, h2, h3]
  rw [e] at m2
  have C1 := fun wa hma => half_any g l i (4 + q1) (8 + q2) (12 + q3) x 32 24 hl (by omega) (by omega) (by omega) (by omega) (by omega) (by omega) (by omega) (by omega) w0 wa L M hma m1
  have C2 := fun wa hma => half_any g _ i (4 + q1) (8 + q2) (12 + q3) y 16 63 (by rw [halfL_length, hl]) (by omega) (by omega) (by omega) (by omega) (by omega) (by omega) (by omega) (by omega) w0 wa M L' hma m2
  push_cast at C1 C2
  have D1 := Lib.hid C1
  have D2 := Lib.hid C2
  clear C1 C2 hs m1 m2 e h1 h2 h3
  go_enter Tryd.func19, Tryd.ntmps19
  go_wp2_with fail
  refine (D1.out _ hm).mono ?_
  rintro e w1 ⟨rfl, hm1⟩
  go_wp2_with fail
  refine (D2.out _ hm1).mono ?_
  rintro e w2 ⟨rfl, hm2⟩
  go_wp2
  go_end0
  exact ⟨rfl, hm2⟩

end Go.Proofs.YtmclklhnbmkheaaDoor
