/-
  Layer 1: sums and differences of numbers of 128 bits. No conditions.
  Layer 1: the reference's sums and differences of sixteen bytes. No conditions.
  Layer 1: the reference's rows: padded, marked, put together by exclusive or. Conditions: rows of at most 2^46 bytes, sizes to 2^31.
-/
import Derived.Test.YtmclklhnbmkheaaDoorTypes
import Derived.Test.YtmclklhnbmkheaaDoorOct6
namespace Go.Proofs.YtmclklhnbmkheaaDoor
open Go Go.RowKit
set_option maxRecDepth 100000
set_option linter.unusedVariables false
set_option linter.unusedSimpArgs false

/-- The carry of a sum. (Behind a name: not to be laid open by the walk.) -/
def carryB (x y c : BitVec 64) : BitVec 64 := BitVec.ofNat 64 ((x.toNat + y.toNat + c.toNat) / 2 ^ 64)
def borrowB (x y c : BitVec 64) : BitVec 64 := if x.toNat < y.toNat + c.toNat then 1 else 0
theorem carry_le (x y c : BitVec 64) (h : c.toNat ≤ 1) : (carryB x y c).toNat ≤ 1 := by
  have := x.isLt; have := y.isLt
  simp only [carryB, BitVec.toNat_ofNat]; omega
theorem borrow_le (x y c : BitVec 64) : (borrowB x y c).toNat ≤ 1 := by
  unfold borrowB; split <;> simp
theorem add64_run (x y c : BitVec 64) (hc : c.toNat ≤ 1) (w : World) : (callFunc 24 #[v64 x, v64 y, v64 c]).run Tryd.prog w = .ok (.value (.tuple #[v64 (x + y + c), v64 (carryB x y c)])) w := by
  have h := run_callFunc_extern (P := Tryd.prog) (f := 24) (fn := Tryd.f24) (e := add64Entry) (by kernel_rfl) (by kernel_rfl) (by kernel_rfl) (by kernel_rfl) (by rfl) #[v64 x, v64 y, v64 c] w
  rw [h]
  unfold v64
  have hx := x.isLt; have hy := y.isLt
  have e1 : ((x.toNat : Int) + y.toNat + c.toNat) % 18446744073709551616 = ((x + y + c).toNat : Int) := by simp only [BitVec.toNat_add]; omega
  have e2 : ((x.toNat : Int) + y.toNat + c.toNat) / 18446744073709551616 = ((carryB x y c).toNat : Int) := by
    simp only [carryB, BitVec.toNat_ofNat]
    rw [Nat.mod_eq_of_lt (by omega)]; omega
  rw [run_add64 _ _ _ (by omega) (by omega) (by omega) (by omega), e1, e2]
  rfl
def sub64Entry : Array Value → Sem Value := fun args => do
  let (x, y, b) ← Extern.MathBitsCarry.three "Sub64" args
  pure (Extern.MathBitsCarry.pair ((x + Extern.MathBitsCarry.m64 - y - b) % Extern.MathBitsCarry.m64) (if x < y + b then 1 else 0))
theorem v64_0 : Value.int .u64 0 = v64 0#64 := rfl
@[local go_sem] theorem add64_run0 (x y : BitVec 64) (w : World) : (callFunc 24 #[v64 x, v64 y, .int .u64 0]).run Tryd.prog w = .ok (.value (.tuple #[v64 (x + y), v64 (carryB x y 0#64)])) w := by
  have := add64_run x y 0 (by decide) w; simpa [v64_0] using this
@[local go_sem] theorem add64_run1 (x y a b : BitVec 64) (w : World) : (callFunc 24 #[v64 x, v64 y, v64 (carryB a b 0#64)]).run Tryd.prog w = .ok (.value (.tuple #[v64 (x + y + carryB a b 0#64), v64 (carryB x y (carryB a b 0#64))])) w :=
  add64_run x y _ (carry_le a b 0 (by decide)) w
@[local go_sem] theorem build_wide' (a b : BitVec 64) (w : World) : (Instr.build 44 #[(0, v64 a), (1, v64 b)]).run Tryd.prog w = .ok (WV a b) w := by kernel_rfl

set_option maxHeartbeats 400000 in
theorem oplus_any (a b c d : BitVec 64) (w0 : World) :
    Gives Tryd.prog 20 #[WV a b, WV c d] w0 (WV (a + c) (b + d + carryB a c 0#64)) := by
  unfold Gives
  have hm := Own.start w0
  go_enter Tryd.func20, Tryd.ntmps20
  go_wp2_with (first | ((with_reducible show wpList _ _ _ (Oper.mk _ (Op.load _ _) _ _ _ _ :: _) _ _); first | ((with_reducible apply wq_ld1 hm); (exact rfl); infer_instance; (exact rfl); (focus ((repeat (first | exact .hd | assumption | apply Has.tl)); done)); (exact rfl)) | fail) | ((((with_reducible show wpList _ _ _ (Oper.mk _ (Op.store _ _ _) _ _ _ _ :: _) _ _); first | ((with_reducible apply wq_stW hm); (exact rfl); infer_instance; (exact rfl); (exact rfl); (focus ((repeat (first | exact .hd | assumption | apply Swap.tl)); done)); (focus (first | rfl | omega | (simp; done) | (simp; omega) | fail)); (focus (first | rfl | omega | (simp; done) | (simp; omega) | fail)); (focus (first | exact one_map _ | (simp [one8, one32, one64]; done) | fail))) | fail)); clear hm; intro w hm) | ((first | ((with_reducible show wpList _ _ _ (Oper.mk _ (Op.alloc _) _ _ _ _ :: _) _ _); first | ((with_reducible apply wq_new hm); (exact rfl); infer_instance) | fail) | ((with_reducible show wpList _ _ _ (Oper.mk _ (Op.box _ _) _ _ _ _ :: _) _ _); first | ((with_reducible apply wq_boxN hm); (exact rfl); (exact rfl)) | fail)); clear hm; (first | (have hx_ := g1; clear hx_; (first | (have hx_ := g2; clear hx_; (first | (have hx_ := g3; clear hx_; (first | (have hx_ := g4; clear hx_; (first | (have hx_ := g5; clear hx_; (first | (have hx_ := g6; clear hx_; (first | (have hx_ := g7; clear hx_; (first | (have hx_ := g8; clear hx_; (first | (have hx_ := g9; clear hx_; intro g10) | intro g9)) | intro g8)) | intro g7)) | intro g6)) | intro g5)) | intro g4)) | intro g3)) | intro g2)) | intro g1); intro w hm) | fail)
  refine ret_own hm rfl rfl (by infer_instance) (by repeat (first | exact Has.hd | assumption | apply Has.tl)) (by first | rfl | omega | (simp only [zeros_length, zer_length, tab_length, part_length, setN_length, List.length_map, List.length_cons, List.length_nil, List.length_append, List.length_take, List.length_drop, List.length_replicate, blk_length, putL_length] <;> omega) | fail) rfl ⟨rfl, hm.x⟩

end Go.Proofs.YtmclklhnbmkheaaDoor
namespace Go.Proofs.YtmclklhnbmkheaaDoor
open Go Go.RowKit
set_option maxRecDepth 100000
set_option linter.unusedVariables false
set_option linter.unusedSimpArgs false

/-- What is carried to a place. -/
def carN (a b : List Byte) : Nat → Nat
  | 0 => 0
  | k + 1 => ((nth a k).toNat + (nth b k).toNat + carN a b k) / 256
def plusB (a b : List Byte) (k : Nat) : Byte := BitVec.ofNat 8 ((nth a k).toNat + (nth b k).toNat + carN a b k)
def lessN (a b : List Byte) : Nat → Nat
  | 0 => 0
  | k + 1 => 1 - (256 + (nth a k).toNat - (nth b k).toNat - lessN a b k) / 256
def minusB (a b : List Byte) (k : Nat) : Byte := BitVec.ofNat 8 (256 + (nth a k).toNat - (nth b k).toNat - lessN a b k)
theorem carN_le (a b : List Byte) (k : Nat) : carN a b k ≤ 1 := by
  induction k with
  | zero => simp [carN]
  | succ k ih => have := (nth a k).isLt; have := (nth b k).isLt; simp only [carN]; omega
theorem lessN_le (a b : List Byte) (k : Nat) : lessN a b k ≤ 1 := by
  cases k with
  | zero => simp [lessN]
  | succ k => simp only [lessN]; omega
theorem ofInt_nat8 (n : Int) (m : Nat) (h : n % 256 = (m % 256 : Nat)) : BitVec.ofInt 8 n = BitVec.ofNat 8 m := by
  apply BitVec.eq_of_toNat_eq
  simp only [BitVec.toNat_ofInt, BitVec.toNat_ofNat]; omega

end Go.Proofs.YtmclklhnbmkheaaDoor
namespace Go.Proofs.YtmclklhnbmkheaaDoor
open Go Go.RowKit
set_option maxRecDepth 100000
set_option linter.unusedVariables false
set_option linter.unusedSimpArgs false

/-- A row and so many noughts. (Behind a name: not to be laid open by the walk.) -/
def padN (l : List Byte) (j : Nat) : List Byte := l ++ List.replicate j 0
theorem padN_length (l : List Byte) (j : Nat) : (padN l j).length = l.length + j := by simp [padN]
theorem padN_succ (l : List Byte) (j : Nat) : padN l j ++ [0#8] = padN l (j + 1) := by simp [padN, List.replicate_succ']
theorem padN_pad (l : List Byte) (s : Int) : padN l (roomN l.length s) = pad l s := rfl
theorem room_not (n j : Nat) (s : Int) (hs : 0 < s) (hj : j < roomN n s) : ((n + j : Nat) : Int) % s ≠ 0 := by
  obtain ⟨k, rfl⟩ := Int.eq_ofNat_of_zero_le (show 0 ≤ s by omega)
  have hk : 0 < k := by omega
  unfold roomN at hj
  rw [if_neg (by omega), Int.toNat_natCast] at hj
  have hlt : n % k < k := Nat.mod_lt _ hk
  have hne : n % k ≠ 0 := by intro h; rw [h, Nat.sub_zero, Nat.mod_self] at hj; omega
  rw [Nat.mod_eq_of_lt (by omega)] at hj
  have e : (n + j) % k = n % k + j := by
    rw [Nat.add_mod, Nat.mod_eq_of_lt (show j < k by omega), Nat.mod_eq_of_lt (by omega)]
  intro h
  have : ((n + j) % k : Nat) = 0 := by have := h; rw [← Int.natCast_emod] at this; omega
  omega
theorem room_is (n : Nat) (s : Int) (hs : 0 < s) : ((n + roomN n s : Nat) : Int) % s = 0 := by
  obtain ⟨k, rfl⟩ := Int.eq_ofNat_of_zero_le (show 0 ≤ s by omega)
  have hk : 0 < k := by omega
  unfold roomN
  rw [if_neg (by omega), Int.toNat_natCast, ← Int.natCast_emod]
  have hlt : n % k < k := Nat.mod_lt _ hk
  have : (n + (k - n % k) % k) % k = 0 := by
    by_cases h : n % k = 0
    · rw [h, Nat.sub_zero, Nat.mod_self, Nat.add_zero, h]
    · rw [Nat.mod_eq_of_lt (show k - n % k < k by omega)]
      have e : n + (k - n % k) = k * (n / k) + k := by have := Nat.div_add_mod n k; omega
      rw [e, Nat.mul_add_mod, Nat.mod_self]
  rw [this]; rfl

/-- Rows, a mark and a size, as a value. -/
abbrev RowsV (a b : List Byte) (p q : Option Addr) (c d : Nat) (m : Byte) (s : Int) : Value := .agg #[.slice p a.length c, .slice q b.length d, v8 m, .int .i64 s]

end Go.Proofs.YtmclklhnbmkheaaDoor
