/-
  Layer 1: sums and differences of numbers of 128 bits. No conditions.
-/
import Derived.Test.YtalcgmhdgegebaaDoorTypes
import Derived.Test.YtalcgmhdgegebaaDoorOct7
namespace Go.Proofs.YtalcgmhdgegebaaDoor
open Go Go.RowKit
set_option maxRecDepth 100000
set_option linter.unusedVariables false
set_option linter.unusedSimpArgs false

/-- The carry of a sum. (Behind a name: not to be laid open by the walk.) -/
def carryB (x y c : BitVec 64) : BitVec 64 := BitVec.ofNat 64 ((x.toNat + y.toNat + c.toNat) / 2 ^ 64)
def borrowB (x y c : BitVec 64) : BitVec 64 := if x.toNat < y.toNat + c.toNat then 1 else 0
theorem carry_le (x y c : BitVec 64) (h : c.toNat ≤ 1) : (carryB x y c).toNat ≤ 1 := by
  have := x.isLt; have := y.isLt
  simp only [carryB, BitVec.toNat_ofNat]; omega
theorem borrow_le (x y c : BitVec 64) : (borrowB x y c).toNat ≤ 1 := by
  unfold borrowB; split <;> simp
theorem add64_run (x y c : BitVec 64) (hc : c.toNat ≤ 1) (w : World) : (callFunc 85 #[v64 x, v64 y, v64 c]).run Tryd.prog w = .ok (.value (.tuple #[v64 (x + y + c), v64 (carryB x y c)])) w := by
  have h := run_callFunc_extern (P := Tryd.prog) (f := 85) (fn := Tryd.f85) (e := add64Entry) (by kernel_rfl) (by kernel_rfl) (by kernel_rfl) (by kernel_rfl) (by rfl) #[v64 x, v64 y, v64 c] w
  rw [h]
  unfold v64
  have hx := x.isLt; have hy := y.isLt
  have e1 : ((x.toNat : Int) + y.toNat + c.toNat) % 18446744073709551616 = ((x + y + c).toNat : Int) := by simp only [BitVec.toNat_add]; omega
  have e2 : ((x.toNat : Int) + y.toNat + c.toNat) / 18446744073709551616 = ((carryB x y c).toNat : Int) := by
    simp only [carryB, BitVec.toNat_ofNat]
    rw [Nat.mod_eq_of_lt (by omega)]; omega
  rw [run_add64 _ _ _ (by omega) (by omega) (by omega) (by omega), e1, e2]
  rfl
def sub64Entry : Array Value → Sem Value := fun args => do
  let (x, y, b) ← Extern.MathBitsCarry.three "Sub64" args
  pure (Extern.MathBitsCarry.pair ((x + Extern.MathBitsCarry.m64 - y - b) % Extern.MathBitsCarry.m64) (if x < y + b then 1 else 0))
theorem v64_0 : Value.int .u64 0 = v64 0#64 := rfl
@[local go_sem] theorem add64_run0 (x y : BitVec 64) (w : World) : (callFunc 85 #[v64 x, v64 y, .int .u64 0]).run Tryd.prog w = .ok (.value (.tuple #[v64 (x + y), v64 (carryB x y 0#64)])) w := by
  have := add64_run x y 0 (by decide) w; simpa [v64_0] using this
@[local go_sem] theorem add64_run1 (x y a b : BitVec 64) (w : World) : (callFunc 85 #[v64 x, v64 y, v64 (carryB a b 0#64)]).run Tryd.prog w = .ok (.value (.tuple #[v64 (x + y + carryB a b 0#64), v64 (carryB x y (carryB a b 0#64))])) w :=
  add64_run x y _ (carry_le a b 0 (by decide)) w
@[local go_sem] theorem build_wide' (a b : BitVec 64) (w : World) : (Instr.build 51 #[(0, v64 a), (1, v64 b)]).run Tryd.prog w = .ok (WV a b) w := by kernel_rfl

set_option maxHeartbeats 400000 in
theorem oplus_any (a b c d : BitVec 64) (w0 : World) :
    Gives Tryd.prog 77 #[WV a b, WV c d] w0 (WV (a + c) (b + d + carryB a c 0#64)) := by
  unfold Gives
  have hm := Own.start w0
  go_enter Tryd.func77, Tryd.ntmps77
  go_wp2_with (first | ((with_reducible show wpList _ _ _ (Oper.mk _ (Op.load _ _) _ _ _ _ :: _) _ _); first | ((with_reducible apply wq_ldv hm); (exact rfl); infer_instance; (exact rfl); (focus ((repeat (first | exact .hd | assumption | apply Has.tl)); done)); (focus (first | omega | (simp; omega) | (refine Nat.lt_of_lt_of_le (BitVec.isLt _) ?_; first | omega | (simp; done) | (simp; omega) | fail) | fail))) | ((with_reducible apply wq_ldW hm); (exact rfl); infer_instance; (exact rfl); (focus ((repeat (first | exact .hd | assumption | apply Has.tl)); done)); (focus (first | rfl | omega | (simp; done) | (simp; omega) | fail))) | ((with_reducible apply wq_ld1 hm); (exact rfl); infer_instance; (exact rfl); (focus ((repeat (first | exact .hd | assumption | apply Has.tl)); done)); (exact rfl)) | fail) | ((((with_reducible show wpList _ _ _ (Oper.mk _ (Op.store _ _ _) _ _ _ _ :: _) _ _); first | ((with_reducible apply wq_stv hm); (exact rfl); infer_instance; (exact rfl); (focus ((repeat (first | exact .hd | assumption | apply Swap.tl)); done)); infer_instance; (exact rfl); (focus (first | omega | (simp; omega) | (refine Nat.lt_of_lt_of_le (BitVec.isLt _) ?_; first | omega | (simp; done) | (simp; omega) | fail) | fail))) | ((with_reducible apply wq_st8i hm); (exact rfl); infer_instance; (exact rfl); (exact rfl); (focus ((repeat (first | exact .hd | assumption | apply Swap.tl)); done)); (focus omega); (focus (first | omega | (simp; omega) | (refine Nat.lt_of_lt_of_le (BitVec.isLt _) ?_; first | omega | (simp; done) | (simp; omega) | fail) | fail))) | ((with_reducible apply wq_st64i hm); (exact rfl); infer_instance; (exact rfl); (exact rfl); (focus ((repeat (first | exact .hd | assumption | apply Swap.tl)); done)); (focus omega); (focus (first | omega | (simp; omega) | (refine Nat.lt_of_lt_of_le (BitVec.isLt _) ?_; first | omega | (simp; done) | (simp; omega) | fail) | fail))) | ((with_reducible apply wq_stW hm); (exact rfl); infer_instance; (exact rfl); (exact rfl); (focus ((repeat (first | exact .hd | assumption | apply Swap.tl)); done)); (focus (first | rfl | omega | (simp; done) | (simp; omega) | fail)); (focus (first | rfl | omega | (simp; done) | (simp; omega) | fail)); (focus (first | exact one_map _ | (simp [one8, one32, one64]; done) | fail))) | ((with_reducible apply wq_s1v (f := v32) hm); (exact rfl); infer_instance; (exact rfl); (exact rfl); infer_instance; (focus ((repeat (first | exact .hd | assumption | apply Swap.tl)); done)); (focus (first | omega | (simp; omega) | (refine Nat.lt_of_lt_of_le (BitVec.isLt _) ?_; first | omega | (simp; done) | (simp; omega) | fail) | fail))) | ((with_reducible apply wq_s1v (f := v8) hm); (exact rfl); infer_instance; (exact rfl); (exact rfl); infer_instance; (focus ((repeat (first | exact .hd | assumption | apply Swap.tl)); done)); (focus (first | omega | (simp; omega) | (refine Nat.lt_of_lt_of_le (BitVec.isLt _) ?_; first | omega | (simp; done) | (simp; omega) | fail) | fail))) | ((with_reducible apply wq_s1v (f := v64) hm); (exact rfl); infer_instance; (exact rfl); (exact rfl); infer_instance; (focus ((repeat (first | exact .hd | assumption | apply Swap.tl)); done)); (focus (first | omega | (simp; omega) | (refine Nat.lt_of_lt_of_le (BitVec.isLt _) ?_; first | omega | (simp; done) | (simp; omega) | fail) | fail))) | ((with_reducible apply wq_st1 hm); (exact rfl); infer_instance; (exact rfl); (exact rfl); (exact rfl); (exact rfl); (focus ((repeat (first | exact .hd | assumption | apply Swap.tl)); done)); (focus (first | omega | (simp; omega) | (refine Nat.lt_of_lt_of_le (BitVec.isLt _) ?_; first | omega | (simp; done) | (simp; omega) | fail) | fail))) | fail)); clear hm; intro w hm) | ((first | ((with_reducible show wpList _ _ _ (Oper.mk _ (Op.alloc _) _ _ _ _ :: _) _ _); first | ((with_reducible apply wq_new hm); (exact rfl); infer_instance) | fail) | ((with_reducible show wpList _ _ _ (Oper.mk _ (Op.box _ _) _ _ _ _ :: _) _ _); first | ((with_reducible apply wq_boxN hm); (exact rfl); (exact rfl)) | ((with_reducible apply wq_box1 hm); (exact rfl); (exact rfl); (exact rfl)) | fail)); clear hm; (first | (have hx_ := g1; clear hx_; (first | (have hx_ := g2; clear hx_; (first | (have hx_ := g3; clear hx_; (first | (have hx_ := g4; clear hx_; (first | (have hx_ := g5; clear hx_; (first | (have hx_ := g6; clear hx_; (first | (have hx_ := g7; clear hx_; (first | (have hx_ := g8; clear hx_; (first | (have hx_ := g9; clear hx_; intro g10) | intro g9)) | intro g8)) | intro g7)) | intro g6)) | intro g5)) | intro g4)) | intro g3)) | intro g2)) | intro g1); intro w hm) | fail)
  refine ret_own hm rfl rfl (by infer_instance) (by repeat (first | exact Has.hd | assumption | apply Has.tl)) (by first | rfl | omega | (simp only [zeros_length, zer_length, tab_length, part_length, setN_length, List.length_map, List.length_cons, List.length_nil, List.length_append, List.length_take, List.length_drop, List.length_replicate, blk_length, putL_length] <;> omega) | fail) rfl ⟨rfl, hm.x⟩

end Go.Proofs.YtalcgmhdgegebaaDoor
