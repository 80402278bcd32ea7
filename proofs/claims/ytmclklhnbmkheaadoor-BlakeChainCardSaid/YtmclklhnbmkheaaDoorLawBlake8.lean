/-
  Layer 6: the statement that a sum is a chain of compressions. Conditions: the program's first numbers and rows lie as its text lays them.
-/
import Derived.Test.YtmclklhnbmkheaaDoorLawBlake7
namespace Go.Proofs.YtmclklhnbmkheaaDoor
open Go Go.RowKit
set_option maxRecDepth 100000
set_option linter.unusedVariables false
set_option linter.unusedSimpArgs false

theorem RdB.drop8 {w : World} {a : Addr} {l : List Byte} (h : RdB w (some a) l) (k : Nat) : RdB w (some (a.add k)) (l.drop k) :=
  ⟨fun _ => rfl, fun i hi => by
    rw [List.length_drop] at hi
    have e : (a.add k).add i = a.add (k + i) := by unfold Addr.add; split <;> split <;> simp_all <;> omega
    simp only [Option.getD_some, e]
    have := h.2 (k + i) (by omega)
    simp only [Option.getD_some] at this
    rw [this]; simp [List.getElem?_drop]⟩
theorem gq_build1 {P : Program} {dst : Option Tmp} {ty : TypeId} {pos : String} {aft : Array Edge} {gd : Option (Nat × Bool)} {a : Act} {w : World} {T : TypeId} {x : Operand} {u v : Value} {i : Nat} (hb : ∀ w, (Instr.build T #[(i, u)]).run P w = .ok v w) (hx : a.eval x = u) : gives P w (Is v) ((execOp a.eval (Oper.mk dst (.build T #[(i, x)]) ty pos aft gd)).run P w) := by
  unfold execOp
  have h := hb w
  simp [hx, h]
  exact gives_same
theorem build_wideI (u : Int) (w : World) : (Instr.build 44 #[(0, .int .u64 u)]).run Tryd.prog w = .ok (.agg #[.int .u64 u, .int .u64 0]) w := by kernel_rfl
theorem build_first (w : World) : (Instr.build 38 #[(0, .int .u64 7640891576956012808), (1, .int .u64 13503953896175478587), (2, .int .u64 4354685564936845355), (3, .int .u64 11912009170470909681), (4, .int .u64 5840696475078001361), (5, .int .u64 11170449401992604703), (6, .int .u64 2270897969802886507), (7, .int .u64 6620516959819538809)]).run Tryd.prog w = .ok (A64 firstL) w := by kernel_rfl
theorem first_xor (k s : Nat) (hk : k ≤ 64) (hs : s ≤ 64) : setN firstL 0 (nth firstL 0 ^^^ BitVec.ofInt 64 (bits BinOp.xor IntKind.u64 (bits BinOp.xor IntKind.u64 16842752 ((k : Int) * 256)) (s : Int))) = startL s k := by
  rw [start_bits _ _ hk hs]; rfl
set_option maxHeartbeats 2000000 in
theorem lfirst_any (size key : Nat) (h1 : size ≤ 64) (hk : key ≤ 64) (w0 : World) : Gives Tryd.prog 12 #[.int .i64 (size : Int), .int .i64 (key : Int)] w0 (A64 (startL size key)) := by
  unfold Gives
  have hm := Own.start w0
  have ES := Lib.hid (first_xor key size hk h1)
  have lF := firstL_length
  have lz : (zer (n := 64) 8).length = 8 := zer_length
  have lS := startL_length size key
  generalize startL size key = ST at *
  obtain ⟨F, hF⟩ : ∃ F, firstL = F := ⟨_, rfl⟩
  have RF := Lib.hid hF
  rw [hF] at lF ES
  clear hF
  go_enter Tryd.func12, Tryd.ntmps12
  go_wp2_with (first | ((with_reducible show wpList _ _ _ (Oper.mk _ (Op.store _ _ (Operand.tmp 6)) _ _ _ _ :: _) _ _); (with_reducible apply wq_stW (cs' := F.map v64) hm); exact rfl; infer_instance; exact rfl; (rw [← RF.out]; exact rfl); (focus ((repeat (first | exact .hd | assumption | apply Swap.tl | apply Swap.app)); done)); (rw [List.length_map]; exact lF); (rw [List.length_map]; exact lz); exact one_map _; clear hm; intro w hm) | ((with_reducible show wpList _ _ _ (Oper.mk _ (Op.load _ _) _ _ _ _ :: _) _ _); first | ((with_reducible apply wq_ldv hm); (exact rfl); infer_instance; (exact rfl); (focus ((repeat (first | exact .hd | assumption | apply Has.tl | apply Has.app)); done)); (focus (first | omega | (simp; omega) | (refine Nat.lt_of_lt_of_le (BitVec.isLt _) ?_; first | omega | (simp; done) | (simp; omega) | fail) | fail))) | ((with_reducible apply wq_ldW hm); (exact rfl); infer_instance; (exact rfl); (focus ((repeat (first | exact .hd | assumption | apply Has.tl | apply Has.app)); done)); (focus (first | rfl | omega | (simp; done) | (simp; omega) | fail))) | fail) | ((((with_reducible show wpList _ _ _ (Oper.mk _ (Op.store _ _ _) _ _ _ _ :: _) _ _); first | ((with_reducible apply wq_stv hm); (exact rfl); infer_instance; (exact rfl); (focus ((repeat (first | exact .hd | assumption | apply Swap.tl | apply Swap.app)); done)); infer_instance; (exact rfl); (focus (first | omega | (simp; omega) | (refine Nat.lt_of_lt_of_le (BitVec.isLt _) ?_; first | omega | (simp; done) | (simp; omega) | fail) | fail))) | ((with_reducible apply wq_stW hm); (exact rfl); infer_instance; (exact rfl); (exact rfl); (focus ((repeat (first | exact .hd | assumption | apply Swap.tl | apply Swap.app)); done)); (focus (first | rfl | omega | (simp; done) | (simp; omega) | fail)); (focus (first | rfl | omega | (simp; done) | (simp; omega) | fail)); (focus (first | exact one_map _ | (simp [one8, one32, one64]; done) | fail))) | fail)); clear hm; intro w hm) | ((first | ((with_reducible show wpList _ _ _ (Oper.mk _ (Op.alloc _) _ _ _ _ :: _) _ _); first | ((with_reducible apply wq_new hm); (exact rfl); infer_instance) | fail)); clear hm; (first | (have hx_ := g1; clear hx_; (first | (have hx_ := g2; clear hx_; (first | (have hx_ := g3; clear hx_; (first | (have hx_ := g4; clear hx_; (first | (have hx_ := g5; clear hx_; (first | (have hx_ := g6; clear hx_; (first | (have hx_ := g7; clear hx_; (first | (have hx_ := g8; clear hx_; (first | (have hx_ := g9; clear hx_; intro g10) | intro g9)) | intro g8)) | intro g7)) | intro g6)) | intro g5)) | intro g4)) | intro g3)) | intro g2)) | intro g1); intro w hm) | fail)
  rw [ES.out] at hm
  go_wp2_with fail
  refine ret_own hm rfl rfl (by infer_instance) (by repeat (first | exact Has.hd | assumption | apply Has.tl | apply Has.app)) (by first | rfl | omega | (simp only [zeros_length, zer_length, tab_length, part_length, setN_length, List.length_map, List.length_cons, List.length_nil, List.length_append, List.length_take, List.length_drop, List.length_replicate, blk_length, putL_length] <;> omega) | fail) rfl ⟨rfl, hm.x⟩

set_option maxHeartbeats 2000000 in
theorem lblock_any (b : List Byte) (p : Option Addr) (c : Nat) (hb : b.length ≤ 128) (w0 : World) (hr : RdB w0 p b) : Gives Tryd.prog 14 #[.slice p b.length c] w0 (A8 (blkF b b.length)) := by
  unfold Gives
  have hm := Own.start w0
  have HR := Lib.hid hr
  have Z0 := Lib.hid (blkF_zero b)
  have SS := Lib.hid (blkF_step b)
  have LL := Lib.hid (blkF_length b)
  clear hr
  go_enter Tryd.func14, Tryd.ntmps14
  go_wp2_with (first | ((first | ((with_reducible show wpList _ _ _ (Oper.mk _ (Op.alloc _) _ _ _ _ :: _) _ _); first | ((with_reducible apply wq_new hm); (exact rfl); infer_instance) | fail)); clear hm; (first | (have hx_ := g1; clear hx_; (first | (have hx_ := g2; clear hx_; (first | (have hx_ := g3; clear hx_; (first | (have hx_ := g4; clear hx_; (first | (have hx_ := g5; clear hx_; (first | (have hx_ := g6; clear hx_; (first | (have hx_ := g7; clear hx_; (first | (have hx_ := g8; clear hx_; (first | (have hx_ := g9; clear hx_; intro g10) | intro g9)) | intro g8)) | intro g7)) | intro g6)) | intro g5)) | intro g4)) | intro g3)) | intro g2)) | intro g1); intro w hm) | fail)
  rw [← Z0.out] at hm
  go_loopw [4] (fun i wr => ∃ n : Nat, n ≤ b.length ∧ i = .int .i64 n ∧ Own w0 wr [⟨g2, 41, (blkF b n).map v8⟩, ⟨g1, 41, (zer 128).map v8⟩]) (fun i _ => b.length - (intOf i).toNat)
  case atStart => exact ⟨0, by omega, rfl, by rw [Z0.out] at hm ⊢; exact hm⟩
  case round =>
    obtain ⟨n, hn, rfl, hm⟩ := hrel
    have ln := LL.out n
    by_cases hlt : n < b.length
    · have h1 : decide ((n : Int) < (b.length : Int)) = true := decide_eq_true (by omega)
      have h2 : (n : Int) < (b.length : Int) := by omega
      have h3 : decide ((n : Int) < 128) = true := decide_eq_true (by omega)
      have h4 : (n : Int) < 128 := by omega
      have h5 : n < 128 := by omega
      obtain ⟨a, rfl⟩ := Option.isSome_iff_exists.1 (HR.out.1 (by omega))
      have hc := (HR.out.ext hm.x).at n hlt
      simp only [Option.getD_some] at hc
      rw [show b.getD n 0 = nth b n from rfl] at hc
      have es := Lib.hid (SS.out n h5)
      generalize nth b n = x at *
      generalize blkF b n = C at *
      generalize hC2 : blkF b (n + 1) = C2 at *
      have HC2 := Lib.hid hC2
      clear hC2
      go_wp2_with (first | ((((with_reducible show wpList _ _ _ (Oper.mk _ (Op.store _ _ _) _ _ _ _ :: _) _ _); first | ((with_reducible apply wq_stv hm); (exact rfl); infer_instance; (exact rfl); (focus ((repeat (first | exact .hd | assumption | apply Swap.tl | apply Swap.app)); done)); infer_instance; (exact rfl); (focus (first | omega | (simp; omega) | (refine Nat.lt_of_lt_of_le (BitVec.isLt _) ?_; first | omega | (simp; done) | (simp; omega) | fail) | fail))) | fail)); clear hm; intro w hm) | fail)
      go_roundw
      case rel =>
        rw [es.out] at hm
        exact ⟨n + 1, by omega, by go_num, by rw [HC2.out]; exact hm⟩
      case measure => simp [intOf] <;> omega
    · obtain rfl : n = b.length := by omega
      have h1 : decide ((b.length : Int) < (b.length : Int)) = false := decide_eq_false (by omega)
      have lz : (zer (n := 8) 128).length = 128 := zer_length
      go_wp2_with (first | ((with_reducible show wpList _ _ _ (Oper.mk _ (Op.load _ _) _ _ _ _ :: _) _ _); first | ((with_reducible apply wq_ldW hm); (exact rfl); infer_instance; (exact rfl); (focus ((repeat (first | exact .hd | assumption | apply Has.tl | apply Has.app)); done)); (focus (first | rfl | omega | (simp; done) | (simp; omega) | fail))) | fail) | ((((with_reducible show wpList _ _ _ (Oper.mk _ (Op.store _ _ _) _ _ _ _ :: _) _ _); first | ((with_reducible apply wq_stW hm); (exact rfl); infer_instance; (exact rfl); (exact rfl); (focus ((repeat (first | exact .hd | assumption | apply Swap.tl | apply Swap.app)); done)); (focus (first | rfl | omega | (simp; done) | (simp; omega) | fail)); (focus (first | rfl | omega | (simp; done) | (simp; omega) | fail)); (focus (first | exact one_map _ | (simp [one8, one32, one64]; done) | fail))) | fail)); clear hm; intro w hm) | fail)
      refine ret_own hm rfl rfl (by infer_instance) (by repeat (first | exact Has.hd | assumption | apply Has.tl | apply Has.app)) (by first | rfl | omega | (simp only [zeros_length, zer_length, tab_length, part_length, setN_length, List.length_map, List.length_cons, List.length_nil, List.length_append, List.length_take, List.length_drop, List.length_replicate, blk_length, putL_length] <;> omega) | fail) rfl ⟨rfl, hm.x⟩

end Go.Proofs.YtmclklhnbmkheaaDoor
