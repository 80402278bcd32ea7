/-
  Sums of blocks. Conditions: those written in each theorem.
-/
import Derived.Test.YtmgopjeaehmbfaaDoorHash1
import Derived.Test.YtmgopjeaehmbfaaDoorHashq
namespace Go.Proofs.YtmgopjeaehmbfaaDoor
open Go Go.RowKit
set_option maxRecDepth 100000
set_option linter.unusedVariables false
set_option linter.unusedSimpArgs false

set_option maxHeartbeats 4000000 in
theorem tplus_any (ks : List (List Byte)) (p : Option Addr) (c : Nat) (w0 : World) (hk : RdK w0 p 16 ks) (hc : ks.length ≤ c) (hcm : ks.length ≤ 70368744177664) : Gives Tryd.prog 75 #[.slice p ks.length c] w0 (A8 (plusL (zer 16) ks)) := by
  unfold Gives
  have hm := Own.start w0
  have HK := Lib.hid hk
  have HZ := Lib.hid (show (zer (n := 8) 16).length = 16 from zer_length)
  clear hk
  go_enter Tryd.func75, Tryd.ntmps75
  go_wp2_with (first | ((first | ((with_reducible show wpList _ _ _ (Oper.mk _ (Op.alloc _) _ _ _ _ :: _) _ _); first | ((with_reducible apply wq_new hm); (exact rfl); infer_instance) | fail)); clear hm; (first | (have hx_ := g1; clear hx_; (first | (have hx_ := g2; clear hx_; (first | (have hx_ := g3; clear hx_; (first | (have hx_ := g4; clear hx_; (first | (have hx_ := g5; clear hx_; (first | (have hx_ := g6; clear hx_; (first | (have hx_ := g7; clear hx_; (first | (have hx_ := g8; clear hx_; (first | (have hx_ := g9; clear hx_; intro g10) | intro g9)) | intro g8)) | intro g7)) | intro g6)) | intro g5)) | intro g4)) | intro g3)) | intro g2)) | intro g1); intro w hm) | fail)
  go_loopw [9] (fun i wr => ∃ k : Nat, k ≤ ks.length ∧ i = .int .i64 k ∧ Own w0 wr [⟨g2, 27, (plusL (zer 16) (ks.take k)).map v8⟩, ⟨g1, 27, (zer 16).map v8⟩]) (fun i _ => ks.length - (intOf i).toNat)
  case atStart => exact ⟨0, by omega, rfl, hm⟩
  case round =>
    obtain ⟨k, hk, rfl, hm⟩ := hrel
    have hB := plusL_length (ks.take k) (zer 16) HZ.out
    by_cases hlt : k < ks.length
    · have hd : decide ((k : Int) < (ks.length : Int)) = true := decide_eq_true (by omega)
      have hd2 : (k : Int) < (ks.length : Int) := by omega
      obtain ⟨a, rfl⟩ := HK.out.addr (by omega) (by omega)
      obtain ⟨hK, hKl⟩ := HK.out.at (by omega) k hlt
      have hS := plusL_take (zer 16) ks k hlt
      simp only [Option.getD_some] at hK
      generalize plusL (zer 16) (ks.take k) = B at *
      generalize ks.getD k [] = K at *
      have HS := Lib.hid hS
      have HK2 := Lib.hid hK
      have ES : Hid (B = part 16 0 (fun i => nth B i ^^^ nth K i) (nth B)) := Lib.hid (part_start hB)
      have EE : Hid (part 16 16 (fun i => nth B i ^^^ nth K i) (nth B) = bothL B K) := Lib.hid part_all
      have hK1 := Nat.le_of_eq hKl
      have hK2' := Nat.le_of_eq hKl.symm
      clear hK hS
      go_wp2_with (first | ((with_reducible apply wq_rdW (HK2.out.ext hm.x)); exact rfl; infer_instance; exact rfl; exact hKl) | ((((with_reducible show wpList _ _ _ (Oper.mk _ (Op.store _ _ _) _ _ _ _ :: _) _ _); first | ((with_reducible apply wq_stW hm); (exact rfl); infer_instance; (exact rfl); (exact rfl); (focus ((repeat (first | exact .hd | assumption | apply Swap.tl)); done)); (focus (first | rfl | omega | (simp; done) | (simp; omega) | fail)); (focus (first | rfl | omega | (simp; done) | (simp; omega) | fail)); (focus (first | exact one_map _ | (simp [one8, one32, one64]; done) | fail))) | fail)); clear hm; intro w hm) | ((first | ((with_reducible show wpList _ _ _ (Oper.mk _ (Op.alloc _) _ _ _ _ :: _) _ _); first | ((with_reducible apply wq_new hm); (exact rfl); infer_instance) | fail)); clear hm; (first | (have hx_ := g1; clear hx_; (first | (have hx_ := g2; clear hx_; (first | (have hx_ := g3; clear hx_; (first | (have hx_ := g4; clear hx_; (first | (have hx_ := g5; clear hx_; (first | (have hx_ := g6; clear hx_; (first | (have hx_ := g7; clear hx_; (first | (have hx_ := g8; clear hx_; (first | (have hx_ := g9; clear hx_; intro g10) | intro g9)) | intro g8)) | intro g7)) | intro g6)) | intro g5)) | intro g4)) | intro g3)) | intro g2)) | intro g1); intro w hm) | fail)
      rw [ES.out] at hm
      go_loopw [13] (fun i wr => ∃ j : Nat, j ≤ 16 ∧ i = .int .i64 j ∧ Own w0 wr [⟨g3, 27, K.map v8⟩, ⟨g2, 27, (part 16 j (fun i => nth B i ^^^ nth K i) (nth B)).map v8⟩, ⟨g1, 27, (zer 16).map v8⟩]) (fun i _ => 16 - (intOf i).toNat)
      case atStart => exact ⟨0, by omega, rfl, hm⟩
      case round =>
        obtain ⟨j, hj, rfl, hm⟩ := hrel
        by_cases hjl : j < 16
        · have hj1 : decide ((j : Int) < 16) = true := decide_eq_true (by omega)
          have hj2 : (j : Int) < 16 := by omega
          have EJ : Hid (setN (part 16 j (fun i => nth B i ^^^ nth K i) (nth B)) j (nth (part 16 j (fun i => nth B i ^^^ nth K i) (nth B)) j ^^^ nth K j) = part 16 (j + 1) (fun i => nth B i ^^^ nth K i) (nth B)) := Lib.hid (by
            rw [nth_part_ge hjl (Nat.le_refl _)]; exact part_set (f := fun i => nth B i ^^^ nth K i) hjl)
          have lJ : (part 16 j (fun i => nth B i ^^^ nth K i) (nth B)).length = 16 := part_length
          generalize part 16 j (fun i => nth B i ^^^ nth K i) (nth B) = C at *
          go_wp2_with fail
          refine region_at 8 (fun w' => Ext _ w') 27 (by kernel_rfl) (by kernel_rfl) rfl (fun _ _ h k => h.trans k) (drew_ext _) ?_
          simp only [List.take_succ_cons, List.take_zero, List.drop_succ_cons, List.drop_zero, List.map_cons, List.map_nil]
          repeat (first
              | (apply walk_is rfl rfl rfl
                 · (intro wx hwx; first | ((with_reducible show gives _ _ _ (Sem.run _ (execOp _ (Oper.mk _ (Op.load _ _) _ _ _ _)) _)); first | ((with_reducible apply gq_ldv (hm.ext hwx)); infer_instance; (exact rfl); (focus ((repeat (first | exact .hd | assumption | apply Has.tl)); done)); (focus (first | omega | (simp; omega) | (refine Nat.lt_of_lt_of_le (BitVec.isLt _) ?_; first | omega | (simp; done) | (simp; omega) | fail) | fail))) | ((with_reducible apply gq_ldW (hm.ext hwx)); infer_instance; (exact rfl); (focus ((repeat (first | exact .hd | assumption | apply Has.tl)); done)); (focus (first | rfl | omega | (simp; done) | (simp; omega) | fail))) | ((with_reducible apply gq_ld1 (hm.ext hwx)); infer_instance; (exact rfl); (focus ((repeat (first | exact .hd | assumption | apply Has.tl)); done)); (exact rfl)) | fail) | (go_simp; (try go_bits); first | exact gives_same | exact gives_skip))
                 · (simp only [Act.put, List.setIfInBounds_toArray, List.set_cons_succ, List.set_cons_zero]; rfl))
              | (apply walk_not rfl rfl rfl
                 · (simp only [Act.put, List.setIfInBounds_toArray, List.set_cons_succ, List.set_cons_zero]; rfl)))
          intro wz hwz
          simp only [List.zip_cons_cons, List.zip_nil_right]
          repeat (first | rw [fin_is] | (rw [fin_cons]; intro _ _))
          rw [fin_nil]
          try (replace hm := hm.ext hwz)
          simp only [Act.put, List.setIfInBounds_toArray, List.set_cons_succ, List.set_cons_zero]
          go_wp2_with (first | ((((with_reducible show wpList _ _ _ (Oper.mk _ (Op.store _ _ _) _ _ _ _ :: _) _ _); first | ((with_reducible apply wq_stv hm); (exact rfl); infer_instance; (exact rfl); (focus ((repeat (first | exact .hd | assumption | apply Swap.tl)); done)); infer_instance; (exact rfl); (focus (first | omega | (simp; omega) | (refine Nat.lt_of_lt_of_le (BitVec.isLt _) ?_; first | omega | (simp; done) | (simp; omega) | fail) | fail))) | fail)); clear hm; intro w hm) | fail)
          go_roundw
          case rel =>
            rw [EJ.out] at hm
            exact ⟨j + 1, by omega, by go_num, hm⟩
          case measure => simp [intOf] <;> omega
        · obtain rfl : j = 16 := by omega
          have hj1 : decide (((16 : Nat) : Int) < 16) = false := decide_eq_false (by omega)
          rw [EE.out] at hm
          go_wp2_with fail
          go_roundw
          case rel => exact ⟨k + 1, by omega, by go_num, by rw [HS.out]; exact hm.drop⟩
          case measure => simp [intOf] <;> omega
    · obtain rfl : k = ks.length := by omega
      have hd : decide ((ks.length : Int) < (ks.length : Int)) = false := decide_eq_false (by omega)
      rw [List.take_length] at hm hB
      go_wp2_with (first | ((with_reducible show wpList _ _ _ (Oper.mk _ (Op.load _ _) _ _ _ _ :: _) _ _); first | ((with_reducible apply wq_ldW hm); (exact rfl); infer_instance; (exact rfl); (focus ((repeat (first | exact .hd | assumption | apply Has.tl)); done)); (focus (first | rfl | omega | (simp; done) | (simp; omega) | fail))) | fail) | ((((with_reducible show wpList _ _ _ (Oper.mk _ (Op.store _ _ _) _ _ _ _ :: _) _ _); first | ((with_reducible apply wq_stW hm); (exact rfl); infer_instance; (exact rfl); (exact rfl); (focus ((repeat (first | exact .hd | assumption | apply Swap.tl)); done)); (focus (first | rfl | omega | (simp; done) | (simp; omega) | fail)); (focus (first | rfl | omega | (simp; done) | (simp; omega) | fail)); (focus (first | exact one_map _ | (simp [one8, one32, one64]; done) | fail))) | fail)); clear hm; intro w hm) | fail)
      refine ret_own hm rfl rfl (by infer_instance) (by repeat (first | exact Has.hd | assumption | apply Has.tl)) (by first | rfl | omega | (simp only [zeros_length, zer_length, tab_length, part_length, setN_length, List.length_map, List.length_cons, List.length_nil, List.length_append, List.length_take, List.length_drop, List.length_replicate, blk_length, putL_length] <;> omega) | fail) rfl ⟨rfl, hm.x⟩

theorem tplus_two (a b : List Byte) (ha : a.length = 16) (p : Option Addr) (c : Nat) (w0 : World) (hk : RdK w0 p 16 [a, b]) (hc : 2 ≤ c) : Gives Tryd.prog 75 #[.slice p 2 c] w0 (A8 (bothL a b)) := by
  have := tplus_any [a, b] p c w0 hk hc (by simp)
  rwa [show plusL (zer 16) [a, b] = bothL a b from by show bothL (bothL (zer 16) a) b = _; rw [zer_bothL _ ha]] at this
theorem tplus_three (a b d : List Byte) (ha : a.length = 16) (p : Option Addr) (c : Nat) (w0 : World) (hk : RdK w0 p 16 [a, b, d]) (hc : 3 ≤ c) : Gives Tryd.prog 75 #[.slice p 3 c] w0 (A8 (bothL (bothL a b) d)) := by
  have := tplus_any [a, b, d] p c w0 hk hc (by simp)
  rwa [show plusL (zer 16) [a, b, d] = bothL (bothL a b) d from by show bothL (bothL (bothL (zer 16) a) b) d = _; rw [zer_bothL _ ha]] at this

end Go.Proofs.YtmgopjeaehmbfaaDoor
