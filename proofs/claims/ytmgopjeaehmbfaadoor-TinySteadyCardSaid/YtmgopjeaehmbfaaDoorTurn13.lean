/-
  Layer 3: rounds, one after the other; a block of a slice of blocks. No conditions beyond those written in each theorem.
-/
import Derived.Test.YtmgopjeaehmbfaaDoorTurn1
import Derived.Test.YtmgopjeaehmbfaaDoorTurnp
import Derived.Test.YtmgopjeaehmbfaaDoorOpen
namespace Go.Proofs.YtmgopjeaehmbfaaDoor
open Go Go.RowKit
set_option maxRecDepth 100000
set_option linter.unusedVariables false
set_option linter.unusedSimpArgs false

set_option maxHeartbeats 2000000 in
theorem trounds_any (g gb : Nat) (b : List Byte) (ks : List (List Byte)) (p : Option Addr) (c : Nat) (hb : b.length = 16) (w0 : World) (hk : RdK w0 p 16 ks) (hc : ks.length ≤ c) (hcm : ks.length ≤ 70368744177664) (h1 : Row w0 g 122 (tcells gb mixT unmixT)) : Gives Tryd.prog 61 #[.pointer (some ⟨g, 0, none⟩), A8 b, .slice p ks.length c] w0 (A8 (rnds b ks)) := by
  unfold Gives
  have hm := Own.start w0
  have hb1 := Nat.le_of_eq hb
  have hb2 := Nat.le_of_eq hb.symm
  have H1 := Lib.hid h1
  have HK := Lib.hid hk
  have HB := Lib.hid hb
  clear hb h1 hk
  go_enter Tryd.func61, Tryd.ntmps61
  go_wp2_with (first | ((first | ((with_reducible show wpList _ _ _ (Oper.mk _ (Op.alloc _) _ _ _ _ :: _) _ _); first | ((with_reducible apply wq_new hm); (exact rfl); infer_instance) | fail) | ((with_reducible show wpList _ _ _ (Oper.mk _ (Op.box _ _) _ _ _ _ :: _) _ _); first | ((with_reducible apply wq_boxN hm); (exact rfl); (exact rfl)) | fail)); clear hm; (first | (have hx_ := g1; clear hx_; (first | (have hx_ := g2; clear hx_; (first | (have hx_ := g3; clear hx_; (first | (have hx_ := g4; clear hx_; (first | (have hx_ := g5; clear hx_; (first | (have hx_ := g6; clear hx_; (first | (have hx_ := g7; clear hx_; (first | (have hx_ := g8; clear hx_; (first | (have hx_ := g9; clear hx_; intro g10) | intro g9)) | intro g8)) | intro g7)) | intro g6)) | intro g5)) | intro g4)) | intro g3)) | intro g2)) | intro g1); intro w hm) | fail)
  go_loopw [14] (fun i wr => ∃ k : Nat, k ≤ ks.length ∧ i = .int .i64 k ∧ Own w0 wr [⟨g2, 27, (zer 16).map v8⟩, ⟨g1, 27, (rnds b (ks.take k)).map v8⟩]) (fun i _ => ks.length - (intOf i).toNat)
  case atStart => exact ⟨0, by omega, rfl, hm⟩
  case round =>
    obtain ⟨k, hk, rfl, hm⟩ := hrel
    have hB := rnds_length (ks.take k) b HB.out
    by_cases hlt : k < ks.length
    · obtain ⟨a, rfl⟩ := HK.out.addr (by omega) (by omega)
      obtain ⟨hK, hKl⟩ := HK.out.at (by omega) k hlt
      have hS := rnds_take b ks k hlt
      simp only [Option.getD_some] at hK
      generalize rnds b (ks.take k) = B at *
      generalize ks.getD k [] = K at *
      have HS := Lib.hid hS
      have HK2 := Lib.hid hK
      have CR := Lib.hid fun wx h => round_any g gb B K hB hKl wx h
      have hl1 : (rnd B K).length = 16 := rnd_length _ _
      generalize rnd B K = C at *
      clear hK
      go_wp2_with (first | (go_at_call 95; (with_reducible refine (CR.out _ (row_ext H1.out hm.x)).mono ?_); rintro e_ w ⟨rfl, hx_⟩; replace hm := hm.ext hx_; clear hx_) | ((with_reducible apply wq_rdW (HK2.out.ext hm.x)); exact rfl; infer_instance; exact rfl; exact hKl) | ((with_reducible show wpList _ _ _ (Oper.mk _ (Op.load _ _) _ _ _ _ :: _) _ _); first | ((with_reducible apply wq_ldW hm); (exact rfl); infer_instance; (exact rfl); (focus ((repeat (first | exact .hd | assumption | apply Has.tl)); done)); (focus (first | rfl | omega | (simp; done) | (simp; omega) | fail))) | fail) | ((((with_reducible show wpList _ _ _ (Oper.mk _ (Op.store _ _ _) _ _ _ _ :: _) _ _); first | ((with_reducible apply wq_stW hm); (exact rfl); infer_instance; (exact rfl); (exact rfl); (focus ((repeat (first | exact .hd | assumption | apply Swap.tl)); done)); (focus (first | rfl | omega | (simp; done) | (simp; omega) | fail)); (focus (first | rfl | omega | (simp; done) | (simp; omega) | fail)); (focus (first | exact one_map _ | (simp [one8, one32, one64]; done) | fail))) | fail)); clear hm; intro w hm) | ((first | ((with_reducible show wpList _ _ _ (Oper.mk _ (Op.alloc _) _ _ _ _ :: _) _ _); first | ((with_reducible apply wq_new hm); (exact rfl); infer_instance) | fail)); clear hm; (first | (have hx_ := g1; clear hx_; (first | (have hx_ := g2; clear hx_; (first | (have hx_ := g3; clear hx_; (first | (have hx_ := g4; clear hx_; (first | (have hx_ := g5; clear hx_; (first | (have hx_ := g6; clear hx_; (first | (have hx_ := g7; clear hx_; (first | (have hx_ := g8; clear hx_; (first | (have hx_ := g9; clear hx_; intro g10) | intro g9)) | intro g8)) | intro g7)) | intro g6)) | intro g5)) | intro g4)) | intro g3)) | intro g2)) | intro g1); intro w hm) | fail)
      go_roundw
      case rel => exact ⟨k + 1, by omega, by go_num, by rw [HS.out]; exact hm.drop⟩
      case measure => simp [intOf] <;> omega
    · obtain rfl : k = ks.length := by omega
      rw [List.take_length] at hm hB
      go_wp2_with (first | ((with_reducible show wpList _ _ _ (Oper.mk _ (Op.load _ _) _ _ _ _ :: _) _ _); first | ((with_reducible apply wq_ldW hm); (exact rfl); infer_instance; (exact rfl); (focus ((repeat (first | exact .hd | assumption | apply Has.tl)); done)); (focus (first | rfl | omega | (simp; done) | (simp; omega) | fail))) | fail) | ((((with_reducible show wpList _ _ _ (Oper.mk _ (Op.store _ _ _) _ _ _ _ :: _) _ _); first | ((with_reducible apply wq_stW hm); (exact rfl); infer_instance; (exact rfl); (exact rfl); (focus ((repeat (first | exact .hd | assumption | apply Swap.tl)); done)); (focus (first | rfl | omega | (simp; done) | (simp; omega) | fail)); (focus (first | rfl | omega | (simp; done) | (simp; omega) | fail)); (focus (first | exact one_map _ | (simp [one8, one32, one64]; done) | fail))) | fail)); clear hm; intro w hm) | fail)
      refine ret_own hm rfl rfl (by infer_instance) (by repeat (first | exact Has.hd | assumption | apply Has.tl)) (by first | rfl | omega | (simp only [zeros_length, zer_length, tab_length, part_length, setN_length, List.length_map, List.length_cons, List.length_nil, List.length_append, List.length_take, List.length_drop, List.length_replicate, blk_length, putL_length] <;> omega) | fail) rfl ⟨rfl, hm.x⟩

end Go.Proofs.YtmgopjeaehmbfaaDoor
