/-
  Layer 3: rounds of no tables; a box. No conditions beyond those written in each theorem.
  Layer 3: the document's way back, and its rounds. No conditions beyond those written in each theorem.
-/
import Derived.Test.YtmgopjeaehmbfaaDoorTurn1
import Derived.Test.YtmgopjeaehmbfaaDoorTurn6
import Derived.Test.YtmgopjeaehmbfaaDoorTurn8
import Derived.Test.YtmgopjeaehmbfaaDoorTurn13
namespace Go.Proofs.YtmgopjeaehmbfaaDoor
open Go Go.RowKit
set_option maxRecDepth 100000
set_option linter.unusedVariables false
set_option linter.unusedSimpArgs false

set_option maxHeartbeats 1000000 in
theorem round_nil (b key : List Byte) (hb : b.length = 16) (hk : key.length = 16) (w0 : World) : Gives Tryd.prog 95 #[.pointer none, A8 b, A8 key] w0 (A8 (zer 16)) := by
  unfold Gives
  have hm := Own.start w0
  go_enter Tryd.func95, Tryd.ntmps95
  go_wp2_with (first | ((with_reducible show wpList _ _ _ (Oper.mk _ (Op.load _ _) _ _ _ _ :: _) _ _); first | ((with_reducible apply wq_ldW hm); (exact rfl); infer_instance; (exact rfl); (focus ((repeat (first | exact .hd | assumption | apply Has.tl)); done)); (focus (first | rfl | omega | (simp; done) | (simp; omega) | fail))) | fail) | ((((with_reducible show wpList _ _ _ (Oper.mk _ (Op.store _ _ _) _ _ _ _ :: _) _ _); first | ((with_reducible apply wq_stW hm); (exact rfl); infer_instance; (exact rfl); (exact rfl); (focus ((repeat (first | exact .hd | assumption | apply Swap.tl)); done)); (focus (first | rfl | omega | (simp; done) | (simp; omega) | fail)); (focus (first | rfl | omega | (simp; done) | (simp; omega) | fail)); (focus (first | exact one_map _ | (simp [one8, one32, one64]; done) | fail))) | fail)); clear hm; intro w hm) | ((first | ((with_reducible show wpList _ _ _ (Oper.mk _ (Op.alloc _) _ _ _ _ :: _) _ _); first | ((with_reducible apply wq_new hm); (exact rfl); infer_instance) | fail) | ((with_reducible show wpList _ _ _ (Oper.mk _ (Op.box _ _) _ _ _ _ :: _) _ _); first | ((with_reducible apply wq_boxN hm); (exact rfl); (exact rfl)) | fail)); clear hm; (first | (have hx_ := g1; clear hx_; (first | (have hx_ := g2; clear hx_; (first | (have hx_ := g3; clear hx_; (first | (have hx_ := g4; clear hx_; (first | (have hx_ := g5; clear hx_; (first | (have hx_ := g6; clear hx_; (first | (have hx_ := g7; clear hx_; (first | (have hx_ := g8; clear hx_; (first | (have hx_ := g9; clear hx_; intro g10) | intro g9)) | intro g8)) | intro g7)) | intro g6)) | intro g5)) | intro g4)) | intro g3)) | intro g2)) | intro g1); intro w hm) | fail)
  refine ret_own hm rfl rfl (by infer_instance) (by repeat (first | exact Has.hd | assumption | apply Has.tl)) (by first | rfl | omega | (simp only [zeros_length, zer_length, tab_length, part_length, setN_length, List.length_map, List.length_cons, List.length_nil, List.length_append, List.length_take, List.length_drop, List.length_replicate, blk_length, putL_length] <;> omega) | fail) rfl ⟨rfl, hm.x⟩
end Go.Proofs.YtmgopjeaehmbfaaDoor
namespace Go.Proofs.YtmgopjeaehmbfaaDoor
open Go Go.RowKit
set_option maxRecDepth 100000
set_option linter.unusedVariables false
set_option linter.unusedSimpArgs false

def shiftBL (b : List Byte) : List Byte := tab 16 fun i => nth b (ush i)
theorem shiftBL_length (b : List Byte) : (shiftBL b).length = 16 := tab_length
theorem mixB_cmb (by_ b : List Byte) (i : Nat) : mixB by_ b i 4 = cmb by_ (i % 4) fun k => nth b (k + 4 * (i / 4)) := by
  simp only [mixB, BitVec.zero_xor, cmb, Nat.add_comm (4 * (i / 4))]
theorem mix_unc (b : List Byte) : mixL unmixesL b = uncL b := tab_ext fun i _ => by rw [mixB_cmb, uncB_cmb]
theorem tabs_back (x : Byte) : nth (tabs.drop 256) x.toNat = bxBack x := by simp only [nth, bxBack, List.getD_eq_getElem?_getD, List.getElem?_drop]
theorem drop256_length : (tabs.drop 256).length = 256 := by simp [tabs_length]
theorem unb_doc (b t : List Byte) (ht : ∀ x : Byte, nth t x.toNat = bxBack x) : subL t (shiftBL b) = unbL b := by
  apply nth_ext (by rw [subL_length, unbL_length])
  intro i hi
  rw [subL_length] at hi
  rw [subL, nth_tab hi, ht, shiftBL, nth_tab hi, unbL_nth _ _ hi]

set_option maxHeartbeats 1000000 in
theorem rshiftB_any (b : List Byte) (hb : b.length = 16) (w0 : World) : Gives Tryd.prog 126 #[A8 b, .bool true] w0 (A8 (shiftBL b)) := by
  unfold Gives
  have hm := Own.start w0
  have hb1 := Nat.le_of_eq hb
  have hb2 := Nat.le_of_eq hb.symm
  clear hb
  unfold shiftBL
  go_enter Tryd.func126, Tryd.ntmps126
  go_wp2_with (first | ((first | ((with_reducible show wpList _ _ _ (Oper.mk _ (Op.alloc _) _ _ _ _ :: _) _ _); first | ((with_reducible apply wq_new hm); (exact rfl); infer_instance) | fail) | ((with_reducible show wpList _ _ _ (Oper.mk _ (Op.box _ _) _ _ _ _ :: _) _ _); first | ((with_reducible apply wq_boxN hm); (exact rfl); (exact rfl)) | fail)); clear hm; (first | (have hx_ := g1; clear hx_; (first | (have hx_ := g2; clear hx_; (first | (have hx_ := g3; clear hx_; (first | (have hx_ := g4; clear hx_; (first | (have hx_ := g5; clear hx_; (first | (have hx_ := g6; clear hx_; (first | (have hx_ := g7; clear hx_; (first | (have hx_ := g8; clear hx_; (first | (have hx_ := g9; clear hx_; intro g10) | intro g9)) | intro g8)) | intro g7)) | intro g6)) | intro g5)) | intro g4)) | intro g3)) | intro g2)) | intro g1); intro w hm) | fail)
  go_loopw [6] (fun i wr => ∃ k : Nat, k ≤ 16 ∧ i = .int .i64 k ∧ Own w0 wr [⟨g3, 27, (part 16 k (fun i => nth b (ush i)) fun _ => 0).map v8⟩, ⟨g2, 27, (zer 16).map v8⟩, ⟨g1, 27, b.map v8⟩]) (fun i _ => 16 - (intOf i).toNat)
  case atStart => exact ⟨0, by omega, rfl, by rw [← zer_start]; exact hm⟩
  case round =>
    obtain ⟨k, hk, rfl, hm⟩ := hrel
    by_cases hlt : k < 16
    · have hd : decide ((k : Int) < 16) = true := by simp; omega
      obtain ⟨r, hr, hr4⟩ : ∃ r : Nat, k % 4 = r ∧ r < 4 := ⟨_, rfl, Nat.mod_lt _ (by omega)⟩
      obtain ⟨c, hc, hc4⟩ : ∃ c : Nat, k / 4 = c ∧ c < 4 := ⟨_, rfl, by omega⟩
      obtain ⟨s, hs, hs4⟩ : ∃ s : Nat, (c + r) % 4 = s ∧ s < 4 := ⟨_, rfl, Nat.mod_lt _ (by omega)⟩
      obtain ⟨q, hq, hq4⟩ : ∃ q : Nat, (c + 4 - r) % 4 = q ∧ q < 4 := ⟨_, rfl, Nat.mod_lt _ (by omega)⟩
      have a1 : (k : Int) % 4 = (r : Int) := by omega
      have a2 : (k : Int).tmod 4 = (r : Int) := by rw [Int.tmod_eq_emod_of_nonneg (by omega)]; exact a1
      have a3 : (k : Int) / 4 = (c : Int) := by omega
      have a4 : (k : Int).tdiv 4 = (c : Int) := by rw [Int.tdiv_eq_ediv_of_nonneg (by omega)]; exact a3
      have b5 : ((c : Int) + (r : Int)) % 4 = (s : Int) := by omega
      have b6 : ((c : Int) + (r : Int)).tmod 4 = (s : Int) := by rw [Int.tmod_eq_emod_of_nonneg (by omega)]; exact b5
      have a5 : ((c : Int) + 4 - (r : Int)) % 4 = (q : Int) := by omega
      have a6 : ((c : Int) + 4 - (r : Int)).tmod 4 = (q : Int) := by rw [Int.tmod_eq_emod_of_nonneg (by omega)]; exact a5
      have a7 : 4 * (q : Int) + (r : Int) < 16 := by omega
      have a8 : 0 ≤ 4 * (q : Int) + (r : Int) := by omega
      have a9 : (4 * (q : Int) + (r : Int)).toNat = 4 * q + r := by omega
      have e1 : nth b (ush k) = nth b (4 * q + r) := by rw [ush, hr, hc, hq, Nat.add_comm]
      have E1 := Lib.hid e1
      clear e1 hr hc hq hs
      go_wp2_with (first | ((with_reducible show wpList _ _ _ (Oper.mk _ (Op.load _ _) _ _ _ _ :: _) _ _); first | ((with_reducible apply wq_ldv hm); (exact rfl); infer_instance; (exact rfl); (focus ((repeat (first | exact .hd | assumption | apply Has.tl)); done)); (focus (first | omega | (simp; omega) | (refine Nat.lt_of_lt_of_le (BitVec.isLt _) ?_; first | omega | (simp; done) | (simp; omega) | fail) | fail))) | fail) | ((((with_reducible show wpList _ _ _ (Oper.mk _ (Op.store _ _ _) _ _ _ _ :: _) _ _); first | ((with_reducible apply wq_stv hm); (exact rfl); infer_instance; (exact rfl); (focus ((repeat (first | exact .hd | assumption | apply Swap.tl)); done)); infer_instance; (exact rfl); (focus (first | omega | (simp; omega) | (refine Nat.lt_of_lt_of_le (BitVec.isLt _) ?_; first | omega | (simp; done) | (simp; omega) | fail) | fail))) | fail)); clear hm; intro w hm) | fail)
      go_roundw
      case rel =>
        rw [part_set' hlt E1.out.symm] at hm
        exact ⟨k + 1, by omega, by go_num, hm⟩
      case measure => simp [intOf] <;> omega
    · obtain rfl : k = 16 := by omega
      rw [part_all] at hm
      go_wp2_with (first | ((with_reducible show wpList _ _ _ (Oper.mk _ (Op.load _ _) _ _ _ _ :: _) _ _); first | ((with_reducible apply wq_ldW hm); (exact rfl); infer_instance; (exact rfl); (focus ((repeat (first | exact .hd | assumption | apply Has.tl)); done)); (focus (first | rfl | omega | (simp; done) | (simp; omega) | fail))) | fail) | ((((with_reducible show wpList _ _ _ (Oper.mk _ (Op.store _ _ _) _ _ _ _ :: _) _ _); first | ((with_reducible apply wq_stW hm); (exact rfl); infer_instance; (exact rfl); (exact rfl); (focus ((repeat (first | exact .hd | assumption | apply Swap.tl)); done)); (focus (first | rfl | omega | (simp; done) | (simp; omega) | fail)); (focus (first | rfl | omega | (simp; done) | (simp; omega) | fail)); (focus (first | exact one_map _ | (simp [one8, one32, one64]; done) | fail))) | fail)); clear hm; intro w hm) | fail)
      refine ret_own hm rfl rfl (by infer_instance) (by repeat (first | exact Has.hd | assumption | apply Has.tl)) (by first | rfl | omega | (simp only [zeros_length, zer_length, tab_length, part_length, setN_length, List.length_map, List.length_cons, List.length_nil, List.length_append, List.length_take, List.length_drop, List.length_replicate, blk_length, putL_length] <;> omega) | fail) rfl ⟨rfl, hm.x⟩

theorem build_unmixes (w : World) : (Instr.build 124 #[(0, .int .u8 14), (1, .int .u8 11), (2, .int .u8 13), (3, .int .u8 9)]).run Tryd.prog w = .ok (A8 unmixesL) w := by kernel_rfl
set_option maxHeartbeats 2000000 in
theorem rrounds_any (b : List Byte) (ks : List (List Byte)) (p : Option Addr) (c : Nat) (hb : b.length = 16) (w0 : World) (hk : RdK w0 p 16 ks) (hc : ks.length ≤ c) (hcm : ks.length ≤ 70368744177664) : Gives Tryd.prog 86 #[A8 tabs, A8 b, .slice p ks.length c] w0 (A8 (rnds b ks)) := by
  unfold Gives
  have hm := Own.start w0
  have hb1 := Nat.le_of_eq hb
  have hb2 := Nat.le_of_eq hb.symm
  have HK := Lib.hid hk
  have HB := Lib.hid hb
  have tl := tabs_length
  clear hb hk
  go_enter Tryd.func86, Tryd.ntmps86
  go_wp2_with (first | ((first | ((with_reducible show wpList _ _ _ (Oper.mk _ (Op.alloc _) _ _ _ _ :: _) _ _); first | ((with_reducible apply wq_new hm); (exact rfl); infer_instance) | fail) | ((with_reducible show wpList _ _ _ (Oper.mk _ (Op.box _ _) _ _ _ _ :: _) _ _); first | ((with_reducible apply wq_boxN hm); (exact rfl); (exact rfl)) | fail)); clear hm; (first | (have hx_ := g1; clear hx_; (first | (have hx_ := g2; clear hx_; (first | (have hx_ := g3; clear hx_; (first | (have hx_ := g4; clear hx_; (first | (have hx_ := g5; clear hx_; (first | (have hx_ := g6; clear hx_; (first | (have hx_ := g7; clear hx_; (first | (have hx_ := g8; clear hx_; (first | (have hx_ := g9; clear hx_; intro g10) | intro g9)) | intro g8)) | intro g7)) | intro g6)) | intro g5)) | intro g4)) | intro g3)) | intro g2)) | intro g1); intro w hm) | fail)
  go_loopw [7] (fun i wr => ∃ k : Nat, k ≤ ks.length ∧ i = .int .i64 k ∧ Own w0 wr [⟨g3, 27, (zer 16).map v8⟩, ⟨g2, 27, (rnds b (ks.take k)).map v8⟩, ⟨g1, 32, tabs.map v8⟩]) (fun i _ => ks.length - (intOf i).toNat)
  case atStart => exact ⟨0, by omega, rfl, hm⟩
  case round =>
    obtain ⟨k, hk, rfl, hm⟩ := hrel
    have hB := rnds_length (ks.take k) b HB.out
    by_cases hlt : k < ks.length
    · obtain ⟨a, rfl⟩ := HK.out.addr (by omega) (by omega)
      obtain ⟨hK, hKl⟩ := HK.out.at (by omega) k hlt
      have hS := rnds_take b ks k hlt
      simp only [Option.getD_some] at hK
      generalize rnds b (ks.take k) = B at *
      generalize ks.getD k [] = K at *
      have HS := Lib.hid hS
      have HK2 := Lib.hid (hK.ext hm.x)
      have CR := Lib.hid fun wx => rround_any B K hB hKl wx
      have hl1 : (rnd B K).length = 16 := rnd_length _ _
      generalize rnd B K = C at *
      have hlt2 : (k : Int) < (ks.length : Int) := by omega
      clear hK
      go_wp2_with fail
      refine region_at 7 (fun w' => Ext _ w') 22 (by kernel_rfl) (by kernel_rfl) rfl (fun _ _ h k => h.trans k) (drew_ext _) ?_
      simp only [List.take_succ_cons, List.take_zero, List.drop_succ_cons, List.drop_zero, List.map_cons, List.map_nil]
      repeat (first
          | (apply walk_is rfl rfl rfl; (intro wx hwx; (with_reducible apply gq_rdW (HK2.out.ext hwx)); infer_instance; exact rfl; exact hKl); (simp only [Act.put, List.setIfInBounds_toArray, List.set_cons_succ, List.set_cons_zero]; rfl))
          | (apply walk_is rfl rfl rfl
             · (intro wx hwx; first | ((with_reducible show gives _ _ _ (Sem.run _ (execOp _ (Oper.mk _ (Op.load _ _) _ _ _ _)) _)); first | ((with_reducible apply gq_ldv (hm.ext hwx)); infer_instance; (exact rfl); (focus ((repeat (first | exact .hd | assumption | apply Has.tl)); done)); (focus (first | omega | (simp; omega) | (refine Nat.lt_of_lt_of_le (BitVec.isLt _) ?_; first | omega | (simp; done) | (simp; omega) | fail) | fail))) | ((with_reducible apply gq_ldW (hm.ext hwx)); infer_instance; (exact rfl); (focus ((repeat (first | exact .hd | assumption | apply Has.tl)); done)); (focus (first | rfl | omega | (simp; done) | (simp; omega) | fail))) | ((with_reducible apply gq_ld1 (hm.ext hwx)); infer_instance; (exact rfl); (focus ((repeat (first | exact .hd | assumption | apply Has.tl)); done)); (exact rfl)) | fail) | (go_simp; (try go_bits); first | exact gives_same | exact gives_skip | with_reducible exact gives_call (CR.out wx)))
             · (simp only [Act.put, List.setIfInBounds_toArray, List.set_cons_succ, List.set_cons_zero]; rfl))
          | (apply walk_not rfl rfl rfl
             · (simp only [Act.put, List.setIfInBounds_toArray, List.set_cons_succ, List.set_cons_zero]; rfl)))
      intro wz hwz
      simp only [List.zip_cons_cons, List.zip_nil_right]
      repeat (first | rw [fin_is] | (rw [fin_cons]; intro _ _))
      rw [fin_nil]
      try (replace hm := hm.ext hwz)
      simp only [Act.put, List.setIfInBounds_toArray, List.set_cons_succ, List.set_cons_zero]
      go_wp2_with (first | ((((with_reducible show wpList _ _ _ (Oper.mk _ (Op.store _ _ _) _ _ _ _ :: _) _ _); first | ((with_reducible apply wq_stW hm); (exact rfl); infer_instance; (exact rfl); (exact rfl); (focus ((repeat (first | exact .hd | assumption | apply Swap.tl)); done)); (focus (first | rfl | omega | (simp; done) | (simp; omega) | fail)); (focus (first | rfl | omega | (simp; done) | (simp; omega) | fail)); (focus (first | exact one_map _ | (simp [one8, one32, one64]; done) | fail))) | fail)); clear hm; intro w hm) | fail)
      go_roundw
      case rel => exact ⟨k + 1, by omega, by go_num, by rw [HS.out]; exact hm⟩
      case measure => simp [intOf] <;> omega
    · obtain rfl : k = ks.length := by omega
      rw [List.take_length] at hm hB
      go_wp2_with (first | ((with_reducible show wpList _ _ _ (Oper.mk _ (Op.load _ _) _ _ _ _ :: _) _ _); first | ((with_reducible apply wq_ldW hm); (exact rfl); infer_instance; (exact rfl); (focus ((repeat (first | exact .hd | assumption | apply Has.tl)); done)); (focus (first | rfl | omega | (simp; done) | (simp; omega) | fail))) | fail) | ((((with_reducible show wpList _ _ _ (Oper.mk _ (Op.store _ _ _) _ _ _ _ :: _) _ _); first | ((with_reducible apply wq_stW hm); (exact rfl); infer_instance; (exact rfl); (exact rfl); (focus ((repeat (first | exact .hd | assumption | apply Swap.tl)); done)); (focus (first | rfl | omega | (simp; done) | (simp; omega) | fail)); (focus (first | rfl | omega | (simp; done) | (simp; omega) | fail)); (focus (first | exact one_map _ | (simp [one8, one32, one64]; done) | fail))) | fail)); clear hm; intro w hm) | fail)
      refine ret_own hm rfl rfl (by infer_instance) (by repeat (first | exact Has.hd | assumption | apply Has.tl)) (by first | rfl | omega | (simp only [zeros_length, zer_length, tab_length, part_length, setN_length, List.length_map, List.length_cons, List.length_nil, List.length_append, List.length_take, List.length_drop, List.length_replicate, blk_length, putL_length] <;> omega) | fail) rfl ⟨rfl, hm.x⟩

end Go.Proofs.YtmgopjeaehmbfaaDoor
