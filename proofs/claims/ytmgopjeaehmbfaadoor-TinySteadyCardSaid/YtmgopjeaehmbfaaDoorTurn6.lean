/-
  Layer 3: the document's answer, step by step. No conditions beyond those written in each theorem.
  Layer 3: the document's rounds. No conditions beyond those written in each theorem.
-/
import Derived.Test.YtmgopjeaehmbfaaDoorTurn1
import Derived.Test.YtmgopjeaehmbfaaDoorGf3
namespace Go.Proofs.YtmgopjeaehmbfaaDoor
open Go Go.RowKit
set_option maxRecDepth 100000
set_option linter.unusedVariables false
set_option linter.unusedSimpArgs false

def subL (t b : List Byte) : List Byte := tab 16 fun i => nth t (nth b i).toNat
def shiftF (b : List Byte) (i : Nat) : Byte := nth b (shp (i % 4) (i / 4))
def shiftL (b : List Byte) : List Byte := tab 16 (shiftF b)
def mixB (by_ b : List Byte) (i : Nat) : Nat → Byte
  | 0 => 0#8
  | k + 1 => mixB by_ b i k ^^^ tms (nth by_ ((k + 4 - i % 4) % 4)) (nth b (4 * (i / 4) + k))
def mixL (by_ b : List Byte) : List Byte := tab 16 fun i => mixB by_ b i 4
theorem subL_length (t b : List Byte) : (subL t b).length = 16 := tab_length
theorem shiftL_length (b : List Byte) : (shiftL b).length = 16 := tab_length
theorem mixL_length (by_ b : List Byte) : (mixL by_ b).length = 16 := tab_length
theorem setN_same {n : Nat} (l : List (BitVec n)) (i : Nat) (x y : BitVec n) : setN (setN l i x) i y = setN l i y := by simp [setN]
theorem setN_nth {n : Nat} (l : List (BitVec n)) (i : Nat) (h : i < l.length) : setN l i (nth l i) = l := by
  apply List.ext_getElem (by simp [setN])
  intro j h1 h2
  simp only [setN, nth, List.getElem_set]
  split
  · rename_i e; subst e; simp [h]
  · rfl
/-- The document's round is the tables' round. -/
theorem rnd_doc (b key : List Byte) (t : List Byte) (ht : ∀ x : Byte, nth t x.toNat = bxTo x) : bothL (mixL mixesL (shiftL (subL t b))) key = rnd b key := by
  apply nth_ext (by rw [rnd_length]; exact tab_length)
  intro i hi
  rw [bothL, tab_length] at hi
  rw [rnd_nth b key i hi, bothL, nth_tab hi, mixL, nth_tab hi]
  have hs : ∀ k, k < 4 → nth (shiftL (subL t b)) (4 * (i / 4) + k) = bxTo (nth b (shp k (i / 4))) := by
    intro k hk
    rw [shiftL, nth_tab (by omega), shiftF, show (4 * (i / 4) + k) % 4 = k from by omega, show (4 * (i / 4) + k) / 4 = i / 4 from by omega, subL, nth_tab (shp_lt _ _ hk), ht]
  simp only [mixB, hs 0 (by omega), hs 1 (by omega), hs 2 (by omega), hs 3 (by omega), BitVec.zero_xor]
  rw [BitVec.xor_comm]
theorem last_doc (b key : List Byte) (t : List Byte) (ht : ∀ x : Byte, nth t x.toNat = bxTo x) : bothL (shiftL (subL t b)) key = last b key := by
  apply tab_ext
  intro i hi
  rw [shiftL, nth_tab hi, shiftF, subL, nth_tab (shp_lt _ _ (Nat.mod_lt _ (by omega))), ht]; rfl

set_option maxHeartbeats 1000000 in
theorem rsub_any (t b : List Byte) (ht : t.length = 256) (hb : b.length = 16) (w0 : World) : Gives Tryd.prog 127 #[A8 t, A8 b] w0 (A8 (subL t b)) := by
  unfold Gives
  have hm := Own.start w0
  have ht1 := Nat.le_of_eq ht
  have ht2 := Nat.le_of_eq ht.symm
  have hb1 := Nat.le_of_eq hb
  have hb2 := Nat.le_of_eq hb.symm
  have Hb := Lib.hid hb
  clear ht hb
  go_enter Tryd.func127, Tryd.ntmps127
  go_wp2_with (first | ((first | ((with_reducible show wpList _ _ _ (Oper.mk _ (Op.alloc _) _ _ _ _ :: _) _ _); first | ((with_reducible apply wq_new hm); (exact rfl); infer_instance) | fail) | ((with_reducible show wpList _ _ _ (Oper.mk _ (Op.box _ _) _ _ _ _ :: _) _ _); first | ((with_reducible apply wq_boxN hm); (exact rfl); (exact rfl)) | fail)); clear hm; (first | (have hx_ := g1; clear hx_; (first | (have hx_ := g2; clear hx_; (first | (have hx_ := g3; clear hx_; (first | (have hx_ := g4; clear hx_; (first | (have hx_ := g5; clear hx_; (first | (have hx_ := g6; clear hx_; (first | (have hx_ := g7; clear hx_; (first | (have hx_ := g8; clear hx_; (first | (have hx_ := g9; clear hx_; intro g10) | intro g9)) | intro g8)) | intro g7)) | intro g6)) | intro g5)) | intro g4)) | intro g3)) | intro g2)) | intro g1); intro w hm) | fail)
  rw [part_start (f := fun i => nth t (nth b i).toNat) Hb.out] at hm
  go_loopw [5] (fun i wr => ∃ k : Nat, k ≤ 16 ∧ i = .int .i64 k ∧ Own w0 wr [⟨g3, 27, (zer 16).map v8⟩, ⟨g2, 27, (part 16 k (fun i => nth t (nth b i).toNat) (nth b)).map v8⟩, ⟨g1, 30, t.map v8⟩]) (fun i _ => 16 - (intOf i).toNat)
  case atStart => exact ⟨0, by omega, rfl, hm⟩
  case round =>
    obtain ⟨k, hk, rfl, hm⟩ := hrel
    by_cases hlt : k < 16
    · have e1 : nth (part 16 k (fun i => nth t (nth b i).toNat) (nth b)) k = nth b k := nth_part_ge hlt (Nat.le_refl _)
      have hx := (nth b k).isLt
      have hx9 : ((nth b k).toNat : Int) < 256 := by omega
      clear hx
      go_wp2_with (first | ((with_reducible show wpList _ _ _ (Oper.mk _ (Op.load _ _) _ _ _ _ :: _) _ _); first | ((with_reducible apply wq_ldv hm); (exact rfl); infer_instance; (exact rfl); (focus ((repeat (first | exact .hd | assumption | apply Has.tl)); done)); (focus (first | omega | (simp; omega) | (refine Nat.lt_of_lt_of_le (BitVec.isLt _) ?_; first | omega | (simp; done) | (simp; omega) | fail) | fail))) | fail) | ((((with_reducible show wpList _ _ _ (Oper.mk _ (Op.store _ _ _) _ _ _ _ :: _) _ _); first | ((with_reducible apply wq_stv hm); (exact rfl); infer_instance; (exact rfl); (focus ((repeat (first | exact .hd | assumption | apply Swap.tl)); done)); infer_instance; (exact rfl); (focus (first | omega | (simp; omega) | (refine Nat.lt_of_lt_of_le (BitVec.isLt _) ?_; first | omega | (simp; done) | (simp; omega) | fail) | fail))) | fail)); clear hm; intro w hm) | fail)
      go_roundw
      case rel =>
        rw [part_set' hlt rfl] at hm
        exact ⟨k + 1, by omega, by go_num, hm⟩
      case measure => simp [intOf] <;> omega
    · obtain rfl : k = 16 := by omega
      rw [part_all] at hm
      go_wp2_with (first | ((with_reducible show wpList _ _ _ (Oper.mk _ (Op.load _ _) _ _ _ _ :: _) _ _); first | ((with_reducible apply wq_ldW hm); (exact rfl); infer_instance; (exact rfl); (focus ((repeat (first | exact .hd | assumption | apply Has.tl)); done)); (focus (first | rfl | omega | (simp; done) | (simp; omega) | fail))) | fail) | ((((with_reducible show wpList _ _ _ (Oper.mk _ (Op.store _ _ _) _ _ _ _ :: _) _ _); first | ((with_reducible apply wq_stW hm); (exact rfl); infer_instance; (exact rfl); (exact rfl); (focus ((repeat (first | exact .hd | assumption | apply Swap.tl)); done)); (focus (first | rfl | omega | (simp; done) | (simp; omega) | fail)); (focus (first | rfl | omega | (simp; done) | (simp; omega) | fail)); (focus (first | exact one_map _ | (simp [one8, one32, one64]; done) | fail))) | fail)); clear hm; intro w hm) | fail)
      refine ret_own hm rfl rfl (by infer_instance) (by repeat (first | exact Has.hd | assumption | apply Has.tl)) (by first | rfl | omega | (simp only [zeros_length, zer_length, tab_length, part_length, setN_length, List.length_map, List.length_cons, List.length_nil, List.length_append, List.length_take, List.length_drop, List.length_replicate, blk_length, putL_length] <;> omega) | fail) rfl ⟨rfl, hm.x⟩

set_option maxHeartbeats 1000000 in
theorem rshift_any (b : List Byte) (hb : b.length = 16) (w0 : World) : Gives Tryd.prog 126 #[A8 b, .bool false] w0 (A8 (shiftL b)) := by
  unfold Gives
  have hm := Own.start w0
  have hb1 := Nat.le_of_eq hb
  have hb2 := Nat.le_of_eq hb.symm
  clear hb
  go_enter Tryd.func126, Tryd.ntmps126
  go_wp2_with (first | ((first | ((with_reducible show wpList _ _ _ (Oper.mk _ (Op.alloc _) _ _ _ _ :: _) _ _); first | ((with_reducible apply wq_new hm); (exact rfl); infer_instance) | fail) | ((with_reducible show wpList _ _ _ (Oper.mk _ (Op.box _ _) _ _ _ _ :: _) _ _); first | ((with_reducible apply wq_boxN hm); (exact rfl); (exact rfl)) | fail)); clear hm; (first | (have hx_ := g1; clear hx_; (first | (have hx_ := g2; clear hx_; (first | (have hx_ := g3; clear hx_; (first | (have hx_ := g4; clear hx_; (first | (have hx_ := g5; clear hx_; (first | (have hx_ := g6; clear hx_; (first | (have hx_ := g7; clear hx_; (first | (have hx_ := g8; clear hx_; (first | (have hx_ := g9; clear hx_; intro g10) | intro g9)) | intro g8)) | intro g7)) | intro g6)) | intro g5)) | intro g4)) | intro g3)) | intro g2)) | intro g1); intro w hm) | fail)
  go_loopw [6] (fun i wr => ∃ k : Nat, k ≤ 16 ∧ i = .int .i64 k ∧ Own w0 wr [⟨g3, 27, (part 16 k (shiftF b) fun _ => 0).map v8⟩, ⟨g2, 27, (zer 16).map v8⟩, ⟨g1, 27, b.map v8⟩]) (fun i _ => 16 - (intOf i).toNat)
  case atStart => exact ⟨0, by omega, rfl, by rw [← zer_start]; exact hm⟩
  case round =>
    obtain ⟨k, hk, rfl, hm⟩ := hrel
    by_cases hlt : k < 16
    · have hd : decide ((k : Int) < 16) = true := by simp; omega
      obtain ⟨r, hr, hr4⟩ : ∃ r : Nat, k % 4 = r ∧ r < 4 := ⟨_, rfl, Nat.mod_lt _ (by omega)⟩
      obtain ⟨c, hc, hc4⟩ : ∃ c : Nat, k / 4 = c ∧ c < 4 := ⟨_, rfl, by omega⟩
      obtain ⟨q, hq, hq4⟩ : ∃ q : Nat, (c + r) % 4 = q ∧ q < 4 := ⟨_, rfl, Nat.mod_lt _ (by omega)⟩
      have a1 : (k : Int) % 4 = (r : Int) := by omega
      have a2 : (k : Int).tmod 4 = (r : Int) := by rw [Int.tmod_eq_emod_of_nonneg (by omega)]; exact a1
      have a3 : (k : Int) / 4 = (c : Int) := by omega
      have a4 : (k : Int).tdiv 4 = (c : Int) := by rw [Int.tdiv_eq_ediv_of_nonneg (by omega)]; exact a3
      have a5 : ((c : Int) + (r : Int)) % 4 = (q : Int) := by omega
      have a6 : ((c : Int) + (r : Int)).tmod 4 = (q : Int) := by rw [Int.tmod_eq_emod_of_nonneg (by omega)]; exact a5
      have a7 : 4 * (q : Int) + (r : Int) < 16 := by omega
      have a8 : 0 ≤ 4 * (q : Int) + (r : Int) := by omega
      have a9 : (4 * (q : Int) + (r : Int)).toNat = 4 * q + r := by omega
      have e1 : shiftF b k = nth b (4 * q + r) := by rw [shiftF, shp, hr, hc, hq, Nat.add_comm]
      have E1 := Lib.hid e1
      clear e1 hr hc hq
      go_wp2_with (first | ((with_reducible show wpList _ _ _ (Oper.mk _ (Op.load _ _) _ _ _ _ :: _) _ _); first | ((with_reducible apply wq_ldv hm); (exact rfl); infer_instance; (exact rfl); (focus ((repeat (first | exact .hd | assumption | apply Has.tl)); done)); (focus (first | omega | (simp; omega) | (refine Nat.lt_of_lt_of_le (BitVec.isLt _) ?_; first | omega | (simp; done) | (simp; omega) | fail) | fail))) | fail) | ((((with_reducible show wpList _ _ _ (Oper.mk _ (Op.store _ _ _) _ _ _ _ :: _) _ _); first | ((with_reducible apply wq_stv hm); (exact rfl); infer_instance; (exact rfl); (focus ((repeat (first | exact .hd | assumption | apply Swap.tl)); done)); infer_instance; (exact rfl); (focus (first | omega | (simp; omega) | (refine Nat.lt_of_lt_of_le (BitVec.isLt _) ?_; first | omega | (simp; done) | (simp; omega) | fail) | fail))) | fail)); clear hm; intro w hm) | fail)
      go_roundw
      case rel =>
        rw [part_set' hlt E1.out.symm] at hm
        exact ⟨k + 1, by omega, by go_num, hm⟩
      case measure => simp [intOf] <;> omega
    · obtain rfl : k = 16 := by omega
      rw [part_all] at hm
      go_wp2_with (first | ((with_reducible show wpList _ _ _ (Oper.mk _ (Op.load _ _) _ _ _ _ :: _) _ _); first | ((with_reducible apply wq_ldW hm); (exact rfl); infer_instance; (exact rfl); (focus ((repeat (first | exact .hd | assumption | apply Has.tl)); done)); (focus (first | rfl | omega | (simp; done) | (simp; omega) | fail))) | fail) | ((((with_reducible show wpList _ _ _ (Oper.mk _ (Op.store _ _ _) _ _ _ _ :: _) _ _); first | ((with_reducible apply wq_stW hm); (exact rfl); infer_instance; (exact rfl); (exact rfl); (focus ((repeat (first | exact .hd | assumption | apply Swap.tl)); done)); (focus (first | rfl | omega | (simp; done) | (simp; omega) | fail)); (focus (first | rfl | omega | (simp; done) | (simp; omega) | fail)); (focus (first | exact one_map _ | (simp [one8, one32, one64]; done) | fail))) | fail)); clear hm; intro w hm) | fail)
      refine ret_own hm rfl rfl (by infer_instance) (by repeat (first | exact Has.hd | assumption | apply Has.tl)) (by first | rfl | omega | (simp only [zeros_length, zer_length, tab_length, part_length, setN_length, List.length_map, List.length_cons, List.length_nil, List.length_append, List.length_take, List.length_drop, List.length_replicate, blk_length, putL_length] <;> omega) | fail) rfl ⟨rfl, hm.x⟩

set_option maxHeartbeats 2000000 in
theorem rmix_any (b by_ : List Byte) (hb : b.length = 16) (hy : by_.length = 4) (w0 : World) : Gives Tryd.prog 125 #[A8 b, A8 by_] w0 (A8 (mixL by_ b)) := by
  unfold Gives
  have hm := Own.start w0
  have hb1 := Nat.le_of_eq hb
  have hb2 := Nat.le_of_eq hb.symm
  have hy1 := Nat.le_of_eq hy
  have hy2 := Nat.le_of_eq hy.symm
  clear hb hy
  go_enter Tryd.func125, Tryd.ntmps125
  go_wp2_with (first | ((first | ((with_reducible show wpList _ _ _ (Oper.mk _ (Op.alloc _) _ _ _ _ :: _) _ _); first | ((with_reducible apply wq_new hm); (exact rfl); infer_instance) | fail) | ((with_reducible show wpList _ _ _ (Oper.mk _ (Op.box _ _) _ _ _ _ :: _) _ _); first | ((with_reducible apply wq_boxN hm); (exact rfl); (exact rfl)) | fail)); clear hm; (first | (have hx_ := g1; clear hx_; (first | (have hx_ := g2; clear hx_; (first | (have hx_ := g3; clear hx_; (first | (have hx_ := g4; clear hx_; (first | (have hx_ := g5; clear hx_; (first | (have hx_ := g6; clear hx_; (first | (have hx_ := g7; clear hx_; (first | (have hx_ := g8; clear hx_; (first | (have hx_ := g9; clear hx_; intro g10) | intro g9)) | intro g8)) | intro g7)) | intro g6)) | intro g5)) | intro g4)) | intro g3)) | intro g2)) | intro g1); intro w hm) | fail)
  go_loopw [6] (fun i wr => ∃ k : Nat, k ≤ 16 ∧ i = .int .i64 k ∧ Own w0 wr [⟨g4, 27, (part 16 k (fun i => mixB by_ b i 4) fun _ => 0).map v8⟩, ⟨g3, 27, (zer 16).map v8⟩, ⟨g2, 124, by_.map v8⟩, ⟨g1, 27, b.map v8⟩]) (fun i _ => 16 - (intOf i).toNat)
  case atStart => exact ⟨0, by omega, rfl, by rw [← zer_start]; exact hm⟩
  case round =>
    obtain ⟨k, hk, rfl, hm⟩ := hrel
    by_cases hlt : k < 16
    · have hd : decide ((k : Int) < 16) = true := by simp; omega
      have e0 : nth (part 16 k (fun i => mixB by_ b i 4) fun _ => 0) k = 0#8 := nth_part_ge hlt (Nat.le_refl _)
      have hm1 : setN (part 16 k (fun i => mixB by_ b i 4) fun _ => 0) k (mixB by_ b k 0) = part 16 k (fun i => mixB by_ b i 4) fun _ => 0 := by
        have := setN_nth (part 16 k (fun i => mixB by_ b i 4) fun _ => 0) k (by rw [part_length]; omega)
        rwa [e0] at this
      rw [← hm1] at hm
      clear e0 hm1
      obtain ⟨r, hr, hr4⟩ : ∃ r : Nat, k % 4 = r ∧ r < 4 := ⟨_, rfl, Nat.mod_lt _ (by omega)⟩
      obtain ⟨c, hc, hc4⟩ : ∃ c : Nat, k / 4 = c ∧ c < 4 := ⟨_, rfl, by omega⟩
      have a1 : (k : Int) % 4 = (r : Int) := by omega
      have a2 : (k : Int).tmod 4 = (r : Int) := by rw [Int.tmod_eq_emod_of_nonneg (by omega)]; exact a1
      have a3 : (k : Int) / 4 = (c : Int) := by omega
      have a4 : (k : Int).tdiv 4 = (c : Int) := by rw [Int.tdiv_eq_ediv_of_nonneg (by omega)]; exact a3
      have Hr := Lib.hid hr
      have Hc := Lib.hid hc
      clear hr hc
      go_wp2_with fail
      go_loopw [7] (fun j wr => ∃ n : Nat, n ≤ 4 ∧ j = .int .i64 n ∧ Own w0 wr [⟨g4, 27, (setN (part 16 k (fun i => mixB by_ b i 4) fun _ => 0) k (mixB by_ b k n)).map v8⟩, ⟨g3, 27, (zer 16).map v8⟩, ⟨g2, 124, by_.map v8⟩, ⟨g1, 27, b.map v8⟩]) (fun j _ => 4 - (intOf j).toNat)
      case atStart => exact ⟨0, by omega, rfl, hm⟩
      case round =>
        obtain ⟨n, hn, rfl, hm⟩ := hrel
        by_cases hln : n < 4
        · obtain ⟨q, hq, hq4⟩ : ∃ q : Nat, (n + 4 - r) % 4 = q ∧ q < 4 := ⟨_, rfl, Nat.mod_lt _ (by omega)⟩
          have a5 : ((n : Int) + 4 - (r : Int)) % 4 = (q : Int) := by omega
          have a6 : ((n : Int) + 4 - (r : Int)).tmod 4 = (q : Int) := by rw [Int.tmod_eq_emod_of_nonneg (by omega)]; exact a5
          have hki : (k : Int) < 16 := by omega
          have hqi : (q : Int) < 4 := by omega
          have a7 : (c : Int) * 4 + (n : Int) < 16 := by omega
          have a8 : 0 ≤ (c : Int) * 4 + (n : Int) := by omega
          have a9 : ((c : Int) * 4 + (n : Int)).toNat = c * 4 + n := by omega
          have e2 : nth (setN (part 16 k (fun i => mixB by_ b i 4) fun _ => 0#8) k (mixB by_ b k n)) k = mixB by_ b k n := by rw [nth_set (by rw [part_length]; omega), if_pos rfl]
          have E2 := Lib.hid e2
          have e1 : mixB by_ b k (n + 1) = mixB by_ b k n ^^^ tms (nth by_ q) (nth b (c * 4 + n)) := by rw [mixB, Hr.out, Hc.out, hq, Nat.mul_comm 4 c]
          have E1 := Lib.hid e1
          clear e1 hq
          go_wp2_with fail
          refine region_at 22 (fun w' => Ext _ w') 39 (by kernel_rfl) (by kernel_rfl) rfl (fun _ _ h k => h.trans k) (drew_ext _) ?_
          simp only [List.take_succ_cons, List.take_zero, List.drop_succ_cons, List.drop_zero, List.map_cons, List.map_nil]
          repeat (first
              | (apply walk_is rfl rfl rfl
                 · (intro wx hwx; first | ((with_reducible show gives _ _ _ (Sem.run _ (execOp _ (Oper.mk _ (Op.load _ _) _ _ _ _)) _)); first | ((with_reducible apply gq_ldv (hm.ext hwx)); infer_instance; (exact rfl); (focus ((repeat (first | exact .hd | assumption | apply Has.tl)); done)); (focus (first | omega | (simp; omega) | (refine Nat.lt_of_lt_of_le (BitVec.isLt _) ?_; first | omega | (simp; done) | (simp; omega) | fail) | fail))) | ((with_reducible apply gq_ldW (hm.ext hwx)); infer_instance; (exact rfl); (focus ((repeat (first | exact .hd | assumption | apply Has.tl)); done)); (focus (first | rfl | omega | (simp; done) | (simp; omega) | fail))) | ((with_reducible apply gq_ld1 (hm.ext hwx)); infer_instance; (exact rfl); (focus ((repeat (first | exact .hd | assumption | apply Has.tl)); done)); (exact rfl)) | fail) | (go_simp; (try go_bits); first | exact gives_same | exact gives_skip | with_reducible exact gives_call (Gives.of_same (rtimes_tms _ _ wx))))
                 · (simp only [Act.put, List.setIfInBounds_toArray, List.set_cons_succ, List.set_cons_zero]; rfl))
              | (apply walk_not rfl rfl rfl
                 · (simp only [Act.put, List.setIfInBounds_toArray, List.set_cons_succ, List.set_cons_zero]; rfl)))
          intro wz hwz
          simp only [List.zip_cons_cons, List.zip_nil_right]
          repeat (first | rw [fin_is] | (rw [fin_cons]; intro _ _))
          rw [fin_nil]
          try (replace hm := hm.ext hwz)
          simp only [Act.put, List.setIfInBounds_toArray, List.set_cons_succ, List.set_cons_zero]
          go_wp2_with (first | ((((with_reducible show wpList _ _ _ (Oper.mk _ (Op.store _ _ _) _ _ _ _ :: _) _ _); first | ((with_reducible apply wq_stv hm); (exact rfl); infer_instance; (exact rfl); (focus ((repeat (first | exact .hd | assumption | apply Swap.tl)); done)); infer_instance; (exact rfl); (focus (first | omega | (simp; omega) | (refine Nat.lt_of_lt_of_le (BitVec.isLt _) ?_; first | omega | (simp; done) | (simp; omega) | fail) | fail))) | fail)); clear hm; intro w hm) | fail)
          go_roundw
          case rel =>
            rw [setN_same] at hm
            first | rw [E2.out] at hm | skip
            exact ⟨n + 1, by omega, by go_num, by rw [E1.out]; exact hm⟩
          case measure => simp [intOf] <;> omega
        · obtain rfl : n = 4 := by omega
          rw [part_set' hlt rfl] at hm
          go_wp2_with fail
          go_roundw
          case rel => exact ⟨k + 1, by omega, by go_num, hm⟩
          case measure => simp [intOf] <;> omega
    · obtain rfl : k = 16 := by omega
      rw [part_all] at hm
      go_wp2_with (first | ((with_reducible show wpList _ _ _ (Oper.mk _ (Op.load _ _) _ _ _ _ :: _) _ _); first | ((with_reducible apply wq_ldW hm); (exact rfl); infer_instance; (exact rfl); (focus ((repeat (first | exact .hd | assumption | apply Has.tl)); done)); (focus (first | rfl | omega | (simp; done) | (simp; omega) | fail))) | fail) | ((((with_reducible show wpList _ _ _ (Oper.mk _ (Op.store _ _ _) _ _ _ _ :: _) _ _); first | ((with_reducible apply wq_stW hm); (exact rfl); infer_instance; (exact rfl); (exact rfl); (focus ((repeat (first | exact .hd | assumption | apply Swap.tl)); done)); (focus (first | rfl | omega | (simp; done) | (simp; omega) | fail)); (focus (first | rfl | omega | (simp; done) | (simp; omega) | fail)); (focus (first | exact one_map _ | (simp [one8, one32, one64]; done) | fail))) | fail)); clear hm; intro w hm) | fail)
      refine ret_own hm rfl rfl (by infer_instance) (by repeat (first | exact Has.hd | assumption | apply Has.tl)) (by first | rfl | omega | (simp only [zeros_length, zer_length, tab_length, part_length, setN_length, List.length_map, List.length_cons, List.length_nil, List.length_append, List.length_take, List.length_drop, List.length_replicate, blk_length, putL_length] <;> omega) | fail) rfl ⟨rfl, hm.x⟩

/-- The document's boxes, as a value: there, and back. -/
theorem tabs_to (x : Byte) : nth (tabs.take 256) x.toNat = bxTo x := by
  have := x.isLt
  simp only [nth, bxTo, List.getD_eq_getElem?_getD, List.getElem?_take, show x.toNat < 256 by omega, if_true]
theorem take256_length : (tabs.take 256).length = 256 := by simp [tabs_length]

end Go.Proofs.YtmgopjeaehmbfaaDoor
namespace Go.Proofs.YtmgopjeaehmbfaaDoor
open Go Go.RowKit
set_option maxRecDepth 100000
set_option linter.unusedVariables false
set_option linter.unusedSimpArgs false

theorem build_mixes (w : World) : (Instr.build 124 #[(0, .int .u8 2), (1, .int .u8 3), (2, .int .u8 1), (3, .int .u8 1)]).run Tryd.prog w = .ok (A8 mixesL) w := by kernel_rfl
attribute [local simp] take256_length
theorem gq_build {P : Program} {dst : Option Tmp} {ty : TypeId} {pos : String} {aft : Array Edge} {gd : Option (Nat × Bool)} {a : Act} {w : World} {T : TypeId} {v : Value} {parts : Array (Nat × Operand)} {vs : Array (Nat × Value)} (hb : ∀ w, (Instr.build T vs).run P w = .ok v w) (hp : parts.map (fun p => (p.1, a.eval p.2)) = vs) : gives P w (Is v) ((execOp a.eval (Oper.mk dst (.build T parts) ty pos aft gd)).run P w) := by
  subst hp
  have h := hb w
  unfold execOp
  simp only [Sem.run_bind, h, Result.andThen_ok, Sem.run_pure]
  exact gives_same

/-- A part of a block of bytes, loaded. -/
theorem gq_ldA {P : Program} {dst : Option Tmp} {ty : TypeId} {pos : String} {aft : Array Edge} {gd : Option (Nat × Bool)} {a : Act} {w0 w : World} {L : List Blk} {T t : TypeId} {x : Operand} {g k n : Nat} {l l' : List Byte} (hm : Own w0 w L) (hT : Many P T n) (hx : a.eval x = .pointer (some ⟨g, k, none⟩)) (hh : Has L ⟨g, t, l.map v8⟩) (hv : (l.drop k).take n = l') (hn : l'.length = n) : gives P w (Is (A8 l')) ((execOp a.eval (Oper.mk dst (.load T x) ty pos aft gd)).run P w) :=
  gq_ldN hm hT hx hh (by rw [← List.map_drop, ← List.map_take, hv]) (by rw [List.length_map]; exact hn)
set_option maxHeartbeats 2000000 in
theorem rround_any (b key : List Byte) (hb : b.length = 16) (hk : key.length = 16) (w0 : World) : Gives Tryd.prog 110 #[A8 tabs, A8 b, A8 key] w0 (A8 (rnd b key)) := by
  unfold Gives
  have hm := Own.start w0
  have hb1 := Nat.le_of_eq hb
  have hb2 := Nat.le_of_eq hb.symm
  have hk1 := Nat.le_of_eq hk
  have hk2 := Nat.le_of_eq hk.symm
  have HB := Lib.hid hb
  have HK := Lib.hid hk
  have H1 := Lib.hid (rnd_doc b key (tabs.take 256) tabs_to)
  have tl := tabs_length
  have C0 := fun wx => rsub_any (tabs.take 256) b take256_length HB.out wx
  have C1 := fun wx => rshift_any (subL (tabs.take 256) b) (subL_length _ _) wx
  have C2 := fun wx => rmix_any (shiftL (subL (tabs.take 256) b)) mixesL (shiftL_length _) rfl wx
  have C3 := fun wx => sixteen_any (mixL mixesL (shiftL (subL (tabs.take 256) b))) key (mixL_length _ _) HK.out wx
  rw [H1.out] at C3
  have D0 := Lib.hid C0
  have D1 := Lib.hid C1
  have D2 := Lib.hid C2
  have D3 := Lib.hid C3
  clear hb hk H1 C0 C1 C2 C3
  go_enter Tryd.func110, Tryd.ntmps110
  go_wp2_with (first | ((first | ((with_reducible show wpList _ _ _ (Oper.mk _ (Op.alloc _) _ _ _ _ :: _) _ _); first | ((with_reducible apply wq_new hm); (exact rfl); infer_instance) | fail) | ((with_reducible show wpList _ _ _ (Oper.mk _ (Op.box _ _) _ _ _ _ :: _) _ _); first | ((with_reducible apply wq_boxN hm); (exact rfl); (exact rfl)) | fail)); clear hm; (first | (have hx_ := g1; clear hx_; (first | (have hx_ := g2; clear hx_; (first | (have hx_ := g3; clear hx_; (first | (have hx_ := g4; clear hx_; (first | (have hx_ := g5; clear hx_; (first | (have hx_ := g6; clear hx_; (first | (have hx_ := g7; clear hx_; (first | (have hx_ := g8; clear hx_; (first | (have hx_ := g9; clear hx_; intro g10) | intro g9)) | intro g8)) | intro g7)) | intro g6)) | intro g5)) | intro g4)) | intro g3)) | intro g2)) | intro g1); intro w hm) | fail)
  refine region_at 9 (fun w' => Ext _ w') 16 (by kernel_rfl) (by kernel_rfl) rfl (fun _ _ h k => h.trans k) (drew_ext _) ?_
  simp only [List.take_succ_cons, List.take_zero, List.drop_succ_cons, List.drop_zero, List.map_cons, List.map_nil]
  repeat (first
      | (apply walk_is rfl rfl rfl; (intro wx hwx; (with_reducible apply gq_ldA (l := tabs) (l' := tabs.take 256) (hm.ext hwx)); infer_instance; (exact rfl); (focus ((repeat (first | exact .hd | assumption | apply Has.tl)); done)); (focus (rw [List.drop_zero])); (focus (exact take256_length))); (simp only [Act.put, List.setIfInBounds_toArray, List.set_cons_succ, List.set_cons_zero]; rfl))
      | (apply walk_is rfl rfl rfl; (intro wx hwx; (with_reducible apply gq_build build_mixes); (first | rfl | simp [Act.eval] | kernel_rfl)); (simp only [Act.put, List.setIfInBounds_toArray, List.set_cons_succ, List.set_cons_zero]; rfl))
      | (apply walk_is rfl rfl rfl
         · (intro wx hwx; first | ((with_reducible show gives _ _ _ (Sem.run _ (execOp _ (Oper.mk _ (Op.load _ _) _ _ _ _)) _)); first | ((with_reducible apply gq_ldv (hm.ext hwx)); infer_instance; (exact rfl); (focus ((repeat (first | exact .hd | assumption | apply Has.tl)); done)); (focus (first | omega | (simp; omega) | (refine Nat.lt_of_lt_of_le (BitVec.isLt _) ?_; first | omega | (simp; done) | (simp; omega) | fail) | fail))) | ((with_reducible apply gq_ldW (hm.ext hwx)); infer_instance; (exact rfl); (focus ((repeat (first | exact .hd | assumption | apply Has.tl)); done)); (focus (first | rfl | omega | (simp; done) | (simp; omega) | fail))) | ((with_reducible apply gq_ld1 (hm.ext hwx)); infer_instance; (exact rfl); (focus ((repeat (first | exact .hd | assumption | apply Has.tl)); done)); (exact rfl)) | fail) | (go_simp; (try go_bits); first | exact gives_same | exact gives_skip | with_reducible exact gives_call (D0.out wx) | with_reducible exact gives_call (D1.out wx) | with_reducible exact gives_call (D2.out wx) | with_reducible exact gives_call (D3.out wx)))
         · (simp only [Act.put, List.setIfInBounds_toArray, List.set_cons_succ, List.set_cons_zero]; rfl))
      | (apply walk_not rfl rfl rfl
         · (simp only [Act.put, List.setIfInBounds_toArray, List.set_cons_succ, List.set_cons_zero]; rfl)))
  intro wz hwz
  simp only [List.zip_cons_cons, List.zip_nil_right]
  repeat (first | rw [fin_is] | (rw [fin_cons]; intro _ _))
  rw [fin_nil]
  try (replace hm := hm.ext hwz)
  simp only [Act.put, List.setIfInBounds_toArray, List.set_cons_succ, List.set_cons_zero]
  go_wp2_with (first | ((((with_reducible show wpList _ _ _ (Oper.mk _ (Op.store _ _ _) _ _ _ _ :: _) _ _); first | ((with_reducible apply wq_stW hm); (exact rfl); infer_instance; (exact rfl); (exact rfl); (focus ((repeat (first | exact .hd | assumption | apply Swap.tl)); done)); (focus (first | rfl | omega | (simp; done) | (simp; omega) | fail)); (focus (first | rfl | omega | (simp; done) | (simp; omega) | fail)); (focus (first | exact one_map _ | (simp [one8, one32, one64]; done) | fail))) | fail)); clear hm; intro w hm) | fail)
  refine ret_own hm rfl rfl (by infer_instance) (by repeat (first | exact Has.hd | assumption | apply Has.tl)) (by first | rfl | omega | (simp only [zeros_length, zer_length, tab_length, part_length, setN_length, List.length_map, List.length_cons, List.length_nil, List.length_append, List.length_take, List.length_drop, List.length_replicate, blk_length, putL_length] <;> omega) | fail) rfl ⟨rfl, hm.x⟩

end Go.Proofs.YtmgopjeaehmbfaaDoor
