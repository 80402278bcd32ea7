/-
  Layer 3: the document's answer, step by step. No conditions beyond those written in each theorem.
  Layer 3: the document's rounds. No conditions beyond those written in each theorem.
  Layer 6: the sum. Conditions: the program's first numbers and rows read as its text lays them.
  Layer 6: a new hash, and the sum of bytes. Conditions: the program's first numbers and rows read as its text lays them.
  Layer 6: the sum of a hash that is only read. Conditions: the program's first numbers and rows read as its text lays them.
-/
import Derived.Test.YtaijfigohlkccaaGreatDoorZCoreTurns0
import Derived.Test.YtaijfigohlkccaaGreatDoorZCoreTurns10
import Derived.Test.YtaijfigohlkccaaGreatDoorZCoreTurns11
import Derived.Test.YtaijfigohlkccaaGreatDoorZCoreTurns8
set_option linter.unusedSimpArgs false
set_option linter.unusedVariables false
namespace Go.Proofs.YtaijfigohlkccaaGreatDoor
open Go Go.RowKit
set_option maxRecDepth 100000
def subL (t b : List Byte) : List Byte := tab 16 fun i => nth t (nth b i).toNat
def shiftF (b : List Byte) (i : Nat) : Byte := nth b (shp (i % 4) (i / 4))
def shiftL (b : List Byte) : List Byte := tab 16 (shiftF b)
def mixB (by_ b : List Byte) (i : Nat) : Nat → Byte
 | 0 => 0#8
 | k + 1 => mixB by_ b i k ^^^ tms (nth by_ ((k + 4 - i % 4) % 4)) (nth b (4 * (i / 4) + k))
def mixL (by_ b : List Byte) : List Byte := tab 16 fun i => mixB by_ b i 4
theorem subL_length (t b : List Byte) : (subL t b).length = 16 := tab_length
theorem shiftL_length (b : List Byte) : (shiftL b).length = 16 := tab_length
theorem mixL_length (by_ b : List Byte) : (mixL by_ b).length = 16 := tab_length
theorem setN_same {n : Nat} (l : List (BitVec n)) (i : Nat) (x y : BitVec n) : setN (setN l i x) i y = setN l i y := by simp [setN]
theorem setN_nth {n : Nat} (l : List (BitVec n)) (i : Nat) (h : i < l.length) : setN l i (nth l i) = l := by
 apply List.ext_getElem (by simp [setN])
 intro j h1 h2
 simp only [setN, nth, List.getElem_set]
 split
 · rename_i e; subst e; simp [h]
 · rfl
theorem rnd_doc (b key : List Byte) (t : List Byte) (ht : ∀ x : Byte, nth t x.toNat = bxTo x) : bothL (mixL mixesL (shiftL (subL t b))) key = rnd b key := by
 apply nth_ext (by rw [rnd_length]; exact tab_length)
 intro i hi
 rw [bothL, tab_length] at hi
 rw [rnd_nth b key i hi, bothL, nth_tab hi, mixL, nth_tab hi]
 have hs : ∀ k, k < 4 → nth (shiftL (subL t b)) (4 * (i / 4) + k) = bxTo (nth b (shp k (i / 4))) := by
   intro k hk
   rw [shiftL, nth_tab (by omega), shiftF, show (4 * (i / 4) + k) % 4 = k from by omega, show (4 * (i / 4) + k) / 4 = i / 4 from by omega, subL, nth_tab (shp_lt _ _ hk), ht]
 simp only [mixB, hs 0 (by omega), hs 1 (by omega), hs 2 (by omega), hs 3 (by omega), BitVec.zero_xor]
 rw [BitVec.xor_comm]
set_option maxHeartbeats 1000000 in
theorem rsub_any (t b : List Byte) (ht : t.length = 256) (hb : b.length = 16) (w0 : World) : Gives Tryz.prog 120 #[A8 t, A8 b] w0 (A8 (subL t b)) := by
 unfold Gives
 have hm := Own.start w0
 have ht1 := Nat.le_of_eq ht
 have ht2 := Nat.le_of_eq ht.symm
 have hb1 := Nat.le_of_eq hb
 have hb2 := Nat.le_of_eq hb.symm
 have Hb := Lib.hid hb
 clear ht hb
 go_enter Tryz.func120, Tryz.ntmps120
 go_wp2_with (first | ((first | ((with_reducible show qAl); first | ((with_reducible apply wq_new hm); exact rfl; infer_instance)) | ((with_reducible show qBx); first | ((with_reducible apply wq_boxN hm); exact rfl; exact rfl))); clear hm; (first | (have hx_ := g1; clear hx_; (first | (have hx_ := g2; clear hx_; (first | (have hx_ := g3; clear hx_; intro gx_) | intro g3)) | intro g2)) | intro g1); intro w hm))
 rw [part_start (f := fun i => nth t (nth b i).toNat) Hb.out] at hm
 go_loopw [5] (fun i wr => ∃ k : Nat, k ≤ 16 ∧ i = .int .i64 k ∧ Own w0 wr [⟨g3, 36, (zer 16).map v8⟩, ⟨g2, 36, (part 16 k (fun i => nth t (nth b i).toNat) (nth b)).map v8⟩, ⟨g1, 33, t.map v8⟩]) (fun i _ => 16 - (intOf i).toNat)
 case atStart => exact ⟨0, by omega, rfl, hm⟩
 case round =>
   obtain ⟨k, hk, rfl, hm⟩ := hrel
   by_cases hlt : k < 16
   · have e1 : nth (part 16 k (fun i => nth t (nth b i).toNat) (nth b)) k = nth b k := nth_part_ge hlt (Nat.le_refl _)
     have hx := (nth b k).isLt
     have hx9 : ((nth b k).toNat : Int) < 256 := by omega
     clear hx
     go_wp2_with (first | ((with_reducible show qLd); first | ((with_reducible apply wq_ldv hm); exact rfl; infer_instance; exact rfl; (focus (repeat first | exact .hd | assumption | apply Has.tl); done); (focus (first | omega | (simp; omega) | (refine ltB ?_; first | omega | (simp; done) | (simp; omega)))))) | ((((with_reducible show qSt); first | ((with_reducible apply wq_stv hm); exact rfl; infer_instance; exact rfl; (focus (repeat first | exact .hd | assumption | apply Swap.tl); done); infer_instance; exact rfl; (focus (first | omega | (simp; omega) | (refine ltB ?_; first | omega | (simp; done) | (simp; omega))))))); clear hm; intro w hm))
     go_roundw
     case rel =>
       rw [part_set' hlt rfl] at hm
       exact ⟨k + 1, by omega, by go_num, hm⟩
     case measure => simp [intOf] <;> omega
   · obtain rfl : k = 16 := by omega
     rw [part_all] at hm
     go_wp2_with (first | ((with_reducible show qLd); first | ((with_reducible apply wq_ldW hm); exact rfl; infer_instance; exact rfl; (focus (repeat first | exact .hd | assumption | apply Has.tl); done); (focus (first | rfl | omega | (simp; done) | (simp; omega))))) | ((((with_reducible show qSt); first | ((with_reducible apply wq_stW hm); exact rfl; infer_instance; exact rfl; exact rfl; (focus (repeat first | exact .hd | assumption | apply Swap.tl); done); (focus (first | rfl | omega | (simp; done) | (simp; omega))); (focus (first | rfl | omega | (simp; done) | (simp; omega))); (focus (first | exact one_map _ | (simp [one8, one32, one64]; done)))))); clear hm; intro w hm))
     refine ret_own hm rfl rfl (by infer_instance) (by repeat (first | exact Has.hd | assumption | apply Has.tl)) (by first | rfl | omega | (simp only [zeros_length, zer_length, tab_length, part_length, setN_length, List.length_map, List.length_cons, List.length_nil, List.length_append, List.length_take, List.length_drop, List.length_replicate, blk_length, putL_length] <;> omega)) rfl ⟨rfl, hm.x⟩
set_option maxHeartbeats 1000000 in
theorem rshift_any (b : List Byte) (hb : b.length = 16) (w0 : World) : Gives Tryz.prog 119 #[A8 b, .bool false] w0 (A8 (shiftL b)) := by
 unfold Gives
 have hm := Own.start w0
 have hb1 := Nat.le_of_eq hb
 have hb2 := Nat.le_of_eq hb.symm
 clear hb
 go_enter Tryz.func119, Tryz.ntmps119
 go_wp2_with (first | ((first | ((with_reducible show qAl); first | ((with_reducible apply wq_new hm); exact rfl; infer_instance)) | ((with_reducible show qBx); first | ((with_reducible apply wq_boxN hm); exact rfl; exact rfl))); clear hm; (first | (have hx_ := g1; clear hx_; (first | (have hx_ := g2; clear hx_; (first | (have hx_ := g3; clear hx_; intro gx_) | intro g3)) | intro g2)) | intro g1); intro w hm))
 go_loopw [6] (fun i wr => ∃ k : Nat, k ≤ 16 ∧ i = .int .i64 k ∧ Own w0 wr [⟨g3, 36, (part 16 k (shiftF b) fun _ => 0).map v8⟩, ⟨g2, 36, (zer 16).map v8⟩, ⟨g1, 36, b.map v8⟩]) (fun i _ => 16 - (intOf i).toNat)
 case atStart => exact ⟨0, by omega, rfl, by rw [← zer_start]; exact hm⟩
 case round =>
   obtain ⟨k, hk, rfl, hm⟩ := hrel
   by_cases hlt : k < 16
   · have hd : decide ((k : Int) < 16) = true := by simp; omega
     obtain ⟨r, hr, hr4⟩ : ∃ r : Nat, k % 4 = r ∧ r < 4 := ⟨_, rfl, Nat.mod_lt _ (by omega)⟩
     obtain ⟨c, hc, hc4⟩ : ∃ c : Nat, k / 4 = c ∧ c < 4 := ⟨_, rfl, by omega⟩
     obtain ⟨q, hq, hq4⟩ : ∃ q : Nat, (c + r) % 4 = q ∧ q < 4 := ⟨_, rfl, Nat.mod_lt _ (by omega)⟩
     have a1 : (k : Int) % 4 = (r : Int) := by omega
     have a2 : (k : Int).tmod 4 = (r : Int) := by rw [Int.tmod_eq_emod_of_nonneg (by omega)]; exact a1
     have a3 : (k : Int) / 4 = (c : Int) := by omega
     have a4 : (k : Int).tdiv 4 = (c : Int) := by rw [Int.tdiv_eq_ediv_of_nonneg (by omega)]; exact a3
     have a5 : ((c : Int) + (r : Int)) % 4 = (q : Int) := by omega
     have a6 : ((c : Int) + (r : Int)).tmod 4 = (q : Int) := by rw [Int.tmod_eq_emod_of_nonneg (by omega)]; exact a5
     have a7 : 4 * (q : Int) + (r : Int) < 16 := by omega
     have a8 : 0 ≤ 4 * (q : Int) + (r : Int) := by omega
     have a9 : (4 * (q : Int) + (r : Int)).toNat = 4 * q + r := by omega
     have e1 : shiftF b k = nth b (4 * q + r) := by rw [shiftF, shp, hr, hc, hq, Nat.add_comm]
     have E1 := Lib.hid e1
     clear e1 hr hc hq
     go_wp2_with (first | ((with_reducible show qLd); first | ((with_reducible apply wq_ldv hm); exact rfl; infer_instance; exact rfl; (focus (repeat first | exact .hd | assumption | apply Has.tl); done); (focus (first | omega | (simp; omega) | (refine ltB ?_; first | omega | (simp; done) | (simp; omega)))))) | ((((with_reducible show qSt); first | ((with_reducible apply wq_stv hm); exact rfl; infer_instance; exact rfl; (focus (repeat first | exact .hd | assumption | apply Swap.tl); done); infer_instance; exact rfl; (focus (first | omega | (simp; omega) | (refine ltB ?_; first | omega | (simp; done) | (simp; omega))))))); clear hm; intro w hm))
     go_roundw
     case rel =>
       rw [part_set' hlt E1.out.symm] at hm
       exact ⟨k + 1, by omega, by go_num, hm⟩
     case measure => simp [intOf] <;> omega
   · obtain rfl : k = 16 := by omega
     rw [part_all] at hm
     go_wp2_with (first | ((with_reducible show qLd); first | ((with_reducible apply wq_ldW hm); exact rfl; infer_instance; exact rfl; (focus (repeat first | exact .hd | assumption | apply Has.tl); done); (focus (first | rfl | omega | (simp; done) | (simp; omega))))) | ((((with_reducible show qSt); first | ((with_reducible apply wq_stW hm); exact rfl; infer_instance; exact rfl; exact rfl; (focus (repeat first | exact .hd | assumption | apply Swap.tl); done); (focus (first | rfl | omega | (simp; done) | (simp; omega))); (focus (first | rfl | omega | (simp; done) | (simp; omega))); (focus (first | exact one_map _ | (simp [one8, one32, one64]; done)))))); clear hm; intro w hm))
     refine ret_own hm rfl rfl (by infer_instance) (by repeat (first | exact Has.hd | assumption | apply Has.tl)) (by first | rfl | omega | (simp only [zeros_length, zer_length, tab_length, part_length, setN_length, List.length_map, List.length_cons, List.length_nil, List.length_append, List.length_take, List.length_drop, List.length_replicate, blk_length, putL_length] <;> omega)) rfl ⟨rfl, hm.x⟩
set_option maxHeartbeats 2000000 in
theorem rmix_any (b by_ : List Byte) (hb : b.length = 16) (hy : by_.length = 4) (w0 : World) : Gives Tryz.prog 118 #[A8 b, A8 by_] w0 (A8 (mixL by_ b)) := by
 unfold Gives
 have hm := Own.start w0
 have hb1 := Nat.le_of_eq hb
 have hb2 := Nat.le_of_eq hb.symm
 have hy1 := Nat.le_of_eq hy
 have hy2 := Nat.le_of_eq hy.symm
 clear hb hy
 go_enter Tryz.func118, Tryz.ntmps118
 go_wp2_with (first | ((first | ((with_reducible show qAl); first | ((with_reducible apply wq_new hm); exact rfl; infer_instance)) | ((with_reducible show qBx); first | ((with_reducible apply wq_boxN hm); exact rfl; exact rfl))); clear hm; (first | (have hx_ := g1; clear hx_; (first | (have hx_ := g2; clear hx_; (first | (have hx_ := g3; clear hx_; (first | (have hx_ := g4; clear hx_; intro gx_) | intro g4)) | intro g3)) | intro g2)) | intro g1); intro w hm))
 go_loopw [6] (fun i wr => ∃ k : Nat, k ≤ 16 ∧ i = .int .i64 k ∧ Own w0 wr [⟨g4, 36, (part 16 k (fun i => mixB by_ b i 4) fun _ => 0).map v8⟩, ⟨g3, 36, (zer 16).map v8⟩, ⟨g2, 107, by_.map v8⟩, ⟨g1, 36, b.map v8⟩]) (fun i _ => 16 - (intOf i).toNat)
 case atStart => exact ⟨0, by omega, rfl, by rw [← zer_start]; exact hm⟩
 case round =>
   obtain ⟨k, hk, rfl, hm⟩ := hrel
   by_cases hlt : k < 16
   · have hd : decide ((k : Int) < 16) = true := by simp; omega
     have e0 : nth (part 16 k (fun i => mixB by_ b i 4) fun _ => 0) k = 0#8 := nth_part_ge hlt (Nat.le_refl _)
     have hm1 : setN (part 16 k (fun i => mixB by_ b i 4) fun _ => 0) k (mixB by_ b k 0) = part 16 k (fun i => mixB by_ b i 4) fun _ => 0 := by
       have := setN_nth (part 16 k (fun i => mixB by_ b i 4) fun _ => 0) k (by rw [part_length]; omega)
       rwa [e0] at this
     rw [← hm1] at hm
     clear e0 hm1
     obtain ⟨r, hr, hr4⟩ : ∃ r : Nat, k % 4 = r ∧ r < 4 := ⟨_, rfl, Nat.mod_lt _ (by omega)⟩
     obtain ⟨c, hc, hc4⟩ : ∃ c : Nat, k / 4 = c ∧ c < 4 := ⟨_, rfl, by omega⟩
     have a1 : (k : Int) % 4 = (r : Int) := by omega
     have a2 : (k : Int).tmod 4 = (r : Int) := by rw [Int.tmod_eq_emod_of_nonneg (by omega)]; exact a1
     have a3 : (k : Int) / 4 = (c : Int) := by omega
     have a4 : (k : Int).tdiv 4 = (c : Int) := by rw [Int.tdiv_eq_ediv_of_nonneg (by omega)]; exact a3
     have Hr := Lib.hid hr
     have Hc := Lib.hid hc
     clear hr hc
     go_wp2_with fail
     go_loopw [7] (fun j wr => ∃ n : Nat, n ≤ 4 ∧ j = .int .i64 n ∧ Own w0 wr [⟨g4, 36, (setN (part 16 k (fun i => mixB by_ b i 4) fun _ => 0) k (mixB by_ b k n)).map v8⟩, ⟨g3, 36, (zer 16).map v8⟩, ⟨g2, 107, by_.map v8⟩, ⟨g1, 36, b.map v8⟩]) (fun j _ => 4 - (intOf j).toNat)
     case atStart => exact ⟨0, by omega, rfl, hm⟩
     case round =>
       obtain ⟨n, hn, rfl, hm⟩ := hrel
       by_cases hln : n < 4
       · obtain ⟨q, hq, hq4⟩ : ∃ q : Nat, (n + 4 - r) % 4 = q ∧ q < 4 := ⟨_, rfl, Nat.mod_lt _ (by omega)⟩
         have a5 : ((n : Int) + 4 - (r : Int)) % 4 = (q : Int) := by omega
         have a6 : ((n : Int) + 4 - (r : Int)).tmod 4 = (q : Int) := by rw [Int.tmod_eq_emod_of_nonneg (by omega)]; exact a5
         have hki : (k : Int) < 16 := by omega
         have hqi : (q : Int) < 4 := by omega
         have a7 : (c : Int) * 4 + (n : Int) < 16 := by omega
         have a8 : 0 ≤ (c : Int) * 4 + (n : Int) := by omega
         have a9 : ((c : Int) * 4 + (n : Int)).toNat = c * 4 + n := by omega
         have e2 : nth (setN (part 16 k (fun i => mixB by_ b i 4) fun _ => 0#8) k (mixB by_ b k n)) k = mixB by_ b k n := by rw [nth_set (by rw [part_length]; omega), if_pos rfl]
         have E2 := Lib.hid e2
         have e1 : mixB by_ b k (n + 1) = mixB by_ b k n ^^^ tms (nth by_ q) (nth b (c * 4 + n)) := by rw [mixB, Hr.out, Hc.out, hq, Nat.mul_comm 4 c]
         have E1 := Lib.hid e1
         clear e1 hq
         go_wp2_with fail
         refine region_at 22 (fun w' => Ext _ w') 39 (by kernel_rfl) (by kernel_rfl) rfl (fun _ _ h k => h.trans k) (drew_ext _) ?_
         simp only [tSC, List.take_zero, dSC, List.drop_zero, List.map_cons, List.map_nil]
         repeat (first
             | (apply walk_is rfl rfl rfl
                · (intro wx hwx; first | ((with_reducible show gives _ _ _ (Sem.run _ (execOp _ (Oper.mk _ (Op.load _ _) _ _ _ _)) _)); first | ((with_reducible apply gq_ldv (hm.ext hwx)); infer_instance; exact rfl; (focus (repeat first | exact .hd | assumption | apply Has.tl); done); (focus (first | omega | (simp; omega) | (refine ltB ?_; first | omega | (simp; done) | (simp; omega))))) | ((with_reducible apply gq_ldW (hm.ext hwx)); infer_instance; exact rfl; (focus (repeat first | exact .hd | assumption | apply Has.tl); done); (focus (first | rfl | omega | (simp; done) | (simp; omega)))) | ((with_reducible apply gq_ld1 (hm.ext hwx)); infer_instance; exact rfl; (focus (repeat first | exact .hd | assumption | apply Has.tl); done); exact rfl)) | (go_simp; (try go_bits); first | exact gives_same | exact gives_skip | with_reducible exact gives_call (Gives.of_same (rtimes_tms _ _ wx))))
                · (simp only [Act.put, sIB, sCS, sCZ]; rfl))
             | (apply walk_not rfl rfl rfl
                · (simp only [Act.put, sIB, sCS, sCZ]; rfl)))
         intro wz hwz
         simp only [zCC, zNR]
         repeat (first | rw [fin_is] | (rw [fin_cons]; intro _ _))
         rw [fin_nil]
         try (replace hm := hm.ext hwz)
         simp only [Act.put, sIB, sCS, sCZ]
         go_wp2_with (first | ((((with_reducible show qSt); first | ((with_reducible apply wq_stv hm); exact rfl; infer_instance; exact rfl; (focus (repeat first | exact .hd | assumption | apply Swap.tl); done); infer_instance; exact rfl; (focus (first | omega | (simp; omega) | (refine ltB ?_; first | omega | (simp; done) | (simp; omega))))))); clear hm; intro w hm))
         go_roundw
         case rel =>
           rw [setN_same] at hm
           first | rw [E2.out] at hm | skip
           exact ⟨n + 1, by omega, by go_num, by rw [E1.out]; exact hm⟩
         case measure => simp [intOf] <;> omega
       · obtain rfl : n = 4 := by omega
         rw [part_set' hlt rfl] at hm
         go_wp2_with fail
         go_roundw
         case rel => exact ⟨k + 1, by omega, by go_num, hm⟩
         case measure => simp [intOf] <;> omega
   · obtain rfl : k = 16 := by omega
     rw [part_all] at hm
     go_wp2_with (first | ((with_reducible show qLd); first | ((with_reducible apply wq_ldW hm); exact rfl; infer_instance; exact rfl; (focus (repeat first | exact .hd | assumption | apply Has.tl); done); (focus (first | rfl | omega | (simp; done) | (simp; omega))))) | ((((with_reducible show qSt); first | ((with_reducible apply wq_stW hm); exact rfl; infer_instance; exact rfl; exact rfl; (focus (repeat first | exact .hd | assumption | apply Swap.tl); done); (focus (first | rfl | omega | (simp; done) | (simp; omega))); (focus (first | rfl | omega | (simp; done) | (simp; omega))); (focus (first | exact one_map _ | (simp [one8, one32, one64]; done)))))); clear hm; intro w hm))
     refine ret_own hm rfl rfl (by infer_instance) (by repeat (first | exact Has.hd | assumption | apply Has.tl)) (by first | rfl | omega | (simp only [zeros_length, zer_length, tab_length, part_length, setN_length, List.length_map, List.length_cons, List.length_nil, List.length_append, List.length_take, List.length_drop, List.length_replicate, blk_length, putL_length] <;> omega)) rfl ⟨rfl, hm.x⟩
theorem tabs_to (x : Byte) : nth (tabs.take 256) x.toNat = bxTo x := by
 have := x.isLt
 simp only [nth, bxTo, List.getD_eq_getElem?_getD, List.getElem?_take, show x.toNat < 256 by omega, if_true]
theorem take256_length : (tabs.take 256).length = 256 := by simp [tabs_length]
end Go.Proofs.YtaijfigohlkccaaGreatDoor
namespace Go.Proofs.YtaijfigohlkccaaGreatDoor
open Go Go.RowKit
set_option maxRecDepth 100000
theorem build_mixes (w : World) : (Instr.build 107 #[(0, .int .u8 2), (1, .int .u8 3), (2, .int .u8 1), (3, .int .u8 1)]).run Tryz.prog w = .ok (A8 mixesL) w := by kernel_rfl
attribute [local simp] take256_length
theorem gq_build {P : Program} {dst : Option Tmp} {ty : TypeId} {pos : String} {aft : Array Edge} {gd : Option (Nat × Bool)} {a : Act} {w : World} {T : TypeId} {v : Value} {parts : Array (Nat × Operand)} {vs : Array (Nat × Value)} (hb : ∀ w, (Instr.build T vs).run P w = .ok v w) (hp : parts.map (fun p => (p.1, a.eval p.2)) = vs) : gives P w (Is v) ((execOp a.eval (Oper.mk dst (.build T parts) ty pos aft gd)).run P w) := by
 subst hp
 have h := hb w
 unfold execOp
 simp only [Sem.run_bind, h, Result.andThen_ok, Sem.run_pure]
 exact gives_same
theorem gq_ldA {P : Program} {dst : Option Tmp} {ty : TypeId} {pos : String} {aft : Array Edge} {gd : Option (Nat × Bool)} {a : Act} {w0 w : World} {L : List Blk} {T t : TypeId} {x : Operand} {g k n : Nat} {l l' : List Byte} (hm : Own w0 w L) (hT : Many P T n) (hx : a.eval x = .pointer (some ⟨g, k, none⟩)) (hh : Has L ⟨g, t, l.map v8⟩) (hv : (l.drop k).take n = l') (hn : l'.length = n) : gives P w (Is (A8 l')) ((execOp a.eval (Oper.mk dst (.load T x) ty pos aft gd)).run P w) :=
 gq_ldN hm hT hx hh (by rw [← List.map_drop, ← List.map_take, hv]) (by rw [List.length_map]; exact hn)
set_option maxHeartbeats 2000000 in
theorem rround_any (b key : List Byte) (hb : b.length = 16) (hk : key.length = 16) (w0 : World) : Gives Tryz.prog 105 #[A8 tabs, A8 b, A8 key] w0 (A8 (rnd b key)) := by
 unfold Gives
 have hm := Own.start w0
 have hb1 := Nat.le_of_eq hb
 have hb2 := Nat.le_of_eq hb.symm
 have hk1 := Nat.le_of_eq hk
 have hk2 := Nat.le_of_eq hk.symm
 have HB := Lib.hid hb
 have HK := Lib.hid hk
 have H1 := Lib.hid (rnd_doc b key (tabs.take 256) tabs_to)
 have tl := tabs_length
 have C0 := fun wx => rsub_any (tabs.take 256) b take256_length HB.out wx
 have C1 := fun wx => rshift_any (subL (tabs.take 256) b) (subL_length _ _) wx
 have C2 := fun wx => rmix_any (shiftL (subL (tabs.take 256) b)) mixesL (shiftL_length _) rfl wx
 have C3 := fun wx => sixteen_any (mixL mixesL (shiftL (subL (tabs.take 256) b))) key (mixL_length _ _) HK.out wx
 rw [H1.out] at C3
 have D0 := Lib.hid C0
 have D1 := Lib.hid C1
 have D2 := Lib.hid C2
 have D3 := Lib.hid C3
 clear hb hk H1 C0 C1 C2 C3
 go_enter Tryz.func105, Tryz.ntmps105
 go_wp2_with (first | ((first | ((with_reducible show qAl); first | ((with_reducible apply wq_new hm); exact rfl; infer_instance)) | ((with_reducible show qBx); first | ((with_reducible apply wq_boxN hm); exact rfl; exact rfl))); clear hm; intro gx_; intro w hm))
 refine region_at 9 (fun w' => Ext _ w') 16 (by kernel_rfl) (by kernel_rfl) rfl (fun _ _ h k => h.trans k) (drew_ext _) ?_
 simp only [tSC, List.take_zero, dSC, List.drop_zero, List.map_cons, List.map_nil]
 repeat (first
     | (apply walk_is rfl rfl rfl; (intro wx hwx; (with_reducible apply gq_ldA (l := tabs) (l' := tabs.take 256) (hm.ext hwx)); infer_instance; exact rfl; (focus (repeat first | exact .hd | assumption | apply Has.tl); done); (focus (rw [List.drop_zero])); (focus (exact take256_length))); (simp only [Act.put, sIB, sCS, sCZ]; rfl))
     | (apply walk_is rfl rfl rfl; (intro wx hwx; (with_reducible apply gq_build build_mixes); (first | rfl | simp [Act.eval] | kernel_rfl)); (simp only [Act.put, sIB, sCS, sCZ]; rfl))
     | (apply walk_is rfl rfl rfl
        · (intro wx hwx; first | ((with_reducible show gives _ _ _ (Sem.run _ (execOp _ (Oper.mk _ (Op.load _ _) _ _ _ _)) _)); first | ((with_reducible apply gq_ldv (hm.ext hwx)); infer_instance; exact rfl; (focus (repeat first | exact .hd | assumption | apply Has.tl); done); (focus (first | omega | (simp; omega) | (refine ltB ?_; first | omega | (simp; done) | (simp; omega))))) | ((with_reducible apply gq_ldW (hm.ext hwx)); infer_instance; exact rfl; (focus (repeat first | exact .hd | assumption | apply Has.tl); done); (focus (first | rfl | omega | (simp; done) | (simp; omega)))) | ((with_reducible apply gq_ld1 (hm.ext hwx)); infer_instance; exact rfl; (focus (repeat first | exact .hd | assumption | apply Has.tl); done); exact rfl)) | (go_simp; (try go_bits); first | exact gives_same | exact gives_skip | with_reducible exact gives_call (D0.out wx) | with_reducible exact gives_call (D1.out wx) | with_reducible exact gives_call (D2.out wx) | with_reducible exact gives_call (D3.out wx)))
        · (simp only [Act.put, sIB, sCS, sCZ]; rfl))
     | (apply walk_not rfl rfl rfl
        · (simp only [Act.put, sIB, sCS, sCZ]; rfl)))
 intro wz hwz
 simp only [zCC, zNR]
 repeat (first | rw [fin_is] | (rw [fin_cons]; intro _ _))
 rw [fin_nil]
 try (replace hm := hm.ext hwz)
 simp only [Act.put, sIB, sCS, sCZ]
 go_wp2_with (first | ((((with_reducible show qSt); first | ((with_reducible apply wq_stW hm); exact rfl; infer_instance; exact rfl; exact rfl; (focus (repeat first | exact .hd | assumption | apply Swap.tl); done); (focus (first | rfl | omega | (simp; done) | (simp; omega))); (focus (first | rfl | omega | (simp; done) | (simp; omega))); (focus (first | exact one_map _ | (simp [one8, one32, one64]; done)))))); clear hm; intro w hm))
 refine ret_own hm rfl rfl (by infer_instance) (by repeat (first | exact Has.hd | assumption | apply Has.tl)) (by first | rfl | omega | (simp only [zeros_length, zer_length, tab_length, part_length, setN_length, List.length_map, List.length_cons, List.length_nil, List.length_append, List.length_take, List.length_drop, List.length_replicate, blk_length, putL_length] <;> omega)) rfl ⟨rfl, hm.x⟩
end Go.Proofs.YtaijfigohlkccaaGreatDoor
namespace Go.Proofs.YtaijfigohlkccaaGreatDoor
open Go Go.RowKit
set_option maxRecDepth 100000
theorem wq_mkR {ops : Array Oper} {Q : Exit → Act → World → Prop} {rest : List Oper} {dst : Option Tmp} {ty : TypeId} {pos : String} {aft : Array Edge} {gd : Option (Nat × Bool)} {a : Act} {w0 w : World} {L : List Blk} {x y : Operand} {N C : Int} (n m : Nat)
   (hm : Own w0 w L) (hgd : Region.wanted (Oper.mk dst (.makeSlice 22 x y) ty pos aft gd) (yielded ops a.tmps) = true) (hx : a.eval x = .int .i64 N) (hy : a.eval y = .int .i64 C) (hN : N = (n : Int)) (hC : C = (m : Int)) (hnm : n ≤ m) (hmm : m ≤ 281474976710656)
   (hr : ∀ g w', Own w0 w' (⟨g, 5, (zeros m).map v8⟩ :: L) → wpList Tryz.prog ops Q rest (a.put dst (.slice (some ⟨g, 0, none⟩) n m)) w') : wpList Tryz.prog ops Q ((Oper.mk dst (.makeSlice 22 x y) ty pos aft gd) :: rest) a w :=
 wpList_want hgd fun K hK => by
   subst hN hC
   obtain ⟨i, hi, hz, hs, hb⟩ := info_byte
   have h := run_make (P := Tryz.prog) w 22 5 i (.int .u8 0) Tryz.underlying22 hi hz .i64 .i64 n m (by omega) (by omega) (by rw [hb]; omega) (by omega)
   rw [hs, Nat.mul_one] at h
   simp only [Int.toNat_natCast, Value.cells, madeCells_v8] at h
   unfold Oper.wp execOp
   simp only [hx, hy, Sem.run_bind, h, Result.andThen_ok, Sem.run_pure]
   exact hK _ _ (hr _ _ (hm.alloc 5 ((zeros m).map v8)))
theorem run_index_v {P : Program} {T e : TypeId} {n b : Nat} {f : BitVec b → Value} (hT : P.underlying T = some (.array n e)) [hE : One1 P e] (l : List (BitVec b)) (hl : l.length = n) (k : Nat) (hk : k < n) (w : World) : (Instr.index T (.agg (l.map f).toArray) (.int .i64 (k : Int))).run P w = .ok (f (nth l k)) w := by
 obtain ⟨d, hu, hd⟩ := Option.map_eq_some_iff.1 hE.row
 obtain ⟨i, hi1, hi2⟩ := Option.map_eq_some_iff.1 hE.size
 have hagg : (isAgg e).run P w = .ok false w := by
   unfold isAgg
   rw [Sem.run_bind, run_underlying hu w]
   cases d <;> simp_all
 have hc : (l.map f)[k]? = some (f (nth l k)) := mapv_at f l (by omega)
 have hk2 : (0 : Int) ≤ (k : Int) ∧ (k : Int) < (n : Int) := by omega
 simp [Instr.index, asIntOf, Sem.run_bind, run_underlying hT, hk2, sizeOf, typeInfo, hi1, hi2, hk, Go.part, hagg, nth_get (show k < l.length by omega)]
 rw [List.getElem?_eq_getElem (by omega)]; rfl
theorem wq_idx {P : Program} {ops : Array Oper} {Q : Exit → Act → World → Prop} {rest : List Oper} {dst : Option Tmp} {ty : TypeId} {pos : String} {aft : Array Edge} {gd : Option (Nat × Bool)} {a : Act} {w : World} {x y : Operand} {T e : TypeId} {n b k : Nat} {f : BitVec b → Value} {l : List (BitVec b)} (hT : P.underlying T = some (.array n e)) (hE : One1 P e) (hgd : Region.wanted (Oper.mk dst (.index T x y) ty pos aft gd) (yielded ops a.tmps) = true) (hx : a.eval x = .agg (l.map f).toArray) (hy : a.eval y = .int .i64 (k : Int)) (hl : l.length = n) (hk : k < n)
   (hr : wpList P ops Q rest (a.put dst (f (nth l k))) w) : wpList P ops Q ((Oper.mk dst (.index T x y) ty pos aft gd) :: rest) a w :=
 wpList_want hgd fun K hK => by
   unfold Oper.wp execOp
   simp only [hx, hy, Sem.run_bind, run_index_v hT l hl k hk w, Result.andThen_ok, Sem.run_pure]
   exact hK _ _ hr
theorem hashC_one {h : List (BitVec 64)} {n : Nat} {v : Value} {sz : Int} (hv : v.oneCell' = true) : ∀ u ∈ hashC h n v sz, u.oneCell' = true := by
 intro u hu
 simp only [hashC, List.mem_append, List.mem_cons, List.not_mem_nil, or_false] at hu
 rcases hu with hu | (rfl | rfl) | rfl | rfl
 · exact one_map _ u hu
 · rfl
 · rfl
 · exact hv
 · rfl
theorem outL_take (h : List (BitVec 64)) (k : Nat) (hk : k < h.length) : outL (h.take (k + 1)) = outL (h.take k) ++ putL (nth h k) 8 := by
 rw [List.take_succ_eq_append_getElem hk, outL, outL, List.map_append, List.flatten_append]
 simp [nth_get hk]
set_option maxHeartbeats 2000000 in
theorem hsum_any (g : Nat) (h0 : List (BitVec 64)) (d : List Byte) (sz : Nat) (hh : h0.length = 8) (hsz : sz ≤ 64) (hlen : d.length ≤ 70368744177664) (w0 w : World) (M R : List Blk) (v : Value) (hc : CoefB w0)
   (hm : Own w0 w (⟨g, 161, hashK h0 d (nbk d.length) v sz⟩ :: (M ++ R))) (hsl : RestO M d (nbk d.length) v) :
   Calls Tryz.prog 89 #[.pointer (some ⟨g, 0, none⟩)] w fun e w' => ∃ x, e = .returned x ∧ BytesS ((outL (finL h0 d)).take sz) x w' ∧ Own w0 w' (⟨g, 161, hashK h0 d (nbk d.length) v sz⟩ :: (M ++ R)) := by
 obtain ⟨q, n, cap, rfl⟩ := hsl.slice
 obtain ⟨hn, hnc, hcm⟩ := hsl.len
 have hnk := nbk_rest d.length
 have hkk := nbk_le d.length
 have HC := Lib.hid hc
 have HH := Lib.hid hh
 have HS := Lib.hid hsl
 have l1 := hashK_length (d := d) (k := nbk d.length) (v := .slice q n cap) (sz := sz) hh
 have lr : (d.drop (128 * nbk d.length)).length = n := by rw [List.length_drop, hn]
 have CB := fun g1 wx hx => hblock_any g1 (chF h0 d (nbk d.length)) (128 * nbk d.length) (.slice q n cap) sz (d.drop (128 * nbk d.length)) q cap n true (chF_length h0 d hh _) (by omega) (by omega) w0 wx (⟨g, 161, hashK h0 d (nbk d.length) (.slice q n cap) sz⟩ :: (M ++ R)) (fun w' N h => by
   rw [List.append_cons] at h; exact HS.out.rdB h) HC.out rfl hx
 rw [lr, show 128 * nbk d.length + n = d.length from by omega] at CB
 have lF : (finL h0 d).length = 8 := finL_length h0 d
 have CB2 := Lib.hid CB
 have EF : Hid (compL (chF h0 d (nbk d.length)) (mL (d.drop (128 * nbk d.length))) (BitVec.ofNat 64 d.length) 0#64 true = finL h0 d) := Lib.hid rfl
 rw [EF.out] at CB2
 have HF := Lib.hid lF
 have hsz2 : (sz : Int) ≤ 64 := by omega
 have E0 := Lib.hid (show hashK h0 d (nbk d.length) (.slice q n cap) sz = hashC (chF h0 d (nbk d.length)) (128 * nbk d.length) (.slice q n cap) sz from rfl)
 have ONE := Lib.hid (show ∀ u ∈ hashK h0 d (nbk d.length) (.slice q n cap) sz, u.oneCell' = true from hashC_one rfl)
 have X10 := Lib.hid (show (hashK h0 d (nbk d.length) (.slice q n cap) sz)[10]? = some (.slice q n cap) from hashK_rest hh)
 generalize hX : hashK h0 d (nbk d.length) (.slice q n cap) sz = X at *
 rw [← E0.out] at CB2
 generalize finL h0 d = F at *
 have lX := l1
 clear CB EF hn hnk hkk hcm hX hsl hc hh lF l1
 go_enter Tryz.func89, Tryz.ntmps89
 go_wp2_with (first | ((with_reducible apply wq_stW hm); exact rfl; infer_instance; exact rfl; exact rfl; (focus (repeat first | exact .hd | assumption | apply Swap.tl); done); exact lX; (first | rfl | (simp; done)); exact ONE.out; clear hm; intro w hm) | ((with_reducible apply wq_ldW hm); exact rfl; infer_instance; exact rfl; (focus (repeat first | exact .hd | assumption | apply Has.tl); done); exact lX) | ((with_reducible apply wq_ld1 hm); exact rfl; infer_instance; exact rfl; (focus (repeat first | exact .hd | assumption | apply Has.tl); done); (exact X10.out)) | (go_at_call 110; (with_reducible refine (CB2.out _ _ hm).mono ?_); clear hm; rintro e_ w ⟨rfl, hm⟩) | ((with_reducible apply wq_mkR 0 64 hm); exact rfl; exact rfl; exact rfl; exact rfl; exact rfl; omega; omega; clear hm; intro g2 w hm) | ((with_reducible apply wq_ldN hm); exact rfl; infer_instance; exact rfl; (focus (repeat first | exact .hd | assumption | apply Has.tl); done); (exact hashC_h HF.out); (exact (List.length_map ..).trans HF.out)) | ((first | ((with_reducible show qAl); first | ((with_reducible apply wq_new hm); exact rfl; infer_instance))); clear hm; (first | (have hx_ := g1; clear hx_; (first | (have hx_ := g2; clear hx_; intro gx_) | intro g2)) | intro g1); intro w hm))
 obtain ⟨RR, hRR⟩ : ∃ RR, (⟨g1, 161, hashC F d.length (.slice q n cap) sz⟩ :: ⟨g, 161, X⟩ :: (M ++ R) : List Blk) = RR := ⟨_, rfl⟩
 have hg1 : Has RR ⟨g1, 161, hashC F d.length (.slice q n cap) sz⟩ := hRR ▸ .hd
 have hend : ∀ w, Own w0 w RR → Own w0 w (⟨g, 161, X⟩ :: (M ++ R)) := fun w h => by rw [← hRR] at h; exact h.drop
 have HE := Lib.hid hend
 rw [hRR] at hm
 clear hRR hend
 go_loopw [4, 22] (fun v i wr => ∃ (k : Nat) (Mo : List Blk), k ≤ 8 ∧ i = .int .i64 k ∧ SlO Mo 5 1 v (8 * k) ((outL (F.take k)).map v8) ∧ Own w0 wr (Mo ++ RR)) (fun _ i _ => 8 - (intOf i).toNat)
 case atStart => exact ⟨0, [_], by omega, rfl, SlO.room g2 5 1 64 _ (by simp) (by decide), hm⟩
 case round =>
   obtain ⟨k, Mo, hk, rfl, hso, hm⟩ := hrel
   obtain ⟨p0, c0, rfl⟩ := hso.form
   have HSO := Lib.hid hso
   clear hso
   by_cases hlt : k < 8
   · have hd : decide ((k : Int) < 8) = true := by simp; omega
     have lF := HF.out
     have lF1 := Nat.le_of_eq HF.out
     have lF2 := Nat.le_of_eq HF.out.symm
     have lp : (putL (nth F k) 8).length = 8 := putL_length _ _
     have et := Lib.hid (outL_take F k (by omega))
     have CP := Lib.hid fun wx => putlong_any' (nth F k) wx
     generalize putL (nth F k) 8 = B at *
     go_wp2_with (first | ((with_reducible apply wq_idx (l := F) (k := k) Tryz.underlying124); infer_instance; exact rfl; exact rfl; exact rfl; exact lF; exact hlt) | (go_at_call 85; (with_reducible refine (CP.out _).mono ?_); rintro e_ w ⟨rfl, hx_⟩; replace hm := hm.ext hx_; clear hx_) | ((with_reducible show wpList _ _ _ (Oper.mk _ (Op.call _) _ _ _ _ :: _) _ _); refine wplO_app (M := Mo) (R := _) (ds := B.map v8) (hm.perm (List.perm_middle.symm)) HSO.out rfl rfl rfl rfl Tryz.underlying22 (by simpa using lp) (cells_b (hm.rdB (by repeat (first | exact Has.hd | assumption | apply Has.tl)))) (one_map _) (by omega) ?_; clear hm; intro v1 w M1 hm hs1; obtain ⟨p_v1, c_v1, rfl⟩ := hs1.form; replace hm := hm.perm (List.perm_middle)) | ((((with_reducible show qSt); first | ((with_reducible apply wq_stW hm); exact rfl; infer_instance; exact rfl; exact rfl; (focus (repeat first | exact .hd | assumption | apply Swap.tl); done); (focus (first | rfl | omega | (simp; done) | (simp; omega))); (focus (first | rfl | omega | (simp; done) | (simp; omega))); (focus (first | exact one_map _ | (simp [one8, one32, one64]; done)))))); clear hm; intro w hm) | ((first | ((with_reducible show qAl); first | ((with_reducible apply wq_new hm); exact rfl; infer_instance))); clear hm; (first | (have hx_ := g1; clear hx_; (first | (have hx_ := g2; clear hx_; intro gx_) | intro g2)) | intro g1); intro w hm))
     go_roundw
     case rel => exact ⟨k + 1, M1, by omega, by go_num, by rw [et.out, List.map_append]; exact hs1, hm.drop⟩
     case measure => simp [intOf] <;> omega
   · obtain rfl : k = 8 := by omega
     have hso := HSO.out
     rw [List.take_of_length_le (Nat.le_of_eq HF.out)] at hso
     obtain ⟨_, _, hv, hnc0, _, h0, hcell⟩ := hso.cells hm
     cases hv
     have hrd : RdB wr p0 (outL F) := ⟨fun hl => h0 (by omega), fun i hi => by
       obtain ⟨a, rfl, ha⟩ := hcell i (v8 ((outL F).getD i 0)) (by rw [List.getElem?_map, List.getElem?_eq_getElem hi, List.getD_eq_getElem?_getD, List.getElem?_eq_getElem hi]; rfl)
       exact ha⟩
     have HRD := Lib.hid hrd
     have lO : (outL F).length = 64 := by rw [outL_length, HF.out]
     have hc0 : (64 : Int) ≤ (c0 : Int) := by omega
     have hsc : (sz : Int) ≤ (c0 : Int) := by omega
     have hg2 := Has.app (M := Mo) hg1
     clear hrd hcell hso
     go_wp2_with (first | ((with_reducible apply wq_ld1 hm); exact rfl; infer_instance; exact rfl; (focus (repeat first | exact .hd | assumption | apply Has.tl); done); (exact hashC_size HF.out)))
     go_ret
     have lt : ((outL F).take sz).length = sz := by rw [List.length_take, lO]; omega
     refine ⟨_, rfl, ⟨p0, c0, ?_, by rw [lt]; omega, HRD.out.take sz⟩, HE.out _ hm.dropN⟩
     rw [lt]; rfl
end Go.Proofs.YtaijfigohlkccaaGreatDoor
namespace Go.Proofs.YtaijfigohlkccaaGreatDoor
open Go Go.RowKit
set_option maxRecDepth 100000
section
variable {P : Program} {ops : Array Oper} {Q : Exit → Act → World → Prop} {rest : List Oper} {dst : Option Tmp} {ty : TypeId} {pos : String} {aft : Array Edge} {gd : Option (Nat × Bool)} {a : Act} {w : World} {T : TypeId} {x : Operand} {n : Nat} {cs : List Value} {A : Addr}
theorem run_rdN (h : ∀ (j : Nat) (v : Value), cs[j]? = some v → w.cell? (A.add j) = some v) [hT : Many P T n] (hn : cs.length = n) : (Instr.loadAt T (.pointer (some A))).run P w = .ok (.agg cs.toArray) w := by
 obtain ⟨d, hu, hd⟩ := Option.map_eq_some_iff.1 hT.row
 have hl : (loadCells A cs.length).run P w = .ok cs.toArray w := run_loadCells_list (P := P) w A cs h
 have hagg : (isAgg T).run P w = .ok true w := by
   unfold isAgg
   rw [Sem.run_bind, run_underlying hu w]
   cases d <;> simp_all
 obtain ⟨i, hi1, hi2⟩ := Option.map_eq_some_iff.1 hT.size
 simp [Instr.loadAt, Instr.sureAddr, loadVar, Sem.run_bind, hagg, sizeOf, typeInfo, hi1, hi2, ← hn, hl]
theorem wq_rdN (h : ∀ (j : Nat) (v : Value), cs[j]? = some v → w.cell? (A.add j) = some v) (hgd : Region.wanted (Oper.mk dst (.load T x) ty pos aft gd) (yielded ops a.tmps) = true) (hT : Many P T n) (hx : a.eval x = .pointer (some A)) (hn : cs.length = n) (hr : wpList P ops Q rest (a.put dst (.agg cs.toArray)) w) : wpList P ops Q ((Oper.mk dst (.load T x) ty pos aft gd) :: rest) a w :=
 wpList_want hgd fun K hK => by
   unfold Oper.wp execOp
   simp only [hx, Sem.run_bind, run_rdN h hn, Result.andThen_ok, Sem.run_pure]
   exact hK _ _ hr
end
theorem wq_build2 {P : Program} {ops : Array Oper} {Q : Exit → Act → World → Prop} {rest : List Oper} {dst : Option Tmp} {ty : TypeId} {pos : String} {aft : Array Edge} {gd : Option (Nat × Bool)} {a : Act} {w : World} {T : TypeId} {x y : Operand} {v : Value} {i j : Nat} {u u' : Value} (hb : ∀ w, (Instr.build T #[(i, u), (j, u')]).run P w = .ok v w) (hgd : Region.wanted (Oper.mk dst (.build T #[(i, x), (j, y)]) ty pos aft gd) (yielded ops a.tmps) = true) (hx : a.eval x = u) (hy : a.eval y = u') (hr : wpList P ops Q rest (a.put dst v) w) : wpList P ops Q ((Oper.mk dst (.build T #[(i, x), (j, y)]) ty pos aft gd) :: rest) a w :=
 wq_buildN (fun w => by simpa [hx, hy] using hb w) hgd hr
theorem CoefB.first {w : World} (h : CoefB w) : ∀ (j : Nat) (v : Value), (firstL.map v64)[j]? = some v → w.cell? ((⟨2, 0, none⟩ : Addr).add j) = some v := by
 intro j v hj
 rw [Addr.add_mid, Nat.zero_add]
 have hl : j < 8 := by
   have := (List.getElem?_eq_some_iff.1 hj).1
   simpa [firstL_length] using this
 rw [h.1 j hl, ← hj, map64_at firstL (by rw [firstL_length]; exact hl)]
theorem build_hash (sz : Int) (w : World) : (Instr.build 161 #[(0, A64 firstL), (3, .int .i64 sz)]).run Tryz.prog w = .ok (.agg (hashC firstL 0 (.slice none 0 0) sz).toArray) w := by kernel_rfl
theorem start_bits (k s : Nat) (hk : k ≤ 64) (hs : s ≤ 64) : BitVec.ofInt 64 (bits BinOp.xor IntKind.u64 (bits BinOp.xor IntKind.u64 16842752 ((k : Int) * 256)) (s : Int)) = ((0x01010000#64) ^^^ (BitVec.ofNat 64 k <<< 8)) ^^^ BitVec.ofNat 64 s := by
 have : ∀ k s : Fin 65, BitVec.ofInt 64 (bits BinOp.xor IntKind.u64 (bits BinOp.xor IntKind.u64 16842752 ((k.val : Int) * 256)) (s.val : Int)) = ((0x01010000#64) ^^^ (BitVec.ofNat 64 k.val <<< 8)) ^^^ BitVec.ofNat 64 s.val := by decide +kernel
 exact this ⟨k, by omega⟩ ⟨s, by omega⟩
theorem hashC_set0 {h : List (BitVec 64)} {n : Nat} {v : Value} {sz : Int} {x : BitVec 64} (hh : h.length = 8) : (hashC h n v sz).set 0 (v64 x) = hashC (setN h 0 x) n v sz := by
 unfold hashC; rw [List.set_append_left _ _ (by simp [hh]), mapv_set]
set_option maxHeartbeats 2000000 in
theorem new_ok (size : Nat) (key : List Byte) (p : Option Addr) (c : Nat) (h0 : 1 ≤ size) (h1 : size ≤ 64) (hk : key.length ≤ 64) (w0 w : World) (L : List Blk) (hc : CoefB w0) (hr : ∀ w' M, Own w0 w' (M ++ L) → RdB w' p key) (hm : Own w0 w L) :
   Calls Tryz.prog 87 #[.int .i64 size, .slice p key.length c] w fun e w' => ∃ g v M, e = .returned (.tuple #[.pointer (some ⟨g, 0, none⟩), .int .i64 0]) ∧ Own w0 w' (⟨g, 161, hashK (startL size key.length) (keyL key) (nbk (keyL key).length) v size⟩ :: (M ++ L)) ∧ RestO M (keyL key) (nbk (keyL key).length) v := by
 have a1 : decide ((size : Int) < 1) = false := by simp; omega
 have a2 : ¬ (size : Int) < 1 := by omega
 have a3 : decide ((64 : Int) < (size : Int)) = false := by simp; omega
 have a4 : ¬ (64 : Int) < (size : Int) := by omega
 have a5 : decide ((64 : Int) < (key.length : Int)) = false := by simp; omega
 have a6 : ¬ (64 : Int) < (key.length : Int) := by omega
 have HC := Lib.hid hc
 have HR := Lib.hid hr
 have lf := hashC_length (h := firstL) (n := 0) (v := .slice none 0 0) (sz := (size : Int)) firstL_length
 have ES := Lib.hid (show (hashC firstL 0 (.slice none 0 0) (size : Int)).set 0 (v64 (nth firstL 0 ^^^ BitVec.ofInt 64 (bits BinOp.xor IntKind.u64 (bits BinOp.xor IntKind.u64 16842752 ((key.length : Int) * 256)) (size : Int)))) = hashK (startL size key.length) [] 0 (.slice none 0 0) size by
   rw [hashC_set0 firstL_length, start_bits _ _ hk h1]; rfl)
 have f0 := Lib.hid (show (hashC firstL 0 (.slice none 0 0) (size : Int))[0]? = some (v64 (nth firstL 0)) from rfl)
 clear hc hr
 by_cases hk0 : key.length = 0
 · have b1 : decide ((0 : Int) < (key.length : Int)) = false := decide_eq_false (by omega)
   have b2 : ¬ (0 : Int) < (key.length : Int) := by omega
   have b3 : ¬ 0 < key.length := by omega
   have EK := Lib.hid (show keyL key = [] by rw [keyL, if_pos hk0])
   clear hk0
   go_enter Tryz.func87, Tryz.ntmps87
   go_wp2_with (first | ((with_reducible apply wq_rdN (cs := firstL.map v64) (HC.out.ext hm.x).first); exact rfl; infer_instance; exact rfl; exact rfl) | ((with_reducible apply wq_build2 (build_hash (size : Int))); exact rfl; exact rfl; exact rfl) | ((first | ((with_reducible show qBx); first | ((with_reducible apply wq_boxN hm); exact rfl; exact rfl))); clear hm; (first | (have hx_ := g1; clear hx_; intro gx_) | intro g1); intro w hm))
   refine region_at 17 (fun w' => Ext _ w') 47 (by kernel_rfl) (by kernel_rfl) rfl (fun _ _ h k => h.trans k) (drew_ext _) ?_
   simp only [tSC, List.take_zero, dSC, List.drop_zero, List.map_cons, List.map_nil]
   repeat (first
       | (apply walk_is rfl rfl rfl; (intro wx hwx; (with_reducible apply gq_ld1 (hm.ext hwx)); infer_instance; exact rfl; (focus (repeat first | exact .hd | assumption | apply Has.tl); done); (exact f0.out)); (simp only [Act.put, sIB, sCS, sCZ]; rfl))
       | (apply walk_is rfl rfl rfl
          · (intro wx hwx; first | ((with_reducible show gives _ _ _ (Sem.run _ (execOp _ (Oper.mk _ (Op.load _ _) _ _ _ _)) _)); first | ((with_reducible apply gq_ldv (hm.ext hwx)); infer_instance; exact rfl; (focus (repeat first | exact .hd | assumption | apply Has.tl); done); (focus (first | omega | (simp; omega) | (refine ltB ?_; first | omega | (simp; done) | (simp; omega))))) | ((with_reducible apply gq_ldW (hm.ext hwx)); infer_instance; exact rfl; (focus (repeat first | exact .hd | assumption | apply Has.tl); done); (focus (first | rfl | omega | (simp; done) | (simp; omega)))) | ((with_reducible apply gq_ld1 (hm.ext hwx)); infer_instance; exact rfl; (focus (repeat first | exact .hd | assumption | apply Has.tl); done); exact rfl)) | (go_simp; (try go_bits); first | exact gives_same | exact gives_skip))
          · (simp only [Act.put, sIB, sCS, sCZ]; rfl))
       | (apply walk_not rfl rfl rfl
          · (simp only [Act.put, sIB, sCS, sCZ]; rfl)))
   intro wz hwz
   simp only [zCC, zNR]
   repeat (first | rw [fin_is] | (rw [fin_cons]; intro _ _))
   rw [fin_nil]
   try (replace hm := hm.ext hwz)
   simp only [Act.put, sIB, sCS, sCZ]
   go_wp2_with (first | ((((with_reducible show qSt); first | ((with_reducible apply wq_s1v (f := v64) hm); exact rfl; infer_instance; exact rfl; exact rfl; infer_instance; (focus (repeat first | exact .hd | assumption | apply Swap.tl); done); (focus (first | omega | (simp; omega) | (refine ltB ?_; first | omega | (simp; done) | (simp; omega))))))); clear hm; intro w hm))
   go_ret2
   rw [ES.out] at hm
   rw [EK.out]
   exact ⟨g1, .slice none 0 0, [], rfl, hm, SlO.nil _ _⟩
 · have b1 : decide ((0 : Int) < (key.length : Int)) = true := decide_eq_true (by omega)
   have b2 : (0 : Int) < (key.length : Int) := by omega
   have b3 : 0 < key.length := by omega
   have EK := Lib.hid (show keyL key = pad key 128 by rw [keyL, if_neg hk0])
   have lp : (pad key 128).length ≤ 200 := by
     rw [pad, List.length_append, List.length_replicate]
     have := roomN_lt key.length 128; omega
   have LP := Lib.hid lp
   clear hk0 lp
   go_enter Tryz.func87, Tryz.ntmps87
   go_wp2_with (first | ((with_reducible apply wq_rdN (cs := firstL.map v64) (HC.out.ext hm.x).first); exact rfl; infer_instance; exact rfl; exact rfl) | ((with_reducible apply wq_build2 (build_hash (size : Int))); exact rfl; exact rfl; exact rfl) | ((first | ((with_reducible show qBx); first | ((with_reducible apply wq_boxN hm); exact rfl; exact rfl))); clear hm; (first | (have hx_ := g1; clear hx_; intro gx_) | intro g1); intro w hm))
   refine region_at 17 (fun w' => Ext _ w') 47 (by kernel_rfl) (by kernel_rfl) rfl (fun _ _ h k => h.trans k) (drew_ext _) ?_
   simp only [tSC, List.take_zero, dSC, List.drop_zero, List.map_cons, List.map_nil]
   repeat (first
       | (apply walk_is rfl rfl rfl; (intro wx hwx; (with_reducible apply gq_ld1 (hm.ext hwx)); infer_instance; exact rfl; (focus (repeat first | exact .hd | assumption | apply Has.tl); done); (exact f0.out)); (simp only [Act.put, sIB, sCS, sCZ]; rfl))
       | (apply walk_is rfl rfl rfl
          · (intro wx hwx; first | ((with_reducible show gives _ _ _ (Sem.run _ (execOp _ (Oper.mk _ (Op.load _ _) _ _ _ _)) _)); first | ((with_reducible apply gq_ldv (hm.ext hwx)); infer_instance; exact rfl; (focus (repeat first | exact .hd | assumption | apply Has.tl); done); (focus (first | omega | (simp; omega) | (refine ltB ?_; first | omega | (simp; done) | (simp; omega))))) | ((with_reducible apply gq_ldW (hm.ext hwx)); infer_instance; exact rfl; (focus (repeat first | exact .hd | assumption | apply Has.tl); done); (focus (first | rfl | omega | (simp; done) | (simp; omega)))) | ((with_reducible apply gq_ld1 (hm.ext hwx)); infer_instance; exact rfl; (focus (repeat first | exact .hd | assumption | apply Has.tl); done); exact rfl)) | (go_simp; (try go_bits); first | exact gives_same | exact gives_skip))
          · (simp only [Act.put, sIB, sCS, sCZ]; rfl))
       | (apply walk_not rfl rfl rfl
          · (simp only [Act.put, sIB, sCS, sCZ]; rfl)))
   intro wz hwz
   simp only [zCC, zNR]
   repeat (first | rw [fin_is] | (rw [fin_cons]; intro _ _))
   rw [fin_nil]
   try (replace hm := hm.ext hwz)
   simp only [Act.put, sIB, sCS, sCZ]
   go_wp2_with (first | ((((with_reducible show qSt); first | ((with_reducible apply wq_s1v (f := v64) hm); exact rfl; infer_instance; exact rfl; exact rfl; infer_instance; (focus (repeat first | exact .hd | assumption | apply Swap.tl); done); (focus (first | omega | (simp; omega) | (refine ltB ?_; first | omega | (simp; done) | (simp; omega))))))); clear hm; intro w hm))
   refine (padded_any key p c 128 _ (HR.out _ [_] hm) (by omega) (by decide) (by decide)).mono ?_
   rintro e w ⟨v, rfl, ⟨pp, cc, rfl, hcc, hrb⟩, hx_⟩
   replace hm := hm.ext hx_
   rw [ES.out] at hm
   have HRB := Lib.hid hrb
   clear hx_ hrb
   go_wp2_with fail
   refine (write_any g1 (startL size key.length) [] size (pad key 128) pp cc (startL_length _ _) (by have := LP.out; simp; omega) w0 _ [] L (.slice none 0 0) HC.out HRB.out hm (SlO.nil _ _)).mono ?_
   rintro e w ⟨rfl, v', M', hm, hs⟩
   go_wp2
   go_ret2
   rw [EK.out]
   rw [List.nil_append] at hm hs
   exact ⟨g1, v', M', rfl, hm, hs⟩
theorem sumL_eq (size : Nat) (key b : List Byte) : sumL size key b = (outL (finL (startL size key.length) (keyL key ++ b))).take size := rfl
theorem keyL_length (key : List Byte) (hk : key.length ≤ 64) : (keyL key).length ≤ 200 := by
 unfold keyL
 split
 · simp
 · rw [pad, List.length_append, List.length_replicate]
   have := roomN_lt key.length 128; omega
set_option maxHeartbeats 2000000 in
theorem bsum_ok (size : Nat) (key : List Byte) (p : Option Addr) (c : Nat) (b : List Byte) (q : Option Addr) (d : Nat) (h0 : 1 ≤ size) (h1 : size ≤ 64) (hk : key.length ≤ 64) (hb : b.length ≤ 35184372088832) (w0 w : World) (L : List Blk) (hc : CoefB w0) (hr : ∀ w' M, Own w0 w' (M ++ L) → RdB w' p key) (hr2 : ∀ w' M, Own w0 w' (M ++ L) → RdB w' q b) (hm : Own w0 w L) :
   Calls Tryz.prog 58 #[.int .i64 size, .slice p key.length c, .slice q b.length d] w fun e w' => ∃ x, e = .returned (.tuple #[x, .int .i64 0]) ∧ BytesS (sumL size key b) x w' ∧ ∃ M, Own w0 w' (M ++ L) := by
 have lk := keyL_length key hk
 have HC := Lib.hid hc
 have HR := Lib.hid hr
 have HR2 := Lib.hid hr2
 clear hc hr hr2
 go_enter Tryz.func58, Tryz.ntmps58
 go_wp2_with fail
 refine (new_ok size key p c h0 h1 hk w0 _ L HC.out HR.out hm).mono ?_
 rintro e w ⟨g, v, M, rfl, hm, hs⟩
 go_wp2_with fail
 refine (write_any g _ (keyL key) size b q d (startL_length _ _) (by omega) w0 _ M L v HC.out (HR2.out _ (⟨g, 161, _⟩ :: M) hm) hm hs).mono ?_
 rintro e w ⟨rfl, v', M', hm, hs⟩
 go_wp2_with fail
 refine (hsum_any g _ (keyL key ++ b) size (startL_length _ _) h1 (by rw [List.length_append]; omega) w0 _ M' L v' HC.out hm hs).mono ?_
 rintro e w ⟨x, rfl, hx, hm⟩
 go_wp2
 go_ret2
 exact ⟨x, rfl, hx, ⟨g, 161, _⟩ :: M', hm⟩
end Go.Proofs.YtaijfigohlkccaaGreatDoor
namespace Go.Proofs.YtaijfigohlkccaaGreatDoor
open Go Go.RowKit
set_option maxRecDepth 100000
end Go.Proofs.YtaijfigohlkccaaGreatDoor
