/-
  Layer 10, the document's: polynomials of elements and back, products, so many times, doubled so often. Conditions: those written in each theorem.
  Layer 10, the document's: an element doubled so often. Conditions: those written in each theorem.
  Layer 10, the document's: a product of polynomials, less its multiples of the field's own. Conditions: those written in each theorem.
  Layer 10, the document's: so many times an element. Conditions: those written in each theorem.
  Layer 3: rounds of no tables; a box. No conditions beyond those written in each theorem.
  Layer 3: the document's way back, and its rounds. No conditions beyond those written in each theorem.
-/
import Derived.Test.YtaijfigohlkccaaGreatDoorZCoreTurns0
import Derived.Test.YtaijfigohlkccaaGreatDoorZCoreTurns5
import Derived.Test.YtaijfigohlkccaaGreatDoorZCoreTurns9
import Derived.Test.YtaijfigohlkccaaGreatDoorZCoreTurns10
import Derived.Test.YtaijfigohlkccaaGreatDoorZCoreTurns12
import Derived.Test.YtaijfigohlkccaaGreatDoorZCoreTurns22
set_option linter.unusedSimpArgs false
set_option linter.unusedVariables false
namespace Go.Proofs.YtaijfigohlkccaaGreatDoor
open Go Go.RowKit
set_option maxRecDepth 100000
set_option maxHeartbeats 2000000 in
theorem rr_high (a : List Byte) (ha : a.length = 16) (w0 : World) : Gives Tryz.prog 108 #[A8 a] w0 (A8 (highL a)) := by
 unfold Gives
 have hm := Own.start w0
 have ha1 := Nat.le_of_eq ha
 have ha2 := Nat.le_of_eq ha.symm
 clear ha
 have lH := highL_length a
 have EH := Lib.hid (show part 256 128 (highF a) (fun _ => 0) = highL a from rfl)
 generalize highL a = H at *
 go_enter Tryz.func108, Tryz.ntmps108
 go_wp2_with (first | ((first | ((with_reducible show qAl); first | ((with_reducible apply wq_new hm); exact rfl; infer_instance)) | ((with_reducible show qBx); first | ((with_reducible apply wq_boxN hm); exact rfl; exact rfl))); clear hm; (first | (have hx_ := g1; clear hx_; (first | (have hx_ := g2; clear hx_; (first | (have hx_ := g3; clear hx_; intro gx_) | intro g3)) | intro g2)) | intro g1); intro w hm))
 go_loopw [4] (fun i wr => ∃ k : Nat, k ≤ 128 ∧ i = .int .i64 k ∧ Own w0 wr [⟨g3, 153, (part 256 k (highF a) fun _ => 0).map v8⟩, ⟨g2, 153, (zer 256).map v8⟩, ⟨g1, 36, a.map v8⟩]) (fun i _ => 128 - (intOf i).toNat)
 case atStart => exact ⟨0, by omega, rfl, by rw [← zer_start]; exact hm⟩
 case round =>
   obtain ⟨k, hk, rfl, hm⟩ := hrel
   by_cases hlt : k < 128
   · have hd : decide ((k : Int) < 128) = true := decide_eq_true (by omega)
     obtain ⟨q, hq, hq4⟩ : ∃ q : Nat, k / 8 = q ∧ q < 16 := ⟨_, rfl, by omega⟩
     obtain ⟨r, hr, hr4⟩ : ∃ r : Nat, k % 8 = r ∧ r < 8 := ⟨_, rfl, Nat.mod_lt _ (by omega)⟩
     have a1 : (k : Int) % 8 = (r : Int) := by omega
     have a2 : (k : Int).tmod 8 = (r : Int) := by rw [Int.tmod_eq_emod_of_nonneg (by omega)]; exact a1
     have a3 : (k : Int) / 8 = (q : Int) := by omega
     have a4 : (k : Int).tdiv 8 = (q : Int) := by rw [Int.tdiv_eq_ediv_of_nonneg (by omega)]; exact a3
     have a5 : (15 : Int) - (q : Int) < 16 := by omega
     have a6 : 0 ≤ (15 : Int) - (q : Int) := by omega
     have a7 : ((15 : Int) - (q : Int)).toNat = 15 - q := by omega
     have a9 : (q : Int) ≤ 15 := by omega
     have EK := Lib.hid (show (nth a (15 - q) >>> r) % 2#8 = highF a k by rw [highF, hq, hr])
     clear hq hr
     go_wp2_with (first | ((with_reducible show qLd); first | ((with_reducible apply wq_ldv hm); exact rfl; infer_instance; exact rfl; (focus (repeat first | exact .hd | assumption | apply Has.tl); done); (focus (first | omega | (simp; omega) | (refine ltB ?_; first | omega | (simp; done) | (simp; omega)))))) | ((((with_reducible show qSt); first | ((with_reducible apply wq_stv hm); exact rfl; infer_instance; exact rfl; (focus (repeat first | exact .hd | assumption | apply Swap.tl); done); infer_instance; exact rfl; (focus (first | omega | (simp; omega) | (refine ltB ?_; first | omega | (simp; done) | (simp; omega))))))); clear hm; intro w hm))
     go_roundw
     case rel =>
       rw [part_set' (show k < 256 by omega) EK.out] at hm
       exact ⟨k + 1, by omega, by go_num, hm⟩
     case measure => simp [intOf] <;> omega
   · obtain rfl : k = 128 := by omega
     have hd : decide (((128 : Nat) : Int) < 128) = false := decide_eq_false (by omega)
     rw [EH.out] at hm
     go_wp2_with (first | ((with_reducible show qLd); first | ((with_reducible apply wq_ldW hm); exact rfl; infer_instance; exact rfl; (focus (repeat first | exact .hd | assumption | apply Has.tl); done); (focus (first | rfl | omega | (simp; done) | (simp; omega))))) | ((((with_reducible show qSt); first | ((with_reducible apply wq_stW hm); exact rfl; infer_instance; exact rfl; exact rfl; (focus (repeat first | exact .hd | assumption | apply Swap.tl); done); (focus (first | rfl | omega | (simp; done) | (simp; omega))); (focus (first | rfl | omega | (simp; done) | (simp; omega))); (focus (first | exact one_map _ | (simp [one8, one32, one64]; done)))))); clear hm; intro w hm))
     refine ret_own hm rfl rfl (by infer_instance) (by repeat (first | exact Has.hd | assumption | apply Has.tl)) (by first | rfl | omega | (simp only [zeros_length, zer_length, tab_length, part_length, setN_length, List.length_map, List.length_cons, List.length_nil, List.length_append, List.length_take, List.length_drop, List.length_replicate, blk_length, putL_length] <;> omega)) rfl ⟨rfl, hm.x⟩
set_option maxHeartbeats 2000000 in
theorem rr_highest (p : List Byte) (hp : p.length = 256) (w0 : World) : Gives Tryz.prog 106 #[A8 p] w0 (A8 (hiF p 128)) := by
 unfold Gives
 have hm := Own.start w0
 have hp1 := Nat.le_of_eq hp
 have hp2 := Nat.le_of_eq hp.symm
 clear hp
 have lD := hiF_length p 128
 generalize hD : hiF p 128 = D at *
 have HD := Lib.hid hD
 clear hD
 go_enter Tryz.func106, Tryz.ntmps106
 go_wp2_with (first | ((first | ((with_reducible show qAl); first | ((with_reducible apply wq_new hm); exact rfl; infer_instance)) | ((with_reducible show qBx); first | ((with_reducible apply wq_boxN hm); exact rfl; exact rfl))); clear hm; (first | (have hx_ := g1; clear hx_; (first | (have hx_ := g2; clear hx_; (first | (have hx_ := g3; clear hx_; intro gx_) | intro g3)) | intro g2)) | intro g1); intro w hm))
 go_loopw [4] (fun i wr => ∃ k : Nat, k ≤ 128 ∧ i = .int .i64 k ∧ Own w0 wr [⟨g3, 36, (hiF p k).map v8⟩, ⟨g2, 36, (zer 16).map v8⟩, ⟨g1, 153, p.map v8⟩]) (fun i _ => 128 - (intOf i).toNat)
 case atStart => exact ⟨0, by omega, rfl, hm⟩
 case round =>
   obtain ⟨k, hk, rfl, hm⟩ := hrel
   by_cases hlt : k < 128
   · have hd : decide ((k : Int) < 128) = true := decide_eq_true (by omega)
     obtain ⟨q, hq, hq4⟩ : ∃ q : Nat, k / 8 = q ∧ q < 16 := ⟨_, rfl, by omega⟩
     obtain ⟨r, hr, hr4⟩ : ∃ r : Nat, k % 8 = r ∧ r < 8 := ⟨_, rfl, Nat.mod_lt _ (by omega)⟩
     have a1 : (k : Int) % 8 = (r : Int) := by omega
     have a2 : (k : Int).tmod 8 = (r : Int) := by rw [Int.tmod_eq_emod_of_nonneg (by omega)]; exact a1
     have a3 : (k : Int) / 8 = (q : Int) := by omega
     have a4 : (k : Int).tdiv 8 = (q : Int) := by rw [Int.tdiv_eq_ediv_of_nonneg (by omega)]; exact a3
     have a5 : (15 : Int) - (q : Int) < 16 := by omega
     have a6 : 0 ≤ (15 : Int) - (q : Int) := by omega
     have a7 : ((15 : Int) - (q : Int)).toNat = 15 - q := by omega
     have a9 : (q : Int) ≤ 15 := by omega
     have a8 : (k : Int) < 256 := by omega
     have EK := Lib.hid (show setN (hiF p k) (15 - q) (nth (hiF p k) (15 - q) + (nth p k <<< r)) = hiF p (k + 1) by rw [hiF, hq, hr])
     have lh := hiF_length p k
     generalize hiF p k = H at *
     clear hq hr
     go_wp2_with fail
     refine region_at 17 (fun w' => Ext _ w') 27 (by kernel_rfl) (by kernel_rfl) rfl (fun _ _ h k => h.trans k) (drew_ext _) ?_
     simp only [tSC, List.take_zero, dSC, List.drop_zero, List.map_cons, List.map_nil]
     repeat (first
         | (apply walk_is rfl rfl rfl
            · (intro wx hwx; first | ((with_reducible show gives _ _ _ (Sem.run _ (execOp _ (Oper.mk _ (Op.load _ _) _ _ _ _)) _)); first | ((with_reducible apply gq_ldv (hm.ext hwx)); infer_instance; exact rfl; (focus (repeat first | exact .hd | assumption | apply Has.tl); done); (focus (first | omega | (simp; omega) | (refine ltB ?_; first | omega | (simp; done) | (simp; omega))))) | ((with_reducible apply gq_ldW (hm.ext hwx)); infer_instance; exact rfl; (focus (repeat first | exact .hd | assumption | apply Has.tl); done); (focus (first | rfl | omega | (simp; done) | (simp; omega)))) | ((with_reducible apply gq_ld1 (hm.ext hwx)); infer_instance; exact rfl; (focus (repeat first | exact .hd | assumption | apply Has.tl); done); exact rfl)) | (go_simp; (try go_bits); first | exact gives_same | exact gives_skip))
            · (simp only [Act.put, sIB, sCS, sCZ]; rfl))
         | (apply walk_not rfl rfl rfl
            · (simp only [Act.put, sIB, sCS, sCZ]; rfl)))
     intro wz hwz
     simp only [zCC, zNR]
     repeat (first | rw [fin_is] | (rw [fin_cons]; intro _ _))
     rw [fin_nil]
     try (replace hm := hm.ext hwz)
     simp only [Act.put, sIB, sCS, sCZ]
     go_wp2_with (first | ((((with_reducible show qSt); first | ((with_reducible apply wq_stv hm); exact rfl; infer_instance; exact rfl; (focus (repeat first | exact .hd | assumption | apply Swap.tl); done); infer_instance; exact rfl; (focus (first | omega | (simp; omega) | (refine ltB ?_; first | omega | (simp; done) | (simp; omega))))))); clear hm; intro w hm))
     go_roundw
     case rel =>
       rw [EK.out] at hm
       exact ⟨k + 1, by omega, by go_num, hm⟩
     case measure => simp [intOf] <;> omega
   · obtain rfl : k = 128 := by omega
     have hd : decide (((128 : Nat) : Int) < 128) = false := decide_eq_false (by omega)
     rw [HD.out] at hm
     go_wp2_with (first | ((with_reducible show qLd); first | ((with_reducible apply wq_ldW hm); exact rfl; infer_instance; exact rfl; (focus (repeat first | exact .hd | assumption | apply Has.tl); done); (focus (first | rfl | omega | (simp; done) | (simp; omega))))) | ((((with_reducible show qSt); first | ((with_reducible apply wq_stW hm); exact rfl; infer_instance; exact rfl; exact rfl; (focus (repeat first | exact .hd | assumption | apply Swap.tl); done); (focus (first | rfl | omega | (simp; done) | (simp; omega))); (focus (first | rfl | omega | (simp; done) | (simp; omega))); (focus (first | exact one_map _ | (simp [one8, one32, one64]; done)))))); clear hm; intro w hm))
     refine ret_own hm rfl rfl (by infer_instance) (by repeat (first | exact Has.hd | assumption | apply Has.tl)) (by first | rfl | omega | (simp only [zeros_length, zer_length, tab_length, part_length, setN_length, List.length_map, List.length_cons, List.length_nil, List.length_append, List.length_take, List.length_drop, List.length_replicate, blk_length, putL_length] <;> omega)) rfl ⟨rfl, hm.x⟩
end Go.Proofs.YtaijfigohlkccaaGreatDoor
namespace Go.Proofs.YtaijfigohlkccaaGreatDoor
open Go Go.RowKit
set_option maxRecDepth 100000
theorem top_two : ∀ b : Byte, b >>> 7 = 0#8 ∨ b >>> 7 = 1#8 := by decide +kernel
theorem div128 : ∀ x : Byte, x / 128#8 = x >>> 7 := by decide +kernel
def dipF (A : List Byte) (k : Nat) : List Byte := part 16 k (dblF A) (nth A)
theorem dipF_length (A : List Byte) (k : Nat) : (dipF A k).length = 16 := part_length
theorem dipF_step (A : List Byte) (k : Nat) (hk : k < 15) : setN (dipF A k) k ((nth (dipF A k) k <<< 1) ||| (nth (dipF A k) (k + 1) / 128#8)) = dipF A (k + 1) := by
 have h1 : nth (dipF A k) k = nth A k := nth_part_ge (by omega) (Nat.le_refl _)
 have h2 : nth (dipF A k) (k + 1) = nth A (k + 1) := nth_part_ge (by omega) (by omega)
 rw [h1, h2, div128]
 exact part_set' (by omega) (by rw [dblF, if_pos hk])
theorem dip_at (A : List Byte) : nth (dipF A 15) 15 = nth A 15 := nth_part_ge (by omega) (Nat.le_refl _)
theorem dip_yes (A : List Byte) (h : nth A 0 / 128#8 = 1#8) : setN (setN (dipF A 15) 15 (nth (dipF A 15) 15 <<< 1)) 15 (nth (setN (dipF A 15) 15 (nth (dipF A 15) 15 <<< 1)) 15 ^^^ 135#8) = dblL A := by
 rw [div128] at h
 refine nth_ext (by rw [setN_length, setN_length, dipF_length, dblL_length]) fun i hi => ?_
 rw [setN_length, setN_length, dipF_length] at hi
 rw [nth_set (by rw [setN_length, dipF_length]; exact hi), nth_set (by rw [dipF_length]; omega), nth_set (by rw [dipF_length]; exact hi), if_pos rfl, dip_at, dblL, nth_tab hi]
 by_cases e : 15 = i
 · subst e; rw [if_pos rfl, dblF, if_neg (by omega), h]; simp
 · rw [if_neg e, if_neg e]; exact nth_part_lt hi (by omega)
theorem dip_no (A : List Byte) (h : ¬ nth A 0 / 128#8 = 1#8) : setN (dipF A 15) 15 (nth (dipF A 15) 15 <<< 1) = dblL A := by
 rw [div128] at h
 have h0 : nth A 0 >>> 7 = 0#8 := by rcases top_two (nth A 0) with h1 | h1 <;> simp_all
 refine nth_ext (by rw [setN_length, dipF_length, dblL_length]) fun i hi => ?_
 rw [setN_length, dipF_length] at hi
 rw [nth_set (by rw [dipF_length]; exact hi), dip_at, dblL, nth_tab hi]
 by_cases e : 15 = i
 · subst e; rw [if_pos rfl, dblF, if_neg (by omega), h0]; simp
 · rw [if_neg e]; exact nth_part_lt hi (by omega)
set_option maxHeartbeats 4000000 in
theorem rr_raised (n : Nat) (a : List Byte) (ha : a.length = 16) (hn : n ≤ 9223372036854775807) (w0 : World) : Gives Tryz.prog 104 #[.int .i64 n, A8 a] w0 (A8 (dblN a n)) := by
 unfold Gives
 have hm := Own.start w0
 have HA := Lib.hid ha
 have ha1 := Nat.le_of_eq ha
 have ha2 := Nat.le_of_eq ha.symm
 clear ha
 go_enter Tryz.func104, Tryz.ntmps104
 go_wp2_with (first | ((first | ((with_reducible show qAl); first | ((with_reducible apply wq_new hm); exact rfl; infer_instance)) | ((with_reducible show qBx); first | ((with_reducible apply wq_boxN hm); exact rfl; exact rfl))); clear hm; (first | (have hx_ := g1; clear hx_; (first | (have hx_ := g2; clear hx_; intro gx_) | intro g2)) | intro g1); intro w hm))
 go_loopw [5] (fun i wr => ∃ k : Nat, k ≤ n ∧ i = .int .i64 k ∧ Own w0 wr [⟨g2, 36, (zer 16).map v8⟩, ⟨g1, 36, (dblN a k).map v8⟩]) (fun i _ => n - (intOf i).toNat)
 case atStart => exact ⟨0, by omega, rfl, hm⟩
 case round =>
   obtain ⟨k, hk, rfl, hm⟩ := hrel
   by_cases hlt : k < n
   · have hd : decide ((k : Int) < (n : Int)) = true := decide_eq_true (by omega)
     have hd2 : (k : Int) < (n : Int) := by omega
     have lA := dblN_length a HA.out k
     have EA : Hid (dblN a (k + 1) = dblL (dblN a k)) := Lib.hid rfl
     generalize dblN a k = A at *
     have ES : Hid (A = dipF A 0) := Lib.hid (part_start lA)
     have LD := Lib.hid (dipF_length A)
     have SD := Lib.hid (dipF_step A)
     have EY := Lib.hid (dip_yes A)
     have EN := Lib.hid (dip_no A)
     go_wp2_with (first | ((with_reducible show qLd); first | ((with_reducible apply wq_ldv hm); exact rfl; infer_instance; exact rfl; (focus (repeat first | exact .hd | assumption | apply Has.tl); done); (focus (first | omega | (simp; omega) | (refine ltB ?_; first | omega | (simp; done) | (simp; omega)))))))
     generalize hT : nth A 0 / 128#8 = T at *
     rw [ES.out] at hm
     go_loopw [7] (fun i wr => ∃ j : Nat, j ≤ 15 ∧ i = .int .i64 j ∧ Own w0 wr [⟨g2, 36, (zer 16).map v8⟩, ⟨g1, 36, (dipF A j).map v8⟩]) (fun i _ => 15 - (intOf i).toNat)
     case atStart => exact ⟨0, by omega, rfl, hm⟩
     case round =>
       obtain ⟨j, hj, rfl, hm⟩ := hrel
       have lJ := LD.out j
       by_cases hjl : j < 15
       · have hj1 : decide ((j : Int) < 15) = true := decide_eq_true (by omega)
         have hj2 : (j : Int) < 16 := by omega
         have hj3 : (j : Int) + 1 < 16 := by omega
         have hj4 : 0 ≤ (j : Int) + 1 := by omega
         have hj5 : ((j : Int) + 1).toNat = j + 1 := by omega
         have EJ := Lib.hid (SD.out j hjl)
         generalize dipF A j = C at *
         go_wp2_with fail
         refine region_at 12 (fun w' => Ext _ w') 43 (by kernel_rfl) (by kernel_rfl) rfl (fun _ _ h k => h.trans k) (drew_ext _) ?_
         simp only [tSC, List.take_zero, dSC, List.drop_zero, List.map_cons, List.map_nil]
         repeat (first
             | (apply walk_is rfl rfl rfl
                · (intro wx hwx; first | ((with_reducible show gives _ _ _ (Sem.run _ (execOp _ (Oper.mk _ (Op.load _ _) _ _ _ _)) _)); first | ((with_reducible apply gq_ldv (hm.ext hwx)); infer_instance; exact rfl; (focus (repeat first | exact .hd | assumption | apply Has.tl); done); (focus (first | omega | (simp; omega) | (refine ltB ?_; first | omega | (simp; done) | (simp; omega))))) | ((with_reducible apply gq_ldW (hm.ext hwx)); infer_instance; exact rfl; (focus (repeat first | exact .hd | assumption | apply Has.tl); done); (focus (first | rfl | omega | (simp; done) | (simp; omega)))) | ((with_reducible apply gq_ld1 (hm.ext hwx)); infer_instance; exact rfl; (focus (repeat first | exact .hd | assumption | apply Has.tl); done); exact rfl)) | (go_simp; (try go_bits); first | exact gives_same | exact gives_skip))
                · (simp only [Act.put, sIB, sCS, sCZ]; rfl))
             | (apply walk_not rfl rfl rfl
                · (simp only [Act.put, sIB, sCS, sCZ]; rfl)))
         intro wz hwz
         simp only [zCC, zNR]
         repeat (first | rw [fin_is] | (rw [fin_cons]; intro _ _))
         rw [fin_nil]
         try (replace hm := hm.ext hwz)
         simp only [Act.put, sIB, sCS, sCZ]
         go_wp2_with (first | ((((with_reducible show qSt); first | ((with_reducible apply wq_stv hm); exact rfl; infer_instance; exact rfl; (focus (repeat first | exact .hd | assumption | apply Swap.tl); done); infer_instance; exact rfl; (focus (first | omega | (simp; omega) | (refine ltB ?_; first | omega | (simp; done) | (simp; omega))))))); clear hm; intro w hm))
         go_roundw
         case rel =>
           rw [EJ.out] at hm
           exact ⟨j + 1, by omega, by go_num, hm⟩
         case measure => simp [intOf] <;> omega
       · obtain rfl : j = 15 := by omega
         have hj1 : decide (((15 : Nat) : Int) < 15) = false := decide_eq_false (by omega)
         by_cases hz : T = 1#8
         · have e1 : (T == 1#8) = true := by rw [hz]; rfl
           have EZ := Lib.hid (EY.out hz)
           clear hz
           generalize dipF A 15 = C at *
           go_wp2_with (first | ((with_reducible show qLd); first | ((with_reducible apply wq_ldv hm); exact rfl; infer_instance; exact rfl; (focus (repeat first | exact .hd | assumption | apply Has.tl); done); (focus (first | omega | (simp; omega) | (refine ltB ?_; first | omega | (simp; done) | (simp; omega)))))) | ((((with_reducible show qSt); first | ((with_reducible apply wq_stv hm); exact rfl; infer_instance; exact rfl; (focus (repeat first | exact .hd | assumption | apply Swap.tl); done); infer_instance; exact rfl; (focus (first | omega | (simp; omega) | (refine ltB ?_; first | omega | (simp; done) | (simp; omega))))))); clear hm; intro w hm))
           go_roundw
           case rel =>
             rw [EZ.out, ← EA.out] at hm
             exact ⟨k + 1, by omega, by go_num, hm⟩
           case measure => simp [intOf] <;> omega
         · have e1 : (T == 1#8) = false := by simpa using hz
           have EZ := Lib.hid (EN.out hz)
           clear hz
           generalize dipF A 15 = C at *
           go_wp2_with (first | ((with_reducible show qLd); first | ((with_reducible apply wq_ldv hm); exact rfl; infer_instance; exact rfl; (focus (repeat first | exact .hd | assumption | apply Has.tl); done); (focus (first | omega | (simp; omega) | (refine ltB ?_; first | omega | (simp; done) | (simp; omega)))))) | ((((with_reducible show qSt); first | ((with_reducible apply wq_stv hm); exact rfl; infer_instance; exact rfl; (focus (repeat first | exact .hd | assumption | apply Swap.tl); done); infer_instance; exact rfl; (focus (first | omega | (simp; omega) | (refine ltB ?_; first | omega | (simp; done) | (simp; omega))))))); clear hm; intro w hm))
           go_roundw
           case rel =>
             rw [EZ.out, ← EA.out] at hm
             exact ⟨k + 1, by omega, by go_num, hm⟩
           case measure => simp [intOf] <;> omega
   · obtain rfl : k = n := by omega
     have hd : decide ((k : Int) < (k : Int)) = false := decide_eq_false (by omega)
     have lA := dblN_length a HA.out k
     go_wp2_with (first | ((with_reducible show qLd); first | ((with_reducible apply wq_ldW hm); exact rfl; infer_instance; exact rfl; (focus (repeat first | exact .hd | assumption | apply Has.tl); done); (focus (first | rfl | omega | (simp; done) | (simp; omega))))) | ((((with_reducible show qSt); first | ((with_reducible apply wq_stW hm); exact rfl; infer_instance; exact rfl; exact rfl; (focus (repeat first | exact .hd | assumption | apply Swap.tl); done); (focus (first | rfl | omega | (simp; done) | (simp; omega))); (focus (first | rfl | omega | (simp; done) | (simp; omega))); (focus (first | exact one_map _ | (simp [one8, one32, one64]; done)))))); clear hm; intro w hm))
     refine ret_own hm rfl rfl (by infer_instance) (by repeat (first | exact Has.hd | assumption | apply Has.tl)) (by first | rfl | omega | (simp only [zeros_length, zer_length, tab_length, part_length, setN_length, List.length_map, List.length_cons, List.length_nil, List.length_append, List.length_take, List.length_drop, List.length_replicate, blk_length, putL_length] <;> omega)) rfl ⟨rfl, hm.x⟩
end Go.Proofs.YtaijfigohlkccaaGreatDoor
namespace Go.Proofs.YtaijfigohlkccaaGreatDoor
open Go Go.RowKit
set_option maxRecDepth 100000
theorem rd1_yes (L : List Byte) (m a b c : Nat) (h : nth L m = 1#8) : put1 (put1 (put1 (put1 (setN L m 0#8) (m - 128 + a)) (m - 128 + b)) (m - 128 + c)) (m - 128) = rd1 L m a b c := by
 rw [rd1, if_pos h]
theorem rd1_not (L : List Byte) (m a b c : Nat) (h : ¬ nth L m = 1#8) : rd1 L m a b c = L := by rw [rd1, if_neg h]
set_option maxHeartbeats 8000000 in
theorem rr_rest (p q : List Byte) (a b c : Nat) (hp : p.length = 256) (hq : q.length = 256) (ha : a ≤ 127) (hb : b ≤ 127) (hc : c ≤ 127) (w0 : World) : Gives Tryz.prog 107 #[A8 p, A8 q, .int .i64 a, .int .i64 b, .int .i64 c] w0 (A8 (restL p q a b c)) := by
 unfold Gives
 have hm := Own.start w0
 have hp1 := Nat.le_of_eq hp
 have hp2 := Nat.le_of_eq hp.symm
 have hq1 := Nat.le_of_eq hq
 have hq2 := Nat.le_of_eq hq.symm
 clear hp hq
 have lR := restL_length p q a b c
 have ER : Hid (rdF (cmI p q 128) a b c 127 = restL p q a b c) := Lib.hid rfl
 generalize restL p q a b c = R at *
 go_enter Tryz.func107, Tryz.ntmps107
 go_wp2_with (first | ((first | ((with_reducible show qAl); first | ((with_reducible apply wq_new hm); exact rfl; infer_instance)) | ((with_reducible show qBx); first | ((with_reducible apply wq_boxN hm); exact rfl; exact rfl))); clear hm; (first | (have hx_ := g1; clear hx_; (first | (have hx_ := g2; clear hx_; (first | (have hx_ := g3; clear hx_; (first | (have hx_ := g4; clear hx_; intro gx_) | intro g4)) | intro g3)) | intro g2)) | intro g1); intro w hm))
 go_loopw [12] (fun i wr => ∃ k : Nat, k ≤ 128 ∧ i = .int .i64 k ∧ Own w0 wr [⟨g4, 153, (cmI p q k).map v8⟩, ⟨g3, 153, (zer 256).map v8⟩, ⟨g2, 153, q.map v8⟩, ⟨g1, 153, p.map v8⟩]) (fun i _ => 128 - (intOf i).toNat)
 case atStart => exact ⟨0, by omega, rfl, hm⟩
 case round =>
   obtain ⟨k, hk, rfl, hm⟩ := hrel
   by_cases hlt : k < 128
   · have hd : decide ((k : Int) < 128) = true := decide_eq_true (by omega)
     have hd2 : (k : Int) < 128 := by omega
     have hd3 : (k : Int) < 256 := by omega
     have lI := cmI_length p q k
     by_cases hz : nth q k = 0#8
     · have e1 : (nth q k == 0#8) = true := by rw [hz]; rfl
       have EK : Hid (cmI p q (k + 1) = cmI p q k) := Lib.hid (by rw [cmI, if_pos hz])
       clear hz
       go_wp2_with (first | ((with_reducible show qLd); first | ((with_reducible apply wq_ldv hm); exact rfl; infer_instance; exact rfl; (focus (repeat first | exact .hd | assumption | apply Has.tl); done); (focus (first | omega | (simp; omega) | (refine ltB ?_; first | omega | (simp; done) | (simp; omega)))))))
       go_roundw
       case rel => exact ⟨k + 1, by omega, by go_num, by rw [EK.out]; exact hm⟩
       case measure => simp [intOf] <;> omega
     · have e1 : (nth q k == 0#8) = false := by simpa using hz
       have EK : Hid (cmI p q (k + 1) = cmK p (cmI p q k) k 128) := Lib.hid (by rw [cmI, if_neg hz])
       have E0 : Hid (cmK p (cmI p q k) k 0 = cmI p q k) := Lib.hid rfl
       have LK := Lib.hid (fun j => cmK_length p (cmI p q k) k j)
       have ES := Lib.hid (fun j => show setN (cmK p (cmI p q k) k j) (k + j) (nth (cmK p (cmI p q k) k j) (k + j) ^^^ nth p j) = cmK p (cmI p q k) k (j + 1) from rfl)
       clear hz
       rw [← E0.out] at hm
       go_wp2_with (first | ((with_reducible show qLd); first | ((with_reducible apply wq_ldv hm); exact rfl; infer_instance; exact rfl; (focus (repeat first | exact .hd | assumption | apply Has.tl); done); (focus (first | omega | (simp; omega) | (refine ltB ?_; first | omega | (simp; done) | (simp; omega)))))))
       go_loopw [13] (fun i wr => ∃ j : Nat, j ≤ 128 ∧ i = .int .i64 j ∧ Own w0 wr [⟨g4, 153, (cmK p (cmI p q k) k j).map v8⟩, ⟨g3, 153, (zer 256).map v8⟩, ⟨g2, 153, q.map v8⟩, ⟨g1, 153, p.map v8⟩]) (fun i _ => 128 - (intOf i).toNat)
       case atStart => exact ⟨0, by omega, rfl, hm⟩
       case round =>
         obtain ⟨j, hj, rfl, hm⟩ := hrel
         by_cases hjl : j < 128
         · have hj1 : decide ((j : Int) < 128) = true := decide_eq_true (by omega)
           have hj2 : (j : Int) < 256 := by omega
           have hj3 : (k : Int) + (j : Int) < 256 := by omega
           have hj4 : 0 ≤ (k : Int) + (j : Int) := by omega
           have hj5 : ((k : Int) + (j : Int)).toNat = k + j := by omega
           have EJ := Lib.hid (ES.out j)
           have lJ := LK.out j
           rw [lI] at lJ
           generalize cmK p (cmI p q k) k j = C at *
           go_wp2_with fail
           refine region_at 13 (fun w' => Ext _ w') 95 (by kernel_rfl) (by kernel_rfl) rfl (fun _ _ h k => h.trans k) (drew_ext _) ?_
           simp only [tSC, List.take_zero, dSC, List.drop_zero, List.map_cons, List.map_nil]
           repeat (first
               | (apply walk_is rfl rfl rfl
                  · (intro wx hwx; first | ((with_reducible show gives _ _ _ (Sem.run _ (execOp _ (Oper.mk _ (Op.load _ _) _ _ _ _)) _)); first | ((with_reducible apply gq_ldv (hm.ext hwx)); infer_instance; exact rfl; (focus (repeat first | exact .hd | assumption | apply Has.tl); done); (focus (first | omega | (simp; omega) | (refine ltB ?_; first | omega | (simp; done) | (simp; omega))))) | ((with_reducible apply gq_ldW (hm.ext hwx)); infer_instance; exact rfl; (focus (repeat first | exact .hd | assumption | apply Has.tl); done); (focus (first | rfl | omega | (simp; done) | (simp; omega)))) | ((with_reducible apply gq_ld1 (hm.ext hwx)); infer_instance; exact rfl; (focus (repeat first | exact .hd | assumption | apply Has.tl); done); exact rfl)) | (go_simp; (try go_bits); first | exact gives_same | exact gives_skip))
                  · (simp only [Act.put, sIB, sCS, sCZ]; rfl))
               | (apply walk_not rfl rfl rfl
                  · (simp only [Act.put, sIB, sCS, sCZ]; rfl)))
           intro wz hwz
           simp only [zCC, zNR]
           repeat (first | rw [fin_is] | (rw [fin_cons]; intro _ _))
           rw [fin_nil]
           try (replace hm := hm.ext hwz)
           simp only [Act.put, sIB, sCS, sCZ]
           go_wp2_with (first | ((((with_reducible show qSt); first | ((with_reducible apply wq_stv hm); exact rfl; infer_instance; exact rfl; (focus (repeat first | exact .hd | assumption | apply Swap.tl); done); infer_instance; exact rfl; (focus (first | omega | (simp; omega) | (refine ltB ?_; first | omega | (simp; done) | (simp; omega))))))); clear hm; intro w hm))
           go_roundw
           case rel =>
             rw [EJ.out] at hm
             exact ⟨j + 1, by omega, by go_num, hm⟩
           case measure => simp [intOf] <;> omega
         · obtain rfl : j = 128 := by omega
           have hj1 : decide (((128 : Nat) : Int) < 128) = false := decide_eq_false (by omega)
           rw [← EK.out] at hm
           go_wp2_with fail
           go_roundw
           case rel => exact ⟨k + 1, by omega, by go_num, hm⟩
           case measure => simp [intOf] <;> omega
   · obtain rfl : k = 128 := by omega
     have hd : decide (((128 : Nat) : Int) < 128) = false := decide_eq_false (by omega)
     have lI := cmI_length p q 128
     generalize cmI p q 128 = X at *
     go_wp2_with fail
     rw [show ((128 : Nat) : Int) = 128 from rfl]
     go_loopw [14] (fun i wr => ∃ m : Nat, 127 ≤ m ∧ m ≤ 254 ∧ i = .int .i64 m ∧ Own w0 wr [⟨g4, 153, (rdF X a b c (254 - m)).map v8⟩, ⟨g3, 153, (zer 256).map v8⟩, ⟨g2, 153, q.map v8⟩, ⟨g1, 153, p.map v8⟩]) (fun i _ => (intOf i).toNat)
     case atStart => exact ⟨254, by omega, by omega, rfl, hm⟩
     case round =>
       obtain ⟨m, hm1, hm2, rfl, hm⟩ := hrel
       by_cases hlt : 128 ≤ m
       · have hd1 : decide ((128 : Int) ≤ (m : Int)) = true := decide_eq_true (by omega)
         have hd2 : decide ((m : Int) ≥ 128) = true := decide_eq_true (by omega)
         have hd3 : (128 : Int) ≤ (m : Int) := by omega
         have hd4 : (m : Int) < 256 := by omega
         have EM : Hid (rdF X a b c (254 - (m - 1)) = rd1 (rdF X a b c (254 - m)) m a b c) := Lib.hid (by
           rw [show 254 - (m - 1) = (254 - m) + 1 from by omega, rdF, show 254 - (254 - m) = m from by omega])
         have lM := rdF_length X a b c (254 - m)
         rw [lI] at lM
         generalize rdF X a b c (254 - m) = L at *
         have hm1' : ((m : Int) - 1) = ((m - 1 : Nat) : Int) := by omega
         by_cases hz : nth L m = 1#8
         · have e1 : (nth L m == 1#8) = true := by rw [hz]; rfl
           have ey := rd1_yes L m a b c hz
           simp only [put1] at ey
           have EY := Lib.hid ey
           clear ey
           have b1 : (m : Int) - 128 + (a : Int) < 256 := by omega
           have b2 : 0 ≤ (m : Int) - 128 + (a : Int) := by omega
           have b3 : ((m : Int) - 128 + (a : Int)).toNat = m - 128 + a := by omega
           have c1 : (m : Int) - 128 + (b : Int) < 256 := by omega
           have c2 : 0 ≤ (m : Int) - 128 + (b : Int) := by omega
           have c3 : ((m : Int) - 128 + (b : Int)).toNat = m - 128 + b := by omega
           have d1 : (m : Int) - 128 + (c : Int) < 256 := by omega
           have d2 : 0 ≤ (m : Int) - 128 + (c : Int) := by omega
           have d3 : ((m : Int) - 128 + (c : Int)).toNat = m - 128 + c := by omega
           have f1 : (m : Int) - 128 < 256 := by omega
           have f2 : 0 ≤ (m : Int) - 128 := by omega
           have f3 : ((m : Int) - 128).toNat = m - 128 := by omega
           clear hz
           go_wp2_with (first | ((with_reducible show qLd); first | ((with_reducible apply wq_ldv hm); exact rfl; infer_instance; exact rfl; (focus (repeat first | exact .hd | assumption | apply Has.tl); done); (focus (first | omega | (simp; omega) | (refine ltB ?_; first | omega | (simp; done) | (simp; omega)))))) | ((((with_reducible show qSt); first | ((with_reducible apply wq_stv hm); exact rfl; infer_instance; exact rfl; (focus (repeat first | exact .hd | assumption | apply Swap.tl); done); infer_instance; exact rfl; (focus (first | omega | (simp; omega) | (refine ltB ?_; first | omega | (simp; done) | (simp; omega))))) | ((with_reducible apply wq_st8i hm); exact rfl; infer_instance; exact rfl; exact rfl; (focus (repeat first | exact .hd | assumption | apply Swap.tl); done); (focus omega); (focus (first | omega | (simp; omega) | (refine ltB ?_; first | omega | (simp; done) | (simp; omega))))))); clear hm; intro w hm))
           go_roundw
           case rel =>
             rw [show BitVec.ofInt 8 0 = 0#8 from rfl, EY.out, ← EM.out] at hm
             exact ⟨m - 1, by omega, by omega, rfl, hm⟩
           case measure => simp [intOf] <;> omega
         · have e1 : (nth L m == 1#8) = false := by simpa using hz
           have EN := Lib.hid (rd1_not L m a b c hz)
           clear hz
           go_wp2_with (first | ((with_reducible show qLd); first | ((with_reducible apply wq_ldv hm); exact rfl; infer_instance; exact rfl; (focus (repeat first | exact .hd | assumption | apply Has.tl); done); (focus (first | omega | (simp; omega) | (refine ltB ?_; first | omega | (simp; done) | (simp; omega)))))))
           go_roundw
           case rel => exact ⟨m - 1, by omega, by omega, rfl, by rw [EM.out, EN.out]; exact hm⟩
           case measure => simp [intOf] <;> omega
       · obtain rfl : m = 127 := by omega
         have hd1 : decide ((128 : Int) ≤ ((127 : Nat) : Int)) = false := decide_eq_false (by omega)
         have hd2 : decide (((127 : Nat) : Int) ≥ 128) = false := decide_eq_false (by omega)
         rw [show 254 - 127 = 127 from rfl, ER.out] at hm
         go_wp2_with (first | ((with_reducible show qLd); first | ((with_reducible apply wq_ldW hm); exact rfl; infer_instance; exact rfl; (focus (repeat first | exact .hd | assumption | apply Has.tl); done); (focus (first | rfl | omega | (simp; done) | (simp; omega))))) | ((((with_reducible show qSt); first | ((with_reducible apply wq_stW hm); exact rfl; infer_instance; exact rfl; exact rfl; (focus (repeat first | exact .hd | assumption | apply Swap.tl); done); (focus (first | rfl | omega | (simp; done) | (simp; omega))); (focus (first | rfl | omega | (simp; done) | (simp; omega))); (focus (first | exact one_map _ | (simp [one8, one32, one64]; done)))))); clear hm; intro w hm))
         refine ret_own hm rfl rfl (by infer_instance) (by repeat (first | exact Has.hd | assumption | apply Has.tl)) (by first | rfl | omega | (simp only [zeros_length, zer_length, tab_length, part_length, setN_length, List.length_map, List.length_cons, List.length_nil, List.length_append, List.length_take, List.length_drop, List.length_replicate, blk_length, putL_length] <;> omega)) rfl ⟨rfl, hm.x⟩
end Go.Proofs.YtaijfigohlkccaaGreatDoor
namespace Go.Proofs.YtaijfigohlkccaaGreatDoor
open Go Go.RowKit
set_option maxRecDepth 100000
theorem num_conv (n : BitVec 64) (k : Nat) : ((n >>> k) % 2#64).setWidth 8 = numF n k := rfl
set_option maxHeartbeats 2000000 in
theorem rr_mul (n : BitVec 64) (a : List Byte) (ha : a.length = 16) (w0 : World) : Gives Tryz.prog 84 #[v64 n, A8 a] w0 (A8 (mulL n a)) := by
 unfold Gives
 have hm := Own.start w0
 have ha1 := Nat.le_of_eq ha
 have ha2 := Nat.le_of_eq ha.symm
 have C1 := Lib.hid fun wx => rr_high a ha wx
 have C2 : Hid (∀ wx, Gives Tryz.prog 107 #[A8 (highL a), A8 (numL n), .int .i64 7, .int .i64 2, .int .i64 1] wx (A8 (restL (highL a) (numL n) 7 2 1))) := Lib.hid fun wx => rr_rest (highL a) (numL n) 7 2 1 (highL_length a) (numL_length n) (by omega) (by omega) (by omega) wx
 have c3 := fun wx => rr_highest (restL (highL a) (numL n) 7 2 1) (restL_length _ _ _ _ _) wx
 rw [rmul_mul n a ha] at c3
 have C3 := Lib.hid c3
 have EN : Hid (part 256 64 (numF n) (fun _ => 0) = numL n) := Lib.hid rfl
 have EF := Lib.hid (num_conv n)
 have lN := numL_length n
 have lM := mulL_length n a
 clear c3 ha
 generalize restL (highL a) (numL n) 7 2 1 = R at *
 generalize highL a = H at *
 generalize numL n = M at *
 generalize mulL n a = D at *
 go_enter Tryz.func84, Tryz.ntmps84
 go_wp2_with (first | ((first | ((with_reducible show qAl); first | ((with_reducible apply wq_new hm); exact rfl; infer_instance)) | ((with_reducible show qBx); first | ((with_reducible apply wq_boxN hm); exact rfl; exact rfl))); clear hm; (first | (have hx_ := g1; clear hx_; (first | (have hx_ := g2; clear hx_; (first | (have hx_ := g3; clear hx_; intro gx_) | intro g3)) | intro g2)) | intro g1); intro w hm))
 go_loopw [6] (fun i wr => ∃ k : Nat, k ≤ 64 ∧ i = .int .i64 k ∧ Own w0 wr [⟨g3, 153, (part 256 k (numF n) fun _ => 0).map v8⟩, ⟨g2, 36, (zer 16).map v8⟩, ⟨g1, 36, a.map v8⟩]) (fun i _ => 64 - (intOf i).toNat)
 case atStart => exact ⟨0, by omega, rfl, by rw [← zer_start]; exact hm⟩
 case round =>
   obtain ⟨k, hk, rfl, hm⟩ := hrel
   by_cases hlt : k < 64
   · have hd : decide ((k : Int) < 64) = true := decide_eq_true (by omega)
     have hd2 : (k : Int) < 256 := by omega
     go_wp2_with (first | ((((with_reducible show qSt); first | ((with_reducible apply wq_stv hm); exact rfl; infer_instance; exact rfl; (focus (repeat first | exact .hd | assumption | apply Swap.tl); done); infer_instance; exact rfl; (focus (first | omega | (simp; omega) | (refine ltB ?_; first | omega | (simp; done) | (simp; omega))))))); clear hm; intro w hm))
     go_roundw
     case rel =>
       rw [part_set' (show k < 256 by omega) (EF.out k)] at hm
       exact ⟨k + 1, by omega, by go_num, hm⟩
     case measure => simp [intOf] <;> omega
   · obtain rfl : k = 64 := by omega
     have hd : decide (((64 : Nat) : Int) < 64) = false := decide_eq_false (by omega)
     rw [EN.out] at hm
     go_wp2_with fail
     refine region_at 5 (fun w' => Ext _ w') 24 (by kernel_rfl) (by kernel_rfl) rfl (fun _ _ h k => h.trans k) (drew_ext _) ?_
     simp only [tSC, List.take_zero, dSC, List.drop_zero, List.map_cons, List.map_nil]
     repeat (first
         | (apply walk_is rfl rfl rfl
            · (intro wx hwx; first | ((with_reducible show gives _ _ _ (Sem.run _ (execOp _ (Oper.mk _ (Op.load _ _) _ _ _ _)) _)); first | ((with_reducible apply gq_ldv (hm.ext hwx)); infer_instance; exact rfl; (focus (repeat first | exact .hd | assumption | apply Has.tl); done); (focus (first | omega | (simp; omega) | (refine ltB ?_; first | omega | (simp; done) | (simp; omega))))) | ((with_reducible apply gq_ldW (hm.ext hwx)); infer_instance; exact rfl; (focus (repeat first | exact .hd | assumption | apply Has.tl); done); (focus (first | rfl | omega | (simp; done) | (simp; omega)))) | ((with_reducible apply gq_ld1 (hm.ext hwx)); infer_instance; exact rfl; (focus (repeat first | exact .hd | assumption | apply Has.tl); done); exact rfl)) | (go_simp; (try go_bits); first | exact gives_same | exact gives_skip | with_reducible exact gives_call (C1.out wx) | with_reducible exact gives_call (C2.out wx) | with_reducible exact gives_call (C3.out wx)))
            · (simp only [Act.put, sIB, sCS, sCZ]; rfl))
         | (apply walk_not rfl rfl rfl
            · (simp only [Act.put, sIB, sCS, sCZ]; rfl)))
     intro wz hwz
     simp only [zCC, zNR]
     repeat (first | rw [fin_is] | (rw [fin_cons]; intro _ _))
     rw [fin_nil]
     try (replace hm := hm.ext hwz)
     simp only [Act.put, sIB, sCS, sCZ]
     go_wp2_with (first | ((((with_reducible show qSt); first | ((with_reducible apply wq_stW hm); exact rfl; infer_instance; exact rfl; exact rfl; (focus (repeat first | exact .hd | assumption | apply Swap.tl); done); (focus (first | rfl | omega | (simp; done) | (simp; omega))); (focus (first | rfl | omega | (simp; done) | (simp; omega))); (focus (first | exact one_map _ | (simp [one8, one32, one64]; done)))))); clear hm; intro w hm))
     refine ret_own hm rfl rfl (by infer_instance) (by repeat (first | exact Has.hd | assumption | apply Has.tl)) (by first | rfl | omega | (simp only [zeros_length, zer_length, tab_length, part_length, setN_length, List.length_map, List.length_cons, List.length_nil, List.length_append, List.length_take, List.length_drop, List.length_replicate, blk_length, putL_length] <;> omega)) rfl ⟨rfl, hm.x⟩
end Go.Proofs.YtaijfigohlkccaaGreatDoor
namespace Go.Proofs.YtaijfigohlkccaaGreatDoor
open Go Go.RowKit
set_option maxRecDepth 100000
end Go.Proofs.YtaijfigohlkccaaGreatDoor
namespace Go.Proofs.YtaijfigohlkccaaGreatDoor
open Go Go.RowKit
set_option maxRecDepth 100000
def shiftBL (b : List Byte) : List Byte := tab 16 fun i => nth b (ush i)
set_option maxHeartbeats 2000000 in
theorem rrounds_any (b : List Byte) (ks : List (List Byte)) (p : Option Addr) (c : Nat) (hb : b.length = 16) (w0 : World) (hk : RdK w0 p 16 ks) (hc : ks.length ≤ c) (hcm : ks.length ≤ 70368744177664) : Gives Tryz.prog 83 #[A8 tabs, A8 b, .slice p ks.length c] w0 (A8 (rnds b ks)) := by
 unfold Gives
 have hm := Own.start w0
 have hb1 := Nat.le_of_eq hb
 have hb2 := Nat.le_of_eq hb.symm
 have HK := Lib.hid hk
 have HB := Lib.hid hb
 have tl := tabs_length
 clear hb hk
 go_enter Tryz.func83, Tryz.ntmps83
 go_wp2_with (first | ((first | ((with_reducible show qAl); first | ((with_reducible apply wq_new hm); exact rfl; infer_instance)) | ((with_reducible show qBx); first | ((with_reducible apply wq_boxN hm); exact rfl; exact rfl))); clear hm; (first | (have hx_ := g1; clear hx_; (first | (have hx_ := g2; clear hx_; (first | (have hx_ := g3; clear hx_; intro gx_) | intro g3)) | intro g2)) | intro g1); intro w hm))
 go_loopw [7] (fun i wr => ∃ k : Nat, k ≤ ks.length ∧ i = .int .i64 k ∧ Own w0 wr [⟨g3, 36, (zer 16).map v8⟩, ⟨g2, 36, (rnds b (ks.take k)).map v8⟩, ⟨g1, 35, tabs.map v8⟩]) (fun i _ => ks.length - (intOf i).toNat)
 case atStart => exact ⟨0, by omega, rfl, hm⟩
 case round =>
   obtain ⟨k, hk, rfl, hm⟩ := hrel
   have hB := rnds_length (ks.take k) b HB.out
   by_cases hlt : k < ks.length
   · obtain ⟨a, rfl⟩ := HK.out.addr (by omega) (by omega)
     obtain ⟨hK, hKl⟩ := HK.out.at (by omega) k hlt
     have hS := rnds_take b ks k hlt
     simp only [Option.getD_some] at hK
     generalize rnds b (ks.take k) = B at *
     generalize ks.getD k [] = K at *
     have HS := Lib.hid hS
     have HK2 := Lib.hid (hK.ext hm.x)
     have CR := Lib.hid fun wx => rround_any B K hB hKl wx
     have hl1 : (rnd B K).length = 16 := rnd_length _ _
     generalize rnd B K = C at *
     have hlt2 : (k : Int) < (ks.length : Int) := by omega
     clear hK
     go_wp2_with fail
     refine region_at 7 (fun w' => Ext _ w') 22 (by kernel_rfl) (by kernel_rfl) rfl (fun _ _ h k => h.trans k) (drew_ext _) ?_
     simp only [tSC, List.take_zero, dSC, List.drop_zero, List.map_cons, List.map_nil]
     repeat (first
         | (apply walk_is rfl rfl rfl; (intro wx hwx; (with_reducible apply gq_rdW (HK2.out.ext hwx)); infer_instance; exact rfl; exact hKl); (simp only [Act.put, sIB, sCS, sCZ]; rfl))
         | (apply walk_is rfl rfl rfl
            · (intro wx hwx; first | ((with_reducible show gives _ _ _ (Sem.run _ (execOp _ (Oper.mk _ (Op.load _ _) _ _ _ _)) _)); first | ((with_reducible apply gq_ldv (hm.ext hwx)); infer_instance; exact rfl; (focus (repeat first | exact .hd | assumption | apply Has.tl); done); (focus (first | omega | (simp; omega) | (refine ltB ?_; first | omega | (simp; done) | (simp; omega))))) | ((with_reducible apply gq_ldW (hm.ext hwx)); infer_instance; exact rfl; (focus (repeat first | exact .hd | assumption | apply Has.tl); done); (focus (first | rfl | omega | (simp; done) | (simp; omega)))) | ((with_reducible apply gq_ld1 (hm.ext hwx)); infer_instance; exact rfl; (focus (repeat first | exact .hd | assumption | apply Has.tl); done); exact rfl)) | (go_simp; (try go_bits); first | exact gives_same | exact gives_skip | with_reducible exact gives_call (CR.out wx)))
            · (simp only [Act.put, sIB, sCS, sCZ]; rfl))
         | (apply walk_not rfl rfl rfl
            · (simp only [Act.put, sIB, sCS, sCZ]; rfl)))
     intro wz hwz
     simp only [zCC, zNR]
     repeat (first | rw [fin_is] | (rw [fin_cons]; intro _ _))
     rw [fin_nil]
     try (replace hm := hm.ext hwz)
     simp only [Act.put, sIB, sCS, sCZ]
     go_wp2_with (first | ((((with_reducible show qSt); first | ((with_reducible apply wq_stW hm); exact rfl; infer_instance; exact rfl; exact rfl; (focus (repeat first | exact .hd | assumption | apply Swap.tl); done); (focus (first | rfl | omega | (simp; done) | (simp; omega))); (focus (first | rfl | omega | (simp; done) | (simp; omega))); (focus (first | exact one_map _ | (simp [one8, one32, one64]; done)))))); clear hm; intro w hm))
     go_roundw
     case rel => exact ⟨k + 1, by omega, by go_num, by rw [HS.out]; exact hm⟩
     case measure => simp [intOf] <;> omega
   · obtain rfl : k = ks.length := by omega
     rw [List.take_length] at hm hB
     go_wp2_with (first | ((with_reducible show qLd); first | ((with_reducible apply wq_ldW hm); exact rfl; infer_instance; exact rfl; (focus (repeat first | exact .hd | assumption | apply Has.tl); done); (focus (first | rfl | omega | (simp; done) | (simp; omega))))) | ((((with_reducible show qSt); first | ((with_reducible apply wq_stW hm); exact rfl; infer_instance; exact rfl; exact rfl; (focus (repeat first | exact .hd | assumption | apply Swap.tl); done); (focus (first | rfl | omega | (simp; done) | (simp; omega))); (focus (first | rfl | omega | (simp; done) | (simp; omega))); (focus (first | exact one_map _ | (simp [one8, one32, one64]; done)))))); clear hm; intro w hm))
     refine ret_own hm rfl rfl (by infer_instance) (by repeat (first | exact Has.hd | assumption | apply Has.tl)) (by first | rfl | omega | (simp only [zeros_length, zer_length, tab_length, part_length, setN_length, List.length_map, List.length_cons, List.length_nil, List.length_append, List.length_take, List.length_drop, List.length_replicate, blk_length, putL_length] <;> omega)) rfl ⟨rfl, hm.x⟩
end Go.Proofs.YtaijfigohlkccaaGreatDoor
