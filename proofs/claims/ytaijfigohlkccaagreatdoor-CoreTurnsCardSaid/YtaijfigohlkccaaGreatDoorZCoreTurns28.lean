/-
  Layer 16, the document's: what a string brings. Conditions: those written in each theorem.
-/
import Derived.Test.YtaijfigohlkccaaGreatDoorZCoreTurns0
import Derived.Test.YtaijfigohlkccaaGreatDoorZCoreTurns8
import Derived.Test.YtaijfigohlkccaaGreatDoorZCoreTurns14
import Derived.Test.YtaijfigohlkccaaGreatDoorZCoreTurns27
set_option linter.unusedSimpArgs false
set_option linter.unusedVariables false
namespace Go.Proofs.YtaijfigohlkccaaGreatDoor
open Go Go.RowKit
set_option maxRecDepth 100000
set_option maxHeartbeats 8000000 in
theorem rpart_any (R : List Byte) (F : Int → List Byte → List Byte) (hF : ∀ m x, (F m x).length = 16) (hR : R.length = 560) (j : Int) (b : List Byte) (p : Option Addr) (c : Nat) (w0 : World) (hb : RdB w0 p b) (hc : b.length ≤ c) (hl : b.length ≤ 70368744177000)
   (CE : ∀ wx, Ext w0 wx → ∀ (m : Int) (x : List Byte), x.length = 16 → 0 ≤ m → m ≤ 9223372036854775807 → Gives Tryz.prog 44 #[A8 R, .int .i64 j, .int .i64 m, A8 x] wx (A8 (F m x))) :
   Gives Tryz.prog 81 #[A8 R, .int .i64 j, .slice p b.length c] w0 (A8 (partG F b)) := by
 unfold Gives
 have hm := Own.start w0
 have HB := Lib.hid hb
 have HE := Lib.hid CE
 have HF := Lib.hid hF
 have lG := partG_length F b
 have E0 := Lib.hid (partF_length F b)
 obtain ⟨W, hW⟩ : ∃ W : Nat, b.length / 16 = W := ⟨_, rfl⟩
 obtain ⟨r, hr⟩ : ∃ r : Nat, b.length % 16 = r := ⟨_, rfl⟩
 have a1 : (b.length : Int) % 16 = (r : Int) := by omega
 have a2 : (b.length : Int).tmod 16 = (r : Int) := by rw [Int.tmod_eq_emod_of_nonneg (by omega)]; exact a1
 have a3 : (b.length : Int) / 16 = (W : Int) := by omega
 have a4 : (b.length : Int).tdiv 16 = (W : Int) := by rw [Int.tdiv_eq_ediv_of_nonneg (by omega)]; exact a3
 have hbW : b.length = 16 * W + r := by omega
 have hr16 : r < 16 := by omega
 have HBW := Lib.hid hbW
 have EG1 : Hid (¬ b.length = 0 → r = 0 → partF F b W = partG F b) := Lib.hid fun h1 h2 => by rw [partG, if_neg (by omega), hW]
 have EG2 : Hid (b.length = 0 ∨ ¬ r = 0 → bothL (partF F b W) (F 0 (blk (b.drop (16 * W) ++ [128#8]))) = partG F b) := Lib.hid fun h => by rw [partG, if_pos (by omega), hW]
 have BK := Lib.hid fun (wx : World) (a : Addr) (k cc : Nat) (h1 : 16 * k + 16 ≤ b.length) (h : RdB wx (some a) b) => show Gives Tryz.prog 39 #[.slice (some (a.add (16 * k))) 16 cc] wx (A8 (blk (b.drop (16 * k)))) from by
   have l1 : ((b.drop (16 * k)).take 16).length = 16 := by rw [List.length_take, List.length_drop]; omega
   have := rblock_any ((b.drop (16 * k)).take 16) (some (a.add (16 * k))) cc wx ((h.drop (16 * k)).take 16) (by omega)
   rwa [l1, blk_take] at this
 have BL := Lib.hid fun (wx : World) (q : Option Addr) (cc : Nat) (h : RdB wx q (b.drop (16 * W) ++ [128#8])) => show Gives Tryz.prog 39 #[.slice q (r + 1) cc] wx (A8 (blk (b.drop (16 * W) ++ [128#8]))) from by
   have := rblock_any (b.drop (16 * W) ++ [128#8]) q cc wx h (by rw [List.length_append, List.length_drop]; simp; omega)
   rwa [List.length_append, List.length_drop, show b.length - 16 * W + [128#8].length = r + 1 by simp; omega] at this
 have lBL := blk_length (b.drop (16 * W) ++ [128#8])
 have l2 := HF.out 0 (blk (b.drop (16 * W) ++ [128#8]))
 have CEL := Lib.hid fun wx hx => HE.out wx hx 0 (blk (b.drop (16 * W) ++ [128#8])) lBL (by omega) (by omega)
 have CSL := Lib.hid fun wx => sixteen_any (partF F b W) (F 0 (blk (b.drop (16 * W) ++ [128#8]))) (E0.out W) l2 wx
 have lDR : Hid ((b.drop (16 * W)).length = r) := Lib.hid (by rw [List.length_drop]; omega)
 have lPW := E0.out W
 have lDR0 : (b.drop (16 * W)).length = r := by rw [List.length_drop]; omega
 have HRX := Lib.hid fun (wx : World) (h : Ext w0 wx) => hb.ext h
 clear CE hb hF hW hr hbW
 go_enter Tryz.func81, Tryz.ntmps81
 go_wp2_with (first | ((first | ((with_reducible show qAl); first | ((with_reducible apply wq_new hm); exact rfl; infer_instance)) | ((with_reducible show qBx); first | ((with_reducible apply wq_boxN hm); exact rfl; exact rfl))); clear hm; (first | (have hx_ := g1; clear hx_; (first | (have hx_ := g2; clear hx_; (first | (have hx_ := g3; clear hx_; (first | (have hx_ := g4; clear hx_; (first | (have hx_ := g5; clear hx_; (first | (have hx_ := g6; clear hx_; (first | (have hx_ := g7; clear hx_; (first | (have hx_ := g8; clear hx_; (first | (have hx_ := g9; clear hx_; intro gx_) | intro g9)) | intro g8)) | intro g7)) | intro g6)) | intro g5)) | intro g4)) | intro g3)) | intro g2)) | intro g1); intro w hm))
 go_loopw [9] (fun i wr => ∃ k : Nat, k ≤ W ∧ i = .int .i64 ((k : Int) + 1) ∧ Own w0 wr [⟨g3, 36, (partF F b k).map v8⟩, ⟨g2, 36, (zer 16).map v8⟩, ⟨g1, 39, R.map v8⟩]) (fun i _ => W + 1 - (intOf i).toNat)
 case atStart => exact ⟨0, by omega, rfl, hm⟩
 case round =>
   obtain ⟨k, hk, rfl, hm⟩ := hrel
   have hbl := HBW.out
   have lk := E0.out k
   by_cases hlt : k < W
   · have d1 : decide ((k : Int) + 1 ≤ (W : Int)) = true := decide_eq_true (by omega)
     have d2 : (k : Int) + 1 ≤ (W : Int) := by omega
     obtain ⟨a, rfl⟩ := Option.isSome_iff_exists.1 (HB.out.1 (by omega))
     obtain ⟨hi, hhi⟩ : ∃ hi : Nat, hi = 16 * k + 16 := ⟨_, rfl⟩
     obtain ⟨lo, hlo⟩ : ∃ lo : Nat, lo = 16 * k := ⟨_, rfl⟩
     have y1 : (16 : Int) * ((k : Int) + 1) = (hi : Int) := by omega
     have y2 : (hi : Int) - 16 = (lo : Int) := by omega
     have y3 : (lo : Int) ≤ (hi : Int) := by omega
     have y4 : (hi : Int) ≤ (c : Int) := by omega
     have y5 : hi - lo = 16 := by omega
     have y6 : ¬ c = lo := by omega
     have y7 : lo ≤ hi := by omega
     have y8 : hi ≤ c := by omega
     have B1 := Lib.hid fun (wx : World) (cc : Nat) (h : RdB wx (some a) b) => BK.out wx a k cc (by omega) h
     rw [← hlo] at B1
     have lB := blk_length (b.drop lo)
     have C1 := Lib.hid fun wx hx => HE.out wx hx ((k : Int) + 1) (blk (b.drop lo)) lB (by omega) (by omega)
     have l3 := HF.out ((k : Int) + 1) (blk (b.drop lo))
     have c2 := fun wx => sixteen_any (partF F b k) (F ((k : Int) + 1) (blk (b.drop lo))) lk l3 wx
     rw [show bothL (partF F b k) (F ((k : Int) + 1) (blk (b.drop lo))) = partF F b (k + 1) by rw [partF, hlo]] at c2
     have C2 := Lib.hid c2
     have lk2 := E0.out (k + 1)
     clear c2 hhi hlo
     generalize F ((k : Int) + 1) (blk (b.drop lo)) = Y at *
     generalize blk (b.drop lo) = Z at *
     generalize hP2 : partF F b (k + 1) = P2 at *
     generalize partF F b k = P1 at *
     have HP2 := Lib.hid hP2
     clear hP2 hbl
     go_wp2_with fail
     have hx0 := hm.x
     refine region_at 14 (fun w' => Ext _ w') 58 (by kernel_rfl) (by kernel_rfl) rfl (fun _ _ h k => h.trans k) (drew_ext _) ?_
     simp only [tSC, List.take_zero, dSC, List.drop_zero, List.map_cons, List.map_nil]
     repeat (first
         | (apply walk_is rfl rfl rfl
            · (intro wx hwx; first | ((with_reducible show gives _ _ _ (Sem.run _ (execOp _ (Oper.mk _ (Op.load _ _) _ _ _ _)) _)); first | ((with_reducible apply gq_ldv (hm.ext hwx)); infer_instance; exact rfl; (focus ((repeat (first | exact .hd | assumption | apply Has.tl | apply Has.app)); done)); (focus (first | omega | (simp; omega) | (refine ltB ?_; first | omega | (simp; done) | (simp; omega))))) | ((with_reducible apply gq_ldW (hm.ext hwx)); infer_instance; exact rfl; (focus ((repeat (first | exact .hd | assumption | apply Has.tl | apply Has.app)); done)); (focus (first | rfl | omega | (simp; done) | (simp; omega)))) | ((with_reducible apply gq_ld1 (hm.ext hwx)); infer_instance; exact rfl; (focus ((repeat (first | exact .hd | assumption | apply Has.tl | apply Has.app)); done)); exact rfl)) | (go_simp; (try go_bits); first | exact gives_same | exact gives_skip | with_reducible exact gives_call (B1.out wx _ (HRX.out wx (hx0.trans hwx))) | with_reducible exact gives_call (C1.out wx (hx0.trans hwx)) | with_reducible exact gives_call (C2.out wx)))
            · (simp only [Act.put, sIB, sCS, sCZ]; rfl))
         | (apply walk_not rfl rfl rfl
            · (simp only [Act.put, sIB, sCS, sCZ]; rfl)))
     intro wz hwz
     simp only [zCC, zNR]
     repeat (first | rw [fin_is] | (rw [fin_cons]; intro _ _))
     rw [fin_nil]
     try (replace hm := hm.ext hwz)
     simp only [Act.put, sIB, sCS, sCZ]
     clear hx0
     go_wp2_with (first | ((((with_reducible show qSt); first | ((with_reducible apply wq_stW hm); exact rfl; infer_instance; exact rfl; exact rfl; (focus ((repeat (first | exact .hd | assumption | apply Swap.tl | apply Swap.app)); done)); (focus (first | rfl | omega | (simp; done) | (simp; omega))); (focus (first | rfl | omega | (simp; done) | (simp; omega))); (focus (first | exact one_map _ | (simp [one8, one32, one64]; done)))))); clear hm; intro w hm))
     go_roundw
     case rel => exact ⟨k + 1, by omega, by go_num, by rw [HP2.out]; exact hm⟩
     case measure => simp [intOf] <;> omega
   · obtain rfl : k = W := by omega
     have d1 : decide ((k : Int) + 1 ≤ (k : Int)) = false := decide_eq_false (by omega)
     have d2 : ¬ (k : Int) + 1 ≤ (k : Int) := by omega
     by_cases h0 : b.length = 0
     · have eG := EG2.out (.inl h0)
       rw [eG] at CSL
       obtain rfl : k = 0 := by omega
       obtain rfl : r = 0 := by omega
       have z1 : ((b.length : Int) == 0) = true := by rw [beq_iff_eq]; omega
       have hb0 : b = [] := List.eq_nil_of_length_eq_zero h0
       have LDR := lDR0
       have z2 : ((0 : Int) != 0) = false := rfl
       generalize hDR : b.drop (16 * 0) = DR at *
       have hDR0 : DR = [] := by rw [← hDR, hb0]; rfl
       have HDR0 := Lib.hid hDR0
       generalize F 0 (blk (DR ++ [128#8])) = Y at *
       generalize blk (DR ++ [128#8]) = Z at *
       generalize partF F b 0 = P1 at *
       clear hDR hDR0 EG1 EG2 eG BK
       have hl0 : b.length = 0 := h0
       rw [h0]
       clear a1 a2 a3 a4 hbl hl
       cases p with
       | none =>
         go_wp2_with (first | ((with_reducible apply wq_bs0 bs0_b hm); exact rfl; clear hm; intro gz w hm) | ((with_reducible show wpList _ _ _ (Oper.mk _ (Op.call _) _ _ _ _ :: _) _ _); refine wplO_app (M := [⟨gz, 5, []⟩]) (R := [⟨g3, 36, P1.map v8⟩, ⟨g2, 36, (zer 16).map v8⟩, ⟨g1, 39, R.map v8⟩]) (ds := DR.map v8) hm (slo_room0 gz _ 1) rfl rfl rfl rfl Tryz.underlying22 (by rw [List.length_map, Nat.mul_one]; exact LDR) (cellsB (HDR0.out ▸ RdB.nil _ _)) (one_map _) (by omega) ?_; clear hm; intro v1 w M1 hm hs1; obtain ⟨p_v1, c_v1, rfl⟩ := hs1.form; simp only [Nat.zero_add, List.nil_append] at hs1 ⊢) | ((with_reducible apply wq_bs1c bs1_128 hm); exact rfl; exact rfl; clear hm; intro g128 w hm) | ((with_reducible show wpList _ _ _ (Oper.mk _ (Op.call _) _ _ _ _ :: _) _ _); refine wplO_app (M := M1) (R := _) (ds := [128#8].map v8) (hm.perm (List.perm_middle.symm)) hs1 rfl rfl rfl rfl Tryz.underlying22 rfl (cellsB (b := [128#8]) (hm.rdB (g := g128) (l := [128#8]) (by repeat (first | exact Has.hd | assumption | apply Has.tl | apply Has.app)))) (one_map _) (by omega) ?_; clear hm; intro v2 w M2 hm hs2; obtain ⟨p_v2, c_v2, rfl⟩ := hs2.form; replace hm := hm.perm (List.perm_middle); rw [← List.map_append] at hs2) | (go_at_call 39; (with_reducible refine (BL.out _ p_v2 c_v2 (slo_bytes hs2 hm.drop).1).mono ?_); rintro e_ w ⟨rfl, hx_⟩; replace hm := hm.ext hx_; clear hx_) | ((((with_reducible show qSt); first | ((with_reducible apply wq_stW hm); exact rfl; infer_instance; exact rfl; exact rfl; (focus ((repeat (first | exact .hd | assumption | apply Swap.tl | apply Swap.app)); done)); (focus (first | rfl | omega | (simp; done) | (simp; omega))); (focus (first | rfl | omega | (simp; done) | (simp; omega))); (focus (first | exact one_map _ | (simp [one8, one32, one64]; done)))))); clear hm; intro w hm) | ((first | ((with_reducible show qAl); first | ((with_reducible apply wq_new hm); exact rfl; infer_instance))); clear hm; (first | (have hx_ := g1; clear hx_; (first | (have hx_ := g2; clear hx_; (first | (have hx_ := g3; clear hx_; (first | (have hx_ := g4; clear hx_; (first | (have hx_ := g5; clear hx_; (first | (have hx_ := g6; clear hx_; (first | (have hx_ := g7; clear hx_; (first | (have hx_ := g8; clear hx_; (first | (have hx_ := g9; clear hx_; intro gx_) | intro g9)) | intro g8)) | intro g7)) | intro g6)) | intro g5)) | intro g4)) | intro g3)) | intro g2)) | intro g1); intro w hm))
         have hx0 := hm.x
         refine region_at 6 (fun w' => Ext _ w') 58 (by kernel_rfl) (by kernel_rfl) rfl (fun _ _ h k => h.trans k) (drew_ext _) ?_
         simp only [tSC, List.take_zero, dSC, List.drop_zero, List.map_cons, List.map_nil]
         repeat (first
             | (apply walk_is rfl rfl rfl
                · (intro wx hwx; first | ((with_reducible show gives _ _ _ (Sem.run _ (execOp _ (Oper.mk _ (Op.load _ _) _ _ _ _)) _)); first | ((with_reducible apply gq_ldv (hm.ext hwx)); infer_instance; exact rfl; (focus ((repeat (first | exact .hd | assumption | apply Has.tl | apply Has.app)); done)); (focus (first | omega | (simp; omega) | (refine ltB ?_; first | omega | (simp; done) | (simp; omega))))) | ((with_reducible apply gq_ldW (hm.ext hwx)); infer_instance; exact rfl; (focus ((repeat (first | exact .hd | assumption | apply Has.tl | apply Has.app)); done)); (focus (first | rfl | omega | (simp; done) | (simp; omega)))) | ((with_reducible apply gq_ld1 (hm.ext hwx)); infer_instance; exact rfl; (focus ((repeat (first | exact .hd | assumption | apply Has.tl | apply Has.app)); done)); exact rfl)) | (go_simp; (try go_bits); first | exact gives_same | exact gives_skip | with_reducible exact gives_call (CEL.out wx (hx0.trans hwx)) | with_reducible exact gives_call (CSL.out wx)))
                · (simp only [Act.put, sIB, sCS, sCZ]; rfl))
             | (apply walk_not rfl rfl rfl
                · (simp only [Act.put, sIB, sCS, sCZ]; rfl)))
         intro wz hwz
         simp only [zCC, zNR]
         repeat (first | rw [fin_is] | (rw [fin_cons]; intro _ _))
         rw [fin_nil]
         try (replace hm := hm.ext hwz)
         simp only [Act.put, sIB, sCS, sCZ]
         clear hx0
         go_wp2_with (first | ((with_reducible show qLd); first | ((with_reducible apply wq_ldW hm); exact rfl; infer_instance; exact rfl; (focus ((repeat (first | exact .hd | assumption | apply Has.tl | apply Has.app)); done)); (focus (first | rfl | omega | (simp; done) | (simp; omega))))) | ((((with_reducible show qSt); first | ((with_reducible apply wq_stW hm); exact rfl; infer_instance; exact rfl; exact rfl; (focus ((repeat (first | exact .hd | assumption | apply Swap.tl | apply Swap.app)); done)); (focus (first | rfl | omega | (simp; done) | (simp; omega))); (focus (first | rfl | omega | (simp; done) | (simp; omega))); (focus (first | exact one_map _ | (simp [one8, one32, one64]; done)))))); clear hm; intro w hm))
         refine ret_own hm rfl rfl (by infer_instance) (by repeat (first | exact Has.hd | assumption | apply Has.tl | apply Has.app)) (by first | rfl | omega | (simp only [zeros_length, zer_length, tab_length, part_length, setN_length, List.length_map, List.length_cons, List.length_nil, List.length_append, List.length_take, List.length_drop, List.length_replicate, blk_length, putL_length] <;> omega)) rfl ⟨rfl, hm.x⟩
       | some a =>
         by_cases hc0 : c = 0
         · go_wp2_with (first | ((with_reducible apply wq_bs0 bs0_b hm); exact rfl; clear hm; intro gz w hm) | ((with_reducible show wpList _ _ _ (Oper.mk _ (Op.call _) _ _ _ _ :: _) _ _); refine wplO_app (M := [⟨gz, 5, []⟩]) (R := [⟨g3, 36, P1.map v8⟩, ⟨g2, 36, (zer 16).map v8⟩, ⟨g1, 39, R.map v8⟩]) (ds := DR.map v8) hm (slo_room0 gz _ 1) rfl rfl rfl rfl Tryz.underlying22 (by rw [List.length_map, Nat.mul_one]; exact LDR) (cellsB (HDR0.out ▸ RdB.nil _ _)) (one_map _) (by omega) ?_; clear hm; intro v1 w M1 hm hs1; obtain ⟨p_v1, c_v1, rfl⟩ := hs1.form; simp only [Nat.zero_add, List.nil_append] at hs1 ⊢) | ((with_reducible apply wq_bs1c bs1_128 hm); exact rfl; exact rfl; clear hm; intro g128 w hm) | ((with_reducible show wpList _ _ _ (Oper.mk _ (Op.call _) _ _ _ _ :: _) _ _); refine wplO_app (M := M1) (R := _) (ds := [128#8].map v8) (hm.perm (List.perm_middle.symm)) hs1 rfl rfl rfl rfl Tryz.underlying22 rfl (cellsB (b := [128#8]) (hm.rdB (g := g128) (l := [128#8]) (by repeat (first | exact Has.hd | assumption | apply Has.tl | apply Has.app)))) (one_map _) (by omega) ?_; clear hm; intro v2 w M2 hm hs2; obtain ⟨p_v2, c_v2, rfl⟩ := hs2.form; replace hm := hm.perm (List.perm_middle); rw [← List.map_append] at hs2) | (go_at_call 39; (with_reducible refine (BL.out _ p_v2 c_v2 (slo_bytes hs2 hm.drop).1).mono ?_); rintro e_ w ⟨rfl, hx_⟩; replace hm := hm.ext hx_; clear hx_) | ((((with_reducible show qSt); first | ((with_reducible apply wq_stW hm); exact rfl; infer_instance; exact rfl; exact rfl; (focus ((repeat (first | exact .hd | assumption | apply Swap.tl | apply Swap.app)); done)); (focus (first | rfl | omega | (simp; done) | (simp; omega))); (focus (first | rfl | omega | (simp; done) | (simp; omega))); (focus (first | exact one_map _ | (simp [one8, one32, one64]; done)))))); clear hm; intro w hm) | ((first | ((with_reducible show qAl); first | ((with_reducible apply wq_new hm); exact rfl; infer_instance))); clear hm; (first | (have hx_ := g1; clear hx_; (first | (have hx_ := g2; clear hx_; (first | (have hx_ := g3; clear hx_; (first | (have hx_ := g4; clear hx_; (first | (have hx_ := g5; clear hx_; (first | (have hx_ := g6; clear hx_; (first | (have hx_ := g7; clear hx_; (first | (have hx_ := g8; clear hx_; (first | (have hx_ := g9; clear hx_; intro gx_) | intro g9)) | intro g8)) | intro g7)) | intro g6)) | intro g5)) | intro g4)) | intro g3)) | intro g2)) | intro g1); intro w hm))
           have hx0 := hm.x
           refine region_at 6 (fun w' => Ext _ w') 58 (by kernel_rfl) (by kernel_rfl) rfl (fun _ _ h k => h.trans k) (drew_ext _) ?_
           simp only [tSC, List.take_zero, dSC, List.drop_zero, List.map_cons, List.map_nil]
           repeat (first
               | (apply walk_is rfl rfl rfl
                  · (intro wx hwx; first | ((with_reducible show gives _ _ _ (Sem.run _ (execOp _ (Oper.mk _ (Op.load _ _) _ _ _ _)) _)); first | ((with_reducible apply gq_ldv (hm.ext hwx)); infer_instance; exact rfl; (focus ((repeat (first | exact .hd | assumption | apply Has.tl | apply Has.app)); done)); (focus (first | omega | (simp; omega) | (refine ltB ?_; first | omega | (simp; done) | (simp; omega))))) | ((with_reducible apply gq_ldW (hm.ext hwx)); infer_instance; exact rfl; (focus ((repeat (first | exact .hd | assumption | apply Has.tl | apply Has.app)); done)); (focus (first | rfl | omega | (simp; done) | (simp; omega)))) | ((with_reducible apply gq_ld1 (hm.ext hwx)); infer_instance; exact rfl; (focus ((repeat (first | exact .hd | assumption | apply Has.tl | apply Has.app)); done)); exact rfl)) | (go_simp; (try go_bits); first | exact gives_same | exact gives_skip | with_reducible exact gives_call (CEL.out wx (hx0.trans hwx)) | with_reducible exact gives_call (CSL.out wx)))
                  · (simp only [Act.put, sIB, sCS, sCZ]; rfl))
               | (apply walk_not rfl rfl rfl
                  · (simp only [Act.put, sIB, sCS, sCZ]; rfl)))
           intro wz hwz
           simp only [zCC, zNR]
           repeat (first | rw [fin_is] | (rw [fin_cons]; intro _ _))
           rw [fin_nil]
           try (replace hm := hm.ext hwz)
           simp only [Act.put, sIB, sCS, sCZ]
           clear hx0
           go_wp2_with (first | ((with_reducible show qLd); first | ((with_reducible apply wq_ldW hm); exact rfl; infer_instance; exact rfl; (focus ((repeat (first | exact .hd | assumption | apply Has.tl | apply Has.app)); done)); (focus (first | rfl | omega | (simp; done) | (simp; omega))))) | ((((with_reducible show qSt); first | ((with_reducible apply wq_stW hm); exact rfl; infer_instance; exact rfl; exact rfl; (focus ((repeat (first | exact .hd | assumption | apply Swap.tl | apply Swap.app)); done)); (focus (first | rfl | omega | (simp; done) | (simp; omega))); (focus (first | rfl | omega | (simp; done) | (simp; omega))); (focus (first | exact one_map _ | (simp [one8, one32, one64]; done)))))); clear hm; intro w hm))
           refine ret_own hm rfl rfl (by infer_instance) (by repeat (first | exact Has.hd | assumption | apply Has.tl | apply Has.app)) (by first | rfl | omega | (simp only [zeros_length, zer_length, tab_length, part_length, setN_length, List.length_map, List.length_cons, List.length_nil, List.length_append, List.length_take, List.length_drop, List.length_replicate, blk_length, putL_length] <;> omega)) rfl ⟨rfl, hm.x⟩
         · go_wp2_with (first | ((with_reducible apply wq_bs0 bs0_b hm); exact rfl; clear hm; intro gz w hm) | ((with_reducible show wpList _ _ _ (Oper.mk _ (Op.call _) _ _ _ _ :: _) _ _); refine wplO_app (M := [⟨gz, 5, []⟩]) (R := [⟨g3, 36, P1.map v8⟩, ⟨g2, 36, (zer 16).map v8⟩, ⟨g1, 39, R.map v8⟩]) (ds := DR.map v8) hm (slo_room0 gz _ 1) rfl rfl rfl rfl Tryz.underlying22 (by rw [List.length_map, Nat.mul_one]; exact LDR) (cellsB (HDR0.out ▸ RdB.nil _ _)) (one_map _) (by omega) ?_; clear hm; intro v1 w M1 hm hs1; obtain ⟨p_v1, c_v1, rfl⟩ := hs1.form; simp only [Nat.zero_add, List.nil_append] at hs1 ⊢) | ((with_reducible apply wq_bs1c bs1_128 hm); exact rfl; exact rfl; clear hm; intro g128 w hm) | ((with_reducible show wpList _ _ _ (Oper.mk _ (Op.call _) _ _ _ _ :: _) _ _); refine wplO_app (M := M1) (R := _) (ds := [128#8].map v8) (hm.perm (List.perm_middle.symm)) hs1 rfl rfl rfl rfl Tryz.underlying22 rfl (cellsB (b := [128#8]) (hm.rdB (g := g128) (l := [128#8]) (by repeat (first | exact Has.hd | assumption | apply Has.tl | apply Has.app)))) (one_map _) (by omega) ?_; clear hm; intro v2 w M2 hm hs2; obtain ⟨p_v2, c_v2, rfl⟩ := hs2.form; replace hm := hm.perm (List.perm_middle); rw [← List.map_append] at hs2) | (go_at_call 39; (with_reducible refine (BL.out _ p_v2 c_v2 (slo_bytes hs2 hm.drop).1).mono ?_); rintro e_ w ⟨rfl, hx_⟩; replace hm := hm.ext hx_; clear hx_) | ((((with_reducible show qSt); first | ((with_reducible apply wq_stW hm); exact rfl; infer_instance; exact rfl; exact rfl; (focus ((repeat (first | exact .hd | assumption | apply Swap.tl | apply Swap.app)); done)); (focus (first | rfl | omega | (simp; done) | (simp; omega))); (focus (first | rfl | omega | (simp; done) | (simp; omega))); (focus (first | exact one_map _ | (simp [one8, one32, one64]; done)))))); clear hm; intro w hm) | ((first | ((with_reducible show qAl); first | ((with_reducible apply wq_new hm); exact rfl; infer_instance))); clear hm; (first | (have hx_ := g1; clear hx_; (first | (have hx_ := g2; clear hx_; (first | (have hx_ := g3; clear hx_; (first | (have hx_ := g4; clear hx_; (first | (have hx_ := g5; clear hx_; (first | (have hx_ := g6; clear hx_; (first | (have hx_ := g7; clear hx_; (first | (have hx_ := g8; clear hx_; (first | (have hx_ := g9; clear hx_; intro gx_) | intro g9)) | intro g8)) | intro g7)) | intro g6)) | intro g5)) | intro g4)) | intro g3)) | intro g2)) | intro g1); intro w hm))
           have hx0 := hm.x
           refine region_at 6 (fun w' => Ext _ w') 58 (by kernel_rfl) (by kernel_rfl) rfl (fun _ _ h k => h.trans k) (drew_ext _) ?_
           simp only [tSC, List.take_zero, dSC, List.drop_zero, List.map_cons, List.map_nil]
           repeat (first
               | (apply walk_is rfl rfl rfl
                  · (intro wx hwx; first | ((with_reducible show gives _ _ _ (Sem.run _ (execOp _ (Oper.mk _ (Op.load _ _) _ _ _ _)) _)); first | ((with_reducible apply gq_ldv (hm.ext hwx)); infer_instance; exact rfl; (focus ((repeat (first | exact .hd | assumption | apply Has.tl | apply Has.app)); done)); (focus (first | omega | (simp; omega) | (refine ltB ?_; first | omega | (simp; done) | (simp; omega))))) | ((with_reducible apply gq_ldW (hm.ext hwx)); infer_instance; exact rfl; (focus ((repeat (first | exact .hd | assumption | apply Has.tl | apply Has.app)); done)); (focus (first | rfl | omega | (simp; done) | (simp; omega)))) | ((with_reducible apply gq_ld1 (hm.ext hwx)); infer_instance; exact rfl; (focus ((repeat (first | exact .hd | assumption | apply Has.tl | apply Has.app)); done)); exact rfl)) | (go_simp; (try go_bits); first | exact gives_same | exact gives_skip | with_reducible exact gives_call (CEL.out wx (hx0.trans hwx)) | with_reducible exact gives_call (CSL.out wx)))
                  · (simp only [Act.put, sIB, sCS, sCZ]; rfl))
               | (apply walk_not rfl rfl rfl
                  · (simp only [Act.put, sIB, sCS, sCZ]; rfl)))
           intro wz hwz
           simp only [zCC, zNR]
           repeat (first | rw [fin_is] | (rw [fin_cons]; intro _ _))
           rw [fin_nil]
           try (replace hm := hm.ext hwz)
           simp only [Act.put, sIB, sCS, sCZ]
           clear hx0
           go_wp2_with (first | ((with_reducible show qLd); first | ((with_reducible apply wq_ldW hm); exact rfl; infer_instance; exact rfl; (focus ((repeat (first | exact .hd | assumption | apply Has.tl | apply Has.app)); done)); (focus (first | rfl | omega | (simp; done) | (simp; omega))))) | ((((with_reducible show qSt); first | ((with_reducible apply wq_stW hm); exact rfl; infer_instance; exact rfl; exact rfl; (focus ((repeat (first | exact .hd | assumption | apply Swap.tl | apply Swap.app)); done)); (focus (first | rfl | omega | (simp; done) | (simp; omega))); (focus (first | rfl | omega | (simp; done) | (simp; omega))); (focus (first | exact one_map _ | (simp [one8, one32, one64]; done)))))); clear hm; intro w hm))
           refine ret_own hm rfl rfl (by infer_instance) (by repeat (first | exact Has.hd | assumption | apply Has.tl | apply Has.app)) (by first | rfl | omega | (simp only [zeros_length, zer_length, tab_length, part_length, setN_length, List.length_map, List.length_cons, List.length_nil, List.length_append, List.length_take, List.length_drop, List.length_replicate, blk_length, putL_length] <;> omega)) rfl ⟨rfl, hm.x⟩
     · have n0 : ((b.length : Int) == 0) = false := by rw [beq_eq_false_iff_ne]; omega
       by_cases hr0 : r = 0
       · have eG := EG1.out h0 hr0
         rw [eG] at hm lk
         have z1 : ((r : Int) != 0) = false := by rw [hr0]; rfl
         clear EG2 EG1 CSL CEL BL eG
         go_wp2_with (first | ((with_reducible show qLd); first | ((with_reducible apply wq_ldW hm); exact rfl; infer_instance; exact rfl; (focus ((repeat (first | exact .hd | assumption | apply Has.tl | apply Has.app)); done)); (focus (first | rfl | omega | (simp; done) | (simp; omega))))) | ((((with_reducible show qSt); first | ((with_reducible apply wq_stW hm); exact rfl; infer_instance; exact rfl; exact rfl; (focus ((repeat (first | exact .hd | assumption | apply Swap.tl | apply Swap.app)); done)); (focus (first | rfl | omega | (simp; done) | (simp; omega))); (focus (first | rfl | omega | (simp; done) | (simp; omega))); (focus (first | exact one_map _ | (simp [one8, one32, one64]; done)))))); clear hm; intro w hm))
         refine ret_own hm rfl rfl (by infer_instance) (by repeat (first | exact Has.hd | assumption | apply Has.tl | apply Has.app)) (by first | rfl | omega | (simp only [zeros_length, zer_length, tab_length, part_length, setN_length, List.length_map, List.length_cons, List.length_nil, List.length_append, List.length_take, List.length_drop, List.length_replicate, blk_length, putL_length] <;> omega)) rfl ⟨rfl, hm.x⟩
       · have eG := EG2.out (.inr hr0)
         rw [eG] at CSL
         have z1 : ((r : Int) != 0) = true := by rw [bne_iff_ne]; omega
         obtain ⟨a, rfl⟩ := Option.isSome_iff_exists.1 (HB.out.1 (by omega))
         obtain ⟨lo, hlo⟩ : ∃ lo : Nat, lo = 16 * k := ⟨_, rfl⟩
         have y1 : (16 : Int) * (k : Int) = (lo : Int) := by omega
         have y3 : (lo : Int) ≤ (b.length : Int) := by omega
         have y5 : b.length - lo = r := by omega
         have y6 : ¬ c = lo := by omega
         have y8 : lo ≤ b.length := by omega
         have LDR := lDR0
         have HD := Lib.hid fun (wx : World) (h : Ext w0 wx) => (HRX.out wx h).drop lo
         rw [hlo] at HD
         generalize b.drop (16 * k) = DR at *
         rw [← hlo] at HD
         generalize F 0 (blk (DR ++ [128#8])) = Y at *
         generalize blk (DR ++ [128#8]) = Z at *
         generalize partF F b k = P1 at *
         clear EG1 EG2 eG BK hlo hbl
         go_wp2_with (first | ((with_reducible apply wq_bs0 bs0_b hm); exact rfl; clear hm; intro gz w hm) | ((with_reducible show wpList _ _ _ (Oper.mk _ (Op.call _) _ _ _ _ :: _) _ _); refine wplO_app (M := [⟨gz, 5, []⟩]) (R := [⟨g3, 36, P1.map v8⟩, ⟨g2, 36, (zer 16).map v8⟩, ⟨g1, 39, R.map v8⟩]) (ds := DR.map v8) hm (slo_room0 gz _ 1) rfl rfl rfl rfl Tryz.underlying22 (by rw [List.length_map, Nat.mul_one]; exact LDR) (cellsB (HD.out w hm.x)) (one_map _) (by omega) ?_; clear hm; intro v1 w M1 hm hs1; obtain ⟨p_v1, c_v1, rfl⟩ := hs1.form; simp only [Nat.zero_add, List.nil_append] at hs1 ⊢) | ((with_reducible apply wq_bs1c bs1_128 hm); exact rfl; exact rfl; clear hm; intro g128 w hm) | ((with_reducible show wpList _ _ _ (Oper.mk _ (Op.call _) _ _ _ _ :: _) _ _); refine wplO_app (M := M1) (R := _) (ds := [128#8].map v8) (hm.perm (List.perm_middle.symm)) hs1 rfl rfl rfl rfl Tryz.underlying22 rfl (cellsB (b := [128#8]) (hm.rdB (g := g128) (l := [128#8]) (by repeat (first | exact Has.hd | assumption | apply Has.tl | apply Has.app)))) (one_map _) (by omega) ?_; clear hm; intro v2 w M2 hm hs2; obtain ⟨p_v2, c_v2, rfl⟩ := hs2.form; replace hm := hm.perm (List.perm_middle); rw [← List.map_append] at hs2) | (go_at_call 39; (with_reducible refine (BL.out _ p_v2 c_v2 (slo_bytes hs2 hm.drop).1).mono ?_); rintro e_ w ⟨rfl, hx_⟩; replace hm := hm.ext hx_; clear hx_) | ((((with_reducible show qSt); first | ((with_reducible apply wq_stW hm); exact rfl; infer_instance; exact rfl; exact rfl; (focus ((repeat (first | exact .hd | assumption | apply Swap.tl | apply Swap.app)); done)); (focus (first | rfl | omega | (simp; done) | (simp; omega))); (focus (first | rfl | omega | (simp; done) | (simp; omega))); (focus (first | exact one_map _ | (simp [one8, one32, one64]; done)))))); clear hm; intro w hm) | ((first | ((with_reducible show qAl); first | ((with_reducible apply wq_new hm); exact rfl; infer_instance))); clear hm; (first | (have hx_ := g1; clear hx_; (first | (have hx_ := g2; clear hx_; (first | (have hx_ := g3; clear hx_; (first | (have hx_ := g4; clear hx_; (first | (have hx_ := g5; clear hx_; (first | (have hx_ := g6; clear hx_; (first | (have hx_ := g7; clear hx_; (first | (have hx_ := g8; clear hx_; (first | (have hx_ := g9; clear hx_; intro gx_) | intro g9)) | intro g8)) | intro g7)) | intro g6)) | intro g5)) | intro g4)) | intro g3)) | intro g2)) | intro g1); intro w hm))
         have hx0 := hm.x
         refine region_at 6 (fun w' => Ext _ w') 58 (by kernel_rfl) (by kernel_rfl) rfl (fun _ _ h k => h.trans k) (drew_ext _) ?_
         simp only [tSC, List.take_zero, dSC, List.drop_zero, List.map_cons, List.map_nil]
         repeat (first
             | (apply walk_is rfl rfl rfl
                · (intro wx hwx; first | ((with_reducible show gives _ _ _ (Sem.run _ (execOp _ (Oper.mk _ (Op.load _ _) _ _ _ _)) _)); first | ((with_reducible apply gq_ldv (hm.ext hwx)); infer_instance; exact rfl; (focus ((repeat (first | exact .hd | assumption | apply Has.tl | apply Has.app)); done)); (focus (first | omega | (simp; omega) | (refine ltB ?_; first | omega | (simp; done) | (simp; omega))))) | ((with_reducible apply gq_ldW (hm.ext hwx)); infer_instance; exact rfl; (focus ((repeat (first | exact .hd | assumption | apply Has.tl | apply Has.app)); done)); (focus (first | rfl | omega | (simp; done) | (simp; omega)))) | ((with_reducible apply gq_ld1 (hm.ext hwx)); infer_instance; exact rfl; (focus ((repeat (first | exact .hd | assumption | apply Has.tl | apply Has.app)); done)); exact rfl)) | (go_simp; (try go_bits); first | exact gives_same | exact gives_skip | with_reducible exact gives_call (CEL.out wx (hx0.trans hwx)) | with_reducible exact gives_call (CSL.out wx)))
                · (simp only [Act.put, sIB, sCS, sCZ]; rfl))
             | (apply walk_not rfl rfl rfl
                · (simp only [Act.put, sIB, sCS, sCZ]; rfl)))
         intro wz hwz
         simp only [zCC, zNR]
         repeat (first | rw [fin_is] | (rw [fin_cons]; intro _ _))
         rw [fin_nil]
         try (replace hm := hm.ext hwz)
         simp only [Act.put, sIB, sCS, sCZ]
         clear hx0
         go_wp2_with (first | ((with_reducible show qLd); first | ((with_reducible apply wq_ldW hm); exact rfl; infer_instance; exact rfl; (focus ((repeat (first | exact .hd | assumption | apply Has.tl | apply Has.app)); done)); (focus (first | rfl | omega | (simp; done) | (simp; omega))))) | ((((with_reducible show qSt); first | ((with_reducible apply wq_stW hm); exact rfl; infer_instance; exact rfl; exact rfl; (focus ((repeat (first | exact .hd | assumption | apply Swap.tl | apply Swap.app)); done)); (focus (first | rfl | omega | (simp; done) | (simp; omega))); (focus (first | rfl | omega | (simp; done) | (simp; omega))); (focus (first | exact one_map _ | (simp [one8, one32, one64]; done)))))); clear hm; intro w hm))
         refine ret_own hm rfl rfl (by infer_instance) (by repeat (first | exact Has.hd | assumption | apply Has.tl | apply Has.app)) (by first | rfl | omega | (simp only [zeros_length, zer_length, tab_length, part_length, setN_length, List.length_map, List.length_cons, List.length_nil, List.length_append, List.length_take, List.length_drop, List.length_replicate, blk_length, putL_length] <;> omega)) rfl ⟨rfl, hm.x⟩
end Go.Proofs.YtaijfigohlkccaaGreatDoor
