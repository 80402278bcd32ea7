/-
  Layer 20: a message's pairs, turned for the first time. Conditions: those written in each theorem.
  Layer 20: a message's pairs, turned for the second time. Conditions: those written in each theorem.
-/
import Derived.Test.YtaijfigohlkccaaGreatDoorZCoreTurns0
import Derived.Test.YtaijfigohlkccaaGreatDoorZCoreTurns15
import Derived.Test.YtaijfigohlkccaaGreatDoorZCoreTurns8
import Derived.Test.YtaijfigohlkccaaGreatDoorZCoreTurns17
set_option linter.unusedSimpArgs false
set_option linter.unusedVariables false
namespace Go.Proofs.YtaijfigohlkccaaGreatDoor
open Go Go.RowKit
set_option maxRecDepth 100000
def pairC (pre post : List Value) (qs : List Byte) : List Value := pre ++ (qs.map v8 ++ post)
section
variable {pre post : List Value} {A B N : List Byte} {k o : Nat}
theorem pair_drop (hA : A.length = 32 * k) (hB : 32 ≤ B.length) (j n : Nat) (hj : j + n ≤ 32) (ho : o = pre.length + 32 * k + j) : ((pairC pre post (A ++ B)).drop o).take n = ((B.drop j).take n).map v8 := by
 subst ho
 rw [pairC, Nat.add_assoc, ← List.drop_drop, List.drop_left, List.drop_append_of_le_length (by simp; omega), ← List.map_drop, List.take_append_of_le_length (by simp; omega), ← List.map_take, ← List.drop_drop]
 congr 2
 rw [← hA, List.drop_left]
theorem pair_set (hA : A.length = 32 * k) (hB : 32 ≤ B.length) (hN : N.length = 32) (ho : o = pre.length + 32 * k) : (pairC pre post (A ++ B)).take o ++ N.map v8 ++ (pairC pre post (A ++ B)).drop (o + 32) = pairC pre post (A ++ N ++ B.drop 32) := by
 subst ho
 have e1 : (pairC pre post (A ++ B)).take (pre.length + 32 * k) = pre ++ A.map v8 := by
   rw [pairC, List.take_append, List.take_of_length_le (by omega), Nat.add_sub_cancel_left, List.take_append_of_le_length (by simp; omega), ← List.map_take, ← hA, List.take_left]
 have e2 : (pairC pre post (A ++ B)).drop (pre.length + 32 * k + 32) = (B.drop 32).map v8 ++ post := by
   rw [pairC, Nat.add_assoc, ← List.drop_drop, List.drop_left, List.drop_append_of_le_length (by simp; omega), ← List.map_drop, ← List.drop_drop, ← hA, List.drop_left]
 rw [e1, e2, pairC]
 simp
theorem pairC_length : (pairC pre post A).length = pre.length + (A.length + post.length) := by simp [pairC]
end
theorem pair_at (ps : List Byte) (k n : Nat) (hl : ps.length = 32 * n) (hk : k < n) : ((ps.drop (32 * k)).drop 0).take 16 = fstB ps k ∧ ((ps.drop (32 * k)).drop 16).take 16 = sndB ps k := by
 constructor
 · rw [List.drop_zero]; rfl
 · rw [List.drop_drop]; rfl
theorem glue_next (G : Nat → List Byte) (ps : List Byte) (k : Nat) : glueF G k ++ G k ++ (ps.drop (32 * k)).drop 32 = glueF G (k + 1) ++ ps.drop (32 * (k + 1)) := by
 rw [List.drop_drop]; rfl
theorem build_pair (a b : List Byte) (ha : a.length = 16) (hb : b.length = 16) (w : World) : (Instr.build 118 #[(0, A8 a), (1, A8 b)]).run Tryz.prog w = .ok (A8 (a ++ b)) w := by
 obtain ⟨a0, a1, a2, a3, a4, a5, a6, a7, a8, a9, a10, a11, a12, a13, a14, a15, rfl⟩ := len16 a ha
 obtain ⟨b0, b1, b2, b3, b4, b5, b6, b7, b8, b9, b10, b11, b12, b13, b14, b15, rfl⟩ := len16 b hb
 kernel_rfl
set_option maxHeartbeats 8000000 in
theorem ahead_any (gp n cap : Nat) (pre post : List Value) (ps : List Byte) (hps : ps.length = 32 * n) (hn0 : 0 < n) (hnc : n ≤ cap) (hn : n ≤ 70368744177) (u v : Value) (x y : List Byte) (hx : x.length = 16) (hy : y.length = 16) (kv : Value) (F : Int → Int → List Byte → List Byte) (hF : ∀ j m x, (F j m x).length = 16) (w0 w : World) (R : List Blk)
   (hm : Own w0 w (⟨gp, 118, pairC pre post ps⟩ :: R))
   (CE : ∀ wx, Ext w0 wx → ∀ (j m : Int) (x : List Byte), x.length = 16 → j ≤ 9223372036854775807 → m ≤ 9223372036854775807 → Gives Tryz.prog 34 #[kv, .int .i64 j, .int .i64 m, A8 x] wx (A8 (F j m x))) :
   Calls Tryz.prog 32 #[.agg (msgC (.slice (some ⟨gp, pre.length, none⟩) n cap) u v x y).toArray, kv] w fun e w' => e = .returned (A8 (sumG (xF F ps) n)) ∧ Own w0 w' (⟨gp, 118, pairC pre post (oneP F ps n)⟩ :: R) := by
 have FP := Lib.hid (msg_pp (pp := .slice (some ⟨gp, pre.length, none⟩) n cap) (u := u) (v := v) (x := x) (y := y))
 have lS := msg_length (pp := .slice (some ⟨gp, pre.length, none⟩) n cap) (u := u) (v := v) hx hy
 generalize msgC (.slice (some ⟨gp, pre.length, none⟩) n cap) u v x y = S at *
 have HE := Lib.hid CE
 have HF := Lib.hid hF
 have HPS := Lib.hid hps
 have LG := Lib.hid (glueF_length (wxF F ps) (wxF_length F ps))
 have LS := Lib.hid (sumG_length (xF F ps))
 have e0 : glueF (wxF F ps) 0 ++ ps.drop (32 * 0) = ps := rfl
 rw [← e0] at hm
 clear CE hF e0 hps
 go_enter Tryz.func32, Tryz.ntmps32
 go_wp2_with (first | ((with_reducible apply wq_ld1 hm); exact rfl; infer_instance; exact rfl; (focus ((repeat (first | exact .hd | assumption | apply Has.tl | apply Has.app)); done)); (exact FP.out)) | ((first | ((with_reducible show qAl); first | ((with_reducible apply wq_new hm); exact rfl; infer_instance)) | ((with_reducible show qBx); first | ((with_reducible apply wq_boxN hm); exact rfl; exact rfl))); clear hm; (first | (have hx_ := g1; clear hx_; (first | (have hx_ := g2; clear hx_; (first | (have hx_ := g3; clear hx_; intro gx_) | intro g3)) | intro g2)) | intro g1); intro w hm))
 go_loopw [12] (fun i wr => ∃ k : Nat, k ≤ n ∧ i = .int .i64 k ∧ Own w0 wr (⟨g3, 36, (sumG (xF F ps) k).map v8⟩ :: ⟨g2, 36, (zer 16).map v8⟩ :: ⟨g1, 65, S⟩ :: ⟨gp, 118, pairC pre post (glueF (wxF F ps) k ++ ps.drop (32 * k))⟩ :: R)) (fun i _ => n - (intOf i).toNat)
 case atStart => exact ⟨0, by omega, rfl, hm⟩
 case round =>
   obtain ⟨k, hk, rfl, hm⟩ := hrel
   obtain ⟨w, rfl⟩ : ∃ w', w' = wr := ⟨_, rfl⟩
   by_cases hlt : k < n
   · have hd : decide ((k : Int) < (n : Int)) = true := decide_eq_true (by omega)
     have hd2 : (k : Int) < (n : Int) := by omega
     have hd3 : (k : Int) + 1 ≤ 9223372036854775807 := by omega
     have lA := LG.out k
     have lB : 32 ≤ (ps.drop (32 * k)).length := by rw [List.length_drop, HPS.out]; omega
     obtain ⟨q1, q2⟩ := pair_at ps k n HPS.out hlt
     have P1 := Lib.hid fun o (ho : o = pre.length + 32 * k + 0) => q1 ▸ pair_drop (post := post) lA lB 0 16 (by omega) ho
     have P2 := Lib.hid fun o (ho : o = pre.length + 32 * k + 16) => q2 ▸ pair_drop (post := post) lA lB 16 16 (by omega) ho
     have P3 := Lib.hid fun o (ho : o = pre.length + 32 * k) => glue_next (wxF F ps) ps k ▸ pair_set (post := post) lA lB (wxF_length F ps k) ho
     have l1 : (fstB ps k).length = 16 := fstB_length ps k (by rw [HPS.out]; omega)
     have l2 : (sndB ps k).length = 16 := sndB_length ps k (by rw [HPS.out]; omega)
     have l3 := HF.out 1 ((k : Int) + 1) (sndB ps k)
     have l4 := wF_length F ps k
     have l5 := HF.out 0 0 (wF F ps k)
     have l6 := xF_length F ps k
     have l7 := LS.out k
     have lC : (pairC pre post (glueF (wxF F ps) k ++ ps.drop (32 * k))).length = pre.length + (32 * n + post.length) := by rw [pairC_length, List.length_append, lA, List.length_drop, HPS.out]; omega
     have E1 := Lib.hid fun (w : World) (h : Ext w0 w) => HE.out w h 1 ((k : Int) + 1) (sndB ps k) l2 (by omega) (by omega)
     have E2 := Lib.hid fun (w : World) (h : Ext w0 w) => HE.out w h 0 0 (wF F ps k) l4 (by omega) (by omega)
     have D1 := Lib.hid fun (w : World) (p : Option Addr) (c : Nat) (hc : 2 ≤ c) (hk : RdK w p 16 [fstB ps k, F 1 ((k : Int) + 1) (sndB ps k)]) => show Gives Tryz.prog 31 #[.slice p 2 c] w (A8 (wF F ps k)) from cplus_two _ _ l1 l3 p c w hk hc
     have D2 := Lib.hid fun (w : World) (p : Option Addr) (c : Nat) (hc : 2 ≤ c) (hk : RdK w p 16 [sndB ps k, F 0 0 (wF F ps k)]) => show Gives Tryz.prog 31 #[.slice p 2 c] w (A8 (xF F ps k)) from cplus_two _ _ l2 l5 p c w hk hc
     have D3 := Lib.hid fun (w : World) (p : Option Addr) (c : Nat) (hc : 2 ≤ c) (hk : RdK w p 16 [sumG (xF F ps) k, xF F ps k]) => show Gives Tryz.prog 31 #[.slice p 2 c] w (A8 (sumG (xF F ps) (k + 1))) from cplus_two _ _ l7 l6 p c w hk hc
     have k1 := Lib.hid (show ∀ q ∈ [fstB ps k, F 1 ((k : Int) + 1) (sndB ps k)], q.length = 16 from by simp [l1, l3])
     have k2 := Lib.hid (show ∀ q ∈ [sndB ps k, F 0 0 (wF F ps k)], q.length = 16 from by simp [l2, l5])
     have k3 := Lib.hid (show ∀ q ∈ [sumG (xF F ps) k, xF F ps k], q.length = 16 from by simp [l6, l7])
     have BP := Lib.hid (build_pair (wF F ps k) (xF F ps k) l4 l6)
     rw [show wF F ps k ++ xF F ps k = wxF F ps k from rfl] at BP
     have lW := wxF_length F ps k
     have l8 := LS.out (k + 1)
     clear lA lB q1 q2
     generalize hQ : glueF (wxF F ps) (k + 1) ++ ps.drop (32 * (k + 1)) = Q at *
     generalize glueF (wxF F ps) k ++ ps.drop (32 * k) = C at *
     generalize hX : sumG (xF F ps) (k + 1) = X2 at *
     generalize sumG (xF F ps) k = X1 at *
     generalize wxF F ps k = WX at *
     generalize F 0 0 (wF F ps k) = Z2 at *
     generalize F 1 ((k : Int) + 1) (sndB ps k) = Z1 at *
     generalize wF F ps k = W at *
     generalize xF F ps k = X at *
     generalize fstB ps k = PA at *
     generalize sndB ps k = PB at *
     go_wp2_with fail
     have hx0 := hm.x
     refine region_new 19 (fun w' => Ext _ w') 57 (by kernel_rfl) (by kernel_rfl) rfl (fun _ _ h k => h.trans k) (drew_ext _) ?_
     simp only [tSC, List.take_zero, dSC, List.drop_zero, List.map_cons, List.map_nil]
     repeat (first
         | (apply walk_some (NewS (w.heap.size) 36 ((zer 16).map v8)) 7 (NewS.stable _ _ _) rfl rfl rfl rfl
            · (intro wx hwx; go_simp; exact gives_new (cs := (zer 16).map v8) hwx.size))
         | (apply walk_is rfl rfl rfl; (intro wx hwx; (with_reducible apply gq_ld1 (hm.ext hwx)); infer_instance; exact rfl; (focus ((repeat (first | exact .hd | assumption | apply Has.tl | apply Has.app)); done)); (exact FP.out)); (simp only [Act.put, sIB, sCS, sCZ]; rfl))
         | (apply walk_is rfl rfl rfl; (intro wx hwx; (with_reducible apply gq_ldN (hm.ext hwx)); infer_instance; exact rfl; (focus ((repeat (first | exact .hd | assumption | apply Has.tl | apply Has.app)); done)); (exact P1.out _ (by first | rfl | omega)); (exact ((List.length_map ..).trans l1))); (simp only [Act.put, sIB, sCS, sCZ]; rfl))
         | (apply walk_is rfl rfl rfl; (intro wx hwx; (with_reducible apply gq_ldN (hm.ext hwx)); infer_instance; exact rfl; (focus ((repeat (first | exact .hd | assumption | apply Has.tl | apply Has.app)); done)); (exact P2.out _ (by first | rfl | omega)); (exact ((List.length_map ..).trans l2))); (simp only [Act.put, sIB, sCS, sCZ]; rfl))
         | (apply walk_some (KeysS ([PA, Z1])) 31 (KeysS.stable _) rfl rfl rfl rfl; (intro wx hwx; exact gq_bs2 (k1.out) (bs_run2 PA Z1 l1 l3 wx) rfl rfl))
         | (apply walk_from (T := [(31, KeysS [PA, Z1])]) rfl rfl
            · (intro wx hwx; simp only [withS]; (rintro x_ ⟨p, c, rfl, hlc, hk'⟩); refine ⟨rfl, ?_⟩; go_simp; exact gives_call (D1.out wx p c hlc hk'))
            · (simp only [Act.put, sIB, sCS, sCZ]; rfl))
         | (apply walk_is rfl rfl rfl
            · (intro wx hwx; first | ((with_reducible show gives _ _ _ (Sem.run _ (execOp _ (Oper.mk _ (Op.load _ _) _ _ _ _)) _)); first | ((with_reducible apply gq_ldv (hm.ext hwx)); infer_instance; exact rfl; (focus ((repeat (first | exact .hd | assumption | apply Has.tl | apply Has.app)); done)); (focus (first | omega | (simp; omega) | (refine ltB ?_; first | omega | (simp; done) | (simp; omega))))) | ((with_reducible apply gq_ldW (hm.ext hwx)); infer_instance; exact rfl; (focus ((repeat (first | exact .hd | assumption | apply Has.tl | apply Has.app)); done)); (focus (first | rfl | omega | (simp; done) | (simp; omega)))) | ((with_reducible apply gq_ld1 (hm.ext hwx)); infer_instance; exact rfl; (focus ((repeat (first | exact .hd | assumption | apply Has.tl | apply Has.app)); done)); exact rfl)) | (go_simp; (try go_bits); first | exact gives_same | exact gives_skip | with_reducible exact gives_call (E1.out wx (hx0.trans hwx))))
            · (simp only [Act.put, sIB, sCS, sCZ]; rfl))
         | (apply walk_not rfl rfl rfl
            · (simp only [Act.put, sIB, sCS, sCZ]; rfl)))
     intro wz hwz
     simp only [zCC, zNR]
     repeat rw [fin_is]
     rw [fin_cons]; intro y31 hy31
     repeat rw [fin_is]
     rw [fin_cons]; intro x7 hx7
     repeat rw [fin_is]
     rw [fin_nil]; intro hap
     simp only [Act.put, sIB, sCS, sCZ] at hap ⊢
     clear hy31
     obtain ⟨g7_, rfl, hg7, hr7⟩ := hx7
     replace hm := hm.push hwz hg7 hr7
     clear hap hr7
     clear hx0
     go_wp2_with (first | ((((with_reducible show qSt); first | ((with_reducible apply wq_stW hm); exact rfl; infer_instance; exact rfl; exact rfl; (focus ((repeat (first | exact .hd | assumption | apply Swap.tl | apply Swap.app)); done)); (focus (first | rfl | omega | (simp; done) | (simp; omega))); (focus (first | rfl | omega | (simp; done) | (simp; omega))); (focus (first | exact one_map _ | (simp [one8, one32, one64]; done)))))); clear hm; intro w hm))
     have hx0 := hm.x
     refine region_new 12 (fun w' => Ext _ w') 57 (by kernel_rfl) (by kernel_rfl) rfl (fun _ _ h k => h.trans k) (drew_ext _) ?_
     simp only [tSC, List.take_zero, dSC, List.drop_zero, List.map_cons, List.map_nil]
     repeat (first
         | (apply walk_some (NewS (w.heap.size) 36 ((zer 16).map v8)) 8 (NewS.stable _ _ _) rfl rfl rfl rfl
            · (intro wx hwx; go_simp; exact gives_new (cs := (zer 16).map v8) hwx.size))
         | (apply walk_is rfl rfl rfl; (intro wx hwx; (with_reducible apply gq_ld1 (hm.ext hwx)); infer_instance; exact rfl; (focus ((repeat (first | exact .hd | assumption | apply Has.tl | apply Has.app)); done)); (exact FP.out)); (simp only [Act.put, sIB, sCS, sCZ]; rfl))
         | (apply walk_is rfl rfl rfl; (intro wx hwx; (with_reducible apply gq_ldN (hm.ext hwx)); infer_instance; exact rfl; (focus ((repeat (first | exact .hd | assumption | apply Has.tl | apply Has.app)); done)); (exact P2.out _ (by first | rfl | omega)); (exact ((List.length_map ..).trans l2))); (simp only [Act.put, sIB, sCS, sCZ]; rfl))
         | (apply walk_some (KeysS ([PB, Z2])) 42 (KeysS.stable _) rfl rfl rfl rfl; (intro wx hwx; exact gq_bs2 (k2.out) (bs_run2 PB Z2 l2 l5 wx) rfl rfl))
         | (apply walk_from (T := [(42, KeysS [PB, Z2])]) rfl rfl
            · (intro wx hwx; simp only [withS]; (rintro x_ ⟨p, c, rfl, hlc, hk'⟩); refine ⟨rfl, ?_⟩; go_simp; exact gives_call (D2.out wx p c hlc hk'))
            · (simp only [Act.put, sIB, sCS, sCZ]; rfl))
         | (apply walk_is rfl rfl rfl
            · (intro wx hwx; first | ((with_reducible show gives _ _ _ (Sem.run _ (execOp _ (Oper.mk _ (Op.load _ _) _ _ _ _)) _)); first | ((with_reducible apply gq_ldv (hm.ext hwx)); infer_instance; exact rfl; (focus ((repeat (first | exact .hd | assumption | apply Has.tl | apply Has.app)); done)); (focus (first | omega | (simp; omega) | (refine ltB ?_; first | omega | (simp; done) | (simp; omega))))) | ((with_reducible apply gq_ldW (hm.ext hwx)); infer_instance; exact rfl; (focus ((repeat (first | exact .hd | assumption | apply Has.tl | apply Has.app)); done)); (focus (first | rfl | omega | (simp; done) | (simp; omega)))) | ((with_reducible apply gq_ld1 (hm.ext hwx)); infer_instance; exact rfl; (focus ((repeat (first | exact .hd | assumption | apply Has.tl | apply Has.app)); done)); exact rfl)) | (go_simp; (try go_bits); first | exact gives_same | exact gives_skip | with_reducible exact gives_call (E2.out wx (hx0.trans hwx))))
            · (simp only [Act.put, sIB, sCS, sCZ]; rfl))
         | (apply walk_not rfl rfl rfl
            · (simp only [Act.put, sIB, sCS, sCZ]; rfl)))
     intro wz hwz
     simp only [zCC, zNR]
     repeat rw [fin_is]
     rw [fin_cons]; intro y42 hy42
     repeat rw [fin_is]
     rw [fin_cons]; intro x8 hx8
     repeat rw [fin_is]
     rw [fin_nil]; intro hap
     simp only [Act.put, sIB, sCS, sCZ] at hap ⊢
     clear hy42
     obtain ⟨g8_, rfl, hg8, hr8⟩ := hx8
     replace hm := hm.push hwz hg8 hr8
     clear hap hr8
     clear hx0
     have HST := Lib.hid (P3.out (pre.length + k * 32) (by omega))
     go_wp2_with (first | ((with_reducible apply wq_ld1 hm); exact rfl; infer_instance; exact rfl; (focus ((repeat (first | exact .hd | assumption | apply Has.tl | apply Has.app)); done)); (exact FP.out)) | ((with_reducible apply wq_build2 BP.out); exact rfl; exact rfl; exact rfl) | ((with_reducible show wpList _ _ _ (Oper.mk _ (Op.store 118 _ _) _ _ _ _ :: _) _ _); ((with_reducible apply wq_stA hm); exact rfl; infer_instance; exact rfl; exact rfl; (focus ((repeat (first | exact .hd | assumption | apply Swap.tl | apply Swap.app)); done)); (exact HST.out); (exact (by simp [lW])); (exact (by rw [lC]; omega)); (exact (one_map _)); clear hm; intro w hm)) | ((with_reducible apply wq_bs2 hm (bs_run2 X1 X l7 l6 _)); exact rfl; exact rfl; exact rfl; clear hm; intro gq w hm) | (go_at_call 31; (with_reducible refine (D3.out _ _ _ (Nat.le_refl 2) (hm.rdK (by repeat (first | exact Has.hd | assumption | apply Has.tl | apply Has.app)) k3.out)).mono ?_); rintro e_ w ⟨rfl, hx_⟩; replace hm := hm.ext hx_; clear hx_) | ((with_reducible show qLd); first | ((with_reducible apply wq_ldW hm); exact rfl; infer_instance; exact rfl; (focus ((repeat (first | exact .hd | assumption | apply Has.tl | apply Has.app)); done)); (focus (first | rfl | omega | (simp; done) | (simp; omega))))) | ((((with_reducible show qSt); first | ((with_reducible apply wq_stW hm); exact rfl; infer_instance; exact rfl; exact rfl; (focus ((repeat (first | exact .hd | assumption | apply Swap.tl | apply Swap.app)); done)); (focus (first | rfl | omega | (simp; done) | (simp; omega))); (focus (first | rfl | omega | (simp; done) | (simp; omega))); (focus (first | exact one_map _ | (simp [one8, one32, one64]; done)))))); clear hm; intro w hm))
     go_roundw
     case rel => exact ⟨k + 1, by omega, by go_num, by rw [hX, hQ]; exact hm.drop.drop.drop⟩
     case measure => simp [intOf] <;> omega
   · obtain rfl : k = n := by omega
     have hd : decide ((k : Int) < (k : Int)) = false := decide_eq_false (by omega)
     have hz : glueF (wxF F ps) k ++ ps.drop (32 * k) = oneP F ps k := by rw [List.drop_eq_nil_of_le (by rw [HPS.out]; omega), List.append_nil]; rfl
     rw [hz] at hm
     have l7 := LS.out k
     go_wp2_with (first | ((with_reducible show qLd); first | ((with_reducible apply wq_ldW hm); exact rfl; infer_instance; exact rfl; (focus ((repeat (first | exact .hd | assumption | apply Has.tl | apply Has.app)); done)); (focus (first | rfl | omega | (simp; done) | (simp; omega))))) | ((((with_reducible show qSt); first | ((with_reducible apply wq_stW hm); exact rfl; infer_instance; exact rfl; exact rfl; (focus ((repeat (first | exact .hd | assumption | apply Swap.tl | apply Swap.app)); done)); (focus (first | rfl | omega | (simp; done) | (simp; omega))); (focus (first | rfl | omega | (simp; done) | (simp; omega))); (focus (first | exact one_map _ | (simp [one8, one32, one64]; done)))))); clear hm; intro w hm))
     refine ret_own hm rfl rfl (by infer_instance) (by repeat (first | exact Has.hd | assumption | apply Has.tl | apply Has.app)) (by first | rfl | omega | (simp only [zeros_length, zer_length, tab_length, part_length, setN_length, List.length_map, List.length_cons, List.length_nil, List.length_append, List.length_take, List.length_drop, List.length_replicate, blk_length, putL_length] <;> omega)) rfl ?_
     exact ⟨rfl, hm.drop.drop.drop⟩
end Go.Proofs.YtaijfigohlkccaaGreatDoor
namespace Go.Proofs.YtaijfigohlkccaaGreatDoor
open Go Go.RowKit
set_option maxRecDepth 100000
set_option maxHeartbeats 8000000 in
theorem behind_any (gp n cap : Nat) (pre post : List Value) (ps : List Byte) (hps : ps.length = 32 * n) (hn0 : 0 < n) (hnc : n ≤ cap) (hn : n ≤ 70368744177) (u v : Value) (x y : List Byte) (hx : x.length = 16) (hy : y.length = 16) (kv : Value) (z : List Byte) (hz : z.length = 16) (F : Int → Int → List Byte → List Byte) (hF : ∀ j m x, (F j m x).length = 16) (w0 w : World) (R : List Blk)
   (hm : Own w0 w (⟨gp, 118, pairC pre post ps⟩ :: R))
   (CE : ∀ wx, Ext w0 wx → ∀ (j m : Int) (x : List Byte), x.length = 16 → j ≤ 9223372036854775807 → m ≤ 9223372036854775807 → Gives Tryz.prog 34 #[kv, .int .i64 j, .int .i64 m, A8 x] wx (A8 (F j m x))) :
   Calls Tryz.prog 36 #[.agg (msgC (.slice (some ⟨gp, pre.length, none⟩) n cap) u v x y).toArray, kv, A8 z] w fun e w' => e = .returned (A8 (sumG (yF F z ps) n)) ∧ Own w0 w' (⟨gp, 118, pairC pre post (glueF (fsF F z ps) n)⟩ :: R) := by
 have FP := Lib.hid (msg_pp (pp := .slice (some ⟨gp, pre.length, none⟩) n cap) (u := u) (v := v) (x := x) (y := y))
 have lS := msg_length (pp := .slice (some ⟨gp, pre.length, none⟩) n cap) (u := u) (v := v) hx hy
 generalize msgC (.slice (some ⟨gp, pre.length, none⟩) n cap) u v x y = S at *
 have HE := Lib.hid CE
 have HF := Lib.hid hF
 have HPS := Lib.hid hps
 have LG := Lib.hid (glueF_length (fsF F z ps) (fsF_length F z ps))
 have LS := Lib.hid (sumG_length (yF F z ps))
 have e0 : glueF (fsF F z ps) 0 ++ ps.drop (32 * 0) = ps := rfl
 rw [← e0] at hm
 clear CE hF e0 hps
 go_enter Tryz.func36, Tryz.ntmps36
 go_wp2_with (first | ((with_reducible apply wq_ld1 hm); exact rfl; infer_instance; exact rfl; (focus ((repeat (first | exact .hd | assumption | apply Has.tl | apply Has.app)); done)); (exact FP.out)) | ((first | ((with_reducible show qAl); first | ((with_reducible apply wq_new hm); exact rfl; infer_instance)) | ((with_reducible show qBx); first | ((with_reducible apply wq_boxN hm); exact rfl; exact rfl))); clear hm; (first | (have hx_ := g1; clear hx_; (first | (have hx_ := g2; clear hx_; (first | (have hx_ := g3; clear hx_; (first | (have hx_ := g4; clear hx_; intro gx_) | intro g4)) | intro g3)) | intro g2)) | intro g1); intro w hm))
 go_loopw [16] (fun i wr => ∃ k : Nat, k ≤ n ∧ i = .int .i64 k ∧ Own w0 wr (⟨g4, 36, (sumG (yF F z ps) k).map v8⟩ :: ⟨g3, 36, (zer 16).map v8⟩ :: ⟨g2, 36, z.map v8⟩ :: ⟨g1, 65, S⟩ :: ⟨gp, 118, pairC pre post (glueF (fsF F z ps) k ++ ps.drop (32 * k))⟩ :: R)) (fun i _ => n - (intOf i).toNat)
 case atStart => exact ⟨0, by omega, rfl, hm⟩
 case round =>
   obtain ⟨k, hk, rfl, hm⟩ := hrel
   obtain ⟨w, rfl⟩ : ∃ w', w' = wr := ⟨_, rfl⟩
   by_cases hlt : k < n
   · have hd : decide ((k : Int) < (n : Int)) = true := decide_eq_true (by omega)
     have hd2 : (k : Int) < (n : Int) := by omega
     have hd3 : (k : Int) + 1 ≤ 9223372036854775807 := by omega
     have lA := LG.out k
     have lB : 32 ≤ (ps.drop (32 * k)).length := by rw [List.length_drop, HPS.out]; omega
     obtain ⟨q1, q2⟩ := pair_at ps k n HPS.out hlt
     have P1 := Lib.hid fun o (ho : o = pre.length + 32 * k + 0) => q1 ▸ pair_drop (post := post) lA lB 0 16 (by omega) ho
     have P2 := Lib.hid fun o (ho : o = pre.length + 32 * k + 16) => q2 ▸ pair_drop (post := post) lA lB 16 16 (by omega) ho
     have P3 := Lib.hid fun o (ho : o = pre.length + 32 * k) => glue_next (fsF F z ps) ps k ▸ pair_set (post := post) lA lB (fsF_length F z ps k) ho
     have l1 : (fstB ps k).length = 16 := fstB_length ps k (by rw [HPS.out]; omega)
     have l2 : (sndB ps k).length = 16 := sndB_length ps k (by rw [HPS.out]; omega)
     have l3 := HF.out 2 ((k : Int) + 1) z
     have l4 := yF_length F z ps k
     have l5 := vF_length F z ps k
     have l6 := HF.out 0 0 (vF F z ps k)
     have l7 := secF_length F z ps k
     have l8 := HF.out 1 ((k : Int) + 1) (secF F z ps k)
     have l9 := firF_length F z ps k
     have l10 := LS.out k
     have lC : (pairC pre post (glueF (fsF F z ps) k ++ ps.drop (32 * k))).length = pre.length + (32 * n + post.length) := by rw [pairC_length, List.length_append, lA, List.length_drop, HPS.out]; omega
     have E1 := Lib.hid fun (w : World) (h : Ext w0 w) => HE.out w h 2 ((k : Int) + 1) z hz (by omega) (by omega)
     have E2 := Lib.hid fun (w : World) (h : Ext w0 w) => HE.out w h 0 0 (vF F z ps k) l5 (by omega) (by omega)
     have E3 := Lib.hid fun (w : World) (h : Ext w0 w) => HE.out w h 1 ((k : Int) + 1) (secF F z ps k) l7 (by omega) (by omega)
     have D1 := Lib.hid fun (w : World) (p : Option Addr) (c : Nat) (hc : 2 ≤ c) (hk : RdK w p 16 [fstB ps k, F 2 ((k : Int) + 1) z]) => show Gives Tryz.prog 31 #[.slice p 2 c] w (A8 (yF F z ps k)) from cplus_two _ _ l1 l3 p c w hk hc
     have D2 := Lib.hid fun (w : World) (p : Option Addr) (c : Nat) (hc : 2 ≤ c) (hk : RdK w p 16 [sndB ps k, F 2 ((k : Int) + 1) z]) => show Gives Tryz.prog 31 #[.slice p 2 c] w (A8 (vF F z ps k)) from cplus_two _ _ l2 l3 p c w hk hc
     have D3 := Lib.hid fun (w : World) (p : Option Addr) (c : Nat) (hc : 2 ≤ c) (hk : RdK w p 16 [yF F z ps k, F 0 0 (vF F z ps k)]) => show Gives Tryz.prog 31 #[.slice p 2 c] w (A8 (secF F z ps k)) from cplus_two _ _ l4 l6 p c w hk hc
     have D4 := Lib.hid fun (w : World) (p : Option Addr) (c : Nat) (hc : 2 ≤ c) (hk : RdK w p 16 [vF F z ps k, F 1 ((k : Int) + 1) (secF F z ps k)]) => show Gives Tryz.prog 31 #[.slice p 2 c] w (A8 (firF F z ps k)) from cplus_two _ _ l5 l8 p c w hk hc
     have D5 := Lib.hid fun (w : World) (p : Option Addr) (c : Nat) (hc : 2 ≤ c) (hk : RdK w p 16 [sumG (yF F z ps) k, yF F z ps k]) => show Gives Tryz.prog 31 #[.slice p 2 c] w (A8 (sumG (yF F z ps) (k + 1))) from cplus_two _ _ l10 l4 p c w hk hc
     have k1 := Lib.hid (show ∀ q ∈ [fstB ps k, F 2 ((k : Int) + 1) z], q.length = 16 from by simp [l1, l3])
     have k2 := Lib.hid (show ∀ q ∈ [sndB ps k, F 2 ((k : Int) + 1) z], q.length = 16 from by simp [l2, l3])
     have k3 := Lib.hid (show ∀ q ∈ [yF F z ps k, F 0 0 (vF F z ps k)], q.length = 16 from by simp [l4, l6])
     have k4 := Lib.hid (show ∀ q ∈ [vF F z ps k, F 1 ((k : Int) + 1) (secF F z ps k)], q.length = 16 from by simp [l5, l8])
     have k5 := Lib.hid (show ∀ q ∈ [sumG (yF F z ps) k, yF F z ps k], q.length = 16 from by simp [l10, l4])
     have BP := Lib.hid (build_pair (firF F z ps k) (secF F z ps k) l9 l7)
     rw [show firF F z ps k ++ secF F z ps k = fsF F z ps k from rfl] at BP
     have lW := fsF_length F z ps k
     have l11 := LS.out (k + 1)
     clear lA lB q1 q2
     generalize hQ : glueF (fsF F z ps) (k + 1) ++ ps.drop (32 * (k + 1)) = Q at *
     generalize glueF (fsF F z ps) k ++ ps.drop (32 * k) = C at *
     generalize hX : sumG (yF F z ps) (k + 1) = X2 at *
     generalize sumG (yF F z ps) k = X1 at *
     generalize fsF F z ps k = WX at *
     generalize F 1 ((k : Int) + 1) (secF F z ps k) = Z3 at *
     generalize F 0 0 (vF F z ps k) = Z2 at *
     generalize F 2 ((k : Int) + 1) z = Z1 at *
     generalize firF F z ps k = FI at *
     generalize secF F z ps k = SE at *
     generalize yF F z ps k = Y at *
     generalize vF F z ps k = V at *
     generalize fstB ps k = PA at *
     generalize sndB ps k = PB at *
     go_wp2_with (first | (go_at_call 34; (with_reducible refine (E1.out _ hm.x).mono ?_); rintro e_ w ⟨rfl, hx_⟩; replace hm := hm.ext hx_; clear hx_) | ((with_reducible show qLd); first | ((with_reducible apply wq_ldW hm); exact rfl; infer_instance; exact rfl; (focus ((repeat (first | exact .hd | assumption | apply Has.tl | apply Has.app)); done)); (focus (first | rfl | omega | (simp; done) | (simp; omega))))) | ((((with_reducible show qSt); first | ((with_reducible apply wq_stW hm); exact rfl; infer_instance; exact rfl; exact rfl; (focus ((repeat (first | exact .hd | assumption | apply Swap.tl | apply Swap.app)); done)); (focus (first | rfl | omega | (simp; done) | (simp; omega))); (focus (first | rfl | omega | (simp; done) | (simp; omega))); (focus (first | exact one_map _ | (simp [one8, one32, one64]; done)))))); clear hm; intro w hm) | ((first | ((with_reducible show qAl); first | ((with_reducible apply wq_new hm); exact rfl; infer_instance))); clear hm; (first | (have hx_ := g1; clear hx_; (first | (have hx_ := g2; clear hx_; (first | (have hx_ := g3; clear hx_; (first | (have hx_ := g4; clear hx_; intro gx_) | intro g4)) | intro g3)) | intro g2)) | intro g1); intro w hm))
     refine pregion 22 (K2X _ _ 36 ((zer 16).map v8) (Y.map v8) (V.map v8)) [18, 19, 20, 21] 68 (by kernel_rfl) (by kernel_rfl) rfl (⟨none, none, none, none, rfl, TwoV.start (hm.ext (drew_ext _))⟩) ?_
     simp only [tSC, List.take_zero, dSC, List.drop_zero, List.map_cons, List.map_nil]
     repeat (first
         | (apply pwalk_is rfl rfl rfl rfl; (intro vs_ wx hJ_; obtain ⟨a_, b_, c_, d_, rfl, hT_⟩ := hJ_; have hm := hT_.low; (with_reducible apply gq_ld1 hm); infer_instance; exact rfl; (focus ((repeat (first | exact .hd | assumption | apply Has.tl | apply Has.app)); done)); (exact FP.out)); (simp only [Act.put, sIB, sCS, sCZ]; rfl))
         | (apply pwalk_is rfl rfl rfl rfl; (intro vs_ wx hJ_; obtain ⟨a_, b_, c_, d_, rfl, hT_⟩ := hJ_; have hm := hT_.low; (with_reducible apply gq_ldN hm); infer_instance; exact rfl; (focus ((repeat (first | exact .hd | assumption | apply Has.tl | apply Has.app)); done)); (exact P1.out _ (by first | rfl | omega)); (exact ((List.length_map ..).trans l1))); (simp only [Act.put, sIB, sCS, sCZ]; rfl))
         | (apply pwalk_is rfl rfl rfl rfl; (intro vs_ wx hJ_; obtain ⟨a_, b_, c_, d_, rfl, hT_⟩ := hJ_; have hm := hT_.low; (with_reducible apply gq_ldN hm); infer_instance; exact rfl; (focus ((repeat (first | exact .hd | assumption | apply Has.tl | apply Has.app)); done)); (exact P2.out _ (by first | rfl | omega)); (exact ((List.length_map ..).trans l2))); (simp only [Act.put, sIB, sCS, sCZ]; rfl))
         | (apply pwalk_some (KeysP ([PA, Z1])) 31 (KeysP.stable _) rfl rfl rfl rfl rfl; (intro vs_ wx hJ_; obtain ⟨a_, b_, c_, d_, rfl, hT_⟩ := hJ_; exact gqp_bs2 hT_ (bs_run2 PA Z1 l1 l3 wx) rfl rfl))
         | (apply pwalk_some (KeysP ([PB, Z1])) 40 (KeysP.stable _) rfl rfl rfl rfl rfl; (intro vs_ wx hJ_; obtain ⟨a_, b_, c_, d_, rfl, hT_⟩ := hJ_; exact gqp_bs2 hT_ (bs_run2 PB Z1 l2 l3 wx) rfl rfl))
         | (apply pwalk_from (T := [(31, KeysP ([PA, Z1]))]) rfl rfl rfl
            · (intro vs_ wx hJ_; simp only [pwithS]; rintro x_ ⟨g_, e_, rfl, hrow_, hne_⟩; refine ⟨rfl, ?_⟩; go_simp; exact gives_call (D1.out wx _ _ (Nat.le_refl _) ⟨k1.out, RdB.of_row hrow_⟩))
            · (simp only [Act.put, sIB, sCS, sCZ]; rfl))
         | (apply pwalk_from (T := [(40, KeysP ([PB, Z1]))]) rfl rfl rfl
            · (intro vs_ wx hJ_; simp only [pwithS]; rintro x_ ⟨g_, e_, rfl, hrow_, hne_⟩; refine ⟨rfl, ?_⟩; go_simp; exact gives_call (D2.out wx _ _ (Nat.le_refl _) ⟨k2.out, RdB.of_row hrow_⟩))
            · (simp only [Act.put, sIB, sCS, sCZ]; rfl))
         | (apply pwalk_mark (T := []) 0 [] rfl rfl rfl rfl rfl; (intro vs_ wx hJ_ hn_ hD_; simp only [pwithS]; obtain ⟨a_, b_, c_, d_, rfl, hT_⟩ := hJ_; obtain rfl : a_ = none := (by simpa using hn_); have hm := hT_.oa; refine ⟨rfl, ?_⟩; (with_reducible apply wq_newX hm); exact rfl; infer_instance; clear hm; intro g_ w_ hm hx_ hg_; exact mark_end rfl (hT_.x0 hm hx_ hg_)))
         | (apply pwalk_mark (T := []) 1 [] rfl rfl rfl rfl rfl; (intro vs_ wx hJ_ hn_ hD_; simp only [pwithS]; obtain ⟨a_, b_, c_, d_, rfl, hT_⟩ := hJ_; obtain rfl : b_ = none := (by simpa using hn_); have hm := hT_.ob; refine ⟨rfl, ?_⟩; (with_reducible apply wq_newX hm); exact rfl; infer_instance; clear hm; intro g_ w_ hm hx_ hg_; exact mark_end rfl (hT_.x1 hm hx_ hg_)))
         | (apply pwalk_mark (T := [(10, PMk 0)]) 2 [] rfl rfl rfl rfl rfl; (intro vs_ wx hJ_ hn_ hD_; simp only [pwithS]; obtain ⟨a_, b_, c_, d_, rfl, hT_⟩ := hJ_; obtain rfl : c_ = none := (by simpa using hn_); intro x_ hx_; obtain rfl : a_ = some x_ := (by simpa [PMk] using hx_); obtain ⟨g_, rfl, hm⟩ := hT_.sa; refine ⟨rfl, ?_⟩; (with_reducible apply wq_stWX hm); exact rfl; infer_instance; exact rfl; exact rfl; (focus ((repeat (first | exact .hd | assumption | apply Swap.tl | apply Swap.app)); done)); (focus (first | rfl | omega | (simp; done) | (simp; omega))); (focus (first | rfl | omega | (simp; done) | (simp; omega))); (focus (first | exact one_map _ | (simp [one8, one32, one64]; done))); clear hm; intro w_ hm hk_; exact mark_end rfl (fun u_ => hT_.x2 hm hk_)))
         | (apply pwalk_mark (T := [(11, PMk 1)]) 3 [] rfl rfl rfl rfl rfl; (intro vs_ wx hJ_ hn_ hD_; simp only [pwithS]; obtain ⟨a_, b_, c_, d_, rfl, hT_⟩ := hJ_; obtain rfl : d_ = none := (by simpa using hn_); intro x_ hx_; obtain rfl : b_ = some x_ := (by simpa [PMk] using hx_); obtain ⟨g_, rfl, hm⟩ := hT_.sb; refine ⟨rfl, ?_⟩; (with_reducible apply wq_stWX hm); exact rfl; infer_instance; exact rfl; exact rfl; (focus ((repeat (first | exact .hd | assumption | apply Swap.tl | apply Swap.app)); done)); (focus (first | rfl | omega | (simp; done) | (simp; omega))); (focus (first | rfl | omega | (simp; done) | (simp; omega))); (focus (first | exact one_map _ | (simp [one8, one32, one64]; done))); clear hm; intro w_ hm hk_; exact mark_end rfl (fun u_ => hT_.x3 hm hk_)))
         | (apply pwalk_is rfl rfl rfl rfl
            · (intro vs_ wx hJ_; obtain ⟨a_, b_, c_, d_, rfl, hT_⟩ := hJ_; have hm := hT_.low; first | ((with_reducible show gives _ _ _ (Sem.run _ (execOp _ (Oper.mk _ (Op.load _ _) _ _ _ _)) _)); first | ((with_reducible apply gq_ldv hm); infer_instance; exact rfl; (focus ((repeat (first | exact .hd | assumption | apply Has.tl | apply Has.app)); done)); (focus (first | omega | (simp; omega) | (refine ltB ?_; first | omega | (simp; done) | (simp; omega))))) | ((with_reducible apply gq_ldW hm); infer_instance; exact rfl; (focus ((repeat (first | exact .hd | assumption | apply Has.tl | apply Has.app)); done)); (focus (first | rfl | omega | (simp; done) | (simp; omega)))) | ((with_reducible apply gq_ld1 hm); infer_instance; exact rfl; (focus ((repeat (first | exact .hd | assumption | apply Has.tl | apply Has.app)); done)); exact rfl)) | (go_simp; (try go_bits); first | exact gives_same | exact gives_skip))
            · (simp only [Act.put, sIB, sCS, sCZ]; rfl)))
     intro vs_ wz hJ_ hl_ hall_
     simp only [zCC, zNR]
     repeat rw [pfin_is]
     rw [pfin_cons]; intro y31 hy31
     repeat rw [pfin_is]
     rw [pfin_cons]; intro y40 hy40
     repeat rw [pfin_is]
     rw [pfin_cons]; intro x10 hx10
     repeat rw [pfin_is]
     rw [pfin_cons]; intro x11 hx11
     repeat rw [pfin_is]
     rw [pfin_cons]; intro ya hya
     repeat rw [pfin_is]
     rw [pfin_cons]; intro yb hyb
     repeat rw [pfin_is]
     rw [pfin_nil]
     simp only [Act.put, sIB, sCS, sCZ]
     obtain ⟨a_, b_, c_, d_, rfl, hT_⟩ := hJ_
     obtain ⟨p_, q_, r_, s_, rfl, rfl, rfl, rfl⟩ := some4 hall_
     clear hm
     obtain ⟨g10_, g11_, rfl, rfl, hm⟩ := hT_.fin
     obtain rfl := pmk0 hx10
     obtain rfl := pmk1 hx11
     clear hT_ hl_ hall_ hx10 hx11 hy31 hy40 hya hyb
     go_wp2_with fail
     obtain ⟨w, rfl⟩ : ∃ w', w' = wz := ⟨_, rfl⟩
     have hx0 := hm.x
     refine region_new 7 (fun w' => Ext _ w') 68 (by kernel_rfl) (by kernel_rfl) rfl (fun _ _ h k => h.trans k) (drew_ext _) ?_
     simp only [tSC, List.take_zero, dSC, List.drop_zero, List.map_cons, List.map_nil]
     repeat (first
         | (apply walk_some (NewS (w.heap.size) 36 ((zer 16).map v8)) 12 (NewS.stable _ _ _) rfl rfl rfl rfl
            · (intro wx hwx; go_simp; exact gives_new (cs := (zer 16).map v8) hwx.size))
         | (apply walk_some (KeysS ([Y, Z2])) 46 (KeysS.stable _) rfl rfl rfl rfl; (intro wx hwx; exact gq_bs2 (k3.out) (bs_run2 Y Z2 l4 l6 wx) rfl rfl))
         | (apply walk_from (T := [(46, KeysS [Y, Z2])]) rfl rfl
            · (intro wx hwx; simp only [withS]; (rintro x_ ⟨p, c, rfl, hlc, hk'⟩); refine ⟨rfl, ?_⟩; go_simp; exact gives_call (D3.out wx p c hlc hk'))
            · (simp only [Act.put, sIB, sCS, sCZ]; rfl))
         | (apply walk_is rfl rfl rfl
            · (intro wx hwx; first | ((with_reducible show gives _ _ _ (Sem.run _ (execOp _ (Oper.mk _ (Op.load _ _) _ _ _ _)) _)); first | ((with_reducible apply gq_ldv (hm.ext hwx)); infer_instance; exact rfl; (focus ((repeat (first | exact .hd | assumption | apply Has.tl | apply Has.app)); done)); (focus (first | omega | (simp; omega) | (refine ltB ?_; first | omega | (simp; done) | (simp; omega))))) | ((with_reducible apply gq_ldW (hm.ext hwx)); infer_instance; exact rfl; (focus ((repeat (first | exact .hd | assumption | apply Has.tl | apply Has.app)); done)); (focus (first | rfl | omega | (simp; done) | (simp; omega)))) | ((with_reducible apply gq_ld1 (hm.ext hwx)); infer_instance; exact rfl; (focus ((repeat (first | exact .hd | assumption | apply Has.tl | apply Has.app)); done)); exact rfl)) | (go_simp; (try go_bits); first | exact gives_same | exact gives_skip | with_reducible exact gives_call (E2.out wx (hx0.trans hwx))))
            · (simp only [Act.put, sIB, sCS, sCZ]; rfl))
         | (apply walk_not rfl rfl rfl
            · (simp only [Act.put, sIB, sCS, sCZ]; rfl)))
     intro wz hwz
     simp only [zCC, zNR]
     repeat rw [fin_is]
     rw [fin_cons]; intro y46 hy46
     repeat rw [fin_is]
     rw [fin_cons]; intro x12 hx12
     repeat rw [fin_is]
     rw [fin_nil]; intro hap
     simp only [Act.put, sIB, sCS, sCZ] at hap ⊢
     clear hy46
     obtain ⟨g12_, rfl, hg12, hr12⟩ := hx12
     replace hm := hm.push hwz hg12 hr12
     clear hap hr12
     clear hx0
     go_wp2_with (first | ((((with_reducible show qSt); first | ((with_reducible apply wq_stW hm); exact rfl; infer_instance; exact rfl; exact rfl; (focus ((repeat (first | exact .hd | assumption | apply Swap.tl | apply Swap.app)); done)); (focus (first | rfl | omega | (simp; done) | (simp; omega))); (focus (first | rfl | omega | (simp; done) | (simp; omega))); (focus (first | exact one_map _ | (simp [one8, one32, one64]; done)))))); clear hm; intro w hm))
     have hx0 := hm.x
     refine region_at 14 (fun w' => Ext _ w') 68 (by kernel_rfl) (by kernel_rfl) rfl (fun _ _ h k => h.trans k) (drew_ext _) ?_
     simp only [tSC, List.take_zero, dSC, List.drop_zero, List.map_cons, List.map_nil]
     repeat (first
         | (apply walk_is rfl rfl rfl; (intro wx hwx; (with_reducible apply gq_ld1 (hm.ext hwx)); infer_instance; exact rfl; (focus ((repeat (first | exact .hd | assumption | apply Has.tl | apply Has.app)); done)); (exact FP.out)); (simp only [Act.put, sIB, sCS, sCZ]; rfl))
         | (apply walk_some (KeysS ([V, Z3])) 57 (KeysS.stable _) rfl rfl rfl rfl; (intro wx hwx; exact gq_bs2 (k4.out) (bs_run2 V Z3 l5 l8 wx) rfl rfl))
         | (apply walk_from (T := [(57, KeysS [V, Z3])]) rfl rfl
            · (intro wx hwx; simp only [withS]; (rintro x_ ⟨p, c, rfl, hlc, hk'⟩); refine ⟨rfl, ?_⟩; go_simp; exact gives_call (D4.out wx p c hlc hk'))
            · (simp only [Act.put, sIB, sCS, sCZ]; rfl))
         | (apply walk_is rfl rfl rfl; (intro wx hwx; (with_reducible apply gq_build BP.out); (first | rfl | simp [Act.eval] | kernel_rfl)); (simp only [Act.put, sIB, sCS, sCZ]; rfl))
         | (apply walk_is rfl rfl rfl
            · (intro wx hwx; first | ((with_reducible show gives _ _ _ (Sem.run _ (execOp _ (Oper.mk _ (Op.load _ _) _ _ _ _)) _)); first | ((with_reducible apply gq_ldv (hm.ext hwx)); infer_instance; exact rfl; (focus ((repeat (first | exact .hd | assumption | apply Has.tl | apply Has.app)); done)); (focus (first | omega | (simp; omega) | (refine ltB ?_; first | omega | (simp; done) | (simp; omega))))) | ((with_reducible apply gq_ldW (hm.ext hwx)); infer_instance; exact rfl; (focus ((repeat (first | exact .hd | assumption | apply Has.tl | apply Has.app)); done)); (focus (first | rfl | omega | (simp; done) | (simp; omega)))) | ((with_reducible apply gq_ld1 (hm.ext hwx)); infer_instance; exact rfl; (focus ((repeat (first | exact .hd | assumption | apply Has.tl | apply Has.app)); done)); exact rfl)) | (go_simp; (try go_bits); first | exact gives_same | exact gives_skip | with_reducible exact gives_call (E3.out wx (hx0.trans hwx))))
            · (simp only [Act.put, sIB, sCS, sCZ]; rfl))
         | (apply walk_not rfl rfl rfl
            · (simp only [Act.put, sIB, sCS, sCZ]; rfl)))
     intro wz hwz
     simp only [zCC, zNR]
     repeat (first | rw [fin_is] | (rw [fin_cons]; intro _ _))
     rw [fin_nil]
     try (replace hm := hm.ext hwz)
     simp only [Act.put, sIB, sCS, sCZ]
     clear hx0
     have HST := Lib.hid (P3.out (pre.length + k * 32) (by omega))
     go_wp2_with (first | ((with_reducible show wpList _ _ _ (Oper.mk _ (Op.store 118 _ _) _ _ _ _ :: _) _ _); ((with_reducible apply wq_stA hm); exact rfl; infer_instance; exact rfl; exact rfl; (focus ((repeat (first | exact .hd | assumption | apply Swap.tl | apply Swap.app)); done)); (exact HST.out); (exact (by simp [lW])); (exact (by rw [lC]; omega)); (exact (one_map _)); clear hm; intro w hm)) | ((with_reducible apply wq_bs2 hm (bs_run2 X1 Y l10 l4 _)); exact rfl; exact rfl; exact rfl; clear hm; intro gq w hm) | (go_at_call 31; (with_reducible refine (D5.out _ _ _ (Nat.le_refl 2) (hm.rdK (by repeat (first | exact Has.hd | assumption | apply Has.tl | apply Has.app)) k5.out)).mono ?_); rintro e_ w ⟨rfl, hx_⟩; replace hm := hm.ext hx_; clear hx_) | ((with_reducible show qLd); first | ((with_reducible apply wq_ldW hm); exact rfl; infer_instance; exact rfl; (focus ((repeat (first | exact .hd | assumption | apply Has.tl | apply Has.app)); done)); (focus (first | rfl | omega | (simp; done) | (simp; omega))))) | ((((with_reducible show qSt); first | ((with_reducible apply wq_stW hm); exact rfl; infer_instance; exact rfl; exact rfl; (focus ((repeat (first | exact .hd | assumption | apply Swap.tl | apply Swap.app)); done)); (focus (first | rfl | omega | (simp; done) | (simp; omega))); (focus (first | rfl | omega | (simp; done) | (simp; omega))); (focus (first | exact one_map _ | (simp [one8, one32, one64]; done)))))); clear hm; intro w hm))
     go_roundw
     case rel => exact ⟨k + 1, by omega, by go_num, by rw [hX, hQ]; exact hm.drop.drop.drop.drop.drop⟩
     case measure => simp [intOf] <;> omega
   · obtain rfl : k = n := by omega
     have hd : decide ((k : Int) < (k : Int)) = false := decide_eq_false (by omega)
     have hz2 : glueF (fsF F z ps) k ++ ps.drop (32 * k) = glueF (fsF F z ps) k := by rw [List.drop_eq_nil_of_le (by rw [HPS.out]; omega), List.append_nil]
     rw [hz2] at hm
     have l7 := LS.out k
     go_wp2_with (first | ((with_reducible show qLd); first | ((with_reducible apply wq_ldW hm); exact rfl; infer_instance; exact rfl; (focus ((repeat (first | exact .hd | assumption | apply Has.tl | apply Has.app)); done)); (focus (first | rfl | omega | (simp; done) | (simp; omega))))) | ((((with_reducible show qSt); first | ((with_reducible apply wq_stW hm); exact rfl; infer_instance; exact rfl; exact rfl; (focus ((repeat (first | exact .hd | assumption | apply Swap.tl | apply Swap.app)); done)); (focus (first | rfl | omega | (simp; done) | (simp; omega))); (focus (first | rfl | omega | (simp; done) | (simp; omega))); (focus (first | exact one_map _ | (simp [one8, one32, one64]; done)))))); clear hm; intro w hm))
     refine ret_own hm rfl rfl (by infer_instance) (by repeat (first | exact Has.hd | assumption | apply Has.tl | apply Has.app)) (by first | rfl | omega | (simp only [zeros_length, zer_length, tab_length, part_length, setN_length, List.length_map, List.length_cons, List.length_nil, List.length_append, List.length_take, List.length_drop, List.length_replicate, blk_length, putL_length] <;> omega)) rfl ?_
     exact ⟨rfl, hm.drop.drop.drop.drop⟩
end Go.Proofs.YtaijfigohlkccaaGreatDoor
