/-
  Layer 6: the document's parts. No conditions beyond those written in each theorem.
-/
import Derived.Test.YtaijfigohlkccaaGreatDoorZCoreTurns0
import Derived.Test.YtaijfigohlkccaaGreatDoorZCoreTurns7
set_option linter.unusedSimpArgs false
set_option linter.unusedVariables false
namespace Go.Proofs.YtaijfigohlkccaaGreatDoor
open Go Go.RowKit
set_option maxRecDepth 100000
theorem right_any (x : BitVec 64) (n : Nat) (m : Int) (hm : m = (n : Int)) (h0 : 0 < n) (h1 : n ≤ 63) (w : World) : Gives Tryz.prog 116 #[v64 x, .int .u64 m] w (v64 (rotr x n)) := by
 subst hm
 refine .of_same ?_
 obtain ⟨q, hq⟩ : ∃ q : Nat, 64 - n = q := ⟨_, rfl⟩
 have hw : IntKind.u64.wrap (64 - (n : Int)) = (q : Int) := by
   have := (neg_mask n h0 h1).2
   rw [show (64 : Int) - (n : Int) = (q : Int) from by omega]
   exact IntWalk.u64_in _ (by omega)
 have hs : (64 : Int) - (n : Int) = (q : Int) := by omega
 have E := Lib.hid (show rotr x n = (x >>> n) ||| (x <<< q) by rw [rotr, hq, BitVec.or_comm])
 have hn63 : (n : Int) ≤ 63 := by omega
 clear hq
 go_enter Tryz.func116, Tryz.ntmps116
 go_wp2
 go_ret
 exact ⟨by rw [E.out]; rfl, rfl⟩
def stirR (v : List (BitVec 64)) (a b c d : Nat) (x y : BitVec 64) : List (BitVec 64) := halfL (halfL v a b c d x 32 24) a b c d y 16 63
theorem stirR_length (v : List (BitVec 64)) (a b c d : Nat) (x y : BitVec 64) : (stirR v a b c d x y).length = v.length := by rw [stirR, halfL_length, halfL_length]
set_option maxHeartbeats 4000000 in
theorem stirred_any (l : List (BitVec 64)) (a b c d : Nat) (a' b' c' d' : Int) (x y : BitVec 64) (hl : l.length = 16) (ea : a' = a) (eb : b' = b) (ec : c' = c) (ed : d' = d) (ha : a < 16) (hb : b < 16) (hc : c < 16) (hd : d < 16) (w0 : World) :
   Gives Tryz.prog 101 #[A64 l, .int .i64 a', .int .i64 b', .int .i64 c', .int .i64 d', v64 x, v64 y] w0 (A64 (stirR l a b c d x y)) := by
 unfold Gives
 subst ea eb ec ed
 have hm := Own.start w0
 have lR : (stirR l a b c d x y).length = 16 := by rw [stirR_length, hl]
 have HE := Lib.hid (show half2 (half3 (half2 (half1 (half2 (half3 (half2 (half1 l a b x) a d 32) c d) c b 24) a b y) a d 16) c d) c b 63 = stirR l a b c d x y from rfl)
 have l1 : (half1 l a b x).length = 16 := by simp [half1, hl]
 have l2 : (half2 (half1 l a b x) a d 32).length = 16 := by simp [half1, half2, hl]
 have l3 : (half3 (half2 (half1 l a b x) a d 32) c d).length = 16 := by simp [half1, half2, half3, hl]
 have l4 : (half2 (half3 (half2 (half1 l a b x) a d 32) c d) c b 24).length = 16 := by simp [half1, half2, half3, hl]
 have l5 : (half1 (half2 (half3 (half2 (half1 l a b x) a d 32) c d) c b 24) a b y).length = 16 := by simp [half1, half2, half3, hl]
 have l6 : (half2 (half1 (half2 (half3 (half2 (half1 l a b x) a d 32) c d) c b 24) a b y) a d 16).length = 16 := by simp [half1, half2, half3, hl]
 have l7 : (half3 (half2 (half1 (half2 (half3 (half2 (half1 l a b x) a d 32) c d) c b 24) a b y) a d 16) c d).length = 16 := by simp [half1, half2, half3, hl]
 generalize stirR l a b c d x y = Z at *
 have lZ := lR
 have ai : (a : Int) < 16 := by omega
 have bi : (b : Int) < 16 := by omega
 have ci : (c : Int) < 16 := by omega
 have di : (d : Int) < 16 := by omega
 have D1 := Lib.hid fun y wx => right_any y 32 32 rfl (by omega) (by omega) wx
 have D2 := Lib.hid fun y wx => right_any y 24 24 rfl (by omega) (by omega) wx
 have D3 := Lib.hid fun y wx => right_any y 16 16 rfl (by omega) (by omega) wx
 have D4 := Lib.hid fun y wx => right_any y 63 63 rfl (by omega) (by omega) wx
 have hl1 := Nat.le_of_eq hl
 have hl2 := Nat.le_of_eq hl.symm
 clear hl lR
 go_enter Tryz.func101, Tryz.ntmps101
 go_wp2_with (first | ((first | ((with_reducible show qAl); first | ((with_reducible apply wq_new hm); exact rfl; infer_instance)) | ((with_reducible show qBx); first | ((with_reducible apply wq_boxN hm); exact rfl; exact rfl))); clear hm; (first | (have hx_ := g1; clear hx_; (first | (have hx_ := g2; clear hx_; intro gx_) | intro g2)) | intro g1); intro w hm))
 refine region_at 11 (fun w' => Ext _ w') 96 (by kernel_rfl) (by kernel_rfl) rfl (fun _ _ h k => h.trans k) (drew_ext _) ?_
 simp only [tSC, List.take_zero, dSC, List.drop_zero, List.map_cons, List.map_nil]
 repeat (first
     | (apply walk_is rfl rfl rfl
        · (intro wx hwx; first | ((with_reducible show gives _ _ _ (Sem.run _ (execOp _ (Oper.mk _ (Op.load _ _) _ _ _ _)) _)); first | ((with_reducible apply gq_ldv (hm.ext hwx)); infer_instance; exact rfl; (focus (repeat first | exact .hd | assumption | apply Has.tl); done); (focus (first | omega | (simp; omega) | (refine ltB ?_; first | omega | (simp; done) | (simp; omega))))) | ((with_reducible apply gq_ldW (hm.ext hwx)); infer_instance; exact rfl; (focus (repeat first | exact .hd | assumption | apply Has.tl); done); (focus (first | rfl | omega | (simp; done) | (simp; omega)))) | ((with_reducible apply gq_ld1 (hm.ext hwx)); infer_instance; exact rfl; (focus (repeat first | exact .hd | assumption | apply Has.tl); done); exact rfl)) | (go_simp; (try go_bits); first | exact gives_same | exact gives_skip))
        · (simp only [Act.put, sIB, sCS, sCZ]; rfl))
     | (apply walk_not rfl rfl rfl
        · (simp only [Act.put, sIB, sCS, sCZ]; rfl)))
 intro wz hwz
 simp only [zCC, zNR]
 repeat (first | rw [fin_is] | (rw [fin_cons]; intro _ _))
 rw [fin_nil]
 try (replace hm := hm.ext hwz)
 simp only [Act.put, sIB, sCS, sCZ]
 go_wp2_with (first | ((((with_reducible show qSt); first | ((with_reducible apply wq_stv hm); exact rfl; infer_instance; exact rfl; (focus (repeat first | exact .hd | assumption | apply Swap.tl); done); infer_instance; exact rfl; (focus (first | omega | (simp; omega) | (refine ltB ?_; first | omega | (simp; done) | (simp; omega))))))); clear hm; intro w hm))
 rw [BitVec.add_assoc] at hm
 replace hm : Own w0 w [⟨g2, 147, (zer (n := 64) 16).map v64⟩, ⟨g1, 147, (half1 l a b x).map v64⟩] := hm
 generalize half1 l a b x = v1 at *
 refine region_at 10 (fun w' => Ext _ w') 96 (by kernel_rfl) (by kernel_rfl) rfl (fun _ _ h k => h.trans k) (drew_ext _) ?_
 simp only [tSC, List.take_zero, dSC, List.drop_zero, List.map_cons, List.map_nil]
 repeat (first
     | (apply walk_is rfl rfl rfl
        · (intro wx hwx; first | ((with_reducible show gives _ _ _ (Sem.run _ (execOp _ (Oper.mk _ (Op.load _ _) _ _ _ _)) _)); first | ((with_reducible apply gq_ldv (hm.ext hwx)); infer_instance; exact rfl; (focus (repeat first | exact .hd | assumption | apply Has.tl); done); (focus (first | omega | (simp; omega) | (refine ltB ?_; first | omega | (simp; done) | (simp; omega))))) | ((with_reducible apply gq_ldW (hm.ext hwx)); infer_instance; exact rfl; (focus (repeat first | exact .hd | assumption | apply Has.tl); done); (focus (first | rfl | omega | (simp; done) | (simp; omega)))) | ((with_reducible apply gq_ld1 (hm.ext hwx)); infer_instance; exact rfl; (focus (repeat first | exact .hd | assumption | apply Has.tl); done); exact rfl)) | (go_simp; (try go_bits); first | exact gives_same | exact gives_skip | with_reducible exact gives_call (D1.out _ wx)))
        · (simp only [Act.put, sIB, sCS, sCZ]; rfl))
     | (apply walk_not rfl rfl rfl
        · (simp only [Act.put, sIB, sCS, sCZ]; rfl)))
 intro wz hwz
 simp only [zCC, zNR]
 repeat (first | rw [fin_is] | (rw [fin_cons]; intro _ _))
 rw [fin_nil]
 try (replace hm := hm.ext hwz)
 simp only [Act.put, sIB, sCS, sCZ]
 go_wp2_with (first | ((((with_reducible show qSt); first | ((with_reducible apply wq_stv hm); exact rfl; infer_instance; exact rfl; (focus (repeat first | exact .hd | assumption | apply Swap.tl); done); infer_instance; exact rfl; (focus (first | omega | (simp; omega) | (refine ltB ?_; first | omega | (simp; done) | (simp; omega))))))); clear hm; intro w hm))
 replace hm : Own w0 w [⟨g2, 147, (zer (n := 64) 16).map v64⟩, ⟨g1, 147, (half2 v1 a d 32).map v64⟩] := hm
 generalize half2 v1 a d 32 = v2 at *
 refine region_at 9 (fun w' => Ext _ w') 96 (by kernel_rfl) (by kernel_rfl) rfl (fun _ _ h k => h.trans k) (drew_ext _) ?_
 simp only [tSC, List.take_zero, dSC, List.drop_zero, List.map_cons, List.map_nil]
 repeat (first
     | (apply walk_is rfl rfl rfl
        · (intro wx hwx; first | ((with_reducible show gives _ _ _ (Sem.run _ (execOp _ (Oper.mk _ (Op.load _ _) _ _ _ _)) _)); first | ((with_reducible apply gq_ldv (hm.ext hwx)); infer_instance; exact rfl; (focus (repeat first | exact .hd | assumption | apply Has.tl); done); (focus (first | omega | (simp; omega) | (refine ltB ?_; first | omega | (simp; done) | (simp; omega))))) | ((with_reducible apply gq_ldW (hm.ext hwx)); infer_instance; exact rfl; (focus (repeat first | exact .hd | assumption | apply Has.tl); done); (focus (first | rfl | omega | (simp; done) | (simp; omega)))) | ((with_reducible apply gq_ld1 (hm.ext hwx)); infer_instance; exact rfl; (focus (repeat first | exact .hd | assumption | apply Has.tl); done); exact rfl)) | (go_simp; (try go_bits); first | exact gives_same | exact gives_skip))
        · (simp only [Act.put, sIB, sCS, sCZ]; rfl))
     | (apply walk_not rfl rfl rfl
        · (simp only [Act.put, sIB, sCS, sCZ]; rfl)))
 intro wz hwz
 simp only [zCC, zNR]
 repeat (first | rw [fin_is] | (rw [fin_cons]; intro _ _))
 rw [fin_nil]
 try (replace hm := hm.ext hwz)
 simp only [Act.put, sIB, sCS, sCZ]
 go_wp2_with (first | ((((with_reducible show qSt); first | ((with_reducible apply wq_stv hm); exact rfl; infer_instance; exact rfl; (focus (repeat first | exact .hd | assumption | apply Swap.tl); done); infer_instance; exact rfl; (focus (first | omega | (simp; omega) | (refine ltB ?_; first | omega | (simp; done) | (simp; omega))))))); clear hm; intro w hm))
 replace hm : Own w0 w [⟨g2, 147, (zer (n := 64) 16).map v64⟩, ⟨g1, 147, (half3 v2 c d).map v64⟩] := hm
 generalize half3 v2 c d = v3 at *
 refine region_at 10 (fun w' => Ext _ w') 96 (by kernel_rfl) (by kernel_rfl) rfl (fun _ _ h k => h.trans k) (drew_ext _) ?_
 simp only [tSC, List.take_zero, dSC, List.drop_zero, List.map_cons, List.map_nil]
 repeat (first
     | (apply walk_is rfl rfl rfl
        · (intro wx hwx; first | ((with_reducible show gives _ _ _ (Sem.run _ (execOp _ (Oper.mk _ (Op.load _ _) _ _ _ _)) _)); first | ((with_reducible apply gq_ldv (hm.ext hwx)); infer_instance; exact rfl; (focus (repeat first | exact .hd | assumption | apply Has.tl); done); (focus (first | omega | (simp; omega) | (refine ltB ?_; first | omega | (simp; done) | (simp; omega))))) | ((with_reducible apply gq_ldW (hm.ext hwx)); infer_instance; exact rfl; (focus (repeat first | exact .hd | assumption | apply Has.tl); done); (focus (first | rfl | omega | (simp; done) | (simp; omega)))) | ((with_reducible apply gq_ld1 (hm.ext hwx)); infer_instance; exact rfl; (focus (repeat first | exact .hd | assumption | apply Has.tl); done); exact rfl)) | (go_simp; (try go_bits); first | exact gives_same | exact gives_skip | with_reducible exact gives_call (D2.out _ wx)))
        · (simp only [Act.put, sIB, sCS, sCZ]; rfl))
     | (apply walk_not rfl rfl rfl
        · (simp only [Act.put, sIB, sCS, sCZ]; rfl)))
 intro wz hwz
 simp only [zCC, zNR]
 repeat (first | rw [fin_is] | (rw [fin_cons]; intro _ _))
 rw [fin_nil]
 try (replace hm := hm.ext hwz)
 simp only [Act.put, sIB, sCS, sCZ]
 go_wp2_with (first | ((((with_reducible show qSt); first | ((with_reducible apply wq_stv hm); exact rfl; infer_instance; exact rfl; (focus (repeat first | exact .hd | assumption | apply Swap.tl); done); infer_instance; exact rfl; (focus (first | omega | (simp; omega) | (refine ltB ?_; first | omega | (simp; done) | (simp; omega))))))); clear hm; intro w hm))
 replace hm : Own w0 w [⟨g2, 147, (zer (n := 64) 16).map v64⟩, ⟨g1, 147, (half2 v3 c b 24).map v64⟩] := hm
 generalize half2 v3 c b 24 = v4 at *
 refine region_at 11 (fun w' => Ext _ w') 96 (by kernel_rfl) (by kernel_rfl) rfl (fun _ _ h k => h.trans k) (drew_ext _) ?_
 simp only [tSC, List.take_zero, dSC, List.drop_zero, List.map_cons, List.map_nil]
 repeat (first
     | (apply walk_is rfl rfl rfl
        · (intro wx hwx; first | ((with_reducible show gives _ _ _ (Sem.run _ (execOp _ (Oper.mk _ (Op.load _ _) _ _ _ _)) _)); first | ((with_reducible apply gq_ldv (hm.ext hwx)); infer_instance; exact rfl; (focus (repeat first | exact .hd | assumption | apply Has.tl); done); (focus (first | omega | (simp; omega) | (refine ltB ?_; first | omega | (simp; done) | (simp; omega))))) | ((with_reducible apply gq_ldW (hm.ext hwx)); infer_instance; exact rfl; (focus (repeat first | exact .hd | assumption | apply Has.tl); done); (focus (first | rfl | omega | (simp; done) | (simp; omega)))) | ((with_reducible apply gq_ld1 (hm.ext hwx)); infer_instance; exact rfl; (focus (repeat first | exact .hd | assumption | apply Has.tl); done); exact rfl)) | (go_simp; (try go_bits); first | exact gives_same | exact gives_skip))
        · (simp only [Act.put, sIB, sCS, sCZ]; rfl))
     | (apply walk_not rfl rfl rfl
        · (simp only [Act.put, sIB, sCS, sCZ]; rfl)))
 intro wz hwz
 simp only [zCC, zNR]
 repeat (first | rw [fin_is] | (rw [fin_cons]; intro _ _))
 rw [fin_nil]
 try (replace hm := hm.ext hwz)
 simp only [Act.put, sIB, sCS, sCZ]
 go_wp2_with (first | ((((with_reducible show qSt); first | ((with_reducible apply wq_stv hm); exact rfl; infer_instance; exact rfl; (focus (repeat first | exact .hd | assumption | apply Swap.tl); done); infer_instance; exact rfl; (focus (first | omega | (simp; omega) | (refine ltB ?_; first | omega | (simp; done) | (simp; omega))))))); clear hm; intro w hm))
 rw [BitVec.add_assoc] at hm
 replace hm : Own w0 w [⟨g2, 147, (zer (n := 64) 16).map v64⟩, ⟨g1, 147, (half1 v4 a b y).map v64⟩] := hm
 generalize half1 v4 a b y = v5 at *
 refine region_at 10 (fun w' => Ext _ w') 96 (by kernel_rfl) (by kernel_rfl) rfl (fun _ _ h k => h.trans k) (drew_ext _) ?_
 simp only [tSC, List.take_zero, dSC, List.drop_zero, List.map_cons, List.map_nil]
 repeat (first
     | (apply walk_is rfl rfl rfl
        · (intro wx hwx; first | ((with_reducible show gives _ _ _ (Sem.run _ (execOp _ (Oper.mk _ (Op.load _ _) _ _ _ _)) _)); first | ((with_reducible apply gq_ldv (hm.ext hwx)); infer_instance; exact rfl; (focus (repeat first | exact .hd | assumption | apply Has.tl); done); (focus (first | omega | (simp; omega) | (refine ltB ?_; first | omega | (simp; done) | (simp; omega))))) | ((with_reducible apply gq_ldW (hm.ext hwx)); infer_instance; exact rfl; (focus (repeat first | exact .hd | assumption | apply Has.tl); done); (focus (first | rfl | omega | (simp; done) | (simp; omega)))) | ((with_reducible apply gq_ld1 (hm.ext hwx)); infer_instance; exact rfl; (focus (repeat first | exact .hd | assumption | apply Has.tl); done); exact rfl)) | (go_simp; (try go_bits); first | exact gives_same | exact gives_skip | with_reducible exact gives_call (D3.out _ wx)))
        · (simp only [Act.put, sIB, sCS, sCZ]; rfl))
     | (apply walk_not rfl rfl rfl
        · (simp only [Act.put, sIB, sCS, sCZ]; rfl)))
 intro wz hwz
 simp only [zCC, zNR]
 repeat (first | rw [fin_is] | (rw [fin_cons]; intro _ _))
 rw [fin_nil]
 try (replace hm := hm.ext hwz)
 simp only [Act.put, sIB, sCS, sCZ]
 go_wp2_with (first | ((((with_reducible show qSt); first | ((with_reducible apply wq_stv hm); exact rfl; infer_instance; exact rfl; (focus (repeat first | exact .hd | assumption | apply Swap.tl); done); infer_instance; exact rfl; (focus (first | omega | (simp; omega) | (refine ltB ?_; first | omega | (simp; done) | (simp; omega))))))); clear hm; intro w hm))
 replace hm : Own w0 w [⟨g2, 147, (zer (n := 64) 16).map v64⟩, ⟨g1, 147, (half2 v5 a d 16).map v64⟩] := hm
 generalize half2 v5 a d 16 = v6 at *
 refine region_at 9 (fun w' => Ext _ w') 96 (by kernel_rfl) (by kernel_rfl) rfl (fun _ _ h k => h.trans k) (drew_ext _) ?_
 simp only [tSC, List.take_zero, dSC, List.drop_zero, List.map_cons, List.map_nil]
 repeat (first
     | (apply walk_is rfl rfl rfl
        · (intro wx hwx; first | ((with_reducible show gives _ _ _ (Sem.run _ (execOp _ (Oper.mk _ (Op.load _ _) _ _ _ _)) _)); first | ((with_reducible apply gq_ldv (hm.ext hwx)); infer_instance; exact rfl; (focus (repeat first | exact .hd | assumption | apply Has.tl); done); (focus (first | omega | (simp; omega) | (refine ltB ?_; first | omega | (simp; done) | (simp; omega))))) | ((with_reducible apply gq_ldW (hm.ext hwx)); infer_instance; exact rfl; (focus (repeat first | exact .hd | assumption | apply Has.tl); done); (focus (first | rfl | omega | (simp; done) | (simp; omega)))) | ((with_reducible apply gq_ld1 (hm.ext hwx)); infer_instance; exact rfl; (focus (repeat first | exact .hd | assumption | apply Has.tl); done); exact rfl)) | (go_simp; (try go_bits); first | exact gives_same | exact gives_skip))
        · (simp only [Act.put, sIB, sCS, sCZ]; rfl))
     | (apply walk_not rfl rfl rfl
        · (simp only [Act.put, sIB, sCS, sCZ]; rfl)))
 intro wz hwz
 simp only [zCC, zNR]
 repeat (first | rw [fin_is] | (rw [fin_cons]; intro _ _))
 rw [fin_nil]
 try (replace hm := hm.ext hwz)
 simp only [Act.put, sIB, sCS, sCZ]
 go_wp2_with (first | ((((with_reducible show qSt); first | ((with_reducible apply wq_stv hm); exact rfl; infer_instance; exact rfl; (focus (repeat first | exact .hd | assumption | apply Swap.tl); done); infer_instance; exact rfl; (focus (first | omega | (simp; omega) | (refine ltB ?_; first | omega | (simp; done) | (simp; omega))))))); clear hm; intro w hm))
 replace hm : Own w0 w [⟨g2, 147, (zer (n := 64) 16).map v64⟩, ⟨g1, 147, (half3 v6 c d).map v64⟩] := hm
 generalize half3 v6 c d = v7 at *
 refine region_at 10 (fun w' => Ext _ w') 96 (by kernel_rfl) (by kernel_rfl) rfl (fun _ _ h k => h.trans k) (drew_ext _) ?_
 simp only [tSC, List.take_zero, dSC, List.drop_zero, List.map_cons, List.map_nil]
 repeat (first
     | (apply walk_is rfl rfl rfl
        · (intro wx hwx; first | ((with_reducible show gives _ _ _ (Sem.run _ (execOp _ (Oper.mk _ (Op.load _ _) _ _ _ _)) _)); first | ((with_reducible apply gq_ldv (hm.ext hwx)); infer_instance; exact rfl; (focus (repeat first | exact .hd | assumption | apply Has.tl); done); (focus (first | omega | (simp; omega) | (refine ltB ?_; first | omega | (simp; done) | (simp; omega))))) | ((with_reducible apply gq_ldW (hm.ext hwx)); infer_instance; exact rfl; (focus (repeat first | exact .hd | assumption | apply Has.tl); done); (focus (first | rfl | omega | (simp; done) | (simp; omega)))) | ((with_reducible apply gq_ld1 (hm.ext hwx)); infer_instance; exact rfl; (focus (repeat first | exact .hd | assumption | apply Has.tl); done); exact rfl)) | (go_simp; (try go_bits); first | exact gives_same | exact gives_skip | with_reducible exact gives_call (D4.out _ wx)))
        · (simp only [Act.put, sIB, sCS, sCZ]; rfl))
     | (apply walk_not rfl rfl rfl
        · (simp only [Act.put, sIB, sCS, sCZ]; rfl)))
 intro wz hwz
 simp only [zCC, zNR]
 repeat (first | rw [fin_is] | (rw [fin_cons]; intro _ _))
 rw [fin_nil]
 try (replace hm := hm.ext hwz)
 simp only [Act.put, sIB, sCS, sCZ]
 go_wp2_with (first | ((with_reducible show qLd); first | ((with_reducible apply wq_ldW hm); exact rfl; infer_instance; exact rfl; (focus (repeat first | exact .hd | assumption | apply Has.tl); done); (focus (first | rfl | omega | (simp; done) | (simp; omega))))) | ((((with_reducible show qSt); first | ((with_reducible apply wq_stv hm); exact rfl; infer_instance; exact rfl; (focus (repeat first | exact .hd | assumption | apply Swap.tl); done); infer_instance; exact rfl; (focus (first | omega | (simp; omega) | (refine ltB ?_; first | omega | (simp; done) | (simp; omega))))) | ((with_reducible apply wq_stW hm); exact rfl; infer_instance; exact rfl; exact rfl; (focus (repeat first | exact .hd | assumption | apply Swap.tl); done); (focus (first | rfl | omega | (simp; done) | (simp; omega))); (focus (first | rfl | omega | (simp; done) | (simp; omega))); (focus (first | exact one_map _ | (simp [one8, one32, one64]; done)))))); clear hm; intro w hm))
 rw [show setN v7 b (rotr (nth v7 b ^^^ nth v7 c) 63) = half2 v7 c b 63 from rfl, HE.out] at hm
 refine ret_own hm rfl rfl (by infer_instance) (by repeat (first | exact Has.hd | assumption | apply Has.tl)) (by first | rfl | omega | (simp only [zeros_length, zer_length, tab_length, part_length, setN_length, List.length_map, List.length_cons, List.length_nil, List.length_append, List.length_take, List.length_drop, List.length_replicate, blk_length, putL_length] <;> omega)) rfl ⟨rfl, hm.x⟩
theorem rfirst_any (w0 : World) : Gives Tryz.prog 75 #[] w0 (A64 firstL) := by
 unfold Gives
 have hm := Own.start w0
 go_enter Tryz.func75, Tryz.ntmps75
 go_wp2_with (first | ((with_reducible apply wq_stW (cs' := firstL.map v64) hm); exact rfl; infer_instance; exact rfl; exact rfl; (focus (repeat first | exact .hd | assumption | apply Swap.tl); done); exact rfl; (first | rfl | (simp; done)); exact one_map _; clear hm; intro w hm) | ((first | ((with_reducible show qAl); first | ((with_reducible apply wq_new hm); exact rfl; infer_instance))); clear hm; intro gx_; intro w hm))
 refine ret_own hm rfl rfl (by infer_instance) (by repeat (first | exact Has.hd | assumption | apply Has.tl)) (by first | rfl | omega | (simp only [zeros_length, zer_length, tab_length, part_length, setN_length, List.length_map, List.length_cons, List.length_nil, List.length_append, List.length_take, List.length_drop, List.length_replicate, blk_length, putL_length] <;> omega)) rfl ⟨rfl, hm.x⟩
def vI (x : Byte) : Value := .int .i64 (x.toNat : Int)
abbrev AI (l : List Byte) : Value := .agg (l.map vI).toArray
theorem one_vI (l : List Byte) : ∀ v ∈ l.map vI, v.oneCell' = true := by
 intro v hv; obtain ⟨x, _, rfl⟩ := List.mem_map.1 hv; rfl
set_option maxHeartbeats 4000000 in
theorem rrow_any (r q : Nat) (hq : r % 10 = q) (hr : r ≤ 100) (w0 : World) : Gives Tryz.prog 100 #[.int .i64 r] w0 (AI (rowL q)) := by
 unfold Gives
 have hm := Own.start w0
 obtain ⟨Q, hQ⟩ : ∃ Q, rowL q = Q := ⟨_, rfl⟩
 have RQ := Lib.hid hQ
 have lQ : (Q.map vI).length = 16 := by rw [← hQ, List.length_map]; exact rowL_length q
 rw [hQ]
 have hr0 : (0 : Int) ≤ (r : Int) := by omega
 have b0 : q < 10 := by omega
 clear hQ
 rcases (show (q = 0 ∧ (r : Int) % 10 = 0) ∨ (q = 1 ∧ (r : Int) % 10 = 1) ∨ (q = 2 ∧ (r : Int) % 10 = 2) ∨ (q = 3 ∧ (r : Int) % 10 = 3) ∨ (q = 4 ∧ (r : Int) % 10 = 4) ∨ (q = 5 ∧ (r : Int) % 10 = 5) ∨ (q = 6 ∧ (r : Int) % 10 = 6) ∨ (q = 7 ∧ (r : Int) % 10 = 7) ∨ (q = 8 ∧ (r : Int) % 10 = 8) ∨ (q = 9 ∧ (r : Int) % 10 = 9) by omega) with ⟨rfl, a1⟩ | ⟨rfl, a1⟩ | ⟨rfl, a1⟩ | ⟨rfl, a1⟩ | ⟨rfl, a1⟩ | ⟨rfl, a1⟩ | ⟨rfl, a1⟩ | ⟨rfl, a1⟩ | ⟨rfl, a1⟩ | ⟨rfl, a1⟩
 all_goals
   have a2 := (Int.tmod_eq_emod_of_nonneg (b := 10) hr0).trans a1
   clear hq
   go_enter Tryz.func100, Tryz.ntmps100
   go_wp2_with (first | ((with_reducible apply wq_stW (cs' := Q.map vI) hm); exact rfl; infer_instance; exact rfl; exact (by rw [← RQ.out]; rfl); (focus (repeat first | exact .hd | assumption | apply Swap.tl); done); exact lQ; (first | rfl | (simp; done)); exact one_vI _; clear hm; intro w hm) | ((first | ((with_reducible show qAl); first | ((with_reducible apply wq_new hm); exact rfl; infer_instance))); clear hm; intro gx_; intro w hm))
   refine ret_own hm rfl rfl (by infer_instance) (by repeat (first | exact Has.hd | assumption | apply Has.tl)) lQ rfl ⟨rfl, hm.x⟩
end Go.Proofs.YtaijfigohlkccaaGreatDoor
