/-
  Layer 16: the sum of two blocks, and what a string brings. Conditions: those written in each theorem.
  Layer 16, plain: a string and its rest, two last strings, blocks of a row's bytes. No program in sight, no conditions.
  Slices of none and of one cell, built, as blocks of the call's own. No conditions beyond those written in each theorem.
  Layer 14: a cut of a message, in whole numbers that are written as floats. Conditions: those written in each theorem.
  Layer 20, plain: a message turned one way and the other way, on lists of bytes. No program in sight, no conditions.
-/
import Derived.Test.YtaijfigohlkccaaGreatDoorZCoreTurns0
import Derived.Test.YtaijfigohlkccaaGreatDoorZCoreTurns8
import Derived.Test.YtaijfigohlkccaaGreatDoorZCoreTurns13
import Derived.Test.YtaijfigohlkccaaGreatDoorZCoreTurns6
import Derived.Test.YtaijfigohlkccaaGreatDoorZCoreTurns5
set_option linter.unusedSimpArgs false
set_option linter.unusedVariables false
namespace Go.Proofs.YtaijfigohlkccaaGreatDoor
open Go Go.RowKit
set_option maxRecDepth 100000
theorem blk_xor (a b : List Byte) (ha : a.length = 16) (hb : b.length = 16) : blk (xorL a b) = bothL a b := by
 have lX : (xorL a b).length = 16 := by rw [xorL_length, ha, hb]; rfl
 refine nth_ext (by rw [blk_length, bothL_length]) fun i hi => ?_
 rw [blk_length] at hi
 rw [bothL_nth _ _ _ hi, blk_nth _ _ hi]
 exact xorL_getD a b i (by rw [lX]; exact hi)
set_option maxHeartbeats 2000000 in
theorem hplus_any (a b : List Byte) (ha : a.length = 16) (hb : b.length = 16) (w0 : World) : Gives Tryz.prog 65 #[A8 a, A8 b] w0 (A8 (bothL a b)) := by
 unfold Gives
 have hm := Own.start w0
 have C1 := Lib.hid fun (w wx : World) (p q : Option Addr) (h1 : RdB wx p a) (h2 : RdB wx q b) => by
   have h := xor_any a b p q 16 16 wx h1 h2 (by omega) (by omega)
   rw [ha, hb] at h; exact h
 have eX := blk_xor a b ha hb
 have C2 := Lib.hid fun (wx : World) (p : Option Addr) (c : Nat) (h : RdB wx p (xorL a b)) => eX ▸ oblock_any (xorL a b) p c wx h
 have lZ : (bothL a b).length = 16 := bothL_length _ _
 generalize bothL a b = Z at *
 generalize xorL a b = X at *
 have ha1 := Nat.le_of_eq ha
 have ha2 := Nat.le_of_eq ha.symm
 have hb1 := Nat.le_of_eq hb
 have hb2 := Nat.le_of_eq hb.symm
 clear eX
 go_enter Tryz.func65, Tryz.ntmps65
 go_wp2_with (first | ((first | ((with_reducible show qAl); first | ((with_reducible apply wq_new hm); exact rfl; infer_instance)) | ((with_reducible show qBx); first | ((with_reducible apply wq_boxN hm); exact rfl; exact rfl))); clear hm; (first | (have hx_ := g1; clear hx_; (first | (have hx_ := g2; clear hx_; intro gx_) | intro g2)) | intro g1); intro w hm))
 have c1 := fun wx (hwx : Ext _ wx) => C1.out wx wx _ _ ((hm.ext hwx).rdB (g := g1) (l := a) (by repeat (first | exact Has.hd | assumption | apply Has.tl))) ((hm.ext hwx).rdB (g := g2) (l := b) (by repeat (first | exact Has.hd | assumption | apply Has.tl)))
 refine region_at 4 (fun w' => Ext _ w') 9 (by kernel_rfl) (by kernel_rfl) rfl (fun _ _ h k => h.trans k) (drew_ext _) ?_
 simp only [tSC, List.take_zero, dSC, List.drop_zero, List.map_cons, List.map_nil]
 repeat (first
     | (apply walk_some (BytesS X) 7 (BytesS.stable _) rfl rfl rfl rfl
        · (intro wx hwx; go_simp; with_reducible exact gives_callR (c1 wx hwx)))
     | (apply walk_from (T := [(7, BytesS X)]) rfl rfl
        · (intro wx hwx; simp only [withS]; (rintro x ⟨p, c, rfl, hlc, hb'⟩); refine ⟨rfl, ?_⟩; go_simp; with_reducible exact gives_call (C2.out wx p c hb'))
        · (simp only [Act.put, sIB, sCS, sCZ]; rfl))
     | (apply walk_is rfl rfl rfl
        · (intro wx hwx; first | ((with_reducible show gives _ _ _ (Sem.run _ (execOp _ (Oper.mk _ (Op.load _ _) _ _ _ _)) _)); first | ((with_reducible apply gq_ldv (hm.ext hwx)); infer_instance; exact rfl; (focus (repeat first | exact .hd | assumption | apply Has.tl); done); (focus (first | omega | (simp; omega) | (refine ltB ?_; first | omega | (simp; done) | (simp; omega))))) | ((with_reducible apply gq_ldW (hm.ext hwx)); infer_instance; exact rfl; (focus (repeat first | exact .hd | assumption | apply Has.tl); done); (focus (first | rfl | omega | (simp; done) | (simp; omega)))) | ((with_reducible apply gq_ld1 (hm.ext hwx)); infer_instance; exact rfl; (focus (repeat first | exact .hd | assumption | apply Has.tl); done); exact rfl)) | (go_simp; (try go_bits); first | exact gives_same | exact gives_skip))
        · (simp only [Act.put, sIB, sCS, sCZ]; rfl))
     | (apply walk_not rfl rfl rfl
        · (simp only [Act.put, sIB, sCS, sCZ]; rfl)))
 intro wz hwz
 simp only [zCC, zNR]
 repeat (first | rw [fin_is] | (rw [fin_cons]; intro _ _))
 rw [fin_nil]
 try (replace hm := hm.ext hwz)
 simp only [Act.put, sIB, sCS, sCZ]
 clear c1
 go_wp2_with (first | ((((with_reducible show qSt); first | ((with_reducible apply wq_stW hm); exact rfl; infer_instance; exact rfl; exact rfl; (focus (repeat first | exact .hd | assumption | apply Swap.tl); done); (focus (first | rfl | omega | (simp; done) | (simp; omega))); (focus (first | rfl | omega | (simp; done) | (simp; omega))); (focus (first | exact one_map _ | (simp [one8, one32, one64]; done)))))); clear hm; intro w hm))
 refine ret_own hm rfl rfl (by infer_instance) (by repeat (first | exact Has.hd | assumption | apply Has.tl)) (by first | rfl | omega | (simp only [zeros_length, zer_length, tab_length, part_length, setN_length, List.length_map, List.length_cons, List.length_nil, List.length_append, List.length_take, List.length_drop, List.length_replicate, blk_length, putL_length] <;> omega)) rfl ⟨rfl, hm.x⟩
def slen : Value → Nat
 | .slice _ n _ => n
 | _ => 0
set_option maxHeartbeats 4000000 in
theorem hpart_any (kv : Value) (F : Int → List Byte → List Byte) (hF : ∀ m x, (F m x).length = 16) (j : Int) (b : List Byte) (p : Option Addr) (c : Nat) (w0 : World) (hb : RdB w0 p b) (hc : b.length ≤ c) (hl : b.length ≤ 70368744177000)
   (CE : ∀ wx, Ext w0 wx → ∀ (m : Int) (x : List Byte), x.length = 16 → m ≤ 9223372036854775807 → Gives Tryz.prog 34 #[kv, .int .i64 j, .int .i64 m, A8 x] wx (A8 (F m x))) :
   Gives Tryz.prog 66 #[kv, .int .i64 j, .slice p b.length c] w0 (A8 (partG F b)) := by
 unfold Gives
 have hm := Own.start w0
 have HB := Lib.hid hb
 have HE := Lib.hid CE
 have HF := Lib.hid hF
 have lG := partG_length F b
 have E0 := Lib.hid (partF_length F b)
 -- the rest, with its mark
 have MK := Lib.hid fun (wx : World) (q : Option Addr) (cq : Nat) (n : Nat) (h : RdB wx q (b.drop (16 * n))) => show GivesR Tryz.prog 69 #[.slice q (b.length - 16 * n) cq, .int .u8 128, .int .i64 16] wx (BytesS (marked (b.drop (16 * n)) 128#8 16)) from by
   have := marked_any (b.drop (16 * n)) q cq 128#8 16 wx h (by rw [List.length_drop]; omega) (by omega) (by omega)
   rw [List.length_drop] at this; exact this
 by_cases h0 : b.length = 0
 · have eG : Hid (bothL (zer 16) (F 0 (blk (marked (b.drop (16 * 0)) 128#8 16))) = partG F b) := Lib.hid (by
     have hz : b.length / 16 = 0 := by omega
     rw [partG, if_pos (.inl h0), hz, partF, blk_marked _ (by rw [List.length_drop]; omega)])
   have M1 := fun wx q cq h => MK.out wx q cq 0 h
   rw [h0] at M1
   have B1 := Lib.hid fun (wx : World) (q : Option Addr) (cq : Nat) (h : RdB wx q (marked (b.drop (16 * 0)) 128#8 16)) => oblock_any _ q cq wx h
   have lB := blk_length (marked (b.drop (16 * 0)) 128#8 16)
   have B2 := Lib.hid fun wx hx => HE.out wx hx 0 (blk (marked (b.drop (16 * 0)) 128#8 16)) lB (by omega)
   have l2 := HF.out 0 (blk (marked (b.drop (16 * 0)) 128#8 16))
   have lz : (zer (n := 8) 16).length = 16 := zer_length
   have B3 := Lib.hid fun wx => hplus_any (zer 16) (F 0 (blk (marked (b.drop (16 * 0)) 128#8 16))) lz l2 wx
   rw [eG.out] at B3
   have M2 := Lib.hid M1
   rw [h0]
   generalize F 0 (blk (marked (b.drop (16 * 0)) 128#8 16)) = Y at *
   generalize blk (marked (b.drop (16 * 0)) 128#8 16) = Z at *
   generalize marked (b.drop (16 * 0)) 128#8 16 = M at *
   generalize partG F b = D at *
   have HB0 : Hid (∀ wx, Ext w0 wx → RdB wx p (b.drop (16 * 0))) := Lib.hid fun wx h => HB.out.ext h
   clear M1 h0 hl hc CE hb hF eG
   go_enter Tryz.func66, Tryz.ntmps66
   go_wp2_with (first | ((first | ((with_reducible show qAl); first | ((with_reducible apply wq_new hm); exact rfl; infer_instance))); clear hm; (first | (have hx_ := g1; clear hx_; intro gx_) | intro g1); intro w hm))
   refine wp_scope_goto 0 (fun a_ w_ => ∃ (gb : Nat) (u3 u4 u5 u8 u9 u10 u11 u12 u13 u14 u15 u16 u17 u18 u19 u20 u21 u22 u23 u24 u25 u26 u27 u28 u29 u30 u31 u32 u33 u34 u35 u36 u37 u38 : Value), a_ = { tmps := #[kv, (.int .i64 j), (.slice p 0 c), u3, u4, u5, (.pointer (some ⟨g1, 0, none⟩)), (.pointer (some ⟨gb, 0, none⟩)), u8, u9, u10, u11, u12, u13, u14, u15, u16, u17, u18, u19, u20, u21, u22, u23, u24, u25, u26, u27, u28, u29, u30, u31, u32, u33, u34, u35, u36, u37, u38], defers := [] } ∧ Own w0 w_ [⟨gb, 36, (zer 16).map v8⟩, ⟨g1, 36, (zer 16).map v8⟩]) (fun _ _ => 0) rfl ?_ ?_
   · clear hm
     rintro a' w ⟨gb, u3, u4, u5, u8, u9, u10, u11, u12, u13, u14, u15, u16, u17, u18, u19, u20, u21, u22, u23, u24, u25, u26, u27, u28, u29, u30, u31, u32, u33, u34, u35, u36, u37, u38, rfl, hm⟩
     go_wp2_with fail
     have hx0 := hm.x
     have c1 := fun wx (hwx : Ext w wx) => M2.out wx p c (HB0.out wx (hx0.trans hwx))
     refine region_at 8 (fun w' => Ext _ w') 39 (by kernel_rfl) (by kernel_rfl) rfl (fun _ _ h k => h.trans k) (drew_ext _) ?_
     simp only [tSC, List.take_zero, dSC, List.drop_zero, List.map_cons, List.map_nil]
     repeat (first
         | (apply walk_some (BytesS M) 35 (BytesS.stable _) rfl rfl rfl rfl
            · (intro wx hwx; go_simp; with_reducible exact gives_callR (c1 wx hwx)))
         | (apply walk_from (T := [(35, BytesS M)]) rfl rfl
            · (intro wx hwx; simp only [withS]; (rintro x ⟨q, cq, rfl, hlc, hb'⟩); refine ⟨rfl, ?_⟩; go_simp; with_reducible exact gives_call (B1.out wx q cq hb'))
            · (simp only [Act.put, sIB, sCS, sCZ]; rfl))
         | (apply walk_is rfl rfl rfl
            · (intro wx hwx; first | ((with_reducible show gives _ _ _ (Sem.run _ (execOp _ (Oper.mk _ (Op.load _ _) _ _ _ _)) _)); first | ((with_reducible apply gq_ldv (hm.ext hwx)); infer_instance; exact rfl; (focus (repeat first | exact .hd | assumption | apply Has.tl); done); (focus (first | omega | (simp; omega) | (refine ltB ?_; first | omega | (simp; done) | (simp; omega))))) | ((with_reducible apply gq_ldW (hm.ext hwx)); infer_instance; exact rfl; (focus (repeat first | exact .hd | assumption | apply Has.tl); done); (focus (first | rfl | omega | (simp; done) | (simp; omega)))) | ((with_reducible apply gq_ld1 (hm.ext hwx)); infer_instance; exact rfl; (focus (repeat first | exact .hd | assumption | apply Has.tl); done); exact rfl)) | (go_simp; (try go_bits); first | exact gives_same | exact gives_skip | with_reducible exact gives_call (B2.out wx (hx0.trans hwx)) | with_reducible exact gives_call (B3.out wx)))
            · (simp only [Act.put, sIB, sCS, sCZ]; rfl))
         | (apply walk_not rfl rfl rfl
            · (simp only [Act.put, sIB, sCS, sCZ]; rfl)))
     intro wz hwz
     simp only [zCC, zNR]
     repeat (first | rw [fin_is] | (rw [fin_cons]; intro _ _))
     rw [fin_nil]
     try (replace hm := hm.ext hwz)
     simp only [Act.put, sIB, sCS, sCZ]
     clear c1 hx0
     go_wp2_with (first | ((((with_reducible show qSt); first | ((with_reducible apply wq_stW hm); exact rfl; infer_instance; exact rfl; exact rfl; (focus (repeat first | exact .hd | assumption | apply Swap.tl); done); (focus (first | rfl | omega | (simp; done) | (simp; omega))); (focus (first | rfl | omega | (simp; done) | (simp; omega))); (focus (first | exact one_map _ | (simp [one8, one32, one64]; done)))))); clear hm; intro w hm))
     simp only [Exit.jump]
     refine ret_own hm rfl rfl (by infer_instance) (by repeat (first | exact Has.hd | assumption | apply Has.tl)) (by first | rfl | omega | (simp only [zeros_length, zer_length, tab_length, part_length, setN_length, List.length_map, List.length_cons, List.length_nil, List.length_append, List.length_take, List.length_drop, List.length_replicate, blk_length, putL_length] <;> omega)) rfl ⟨rfl, hm.x⟩
   · intro hp
     go_wp2_with (first | ((first | ((with_reducible show qAl); first | ((with_reducible apply wq_new hm); exact rfl; infer_instance))); clear hm; (first | (have hx_ := g1; clear hx_; intro gx_) | intro g1); intro w hm))
     go_step3
     exact ⟨rfl, ⟨_, _, _, _, _, _, _, _, _, _, _, _, _, _, _, _, _, _, _, _, _, _, _, _, _, _, _, _, _, _, _, _, _, _, _, rfl, hm⟩⟩
 · have hz0 : ((b.length : Int) == 0) = false := by rw [beq_eq_false_iff_ne]; omega
   have HN0 := Lib.hid h0
   clear CE hb hF
   go_enter Tryz.func66, Tryz.ntmps66
   go_wp2_with (first | ((first | ((with_reducible show qAl); first | ((with_reducible apply wq_new hm); exact rfl; infer_instance))); clear hm; (first | (have hx_ := g1; clear hx_; intro gx_) | intro g1); intro w hm))
   refine wp_scope_goto 1 (fun a_ w_ => ∃ (n m cq : Nat) (q : Option Addr) (gb : Nat) (u3 u4 u5 u9 u10 u11 u12 u13 u14 u15 u16 u17 u18 u19 u20 u21 u22 u23 u24 u25 u26 u27 u28 u29 u30 u31 u32 u33 u34 u35 u36 u37 u38 : Value), a_ = { tmps := #[kv, (.int .i64 j), (.slice q m cq), u3, u4, u5, (.pointer (some ⟨g1, 0, none⟩)), (.pointer (some ⟨gb, 0, none⟩)), (.int .i64 (n : Int)), u9, u10, u11, u12, u13, u14, u15, u16, u17, u18, u19, u20, u21, u22, u23, u24, u25, u26, u27, u28, u29, u30, u31, u32, u33, u34, u35, u36, u37, u38], defers := [] } ∧ m = b.length - 16 * n ∧ 16 * n ≤ b.length ∧ m ≤ cq ∧ RdB w0 q (b.drop (16 * n)) ∧ Own w0 w_ [⟨gb, 36, (partF F b n).map v8⟩, ⟨g1, 36, (zer 16).map v8⟩]) (fun a_ _ => slen (a_.tmps.getD 2 undef)) rfl ?_ ?_
   · clear hm
     rintro a' w ⟨n, m, cq, q, gb, u3, u4, u5, u9, u10, u11, u12, u13, u14, u15, u16, u17, u18, u19, u20, u21, u22, u23, u24, u25, u26, u27, u28, u29, u30, u31, u32, u33, u34, u35, u36, u37, u38, rfl, ⟨hmn, hnb, hmc, hrd, hm⟩⟩
     have HRD := Lib.hid hrd
     have HMN := Lib.hid hmn
     have HNB := Lib.hid hnb
     have lP := E0.out n
     by_cases h16 : 16 ≤ m
     · obtain ⟨a, rfl⟩ := Option.isSome_iff_exists.1 (hrd.1 (by rw [List.length_drop]; omega))
       have d1 : decide ((16 : Int) ≤ (m : Int)) = true := decide_eq_true (by omega)
       have d2 : decide ((m : Int) ≥ 16) = true := decide_eq_true (by omega)
       have d3 : (16 : Int) ≤ (m : Int) := by omega
       have B1 := Lib.hid fun (wx : World) (h : RdB wx (some a) (b.drop (16 * n))) => show Gives Tryz.prog 53 #[.slice (some a) m cq] wx (A8 (blk (b.drop (16 * n)))) from by
         have := oblock_any (b.drop (16 * n)) (some a) cq wx h
         rwa [List.length_drop, ← HMN.out] at this
       have lB := blk_length (b.drop (16 * n))
       have B2 := Lib.hid fun wx hx => HE.out wx hx ((n : Int) + 1) (blk (b.drop (16 * n))) lB (by omega)
       have l2 := HF.out ((n : Int) + 1) (blk (b.drop (16 * n)))
       have b3 := fun wx => hplus_any (partF F b n) (F ((n : Int) + 1) (blk (b.drop (16 * n)))) lP l2 wx
       rw [show bothL (partF F b n) (F ((n : Int) + 1) (blk (b.drop (16 * n)))) = partF F b (n + 1) from rfl] at b3
       have B3 := Lib.hid b3
       have lP2 := E0.out (n + 1)
       have w1 : (n : Int) + 1 ≤ 9223372036854775807 := by omega
       have HRX := Lib.hid fun (wx : World) (h : Ext w0 wx) => hrd.ext h
       have AD : a.add 16 = { block := a.block, off := a.off + 16 } := by unfold Addr.add; split <;> first | rfl | omega | (simp_all; done)
       have HD : Hid (RdB w0 (some { block := a.block, off := a.off + 16 }) (b.drop (16 * (n + 1)))) := Lib.hid (by
         have := hrd.drop 16
         rw [AD, List.drop_drop] at this
         rwa [show 16 * (n + 1) = 16 * n + 16 by omega])
       have HD0 : Hid (m = 16 → RdB w0 (some a) (b.drop (16 * (n + 1)))) := Lib.hid fun h => by
         rw [List.drop_eq_nil_of_le (by omega)]; exact RdB.nil _ _
       clear b3 hrd AD hnb
       generalize F ((n : Int) + 1) (blk (b.drop (16 * n))) = Y at *
       generalize blk (b.drop (16 * n)) = Z at *
       generalize hP2 : partF F b (n + 1) = P2 at *
       generalize partF F b n = P1 at *
       have HP2 := Lib.hid hP2
       clear hP2
       by_cases hcq : cq = 16
       · obtain rfl : m = 16 := by omega
         subst hcq
         clear hmn
         go_wp2_with fail
         have hx0 := hm.x
         refine region_at 8 (fun w' => Ext _ w') 39 (by kernel_rfl) (by kernel_rfl) rfl (fun _ _ h k => h.trans k) (drew_ext _) ?_
         simp only [tSC, List.take_zero, dSC, List.drop_zero, List.map_cons, List.map_nil]
         repeat (first
             | (apply walk_is rfl rfl rfl
                · (intro wx hwx; first | ((with_reducible show gives _ _ _ (Sem.run _ (execOp _ (Oper.mk _ (Op.load _ _) _ _ _ _)) _)); first | ((with_reducible apply gq_ldv (hm.ext hwx)); infer_instance; exact rfl; (focus (repeat first | exact .hd | assumption | apply Has.tl); done); (focus (first | omega | (simp; omega) | (refine ltB ?_; first | omega | (simp; done) | (simp; omega))))) | ((with_reducible apply gq_ldW (hm.ext hwx)); infer_instance; exact rfl; (focus (repeat first | exact .hd | assumption | apply Has.tl); done); (focus (first | rfl | omega | (simp; done) | (simp; omega)))) | ((with_reducible apply gq_ld1 (hm.ext hwx)); infer_instance; exact rfl; (focus (repeat first | exact .hd | assumption | apply Has.tl); done); exact rfl)) | (go_simp; (try go_bits); first | exact gives_same | exact gives_skip | with_reducible exact gives_call (B1.out wx (HRX.out wx (hx0.trans hwx))) | with_reducible exact gives_call (B2.out wx (hx0.trans hwx)) | with_reducible exact gives_call (B3.out wx)))
                · (simp only [Act.put, sIB, sCS, sCZ]; rfl))
             | (apply walk_not rfl rfl rfl
                · (simp only [Act.put, sIB, sCS, sCZ]; rfl)))
         intro wz hwz
         simp only [zCC, zNR]
         repeat (first | rw [fin_is] | (rw [fin_cons]; intro _ _))
         rw [fin_nil]
         try (replace hm := hm.ext hwz)
         simp only [Act.put, sIB, sCS, sCZ]
         clear hx0
         go_wp2_with (first | ((((with_reducible show qSt); first | ((with_reducible apply wq_stW hm); exact rfl; infer_instance; exact rfl; exact rfl; (focus (repeat first | exact .hd | assumption | apply Swap.tl); done); (focus (first | rfl | omega | (simp; done) | (simp; omega))); (focus (first | rfl | omega | (simp; done) | (simp; omega))); (focus (first | exact one_map _ | (simp [one8, one32, one64]; done)))))); clear hm; intro w hm))
         go_step3
         exact ⟨rfl, ⟨_, _, _, _, _, _, _, _, _, _, _, _, _, _, _, _, _, _, _, _, _, _, _, _, _, _, _, _, _, _, _, _, _, _, _, _, _, _, rfl, ⟨by have := HMN.out; show _ = b.length - 16 * (n + 1); omega, by have := HMN.out; show 16 * (n + 1) ≤ b.length; omega, by omega, HD0.out (by first | trivial | rfl), by rw [HP2.out]; exact hm⟩⟩, by simp [slen]⟩
       · have c1 : ¬ (cq : Int) = 16 := by omega
         clear hmn
         go_wp2_with fail
         have hx0 := hm.x
         refine region_at 8 (fun w' => Ext _ w') 39 (by kernel_rfl) (by kernel_rfl) rfl (fun _ _ h k => h.trans k) (drew_ext _) ?_
         simp only [tSC, List.take_zero, dSC, List.drop_zero, List.map_cons, List.map_nil]
         repeat (first
             | (apply walk_is rfl rfl rfl
                · (intro wx hwx; first | ((with_reducible show gives _ _ _ (Sem.run _ (execOp _ (Oper.mk _ (Op.load _ _) _ _ _ _)) _)); first | ((with_reducible apply gq_ldv (hm.ext hwx)); infer_instance; exact rfl; (focus (repeat first | exact .hd | assumption | apply Has.tl); done); (focus (first | omega | (simp; omega) | (refine ltB ?_; first | omega | (simp; done) | (simp; omega))))) | ((with_reducible apply gq_ldW (hm.ext hwx)); infer_instance; exact rfl; (focus (repeat first | exact .hd | assumption | apply Has.tl); done); (focus (first | rfl | omega | (simp; done) | (simp; omega)))) | ((with_reducible apply gq_ld1 (hm.ext hwx)); infer_instance; exact rfl; (focus (repeat first | exact .hd | assumption | apply Has.tl); done); exact rfl)) | (go_simp; (try go_bits); first | exact gives_same | exact gives_skip | with_reducible exact gives_call (B1.out wx (HRX.out wx (hx0.trans hwx))) | with_reducible exact gives_call (B2.out wx (hx0.trans hwx)) | with_reducible exact gives_call (B3.out wx)))
                · (simp only [Act.put, sIB, sCS, sCZ]; rfl))
             | (apply walk_not rfl rfl rfl
                · (simp only [Act.put, sIB, sCS, sCZ]; rfl)))
         intro wz hwz
         simp only [zCC, zNR]
         repeat (first | rw [fin_is] | (rw [fin_cons]; intro _ _))
         rw [fin_nil]
         try (replace hm := hm.ext hwz)
         simp only [Act.put, sIB, sCS, sCZ]
         clear hx0
         go_wp2_with (first | ((((with_reducible show qSt); first | ((with_reducible apply wq_stW hm); exact rfl; infer_instance; exact rfl; exact rfl; (focus (repeat first | exact .hd | assumption | apply Swap.tl); done); (focus (first | rfl | omega | (simp; done) | (simp; omega))); (focus (first | rfl | omega | (simp; done) | (simp; omega))); (focus (first | exact one_map _ | (simp [one8, one32, one64]; done)))))); clear hm; intro w hm))
         go_step3
         exact ⟨rfl, ⟨_, _, _, _, _, _, _, _, _, _, _, _, _, _, _, _, _, _, _, _, _, _, _, _, _, _, _, _, _, _, _, _, _, _, _, _, _, _, rfl, ⟨by have := HMN.out; show _ = b.length - 16 * (n + 1); omega, by have := HMN.out; show 16 * (n + 1) ≤ b.length; omega, by omega, HD.out, by rw [HP2.out]; exact hm⟩⟩, by simp [slen]; omega⟩
     · have d1 : decide ((16 : Int) ≤ (m : Int)) = false := decide_eq_false (by omega)
       have d2 : decide ((m : Int) ≥ 16) = false := decide_eq_false (by omega)
       have d3 : ¬ (16 : Int) ≤ (m : Int) := by omega
       have hn : b.length / 16 = n := by omega
       by_cases hm0 : m = 0
       · have eG : partF F b n = partG F b := by rw [partG, if_neg (by omega), hn]
         rw [eG] at hm lP
         subst hm0
         clear hmn hnb hrd eG
         go_wp2_with (first | ((with_reducible show qLd); first | ((with_reducible apply wq_ldW hm); exact rfl; infer_instance; exact rfl; (focus (repeat first | exact .hd | assumption | apply Has.tl); done); (focus (first | rfl | omega | (simp; done) | (simp; omega))))) | ((((with_reducible show qSt); first | ((with_reducible apply wq_stW hm); exact rfl; infer_instance; exact rfl; exact rfl; (focus (repeat first | exact .hd | assumption | apply Swap.tl); done); (focus (first | rfl | omega | (simp; done) | (simp; omega))); (focus (first | rfl | omega | (simp; done) | (simp; omega))); (focus (first | exact one_map _ | (simp [one8, one32, one64]; done)))))); clear hm; intro w hm))
         simp only [Exit.jump]
         refine ret_own hm rfl rfl (by infer_instance) (by repeat (first | exact Has.hd | assumption | apply Has.tl)) (by first | rfl | omega | (simp only [zeros_length, zer_length, tab_length, part_length, setN_length, List.length_map, List.length_cons, List.length_nil, List.length_append, List.length_take, List.length_drop, List.length_replicate, blk_length, putL_length] <;> omega)) rfl ⟨rfl, hm.x⟩
       · have e0 : ((m : Int) == 0) = false := by rw [beq_eq_false_iff_ne]; omega
         have eG : bothL (partF F b n) (F 0 (blk (marked (b.drop (16 * n)) 128#8 16))) = partG F b := by
           rw [partG, if_pos (.inr (by omega)), hn, blk_marked _ (by rw [List.length_drop]; omega)]
         have m1 := fun wx h => MK.out wx q cq n h
         rw [← hmn] at m1
         have M1 := Lib.hid m1
         have B1 := Lib.hid fun (wx : World) (q : Option Addr) (cq : Nat) (h : RdB wx q (marked (b.drop (16 * n)) 128#8 16)) => oblock_any _ q cq wx h
         have lB := blk_length (marked (b.drop (16 * n)) 128#8 16)
         have B2 := Lib.hid fun wx hx => HE.out wx hx 0 (blk (marked (b.drop (16 * n)) 128#8 16)) lB (by omega)
         have l2 := HF.out 0 (blk (marked (b.drop (16 * n)) 128#8 16))
         have b3 := fun wx => hplus_any (partF F b n) (F 0 (blk (marked (b.drop (16 * n)) 128#8 16))) lP l2 wx
         rw [eG] at b3
         have B3 := Lib.hid b3
         have HRX := Lib.hid fun (wx : World) (h : Ext w0 wx) => hrd.ext h
         clear b3 hrd m1 eG hmn hnb hm0
         generalize F 0 (blk (marked (b.drop (16 * n)) 128#8 16)) = Y at *
         generalize blk (marked (b.drop (16 * n)) 128#8 16) = Z at *
         generalize marked (b.drop (16 * n)) 128#8 16 = M at *
         generalize partF F b n = P1 at *
         go_wp2_with fail
         go_step3
         go_wp2_with fail
         have hx0 := hm.x
         have c1 := fun wx (hwx : Ext w wx) => M1.out wx (HRX.out wx (hx0.trans hwx))
         refine region_at 8 (fun w' => Ext _ w') 39 (by kernel_rfl) (by kernel_rfl) rfl (fun _ _ h k => h.trans k) (drew_ext _) ?_
         simp only [tSC, List.take_zero, dSC, List.drop_zero, List.map_cons, List.map_nil]
         repeat (first
             | (apply walk_some (BytesS M) 35 (BytesS.stable _) rfl rfl rfl rfl
                · (intro wx hwx; go_simp; with_reducible exact gives_callR (c1 wx hwx)))
             | (apply walk_from (T := [(35, BytesS M)]) rfl rfl
                · (intro wx hwx; simp only [withS]; (rintro x ⟨q', cq', rfl, hlc, hb'⟩); refine ⟨rfl, ?_⟩; go_simp; with_reducible exact gives_call (B1.out wx q' cq' hb'))
                · (simp only [Act.put, sIB, sCS, sCZ]; rfl))
             | (apply walk_is rfl rfl rfl
                · (intro wx hwx; first | ((with_reducible show gives _ _ _ (Sem.run _ (execOp _ (Oper.mk _ (Op.load _ _) _ _ _ _)) _)); first | ((with_reducible apply gq_ldv (hm.ext hwx)); infer_instance; exact rfl; (focus (repeat first | exact .hd | assumption | apply Has.tl); done); (focus (first | omega | (simp; omega) | (refine ltB ?_; first | omega | (simp; done) | (simp; omega))))) | ((with_reducible apply gq_ldW (hm.ext hwx)); infer_instance; exact rfl; (focus (repeat first | exact .hd | assumption | apply Has.tl); done); (focus (first | rfl | omega | (simp; done) | (simp; omega)))) | ((with_reducible apply gq_ld1 (hm.ext hwx)); infer_instance; exact rfl; (focus (repeat first | exact .hd | assumption | apply Has.tl); done); exact rfl)) | (go_simp; (try go_bits); first | exact gives_same | exact gives_skip | with_reducible exact gives_call (B2.out wx (hx0.trans hwx)) | with_reducible exact gives_call (B3.out wx)))
                · (simp only [Act.put, sIB, sCS, sCZ]; rfl))
             | (apply walk_not rfl rfl rfl
                · (simp only [Act.put, sIB, sCS, sCZ]; rfl)))
         intro wz hwz
         simp only [zCC, zNR]
         repeat (first | rw [fin_is] | (rw [fin_cons]; intro _ _))
         rw [fin_nil]
         try (replace hm := hm.ext hwz)
         simp only [Act.put, sIB, sCS, sCZ]
         clear c1 hx0
         go_wp2_with (first | ((((with_reducible show qSt); first | ((with_reducible apply wq_stW hm); exact rfl; infer_instance; exact rfl; exact rfl; (focus (repeat first | exact .hd | assumption | apply Swap.tl); done); (focus (first | rfl | omega | (simp; done) | (simp; omega))); (focus (first | rfl | omega | (simp; done) | (simp; omega))); (focus (first | exact one_map _ | (simp [one8, one32, one64]; done)))))); clear hm; intro w hm))
         simp only [Exit.jump]
         refine ret_own hm rfl rfl (by infer_instance) (by repeat (first | exact Has.hd | assumption | apply Has.tl)) (by first | rfl | omega | (simp only [zeros_length, zer_length, tab_length, part_length, setN_length, List.length_map, List.length_cons, List.length_nil, List.length_append, List.length_take, List.length_drop, List.length_replicate, blk_length, putL_length] <;> omega)) rfl ⟨rfl, hm.x⟩
   · intro hp
     go_wp2_with (first | ((first | ((with_reducible show qAl); first | ((with_reducible apply wq_new hm); exact rfl; infer_instance))); clear hm; (first | (have hx_ := g1; clear hx_; intro gx_) | intro g1); intro w hm))
     go_step3
     rename_i hK
     exact hK _ _ (hp _ _ ⟨_, _, _, _, _, _, _, _, _, _, _, _, _, _, _, _, _, _, _, _, _, _, _, _, _, _, _, _, _, _, _, _, _, _, _, _, _, _, rfl, ⟨rfl, Nat.zero_le _, hc, HB.out, hm⟩⟩)
end Go.Proofs.YtaijfigohlkccaaGreatDoor
namespace Go.Proofs.YtaijfigohlkccaaGreatDoor
open Go Go.RowKit
set_option maxRecDepth 100000
theorem zer_bothL (x : List Byte) (h : x.length = 16) : bothL (zer 16) x = x := nth_ext (by rw [bothL_length, h]) fun i hi => by
 rw [bothL_length] at hi
 rw [bothL_nth _ _ _ hi, zer, nth_tab hi]; simp
end Go.Proofs.YtaijfigohlkccaaGreatDoor
namespace Go.Proofs.YtaijfigohlkccaaGreatDoor
open Go Go.RowKit
set_option maxRecDepth 100000
section
variable {P : Program} {ops : Array Oper} {Q : Exit → Act → World → Prop} {rest : List Oper} {dst : Option Tmp} {ty : TypeId} {pos : String} {aft : Array Edge} {gd : Option (Nat × Bool)} {a : Act} {w0 w : World} {L : List Blk} {T e : TypeId}
theorem wq_bs0 (hb : ∀ w, (Instr.buildSlice T 0 #[]).run P w = .ok (.slice (some ⟨w.heap.size, 0, none⟩) 0 0) (w.alloc (.cells ([] : List Value).toArray e))) (hm : Own w0 w L) (hgd : Region.wanted (Oper.mk dst (.buildSlice T 0 #[]) ty pos aft gd) (yielded ops a.tmps) = true) (hr : ∀ g w', Own w0 w' (⟨g, e, []⟩ :: L) → wpList P ops Q rest (a.put dst (.slice (some ⟨g, 0, none⟩) 0 0)) w') : wpList P ops Q ((Oper.mk dst (.buildSlice T 0 #[]) ty pos aft gd) :: rest) a w :=
 wpList_want hgd fun K hK => by
   unfold Oper.wp execOp
   have h := hb w
   simp [h, Sem.run_bind, Result.andThen_ok, Sem.run_pure]
   exact hK _ _ (hr _ _ (hm.alloc e []))
theorem wq_bs1c {u : Value} {x : Operand} (hb : ∀ w, (Instr.buildSlice T 1 #[(0, u)]).run P w = .ok (.slice (some ⟨w.heap.size, 0, none⟩) 1 1) (w.alloc (.cells [u].toArray e))) (hm : Own w0 w L) (hgd : Region.wanted (Oper.mk dst (.buildSlice T 1 #[(0, x)]) ty pos aft gd) (yielded ops a.tmps) = true) (hx : a.eval x = u) (hr : ∀ g w', Own w0 w' (⟨g, e, [u]⟩ :: L) → wpList P ops Q rest (a.put dst (.slice (some ⟨g, 0, none⟩) 1 1)) w') : wpList P ops Q ((Oper.mk dst (.buildSlice T 1 #[(0, x)]) ty pos aft gd) :: rest) a w :=
 wpList_want hgd fun K hK => by
   unfold Oper.wp execOp
   have h := hb w
   simp [hx, h, Sem.run_bind, Result.andThen_ok, Sem.run_pure]
   exact hK _ _ (hr _ _ (hm.alloc e [u]))
end
theorem bs0_b (w : World) : (Instr.buildSlice 22 0 #[]).run Tryz.prog w = .ok (.slice (some ⟨w.heap.size, 0, none⟩) 0 0) (w.alloc (.cells ([] : List Value).toArray 5)) := by kernel_rfl
theorem bs1_128 (w : World) : (Instr.buildSlice 22 1 #[(0, .int .u8 128)]).run Tryz.prog w = .ok (.slice (some ⟨w.heap.size, 0, none⟩) 1 1) (w.alloc (.cells [v8 128#8].toArray 5)) := by kernel_rfl
theorem slo_room0 (g : Nat) (e : TypeId) (sz : Nat) : SlO [⟨g, e, []⟩] e sz (.slice (some ⟨g, 0, none⟩) 0 0) 0 [] := SlO.room g e sz 0 [] (by simp) (by decide)
theorem cellsB {w : World} {p : Option Addr} {b : List Byte} (h : RdB w p b) : ∀ (j : Nat) (u : Value), (b.map v8)[j]? = some u → ∃ a, p = some a ∧ w.cell? (a.add j) = some u := by
 intro j u hj
 rw [List.getElem?_map] at hj
 obtain ⟨x, hx, rfl⟩ := Option.map_eq_some_iff.1 hj
 obtain ⟨hlt, hx'⟩ := List.getElem?_eq_some_iff.1 hx
 obtain ⟨a, rfl⟩ := Option.isSome_iff_exists.1 (h.1 (by omega))
 refine ⟨a, rfl, ?_⟩
 have := h.2 j hlt
 simp only [Option.getD_some] at this
 rw [this, List.getD_eq_getElem?_getD, hx]; rfl
theorem slo_bytes {w0 w : World} {M R : List Blk} {p : Option Addr} {n c : Nat} {e : TypeId} {l : List Byte} (h : SlO M e 1 (.slice p n c) n (l.map v8)) (hm : Own w0 w (M ++ R)) : RdB w p l ∧ n = l.length ∧ n ≤ c := by
 have hl := h.1
 rw [List.length_map, Nat.mul_one] at hl
 obtain ⟨_, _, hv, hnc, _, h0, hcell⟩ := h.cells hm
 cases hv
 refine ⟨⟨fun hp => h0 (by omega), fun i hi => ?_⟩, hl.symm, hnc⟩
 obtain ⟨a, rfl, ha⟩ := hcell i (v8 (l.getD i 0)) (by rw [List.getElem?_map, List.getElem?_eq_getElem hi, List.getD_eq_getElem?_getD, List.getElem?_eq_getElem hi]; rfl)
 exact ha
instance elemB : Elem Tryz.prog 5 1 1 := Elem.of (by kernel_rfl) (by omega)
end Go.Proofs.YtaijfigohlkccaaGreatDoor
namespace Go.Proofs.YtaijfigohlkccaaGreatDoor
open Go Go.RowKit
set_option maxRecDepth 100000
def flv (n : Nat) : Nat := floatOfInt .f64 (n : Int)
def flOk (x N : Nat) : Bool :=
 (FloatKind.f64.format.order (flv x) 0 == some .gt || FloatKind.f64.format.order (flv x) 0 == some .eq) &&
 (FloatKind.f64.format.order (flv x) (flv N) == some .lt || FloatKind.f64.format.order (flv x) (flv N) == some .eq) &&
 (floatToIntVal .f64 (flv x) .i64 == some (x : Int)) &&
 (FloatKind.f64.format.order (flv x) (flv x) == some .eq)
theorem fl_core : ((List.range 269).all fun n => flOk n (n + 32) && flOk (n + 16) (n + 32) && flOk 16 (n + 32)) = true := by decide +kernel
structure FlIn (b n B N : Nat) : Prop where
 ge : (FloatKind.f64.format.order b 0 == some .gt || FloatKind.f64.format.order b 0 == some .eq) = true
 le : (FloatKind.f64.format.order b B == some .lt || FloatKind.f64.format.order b B == some .eq) = true
 int : floatToIntVal .f64 b .i64 = some (n : Int)
 eq : (FloatKind.f64.format.order b b == some .eq) = true
 of : floatOfInt .f64 (n : Int) = b
 up : floatOfInt .f64 (N : Int) = B
theorem flIn_of {x N : Nat} (h : flOk x N = true) : FlIn (flv x) x (flv N) N := by
 simp only [flOk, Bool.and_eq_true] at h
 exact ⟨h.1.1.1, h.1.1.2, by simpa using h.1.2, h.2, rfl, rfl⟩
theorem fl_core_at (n : Nat) (h1 : 32 ≤ n) (h2 : n ≤ 300) : FlIn (flv (n - 32)) (n - 32) (flv n) n ∧ FlIn (flv (n - 16)) (n - 16) (flv n) n ∧ FlIn (flv 16) 16 (flv n) n := by
 have := List.all_eq_true.1 fl_core (n - 32) (by rw [List.mem_range]; omega)
 simp only [Bool.and_eq_true] at this
 rw [show n - 32 + 32 = n by omega, show n - 32 + 16 = n - 16 by omega] at this
 exact ⟨flIn_of this.1.1, flIn_of this.1.2, flIn_of this.2⟩
theorem conv_fi {b n : Nat} (h : floatToIntVal .f64 b .i64 = some (n : Int)) (w : World) : (convert 96 3 (.float .f64 b)).run Tryz.prog w = .ok (.int .i64 (n : Int)) w := run_convert_float_int w _ _ _ _ _ _ (by kernel_rfl) (by kernel_rfl) h
theorem conv_if {b n : Nat} (h : floatOfInt .f64 (n : Int) = b) (w : World) : (convert 3 96 (.int .i64 (n : Int))).run Tryz.prog w = .ok (.float .f64 b) w := h ▸ run_convert_int_float w _ _ _ _ _ (by kernel_rfl) (by kernel_rfl)
set_option maxHeartbeats 2000000 in
theorem fits_any (b n B N g : Nat) (h : FlIn b n B N) (w : World) (hc : w.cell? ⟨g, 0, none⟩ = some (.int .i64 (N : Int))) : Calls Tryz.prog 109 #[.float .f64 b, .pointer (some ⟨g, 0, none⟩)] w fun e w' => e = .returned (.bool true) ∧ w' = w := by
 have h1 := h.ge
 have h2 := h.le
 have h4 := h.eq
 have h3 := conv_fi h.int
 have h5 := conv_if h.of
 have h6 := conv_if h.up
 clear h
 go_enter Tryz.func109, Tryz.ntmps109
 go_wp2
 go_ret
 exact ⟨rfl, rfl⟩
theorem own_cell {w0 w : World} {L : List Blk} {g : Nat} {t : TypeId} {v : Value} (hm : Own w0 w L) (hh : Has L ⟨g, t, [v]⟩) : w.cell? ⟨g, 0, none⟩ = some v := row_cell (hm.row hh) 0
set_option maxHeartbeats 4000000 in
theorem whole_any (b n c m B N : Nat) (hn : FlIn b n B N) (hk : FlIn c m B N) (h : n + m ≤ N) (hN : N ≤ 9223372036854775807) (w0 : World) : Calls Tryz.prog 86 #[.complex .f64 b c, .int .i64 (N : Int)] w0 fun e w' => e = .returned (.tuple #[.int .i64 (n : Int), .int .i64 (m : Int), .bool true]) ∧ Ext w0 w' := by
 have hm := Own.start w0
 have F1 := Lib.hid fun g w hc => fits_any b n B N g hn w hc
 have F2 := Lib.hid fun g w hc => fits_any c m B N g hk w hc
 have h3 := conv_fi hn.int
 have h4 := conv_fi hk.int
 have h5 : decide ((N : Int) - (n : Int) < (m : Int)) = false := decide_eq_false (by omega)
 have h6 : ¬ ((N : Int) - (n : Int) < (m : Int)) := by omega
 have h7 : (N : Int) - (n : Int) ≤ 9223372036854775807 := by omega
 have h8 : -9223372036854775808 ≤ (N : Int) - (n : Int) := by omega
 clear hn hk
 go_enter Tryz.func86, Tryz.ntmps86
 go_wp2_with (first | (go_at_call 109; have hc_ := own_cell (g := g1) (t := 3) (v := .int .i64 (N : Int)) hm Has.hd; (with_reducible refine (F1.out g1 _ hc_).mono ?_); rintro e_ w_ ⟨rfl, rfl⟩; clear hc_) | (go_at_call 109; have hc_ := own_cell (g := g1) (t := 3) (v := .int .i64 (N : Int)) hm Has.hd; (with_reducible refine (F2.out g1 _ hc_).mono ?_); rintro e_ w_ ⟨rfl, rfl⟩; clear hc_) | ((with_reducible show qLd); first | ((with_reducible apply wq_ld1 hm); exact rfl; infer_instance; exact rfl; (focus ((repeat (first | exact .hd | assumption | apply Has.tl | apply Has.app)); done)); exact rfl)) | ((first | ((with_reducible show qBx); first | ((with_reducible apply wq_box1 hm); exact rfl; exact rfl; exact rfl))); clear hm; (first | (have hx_ := g1; clear hx_; intro gx_) | intro g1); intro w hm))
 go_ret3
 exact ⟨rfl, hm.x⟩
theorem eq_nil8 (q : Option Addr) (n c : Nat) (w : World) : (binOp .eql 22 (.slice q n c) (.slice none 0 0)).run Tryz.prog w = .ok (.bool q.isNone) w := by
 have h := run_equal_slice_nil (P := Tryz.prog) (w := w) 22 5 q n c (by kernel_rfl)
 simp [binOp, h]
set_option maxHeartbeats 4000000 in
theorem clone_any (l : List Byte) (p : Option Addr) (c : Nat) (w0 : World) (hl : RdB w0 p l) (hb : l.length ≤ 70368744177000) : GivesR Tryz.prog 54 #[.slice p l.length c] w0 (BytesS l) := by
 unfold GivesR
 have hm := Own.start w0
 cases p with
 | none =>
   have e1 := fun c w => eq_nil8 none 0 c w
   obtain rfl : l = [] := by
     rcases Nat.eq_zero_or_pos l.length with h | h
     · exact List.length_eq_zero_iff.1 h
     · have := hl.1 h; simp at this
   clear hl
   simp only [List.length_nil]
   go_enter Tryz.func54, Tryz.ntmps54
   go_wp2
   go_ret
   exact ⟨_, rfl, ⟨none, 0, rfl, Nat.le_refl _, RdB.nil _ _⟩, hm.x⟩
 | some a =>
   have HL := Lib.hid hl
   have FIT := Lib.hid (show (0 + l.length) * (1 + 1) ≤ 140737488355328 by omega)
   have LY := Lib.hid (show (l.map v8).length = l.length * 1 by simp)
   clear hl
   have e1 := fun n c w => eq_nil8 (some a) n c w
   go_enter Tryz.func54, Tryz.ntmps54
   go_wp2_with (first | ((with_reducible apply wq_bs0 bs0_b hm); exact rfl; clear hm; intro gz w hm) | ((with_reducible show wpList _ _ _ (Oper.mk _ (Op.call _) _ _ _ _ :: _) _ _); refine wplO_app (M := [⟨gz, 5, []⟩]) (R := []) (ds := l.map v8) hm (slo_room0 gz _ 1) rfl rfl rfl rfl Tryz.underlying22 LY.out (cellsB (HL.out.ext hm.x)) (one_map _) FIT.out ?_; clear hm; intro v1 w M1 hm hs1; obtain ⟨p_v1, c_v1, rfl⟩ := hs1.form; simp only [Nat.zero_add, List.nil_append] at hs1 ⊢))
   go_ret
   have hr := slo_bytes hs1 hm
   exact ⟨_, rfl, ⟨_, _, rfl, hr.2.2, hr.1⟩, hm.x⟩
set_option maxHeartbeats 4000000 in
theorem of_any (l : List Byte) (p : Option Addr) (d : Nat) (b n c k B : Nat) (hn : FlIn b n B l.length) (hk : FlIn c k B l.length) (h : n + k ≤ l.length) (hk0 : 0 < k) (hd : l.length ≤ d) (hb : l.length ≤ 70368744177000) (w0 : World) (hl : RdB w0 p l) :
   Calls Tryz.prog 93 #[.slice p l.length d, .complex .f64 b c] w0 fun e w' => ∃ v, e = .returned (.tuple #[v, .bool true]) ∧ BytesS ((l.drop n).take k) v w' ∧ Ext w0 w' := by
 have hm := Own.start w0
 obtain ⟨a, rfl⟩ := Option.isSome_iff_exists.1 (hl.1 (by omega))
 have W1 := Lib.hid fun w => whole_any b n c k B l.length hn hk h (by omega) w
 have lT : ((l.drop n).take k).length = k := by rw [List.length_take, List.length_drop]; omega
 have C1 := Lib.hid fun (w : World) (hx : Ext w0 w) (e : Nat) => show GivesR Tryz.prog 54 #[.slice (some (a.add n)) k e] w (BytesS ((l.drop n).take k)) from by
   have := clone_any ((l.drop n).take k) (some (a.add n)) e w ((hl.sub n k h hk0).ext hx) (by omega)
   rwa [lT] at this
 generalize (l.drop n).take k = T at *
 have a1 : (n : Int) + (k : Int) ≤ 9223372036854775807 := by omega
 have a2 : (0 : Int) ≤ (n : Int) + (k : Int) := by omega
 have a3 : (n : Int) ≤ (n : Int) + (k : Int) := by omega
 have a4 : (n : Int) + (k : Int) ≤ (d : Int) := by omega
 have a5 : ¬ d = n := by omega
 clear hn hk hl
 go_enter Tryz.func93, Tryz.ntmps93
 go_wp2_with (first | (go_at_call 86; (with_reducible refine (W1.out _).mono ?_); rintro e_ w ⟨rfl, hx_⟩; replace hm := hm.ext hx_; clear hx_) | (go_at_call 54; (with_reducible refine (C1.out _ hm.x _).mono ?_); rintro e_ w ⟨v_, rfl, hv_, hx_⟩; replace hm := hm.ext hx_; clear hx_))
 go_ret2
 exact ⟨_, rfl, hv_, hm.x⟩
end Go.Proofs.YtaijfigohlkccaaGreatDoor
namespace Go.Proofs.YtaijfigohlkccaaGreatDoor
open Go Go.RowKit
set_option maxRecDepth 100000
def glueF (G : Nat → List Byte) : Nat → List Byte
 | 0 => []
 | k + 1 => glueF G k ++ G k
def sumG (G : Nat → List Byte) : Nat → List Byte
 | 0 => zer 16
 | k + 1 => bothL (sumG G k) (G k)
theorem sumG_length (G : Nat → List Byte) : ∀ n, (sumG G n).length = 16
 | 0 => zer_length
 | _ + 1 => bothL_length _ _
theorem glueF_length (G : Nat → List Byte) (hG : ∀ k, (G k).length = 32) : ∀ n, (glueF G n).length = 32 * n
 | 0 => rfl
 | n + 1 => by rw [glueF, List.length_append, glueF_length G hG n, hG]; omega
theorem glueF_at (G : Nat → List Byte) (hG : ∀ k, (G k).length = 32) (k : Nat) : ∀ n, k < n → ((glueF G n).drop (32 * k)).take 32 = G k
 | 0, h => by omega
 | n + 1, h => by
   have hl := glueF_length G hG n
   by_cases e : k = n
   · subst e
     rw [glueF, List.drop_append_of_le_length (by omega), List.drop_eq_nil_of_le (by omega), List.nil_append, List.take_of_length_le (by rw [hG]; omega)]
   · rw [glueF, List.drop_append_of_le_length (by omega), List.take_append_of_le_length (by rw [List.length_drop]; omega), glueF_at G hG k n (by omega)]
def fstB (ps : List Byte) (k : Nat) : List Byte := (ps.drop (32 * k)).take 16
def sndB (ps : List Byte) (k : Nat) : List Byte := (ps.drop (32 * k + 16)).take 16
theorem fstB_of (ps : List Byte) (k : Nat) : fstB ps k = (((ps.drop (32 * k)).take 32)).take 16 := by rw [fstB, List.take_take]; rfl
theorem sndB_of (ps : List Byte) (k : Nat) : sndB ps k = (((ps.drop (32 * k)).take 32)).drop 16 := by
 rw [sndB, List.drop_take, List.drop_drop]
theorem fst_glue (G : Nat → List Byte) (hG : ∀ k, (G k).length = 32) (k n : Nat) (h : k < n) : fstB (glueF G n) k = (G k).take 16 := by rw [fstB_of, glueF_at G hG k n h]
theorem snd_glue (G : Nat → List Byte) (hG : ∀ k, (G k).length = 32) (k n : Nat) (h : k < n) : sndB (glueF G n) k = (G k).drop 16 := by rw [sndB_of, glueF_at G hG k n h]
theorem fstB_length (ps : List Byte) (k : Nat) (h : 32 * k + 16 ≤ ps.length) : (fstB ps k).length = 16 := by rw [fstB, List.length_take, List.length_drop]; omega
theorem sndB_length (ps : List Byte) (k : Nat) (h : 32 * k + 32 ≤ ps.length) : (sndB ps k).length = 16 := by rw [sndB, List.length_take, List.length_drop]; omega
section
variable (F : Int → Int → List Byte → List Byte)
def wF (ps : List Byte) (k : Nat) : List Byte := bothL (fstB ps k) (F 1 ((k : Int) + 1) (sndB ps k))
def xF (ps : List Byte) (k : Nat) : List Byte := bothL (sndB ps k) (F 0 0 (wF F ps k))
def wxF (ps : List Byte) (k : Nat) : List Byte := wF F ps k ++ xF F ps k
def yF (z qs : List Byte) (k : Nat) : List Byte := bothL (fstB qs k) (F 2 ((k : Int) + 1) z)
def vF (z qs : List Byte) (k : Nat) : List Byte := bothL (sndB qs k) (F 2 ((k : Int) + 1) z)
def secF (z qs : List Byte) (k : Nat) : List Byte := bothL (yF F z qs k) (F 0 0 (vF F z qs k))
def firF (z qs : List Byte) (k : Nat) : List Byte := bothL (vF F z qs k) (F 1 ((k : Int) + 1) (secF F z qs k))
def fsF (z qs : List Byte) (k : Nat) : List Byte := firF F z qs k ++ secF F z qs k
theorem wF_length (ps : List Byte) (k : Nat) : (wF F ps k).length = 16 := bothL_length _ _
theorem xF_length (ps : List Byte) (k : Nat) : (xF F ps k).length = 16 := bothL_length _ _
theorem yF_length (z qs : List Byte) (k : Nat) : (yF F z qs k).length = 16 := bothL_length _ _
theorem vF_length (z qs : List Byte) (k : Nat) : (vF F z qs k).length = 16 := bothL_length _ _
theorem secF_length (z qs : List Byte) (k : Nat) : (secF F z qs k).length = 16 := bothL_length _ _
theorem firF_length (z qs : List Byte) (k : Nat) : (firF F z qs k).length = 16 := bothL_length _ _
theorem wxF_length (ps : List Byte) (k : Nat) : (wxF F ps k).length = 32 := by rw [wxF, List.length_append, wF_length, xF_length]
theorem fsF_length (z qs : List Byte) (k : Nat) : (fsF F z qs k).length = 32 := by rw [fsF, List.length_append, firF_length, secF_length]
def tailL (u v : List Byte) : List Byte :=
 if u.length = 0 then zer 16 else if u.length = 16 then bothL (F 0 4 u) (F 0 5 (blk (v ++ [128#8]))) else F 0 4 (blk (u ++ [128#8]))
theorem tailL_length (hF : ∀ j m x, (F j m x).length = 16) (u v : List Byte) : (tailL F u v).length = 16 := by
 unfold tailL
 split
 · exact zer_length
 · split
   · exact bothL_length _ _
   · exact hF _ _ _
end
theorem app16 {a b : List Byte} (ha : a.length = 16) : (a ++ b).take 16 = a ∧ (a ++ b).drop 16 = b := by
 constructor
 · rw [List.take_append_of_le_length (by omega), List.take_of_length_le (by omega)]
 · rw [List.drop_append_of_le_length (by omega), List.drop_eq_nil_of_le (by omega), List.nil_append]
section
variable (F : Int → Int → List Byte → List Byte)
theorem fst_wx (ps : List Byte) (k n : Nat) (h : k < n) : fstB (glueF (wxF F ps) n) k = wF F ps k := by
 rw [fst_glue _ (wxF_length F ps) k n h, wxF, (app16 (wF_length F ps k)).1]
theorem snd_wx (ps : List Byte) (k n : Nat) (h : k < n) : sndB (glueF (wxF F ps) n) k = xF F ps k := by
 rw [snd_glue _ (wxF_length F ps) k n h, wxF, (app16 (wF_length F ps k)).2]
section
variable (z ps : List Byte) (n : Nat)
def oneP : List Byte := glueF (wxF F ps) n
def twoP : List Byte := glueF (fsF F z (oneP F ps n)) n
theorem oneP_length : (oneP F ps n).length = 32 * n := glueF_length _ (wxF_length F ps) n
theorem twoP_length : (twoP F z ps n).length = 32 * n := glueF_length _ (fsF_length F z _) n
end
end
structure CoreT where
 ps : List Byte
 u : List Byte
 v : List Byte
 x : List Byte
 y : List Byte
structure CoreT.Ok (c : CoreT) (n : Nat) : Prop where
 ps : c.ps.length = 32 * n
 u : c.u.length ≤ 16
 v : c.v.length ≤ 15
 uv : c.u.length < 16 → c.v = []
 x : c.x.length = 16
 y : c.y.length = 16
section
variable (F : Int → Int → List Byte → List Byte) (h : List Byte) (a b : Int) (n : Nat) (c : CoreT)
def sT : List Byte := bothL (bothL (bothL c.x h) (bothL (sumG (xF F c.ps) n) (tailL F c.u c.v))) (F 0 a c.y)
def tT : List Byte := bothL c.y (F (-1) a (sT F h a n c))
def zT : List Byte := bothL (sT F h a n c) (tT F h a n c)
def uT : List Byte := xorL c.u (F (-1) 4 (zT F h a n c))
def vT : List Byte := xorL c.v (F (-1) 5 (zT F h a n c))
def qT : List Byte := bothL (sumG (yF F (zT F h a n c) (oneP F c.ps n)) n) (tailL F (uT F h a n c) (vT F h a n c))
def yT : List Byte := bothL (sT F h a n c) (F (-1) b (tT F h a n c))
def xT : List Byte := bothL (bothL (bothL (tT F h a n c) h) (qT F h a n c)) (F 0 b (yT F h a b n c))
def coreT : CoreT := ⟨twoP F (zT F h a n c) c.ps n, uT F h a n c, vT F h a n c, xT F h a b n c, yT F h a b n c⟩
end
section
variable (F : Int → Int → List Byte → List Byte) (hF : ∀ j m x, (F j m x).length = 16) (h : List Byte) (a b : Int) (n : Nat) (c : CoreT)
include hF in
theorem uT_length (ok : c.Ok n) : (uT F h a n c).length = c.u.length := by rw [uT, xorL_length, hF]; have := ok.u; omega
include hF in
theorem vT_length (ok : c.Ok n) : (vT F h a n c).length = c.v.length := by rw [vT, xorL_length, hF]; have := ok.v; omega
include hF in
theorem coreT_ok (ok : c.Ok n) : (coreT F h a b n c).Ok n where
 ps := twoP_length F _ _ n
 u := by show (uT F h a n c).length ≤ 16; rw [uT_length F hF h a n c ok]; exact ok.u
 v := by show (vT F h a n c).length ≤ 15; rw [vT_length F hF h a n c ok]; exact ok.v
 uv := fun hh => by
   have h1 : (uT F h a n c).length < 16 := hh
   rw [uT_length F hF h a n c ok] at h1
   show vT F h a n c = []
   exact List.length_eq_zero_iff.1 (by rw [vT_length F hF h a n c ok, ok.uv h1]; rfl)
 x := bothL_length _ _
 y := bothL_length _ _
end
def joinT (c : CoreT) : List Byte := c.ps ++ (c.u ++ (c.v ++ (c.x ++ c.y)))
def restM (m : List Byte) : List Byte := (m.drop (32 * ((m.length - 32) / 32))).take (m.length - 32 - 32 * ((m.length - 32) / 32))
def splitT (m : List Byte) : CoreT := ⟨m.take (32 * ((m.length - 32) / 32)), (restM m).take 16, (restM m).drop 16, (m.drop (m.length - 32)).take 16, m.drop (m.length - 16)⟩
theorem restM_length (m : List Byte) : (restM m).length = m.length - 32 - 32 * ((m.length - 32) / 32) := by rw [restM, List.length_take, List.length_drop]; omega
theorem splitT_ok (m : List Byte) (h : 32 ≤ m.length) : (splitT m).Ok ((m.length - 32) / 32) := by
 have hr := restM_length m
 constructor
 · show (m.take _).length = _; rw [List.length_take]; omega
 · show ((restM m).take 16).length ≤ 16; rw [List.length_take]; omega
 · show ((restM m).drop 16).length ≤ 15; rw [List.length_drop]; omega
 · intro h1
   have h2 : ((restM m).take 16).length < 16 := h1
   rw [List.length_take] at h2
   exact List.drop_eq_nil_of_le (by omega)
 · show ((m.drop _).take 16).length = 16; rw [List.length_take, List.length_drop]; omega
 · show (m.drop _).length = 16; rw [List.length_drop]; omega
theorem join_split (m : List Byte) (h : 32 ≤ m.length) : joinT (splitT m) = m := by
 show m.take _ ++ ((restM m).take 16 ++ ((restM m).drop 16 ++ ((m.drop (m.length - 32)).take 16 ++ m.drop (m.length - 16)))) = m
 have e1 : (m.drop (m.length - 32)).take 16 ++ m.drop (m.length - 16) = m.drop (m.length - 32) := by
   rw [show m.length - 16 = m.length - 32 + 16 by omega, ← List.drop_drop, List.take_append_drop]
 have e2 : restM m ++ m.drop (m.length - 32) = m.drop (32 * ((m.length - 32) / 32)) := by
   rw [restM]
   conv => rhs; rw [← List.take_append_drop (m.length - 32 - 32 * ((m.length - 32) / 32)) (m.drop (32 * ((m.length - 32) / 32)))]
   rw [List.drop_drop]
   congr 2
   omega
 rw [e1, ← List.append_assoc ((restM m).take 16), List.take_append_drop, e2, List.take_append_drop]
theorem join_length (c : CoreT) (n : Nat) (ok : c.Ok n) : (joinT c).length = 32 * n + (c.u.length + c.v.length) + 32 := by
 simp only [joinT, List.length_append, ok.ps, ok.x, ok.y]; omega
def coreL (F : Int → Int → List Byte → List Byte) (h : List Byte) (a b : Int) (m : List Byte) : List Byte := joinT (coreT F h a b ((m.length - 32) / 32) (splitT m))
section
variable (F : Int → Int → List Byte → List Byte) (hF : ∀ j m x, (F j m x).length = 16) (h : List Byte) (a b : Int)
include hF in
theorem coreL_length (m : List Byte) (hm : 32 ≤ m.length) : (coreL F h a b m).length = m.length := by
 have ok := splitT_ok m hm
 have o2 := coreT_ok F hF h a b _ _ ok
 have h1 := join_length _ _ o2
 have h2 := join_length _ _ ok
 rw [join_split m hm] at h2
 rw [coreL, h1]
 show 32 * _ + ((uT F h a _ (splitT m)).length + (vT F h a _ (splitT m)).length) + 32 = _
 rw [uT_length F hF h a _ _ ok, vT_length F hF h a _ _ ok, ← h2]
end
end Go.Proofs.YtaijfigohlkccaaGreatDoor
