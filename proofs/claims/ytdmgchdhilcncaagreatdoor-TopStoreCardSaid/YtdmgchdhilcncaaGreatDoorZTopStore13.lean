/-
  Layer 16: the sum of two blocks, and what a string brings. Conditions: those written in each theorem.
  Slices of none and of one cell, built, as blocks of the call's own. No conditions beyond those written in each theorem.
  Layer 14: a cut of a message, in whole numbers that are written as floats. Conditions: those written in each theorem.
  Slices of slices: from a place on, up to a place. Conditions: those written in each theorem.
  What is told of a call's own blocks and of keys, ahead of both ways to reckon. Conditions: those written in each theorem.
  Layer 14: a cut of a message, of no bytes too. Conditions: those written in each theorem.
  Layer 3: the document's boxes. No conditions.
  Layer 3: rounds of no tables; a box. No conditions beyond those written in each theorem.
  Layer 3: the document's way back, and its rounds. No conditions beyond those written in each theorem.
-/
import Derived.Test.YtdmgchdhilcncaaGreatDoorZTopStore0
import Derived.Test.YtdmgchdhilcncaaGreatDoorZTopStore8
import Derived.Test.YtdmgchdhilcncaaGreatDoorZTopStore12
import Derived.Test.YtdmgchdhilcncaaGreatDoorZTopStore6
import Derived.Test.YtdmgchdhilcncaaGreatDoorZTopStore4
import Derived.Test.YtdmgchdhilcncaaGreatDoorZTopStore11
import Derived.Test.YtdmgchdhilcncaaGreatDoorZTopStore10
set_option linter.unusedSimpArgs false
set_option linter.unusedVariables false
namespace Go.Proofs.YtdmgchdhilcncaaGreatDoor
open Go Go.RowKit
set_option maxRecDepth 100000
theorem blk_xor (a b : List Byte) (ha : a.length = 16) (hb : b.length = 16) : blk (xorL a b) = bothL a b := by
 have lX : (xorL a b).length = 16 := by rw [xorL_length, ha, hb]; rfl
 refine nth_ext (by rw [blk_length, bothL_length]) fun i hi => ?_
 rw [blk_length] at hi
 rw [bothL_nth _ _ _ hi, blk_nth _ _ hi]
 exact xorL_getD a b i (by rw [lX]; exact hi)
set_option maxHeartbeats 2000000 in
theorem hplus_any (a b : List Byte) (ha : a.length = 16) (hb : b.length = 16) (w0 : World) : Gives Tryz.prog 194 #[A8 a, A8 b] w0 (A8 (bothL a b)) := by
 unfold Gives
 have hm := Own.start w0
 have C1 := Lib.hid fun (w wx : World) (p q : Option Addr) (h1 : RdB wx p a) (h2 : RdB wx q b) => by
   have h := xor_any a b p q 16 16 wx h1 h2 (by omega) (by omega)
   rw [ha, hb] at h; exact h
 have eX := blk_xor a b ha hb
 have C2 := Lib.hid fun (wx : World) (p : Option Addr) (c : Nat) (h : RdB wx p (xorL a b)) => eX ▸ oblock_any (xorL a b) p c wx h
 have lZ : (bothL a b).length = 16 := bothL_length _ _
 generalize bothL a b = Z at *
 generalize xorL a b = X at *
 have ha1 := Nat.le_of_eq ha
 have ha2 := Nat.le_of_eq ha.symm
 have hb1 := Nat.le_of_eq hb
 have hb2 := Nat.le_of_eq hb.symm
 clear eX
 go_enter Tryz.func194, Tryz.ntmps194
 go_wp2_with (first | ((first | ((with_reducible show qAl); first | ((with_reducible apply wq_new hm); exact rfl; infer_instance)) | ((with_reducible show qBx); first | ((with_reducible apply wq_boxN hm); exact rfl; exact rfl))); clear hm; (first | (have hx_ := g1; clear hx_; (first | (have hx_ := g2; clear hx_; intro gx_) | intro g2)) | intro g1); intro w hm))
 have c1 := fun wx (hwx : Ext _ wx) => C1.out wx wx _ _ ((hm.ext hwx).rdB (g := g1) (l := a) (by repeat (first | exact Has.hd | assumption | apply Has.tl))) ((hm.ext hwx).rdB (g := g2) (l := b) (by repeat (first | exact Has.hd | assumption | apply Has.tl)))
 refine region_at 4 (fun w' => Ext _ w') 9 (by kernel_rfl) (by kernel_rfl) rfl (fun _ _ h k => h.trans k) (drew_ext _) ?_
 simp only [tSC, List.take_zero, dSC, List.drop_zero, List.map_cons, List.map_nil]
 repeat (first
     | (apply walk_some (BytesS X) 7 (BytesS.stable _) rfl rfl rfl rfl
        · (intro wx hwx; go_simp; with_reducible exact gives_callR (c1 wx hwx)))
     | (apply walk_from (T := [(7, BytesS X)]) rfl rfl
        · (intro wx hwx; simp only [withS]; (rintro x ⟨p, c, rfl, hlc, hb'⟩); refine ⟨rfl, ?_⟩; go_simp; with_reducible exact gives_call (C2.out wx p c hb'))
        · (simp only [Act.put, sIB, sCS, sCZ]; rfl))
     | (apply walk_is rfl rfl rfl
        · (intro wx hwx; go_simp; (try go_bits); first | exact gives_same | exact gives_skip)
        · (simp only [Act.put, sIB, sCS, sCZ]; rfl))
     | (apply walk_not rfl rfl rfl
        · (simp only [Act.put, sIB, sCS, sCZ]; rfl)))
 intro wz hwz
 simp only [zCC, zNR]
 repeat (first | rw [fin_is] | (rw [fin_cons]; intro _ _))
 rw [fin_nil]
 try (replace hm := hm.ext hwz)
 simp only [Act.put, sIB, sCS, sCZ]
 clear c1
 go_wp2_with (first | ((((with_reducible show qSt); first | ((with_reducible apply wq_stW hm); exact rfl; infer_instance; exact rfl; exact rfl; (focus (repeat first | exact .hd | assumption | apply Swap.tl); done); (focus (first | rfl | omega | (simp; done) | (simp; omega))); (focus (first | rfl | omega | (simp; done) | (simp; omega))); (focus (first | exact one_map _ | (simp [one8, one32, one64]; done)))))); clear hm; intro w hm))
 refine ret_own hm rfl rfl (by infer_instance) (by repeat (first | exact Has.hd | assumption | apply Has.tl)) (by first | rfl | omega | (simp only [zeros_length, zer_length, tab_length, part_length, setN_length, List.length_map, List.length_cons, List.length_nil, List.length_append, List.length_take, List.length_drop, List.length_replicate, blk_length, putL_length] <;> omega)) rfl ⟨rfl, hm.x⟩
def slen : Value → Nat
 | .slice _ n _ => n
 | _ => 0
set_option maxHeartbeats 4000000 in
theorem hpart_any (kv : Value) (F : Int → List Byte → List Byte) (hF : ∀ m x, (F m x).length = 16) (j : Int) (b : List Byte) (p : Option Addr) (c : Nat) (w0 : World) (hb : RdB w0 p b) (hc : b.length ≤ c) (hl : b.length ≤ 70368744177000)
   (CE : ∀ wx, Ext w0 wx → ∀ (m : Int) (x : List Byte), x.length = 16 → m ≤ 9223372036854775807 → Gives Tryz.prog 190 #[kv, .int .i64 j, .int .i64 m, A8 x] wx (A8 (F m x))) :
   Gives Tryz.prog 195 #[kv, .int .i64 j, .slice p b.length c] w0 (A8 (partG F b)) := by
 unfold Gives
 have hm := Own.start w0
 have HB := Lib.hid hb
 have HE := Lib.hid CE
 have HF := Lib.hid hF
 have lG := partG_length F b
 have E0 := Lib.hid (partF_length F b)
 -- the rest, with its mark
 have MK := Lib.hid fun (wx : World) (q : Option Addr) (cq : Nat) (n : Nat) (h : RdB wx q (b.drop (16 * n))) => show GivesR Tryz.prog 166 #[.slice q (b.length - 16 * n) cq, .int .u8 128, .int .i64 16] wx (BytesS (marked (b.drop (16 * n)) 128#8 16)) from by
   have := marked_any (b.drop (16 * n)) q cq 128#8 16 wx h (by rw [List.length_drop]; omega) (by omega) (by omega)
   rw [List.length_drop] at this; exact this
 by_cases h0 : b.length = 0
 · have eG : Hid (bothL (zer 16) (F 0 (blk (marked (b.drop (16 * 0)) 128#8 16))) = partG F b) := Lib.hid (by
     have hz : b.length / 16 = 0 := by omega
     rw [partG, if_pos (.inl h0), hz, partF, blk_marked _ (by rw [List.length_drop]; omega)])
   have M1 := fun wx q cq h => MK.out wx q cq 0 h
   rw [h0] at M1
   have B1 := Lib.hid fun (wx : World) (q : Option Addr) (cq : Nat) (h : RdB wx q (marked (b.drop (16 * 0)) 128#8 16)) => oblock_any _ q cq wx h
   have lB := blk_length (marked (b.drop (16 * 0)) 128#8 16)
   have B2 := Lib.hid fun wx hx => HE.out wx hx 0 (blk (marked (b.drop (16 * 0)) 128#8 16)) lB (by omega)
   have l2 := HF.out 0 (blk (marked (b.drop (16 * 0)) 128#8 16))
   have lz : (zer (n := 8) 16).length = 16 := zer_length
   have B3 := Lib.hid fun wx => hplus_any (zer 16) (F 0 (blk (marked (b.drop (16 * 0)) 128#8 16))) lz l2 wx
   rw [eG.out] at B3
   have M2 := Lib.hid M1
   rw [h0]
   generalize F 0 (blk (marked (b.drop (16 * 0)) 128#8 16)) = Y at *
   generalize blk (marked (b.drop (16 * 0)) 128#8 16) = Z at *
   generalize marked (b.drop (16 * 0)) 128#8 16 = M at *
   generalize partG F b = D at *
   have HB0 : Hid (∀ wx, Ext w0 wx → RdB wx p (b.drop (16 * 0))) := Lib.hid fun wx h => HB.out.ext h
   clear M1 h0 hl hc CE hb hF eG
   go_enter Tryz.func195, Tryz.ntmps195
   go_wp2_with (first | ((first | ((with_reducible show qAl); first | ((with_reducible apply wq_new hm); exact rfl; infer_instance))); clear hm; (first | (have hx_ := g1; clear hx_; intro gx_) | intro g1); intro w hm))
   refine wp_scope_goto 0 (fun a_ w_ => ∃ (gb : Nat) (u3 u4 u5 u8 u9 u10 u11 u12 u13 u14 u15 u16 u17 u18 u19 u20 u21 u22 u23 u24 u25 u26 u27 u28 u29 u30 u31 u32 u33 u34 u35 u36 u37 u38 : Value), a_ = { tmps := #[kv, (.int .i64 j), (.slice p 0 c), u3, u4, u5, (.pointer (some ⟨g1, 0, none⟩)), (.pointer (some ⟨gb, 0, none⟩)), u8, u9, u10, u11, u12, u13, u14, u15, u16, u17, u18, u19, u20, u21, u22, u23, u24, u25, u26, u27, u28, u29, u30, u31, u32, u33, u34, u35, u36, u37, u38], defers := [] } ∧ Own w0 w_ [⟨gb, 94, (zer 16).map v8⟩, ⟨g1, 94, (zer 16).map v8⟩]) (fun _ _ => 0) rfl ?_ ?_
   · clear hm
     rintro a' w ⟨gb, u3, u4, u5, u8, u9, u10, u11, u12, u13, u14, u15, u16, u17, u18, u19, u20, u21, u22, u23, u24, u25, u26, u27, u28, u29, u30, u31, u32, u33, u34, u35, u36, u37, u38, rfl, hm⟩
     go_wp2_with fail
     have hx0 := hm.x
     have c1 := fun wx (hwx : Ext w wx) => M2.out wx p c (HB0.out wx (hx0.trans hwx))
     refine region_at 8 (fun w' => Ext _ w') 39 (by kernel_rfl) (by kernel_rfl) rfl (fun _ _ h k => h.trans k) (drew_ext _) ?_
     simp only [tSC, List.take_zero, dSC, List.drop_zero, List.map_cons, List.map_nil]
     repeat (first
         | (apply walk_some (BytesS M) 35 (BytesS.stable _) rfl rfl rfl rfl
            · (intro wx hwx; go_simp; with_reducible exact gives_callR (c1 wx hwx)))
         | (apply walk_from (T := [(35, BytesS M)]) rfl rfl
            · (intro wx hwx; simp only [withS]; (rintro x ⟨q, cq, rfl, hlc, hb'⟩); refine ⟨rfl, ?_⟩; go_simp; with_reducible exact gives_call (B1.out wx q cq hb'))
            · (simp only [Act.put, sIB, sCS, sCZ]; rfl))
         | (apply walk_is rfl rfl rfl
            · (intro wx hwx; first | ((with_reducible show gives _ _ _ (Sem.run _ (execOp _ (Oper.mk _ (Op.load _ _) _ _ _ _)) _)); first | ((with_reducible apply gq_ldW (hm.ext hwx)); infer_instance; exact rfl; (focus (repeat first | exact .hd | assumption | apply Has.tl); done); (focus (first | rfl | omega | (simp; done) | (simp; omega))))) | (go_simp; (try go_bits); first | exact gives_same | exact gives_skip | with_reducible exact gives_call (B2.out wx (hx0.trans hwx)) | with_reducible exact gives_call (B3.out wx)))
            · (simp only [Act.put, sIB, sCS, sCZ]; rfl))
         | (apply walk_not rfl rfl rfl
            · (simp only [Act.put, sIB, sCS, sCZ]; rfl)))
     intro wz hwz
     simp only [zCC, zNR]
     repeat (first | rw [fin_is] | (rw [fin_cons]; intro _ _))
     rw [fin_nil]
     try (replace hm := hm.ext hwz)
     simp only [Act.put, sIB, sCS, sCZ]
     clear c1 hx0
     go_wp2_with (first | ((((with_reducible show qSt); first | ((with_reducible apply wq_stW hm); exact rfl; infer_instance; exact rfl; exact rfl; (focus (repeat first | exact .hd | assumption | apply Swap.tl); done); (focus (first | rfl | omega | (simp; done) | (simp; omega))); (focus (first | rfl | omega | (simp; done) | (simp; omega))); (focus (first | exact one_map _ | (simp [one8, one32, one64]; done)))))); clear hm; intro w hm))
     simp only [Exit.jump]
     refine ret_own hm rfl rfl (by infer_instance) (by repeat (first | exact Has.hd | assumption | apply Has.tl)) (by first | rfl | omega | (simp only [zeros_length, zer_length, tab_length, part_length, setN_length, List.length_map, List.length_cons, List.length_nil, List.length_append, List.length_take, List.length_drop, List.length_replicate, blk_length, putL_length] <;> omega)) rfl ⟨rfl, hm.x⟩
   · intro hp
     go_wp2_with (first | ((first | ((with_reducible show qAl); first | ((with_reducible apply wq_new hm); exact rfl; infer_instance))); clear hm; (first | (have hx_ := g1; clear hx_; intro gx_) | intro g1); intro w hm))
     go_step3
     exact ⟨rfl, ⟨_, _, _, _, _, _, _, _, _, _, _, _, _, _, _, _, _, _, _, _, _, _, _, _, _, _, _, _, _, _, _, _, _, _, _, rfl, hm⟩⟩
 · have hz0 : ((b.length : Int) == 0) = false := by rw [beq_eq_false_iff_ne]; omega
   have HN0 := Lib.hid h0
   clear CE hb hF
   go_enter Tryz.func195, Tryz.ntmps195
   go_wp2_with (first | ((first | ((with_reducible show qAl); first | ((with_reducible apply wq_new hm); exact rfl; infer_instance))); clear hm; (first | (have hx_ := g1; clear hx_; intro gx_) | intro g1); intro w hm))
   refine wp_scope_goto 1 (fun a_ w_ => ∃ (n m cq : Nat) (q : Option Addr) (gb : Nat) (u3 u4 u5 u9 u10 u11 u12 u13 u14 u15 u16 u17 u18 u19 u20 u21 u22 u23 u24 u25 u26 u27 u28 u29 u30 u31 u32 u33 u34 u35 u36 u37 u38 : Value), a_ = { tmps := #[kv, (.int .i64 j), (.slice q m cq), u3, u4, u5, (.pointer (some ⟨g1, 0, none⟩)), (.pointer (some ⟨gb, 0, none⟩)), (.int .i64 (n : Int)), u9, u10, u11, u12, u13, u14, u15, u16, u17, u18, u19, u20, u21, u22, u23, u24, u25, u26, u27, u28, u29, u30, u31, u32, u33, u34, u35, u36, u37, u38], defers := [] } ∧ m = b.length - 16 * n ∧ 16 * n ≤ b.length ∧ m ≤ cq ∧ RdB w0 q (b.drop (16 * n)) ∧ Own w0 w_ [⟨gb, 94, (partF F b n).map v8⟩, ⟨g1, 94, (zer 16).map v8⟩]) (fun a_ _ => slen (a_.tmps.getD 2 undef)) rfl ?_ ?_
   · clear hm
     rintro a' w ⟨n, m, cq, q, gb, u3, u4, u5, u9, u10, u11, u12, u13, u14, u15, u16, u17, u18, u19, u20, u21, u22, u23, u24, u25, u26, u27, u28, u29, u30, u31, u32, u33, u34, u35, u36, u37, u38, rfl, ⟨hmn, hnb, hmc, hrd, hm⟩⟩
     have HRD := Lib.hid hrd
     have HMN := Lib.hid hmn
     have HNB := Lib.hid hnb
     have lP := E0.out n
     by_cases h16 : 16 ≤ m
     · obtain ⟨a, rfl⟩ := Option.isSome_iff_exists.1 (hrd.1 (by rw [List.length_drop]; omega))
       have d1 : decide ((16 : Int) ≤ (m : Int)) = true := decide_eq_true (by omega)
       have d2 : decide ((m : Int) ≥ 16) = true := decide_eq_true (by omega)
       have d3 : (16 : Int) ≤ (m : Int) := by omega
       have B1 := Lib.hid fun (wx : World) (h : RdB wx (some a) (b.drop (16 * n))) => show Gives Tryz.prog 46 #[.slice (some a) m cq] wx (A8 (blk (b.drop (16 * n)))) from by
         have := oblock_any (b.drop (16 * n)) (some a) cq wx h
         rwa [List.length_drop, ← HMN.out] at this
       have lB := blk_length (b.drop (16 * n))
       have B2 := Lib.hid fun wx hx => HE.out wx hx ((n : Int) + 1) (blk (b.drop (16 * n))) lB (by omega)
       have l2 := HF.out ((n : Int) + 1) (blk (b.drop (16 * n)))
       have b3 := fun wx => hplus_any (partF F b n) (F ((n : Int) + 1) (blk (b.drop (16 * n)))) lP l2 wx
       rw [show bothL (partF F b n) (F ((n : Int) + 1) (blk (b.drop (16 * n)))) = partF F b (n + 1) from rfl] at b3
       have B3 := Lib.hid b3
       have lP2 := E0.out (n + 1)
       have w1 : (n : Int) + 1 ≤ 9223372036854775807 := by omega
       have HRX := Lib.hid fun (wx : World) (h : Ext w0 wx) => hrd.ext h
       have AD : a.add 16 = { block := a.block, off := a.off + 16 } := by unfold Addr.add; split <;> first | rfl | omega | (simp_all; done)
       have HD : Hid (RdB w0 (some { block := a.block, off := a.off + 16 }) (b.drop (16 * (n + 1)))) := Lib.hid (by
         have := hrd.drop 16
         rw [AD, List.drop_drop] at this
         rwa [show 16 * (n + 1) = 16 * n + 16 by omega])
       have HD0 : Hid (m = 16 → RdB w0 (some a) (b.drop (16 * (n + 1)))) := Lib.hid fun h => by
         rw [List.drop_eq_nil_of_le (by omega)]; exact RdB.nil _ _
       clear b3 hrd AD hnb
       generalize F ((n : Int) + 1) (blk (b.drop (16 * n))) = Y at *
       generalize blk (b.drop (16 * n)) = Z at *
       generalize hP2 : partF F b (n + 1) = P2 at *
       generalize partF F b n = P1 at *
       have HP2 := Lib.hid hP2
       clear hP2
       by_cases hcq : cq = 16
       · obtain rfl : m = 16 := by omega
         subst hcq
         clear hmn
         go_wp2_with fail
         have hx0 := hm.x
         refine region_at 8 (fun w' => Ext _ w') 39 (by kernel_rfl) (by kernel_rfl) rfl (fun _ _ h k => h.trans k) (drew_ext _) ?_
         simp only [tSC, List.take_zero, dSC, List.drop_zero, List.map_cons, List.map_nil]
         repeat (first
             | (apply walk_is rfl rfl rfl
                · (intro wx hwx; first | ((with_reducible show gives _ _ _ (Sem.run _ (execOp _ (Oper.mk _ (Op.load _ _) _ _ _ _)) _)); first | ((with_reducible apply gq_ldW (hm.ext hwx)); infer_instance; exact rfl; (focus (repeat first | exact .hd | assumption | apply Has.tl); done); (focus (first | rfl | omega | (simp; done) | (simp; omega))))) | (go_simp; (try go_bits); first | exact gives_same | exact gives_skip | with_reducible exact gives_call (B1.out wx (HRX.out wx (hx0.trans hwx))) | with_reducible exact gives_call (B2.out wx (hx0.trans hwx)) | with_reducible exact gives_call (B3.out wx)))
                · (simp only [Act.put, sIB, sCS, sCZ]; rfl))
             | (apply walk_not rfl rfl rfl
                · (simp only [Act.put, sIB, sCS, sCZ]; rfl)))
         intro wz hwz
         simp only [zCC, zNR]
         repeat (first | rw [fin_is] | (rw [fin_cons]; intro _ _))
         rw [fin_nil]
         try (replace hm := hm.ext hwz)
         simp only [Act.put, sIB, sCS, sCZ]
         clear hx0
         go_wp2_with (first | ((((with_reducible show qSt); first | ((with_reducible apply wq_stW hm); exact rfl; infer_instance; exact rfl; exact rfl; (focus (repeat first | exact .hd | assumption | apply Swap.tl); done); (focus (first | rfl | omega | (simp; done) | (simp; omega))); (focus (first | rfl | omega | (simp; done) | (simp; omega))); (focus (first | exact one_map _ | (simp [one8, one32, one64]; done)))))); clear hm; intro w hm))
         go_step3
         exact ⟨rfl, ⟨_, _, _, _, _, _, _, _, _, _, _, _, _, _, _, _, _, _, _, _, _, _, _, _, _, _, _, _, _, _, _, _, _, _, _, _, _, _, rfl, ⟨by have := HMN.out; show _ = b.length - 16 * (n + 1); omega, by have := HMN.out; show 16 * (n + 1) ≤ b.length; omega, by omega, HD0.out (by first | trivial | rfl), by rw [HP2.out]; exact hm⟩⟩, by simp [slen]⟩
       · have c1 : ¬ (cq : Int) = 16 := by omega
         clear hmn
         go_wp2_with fail
         have hx0 := hm.x
         refine region_at 8 (fun w' => Ext _ w') 39 (by kernel_rfl) (by kernel_rfl) rfl (fun _ _ h k => h.trans k) (drew_ext _) ?_
         simp only [tSC, List.take_zero, dSC, List.drop_zero, List.map_cons, List.map_nil]
         repeat (first
             | (apply walk_is rfl rfl rfl
                · (intro wx hwx; first | ((with_reducible show gives _ _ _ (Sem.run _ (execOp _ (Oper.mk _ (Op.load _ _) _ _ _ _)) _)); first | ((with_reducible apply gq_ldW (hm.ext hwx)); infer_instance; exact rfl; (focus (repeat first | exact .hd | assumption | apply Has.tl); done); (focus (first | rfl | omega | (simp; done) | (simp; omega))))) | (go_simp; (try go_bits); first | exact gives_same | exact gives_skip | with_reducible exact gives_call (B1.out wx (HRX.out wx (hx0.trans hwx))) | with_reducible exact gives_call (B2.out wx (hx0.trans hwx)) | with_reducible exact gives_call (B3.out wx)))
                · (simp only [Act.put, sIB, sCS, sCZ]; rfl))
             | (apply walk_not rfl rfl rfl
                · (simp only [Act.put, sIB, sCS, sCZ]; rfl)))
         intro wz hwz
         simp only [zCC, zNR]
         repeat (first | rw [fin_is] | (rw [fin_cons]; intro _ _))
         rw [fin_nil]
         try (replace hm := hm.ext hwz)
         simp only [Act.put, sIB, sCS, sCZ]
         clear hx0
         go_wp2_with (first | ((((with_reducible show qSt); first | ((with_reducible apply wq_stW hm); exact rfl; infer_instance; exact rfl; exact rfl; (focus (repeat first | exact .hd | assumption | apply Swap.tl); done); (focus (first | rfl | omega | (simp; done) | (simp; omega))); (focus (first | rfl | omega | (simp; done) | (simp; omega))); (focus (first | exact one_map _ | (simp [one8, one32, one64]; done)))))); clear hm; intro w hm))
         go_step3
         exact ⟨rfl, ⟨_, _, _, _, _, _, _, _, _, _, _, _, _, _, _, _, _, _, _, _, _, _, _, _, _, _, _, _, _, _, _, _, _, _, _, _, _, _, rfl, ⟨by have := HMN.out; show _ = b.length - 16 * (n + 1); omega, by have := HMN.out; show 16 * (n + 1) ≤ b.length; omega, by omega, HD.out, by rw [HP2.out]; exact hm⟩⟩, by simp [slen]; omega⟩
     · have d1 : decide ((16 : Int) ≤ (m : Int)) = false := decide_eq_false (by omega)
       have d2 : decide ((m : Int) ≥ 16) = false := decide_eq_false (by omega)
       have d3 : ¬ (16 : Int) ≤ (m : Int) := by omega
       have hn : b.length / 16 = n := by omega
       by_cases hm0 : m = 0
       · have eG : partF F b n = partG F b := by rw [partG, if_neg (by omega), hn]
         rw [eG] at hm lP
         subst hm0
         clear hmn hnb hrd eG
         go_wp2_with (first | ((with_reducible show qLd); first | ((with_reducible apply wq_ldW hm); exact rfl; infer_instance; exact rfl; (focus (repeat first | exact .hd | assumption | apply Has.tl); done); (focus (first | rfl | omega | (simp; done) | (simp; omega))))) | ((((with_reducible show qSt); first | ((with_reducible apply wq_stW hm); exact rfl; infer_instance; exact rfl; exact rfl; (focus (repeat first | exact .hd | assumption | apply Swap.tl); done); (focus (first | rfl | omega | (simp; done) | (simp; omega))); (focus (first | rfl | omega | (simp; done) | (simp; omega))); (focus (first | exact one_map _ | (simp [one8, one32, one64]; done)))))); clear hm; intro w hm))
         simp only [Exit.jump]
         refine ret_own hm rfl rfl (by infer_instance) (by repeat (first | exact Has.hd | assumption | apply Has.tl)) (by first | rfl | omega | (simp only [zeros_length, zer_length, tab_length, part_length, setN_length, List.length_map, List.length_cons, List.length_nil, List.length_append, List.length_take, List.length_drop, List.length_replicate, blk_length, putL_length] <;> omega)) rfl ⟨rfl, hm.x⟩
       · have e0 : ((m : Int) == 0) = false := by rw [beq_eq_false_iff_ne]; omega
         have eG : bothL (partF F b n) (F 0 (blk (marked (b.drop (16 * n)) 128#8 16))) = partG F b := by
           rw [partG, if_pos (.inr (by omega)), hn, blk_marked _ (by rw [List.length_drop]; omega)]
         have m1 := fun wx h => MK.out wx q cq n h
         rw [← hmn] at m1
         have M1 := Lib.hid m1
         have B1 := Lib.hid fun (wx : World) (q : Option Addr) (cq : Nat) (h : RdB wx q (marked (b.drop (16 * n)) 128#8 16)) => oblock_any _ q cq wx h
         have lB := blk_length (marked (b.drop (16 * n)) 128#8 16)
         have B2 := Lib.hid fun wx hx => HE.out wx hx 0 (blk (marked (b.drop (16 * n)) 128#8 16)) lB (by omega)
         have l2 := HF.out 0 (blk (marked (b.drop (16 * n)) 128#8 16))
         have b3 := fun wx => hplus_any (partF F b n) (F 0 (blk (marked (b.drop (16 * n)) 128#8 16))) lP l2 wx
         rw [eG] at b3
         have B3 := Lib.hid b3
         have HRX := Lib.hid fun (wx : World) (h : Ext w0 wx) => hrd.ext h
         clear b3 hrd m1 eG hmn hnb hm0
         generalize F 0 (blk (marked (b.drop (16 * n)) 128#8 16)) = Y at *
         generalize blk (marked (b.drop (16 * n)) 128#8 16) = Z at *
         generalize marked (b.drop (16 * n)) 128#8 16 = M at *
         generalize partF F b n = P1 at *
         go_wp2_with fail
         go_step3
         go_wp2_with fail
         have hx0 := hm.x
         have c1 := fun wx (hwx : Ext w wx) => M1.out wx (HRX.out wx (hx0.trans hwx))
         refine region_at 8 (fun w' => Ext _ w') 39 (by kernel_rfl) (by kernel_rfl) rfl (fun _ _ h k => h.trans k) (drew_ext _) ?_
         simp only [tSC, List.take_zero, dSC, List.drop_zero, List.map_cons, List.map_nil]
         repeat (first
             | (apply walk_some (BytesS M) 35 (BytesS.stable _) rfl rfl rfl rfl
                · (intro wx hwx; go_simp; with_reducible exact gives_callR (c1 wx hwx)))
             | (apply walk_from (T := [(35, BytesS M)]) rfl rfl
                · (intro wx hwx; simp only [withS]; (rintro x ⟨q', cq', rfl, hlc, hb'⟩); refine ⟨rfl, ?_⟩; go_simp; with_reducible exact gives_call (B1.out wx q' cq' hb'))
                · (simp only [Act.put, sIB, sCS, sCZ]; rfl))
             | (apply walk_is rfl rfl rfl
                · (intro wx hwx; first | ((with_reducible show gives _ _ _ (Sem.run _ (execOp _ (Oper.mk _ (Op.load _ _) _ _ _ _)) _)); first | ((with_reducible apply gq_ldW (hm.ext hwx)); infer_instance; exact rfl; (focus (repeat first | exact .hd | assumption | apply Has.tl); done); (focus (first | rfl | omega | (simp; done) | (simp; omega))))) | (go_simp; (try go_bits); first | exact gives_same | exact gives_skip | with_reducible exact gives_call (B2.out wx (hx0.trans hwx)) | with_reducible exact gives_call (B3.out wx)))
                · (simp only [Act.put, sIB, sCS, sCZ]; rfl))
             | (apply walk_not rfl rfl rfl
                · (simp only [Act.put, sIB, sCS, sCZ]; rfl)))
         intro wz hwz
         simp only [zCC, zNR]
         repeat (first | rw [fin_is] | (rw [fin_cons]; intro _ _))
         rw [fin_nil]
         try (replace hm := hm.ext hwz)
         simp only [Act.put, sIB, sCS, sCZ]
         clear c1 hx0
         go_wp2_with (first | ((((with_reducible show qSt); first | ((with_reducible apply wq_stW hm); exact rfl; infer_instance; exact rfl; exact rfl; (focus (repeat first | exact .hd | assumption | apply Swap.tl); done); (focus (first | rfl | omega | (simp; done) | (simp; omega))); (focus (first | rfl | omega | (simp; done) | (simp; omega))); (focus (first | exact one_map _ | (simp [one8, one32, one64]; done)))))); clear hm; intro w hm))
         simp only [Exit.jump]
         refine ret_own hm rfl rfl (by infer_instance) (by repeat (first | exact Has.hd | assumption | apply Has.tl)) (by first | rfl | omega | (simp only [zeros_length, zer_length, tab_length, part_length, setN_length, List.length_map, List.length_cons, List.length_nil, List.length_append, List.length_take, List.length_drop, List.length_replicate, blk_length, putL_length] <;> omega)) rfl ⟨rfl, hm.x⟩
   · intro hp
     go_wp2_with (first | ((first | ((with_reducible show qAl); first | ((with_reducible apply wq_new hm); exact rfl; infer_instance))); clear hm; (first | (have hx_ := g1; clear hx_; intro gx_) | intro g1); intro w hm))
     go_step3
     rename_i hK
     exact hK _ _ (hp _ _ ⟨_, _, _, _, _, _, _, _, _, _, _, _, _, _, _, _, _, _, _, _, _, _, _, _, _, _, _, _, _, _, _, _, _, _, _, _, _, _, rfl, ⟨rfl, Nat.zero_le _, hc, HB.out, hm⟩⟩)
section
variable {P : Program} {ops : Array Oper} {Q : Exit → Act → World → Prop} {rest : List Oper} {dst : Option Tmp} {ty : TypeId} {pos : String} {aft : Array Edge} {gd : Option (Nat × Bool)} {a : Act} {w0 w : World} {L : List Blk} {T e : TypeId}
theorem wq_bs0 (hb : ∀ w, (Instr.buildSlice T 0 #[]).run P w = .ok (.slice (some ⟨w.heap.size, 0, none⟩) 0 0) (w.alloc (.cells ([] : List Value).toArray e))) (hm : Own w0 w L) (hgd : Region.wanted (Oper.mk dst (.buildSlice T 0 #[]) ty pos aft gd) (yielded ops a.tmps) = true) (hr : ∀ g w', Own w0 w' (⟨g, e, []⟩ :: L) → wpList P ops Q rest (a.put dst (.slice (some ⟨g, 0, none⟩) 0 0)) w') : wpList P ops Q ((Oper.mk dst (.buildSlice T 0 #[]) ty pos aft gd) :: rest) a w :=
 wpList_want hgd fun K hK => by
   unfold Oper.wp execOp
   have h := hb w
   simp [h, Sem.run_bind, Result.andThen_ok, Sem.run_pure]
   exact hK _ _ (hr _ _ (hm.alloc e []))
theorem wq_bs1c {u : Value} {x : Operand} (hb : ∀ w, (Instr.buildSlice T 1 #[(0, u)]).run P w = .ok (.slice (some ⟨w.heap.size, 0, none⟩) 1 1) (w.alloc (.cells [u].toArray e))) (hm : Own w0 w L) (hgd : Region.wanted (Oper.mk dst (.buildSlice T 1 #[(0, x)]) ty pos aft gd) (yielded ops a.tmps) = true) (hx : a.eval x = u) (hr : ∀ g w', Own w0 w' (⟨g, e, [u]⟩ :: L) → wpList P ops Q rest (a.put dst (.slice (some ⟨g, 0, none⟩) 1 1)) w') : wpList P ops Q ((Oper.mk dst (.buildSlice T 1 #[(0, x)]) ty pos aft gd) :: rest) a w :=
 wpList_want hgd fun K hK => by
   unfold Oper.wp execOp
   have h := hb w
   simp [hx, h, Sem.run_bind, Result.andThen_ok, Sem.run_pure]
   exact hK _ _ (hr _ _ (hm.alloc e [u]))
end
theorem bs0_b (w : World) : (Instr.buildSlice 22 0 #[]).run Tryz.prog w = .ok (.slice (some ⟨w.heap.size, 0, none⟩) 0 0) (w.alloc (.cells ([] : List Value).toArray 5)) := by kernel_rfl
theorem slo_room0 (g : Nat) (e : TypeId) (sz : Nat) : SlO [⟨g, e, []⟩] e sz (.slice (some ⟨g, 0, none⟩) 0 0) 0 [] := SlO.room g e sz 0 [] (by simp) (by decide)
theorem cellsB {w : World} {p : Option Addr} {b : List Byte} (h : RdB w p b) : ∀ (j : Nat) (u : Value), (b.map v8)[j]? = some u → ∃ a, p = some a ∧ w.cell? (a.add j) = some u := by
 intro j u hj
 rw [List.getElem?_map] at hj
 obtain ⟨x, hx, rfl⟩ := Option.map_eq_some_iff.1 hj
 obtain ⟨hlt, hx'⟩ := List.getElem?_eq_some_iff.1 hx
 obtain ⟨a, rfl⟩ := Option.isSome_iff_exists.1 (h.1 (by omega))
 refine ⟨a, rfl, ?_⟩
 have := h.2 j hlt
 simp only [Option.getD_some] at this
 rw [this, List.getD_eq_getElem?_getD, hx]; rfl
theorem slo_bytes {w0 w : World} {M R : List Blk} {p : Option Addr} {n c : Nat} {e : TypeId} {l : List Byte} (h : SlO M e 1 (.slice p n c) n (l.map v8)) (hm : Own w0 w (M ++ R)) : RdB w p l ∧ n = l.length ∧ n ≤ c := by
 have hl := h.1
 rw [List.length_map, Nat.mul_one] at hl
 obtain ⟨_, _, hv, hnc, _, h0, hcell⟩ := h.cells hm
 cases hv
 refine ⟨⟨fun hp => h0 (by omega), fun i hi => ?_⟩, hl.symm, hnc⟩
 obtain ⟨a, rfl, ha⟩ := hcell i (v8 (l.getD i 0)) (by rw [List.getElem?_map, List.getElem?_eq_getElem hi, List.getD_eq_getElem?_getD, List.getElem?_eq_getElem hi]; rfl)
 exact ha
instance elemB : Elem Tryz.prog 5 1 1 := Elem.of (by kernel_rfl) (by omega)
def flv (n : Nat) : Nat := floatOfInt .f64 (n : Int)
def flOk (x N : Nat) : Bool :=
 (FloatKind.f64.format.order (flv x) 0 == some .gt || FloatKind.f64.format.order (flv x) 0 == some .eq) &&
 (FloatKind.f64.format.order (flv x) (flv N) == some .lt || FloatKind.f64.format.order (flv x) (flv N) == some .eq) &&
 (floatToIntVal .f64 (flv x) .i64 == some (x : Int)) &&
 (FloatKind.f64.format.order (flv x) (flv x) == some .eq)
theorem fl_tiny : ((List.range 32).all fun n => flOk 0 (2 * n) && flOk n (2 * n) && flOk 0 32 && flOk n 32) = true := by decide +kernel
structure FlIn (b n B N : Nat) : Prop where
 ge : (FloatKind.f64.format.order b 0 == some .gt || FloatKind.f64.format.order b 0 == some .eq) = true
 le : (FloatKind.f64.format.order b B == some .lt || FloatKind.f64.format.order b B == some .eq) = true
 int : floatToIntVal .f64 b .i64 = some (n : Int)
 eq : (FloatKind.f64.format.order b b == some .eq) = true
 of : floatOfInt .f64 (n : Int) = b
 up : floatOfInt .f64 (N : Int) = B
theorem flIn_of {x N : Nat} (h : flOk x N = true) : FlIn (flv x) x (flv N) N := by
 simp only [flOk, Bool.and_eq_true] at h
 exact ⟨h.1.1.1, h.1.1.2, by simpa using h.1.2, h.2, rfl, rfl⟩
theorem fl_tiny_at (n : Nat) (h : n ≤ 31) : FlIn (flv 0) 0 (flv (2 * n)) (2 * n) ∧ FlIn (flv n) n (flv (2 * n)) (2 * n) ∧ FlIn (flv 0) 0 (flv 32) 32 ∧ FlIn (flv n) n (flv 32) 32 := by
 have := List.all_eq_true.1 fl_tiny n (by rw [List.mem_range]; omega)
 simp only [Bool.and_eq_true] at this
 exact ⟨flIn_of this.1.1.1, flIn_of this.1.1.2, flIn_of this.1.2, flIn_of this.2⟩
theorem conv_fi {b n : Nat} (h : floatToIntVal .f64 b .i64 = some (n : Int)) (w : World) : (convert 209 3 (.float .f64 b)).run Tryz.prog w = .ok (.int .i64 (n : Int)) w := run_convert_float_int w _ _ _ _ _ _ (by kernel_rfl) (by kernel_rfl) h
theorem conv_if {b n : Nat} (h : floatOfInt .f64 (n : Int) = b) (w : World) : (convert 3 209 (.int .i64 (n : Int))).run Tryz.prog w = .ok (.float .f64 b) w := h ▸ run_convert_int_float w _ _ _ _ _ (by kernel_rfl) (by kernel_rfl)
set_option maxHeartbeats 2000000 in
theorem fits_any (b n B N g : Nat) (h : FlIn b n B N) (w : World) (hc : w.cell? ⟨g, 0, none⟩ = some (.int .i64 (N : Int))) : Calls Tryz.prog 136 #[.float .f64 b, .pointer (some ⟨g, 0, none⟩)] w fun e w' => e = .returned (.bool true) ∧ w' = w := by
 have h1 := h.ge
 have h2 := h.le
 have h4 := h.eq
 have h3 := conv_fi h.int
 have h5 := conv_if h.of
 have h6 := conv_if h.up
 clear h
 go_enter Tryz.func136, Tryz.ntmps136
 go_wp2
 go_ret
 exact ⟨rfl, rfl⟩
theorem own_cell {w0 w : World} {L : List Blk} {g : Nat} {t : TypeId} {v : Value} (hm : Own w0 w L) (hh : Has L ⟨g, t, [v]⟩) : w.cell? ⟨g, 0, none⟩ = some v := row_cell (hm.row hh) 0
set_option maxHeartbeats 4000000 in
theorem whole_any (b n c m B N : Nat) (hn : FlIn b n B N) (hk : FlIn c m B N) (h : n + m ≤ N) (hN : N ≤ 9223372036854775807) (w0 : World) : Calls Tryz.prog 127 #[.complex .f64 b c, .int .i64 (N : Int)] w0 fun e w' => e = .returned (.tuple #[.int .i64 (n : Int), .int .i64 (m : Int), .bool true]) ∧ Ext w0 w' := by
 have hm := Own.start w0
 have F1 := Lib.hid fun g w hc => fits_any b n B N g hn w hc
 have F2 := Lib.hid fun g w hc => fits_any c m B N g hk w hc
 have h3 := conv_fi hn.int
 have h4 := conv_fi hk.int
 have h5 : decide ((N : Int) - (n : Int) < (m : Int)) = false := decide_eq_false (by omega)
 have h6 : ¬ ((N : Int) - (n : Int) < (m : Int)) := by omega
 have h7 : (N : Int) - (n : Int) ≤ 9223372036854775807 := by omega
 have h8 : -9223372036854775808 ≤ (N : Int) - (n : Int) := by omega
 clear hn hk
 go_enter Tryz.func127, Tryz.ntmps127
 go_wp2_with (first | (go_at_call 136; have hc_ := own_cell (g := g1) (t := 3) (v := .int .i64 (N : Int)) hm Has.hd; (with_reducible refine (F1.out g1 _ hc_).mono ?_); rintro e_ w_ ⟨rfl, rfl⟩; clear hc_) | (go_at_call 136; have hc_ := own_cell (g := g1) (t := 3) (v := .int .i64 (N : Int)) hm Has.hd; (with_reducible refine (F2.out g1 _ hc_).mono ?_); rintro e_ w_ ⟨rfl, rfl⟩; clear hc_) | ((with_reducible show qLd); first | ((with_reducible apply wq_ld1 hm); exact rfl; infer_instance; exact rfl; (focus ((repeat (first | exact .hd | assumption | apply Has.tl | apply Has.app)); done)); exact rfl)) | ((first | ((with_reducible show qBx); first | ((with_reducible apply wq_box1 hm); exact rfl; exact rfl; exact rfl))); clear hm; (first | (have hx_ := g1; clear hx_; intro gx_) | intro g1); intro w hm))
 go_ret3
 exact ⟨rfl, hm.x⟩
theorem eq_nil8 (q : Option Addr) (n c : Nat) (w : World) : (binOp .eql 22 (.slice q n c) (.slice none 0 0)).run Tryz.prog w = .ok (.bool q.isNone) w := by
 have h := run_equal_slice_nil (P := Tryz.prog) (w := w) 22 5 q n c (by kernel_rfl)
 simp [binOp, h]
def slP (p : Option Addr) (c l : Nat) : Option Addr := if c = l then p else p.map (·.add l)
theorem addr_zero (a : Addr) : a.add 0 = a := by unfold Addr.add; split <;> simp_all
section
variable {P : Program} {ops : Array Oper} {Q : Exit → Act → World → Prop} {rest : List Oper} {dst : Option Tmp} {ty : TypeId} {pos : String} {aft : Array Edge} {gd : Option (Nat × Bool)} {a : Act} {w : World} {T e : TypeId} {x y z : Operand}
theorem run_slL (hT : P.underlying T = some (.slice e)) [hE : One1 P e] (p : Option Addr) (n c l : Nat) (hl : l ≤ n) (w : World) : (Instr.sliceAt T (.slice p n c) (some (.int .i64 (l : Int))) none none).run P w = .ok (.slice (slP p c l) (n - l) (c - l)) w := by
 obtain ⟨i, hi1, hi2⟩ := Option.map_eq_some_iff.1 hE.size
 simp [Instr.sliceAt, Instr.slice, Instr.sliceBounds, Instr.sliceBound, asIntOf, Sem.run_bind, run_underlying hT, sizeOf, typeInfo, hi1, hi2, hl, slP]
theorem run_slH (hT : P.underlying T = some (.slice e)) [hE : One1 P e] (p : Option Addr) (n c h : Nat) (hh : h ≤ c) (w : World) : (Instr.sliceAt T (.slice p n c) none (some (.int .i64 (h : Int))) none).run P w = .ok (.slice p h c) w := by
 obtain ⟨i, hi1, hi2⟩ := Option.map_eq_some_iff.1 hE.size
 simp [Instr.sliceAt, Instr.slice, Instr.sliceBounds, Instr.sliceBound, asIntOf, Sem.run_bind, run_underlying hT, sizeOf, typeInfo, hi1, hi2, hh]
 intro _
 cases p <;> simp [addr_zero]
theorem run_slLH (hT : P.underlying T = some (.slice e)) [hE : One1 P e] (p : Option Addr) (n c l h : Nat) (hl : l ≤ h) (hh : h ≤ c) (w : World) : (Instr.sliceAt T (.slice p n c) (some (.int .i64 (l : Int))) (some (.int .i64 (h : Int))) none).run P w = .ok (.slice (slP p c l) (h - l) (c - l)) w := by
 obtain ⟨i, hi1, hi2⟩ := Option.map_eq_some_iff.1 hE.size
 simp [Instr.sliceAt, Instr.slice, Instr.sliceBounds, Instr.sliceBound, asIntOf, Sem.run_bind, run_underlying hT, sizeOf, typeInfo, hi1, hi2, hl, hh, slP]
theorem gq_slL {p : Option Addr} {n c l r : Nat} (hT : P.underlying T = some (.slice e)) (hE : One1 P e) (hx : a.eval x = .slice p n c) (hy : a.eval y = .int .i64 (l : Int)) (hl : l ≤ n) (hr : n - l = r) : gives P w (Is (.slice (slP p c l) r (c - l))) ((execOp a.eval (Oper.mk dst (.slice T x (some y) none none) ty pos aft gd)).run P w) := by
 subst hr
 unfold execOp
 simp only [hx, hy, Sem.run_bind, run_slL hT p n c l hl w, Result.andThen_ok, Sem.run_pure, Option.map_some, Option.map_none]
 exact gives_same
theorem gq_slLH {p : Option Addr} {n c l h r : Nat} (hT : P.underlying T = some (.slice e)) (hE : One1 P e) (hx : a.eval x = .slice p n c) (hy : a.eval y = .int .i64 (l : Int)) (hz : a.eval z = .int .i64 (h : Int)) (hl : l ≤ h) (hh : h ≤ c) (hr : h - l = r) : gives P w (Is (.slice (slP p c l) r (c - l))) ((execOp a.eval (Oper.mk dst (.slice T x (some y) (some z) none) ty pos aft gd)).run P w) := by
 subst hr
 unfold execOp
 simp only [hx, hy, hz, Sem.run_bind, run_slLH hT p n c l h hl hh w, Result.andThen_ok, Sem.run_pure, Option.map_some, Option.map_none]
 exact gives_same
theorem wq_slL {p : Option Addr} {n c l r : Nat} (hT : P.underlying T = some (.slice e)) (hE : One1 P e) (hgd : Region.wanted (Oper.mk dst (.slice T x (some y) none none) ty pos aft gd) (yielded ops a.tmps) = true) (hx : a.eval x = .slice p n c) (hy : a.eval y = .int .i64 (l : Int)) (hl : l ≤ n) (hr : n - l = r) (hk : wpList P ops Q rest (a.put dst (.slice (slP p c l) r (c - l))) w) : wpList P ops Q ((Oper.mk dst (.slice T x (some y) none none) ty pos aft gd) :: rest) a w :=
 wpList_want hgd fun K hK => by
   subst hr
   unfold Oper.wp execOp
   simp only [hx, hy, Sem.run_bind, run_slL hT p n c l hl w, Result.andThen_ok, Sem.run_pure, Option.map_some, Option.map_none]
   exact hK _ _ hk
theorem wq_slH {p : Option Addr} {n c h : Nat} (hT : P.underlying T = some (.slice e)) (hE : One1 P e) (hgd : Region.wanted (Oper.mk dst (.slice T x none (some y) none) ty pos aft gd) (yielded ops a.tmps) = true) (hx : a.eval x = .slice p n c) (hy : a.eval y = .int .i64 (h : Int)) (hh : h ≤ c) (hk : wpList P ops Q rest (a.put dst (.slice p h c)) w) : wpList P ops Q ((Oper.mk dst (.slice T x none (some y) none) ty pos aft gd) :: rest) a w :=
 wpList_want hgd fun K hK => by
   unfold Oper.wp execOp
   simp only [hx, hy, Sem.run_bind, run_slH hT p n c h hh w, Result.andThen_ok, Sem.run_pure, Option.map_some, Option.map_none]
   exact hK _ _ hk
theorem wq_slLH {p : Option Addr} {n c l h r : Nat} (hT : P.underlying T = some (.slice e)) (hE : One1 P e) (hgd : Region.wanted (Oper.mk dst (.slice T x (some y) (some z) none) ty pos aft gd) (yielded ops a.tmps) = true) (hx : a.eval x = .slice p n c) (hy : a.eval y = .int .i64 (l : Int)) (hz : a.eval z = .int .i64 (h : Int)) (hl : l ≤ h) (hh : h ≤ c) (hr : h - l = r) (hk : wpList P ops Q rest (a.put dst (.slice (slP p c l) r (c - l))) w) : wpList P ops Q ((Oper.mk dst (.slice T x (some y) (some z) none) ty pos aft gd) :: rest) a w :=
 wpList_want hgd fun K hK => by
   subst hr
   unfold Oper.wp execOp
   simp only [hx, hy, hz, Sem.run_bind, run_slLH hT p n c l h hl hh w, Result.andThen_ok, Sem.run_pure, Option.map_some, Option.map_none]
   exact hK _ _ hk
end
theorem RdB.slL {w : World} {p : Option Addr} {L : List Byte} (h : RdB w p L) (c l : Nat) (hc : L.length ≤ c) : RdB w (slP p c l) (L.drop l) := by
 unfold slP
 by_cases e : c = l
 · have : L.drop l = [] := List.drop_eq_nil_of_le (by omega)
   rw [this]; exact RdB.nil _ _
 · rw [if_neg e]
   cases p with
   | none =>
     have : L = [] := RdB.none h
     subst this
     rw [List.drop_nil]; exact RdB.nil _ _
   | some a =>
     refine ⟨fun _ => rfl, fun i hi => ?_⟩
     rw [List.length_drop] at hi
     have e : (a.add l).add i = a.add (l + i) := by unfold Addr.add; split <;> split <;> simp_all <;> omega
     simp only [Option.map, Option.getD_some, e]
     have := h.2 (l + i) (by omega)
     simp only [Option.getD_some] at this
     rw [this]; simp [List.getElem?_drop]
theorem RdB.slLH {w : World} {p : Option Addr} {L : List Byte} (h : RdB w p L) (c l k : Nat) (hc : L.length ≤ c) : RdB w (slP p c l) ((L.drop l).take k) := (h.slL c l hc).take k
theorem right15_any (key : List Byte) (p : Option Addr) (c : Nat) (w : World) : Calls Tryz.prog 15 #[.slice p key.length c] w fun e w' => e = .returned (.bool (rightL key)) ∧ w = w' := by
 by_cases h0 : 0 < key.length
 · have a1 : decide ((0 : Int) < (key.length : Int)) = true := decide_eq_true (by omega)
   have a2 : (0 : Int) < (key.length : Int) := by omega
   have e1 : decide (0 < key.length) = true := decide_eq_true h0
   by_cases h1 : key.length ≤ 128
   · have a3 : decide ((key.length : Int) ≤ 128) = true := decide_eq_true (by omega)
     have a4 : (key.length : Int) ≤ 128 := by omega
     have e : Hid (rightL key = true) := Lib.hid (by rw [rightL, e1, decide_eq_true h1]; rfl)
     rw [e.out]
     clear e1
     go_enter Tryz.func15, Tryz.ntmps15
     go_wp2
     go_ret
     exact ⟨rfl, rfl⟩
   · have a3 : decide ((key.length : Int) ≤ 128) = false := decide_eq_false (by omega)
     have a4 : ¬ (key.length : Int) ≤ 128 := by omega
     have e : Hid (rightL key = false) := Lib.hid (by rw [rightL, e1, decide_eq_false h1]; rfl)
     rw [e.out]
     clear e1
     go_enter Tryz.func15, Tryz.ntmps15
     go_wp2
     go_ret
     exact ⟨rfl, rfl⟩
 · have e : rightL key = false := by rw [rightL, decide_eq_false h0]; rfl
   rw [e]
   have a2 : key.length = 0 := by omega
   rw [a2]
   go_enter Tryz.func15, Tryz.ntmps15
   go_wp2
   go_ret
   exact ⟨rfl, rfl⟩
theorem Own.join {w0 w w' : World} {L M : List Blk} (h : Own w0 w L) (k : Own w w' M) : Own w0 w' (M ++ L) :=
 ⟨h.1.trans k.1, by
   rw [List.map_append, List.nodup_append]
   refine ⟨k.2.1, h.2.1, fun a ha b hb e => ?_⟩
   obtain ⟨x, hx, rfl⟩ := List.mem_map.1 ha
   obtain ⟨y, hy, rfl⟩ := List.mem_map.1 hb
   have h1 := (k.2.2 x hx).1
   have h2 := h.lt y hy
   omega, fun b hb => by
   rcases List.mem_append.1 hb with hb | hb
   · exact ⟨Nat.le_trans h.1.size (k.2.2 b hb).1, (k.2.2 b hb).2⟩
   · exact ⟨(h.2.2 b hb).1, row_ext (h.2.2 b hb).2 k.1⟩⟩
theorem Own.rdK {w0 w : World} {L : List Blk} {g : Nat} {e : TypeId} {ks : List (List Byte)} (hm : Own w0 w L) (hh : Has L ⟨g, e, catV ks⟩) (hk : ∀ k ∈ ks, k.length = 16) : RdK w (some ⟨g, 0, none⟩) 16 ks := ⟨hk, RdB.of_row (hm.row hh)⟩
theorem RdR.row {w : World} {p : Option Addr} {ls : List (List Byte)} (h : RdR w p ls) (k : Nat) (hk : k < ls.length) : ∃ a : Addr, p = some a ∧ ∃ (q : Option Addr) (c : Nat), w.cell? (a.add k) = some (.slice q (ls.getD k []).length c) ∧ RdB w q (ls.getD k []) ∧ (ls.getD k []).length ≤ c ∧ (ls.getD k []).length ≤ maxLen := by
 obtain ⟨a, rfl⟩ := Option.isSome_iff_exists.1 (h.1 (by omega))
 exact ⟨a, rfl, h.2 k hk⟩
set_option maxHeartbeats 4000000 in
theorem clone_own (l : List Byte) (p : Option Addr) (c : Nat) (w0 : World) (hl : RdB w0 p l) (hb : l.length ≤ 70368744177000) : Calls Tryz.prog 24 #[.slice p l.length c] w0 fun e w' => ∃ v M, e = .returned v ∧ Own w0 w' (M ++ []) ∧ SlO M 5 1 v l.length (l.map v8) := by
 have hm := Own.start w0
 cases p with
 | none =>
   have e1 := fun c w => eq_nil8 none 0 c w
   obtain rfl : l = [] := by
     rcases Nat.eq_zero_or_pos l.length with h | h
     · exact List.length_eq_zero_iff.1 h
     · have := hl.1 h; simp at this
   clear hl
   simp only [List.length_nil]
   go_enter Tryz.func24, Tryz.ntmps24
   go_wp2
   go_ret
   exact ⟨_, [], rfl, hm, SlO.nil _ _⟩
 | some a =>
   have HL := Lib.hid hl
   have FIT := Lib.hid (show (0 + l.length) * (1 + 1) ≤ 140737488355328 by omega)
   have LY := Lib.hid (show (l.map v8).length = l.length * 1 by simp)
   clear hl
   have e1 := fun n c w => eq_nil8 (some a) n c w
   go_enter Tryz.func24, Tryz.ntmps24
   go_wp2_with (first | ((with_reducible apply wq_bs0 bs0_b hm); exact rfl; clear hm; intro gz w hm) | ((with_reducible show wpList _ _ _ (Oper.mk _ (Op.call _) _ _ _ _ :: _) _ _); refine wplO_app (M := [⟨gz, 5, []⟩]) (R := []) (ds := l.map v8) hm (slo_room0 gz _ 1) rfl rfl rfl rfl Tryz.underlying22 LY.out (cellsB (HL.out.ext hm.x)) (one_map _) FIT.out ?_; clear hm; intro v1 w M1 hm hs1; obtain ⟨p_v1, c_v1, rfl⟩ := hs1.form; simp only [Nat.zero_add, List.nil_append] at hs1 ⊢))
   go_ret
   exact ⟨_, M1, rfl, hm, hs1⟩
set_option maxHeartbeats 4000000 in
theorem of_own (l : List Byte) (p : Option Addr) (d : Nat) (b n c k B : Nat) (hn : FlIn b n B l.length) (hk : FlIn c k B l.length) (h : n + k ≤ l.length) (hd : l.length ≤ d) (hb : l.length ≤ 70368744177000) (w0 : World) (hl : RdB w0 p l) :
   Calls Tryz.prog 119 #[.slice p l.length d, .complex .f64 b c] w0 fun e w' => ∃ v M, e = .returned (.tuple #[v, .bool true]) ∧ Own w0 w' (M ++ []) ∧ SlO M 5 1 v k (((l.drop n).take k).map v8) := by
 have hm := Own.start w0
 have W1 := Lib.hid fun w => whole_any b n c k B l.length hn hk h (by omega) w
 have lT : ((l.drop n).take k).length = k := by rw [List.length_take, List.length_drop]; omega
 have C1 := Lib.hid fun (w : World) (hx : Ext w0 w) => show Calls Tryz.prog 24 #[.slice (slP p d n) k (d - n)] w fun e w' => ∃ v M, e = .returned v ∧ Own w w' (M ++ []) ∧ SlO M 5 1 v k (((l.drop n).take k).map v8) from by
   have := clone_own ((l.drop n).take k) (slP p d n) (d - n) w ((hl.ext hx).slLH d n k hd) (by omega)
   rwa [lT] at this
 obtain ⟨T, hT⟩ : ∃ x, x = (l.drop n).take k := ⟨_, rfl⟩
 rw [← hT] at C1 ⊢
 have a1 : (n : Int) + (k : Int) ≤ 9223372036854775807 := by omega
 have a2 : (0 : Int) ≤ (n : Int) + (k : Int) := by omega
 have hkd : n + k ≤ d := by omega
 clear hn hk hl hT lT
 go_enter Tryz.func119, Tryz.ntmps119
 go_wp2_with (first | (go_at_call 127; (with_reducible refine (W1.out _).mono ?_); rintro e_ w ⟨rfl, hx_⟩; replace hm := hm.ext hx_; clear hx_) | ((with_reducible apply wq_slLH (l := n) (h := n + k) (r := k) Tryz.underlying22); infer_instance; exact rfl; exact rfl; exact rfl; exact rfl; exact (by omega); exact hkd; exact (by omega)) | (go_at_call 24; (with_reducible refine (C1.out _ hm.x).mono ?_); rintro e_ w ⟨v_, M_, rfl, hm1, hs_⟩; replace hm := hm1.rebase hm.x; clear hm1))
 go_ret2
 exact ⟨_, M_, rfl, hm, hs_⟩
theorem fl_16 : ((List.range 400).all fun n => flOk 0 (n + 16) && flOk n (n + 16) && flOk 16 (n + 16)) = true := by decide +kernel
theorem flv_0 : flv 0 = 0 := by decide +kernel
theorem flv_16 : flv 16 = 4625196817309499392 := by decide +kernel
theorem fl_16_at (n : Nat) (h : n < 400) : FlIn 0 0 (flv (n + 16)) (n + 16) ∧ FlIn (flv n) n (flv (n + 16)) (n + 16) ∧ FlIn 4625196817309499392 16 (flv (n + 16)) (n + 16) := by
 have := List.all_eq_true.1 fl_16 n (by rw [List.mem_range]; omega)
 simp only [Bool.and_eq_true] at this
 exact ⟨flv_0 ▸ flIn_of this.1.1, flIn_of this.1.2, flv_16 ▸ flIn_of this.2⟩
def makeT : Nat → List Byte
 | 0 => boxTab ++ zer 256
 | k + 1 => setN (makeT k) (256 + (nth (makeT k) k).toNat) (BitVec.ofNat 8 k)
theorem boxTab_length : boxTab.length = 256 := tab_length
theorem makeT_length (k : Nat) : (makeT k).length = 512 := by
 induction k with
 | zero => rw [makeT, List.length_append, boxTab_length, zer_length]
 | succ k ih => rw [makeT, setN_length, ih]
attribute [local simp] makeT_length
end Go.Proofs.YtdmgchdhilcncaaGreatDoor
namespace Go.Proofs.YtdmgchdhilcncaaGreatDoor
open Go Go.RowKit
set_option maxRecDepth 100000
theorem tbox_any (g gb : Nat) (a : Byte) (w : World) (h1 : Row w g 66 (tcells gb mixT unmixT)) (h2 : Row w gb 80 (tabs.map v8)) : Calls Tryz.prog 13 #[.pointer (some ⟨g, 0, none⟩), v8 a] w fun e w' => e = .returned (v8 (bxTo a)) ∧ w = w' := by
 have hc : w.cell? ⟨g, 0, none⟩ = some (.pointer (some ⟨gb, 0, none⟩)) := by rw [row_cell h1 0]; exact tcells_ptr _ _ _
 have H2 := Lib.hid h2
 clear h1 h2
 go_enter Tryz.func13, Tryz.ntmps13
 go_wp2_with fail
 refine (to_any gb a w H2.out).mono ?_
 rintro e w' ⟨rfl, rfl⟩
 go_wp2
 go_ret
 exact ⟨rfl, rfl⟩
def shiftBL (b : List Byte) : List Byte := tab 16 fun i => nth b (ush i)
end Go.Proofs.YtdmgchdhilcncaaGreatDoor
