/-
  Layer 16: the sum of two blocks, and what a string brings. Conditions: those written in each theorem.
-/
import Derived.Test.YtmgopjeaehmbfaaDoorHashp
import Derived.Test.YtmgopjeaehmbfaaDoorEz3
namespace Go.Proofs.YtmgopjeaehmbfaaDoor
open Go Go.RowKit
set_option maxRecDepth 100000
set_option linter.unusedVariables false
set_option linter.unusedSimpArgs false

theorem blk_xor (a b : List Byte) (ha : a.length = 16) (hb : b.length = 16) : blk (xorL a b) = bothL a b := by
  have lX : (xorL a b).length = 16 := by rw [xorL_length, ha, hb]; rfl
  refine nth_ext (by rw [blk_length, bothL_length]) fun i hi => ?_
  rw [blk_length] at hi
  rw [bothL_nth _ _ _ hi, blk_nth _ _ hi]
  exact xorL_getD a b i (by rw [lX]; exact hi)
set_option maxHeartbeats 2000000 in
theorem hplus_any (a b : List Byte) (ha : a.length = 16) (hb : b.length = 16) (w0 : World) : Gives Tryd.prog 52 #[A8 a, A8 b] w0 (A8 (bothL a b)) := by
  unfold Gives
  have hm := Own.start w0
  have C1 := Lib.hid fun (w wx : World) (p q : Option Addr) (h1 : RdB wx p a) (h2 : RdB wx q b) => by
    have h := xor_any a b p q 16 16 wx h1 h2 (by omega) (by omega)
    rw [ha, hb] at h; exact h
  have eX := blk_xor a b ha hb
  have C2 := Lib.hid fun (wx : World) (p : Option Addr) (c : Nat) (h : RdB wx p (xorL a b)) => eX ▸ oblock_any (xorL a b) p c wx h
  have lZ : (bothL a b).length = 16 := bothL_length _ _
  generalize bothL a b = Z at *
  generalize xorL a b = X at *
  have ha1 := Nat.le_of_eq ha
  have ha2 := Nat.le_of_eq ha.symm
  have hb1 := Nat.le_of_eq hb
  have hb2 := Nat.le_of_eq hb.symm
  clear eX
  go_enter Tryd.func52, Tryd.ntmps52
  go_wp2_with (first | ((first | ((with_reducible show wpList _ _ _ (Oper.mk _ (Op.alloc _) _ _ _ _ :: _) _ _); first | ((with_reducible apply wq_new hm); (exact rfl); infer_instance) | fail) | ((with_reducible show wpList _ _ _ (Oper.mk _ (Op.box _ _) _ _ _ _ :: _) _ _); first | ((with_reducible apply wq_boxN hm); (exact rfl); (exact rfl)) | fail)); clear hm; (first | (have hx_ := g1; clear hx_; (first | (have hx_ := g2; clear hx_; (first | (have hx_ := g3; clear hx_; (first | (have hx_ := g4; clear hx_; (first | (have hx_ := g5; clear hx_; (first | (have hx_ := g6; clear hx_; (first | (have hx_ := g7; clear hx_; (first | (have hx_ := g8; clear hx_; (first | (have hx_ := g9; clear hx_; intro g10) | intro g9)) | intro g8)) | intro g7)) | intro g6)) | intro g5)) | intro g4)) | intro g3)) | intro g2)) | intro g1); intro w hm) | fail)
  have c1 := fun wx (hwx : Ext _ wx) => C1.out wx wx _ _ ((hm.ext hwx).rdB (g := g1) (l := a) (by repeat (first | exact Has.hd | assumption | apply Has.tl))) ((hm.ext hwx).rdB (g := g2) (l := b) (by repeat (first | exact Has.hd | assumption | apply Has.tl)))
  refine region_at 4 (fun w' => Ext _ w') 9 (by kernel_rfl) (by kernel_rfl) rfl (fun _ _ h k => h.trans k) (drew_ext _) ?_
  simp only [List.take_succ_cons, List.take_zero, List.drop_succ_cons, List.drop_zero, List.map_cons, List.map_nil]
  repeat (first
      | (apply walk_some (BytesS X) 7 (BytesS.stable _) rfl rfl rfl rfl
         · (intro wx hwx; go_simp; with_reducible exact gives_callR (c1 wx hwx)))
      | (apply walk_from (T := [(7, BytesS X)]) rfl rfl
         · (intro wx hwx; simp only [withS]; (rintro x ⟨p, c, rfl, hlc, hb'⟩); refine ⟨rfl, ?_⟩; go_simp; with_reducible exact gives_call (C2.out wx p c hb'))
         · (simp only [Act.put, List.setIfInBounds_toArray, List.set_cons_succ, List.set_cons_zero]; rfl))
      | (apply walk_is rfl rfl rfl
         · (intro wx hwx; first | ((with_reducible show gives _ _ _ (Sem.run _ (execOp _ (Oper.mk _ (Op.load _ _) _ _ _ _)) _)); first | ((with_reducible apply gq_ldv (hm.ext hwx)); infer_instance; (exact rfl); (focus ((repeat (first | exact .hd | assumption | apply Has.tl)); done)); (focus (first | omega | (simp; omega) | (refine Nat.lt_of_lt_of_le (BitVec.isLt _) ?_; first | omega | (simp; done) | (simp; omega) | fail) | fail))) | ((with_reducible apply gq_ldW (hm.ext hwx)); infer_instance; (exact rfl); (focus ((repeat (first | exact .hd | assumption | apply Has.tl)); done)); (focus (first | rfl | omega | (simp; done) | (simp; omega) | fail))) | ((with_reducible apply gq_ld1 (hm.ext hwx)); infer_instance; (exact rfl); (focus ((repeat (first | exact .hd | assumption | apply Has.tl)); done)); (exact rfl)) | fail) | (go_simp; (try go_bits); first | exact gives_same | exact gives_skip))
         · (simp only [Act.put, List.setIfInBounds_toArray, List.set_cons_succ, List.set_cons_zero]; rfl))
      | (apply walk_not rfl rfl rfl
         · (simp only [Act.put, List.setIfInBounds_toArray, List.set_cons_succ, List.set_cons_zero]; rfl)))
  intro wz hwz
  simp only [List.zip_cons_cons, List.zip_nil_right]
  repeat (first | rw [fin_is] | (rw [fin_cons]; intro _ _))
  rw [fin_nil]
  try (replace hm := hm.ext hwz)
  simp only [Act.put, List.setIfInBounds_toArray, List.set_cons_succ, List.set_cons_zero]
  clear c1
  go_wp2_with (first | ((((with_reducible show wpList _ _ _ (Oper.mk _ (Op.store _ _ _) _ _ _ _ :: _) _ _); first | ((with_reducible apply wq_stW hm); (exact rfl); infer_instance; (exact rfl); (exact rfl); (focus ((repeat (first | exact .hd | assumption | apply Swap.tl)); done)); (focus (first | rfl | omega | (simp; done) | (simp; omega) | fail)); (focus (first | rfl | omega | (simp; done) | (simp; omega) | fail)); (focus (first | exact one_map _ | (simp [one8, one32, one64]; done) | fail))) | fail)); clear hm; intro w hm) | fail)
  refine ret_own hm rfl rfl (by infer_instance) (by repeat (first | exact Has.hd | assumption | apply Has.tl)) (by first | rfl | omega | (simp only [zeros_length, zer_length, tab_length, part_length, setN_length, List.length_map, List.length_cons, List.length_nil, List.length_append, List.length_take, List.length_drop, List.length_replicate, blk_length, putL_length] <;> omega) | fail) rfl ⟨rfl, hm.x⟩

/-- The length of a slice. -/
def slen : Value → Nat
  | .slice _ n _ => n
  | _ => 0
set_option maxHeartbeats 4000000 in
theorem hpart_any (kv : Value) (F : Int → List Byte → List Byte) (hF : ∀ m x, (F m x).length = 16) (j : Int) (b : List Byte) (p : Option Addr) (c : Nat) (w0 : World) (hb : RdB w0 p b) (hc : b.length ≤ c) (hl : b.length ≤ 70368744177000)
    (CE : ∀ wx, Ext w0 wx → ∀ (m : Int) (x : List Byte), x.length = 16 → m ≤ 9223372036854775807 → Gives Tryd.prog 29 #[kv, .int .i64 j, .int .i64 m, A8 x] wx (A8 (F m x))) :
    Gives Tryd.prog 21 #[kv, .int .i64 j, .slice p b.length c] w0 (A8 (partG F b)) := by
  unfold Gives
  have hm := Own.start w0
  have HB := Lib.hid hb
  have HE := Lib.hid CE
  have HF := Lib.hid hF
  have lG := partG_length F b
  have E0 := Lib.hid (partF_length F b)
  -- the rest, with its mark
  have MK := Lib.hid fun (wx : World) (q : Option Addr) (cq : Nat) (n : Nat) (h : RdB wx q (b.drop (16 * n))) => show GivesR Tryd.prog 54 #[.slice q (b.length - 16 * n) cq, .int .u8 128, .int .i64 16] wx (BytesS (marked (b.drop (16 * n)) 128#8 16)) from by
    have := marked_any (b.drop (16 * n)) q cq 128#8 16 wx h (by rw [List.length_drop]; omega) (by omega) (by omega)
    rw [List.length_drop] at this; exact this
  by_cases h0 : b.length = 0
  · have eG : Hid (bothL (zer 16) (F 0 (blk (marked (b.drop (16 * 0)) 128#8 16))) = partG F b) := Lib.hid (by
      have hz : b.length / 16 = 0 := by omega
      rw [partG, if_pos (.inl h0), hz, partF, blk_marked _ (by rw [List.length_drop]; omega)])
    have M1 := fun wx q cq h => MK.out wx q cq 0 h
    rw [h0] at M1
    have B1 := Lib.hid fun (wx : World) (q : Option Addr) (cq : Nat) (h : RdB wx q (marked (b.drop (16 * 0)) 128#8 16)) => oblock_any _ q cq wx h
    have lB := blk_length (marked (b.drop (16 * 0)) 128#8 16)
    have B2 := Lib.hid fun wx hx => HE.out wx hx 0 (blk (marked (b.drop (16 * 0)) 128#8 16)) lB (by omega)
    have l2 := HF.out 0 (blk (marked (b.drop (16 * 0)) 128#8 16))
    have lz : (zer (n := 8) 16).length = 16 := zer_length
    have B3 := Lib.hid fun wx => hplus_any (zer 16) (F 0 (blk (marked (b.drop (16 * 0)) 128#8 16))) lz l2 wx
    rw [eG.out] at B3
    have M2 := Lib.hid M1
    rw [h0]
    generalize F 0 (blk (marked (b.drop (16 * 0)) 128#8 16)) = Y at *
    generalize blk (marked (b.drop (16 * 0)) 128#8 16) = Z at *
    generalize marked (b.drop (16 * 0)) 128#8 16 = M at *
    generalize partG F b = D at *
    have HB0 : Hid (∀ wx, Ext w0 wx → RdB wx p (b.drop (16 * 0))) := Lib.hid fun wx h => HB.out.ext h
    clear M1 h0 hl hc CE hb hF eG
    go_enter Tryd.func21, Tryd.ntmps21
    go_wp2_with (first | ((first | ((with_reducible show wpList _ _ _ (Oper.mk _ (Op.alloc _) _ _ _ _ :: _) _ _); first | ((with_reducible apply wq_new hm); (exact rfl); infer_instance) | fail)); clear hm; (first | (have hx_ := g1; clear hx_; (first | (have hx_ := g2; clear hx_; (first | (have hx_ := g3; clear hx_; (first | (have hx_ := g4; clear hx_; (first | (have hx_ := g5; clear hx_; (first | (have hx_ := g6; clear hx_; (first | (have hx_ := g7; clear hx_; (first | (have hx_ := g8; clear hx_; (first | (have hx_ := g9; clear hx_; intro g10) | intro g9)) | intro g8)) | intro g7)) | intro g6)) | intro g5)) | intro g4)) | intro g3)) | intro g2)) | intro g1); intro w hm) | fail)
    refine wp_scope_goto 0 (fun a_ w_ => ∃ (gb : Nat) (u3 u4 u5 u8 u9 u10 u11 u12 u13 u14 u15 u16 u17 u18 u19 u20 u21 u22 u23 u24 u25 u26 u27 u28 u29 u30 u31 u32 u33 u34 u35 u36 u37 u38 : Value), a_ = { tmps := #[kv, (.int .i64 j), (.slice p 0 c), u3, u4, u5, (.pointer (some ⟨g1, 0, none⟩)), (.pointer (some ⟨gb, 0, none⟩)), u8, u9, u10, u11, u12, u13, u14, u15, u16, u17, u18, u19, u20, u21, u22, u23, u24, u25, u26, u27, u28, u29, u30, u31, u32, u33, u34, u35, u36, u37, u38], defers := [] } ∧ Own w0 w_ [⟨gb, 27, (zer 16).map v8⟩, ⟨g1, 27, (zer 16).map v8⟩]) (fun _ _ => 0) rfl ?_ ?_
    · clear hm
      rintro a' w ⟨gb, u3, u4, u5, u8, u9, u10, u11, u12, u13, u14, u15, u16, u17, u18, u19, u20, u21, u22, u23, u24, u25, u26, u27, u28, u29, u30, u31, u32, u33, u34, u35, u36, u37, u38, rfl, hm⟩
      go_wp2_with fail
      have hx0 := hm.x
      have c1 := fun wx (hwx : Ext w wx) => M2.out wx p c (HB0.out wx (hx0.trans hwx))
      refine region_at 8 (fun w' => Ext _ w') 39 (by kernel_rfl) (by kernel_rfl) rfl (fun _ _ h k => h.trans k) (drew_ext _) ?_
      simp only [List.take_succ_cons, List.take_zero, List.drop_succ_cons, List.drop_zero, List.map_cons, List.map_nil]
      repeat (first
          | (apply walk_some (BytesS M) 35 (BytesS.stable _) rfl rfl rfl rfl
             · (intro wx hwx; go_simp; with_reducible exact gives_callR (c1 wx hwx)))
          | (apply walk_from (T := [(35, BytesS M)]) rfl rfl
             · (intro wx hwx; simp only [withS]; (rintro x ⟨q, cq, rfl, hlc, hb'⟩); refine ⟨rfl, ?_⟩; go_simp; with_reducible exact gives_call (B1.out wx q cq hb'))
             · (simp only [Act.put, List.setIfInBounds_toArray, List.set_cons_succ, List.set_cons_zero]; rfl))
          | (apply walk_is rfl rfl rfl
             · (intro wx hwx; first | ((with_reducible show gives _ _ _ (Sem.run _ (execOp _ (Oper.mk _ (Op.load _ _) _ _ _ _)) _)); first | ((with_reducible apply gq_ldv (hm.ext hwx)); infer_instance; (exact rfl); (focus ((repeat (first | exact .hd | assumption | apply Has.tl)); done)); (focus (first | omega | (simp; omega) | (refine Nat.lt_of_lt_of_le (BitVec.isLt _) ?_; first | omega | (simp; done) | (simp; omega) | fail) | fail))) | ((with_reducible apply gq_ldW (hm.ext hwx)); infer_instance; (exact rfl); (focus ((repeat (first | exact .hd | assumption | apply Has.tl)); done)); (focus (first | rfl | omega | (simp; done) | (simp; omega) | fail))) | ((with_reducible apply gq_ld1 (hm.ext hwx)); infer_instance; (exact rfl); (focus ((repeat (first | exact .hd | assumption | apply Has.tl)); done)); (exact rfl)) | fail) | (go_simp; (try go_bits); first | exact gives_same | exact gives_skip | with_reducible exact gives_call (B2.out wx (hx0.trans hwx)) | with_reducible exact gives_call (B3.out wx)))
             · (simp only [Act.put, List.setIfInBounds_toArray, List.set_cons_succ, List.set_cons_zero]; rfl))
          | (apply walk_not rfl rfl rfl
             · (simp only [Act.put, List.setIfInBounds_toArray, List.set_cons_succ, List.set_cons_zero]; rfl)))
      intro wz hwz
      simp only [List.zip_cons_cons, List.zip_nil_right]
      repeat (first | rw [fin_is] | (rw [fin_cons]; intro _ _))
      rw [fin_nil]
      try (replace hm := hm.ext hwz)
      simp only [Act.put, List.setIfInBounds_toArray, List.set_cons_succ, List.set_cons_zero]
      clear c1 hx0
      go_wp2_with (first | ((((with_reducible show wpList _ _ _ (Oper.mk _ (Op.store _ _ _) _ _ _ _ :: _) _ _); first | ((with_reducible apply wq_stW hm); (exact rfl); infer_instance; (exact rfl); (exact rfl); (focus ((repeat (first | exact .hd | assumption | apply Swap.tl)); done)); (focus (first | rfl | omega | (simp; done) | (simp; omega) | fail)); (focus (first | rfl | omega | (simp; done) | (simp; omega) | fail)); (focus (first | exact one_map _ | (simp [one8, one32, one64]; done) | fail))) | fail)); clear hm; intro w hm) | fail)
      simp only [Exit.jump]
      refine ret_own hm rfl rfl (by infer_instance) (by repeat (first | exact Has.hd | assumption | apply Has.tl)) (by first | rfl | omega | (simp only [zeros_length, zer_length, tab_length, part_length, setN_length, List.length_map, List.length_cons, List.length_nil, List.length_append, List.length_take, List.length_drop, List.length_replicate, blk_length, putL_length] <;> omega) | fail) rfl ⟨rfl, hm.x⟩
    · intro hp
      go_wp2_with (first | ((first | ((with_reducible show wpList _ _ _ (Oper.mk _ (Op.alloc _) _ _ _ _ :: _) _ _); first | ((with_reducible apply wq_new hm); (exact rfl); infer_instance) | fail)); clear hm; (first | (have hx_ := g1; clear hx_; (first | (have hx_ := g2; clear hx_; (first | (have hx_ := g3; clear hx_; (first | (have hx_ := g4; clear hx_; (first | (have hx_ := g5; clear hx_; (first | (have hx_ := g6; clear hx_; (first | (have hx_ := g7; clear hx_; (first | (have hx_ := g8; clear hx_; (first | (have hx_ := g9; clear hx_; intro g10) | intro g9)) | intro g8)) | intro g7)) | intro g6)) | intro g5)) | intro g4)) | intro g3)) | intro g2)) | intro g1); intro w hm) | fail)
      go_step3
      exact ⟨rfl, ⟨_, _, _, _, _, _, _, _, _, _, _, _, _, _, _, _, _, _, _, _, _, _, _, _, _, _, _, _, _, _, _, _, _, _, _, rfl, hm⟩⟩
  · have hz0 : ((b.length : Int) == 0) = false := by rw [beq_eq_false_iff_ne]; omega
    have HN0 := Lib.hid h0
    clear CE hb hF
    go_enter Tryd.func21, Tryd.ntmps21
    go_wp2_with (first | ((first | ((with_reducible show wpList _ _ _ (Oper.mk _ (Op.alloc _) _ _ _ _ :: _) _ _); first | ((with_reducible apply wq_new hm); (exact rfl); infer_instance) | fail)); clear hm; (first | (have hx_ := g1; clear hx_; (first | (have hx_ := g2; clear hx_; (first | (have hx_ := g3; clear hx_; (first | (have hx_ := g4; clear hx_; (first | (have hx_ := g5; clear hx_; (first | (have hx_ := g6; clear hx_; (first | (have hx_ := g7; clear hx_; (first | (have hx_ := g8; clear hx_; (first | (have hx_ := g9; clear hx_; intro g10) | intro g9)) | intro g8)) | intro g7)) | intro g6)) | intro g5)) | intro g4)) | intro g3)) | intro g2)) | intro g1); intro w hm) | fail)
    refine wp_scope_goto 1 (fun a_ w_ => ∃ (n m cq : Nat) (q : Option Addr) (gb : Nat) (u3 u4 u5 u9 u10 u11 u12 u13 u14 u15 u16 u17 u18 u19 u20 u21 u22 u23 u24 u25 u26 u27 u28 u29 u30 u31 u32 u33 u34 u35 u36 u37 u38 : Value), a_ = { tmps := #[kv, (.int .i64 j), (.slice q m cq), u3, u4, u5, (.pointer (some ⟨g1, 0, none⟩)), (.pointer (some ⟨gb, 0, none⟩)), (.int .i64 (n : Int)), u9, u10, u11, u12, u13, u14, u15, u16, u17, u18, u19, u20, u21, u22, u23, u24, u25, u26, u27, u28, u29, u30, u31, u32, u33, u34, u35, u36, u37, u38], defers := [] } ∧ m = b.length - 16 * n ∧ 16 * n ≤ b.length ∧ m ≤ cq ∧ RdB w0 q (b.drop (16 * n)) ∧ Own w0 w_ [⟨gb, 27, (partF F b n).map v8⟩, ⟨g1, 27, (zer 16).map v8⟩]) (fun a_ _ => slen (a_.tmps.getD 2 undef)) rfl ?_ ?_
    · clear hm
      rintro a' w ⟨n, m, cq, q, gb, u3, u4, u5, u9, u10, u11, u12, u13, u14, u15, u16, u17, u18, u19, u20, u21, u22, u23, u24, u25, u26, u27, u28, u29, u30, u31, u32, u33, u34, u35, u36, u37, u38, rfl, ⟨hmn, hnb, hmc, hrd, hm⟩⟩
      have HRD := Lib.hid hrd
      have HMN := Lib.hid hmn
      have HNB := Lib.hid hnb
      have lP := E0.out n
      by_cases h16 : 16 ≤ m
      · obtain ⟨a, rfl⟩ := Option.isSome_iff_exists.1 (hrd.1 (by rw [List.length_drop]; omega))
        have d1 : decide ((16 : Int) ≤ (m : Int)) = true := decide_eq_true (by omega)
        have d2 : decide ((m : Int) ≥ 16) = true := decide_eq_true (by omega)
        have d3 : (16 : Int) ≤ (m : Int) := by omega
        have B1 := Lib.hid fun (wx : World) (h : RdB wx (some a) (b.drop (16 * n))) => show Gives Tryd.prog 53 #[.slice (some a) m cq] wx (A8 (blk (b.drop (16 * n)))) from by
          have := oblock_any (b.drop (16 * n)) (some a) cq wx h
          rwa [List.length_drop, ← HMN.out] at this
        have lB := blk_length (b.drop (16 * n))
        have B2 := Lib.hid fun wx hx => HE.out wx hx ((n : Int) + 1) (blk (b.drop (16 * n))) lB (by omega)
        have l2 := HF.out ((n : Int) + 1) (blk (b.drop (16 * n)))
        have b3 := fun wx => hplus_any (partF F b n) (F ((n : Int) + 1) (blk (b.drop (16 * n)))) lP l2 wx
        rw [show bothL (partF F b n) (F ((n : Int) + 1) (blk (b.drop (16 * n)))) = partF F b (n + 1) from rfl] at b3
        have B3 := Lib.hid b3
        have lP2 := E0.out (n + 1)
        have w1 : (n : Int) + 1 ≤ 9223372036854775807 := by omega
        have HRX := Lib.hid fun (wx : World) (h : Ext w0 wx) => hrd.ext h
        have AD : a.add 16 = { block := a.block, off := a.off + 16 } := by unfold Addr.add; split <;> first | rfl | omega | (simp_all; done)
        have HD : Hid (RdB w0 (some { block := a.block, off := a.off + 16 }) (b.drop (16 * (n + 1)))) := Lib.hid (by
          have := hrd.drop 16
          rw [AD, List.drop_drop] at this
          rwa [show 16 * (n + 1) = 16 * n + 16 by omega])
        have HD0 : Hid (m = 16 → RdB w0 (some a) (b.drop (16 * (n + 1)))) := Lib.hid fun h => by
          rw [List.drop_eq_nil_of_le (by omega)]; exact RdB.nil _ _
        clear b3 hrd AD hnb
        generalize F ((n : Int) + 1) (blk (b.drop (16 * n))) = Y at *
        generalize blk (b.drop (16 * n)) = Z at *
        generalize hP2 : partF F b (n + 1) = P2 at *
        generalize partF F b n = P1 at *
        have HP2 := Lib.hid hP2
        clear hP2
        by_cases hcq : cq = 16
        · obtain rfl : m = 16 := by omega
          subst hcq
          clear hmn
          go_wp2_with fail
          have hx0 := hm.x
          refine region_at 8 (fun w' => Ext _ w') 39 (by kernel_rfl) (by kernel_rfl) rfl (fun _ _ h k => h.trans k) (drew_ext _) ?_
          simp only [List.take_succ_cons, List.take_zero, List.drop_succ_cons, List.drop_zero, List.map_cons, List.map_nil]
          repeat (first
              | (apply walk_is rfl rfl rfl
                 · (intro wx hwx; first | ((with_reducible show gives _ _ _ (Sem.run _ (execOp _ (Oper.mk _ (Op.load _ _) _ _ _ _)) _)); first | ((with_reducible apply gq_ldv (hm.ext hwx)); infer_instance; (exact rfl); (focus ((repeat (first | exact .hd | assumption | apply Has.tl)); done)); (focus (first | omega | (simp; omega) | (refine Nat.lt_of_lt_of_le (BitVec.isLt _) ?_; first | omega | (simp; done) | (simp; omega) | fail) | fail))) | ((with_reducible apply gq_ldW (hm.ext hwx)); infer_instance; (exact rfl); (focus ((repeat (first | exact .hd | assumption | apply Has.tl)); done)); (focus (first | rfl | omega | (simp; done) | (simp; omega) | fail))) | ((with_reducible apply gq_ld1 (hm.ext hwx)); infer_instance; (exact rfl); (focus ((repeat (first | exact .hd | assumption | apply Has.tl)); done)); (exact rfl)) | fail) | (go_simp; (try go_bits); first | exact gives_same | exact gives_skip | with_reducible exact gives_call (B1.out wx (HRX.out wx (hx0.trans hwx))) | with_reducible exact gives_call (B2.out wx (hx0.trans hwx)) | with_reducible exact gives_call (B3.out wx)))
                 · (simp only [Act.put, List.setIfInBounds_toArray, List.set_cons_succ, List.set_cons_zero]; rfl))
              | (apply walk_not rfl rfl rfl
                 · (simp only [Act.put, List.setIfInBounds_toArray, List.set_cons_succ, List.set_cons_zero]; rfl)))
          intro wz hwz
          simp only [List.zip_cons_cons, List.zip_nil_right]
          repeat (first | rw [fin_is] | (rw [fin_cons]; intro _ _))
          rw [fin_nil]
          try (replace hm := hm.ext hwz)
          simp only [Act.put, List.setIfInBounds_toArray, List.set_cons_succ, List.set_cons_zero]
          clear hx0
          go_wp2_with (first | ((((with_reducible show wpList _ _ _ (Oper.mk _ (Op.store _ _ _) _ _ _ _ :: _) _ _); first | ((with_reducible apply wq_stW hm); (exact rfl); infer_instance; (exact rfl); (exact rfl); (focus ((repeat (first | exact .hd | assumption | apply Swap.tl)); done)); (focus (first | rfl | omega | (simp; done) | (simp; omega) | fail)); (focus (first | rfl | omega | (simp; done) | (simp; omega) | fail)); (focus (first | exact one_map _ | (simp [one8, one32, one64]; done) | fail))) | fail)); clear hm; intro w hm) | fail)
          go_step3
          exact ⟨rfl, ⟨_, _, _, _, _, _, _, _, _, _, _, _, _, _, _, _, _, _, _, _, _, _, _, _, _, _, _, _, _, _, _, _, _, _, _, _, _, _, rfl, ⟨by have := HMN.out; show _ = b.length - 16 * (n + 1); omega, by have := HMN.out; show 16 * (n + 1) ≤ b.length; omega, by omega, HD0.out (by first | trivial | rfl), by rw [HP2.out]; exact hm⟩⟩, by simp [slen]⟩
        · have c1 : ¬ (cq : Int) = 16 := by omega
          clear hmn
          go_wp2_with fail
          have hx0 := hm.x
          refine region_at 8 (fun w' => Ext _ w') 39 (by kernel_rfl) (by kernel_rfl) rfl (fun _ _ h k => h.trans k) (drew_ext _) ?_
          simp only [List.take_succ_cons, List.take_zero, List.drop_succ_cons, List.drop_zero, List.map_cons, List.map_nil]
          repeat (first
              | (apply walk_is rfl rfl rfl
                 · (intro wx hwx; first | ((with_reducible show gives _ _ _ (Sem.run _ (execOp _ (Oper.mk _ (Op.load _ _) _ _ _ _)) _)); first | ((with_reducible apply gq_ldv (hm.ext hwx)); infer_instance; (exact rfl); (focus ((repeat (first | exact .hd | assumption | apply Has.tl)); done)); (focus (first | omega | (simp; omega) | (refine Nat.lt_of_lt_of_le (BitVec.isLt _) ?_; first | omega | (simp; done) | (simp; omega) | fail) | fail))) | ((with_reducible apply gq_ldW (hm.ext hwx)); infer_instance; (exact rfl); (focus ((repeat (first | exact .hd | assumption | apply Has.tl)); done)); (focus (first | rfl | omega | (simp; done) | (simp; omega) | fail))) | ((with_reducible apply gq_ld1 (hm.ext hwx)); infer_instance; (exact rfl); (focus ((repeat (first | exact .hd | assumption | apply Has.tl)); done)); (exact rfl)) | fail) | (go_simp; (try go_bits); first | exact gives_same | exact gives_skip | with_reducible exact gives_call (B1.out wx (HRX.out wx (hx0.trans hwx))) | with_reducible exact gives_call (B2.out wx (hx0.trans hwx)) | with_reducible exact gives_call (B3.out wx)))
                 · (simp only [Act.put, List.setIfInBounds_toArray, List.set_cons_succ, List.set_cons_zero]; rfl))
              | (apply walk_not rfl rfl rfl
                 · (simp only [Act.put, List.setIfInBounds_toArray, List.set_cons_succ, List.set_cons_zero]; rfl)))
          intro wz hwz
          simp only [List.zip_cons_cons, List.zip_nil_right]
          repeat (first | rw [fin_is] | (rw [fin_cons]; intro _ _))
          rw [fin_nil]
          try (replace hm := hm.ext hwz)
          simp only [Act.put, List.setIfInBounds_toArray, List.set_cons_succ, List.set_cons_zero]
          clear hx0
          go_wp2_with (first | ((((with_reducible show wpList _ _ _ (Oper.mk _ (Op.store _ _ _) _ _ _ _ :: _) _ _); first | ((with_reducible apply wq_stW hm); (exact rfl); infer_instance; (exact rfl); (exact rfl); (focus ((repeat (first | exact .hd | assumption | apply Swap.tl)); done)); (focus (first | rfl | omega | (simp; done) | (simp; omega) | fail)); (focus (first | rfl | omega | (simp; done) | (simp; omega) | fail)); (focus (first | exact one_map _ | (simp [one8, one32, one64]; done) | fail))) | fail)); clear hm; intro w hm) | fail)
          go_step3
          exact ⟨rfl, ⟨_, _, _, _, _, _, _, _, _, _, _, _, _, _, _, _, _, _, _, _, _, _, _, _, _, _, _, _, _, _, _, _, _, _, _, _, _, _, rfl, ⟨by have := HMN.out; show _ = b.length - 16 * (n + 1); omega, by have := HMN.out; show 16 * (n + 1) ≤ b.length; omega, by omega, HD.out, by rw [HP2.out]; exact hm⟩⟩, by simp [slen]; omega⟩
      · have d1 : decide ((16 : Int) ≤ (m : Int)) = false := decide_eq_false (by omega)
        have d2 : decide ((m : Int) ≥ 16) = false := decide_eq_false (by omega)
        have d3 : ¬ (16 : Int) ≤ (m : Int) := by omega
        have hn : b.length / 16 = n := by omega
        by_cases hm0 : m = 0
        · have eG : partF F b n = partG F b := by rw [partG, if_neg (by omega), hn]
          rw [eG] at hm lP
          subst hm0
          clear hmn hnb hrd eG
          go_wp2_with (first | ((with_reducible show wpList _ _ _ (Oper.mk _ (Op.load _ _) _ _ _ _ :: _) _ _); first | ((with_reducible apply wq_ldW hm); (exact rfl); infer_instance; (exact rfl); (focus ((repeat (first | exact .hd | assumption | apply Has.tl)); done)); (focus (first | rfl | omega | (simp; done) | (simp; omega) | fail))) | fail) | ((((with_reducible show wpList _ _ _ (Oper.mk _ (Op.store _ _ _) _ _ _ _ :: _) _ _); first | ((with_reducible apply wq_stW hm); (exact rfl); infer_instance; (exact rfl); (exact rfl); (focus ((repeat (first | exact .hd | assumption | apply Swap.tl)); done)); (focus (first | rfl | omega | (simp; done) | (simp; omega) | fail)); (focus (first | rfl | omega | (simp; done) | (simp; omega) | fail)); (focus (first | exact one_map _ | (simp [one8, one32, one64]; done) | fail))) | fail)); clear hm; intro w hm) | fail)
          simp only [Exit.jump]
          refine ret_own hm rfl rfl (by infer_instance) (by repeat (first | exact Has.hd | assumption | apply Has.tl)) (by first | rfl | omega | (simp only [zeros_length, zer_length, tab_length, part_length, setN_length, List.length_map, List.length_cons, List.length_nil, List.length_append, List.length_take, List.length_drop, List.length_replicate, blk_length, putL_length] <;> omega) | fail) rfl ⟨rfl, hm.x⟩
        · have e0 : ((m : Int) == 0) = false := by rw [beq_eq_false_iff_ne]; omega
          have eG : bothL (partF F b n) (F 0 (blk (marked (b.drop (16 * n)) 128#8 16))) = partG F b := by
            rw [partG, if_pos (.inr (by omega)), hn, blk_marked _ (by rw [List.length_drop]; omega)]
          have m1 := fun wx h => MK.out wx q cq n h
          rw [← hmn] at m1
          have M1 := Lib.hid m1
          have B1 := Lib.hid fun (wx : World) (q : Option Addr) (cq : Nat) (h : RdB wx q (marked (b.drop (16 * n)) 128#8 16)) => oblock_any _ q cq wx h
          have lB := blk_length (marked (b.drop (16 * n)) 128#8 16)
          have B2 := Lib.hid fun wx hx => HE.out wx hx 0 (blk (marked (b.drop (16 * n)) 128#8 16)) lB (by omega)
          have l2 := HF.out 0 (blk (marked (b.drop (16 * n)) 128#8 16))
          have b3 := fun wx => hplus_any (partF F b n) (F 0 (blk (marked (b.drop (16 * n)) 128#8 16))) lP l2 wx
          rw [eG] at b3
          have B3 := Lib.hid b3
          have HRX := Lib.hid fun (wx : World) (h : Ext w0 wx) => hrd.ext h
          clear b3 hrd m1 eG hmn hnb hm0
          generalize F 0 (blk (marked (b.drop (16 * n)) 128#8 16)) = Y at *
          generalize blk (marked (b.drop (16 * n)) 128#8 16) = Z at *
          generalize marked (b.drop (16 * n)) 128#8 16 = M at *
          generalize partF F b n = P1 at *
          go_wp2_with fail
          go_step3
          go_wp2_with fail
          have hx0 := hm.x
          have c1 := fun wx (hwx : Ext w wx) => M1.out wx (HRX.out wx (hx0.trans hwx))
          refine region_at 8 (fun w' => Ext _ w') 39 (by kernel_rfl) (by kernel_rfl) rfl (fun _ _ h k => h.trans k) (drew_ext _) ?_
          simp only [List.take_succ_cons, List.take_zero, List.drop_succ_cons, List.drop_zero, List.map_cons, List.map_nil]
          repeat (first
              | (apply walk_some (BytesS M) 35 (BytesS.stable _) rfl rfl rfl rfl
                 · (intro wx hwx; go_simp; with_reducible exact gives_callR (c1 wx hwx)))
              | (apply walk_from (T := [(35, BytesS M)]) rfl rfl
                 · (intro wx hwx; simp only [withS]; (rintro x ⟨q', cq', rfl, hlc, hb'⟩); refine ⟨rfl, ?_⟩; go_simp; with_reducible exact gives_call (B1.out wx q' cq' hb'))
                 · (simp only [Act.put, List.setIfInBounds_toArray, List.set_cons_succ, List.set_cons_zero]; rfl))
              | (apply walk_is rfl rfl rfl
                 · (intro wx hwx; first | ((with_reducible show gives _ _ _ (Sem.run _ (execOp _ (Oper.mk _ (Op.load _ _) _ _ _ _)) _)); first | ((with_reducible apply gq_ldv (hm.ext hwx)); infer_instance; (exact rfl); (focus ((repeat (first | exact .hd | assumption | apply Has.tl)); done)); (focus (first | omega | (simp; omega) | (refine Nat.lt_of_lt_of_le (BitVec.isLt _) ?_; first | omega | (simp; done) | (simp; omega) | fail) | fail))) | ((with_reducible apply gq_ldW (hm.ext hwx)); infer_instance; (exact rfl); (focus ((repeat (first | exact .hd | assumption | apply Has.tl)); done)); (focus (first | rfl | omega | (simp; done) | (simp; omega) | fail))) | ((with_reducible apply gq_ld1 (hm.ext hwx)); infer_instance; (exact rfl); (focus ((repeat (first | exact .hd | assumption | apply Has.tl)); done)); (exact rfl)) | fail) | (go_simp; (try go_bits); first | exact gives_same | exact gives_skip | with_reducible exact gives_call (B2.out wx (hx0.trans hwx)) | with_reducible exact gives_call (B3.out wx)))
                 · (simp only [Act.put, List.setIfInBounds_toArray, List.set_cons_succ, List.set_cons_zero]; rfl))
              | (apply walk_not rfl rfl rfl
                 · (simp only [Act.put, List.setIfInBounds_toArray, List.set_cons_succ, List.set_cons_zero]; rfl)))
          intro wz hwz
          simp only [List.zip_cons_cons, List.zip_nil_right]
          repeat (first | rw [fin_is] | (rw [fin_cons]; intro _ _))
          rw [fin_nil]
          try (replace hm := hm.ext hwz)
          simp only [Act.put, List.setIfInBounds_toArray, List.set_cons_succ, List.set_cons_zero]
          clear c1 hx0
          go_wp2_with (first | ((((with_reducible show wpList _ _ _ (Oper.mk _ (Op.store _ _ _) _ _ _ _ :: _) _ _); first | ((with_reducible apply wq_stW hm); (exact rfl); infer_instance; (exact rfl); (exact rfl); (focus ((repeat (first | exact .hd | assumption | apply Swap.tl)); done)); (focus (first | rfl | omega | (simp; done) | (simp; omega) | fail)); (focus (first | rfl | omega | (simp; done) | (simp; omega) | fail)); (focus (first | exact one_map _ | (simp [one8, one32, one64]; done) | fail))) | fail)); clear hm; intro w hm) | fail)
          simp only [Exit.jump]
          refine ret_own hm rfl rfl (by infer_instance) (by repeat (first | exact Has.hd | assumption | apply Has.tl)) (by first | rfl | omega | (simp only [zeros_length, zer_length, tab_length, part_length, setN_length, List.length_map, List.length_cons, List.length_nil, List.length_append, List.length_take, List.length_drop, List.length_replicate, blk_length, putL_length] <;> omega) | fail) rfl ⟨rfl, hm.x⟩
    · intro hp
      go_wp2_with (first | ((first | ((with_reducible show wpList _ _ _ (Oper.mk _ (Op.alloc _) _ _ _ _ :: _) _ _); first | ((with_reducible apply wq_new hm); (exact rfl); infer_instance) | fail)); clear hm; (first | (have hx_ := g1; clear hx_; (first | (have hx_ := g2; clear hx_; (first | (have hx_ := g3; clear hx_; (first | (have hx_ := g4; clear hx_; (first | (have hx_ := g5; clear hx_; (first | (have hx_ := g6; clear hx_; (first | (have hx_ := g7; clear hx_; (first | (have hx_ := g8; clear hx_; (first | (have hx_ := g9; clear hx_; intro g10) | intro g9)) | intro g8)) | intro g7)) | intro g6)) | intro g5)) | intro g4)) | intro g3)) | intro g2)) | intro g1); intro w hm) | fail)
      go_step3
      rename_i hK
      exact hK _ _ (hp _ _ ⟨_, _, _, _, _, _, _, _, _, _, _, _, _, _, _, _, _, _, _, _, _, _, _, _, _, _, _, _, _, _, _, _, _, _, _, _, _, _, rfl, ⟨rfl, Nat.zero_le _, hc, HB.out, hm⟩⟩)

end Go.Proofs.YtmgopjeaehmbfaaDoor
