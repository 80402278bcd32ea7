/-
  Layer 19, the document's: a message, flipped if it is short. Conditions: those written in each theorem.
  Slices of slices: from a place on, up to a place. Conditions: those written in each theorem.
  Layer 19, the document's: what a half brings to the other one. Conditions: those written in each theorem.
-/
import Derived.Test.YtaijfigohlkccaaGreatDoorZTinyTurns0
import Derived.Test.YtaijfigohlkccaaGreatDoorZTinyTurns19
import Derived.Test.YtaijfigohlkccaaGreatDoorZTinyTurns16
import Derived.Test.YtaijfigohlkccaaGreatDoorZTinyTurns25
import Derived.Test.YtaijfigohlkccaaGreatDoorZTinyTurns6
namespace Go.Proofs.YtaijfigohlkccaaGreatDoor
open Go Go.RowKit
set_option maxRecDepth 100000
set_option linter.unusedVariables false
set_option linter.unusedSimpArgs false

theorem or_low : ∀ x : Byte, x < 128#8 → x + 128#8 = x ||| 128#8 := by decide +kernel
theorem or_high : ∀ x : Byte, ¬ x < 128#8 → x ||| 128#8 = x := by decide +kernel
theorem and_low : ∀ x : Byte, ¬ 128#8 ≤ x → x &&& 128#8 = 0#8 := by decide +kernel
theorem and_high : ∀ x : Byte, 128#8 ≤ x → x &&& 128#8 = 128#8 := by decide +kernel
theorem set_same (l : List Byte) (i : Nat) : setN l i (nth l i) = l := nth_ext (setN_length ..) fun j hj => by
  rw [setN_length] at hj
  rw [nth_set hj]
  by_cases e : i = j
  · rw [if_pos e, e]
  · rw [if_neg e]
set_option maxHeartbeats 8000000 in
theorem rr_flip (R : List Byte) (hR : R.length = 560) (F : Int → Int → List Byte → List Byte) (hF : ∀ j m x, (F j m x).length = 16) (h : List Byte) (hh : h.length = 16) (l : List Byte) (p : Option Addr) (c : Nat) (hl : l.length ≤ 1000) (w0 : World) (hr : RdB w0 p l)
    (CE : ∀ wx, Ext w0 wx → ∀ (j m : Int) (x : List Byte), x.length = 16 → -1 ≤ j → j ≤ 9223372036854775807 → 0 ≤ m → m ≤ 9223372036854775807 → Gives Tryz.prog 44 #[A8 R, .int .i64 j, .int .i64 m, A8 x] wx (A8 (F j m x))) :
    Calls Tryz.prog 24 #[A8 R, A8 h, .slice p l.length c] w0 fun e w' => ∃ v M, e = .returned v ∧ SlO M 5 1 v l.length ((flipL F h l).map v8) ∧ Own w0 w' M := by
  have hm := Own.start w0
  have HL := Lib.hid hr
  have FIT := Lib.hid (show (0 + l.length) * (1 + 1) ≤ 140737488355328 by omega)
  have LY := Lib.hid (show (l.map v8).length = l.length * 1 by simp)
  by_cases hs : l.length = 0 ∨ 16 ≤ l.length
  · have eF : flipL F h l = l := if_pos hs
    rw [eF]
    clear eF hr CE hF
    by_cases h0 : l.length = 0
    · have a1 : decide ((l.length : Int) < 1) = true := decide_eq_true (by omega)
      have a2 : (l.length : Int) < 1 := by omega
      clear hs h0
      go_enter Tryz.func24, Tryz.ntmps24
      go_wp2_with (first | ((with_reducible apply wq_bs0 bs0_b hm); exact rfl; clear hm; intro gz w hm) | ((with_reducible show wpList _ _ _ (Oper.mk _ (Op.call _) _ _ _ _ :: _) _ _); refine wplO_app (M := [⟨gz, 5, []⟩]) (R := [⟨g2, 36, h.map v8⟩, ⟨g1, 39, R.map v8⟩]) (ds := l.map v8) hm (slo_room0 gz _ 1) rfl rfl rfl rfl Tryz.underlying22 LY.out (cellsB (HL.out.ext hm.x)) (one_map _) FIT.out ?_; clear hm; intro v1 w M1 hm hs1; obtain ⟨p_v1, c_v1, rfl⟩ := hs1.form; simp only [Nat.zero_add, List.nil_append] at hs1 ⊢) | ((first | ((with_reducible show wpList _ _ _ (Oper.mk _ (Op.box _ _) _ _ _ _ :: _) _ _); first | ((with_reducible apply wq_boxN hm); (exact rfl); (exact rfl)) | fail)); clear hm; (first | (have hx_ := g1; clear hx_; (first | (have hx_ := g2; clear hx_; intro gx_) | intro g2)) | intro g1); intro w hm) | fail)
      go_ret
      first | exact ⟨.slice p_v1 l.length c_v1, M1, rfl, hs1, (hm.perm List.perm_append_comm).dropN⟩ | exact ⟨.slice p_v1 l.length c_v1, rfl, M1, hs1, (hm.perm List.perm_append_comm).dropN⟩
    · have a1 : decide ((l.length : Int) < 1) = false := decide_eq_false (by omega)
      have a2 : ¬ (l.length : Int) < 1 := by omega
      have a3 : decide ((15 : Int) < (l.length : Int)) = true := decide_eq_true (by omega)
      have a4 : (15 : Int) < (l.length : Int) := by omega
      clear hs h0
      go_enter Tryz.func24, Tryz.ntmps24
      go_wp2_with (first | ((with_reducible apply wq_bs0 bs0_b hm); exact rfl; clear hm; intro gz w hm) | ((with_reducible show wpList _ _ _ (Oper.mk _ (Op.call _) _ _ _ _ :: _) _ _); refine wplO_app (M := [⟨gz, 5, []⟩]) (R := [⟨g2, 36, h.map v8⟩, ⟨g1, 39, R.map v8⟩]) (ds := l.map v8) hm (slo_room0 gz _ 1) rfl rfl rfl rfl Tryz.underlying22 LY.out (cellsB (HL.out.ext hm.x)) (one_map _) FIT.out ?_; clear hm; intro v1 w M1 hm hs1; obtain ⟨p_v1, c_v1, rfl⟩ := hs1.form; simp only [Nat.zero_add, List.nil_append] at hs1 ⊢) | ((first | ((with_reducible show wpList _ _ _ (Oper.mk _ (Op.box _ _) _ _ _ _ :: _) _ _); first | ((with_reducible apply wq_boxN hm); (exact rfl); (exact rfl)) | fail)); clear hm; (first | (have hx_ := g1; clear hx_; (first | (have hx_ := g2; clear hx_; intro gx_) | intro g2)) | intro g1); intro w hm) | fail)
      go_ret
      first | exact ⟨.slice p_v1 l.length c_v1, M1, rfl, hs1, (hm.perm List.perm_append_comm).dropN⟩ | exact ⟨.slice p_v1 l.length c_v1, rfl, M1, hs1, (hm.perm List.perm_append_comm).dropN⟩
  · have eF : flipL F h l = setN l 0 (nth l 0 ^^^ (nth (F 0 3 (topB h l)) 0 &&& 128#8)) := if_neg hs
    have a1 : decide ((l.length : Int) < 1) = false := decide_eq_false (by omega)
    have a2 : ¬ (l.length : Int) < 1 := by omega
    have a3 : decide ((15 : Int) < (l.length : Int)) = false := decide_eq_false (by omega)
    have a4 : ¬ (15 : Int) < (l.length : Int) := by omega
    have B1 := Lib.hid fun w (hx : Ext w0 w) => rblock_any l p c w (hr.ext hx) (by omega)
    obtain ⟨B, hB⟩ : ∃ B, B = blk l := ⟨_, rfl⟩
    obtain ⟨S, hS⟩ : ∃ S, S = bothL (setN B 0 (nth B 0 ||| 128#8)) h := ⟨_, rfl⟩
    obtain ⟨X, hX⟩ : ∃ X, X = F 0 3 S := ⟨_, rfl⟩
    rw [← hB] at B1
    have lB : B.length = 16 := by rw [hB]; exact blk_length _
    have lB2 : (setN B 0 (nth B 0 ||| 128#8)).length = 16 := by rw [setN_length]; exact lB
    have lS : S.length = 16 := by rw [hS]; exact bothL_length _ _
    have lX : X.length = 16 := by rw [hX]; exact hF _ _ _
    have eF2 : flipL F h l = setN l 0 (nth l 0 ^^^ (nth X 0 &&& 128#8)) := by rw [eF, hX, hS, hB]; rfl
    rw [eF2]
    have E1 := Lib.hid fun w (hx : Ext w0 w) => hX ▸ CE w hx 0 3 S lS (by omega) (by omega) (by omega) (by omega)
    have P1 := Lib.hid fun (w : World) => (hS ▸ sixteen_any (setN B 0 (nth B 0 ||| 128#8)) h lB2 hh w : Gives Tryz.prog 43 #[A8 (setN B 0 (nth B 0 ||| 128#8)), A8 h] w (A8 S))
    have h0 : 0 < l.length := by omega
    have b1 : (0 : Int) < (l.length : Int) := by omega
    have SS := set_same B 0
    have SL := set_same l 0
    clear hB hS hX eF eF2 hr CE hF hs
    by_cases hb : nth B 0 < 128#8
    · have c1 : decide (((nth B 0).toNat : Int) < 128) = true := decide_eq_true (by have := BitVec.lt_def.1 hb; simp at this; omega)
      have c2 : ((nth B 0).toNat : Int) < 128 := of_decide_eq_true c1
      rw [← or_low _ hb] at P1 lB2
      by_cases hy : 128#8 ≤ nth X 0
      · have c3 : decide (128 ≤ ((nth X 0).toNat : Int)) = true := decide_eq_true (by have := BitVec.le_def.1 hy; simp at this; omega)
        have c4 : 128 ≤ ((nth X 0).toNat : Int) := of_decide_eq_true c3
        rw [and_high _ hy]
        go_enter Tryz.func24, Tryz.ntmps24
        go_wp2_with (first | ((with_reducible apply wq_bs0 bs0_b hm); exact rfl; clear hm; intro gz w hm) | ((with_reducible show wpList _ _ _ (Oper.mk _ (Op.call _) _ _ _ _ :: _) _ _); refine wplO_app (M := [⟨gz, 5, []⟩]) (R := [⟨g2, 36, h.map v8⟩, ⟨g1, 39, R.map v8⟩]) (ds := l.map v8) hm (slo_room0 gz _ 1) rfl rfl rfl rfl Tryz.underlying22 LY.out (cellsB (HL.out.ext hm.x)) (one_map _) FIT.out ?_; clear hm; intro v1 w M1 hm hs1; obtain ⟨p_v1, c_v1, rfl⟩ := hs1.form; simp only [Nat.zero_add, List.nil_append] at hs1 ⊢) | (go_at_call 39; (with_reducible refine (B1.out _ hm.x).mono ?_); rintro e_ w ⟨rfl, hx_⟩; replace hm := hm.ext hx_; clear hx_) | ((with_reducible show wpList _ _ _ (Oper.mk _ (Op.load _ _) _ _ _ _ :: _) _ _); first | ((with_reducible apply wq_ldv hm); (exact rfl); infer_instance; (exact rfl); (focus ((repeat (first | exact .hd | assumption | apply Has.tl | apply Has.app)); done)); (focus (first | omega | (simp; omega) | (refine Nat.lt_of_lt_of_le (BitVec.isLt _) ?_; first | omega | (simp; done) | (simp; omega) | fail) | fail))) | fail) | ((((with_reducible show wpList _ _ _ (Oper.mk _ (Op.store _ _ _) _ _ _ _ :: _) _ _); first | ((with_reducible apply wq_stv hm); (exact rfl); infer_instance; (exact rfl); (focus ((repeat (first | exact .hd | assumption | apply Swap.tl | apply Swap.app)); done)); infer_instance; (exact rfl); (focus (first | omega | (simp; omega) | (refine Nat.lt_of_lt_of_le (BitVec.isLt _) ?_; first | omega | (simp; done) | (simp; omega) | fail) | fail))) | ((with_reducible apply wq_stW hm); (exact rfl); infer_instance; (exact rfl); (exact rfl); (focus ((repeat (first | exact .hd | assumption | apply Swap.tl | apply Swap.app)); done)); (focus (first | rfl | omega | (simp; done) | (simp; omega) | fail)); (focus (first | rfl | omega | (simp; done) | (simp; omega) | fail)); (focus (first | exact one_map _ | (simp [one8, one32, one64]; done) | fail))) | fail)); clear hm; intro w hm) | ((first | ((with_reducible show wpList _ _ _ (Oper.mk _ (Op.alloc _) _ _ _ _ :: _) _ _); first | ((with_reducible apply wq_new hm); (exact rfl); infer_instance) | fail) | ((with_reducible show wpList _ _ _ (Oper.mk _ (Op.box _ _) _ _ _ _ :: _) _ _); first | ((with_reducible apply wq_boxN hm); (exact rfl); (exact rfl)) | fail)); clear hm; (first | (have hx_ := g1; clear hx_; (first | (have hx_ := g2; clear hx_; intro gx_) | intro g2)) | intro g1); intro w hm) | fail)
        obtain ⟨go, o, cur, rfl, rfl, hc1, ho, hlc, hset⟩ := sl_first hs1 h0
        have HSET := Lib.hid hset
        have HS1 := Lib.hid hs1
        have HC1 := Lib.hid hc1
        clear hs1 hset hc1
        simp only [List.cons_append, List.nil_append] at hm
        have ex := fun wx (hwx : Ext w wx) => E1.out wx (hm.x.trans hwx)
        refine region_new 6 (fun w' => Ext _ w') 46 (by kernel_rfl) (by kernel_rfl) rfl (fun _ _ h k => h.trans k) (drew_ext _) ?_
        simp only [tSC, List.take_zero, dSC, List.drop_zero, List.map_cons, List.map_nil]
        repeat (first
            | (apply walk_some (NewS (w.heap.size) 36 ((zer 16).map v8)) 9 (NewS.stable _ _ _) rfl rfl rfl rfl
               · (intro wx hwx; go_simp; exact gives_new (cs := (zer 16).map v8) hwx.size))
            | (apply walk_is rfl rfl rfl
               · (intro wx hwx; first | ((with_reducible show gives _ _ _ (Sem.run _ (execOp _ (Oper.mk _ (Op.load _ _) _ _ _ _)) _)); first | ((with_reducible apply gq_ldv (hm.ext hwx)); infer_instance; (exact rfl); (focus ((repeat (first | exact .hd | assumption | apply Has.tl | apply Has.app)); done)); (focus (first | omega | (simp; omega) | (refine Nat.lt_of_lt_of_le (BitVec.isLt _) ?_; first | omega | (simp; done) | (simp; omega) | fail) | fail))) | ((with_reducible apply gq_ldW (hm.ext hwx)); infer_instance; (exact rfl); (focus ((repeat (first | exact .hd | assumption | apply Has.tl | apply Has.app)); done)); (focus (first | rfl | omega | (simp; done) | (simp; omega) | fail))) | ((with_reducible apply gq_ld1 (hm.ext hwx)); infer_instance; (exact rfl); (focus ((repeat (first | exact .hd | assumption | apply Has.tl | apply Has.app)); done)); (exact rfl)) | fail) | (go_simp; (try go_bits); first | exact gives_same | exact gives_skip | with_reducible exact gives_call (P1.out wx) | with_reducible exact gives_call (ex wx hwx)))
               · (simp only [Act.put, sIB, sCS, sCZ]; rfl))
            | (apply walk_not rfl rfl rfl
               · (simp only [Act.put, sIB, sCS, sCZ]; rfl)))
        intro wz hwz
        simp only [zCC, zNR]
        repeat rw [fin_is]
        rw [fin_cons]; intro x9 hx9
        repeat rw [fin_is]
        rw [fin_nil]; intro hap
        simp only [Act.put, sIB, sCS, sCZ] at hap ⊢
        obtain ⟨g9_, rfl, hg9, hr9⟩ := hx9
        replace hm := hm.push hwz hg9 hr9
        clear hap hr9
        clear ex
        go_wp2_with (first | ((with_reducible apply wq_ld1 hm); (exact rfl); infer_instance; (exact rfl); (focus ((repeat (first | exact .hd | assumption | apply Has.tl | apply Has.app)); done)); (exact HC1.out)) | ((with_reducible show wpList _ _ _ (Oper.mk _ (Op.store _ _ _) _ _ _ _ :: _) _ _); (with_reducible apply wq_stfT (v := v8 (nth l 0 ^^^ 128#8)) hm); (exact rfl); infer_instance; (exact rfl); (exact rfl); (exact rfl); (exact rfl); (focus ((repeat (first | exact .hd | apply Swap.tl | apply Swap.app)); done)); (exact rfl); (first | exact ho | omega); clear hm; intro w hm) | ((with_reducible show wpList _ _ _ (Oper.mk _ (Op.load _ _) _ _ _ _ :: _) _ _); first | ((with_reducible apply wq_ldv hm); (exact rfl); infer_instance; (exact rfl); (focus ((repeat (first | exact .hd | assumption | apply Has.tl | apply Has.app)); done)); (focus (first | omega | (simp; omega) | (refine Nat.lt_of_lt_of_le (BitVec.isLt _) ?_; first | omega | (simp; done) | (simp; omega) | fail) | fail))) | fail) | ((((with_reducible show wpList _ _ _ (Oper.mk _ (Op.store _ _ _) _ _ _ _ :: _) _ _); first | ((with_reducible apply wq_stW hm); (exact rfl); infer_instance; (exact rfl); (exact rfl); (focus ((repeat (first | exact .hd | assumption | apply Swap.tl | apply Swap.app)); done)); (focus (first | rfl | omega | (simp; done) | (simp; omega) | fail)); (focus (first | rfl | omega | (simp; done) | (simp; omega) | fail)); (focus (first | exact one_map _ | (simp [one8, one32, one64]; done) | fail))) | fail)); clear hm; intro w hm) | fail)
        go_ret
        exact ⟨_, _, rfl, HSET.out _, own_subT hm (by repeat (first | exact List.Sublist.refl _ | exact List.nil_sublist _ | apply List.Sublist.cons_cons | apply List.Sublist.cons))⟩
      · have c3 : decide (128 ≤ ((nth X 0).toNat : Int)) = false := decide_eq_false (fun h => hy (BitVec.le_def.2 (by simp; omega)))
        have c4 : ¬ 128 ≤ ((nth X 0).toNat : Int) := of_decide_eq_false c3
        rw [and_low _ hy, show nth l 0 ^^^ 0#8 = nth l 0 by simp, SL]
        go_enter Tryz.func24, Tryz.ntmps24
        go_wp2_with (first | ((with_reducible apply wq_bs0 bs0_b hm); exact rfl; clear hm; intro gz w hm) | ((with_reducible show wpList _ _ _ (Oper.mk _ (Op.call _) _ _ _ _ :: _) _ _); refine wplO_app (M := [⟨gz, 5, []⟩]) (R := [⟨g2, 36, h.map v8⟩, ⟨g1, 39, R.map v8⟩]) (ds := l.map v8) hm (slo_room0 gz _ 1) rfl rfl rfl rfl Tryz.underlying22 LY.out (cellsB (HL.out.ext hm.x)) (one_map _) FIT.out ?_; clear hm; intro v1 w M1 hm hs1; obtain ⟨p_v1, c_v1, rfl⟩ := hs1.form; simp only [Nat.zero_add, List.nil_append] at hs1 ⊢) | (go_at_call 39; (with_reducible refine (B1.out _ hm.x).mono ?_); rintro e_ w ⟨rfl, hx_⟩; replace hm := hm.ext hx_; clear hx_) | ((with_reducible show wpList _ _ _ (Oper.mk _ (Op.load _ _) _ _ _ _ :: _) _ _); first | ((with_reducible apply wq_ldv hm); (exact rfl); infer_instance; (exact rfl); (focus ((repeat (first | exact .hd | assumption | apply Has.tl | apply Has.app)); done)); (focus (first | omega | (simp; omega) | (refine Nat.lt_of_lt_of_le (BitVec.isLt _) ?_; first | omega | (simp; done) | (simp; omega) | fail) | fail))) | fail) | ((((with_reducible show wpList _ _ _ (Oper.mk _ (Op.store _ _ _) _ _ _ _ :: _) _ _); first | ((with_reducible apply wq_stv hm); (exact rfl); infer_instance; (exact rfl); (focus ((repeat (first | exact .hd | assumption | apply Swap.tl | apply Swap.app)); done)); infer_instance; (exact rfl); (focus (first | omega | (simp; omega) | (refine Nat.lt_of_lt_of_le (BitVec.isLt _) ?_; first | omega | (simp; done) | (simp; omega) | fail) | fail))) | ((with_reducible apply wq_stW hm); (exact rfl); infer_instance; (exact rfl); (exact rfl); (focus ((repeat (first | exact .hd | assumption | apply Swap.tl | apply Swap.app)); done)); (focus (first | rfl | omega | (simp; done) | (simp; omega) | fail)); (focus (first | rfl | omega | (simp; done) | (simp; omega) | fail)); (focus (first | exact one_map _ | (simp [one8, one32, one64]; done) | fail))) | fail)); clear hm; intro w hm) | ((first | ((with_reducible show wpList _ _ _ (Oper.mk _ (Op.alloc _) _ _ _ _ :: _) _ _); first | ((with_reducible apply wq_new hm); (exact rfl); infer_instance) | fail) | ((with_reducible show wpList _ _ _ (Oper.mk _ (Op.box _ _) _ _ _ _ :: _) _ _); first | ((with_reducible apply wq_boxN hm); (exact rfl); (exact rfl)) | fail)); clear hm; (first | (have hx_ := g1; clear hx_; (first | (have hx_ := g2; clear hx_; intro gx_) | intro g2)) | intro g1); intro w hm) | fail)
        obtain ⟨go, o, cur, rfl, rfl, hc1, ho, hlc, hset⟩ := sl_first hs1 h0
        have HSET := Lib.hid hset
        have HS1 := Lib.hid hs1
        have HC1 := Lib.hid hc1
        clear hs1 hset hc1
        simp only [List.cons_append, List.nil_append] at hm
        have ex := fun wx (hwx : Ext w wx) => E1.out wx (hm.x.trans hwx)
        refine region_new 6 (fun w' => Ext _ w') 46 (by kernel_rfl) (by kernel_rfl) rfl (fun _ _ h k => h.trans k) (drew_ext _) ?_
        simp only [tSC, List.take_zero, dSC, List.drop_zero, List.map_cons, List.map_nil]
        repeat (first
            | (apply walk_some (NewS (w.heap.size) 36 ((zer 16).map v8)) 9 (NewS.stable _ _ _) rfl rfl rfl rfl
               · (intro wx hwx; go_simp; exact gives_new (cs := (zer 16).map v8) hwx.size))
            | (apply walk_is rfl rfl rfl
               · (intro wx hwx; first | ((with_reducible show gives _ _ _ (Sem.run _ (execOp _ (Oper.mk _ (Op.load _ _) _ _ _ _)) _)); first | ((with_reducible apply gq_ldv (hm.ext hwx)); infer_instance; (exact rfl); (focus ((repeat (first | exact .hd | assumption | apply Has.tl | apply Has.app)); done)); (focus (first | omega | (simp; omega) | (refine Nat.lt_of_lt_of_le (BitVec.isLt _) ?_; first | omega | (simp; done) | (simp; omega) | fail) | fail))) | ((with_reducible apply gq_ldW (hm.ext hwx)); infer_instance; (exact rfl); (focus ((repeat (first | exact .hd | assumption | apply Has.tl | apply Has.app)); done)); (focus (first | rfl | omega | (simp; done) | (simp; omega) | fail))) | ((with_reducible apply gq_ld1 (hm.ext hwx)); infer_instance; (exact rfl); (focus ((repeat (first | exact .hd | assumption | apply Has.tl | apply Has.app)); done)); (exact rfl)) | fail) | (go_simp; (try go_bits); first | exact gives_same | exact gives_skip | with_reducible exact gives_call (P1.out wx) | with_reducible exact gives_call (ex wx hwx)))
               · (simp only [Act.put, sIB, sCS, sCZ]; rfl))
            | (apply walk_not rfl rfl rfl
               · (simp only [Act.put, sIB, sCS, sCZ]; rfl)))
        intro wz hwz
        simp only [zCC, zNR]
        repeat rw [fin_is]
        rw [fin_cons]; intro x9 hx9
        repeat rw [fin_is]
        rw [fin_nil]; intro hap
        simp only [Act.put, sIB, sCS, sCZ] at hap ⊢
        obtain ⟨g9_, rfl, hg9, hr9⟩ := hx9
        replace hm := hm.push hwz hg9 hr9
        clear hap hr9
        clear ex
        have HS0 := Lib.hid (HS1.out)
        go_wp2_with (first | ((with_reducible show wpList _ _ _ (Oper.mk _ (Op.load _ _) _ _ _ _ :: _) _ _); first | ((with_reducible apply wq_ldv hm); (exact rfl); infer_instance; (exact rfl); (focus ((repeat (first | exact .hd | assumption | apply Has.tl | apply Has.app)); done)); (focus (first | omega | (simp; omega) | (refine Nat.lt_of_lt_of_le (BitVec.isLt _) ?_; first | omega | (simp; done) | (simp; omega) | fail) | fail))) | fail) | ((((with_reducible show wpList _ _ _ (Oper.mk _ (Op.store _ _ _) _ _ _ _ :: _) _ _); first | ((with_reducible apply wq_stW hm); (exact rfl); infer_instance; (exact rfl); (exact rfl); (focus ((repeat (first | exact .hd | assumption | apply Swap.tl | apply Swap.app)); done)); (focus (first | rfl | omega | (simp; done) | (simp; omega) | fail)); (focus (first | rfl | omega | (simp; done) | (simp; omega) | fail)); (focus (first | exact one_map _ | (simp [one8, one32, one64]; done) | fail))) | fail)); clear hm; intro w hm) | fail)
        go_ret
        exact ⟨_, _, rfl, HS0.out, own_subT hm (by repeat (first | exact List.Sublist.refl _ | exact List.nil_sublist _ | apply List.Sublist.cons_cons | apply List.Sublist.cons))⟩
    · have c1 : decide (((nth B 0).toNat : Int) < 128) = false := decide_eq_false (fun h => hb (BitVec.lt_def.2 (by simp; omega)))
      have c2 : ¬ ((nth B 0).toNat : Int) < 128 := of_decide_eq_false c1
      rw [or_high _ hb, SS] at P1 lB2
      by_cases hy : 128#8 ≤ nth X 0
      · have c3 : decide (128 ≤ ((nth X 0).toNat : Int)) = true := decide_eq_true (by have := BitVec.le_def.1 hy; simp at this; omega)
        have c4 : 128 ≤ ((nth X 0).toNat : Int) := of_decide_eq_true c3
        rw [and_high _ hy]
        go_enter Tryz.func24, Tryz.ntmps24
        go_wp2_with (first | ((with_reducible apply wq_bs0 bs0_b hm); exact rfl; clear hm; intro gz w hm) | ((with_reducible show wpList _ _ _ (Oper.mk _ (Op.call _) _ _ _ _ :: _) _ _); refine wplO_app (M := [⟨gz, 5, []⟩]) (R := [⟨g2, 36, h.map v8⟩, ⟨g1, 39, R.map v8⟩]) (ds := l.map v8) hm (slo_room0 gz _ 1) rfl rfl rfl rfl Tryz.underlying22 LY.out (cellsB (HL.out.ext hm.x)) (one_map _) FIT.out ?_; clear hm; intro v1 w M1 hm hs1; obtain ⟨p_v1, c_v1, rfl⟩ := hs1.form; simp only [Nat.zero_add, List.nil_append] at hs1 ⊢) | (go_at_call 39; (with_reducible refine (B1.out _ hm.x).mono ?_); rintro e_ w ⟨rfl, hx_⟩; replace hm := hm.ext hx_; clear hx_) | ((with_reducible show wpList _ _ _ (Oper.mk _ (Op.load _ _) _ _ _ _ :: _) _ _); first | ((with_reducible apply wq_ldv hm); (exact rfl); infer_instance; (exact rfl); (focus ((repeat (first | exact .hd | assumption | apply Has.tl | apply Has.app)); done)); (focus (first | omega | (simp; omega) | (refine Nat.lt_of_lt_of_le (BitVec.isLt _) ?_; first | omega | (simp; done) | (simp; omega) | fail) | fail))) | fail) | ((((with_reducible show wpList _ _ _ (Oper.mk _ (Op.store _ _ _) _ _ _ _ :: _) _ _); first | ((with_reducible apply wq_stW hm); (exact rfl); infer_instance; (exact rfl); (exact rfl); (focus ((repeat (first | exact .hd | assumption | apply Swap.tl | apply Swap.app)); done)); (focus (first | rfl | omega | (simp; done) | (simp; omega) | fail)); (focus (first | rfl | omega | (simp; done) | (simp; omega) | fail)); (focus (first | exact one_map _ | (simp [one8, one32, one64]; done) | fail))) | fail)); clear hm; intro w hm) | ((first | ((with_reducible show wpList _ _ _ (Oper.mk _ (Op.alloc _) _ _ _ _ :: _) _ _); first | ((with_reducible apply wq_new hm); (exact rfl); infer_instance) | fail) | ((with_reducible show wpList _ _ _ (Oper.mk _ (Op.box _ _) _ _ _ _ :: _) _ _); first | ((with_reducible apply wq_boxN hm); (exact rfl); (exact rfl)) | fail)); clear hm; (first | (have hx_ := g1; clear hx_; (first | (have hx_ := g2; clear hx_; intro gx_) | intro g2)) | intro g1); intro w hm) | fail)
        obtain ⟨go, o, cur, rfl, rfl, hc1, ho, hlc, hset⟩ := sl_first hs1 h0
        have HSET := Lib.hid hset
        have HS1 := Lib.hid hs1
        have HC1 := Lib.hid hc1
        clear hs1 hset hc1
        simp only [List.cons_append, List.nil_append] at hm
        have ex := fun wx (hwx : Ext w wx) => E1.out wx (hm.x.trans hwx)
        refine region_new 6 (fun w' => Ext _ w') 46 (by kernel_rfl) (by kernel_rfl) rfl (fun _ _ h k => h.trans k) (drew_ext _) ?_
        simp only [tSC, List.take_zero, dSC, List.drop_zero, List.map_cons, List.map_nil]
        repeat (first
            | (apply walk_some (NewS (w.heap.size) 36 ((zer 16).map v8)) 9 (NewS.stable _ _ _) rfl rfl rfl rfl
               · (intro wx hwx; go_simp; exact gives_new (cs := (zer 16).map v8) hwx.size))
            | (apply walk_is rfl rfl rfl
               · (intro wx hwx; first | ((with_reducible show gives _ _ _ (Sem.run _ (execOp _ (Oper.mk _ (Op.load _ _) _ _ _ _)) _)); first | ((with_reducible apply gq_ldv (hm.ext hwx)); infer_instance; (exact rfl); (focus ((repeat (first | exact .hd | assumption | apply Has.tl | apply Has.app)); done)); (focus (first | omega | (simp; omega) | (refine Nat.lt_of_lt_of_le (BitVec.isLt _) ?_; first | omega | (simp; done) | (simp; omega) | fail) | fail))) | ((with_reducible apply gq_ldW (hm.ext hwx)); infer_instance; (exact rfl); (focus ((repeat (first | exact .hd | assumption | apply Has.tl | apply Has.app)); done)); (focus (first | rfl | omega | (simp; done) | (simp; omega) | fail))) | ((with_reducible apply gq_ld1 (hm.ext hwx)); infer_instance; (exact rfl); (focus ((repeat (first | exact .hd | assumption | apply Has.tl | apply Has.app)); done)); (exact rfl)) | fail) | (go_simp; (try go_bits); first | exact gives_same | exact gives_skip | with_reducible exact gives_call (P1.out wx) | with_reducible exact gives_call (ex wx hwx)))
               · (simp only [Act.put, sIB, sCS, sCZ]; rfl))
            | (apply walk_not rfl rfl rfl
               · (simp only [Act.put, sIB, sCS, sCZ]; rfl)))
        intro wz hwz
        simp only [zCC, zNR]
        repeat rw [fin_is]
        rw [fin_cons]; intro x9 hx9
        repeat rw [fin_is]
        rw [fin_nil]; intro hap
        simp only [Act.put, sIB, sCS, sCZ] at hap ⊢
        obtain ⟨g9_, rfl, hg9, hr9⟩ := hx9
        replace hm := hm.push hwz hg9 hr9
        clear hap hr9
        clear ex
        go_wp2_with (first | ((with_reducible apply wq_ld1 hm); (exact rfl); infer_instance; (exact rfl); (focus ((repeat (first | exact .hd | assumption | apply Has.tl | apply Has.app)); done)); (exact HC1.out)) | ((with_reducible show wpList _ _ _ (Oper.mk _ (Op.store _ _ _) _ _ _ _ :: _) _ _); (with_reducible apply wq_stfT (v := v8 (nth l 0 ^^^ 128#8)) hm); (exact rfl); infer_instance; (exact rfl); (exact rfl); (exact rfl); (exact rfl); (focus ((repeat (first | exact .hd | apply Swap.tl | apply Swap.app)); done)); (exact rfl); (first | exact ho | omega); clear hm; intro w hm) | ((with_reducible show wpList _ _ _ (Oper.mk _ (Op.load _ _) _ _ _ _ :: _) _ _); first | ((with_reducible apply wq_ldv hm); (exact rfl); infer_instance; (exact rfl); (focus ((repeat (first | exact .hd | assumption | apply Has.tl | apply Has.app)); done)); (focus (first | omega | (simp; omega) | (refine Nat.lt_of_lt_of_le (BitVec.isLt _) ?_; first | omega | (simp; done) | (simp; omega) | fail) | fail))) | fail) | ((((with_reducible show wpList _ _ _ (Oper.mk _ (Op.store _ _ _) _ _ _ _ :: _) _ _); first | ((with_reducible apply wq_stW hm); (exact rfl); infer_instance; (exact rfl); (exact rfl); (focus ((repeat (first | exact .hd | assumption | apply Swap.tl | apply Swap.app)); done)); (focus (first | rfl | omega | (simp; done) | (simp; omega) | fail)); (focus (first | rfl | omega | (simp; done) | (simp; omega) | fail)); (focus (first | exact one_map _ | (simp [one8, one32, one64]; done) | fail))) | fail)); clear hm; intro w hm) | fail)
        go_ret
        exact ⟨_, _, rfl, HSET.out _, own_subT hm (by repeat (first | exact List.Sublist.refl _ | exact List.nil_sublist _ | apply List.Sublist.cons_cons | apply List.Sublist.cons))⟩
      · have c3 : decide (128 ≤ ((nth X 0).toNat : Int)) = false := decide_eq_false (fun h => hy (BitVec.le_def.2 (by simp; omega)))
        have c4 : ¬ 128 ≤ ((nth X 0).toNat : Int) := of_decide_eq_false c3
        rw [and_low _ hy, show nth l 0 ^^^ 0#8 = nth l 0 by simp, SL]
        go_enter Tryz.func24, Tryz.ntmps24
        go_wp2_with (first | ((with_reducible apply wq_bs0 bs0_b hm); exact rfl; clear hm; intro gz w hm) | ((with_reducible show wpList _ _ _ (Oper.mk _ (Op.call _) _ _ _ _ :: _) _ _); refine wplO_app (M := [⟨gz, 5, []⟩]) (R := [⟨g2, 36, h.map v8⟩, ⟨g1, 39, R.map v8⟩]) (ds := l.map v8) hm (slo_room0 gz _ 1) rfl rfl rfl rfl Tryz.underlying22 LY.out (cellsB (HL.out.ext hm.x)) (one_map _) FIT.out ?_; clear hm; intro v1 w M1 hm hs1; obtain ⟨p_v1, c_v1, rfl⟩ := hs1.form; simp only [Nat.zero_add, List.nil_append] at hs1 ⊢) | (go_at_call 39; (with_reducible refine (B1.out _ hm.x).mono ?_); rintro e_ w ⟨rfl, hx_⟩; replace hm := hm.ext hx_; clear hx_) | ((with_reducible show wpList _ _ _ (Oper.mk _ (Op.load _ _) _ _ _ _ :: _) _ _); first | ((with_reducible apply wq_ldv hm); (exact rfl); infer_instance; (exact rfl); (focus ((repeat (first | exact .hd | assumption | apply Has.tl | apply Has.app)); done)); (focus (first | omega | (simp; omega) | (refine Nat.lt_of_lt_of_le (BitVec.isLt _) ?_; first | omega | (simp; done) | (simp; omega) | fail) | fail))) | fail) | ((((with_reducible show wpList _ _ _ (Oper.mk _ (Op.store _ _ _) _ _ _ _ :: _) _ _); first | ((with_reducible apply wq_stW hm); (exact rfl); infer_instance; (exact rfl); (exact rfl); (focus ((repeat (first | exact .hd | assumption | apply Swap.tl | apply Swap.app)); done)); (focus (first | rfl | omega | (simp; done) | (simp; omega) | fail)); (focus (first | rfl | omega | (simp; done) | (simp; omega) | fail)); (focus (first | exact one_map _ | (simp [one8, one32, one64]; done) | fail))) | fail)); clear hm; intro w hm) | ((first | ((with_reducible show wpList _ _ _ (Oper.mk _ (Op.alloc _) _ _ _ _ :: _) _ _); first | ((with_reducible apply wq_new hm); (exact rfl); infer_instance) | fail) | ((with_reducible show wpList _ _ _ (Oper.mk _ (Op.box _ _) _ _ _ _ :: _) _ _); first | ((with_reducible apply wq_boxN hm); (exact rfl); (exact rfl)) | fail)); clear hm; (first | (have hx_ := g1; clear hx_; (first | (have hx_ := g2; clear hx_; intro gx_) | intro g2)) | intro g1); intro w hm) | fail)
        obtain ⟨go, o, cur, rfl, rfl, hc1, ho, hlc, hset⟩ := sl_first hs1 h0
        have HSET := Lib.hid hset
        have HS1 := Lib.hid hs1
        have HC1 := Lib.hid hc1
        clear hs1 hset hc1
        simp only [List.cons_append, List.nil_append] at hm
        have ex := fun wx (hwx : Ext w wx) => E1.out wx (hm.x.trans hwx)
        refine region_new 6 (fun w' => Ext _ w') 46 (by kernel_rfl) (by kernel_rfl) rfl (fun _ _ h k => h.trans k) (drew_ext _) ?_
        simp only [tSC, List.take_zero, dSC, List.drop_zero, List.map_cons, List.map_nil]
        repeat (first
            | (apply walk_some (NewS (w.heap.size) 36 ((zer 16).map v8)) 9 (NewS.stable _ _ _) rfl rfl rfl rfl
               · (intro wx hwx; go_simp; exact gives_new (cs := (zer 16).map v8) hwx.size))
            | (apply walk_is rfl rfl rfl
               · (intro wx hwx; first | ((with_reducible show gives _ _ _ (Sem.run _ (execOp _ (Oper.mk _ (Op.load _ _) _ _ _ _)) _)); first | ((with_reducible apply gq_ldv (hm.ext hwx)); infer_instance; (exact rfl); (focus ((repeat (first | exact .hd | assumption | apply Has.tl | apply Has.app)); done)); (focus (first | omega | (simp; omega) | (refine Nat.lt_of_lt_of_le (BitVec.isLt _) ?_; first | omega | (simp; done) | (simp; omega) | fail) | fail))) | ((with_reducible apply gq_ldW (hm.ext hwx)); infer_instance; (exact rfl); (focus ((repeat (first | exact .hd | assumption | apply Has.tl | apply Has.app)); done)); (focus (first | rfl | omega | (simp; done) | (simp; omega) | fail))) | ((with_reducible apply gq_ld1 (hm.ext hwx)); infer_instance; (exact rfl); (focus ((repeat (first | exact .hd | assumption | apply Has.tl | apply Has.app)); done)); (exact rfl)) | fail) | (go_simp; (try go_bits); first | exact gives_same | exact gives_skip | with_reducible exact gives_call (P1.out wx) | with_reducible exact gives_call (ex wx hwx)))
               · (simp only [Act.put, sIB, sCS, sCZ]; rfl))
            | (apply walk_not rfl rfl rfl
               · (simp only [Act.put, sIB, sCS, sCZ]; rfl)))
        intro wz hwz
        simp only [zCC, zNR]
        repeat rw [fin_is]
        rw [fin_cons]; intro x9 hx9
        repeat rw [fin_is]
        rw [fin_nil]; intro hap
        simp only [Act.put, sIB, sCS, sCZ] at hap ⊢
        obtain ⟨g9_, rfl, hg9, hr9⟩ := hx9
        replace hm := hm.push hwz hg9 hr9
        clear hap hr9
        clear ex
        have HS0 := Lib.hid (HS1.out)
        go_wp2_with (first | ((with_reducible show wpList _ _ _ (Oper.mk _ (Op.load _ _) _ _ _ _ :: _) _ _); first | ((with_reducible apply wq_ldv hm); (exact rfl); infer_instance; (exact rfl); (focus ((repeat (first | exact .hd | assumption | apply Has.tl | apply Has.app)); done)); (focus (first | omega | (simp; omega) | (refine Nat.lt_of_lt_of_le (BitVec.isLt _) ?_; first | omega | (simp; done) | (simp; omega) | fail) | fail))) | fail) | ((((with_reducible show wpList _ _ _ (Oper.mk _ (Op.store _ _ _) _ _ _ _ :: _) _ _); first | ((with_reducible apply wq_stW hm); (exact rfl); infer_instance; (exact rfl); (exact rfl); (focus ((repeat (first | exact .hd | assumption | apply Swap.tl | apply Swap.app)); done)); (focus (first | rfl | omega | (simp; done) | (simp; omega) | fail)); (focus (first | rfl | omega | (simp; done) | (simp; omega) | fail)); (focus (first | exact one_map _ | (simp [one8, one32, one64]; done) | fail))) | fail)); clear hm; intro w hm) | fail)
        go_ret
        exact ⟨_, _, rfl, HS0.out, own_subT hm (by repeat (first | exact List.Sublist.refl _ | exact List.nil_sublist _ | apply List.Sublist.cons_cons | apply List.Sublist.cons))⟩

end Go.Proofs.YtaijfigohlkccaaGreatDoor
namespace Go.Proofs.YtaijfigohlkccaaGreatDoor
open Go Go.RowKit
set_option maxRecDepth 100000
set_option linter.unusedVariables false
set_option linter.unusedSimpArgs false

/-- Where a slice begins that is taken from a place on. (Behind a name: the walk must not split it.) -/
def slP (p : Option Addr) (c l : Nat) : Option Addr := if c = l then p else p.map (·.add l)
theorem addr_zero (a : Addr) : a.add 0 = a := by unfold Addr.add; split <;> simp_all
section
variable {P : Program} {ops : Array Oper} {Q : Exit → Act → World → Prop} {rest : List Oper} {dst : Option Tmp} {ty : TypeId} {pos : String} {aft : Array Edge} {gd : Option (Nat × Bool)} {a : Act} {w : World} {T e : TypeId} {x y z : Operand}
theorem run_slL (hT : P.underlying T = some (.slice e)) [hE : One1 P e] (p : Option Addr) (n c l : Nat) (hl : l ≤ n) (w : World) : (Instr.sliceAt T (.slice p n c) (some (.int .i64 (l : Int))) none none).run P w = .ok (.slice (slP p c l) (n - l) (c - l)) w := by
  obtain ⟨i, hi1, hi2⟩ := Option.map_eq_some_iff.1 hE.size
  simp [Instr.sliceAt, Instr.slice, Instr.sliceBounds, Instr.sliceBound, asIntOf, Sem.run_bind, run_underlying hT, sizeOf, typeInfo, hi1, hi2, hl, slP]
theorem run_slH (hT : P.underlying T = some (.slice e)) [hE : One1 P e] (p : Option Addr) (n c h : Nat) (hh : h ≤ c) (w : World) : (Instr.sliceAt T (.slice p n c) none (some (.int .i64 (h : Int))) none).run P w = .ok (.slice p h c) w := by
  obtain ⟨i, hi1, hi2⟩ := Option.map_eq_some_iff.1 hE.size
  simp [Instr.sliceAt, Instr.slice, Instr.sliceBounds, Instr.sliceBound, asIntOf, Sem.run_bind, run_underlying hT, sizeOf, typeInfo, hi1, hi2, hh]
  intro _
  cases p <;> simp [addr_zero]
theorem gq_slL {p : Option Addr} {n c l r : Nat} (hT : P.underlying T = some (.slice e)) (hE : One1 P e) (hx : a.eval x = .slice p n c) (hy : a.eval y = .int .i64 (l : Int)) (hl : l ≤ n) (hr : n - l = r) : gives P w (Is (.slice (slP p c l) r (c - l))) ((execOp a.eval (Oper.mk dst (.slice T x (some y) none none) ty pos aft gd)).run P w) := by
  subst hr
  unfold execOp
  simp only [hx, hy, Sem.run_bind, run_slL hT p n c l hl w, Result.andThen_ok, Sem.run_pure, Option.map_some, Option.map_none]
  exact gives_same
theorem gq_slH {p : Option Addr} {n c h : Nat} (hT : P.underlying T = some (.slice e)) (hE : One1 P e) (hx : a.eval x = .slice p n c) (hy : a.eval y = .int .i64 (h : Int)) (hh : h ≤ c) : gives P w (Is (.slice p h c)) ((execOp a.eval (Oper.mk dst (.slice T x none (some y) none) ty pos aft gd)).run P w) := by
  unfold execOp
  simp only [hx, hy, Sem.run_bind, run_slH hT p n c h hh w, Result.andThen_ok, Sem.run_pure, Option.map_some, Option.map_none]
  exact gives_same
theorem wq_slH {p : Option Addr} {n c h : Nat} (hT : P.underlying T = some (.slice e)) (hE : One1 P e) (hgd : Region.wanted (Oper.mk dst (.slice T x none (some y) none) ty pos aft gd) (yielded ops a.tmps) = true) (hx : a.eval x = .slice p n c) (hy : a.eval y = .int .i64 (h : Int)) (hh : h ≤ c) (hk : wpList P ops Q rest (a.put dst (.slice p h c)) w) : wpList P ops Q ((Oper.mk dst (.slice T x none (some y) none) ty pos aft gd) :: rest) a w :=
  wpList_want hgd fun K hK => by
    unfold Oper.wp execOp
    simp only [hx, hy, Sem.run_bind, run_slH hT p n c h hh w, Result.andThen_ok, Sem.run_pure, Option.map_some, Option.map_none]
    exact hK _ _ hk
end
/-- Bytes behind a place, and from a place up to another. -/
theorem RdB.slL {w : World} {p : Option Addr} {L : List Byte} (h : RdB w p L) (c l : Nat) (hc : L.length ≤ c) : RdB w (slP p c l) (L.drop l) := by
  unfold slP
  by_cases e : c = l
  · have : L.drop l = [] := List.drop_eq_nil_of_le (by omega)
    rw [this]; exact RdB.nil _ _
  · rw [if_neg e]
    cases p with
    | none =>
      have : L = [] := RdB.none h
      subst this
      rw [List.drop_nil]; exact RdB.nil _ _
    | some a =>
      refine ⟨fun _ => rfl, fun i hi => ?_⟩
      rw [List.length_drop] at hi
      have e : (a.add l).add i = a.add (l + i) := by unfold Addr.add; split <;> split <;> simp_all <;> omega
      simp only [Option.map, Option.getD_some, e]
      have := h.2 (l + i) (by omega)
      simp only [Option.getD_some] at this
      rw [this]; simp [List.getElem?_drop]
end Go.Proofs.YtaijfigohlkccaaGreatDoor
namespace Go.Proofs.YtaijfigohlkccaaGreatDoor
open Go Go.RowKit
set_option maxRecDepth 100000
set_option linter.unusedVariables false
set_option linter.unusedSimpArgs false

/-- A block with the first n bytes of a number added, the last of them first. -/
def cxL (S P : List Byte) (n : Nat) : List Byte := bothL S (cntG P n)
theorem cxL_length (S P : List Byte) (n : Nat) : (cxL S P n).length = 16 := bothL_length _ _
theorem cxL_zero (S P : List Byte) (h : S.length = 16) : cxL S P 0 = S := nth_ext (by rw [cxL_length, h]) fun i hi => by
  rw [cxL_length] at hi
  rw [cxL, bothL_nth _ _ _ hi, cntG, nth_tab hi, if_neg (by omega)]
  simp
theorem cxL_step (S P : List Byte) (n k : Nat) (hk : k = 15 - n) (hn : n < 8) : setN (cxL S P n) k (nth (cxL S P n) k ^^^ nth P n) = cxL S P (n + 1) := by
  subst hk
  have e0 : nth (cntG P n) (15 - n) = 0#8 := by rw [cntG, nth_tab (by omega), if_neg (by omega)]
  refine nth_ext (by rw [setN_length, cxL_length, cxL_length]) fun i hi => ?_
  rw [setN_length, cxL_length] at hi
  rw [nth_set (by rw [cxL_length]; exact hi), cxL, cxL, bothL_nth _ _ i hi, bothL_nth _ _ (15 - n) (by omega), bothL_nth _ _ i hi, ← cntG_step P n hn, nth_set (by rw [cntG_length]; exact hi), e0]
  by_cases e : 15 - n = i
  · rw [if_pos e, if_pos e, e]; simp
  · rw [if_neg e, if_neg e]
theorem cxL_all (S : List Byte) (n : Nat) : cxL S (putL (BitVec.ofNat 64 n) 8) 8 = bothL S (cntB n) := by rw [cxL, cntG_all]
theorem byte_at (j n : Nat) (hj : j ≤ 9223372036854775807) : (BitVec.ofNat 64 j >>> (8 * n)).setWidth 8 = BitVec.ofInt 8 ((j : Int) / 2 ^ (8 * n) % 256) := by
  have e : ((j : Int) / 2 ^ (8 * n) % 256) = ((j / 2 ^ (8 * n) % 256 : Nat) : Int) := by
    rw [Int.natCast_emod, Int.natCast_ediv, Int.natCast_pow]; rfl
  rw [e, BitVec.ofInt_natCast]
  apply BitVec.eq_of_toNat_eq
  rw [BitVec.toNat_setWidth, BitVec.toNat_ushiftRight, BitVec.toNat_ofNat, BitVec.toNat_ofNat, Nat.shiftRight_eq_div_pow, Nat.mod_eq_of_lt (show j < 2 ^ 64 by omega), Nat.mod_mod]
set_option maxHeartbeats 8000000 in
theorem rr_step (R : List Byte) (hR : R.length = 560) (F : Int → Int → List Byte → List Byte) (hF : ∀ j m x, (F j m x).length = 16) (h : List Byte) (hh : h.length = 16) (i : Int) (hi : 0 ≤ i) (hi2 : i ≤ 9223372036854775807) (j : Nat) (hj : j ≤ 9223372036854775807) (l : List Byte) (p : Option Addr) (c : Nat) (hl : l.length ≤ 31) (w0 : World) (hr : RdB w0 p l)
    (CE : ∀ wx, Ext w0 wx → ∀ (j m : Int) (x : List Byte), x.length = 16 → -1 ≤ j → j ≤ 9223372036854775807 → 0 ≤ m → m ≤ 9223372036854775807 → Gives Tryz.prog 44 #[A8 R, .int .i64 j, .int .i64 m, A8 x] wx (A8 (F j m x))) :
    Calls Tryz.prog 25 #[A8 R, A8 h, .int .i64 i, .int .i64 (j : Int), .slice p l.length c] w0 fun e w' => ∃ q d, e = .returned (.slice q l.length d) ∧ l.length ≤ d ∧ RdB w' q (stepL F h i j l) ∧ Ext w0 w' := by
  have hm := Own.start w0
  have HL := Lib.hid hr
  obtain ⟨B, hB⟩ : ∃ B, B = blk (joinN (l ++ [8#8])) := ⟨_, rfl⟩
  obtain ⟨T, hT⟩ : ∃ T, T = bothL B h := ⟨_, rfl⟩
  obtain ⟨S, hS⟩ : ∃ S, S = bothL T (cntB j) := ⟨_, rfl⟩
  obtain ⟨X, hX⟩ : ∃ X, X = F 0 i S := ⟨_, rfl⟩
  have lB : B.length = 16 := by rw [hB]; exact blk_length _
  have lT : T.length = 16 := by rw [hT]; exact bothL_length _ _
  have lS : S.length = 16 := by rw [hS]; exact bothL_length _ _
  have lX : X.length = 16 := by rw [hX]; exact hF _ _ _
  have eR : stepL F h i j l = halvesL X 0 l.length := by rw [hX, hS, hT, hB]; rfl
  have lJN : (joinN (l ++ [8#8])).length = (l.length + 1 + 1) / 2 := by rw [joinN_length]; simp
  have J1 := Lib.hid fun w p2 n2 c2 (h : RdB w p2 (l ++ [8#8]) ∧ n2 = (l ++ [8#8]).length ∧ n2 ≤ c2) => show Calls Tryz.prog 52 #[.slice p2 n2 c2] w fun e w' => ∃ v M, e = .returned v ∧ SlO M 5 1 v (joinN (l ++ [8#8])).length ((joinN (l ++ [8#8])).map v8) ∧ Own w w' M from by
    rw [h.2.1, joinN_length]
    exact rr_join (l ++ [8#8]) p2 c2 (by simp; omega) w h.1
  have D1 := Lib.hid fun w p2 c2 (h : RdB w p2 (joinN (l ++ [8#8]))) => (hB ▸ rblock_any (joinN (l ++ [8#8])) p2 c2 w h (by omega) : Gives Tryz.prog 39 #[.slice p2 (joinN (l ++ [8#8])).length c2] w (A8 B))
  have P1 := Lib.hid fun (w : World) => (hT ▸ sixteen_any B h lB hh w : Gives Tryz.prog 43 #[A8 B, A8 h] w (A8 T))
  have E1 := Lib.hid fun w (hx : Ext w0 w) => hX ▸ CE w hx 0 i S lS (by omega) (by omega) hi hi2
  have H1 := Lib.hid fun w p2 (h : RdB w p2 X) => show Calls Tryz.prog 50 #[.slice p2 16 16] w fun e w' => ∃ v M, e = .returned v ∧ SlO M 5 1 v 32 ((halvesL X 0 32).map v8) ∧ Own w w' M from by
    have := rr_halves X p2 16 (by omega) w h
    rwa [lX] at this
  have HT := Lib.hid (show (halvesL X 0 32).take l.length = halvesL X 0 l.length from nth_ext (by rw [List.length_take, halvesL_length, halvesL_length]; omega) fun k hk => by
    rw [List.length_take, halvesL_length] at hk
    rw [halvesL, halvesL, nth_tab (by omega)]
    have e : nth ((tab 32 fun i => nibL X (0 + i)).take l.length) k = nth (tab 32 fun i => nibL X (0 + i)) k := by
      simp only [nth, List.getD_eq_getElem?_getD]
      rw [List.getElem?_take, if_pos (by omega)]
    rw [e, nth_tab (by omega)])
  have lH := halvesL_length X 0 32
  have FIT0 := Lib.hid (show (0 + l.length) * (1 + 1) ≤ 140737488355328 by omega)
  have FIT := Lib.hid (show (l.length + 1) * (1 + 1) ≤ 140737488355328 by omega)
  have LY := Lib.hid (show (l.map v8).length = l.length * 1 by simp)
  have EL := Lib.hid (show l.map v8 ++ [v8 8#8] = (l ++ [8#8]).map v8 by simp)
  have C0 := Lib.hid (cxL_zero T (putL (BitVec.ofNat 64 j) 8) lT)
  have CS := Lib.hid (cxL_step T (putL (BitVec.ofNat 64 j) 8))
  have CA := Lib.hid (show cxL T (putL (BitVec.ofNat 64 j) 8) 8 = S by rw [cxL_all, hS])
  have lC := Lib.hid (cxL_length T (putL (BitVec.ofNat 64 j) 8))
  have PN := Lib.hid fun n (h : n < 8) => show nth (putL (BitVec.ofNat 64 j) 8) n = BitVec.ofInt 8 ((j : Int) / 2 ^ (8 * n) % 256) by rw [← byte_at j n hj]; simp [putL, nth, h]
  have n1 : (l.length : Int) ≤ 32 := by omega
  rw [eR]
  clear hB hT hS hX eR hr CE hF lJN
  generalize joinN (l ++ [8#8]) = JN at *
  generalize halvesL X 0 l.length = Z at *
  generalize halvesL X 0 32 = Y at *
  generalize putL (BitVec.ofNat 64 j) 8 = PP at *
  go_enter Tryz.func25, Tryz.ntmps25
  go_wp2_with (first | ((with_reducible apply wq_bs0 bs0_b hm); exact rfl; clear hm; intro gz w hm) | ((with_reducible apply wq_bs1c bs1_8 hm); exact rfl; exact rfl; clear hm; intro gy w hm) | ((with_reducible show wpList _ _ _ (Oper.mk _ (Op.call _) _ _ _ _ :: _) _ _); refine wplO_app (M := [⟨gz, 5, []⟩]) (R := [⟨g2, 36, h.map v8⟩, ⟨g1, 39, R.map v8⟩]) (ds := l.map v8) hm (slo_room0 gz _ 1) rfl rfl rfl rfl Tryz.underlying22 LY.out (cellsB (HL.out.ext hm.x)) (one_map _) FIT0.out ?_; clear hm; intro v1 w M1 hm hs1; obtain ⟨p_v1, c_v1, rfl⟩ := hs1.form; simp only [Nat.zero_add, List.nil_append] at hs1 ⊢) | ((with_reducible show wpList _ _ _ (Oper.mk _ (Op.call _) _ _ _ _ :: _) _ _); refine wplO_app (M := M1) (R := _) (ds := [v8 8#8]) (hm.perm (List.perm_middle.symm)) hs1 rfl rfl rfl rfl Tryz.underlying22 rfl (cell1_g (g := gy) hm (by repeat (first | exact Has.hd | assumption | apply Has.tl | apply Has.app))) (by intro u hu; rw [List.mem_singleton.1 hu]; rfl) FIT.out ?_; clear hm; intro v2 w M2 hm hs2; obtain ⟨p_v2, c_v2, rfl⟩ := hs2.form; replace hm := hm.perm (List.perm_middle)) | ((first | ((with_reducible show wpList _ _ _ (Oper.mk _ (Op.box _ _) _ _ _ _ :: _) _ _); first | ((with_reducible apply wq_boxN hm); (exact rfl); (exact rfl)) | fail)); clear hm; (first | (have hx_ := g1; clear hx_; (first | (have hx_ := g2; clear hx_; (first | (have hx_ := g3; clear hx_; intro gx_) | intro g3)) | intro g2)) | intro g1); intro w hm) | fail)
  rw [EL.out] at hs2
  have hr2 := slo_bytes hs2 hm.drop
  clear hs1 hs2
  refine (J1.out _ _ _ _ hr2).mono ?_
  rintro e w ⟨v3, M3, rfl, hs3, hmM⟩
  obtain ⟨p3, c3, rfl⟩ := hs3.form
  have hm2 := Own.join hm.drop.dropN hmM
  have hr3 := slo_rdB hs3 hm2
  clear hm hmM hr2 hs3
  have hm := hm2.dropN
  clear hm2
  go_wp2_with (first | (go_at_call 39; (with_reducible refine (D1.out _ _ _ hr3).mono ?_); rintro e_ w ⟨rfl, hx_⟩; replace hm := hm.ext hx_; clear hx_) | (go_at_call 43; (with_reducible refine (P1.out _).mono ?_); rintro e_ w ⟨rfl, hx_⟩; replace hm := hm.ext hx_; clear hx_) | ((with_reducible show wpList _ _ _ (Oper.mk _ (Op.load _ _) _ _ _ _ :: _) _ _); first | ((with_reducible apply wq_ldW hm); (exact rfl); infer_instance; (exact rfl); (focus ((repeat (first | exact .hd | assumption | apply Has.tl | apply Has.app)); done)); (focus (first | rfl | omega | (simp; done) | (simp; omega) | fail))) | fail) | ((((with_reducible show wpList _ _ _ (Oper.mk _ (Op.store _ _ _) _ _ _ _ :: _) _ _); first | ((with_reducible apply wq_stW hm); (exact rfl); infer_instance; (exact rfl); (exact rfl); (focus ((repeat (first | exact .hd | assumption | apply Swap.tl | apply Swap.app)); done)); (focus (first | rfl | omega | (simp; done) | (simp; omega) | fail)); (focus (first | rfl | omega | (simp; done) | (simp; omega) | fail)); (focus (first | exact one_map _ | (simp [one8, one32, one64]; done) | fail))) | fail)); clear hm; intro w hm) | ((first | ((with_reducible show wpList _ _ _ (Oper.mk _ (Op.alloc _) _ _ _ _ :: _) _ _); first | ((with_reducible apply wq_new hm); (exact rfl); infer_instance) | fail)); clear hm; (first | (have hx_ := g1; clear hx_; (first | (have hx_ := g2; clear hx_; (first | (have hx_ := g3; clear hx_; intro gx_) | intro g3)) | intro g2)) | intro g1); intro w hm) | fail)
  rw [← C0.out] at hm
  go_loopw [12] (fun x wr => ∃ n : Nat, n ≤ 8 ∧ x = .int .i64 n ∧ Own w0 wr [⟨g3, 36, (cxL T PP n).map v8⟩, ⟨g2, 36, h.map v8⟩, ⟨g1, 39, R.map v8⟩]) (fun x _ => 8 - (intOf x).toNat)
  case atStart => exact ⟨0, by omega, rfl, hm⟩
  case round =>
    obtain ⟨n, hn, rfl, hm⟩ := hrel
    have ln := lC.out n
    by_cases hlt : n < 8
    · have hj1 : decide ((n : Int) < 8) = true := decide_eq_true (by omega)
      have hj2 : (n : Int) < 8 := by omega
      obtain ⟨k, hk⟩ : ∃ k : Nat, k = 15 - n := ⟨_, rfl⟩
      have hk1 : (15 : Int) - (n : Int) = (k : Int) := by omega
      have hk2 : k < 16 := by omega
      have es := CS.out n k hk hlt
      rw [PN.out n hlt] at es
      have HES := Lib.hid es
      clear es hk
      generalize hC2 : cxL T PP (n + 1) = C2 at *
      generalize cxL T PP n = C at *
      have HC2 := Lib.hid hC2
      clear hC2
      go_wp2_with (first | ((with_reducible show wpList _ _ _ (Oper.mk _ (Op.load _ _) _ _ _ _ :: _) _ _); first | ((with_reducible apply wq_ldv hm); (exact rfl); infer_instance; (exact rfl); (focus ((repeat (first | exact .hd | assumption | apply Has.tl | apply Has.app)); done)); (focus (first | omega | (simp; omega) | (refine Nat.lt_of_lt_of_le (BitVec.isLt _) ?_; first | omega | (simp; done) | (simp; omega) | fail) | fail))) | fail) | ((((with_reducible show wpList _ _ _ (Oper.mk _ (Op.store _ _ _) _ _ _ _ :: _) _ _); first | ((with_reducible apply wq_stv hm); (exact rfl); infer_instance; (exact rfl); (focus ((repeat (first | exact .hd | assumption | apply Swap.tl | apply Swap.app)); done)); infer_instance; (exact rfl); (focus (first | omega | (simp; omega) | (refine Nat.lt_of_lt_of_le (BitVec.isLt _) ?_; first | omega | (simp; done) | (simp; omega) | fail) | fail))) | fail)); clear hm; intro w hm) | fail)
      go_roundw
      case rel =>
        rw [HES.out] at hm
        exact ⟨n + 1, by omega, by go_num, by rw [HC2.out]; exact hm⟩
      case measure => simp [intOf] <;> omega
    · obtain rfl : n = 8 := by omega
      have hj1 : decide (((8 : Nat) : Int) < 8) = false := decide_eq_false (by omega)
      rw [CA.out] at hm ln
      go_wp2_with (first | (go_at_call 44; (with_reducible refine (E1.out _ hm.x).mono ?_); rintro e_ w ⟨rfl, hx_⟩; replace hm := hm.ext hx_; clear hx_) | ((with_reducible show wpList _ _ _ (Oper.mk _ (Op.load _ _) _ _ _ _ :: _) _ _); first | ((with_reducible apply wq_ldW hm); (exact rfl); infer_instance; (exact rfl); (focus ((repeat (first | exact .hd | assumption | apply Has.tl | apply Has.app)); done)); (focus (first | rfl | omega | (simp; done) | (simp; omega) | fail))) | fail) | ((((with_reducible show wpList _ _ _ (Oper.mk _ (Op.store _ _ _) _ _ _ _ :: _) _ _); first | ((with_reducible apply wq_stW hm); (exact rfl); infer_instance; (exact rfl); (exact rfl); (focus ((repeat (first | exact .hd | assumption | apply Swap.tl | apply Swap.app)); done)); (focus (first | rfl | omega | (simp; done) | (simp; omega) | fail)); (focus (first | rfl | omega | (simp; done) | (simp; omega) | fail)); (focus (first | exact one_map _ | (simp [one8, one32, one64]; done) | fail))) | fail)); clear hm; intro w hm) | ((first | ((with_reducible show wpList _ _ _ (Oper.mk _ (Op.alloc _) _ _ _ _ :: _) _ _); first | ((with_reducible apply wq_new hm); (exact rfl); infer_instance) | fail)); clear hm; (first | (have hx_ := g1; clear hx_; (first | (have hx_ := g2; clear hx_; (first | (have hx_ := g3; clear hx_; intro gx_) | intro g3)) | intro g2)) | intro g1); intro w hm) | fail)
      refine (H1.out _ _ (hm.rdB (l := X) (by repeat (first | exact Has.hd | assumption | apply Has.tl | apply Has.app)))).mono ?_
      rintro e w ⟨v4, M4, rfl, hs4, hmM⟩
      obtain ⟨p4, c4, rfl⟩ := hs4.form
      have hm2 := Own.join hm hmM
      have hr4 := slo_bytes hs4 hm2
      have hcm : c4 ≤ maxLen := by
        obtain ⟨_, _, ve, _, h, _⟩ := hs4.cells hm2
        cases ve; exact h
      have hcap2 : (c4 : Int) ≤ 9223372036854775807 := by unfold maxLen at hcm; omega
      clear hm hmM hs4 hcm
      have hm := hm2.dropN
      clear hm2
      obtain ⟨hr4, h32, hc4⟩ := hr4
      clear h32
      have n7 : l.length ≤ c4 := by omega
      have hr5 := Lib.hid (hr4.take l.length)
      rw [HT.out] at hr5
      clear hr4
      dsimp only
      go_wp2_with ((with_reducible show wpList _ _ _ (Oper.mk _ (Op.slice _ _ _ _ _) _ _ _ _ :: _) _ _); (with_reducible apply wq_slH (h := l.length) Tryz.underlying22); infer_instance; exact rfl; exact rfl; exact rfl; exact n7)
      go_ret
      exact ⟨p4, c4, rfl, by omega, hr5.out, hm.x⟩

end Go.Proofs.YtaijfigohlkccaaGreatDoor
