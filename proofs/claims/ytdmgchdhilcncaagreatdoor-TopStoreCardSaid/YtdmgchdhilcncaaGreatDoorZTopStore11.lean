/-
  Layer 15: a key's parts, sums of blocks, offsets. Conditions: those written in each theorem.
  Layer 15: offsets of numbers from 0 on, and the tweaked block function. Conditions: those written in each theorem.
  Layer 2: the reference's products, powers, inverses, boxes. No conditions.
  Layer 3: the document's answer, step by step. No conditions beyond those written in each theorem.
  Layer 3: the document's rounds. No conditions beyond those written in each theorem.
-/
import Derived.Test.YtdmgchdhilcncaaGreatDoorZTopStore0
import Derived.Test.YtdmgchdhilcncaaGreatDoorZTopStore8
import Derived.Test.YtdmgchdhilcncaaGreatDoorZTopStore9
import Derived.Test.YtdmgchdhilcncaaGreatDoorZTopStore10
set_option linter.unusedSimpArgs false
set_option linter.unusedVariables false
namespace Go.Proofs.YtdmgchdhilcncaaGreatDoor
open Go Go.RowKit
set_option maxRecDepth 100000
def kcells (gt : Nat) (K : KeyP) : List Value := .pointer (some ⟨gt, 0, none⟩) :: ((K.i ++ (K.j ++ K.l)).map v8)
def KeyR (w : World) (g : Nat) (K : KeyP) : Prop := K.Ok ∧ ∃ gt gb, Row w g 119 (kcells gt K) ∧ Row w gt 66 (tcells gb mixT unmixT)
theorem KeyR.ext {w w' : World} {g : Nat} {K : KeyP} (h : KeyR w g K) (hx : Ext w w') : KeyR w' g K := by
 obtain ⟨ho, gt, gb, h1, h2⟩ := h; exact ⟨ho, gt, gb, row_ext h1 hx, row_ext h2 hx⟩
theorem row_seg {w : World} {g : Nat} {t : TypeId} {cs : List Value} (h : Row w g t cs) (k : Nat) (l : List Byte) (hl : (cs.drop k).take l.length = l.map v8) : RdB w (some ⟨g, k, none⟩) l :=
 ⟨fun _ => rfl, fun i hi => by
   simp only [Option.getD_some]
   have e : (⟨g, k, none⟩ : Addr).add i = ⟨g, k + i, none⟩ := by rw [Addr.add_mid]
   rw [e, row_cell h]
   have := congrArg (·[i]?) hl
   simp only [List.getElem?_take, if_pos hi, List.getElem?_drop, List.getElem?_map] at this
   rw [this, List.getElem?_eq_getElem hi, List.getD_eq_getElem?_getD, List.getElem?_eq_getElem hi]; rfl⟩
theorem kcells_i (gt : Nat) (K : KeyP) (h : K.Ok) : ((kcells gt K).drop 1).take K.i.length = K.i.map v8 := by
 simp [kcells, List.take_append_of_le_length]
theorem kcells_j (gt : Nat) (K : KeyP) (h : K.Ok) : ((kcells gt K).drop 17).take K.j.length = K.j.map v8 := by
 have := h.hi
 simp only [kcells, show (17 : Nat) = 16 + 1 from rfl, dSC, List.map_append]
 rw [List.drop_append_of_le_length (by simp [this]), List.drop_eq_nil_of_le (by simp [this]), List.nil_append, List.take_append_of_le_length (by simp), List.take_of_length_le (by simp)]
theorem kcells_l (gt : Nat) (K : KeyP) (h : K.Ok) : ((kcells gt K).drop 33).take K.l.length = K.l.map v8 := by
 have h1 := h.hi
 have h2 := h.hj
 simp only [kcells, show (33 : Nat) = 32 + 1 from rfl, dSC]
 rw [← List.append_assoc, List.map_append, List.drop_append_of_le_length (by simp [h1, h2]), List.drop_eq_nil_of_le (by simp [h1, h2]), List.nil_append, List.take_of_length_le (by simp)]
theorem KeyR.rdi {w : World} {g : Nat} {K : KeyP} (h : KeyR w g K) : RdB w (some ⟨g, 1, none⟩) K.i := by obtain ⟨ho, gt, gb, h1, h2⟩ := h; exact row_seg h1 1 _ (kcells_i gt K ho)
theorem KeyR.rdj {w : World} {g : Nat} {K : KeyP} (h : KeyR w g K) : RdB w (some ⟨g, 17, none⟩) K.j := by obtain ⟨ho, gt, gb, h1, h2⟩ := h; exact row_seg h1 17 _ (kcells_j gt K ho)
theorem KeyR.rdl {w : World} {g : Nat} {K : KeyP} (h : KeyR w g K) : RdB w (some ⟨g, 33, none⟩) K.l := by obtain ⟨ho, gt, gb, h1, h2⟩ := h; exact row_seg h1 33 _ (kcells_l gt K ho)
set_option maxHeartbeats 2000000 in
theorem part_any (g : Nat) (K : KeyP) (n : Int) (w0 : World) (hk : KeyR w0 g K) : Gives Tryz.prog 174 #[.pointer (some ⟨g, 0, none⟩), .int .i64 n] w0 (A8 (K.at n)) := by
 unfold Gives
 have hm := Own.start w0
 have HI := Lib.hid hk.rdi
 have HJ := Lib.hid hk.rdj
 have HL := Lib.hid hk.rdl
 have li := hk.1.hi
 have lj := hk.1.hj
 have ll := hk.1.hl
 clear hk
 by_cases h0 : n = 0
 · subst h0
   rw [show K.at 0 = K.i from rfl]
   go_enter Tryz.func174, Tryz.ntmps174
   go_wp2_with (first | ((with_reducible apply wq_rdW (HI.out.ext hm.x)); exact rfl; infer_instance; exact rfl; exact li) | ((((with_reducible show qSt); first | ((with_reducible apply wq_stW hm); exact rfl; infer_instance; exact rfl; exact rfl; (focus ((repeat (first | exact .hd | assumption | apply Swap.tl | apply Swap.app)); done)); (focus (first | rfl | omega | (simp; done) | (simp; omega))); (focus (first | rfl | omega | (simp; done) | (simp; omega))); (focus (first | exact one_map _ | (simp [one8, one32, one64]; done)))))); clear hm; intro w hm) | ((first | ((with_reducible show qAl); first | ((with_reducible apply wq_new hm); exact rfl; infer_instance))); clear hm; intro gx_; intro w hm))
   refine ret_own hm rfl rfl (by infer_instance) (by repeat (first | exact Has.hd | assumption | apply Has.tl | apply Has.app)) (by first | rfl | omega | (simp only [zeros_length, zer_length, tab_length, part_length, setN_length, List.length_map, List.length_cons, List.length_nil, List.length_append, List.length_take, List.length_drop, List.length_replicate, blk_length, putL_length] <;> omega)) rfl ⟨rfl, hm.x⟩
 · have e0 : (n == 0) = false := by simpa using h0
   by_cases h1 : n = 1
   · subst h1
     rw [show K.at 1 = K.j from rfl]
     go_enter Tryz.func174, Tryz.ntmps174
     go_wp2_with (first | ((with_reducible apply wq_rdW (HJ.out.ext hm.x)); exact rfl; infer_instance; exact rfl; exact lj) | ((((with_reducible show qSt); first | ((with_reducible apply wq_stW hm); exact rfl; infer_instance; exact rfl; exact rfl; (focus ((repeat (first | exact .hd | assumption | apply Swap.tl | apply Swap.app)); done)); (focus (first | rfl | omega | (simp; done) | (simp; omega))); (focus (first | rfl | omega | (simp; done) | (simp; omega))); (focus (first | exact one_map _ | (simp [one8, one32, one64]; done)))))); clear hm; intro w hm) | ((first | ((with_reducible show qAl); first | ((with_reducible apply wq_new hm); exact rfl; infer_instance))); clear hm; intro gx_; intro w hm))
     refine ret_own hm rfl rfl (by infer_instance) (by repeat (first | exact Has.hd | assumption | apply Has.tl | apply Has.app)) (by first | rfl | omega | (simp only [zeros_length, zer_length, tab_length, part_length, setN_length, List.length_map, List.length_cons, List.length_nil, List.length_append, List.length_take, List.length_drop, List.length_replicate, blk_length, putL_length] <;> omega)) rfl ⟨rfl, hm.x⟩
   · have e1 : (n == 1) = false := by simpa using h1
     by_cases h2 : n = 2
     · subst h2
       rw [show K.at 2 = K.l from rfl]
       go_enter Tryz.func174, Tryz.ntmps174
       go_wp2_with (first | ((with_reducible apply wq_rdW (HL.out.ext hm.x)); exact rfl; infer_instance; exact rfl; exact ll) | ((((with_reducible show qSt); first | ((with_reducible apply wq_stW hm); exact rfl; infer_instance; exact rfl; exact rfl; (focus ((repeat (first | exact .hd | assumption | apply Swap.tl | apply Swap.app)); done)); (focus (first | rfl | omega | (simp; done) | (simp; omega))); (focus (first | rfl | omega | (simp; done) | (simp; omega))); (focus (first | exact one_map _ | (simp [one8, one32, one64]; done)))))); clear hm; intro w hm) | ((first | ((with_reducible show qAl); first | ((with_reducible apply wq_new hm); exact rfl; infer_instance))); clear hm; intro gx_; intro w hm))
       refine ret_own hm rfl rfl (by infer_instance) (by repeat (first | exact Has.hd | assumption | apply Has.tl | apply Has.app)) (by first | rfl | omega | (simp only [zeros_length, zer_length, tab_length, part_length, setN_length, List.length_map, List.length_cons, List.length_nil, List.length_append, List.length_take, List.length_drop, List.length_replicate, blk_length, putL_length] <;> omega)) rfl ⟨rfl, hm.x⟩
     · have e2 : (n == 2) = false := by simpa using h2
       rw [show K.at n = zer 16 from by rw [KeyP.at, if_neg h0, if_neg h1, if_neg h2]]
       go_enter Tryz.func174, Tryz.ntmps174
       go_wp2_with (first | ((with_reducible apply wq_build0 build_z16); exact rfl) | ((((with_reducible show qSt); first | ((with_reducible apply wq_stW hm); exact rfl; infer_instance; exact rfl; exact rfl; (focus ((repeat (first | exact .hd | assumption | apply Swap.tl | apply Swap.app)); done)); (focus (first | rfl | omega | (simp; done) | (simp; omega))); (focus (first | rfl | omega | (simp; done) | (simp; omega))); (focus (first | exact one_map _ | (simp [one8, one32, one64]; done)))))); clear hm; intro w hm) | ((first | ((with_reducible show qAl); first | ((with_reducible apply wq_new hm); exact rfl; infer_instance))); clear hm; intro gx_; intro w hm))
       refine ret_own hm rfl rfl (by infer_instance) (by repeat (first | exact Has.hd | assumption | apply Has.tl | apply Has.app)) (by first | rfl | omega | (simp only [zeros_length, zer_length, tab_length, part_length, setN_length, List.length_map, List.length_cons, List.length_nil, List.length_append, List.length_take, List.length_drop, List.length_replicate, blk_length, putL_length] <;> omega)) rfl ⟨rfl, hm.x⟩
def plusL (a : List Byte) : List (List Byte) → List Byte
 | [] => a
 | b :: ks => plusL (bothL a b) ks
theorem plusL_length (ks : List (List Byte)) : ∀ a : List Byte, a.length = 16 → (plusL a ks).length = 16 := by
 induction ks with
 | nil => intro a h; exact h
 | cons b ks ih => intro a h; exact ih _ (bothL_length _ _)
theorem plusL_append (ks ls : List (List Byte)) : ∀ a : List Byte, plusL a (ks ++ ls) = plusL (plusL a ks) ls := by
 induction ks with
 | nil => intro a; rfl
 | cons b ks ih => intro a; exact ih _
theorem plusL_take (a : List Byte) (ks : List (List Byte)) (k : Nat) (h : k < ks.length) : plusL a (ks.take (k + 1)) = bothL (plusL a (ks.take k)) (ks.getD k []) := by
 rw [List.take_succ_eq_append_getElem h, plusL_append, List.getD_eq_getElem?_getD, List.getElem?_eq_getElem h]; rfl
set_option maxHeartbeats 4000000 in
theorem ezplus_any (b : List Byte) (ks : List (List Byte)) (p : Option Addr) (c : Nat) (hb : b.length = 16) (w0 : World) (hk : RdK w0 p 16 ks) (hc : ks.length ≤ c) (hcm : ks.length ≤ 70368744177664) : Gives Tryz.prog 201 #[A8 b, .slice p ks.length c] w0 (A8 (plusL b ks)) := by
 unfold Gives
 have hm := Own.start w0
 have hb1 := Nat.le_of_eq hb
 have hb2 := Nat.le_of_eq hb.symm
 have HK := Lib.hid hk
 have HB := Lib.hid hb
 clear hb hk
 go_enter Tryz.func201, Tryz.ntmps201
 go_wp2_with (first | ((first | ((with_reducible show qAl); first | ((with_reducible apply wq_new hm); exact rfl; infer_instance)) | ((with_reducible show qBx); first | ((with_reducible apply wq_boxN hm); exact rfl; exact rfl))); clear hm; (first | (have hx_ := g1; clear hx_; (first | (have hx_ := g2; clear hx_; (first | (have hx_ := g3; clear hx_; intro gx_) | intro g3)) | intro g2)) | intro g1); intro w hm))
 go_loopw [10] (fun i wr => ∃ k : Nat, k ≤ ks.length ∧ i = .int .i64 k ∧ Own w0 wr [⟨g2, 94, (zer 16).map v8⟩, ⟨g1, 94, (plusL b (ks.take k)).map v8⟩]) (fun i _ => ks.length - (intOf i).toNat)
 case atStart => exact ⟨0, by omega, rfl, hm⟩
 case round =>
   obtain ⟨k, hk, rfl, hm⟩ := hrel
   have hB := plusL_length (ks.take k) b HB.out
   by_cases hlt : k < ks.length
   · have hd : decide ((k : Int) < (ks.length : Int)) = true := decide_eq_true (by omega)
     have hd2 : (k : Int) < (ks.length : Int) := by omega
     obtain ⟨a, rfl⟩ := HK.out.addr (by omega) (by omega)
     obtain ⟨hK, hKl⟩ := HK.out.at (by omega) k hlt
     have hS := plusL_take b ks k hlt
     simp only [Option.getD_some] at hK
     generalize plusL b (ks.take k) = B at *
     generalize ks.getD k [] = K at *
     have HS := Lib.hid hS
     have HK2 := Lib.hid hK
     have ES : Hid (B = part 16 0 (fun i => nth B i ^^^ nth K i) (nth B)) := Lib.hid (part_start hB)
     have EE : Hid (part 16 16 (fun i => nth B i ^^^ nth K i) (nth B) = bothL B K) := Lib.hid part_all
     have hK1 := Nat.le_of_eq hKl
     have hK2' := Nat.le_of_eq hKl.symm
     clear hK hS
     go_wp2_with (first | ((with_reducible apply wq_rdW (HK2.out.ext hm.x)); exact rfl; infer_instance; exact rfl; exact hKl) | ((((with_reducible show qSt); first | ((with_reducible apply wq_stW hm); exact rfl; infer_instance; exact rfl; exact rfl; (focus ((repeat (first | exact .hd | assumption | apply Swap.tl | apply Swap.app)); done)); (focus (first | rfl | omega | (simp; done) | (simp; omega))); (focus (first | rfl | omega | (simp; done) | (simp; omega))); (focus (first | exact one_map _ | (simp [one8, one32, one64]; done)))))); clear hm; intro w hm) | ((first | ((with_reducible show qAl); first | ((with_reducible apply wq_new hm); exact rfl; infer_instance))); clear hm; (first | (have hx_ := g1; clear hx_; (first | (have hx_ := g2; clear hx_; (first | (have hx_ := g3; clear hx_; intro gx_) | intro g3)) | intro g2)) | intro g1); intro w hm))
     rw [ES.out] at hm
     go_loopw [14] (fun i wr => ∃ j : Nat, j ≤ 16 ∧ i = .int .i64 j ∧ Own w0 wr [⟨g3, 94, K.map v8⟩, ⟨g2, 94, (zer 16).map v8⟩, ⟨g1, 94, (part 16 j (fun i => nth B i ^^^ nth K i) (nth B)).map v8⟩]) (fun i _ => 16 - (intOf i).toNat)
     case atStart => exact ⟨0, by omega, rfl, hm⟩
     case round =>
       obtain ⟨j, hj, rfl, hm⟩ := hrel
       by_cases hjl : j < 16
       · have hj1 : decide ((j : Int) < 16) = true := decide_eq_true (by omega)
         have hj2 : (j : Int) < 16 := by omega
         have EJ : Hid (setN (part 16 j (fun i => nth B i ^^^ nth K i) (nth B)) j (nth (part 16 j (fun i => nth B i ^^^ nth K i) (nth B)) j ^^^ nth K j) = part 16 (j + 1) (fun i => nth B i ^^^ nth K i) (nth B)) := Lib.hid (by
           rw [nth_part_ge hjl (Nat.le_refl _)]; exact part_set (f := fun i => nth B i ^^^ nth K i) hjl)
         have lJ : (part 16 j (fun i => nth B i ^^^ nth K i) (nth B)).length = 16 := part_length
         generalize part 16 j (fun i => nth B i ^^^ nth K i) (nth B) = C at *
         go_wp2_with fail
         refine region_at 8 (fun w' => Ext _ w') 28 (by kernel_rfl) (by kernel_rfl) rfl (fun _ _ h k => h.trans k) (drew_ext _) ?_
         simp only [tSC, List.take_zero, dSC, List.drop_zero, List.map_cons, List.map_nil]
         repeat (first
             | (apply walk_is rfl rfl rfl
                · (intro wx hwx; first | ((with_reducible show gives _ _ _ (Sem.run _ (execOp _ (Oper.mk _ (Op.load _ _) _ _ _ _)) _)); first | ((with_reducible apply gq_ldv (hm.ext hwx)); infer_instance; exact rfl; (focus ((repeat (first | exact .hd | assumption | apply Has.tl | apply Has.app)); done)); (focus (first | omega | (simp; omega) | (refine ltB ?_; first | omega | (simp; done) | (simp; omega)))))) | (go_simp; (try go_bits); first | exact gives_same | exact gives_skip))
                · (simp only [Act.put, sIB, sCS, sCZ]; rfl))
             | (apply walk_not rfl rfl rfl
                · (simp only [Act.put, sIB, sCS, sCZ]; rfl)))
         intro wz hwz
         simp only [zCC, zNR]
         repeat (first | rw [fin_is] | (rw [fin_cons]; intro _ _))
         rw [fin_nil]
         try (replace hm := hm.ext hwz)
         simp only [Act.put, sIB, sCS, sCZ]
         go_wp2_with (first | ((((with_reducible show qSt); first | ((with_reducible apply wq_stv hm); exact rfl; infer_instance; exact rfl; (focus ((repeat (first | exact .hd | assumption | apply Swap.tl | apply Swap.app)); done)); infer_instance; exact rfl; (focus (first | omega | (simp; omega) | (refine ltB ?_; first | omega | (simp; done) | (simp; omega))))))); clear hm; intro w hm))
         go_roundw
         case rel =>
           rw [EJ.out] at hm
           exact ⟨j + 1, by omega, by go_num, hm⟩
         case measure => simp [intOf] <;> omega
       · obtain rfl : j = 16 := by omega
         have hj1 : decide (((16 : Nat) : Int) < 16) = false := decide_eq_false (by omega)
         rw [EE.out] at hm
         go_wp2_with fail
         go_roundw
         case rel => exact ⟨k + 1, by omega, by go_num, by rw [HS.out]; exact hm.drop⟩
         case measure => simp [intOf] <;> omega
   · obtain rfl : k = ks.length := by omega
     have hd : decide ((ks.length : Int) < (ks.length : Int)) = false := decide_eq_false (by omega)
     rw [List.take_length] at hm hB
     go_wp2_with (first | ((with_reducible show qLd); first | ((with_reducible apply wq_ldW hm); exact rfl; infer_instance; exact rfl; (focus ((repeat (first | exact .hd | assumption | apply Has.tl | apply Has.app)); done)); (focus (first | rfl | omega | (simp; done) | (simp; omega))))) | ((((with_reducible show qSt); first | ((with_reducible apply wq_stW hm); exact rfl; infer_instance; exact rfl; exact rfl; (focus ((repeat (first | exact .hd | assumption | apply Swap.tl | apply Swap.app)); done)); (focus (first | rfl | omega | (simp; done) | (simp; omega))); (focus (first | rfl | omega | (simp; done) | (simp; omega))); (focus (first | exact one_map _ | (simp [one8, one32, one64]; done)))))); clear hm; intro w hm))
     refine ret_own hm rfl rfl (by infer_instance) (by repeat (first | exact Has.hd | assumption | apply Has.tl | apply Has.app)) (by first | rfl | omega | (simp only [zeros_length, zer_length, tab_length, part_length, setN_length, List.length_map, List.length_cons, List.length_nil, List.length_append, List.length_take, List.length_drop, List.length_replicate, blk_length, putL_length] <;> omega)) rfl ⟨rfl, hm.x⟩
set_option maxHeartbeats 2000000 in
theorem off_neg (g : Nat) (j i : Int) (w0 : World) (h : j < 0 ∨ i < 0) : Gives Tryz.prog 202 #[.pointer (some ⟨g, 0, none⟩), .int .i64 j, .int .i64 i] w0 (A8 (zer 16)) := by
 unfold Gives
 have hm := Own.start w0
 by_cases h1 : j < 0
 · have e1 : decide (j < 0) = true := decide_eq_true h1
   go_enter Tryz.func202, Tryz.ntmps202
   go_wp2_with (first | ((with_reducible apply wq_build0 build_z16); exact rfl) | ((((with_reducible show qSt); first | ((with_reducible apply wq_stW hm); exact rfl; infer_instance; exact rfl; exact rfl; (focus ((repeat (first | exact .hd | assumption | apply Swap.tl | apply Swap.app)); done)); (focus (first | rfl | omega | (simp; done) | (simp; omega))); (focus (first | rfl | omega | (simp; done) | (simp; omega))); (focus (first | exact one_map _ | (simp [one8, one32, one64]; done)))))); clear hm; intro w hm) | ((first | ((with_reducible show qAl); first | ((with_reducible apply wq_new hm); exact rfl; infer_instance))); clear hm; intro gx_; intro w hm))
   refine ret_own hm rfl rfl (by infer_instance) (by repeat (first | exact Has.hd | assumption | apply Has.tl | apply Has.app)) (by first | rfl | omega | (simp only [zeros_length, zer_length, tab_length, part_length, setN_length, List.length_map, List.length_cons, List.length_nil, List.length_append, List.length_take, List.length_drop, List.length_replicate, blk_length, putL_length] <;> omega)) rfl ⟨rfl, hm.x⟩
 · have e1 : decide (j < 0) = false := decide_eq_false h1
   have h2 : i < 0 := by omega
   have e2 : decide (i < 0) = true := decide_eq_true h2
   go_enter Tryz.func202, Tryz.ntmps202
   go_wp2_with (first | ((with_reducible apply wq_build0 build_z16); exact rfl) | ((((with_reducible show qSt); first | ((with_reducible apply wq_stW hm); exact rfl; infer_instance; exact rfl; exact rfl; (focus ((repeat (first | exact .hd | assumption | apply Swap.tl | apply Swap.app)); done)); (focus (first | rfl | omega | (simp; done) | (simp; omega))); (focus (first | rfl | omega | (simp; done) | (simp; omega))); (focus (first | exact one_map _ | (simp [one8, one32, one64]; done)))))); clear hm; intro w hm) | ((first | ((with_reducible show qAl); first | ((with_reducible apply wq_new hm); exact rfl; infer_instance))); clear hm; intro gx_; intro w hm))
   refine ret_own hm rfl rfl (by infer_instance) (by repeat (first | exact Has.hd | assumption | apply Has.tl | apply Has.app)) (by first | rfl | omega | (simp only [zeros_length, zer_length, tab_length, part_length, setN_length, List.length_map, List.length_cons, List.length_nil, List.length_append, List.length_take, List.length_drop, List.length_replicate, blk_length, putL_length] <;> omega)) rfl ⟨rfl, hm.x⟩
set_option maxHeartbeats 4000000 in
theorem off_pos (g : Nat) (K : KeyP) (j i : Nat) (w0 : World) (hk : KeyR w0 g K) (hj : j ≤ 9223372036854775807) (hi : i ≤ 9223372036854775807) : Gives Tryz.prog 202 #[.pointer (some ⟨g, 0, none⟩), .int .i64 j, .int .i64 i] w0 (A8 (offN K j i)) := by
 unfold Gives
 have hm := Own.start w0
 have HI := Lib.hid hk.rdi
 have HJ := Lib.hid hk.rdj
 have HL := Lib.hid hk.rdl
 have li := hk.1.hi
 have lj := hk.1.hj
 have ll := hk.1.hl
 have e1 : decide ((j : Int) < 0) = false := decide_eq_false (by omega)
 have e2 : decide ((i : Int) < 0) = false := decide_eq_false (by omega)
 obtain ⟨r, hr, hr8⟩ : ∃ r : Nat, i % 8 = r ∧ r < 8 := ⟨_, rfl, Nat.mod_lt _ (by omega)⟩
 obtain ⟨u, hu, hu8⟩ : ∃ u : Nat, i / 8 = u ∧ u ≤ 1152921504606846975 := ⟨_, rfl, by omega⟩
 have a1 : (i : Int) % 8 = (r : Int) := by omega
 have a2 : (i : Int).tmod 8 = (r : Int) := by rw [Int.tmod_eq_emod_of_nonneg (by omega)]; exact a1
 have a3 : (i : Int) / 8 = (u : Int) := by omega
 have a4 : (i : Int).tdiv 8 = (u : Int) := by rw [Int.tdiv_eq_ediv_of_nonneg (by omega)]; exact a3
 have D1 : Hid (∀ wx, Gives Tryz.prog 203 #[.int .u64 (j : Int), A8 K.j] wx (A8 (mulL (BitVec.ofNat 64 j) K.j))) := Lib.hid fun wx => by rw [natv64 (by omega)]; exact ring_mul _ K.j lj wx
 have D3 : Hid (∀ wx, Gives Tryz.prog 203 #[.int .u64 (r : Int), A8 K.l] wx (A8 (mulL (BitVec.ofNat 64 r) K.l))) := Lib.hid fun wx => by rw [natv64 (by omega)]; exact ring_mul _ K.l ll wx
 have l1 := mulL_length (BitVec.ofNat 64 j) K.j
 have l3 := mulL_length (BitVec.ofNat 64 r) K.l
 have l2 := dblN_length K.i li (upN i)
 have eO : offN K j i = plusL (mulL (BitVec.ofNat 64 j) K.j) [dblN K.i (upN i), mulL (BitVec.ofNat 64 r) K.l] := by rw [offN, hr]; rfl
 have D4 : Hid (∀ (wx : World) (p : Option Addr) (c : Nat), 2 ≤ c → RdK wx p 16 [dblN K.i (upN i), mulL (BitVec.ofNat 64 r) K.l] → Gives Tryz.prog 201 #[A8 (mulL (BitVec.ofNat 64 j) K.j), .slice p 2 c] wx (A8 (offN K j i))) := Lib.hid fun wx p c hc h => eO ▸ ezplus_any (mulL (BitVec.ofNat 64 j) K.j) [dblN K.i (upN i), mulL (BitVec.ofNat 64 r) K.l] p c l1 wx h hc (by simp)
 have hk2 : Hid (∀ k ∈ [dblN K.i (upN i), mulL (BitVec.ofNat 64 r) K.l], k.length = 16) := Lib.hid (by simp [l2, l3])
 have lO := offN_length K j i
 by_cases hr0 : r ≤ 1
 · have d2 := fun wx => ring_raised (upN i) K.i li (by unfold upN; omega) wx
   have eu : ((upN i : Nat) : Int) = (u : Int) + (r : Int) := by unfold upN; omega
   rw [eu] at d2
   have D2 := Lib.hid d2
   have hr1 : (r : Int) ≤ 1 := by omega
   clear d2 eu hr0
   clear eO
   generalize mulL (BitVec.ofNat 64 j) K.j = A at *
   generalize mulL (BitVec.ofNat 64 r) K.l = C at *
   generalize dblN K.i (upN i) = B at *
   generalize offN K j i = O at *
   clear hr hu hk
   go_enter Tryz.func202, Tryz.ntmps202
   go_wp2_with (first | ((first | ((with_reducible show qAl); first | ((with_reducible apply wq_new hm); exact rfl; infer_instance))); clear hm; intro gx_; intro w hm))
   have hi1 := fun wx (hwx : Ext w wx) => HI.out.ext (hm.x.trans hwx)
   have hj1 := fun wx (hwx : Ext w wx) => HJ.out.ext (hm.x.trans hwx)
   have hl1 := fun wx (hwx : Ext w wx) => HL.out.ext (hm.x.trans hwx)
   refine region_at 23 (fun w' => Ext _ w') 48 (by kernel_rfl) (by kernel_rfl) rfl (fun _ _ h k => h.trans k) (drew_ext _) ?_
   simp only [tSC, List.take_zero, dSC, List.drop_zero, List.map_cons, List.map_nil]
   repeat (first
       | (apply walk_is rfl rfl rfl
          · (intro wx hwx; (with_reducible apply gq_rdW ((hi1) wx hwx)); infer_instance; exact rfl; (focus (first | rfl | omega | (simp; done) | (simp; omega))))
          · (simp only [Act.put, sIB, sCS, sCZ]; rfl))
       | (apply walk_is rfl rfl rfl
          · (intro wx hwx; (with_reducible apply gq_rdW ((hj1) wx hwx)); infer_instance; exact rfl; (focus (first | rfl | omega | (simp; done) | (simp; omega))))
          · (simp only [Act.put, sIB, sCS, sCZ]; rfl))
       | (apply walk_is rfl rfl rfl
          · (intro wx hwx; (with_reducible apply gq_rdW ((hl1) wx hwx)); infer_instance; exact rfl; (focus (first | rfl | omega | (simp; done) | (simp; omega))))
          · (simp only [Act.put, sIB, sCS, sCZ]; rfl))
       | (apply walk_some (KeysS ([B, C])) 46 (KeysS.stable _) rfl rfl rfl rfl; (intro wx hwx; exact gq_bs2 (hk2.out) (bs_run2 B C l2 l3 wx) rfl rfl))
       | (apply walk_from (T := [(46, KeysS [B, C])]) rfl rfl
          · (intro wx hwx; simp only [withS]; (rintro x ⟨p, c, rfl, hlc, hk'⟩); refine ⟨rfl, ?_⟩; go_simp; exact gives_call (D4.out wx p c hlc hk'))
          · (simp only [Act.put, sIB, sCS, sCZ]; rfl))
       | (apply walk_is rfl rfl rfl
          · (intro wx hwx; go_simp; (try go_bits); first | exact gives_same | exact gives_skip | with_reducible exact gives_call (D1.out wx) | with_reducible exact gives_call (D2.out wx) | with_reducible exact gives_call (D3.out wx))
          · (simp only [Act.put, sIB, sCS, sCZ]; rfl))
       | (apply walk_not rfl rfl rfl
          · (simp only [Act.put, sIB, sCS, sCZ]; rfl)))
   intro wz hwz
   simp only [zCC, zNR]
   repeat (first | rw [fin_is] | (rw [fin_cons]; intro _ _))
   rw [fin_nil]
   try (replace hm := hm.ext hwz)
   simp only [Act.put, sIB, sCS, sCZ]
   clear hi1 hj1 hl1
   go_wp2_with (first | ((((with_reducible show qSt); first | ((with_reducible apply wq_stW hm); exact rfl; infer_instance; exact rfl; exact rfl; (focus ((repeat (first | exact .hd | assumption | apply Swap.tl | apply Swap.app)); done)); (focus (first | rfl | omega | (simp; done) | (simp; omega))); (focus (first | rfl | omega | (simp; done) | (simp; omega))); (focus (first | exact one_map _ | (simp [one8, one32, one64]; done)))))); clear hm; intro w hm))
   refine ret_own hm rfl rfl (by infer_instance) (by repeat (first | exact Has.hd | assumption | apply Has.tl | apply Has.app)) (by first | rfl | omega | (simp only [zeros_length, zer_length, tab_length, part_length, setN_length, List.length_map, List.length_cons, List.length_nil, List.length_append, List.length_take, List.length_drop, List.length_replicate, blk_length, putL_length] <;> omega)) rfl ⟨rfl, hm.x⟩
 · have d2 := fun wx => ring_raised (upN i) K.i li (by unfold upN; omega) wx
   have eu : ((upN i : Nat) : Int) = (u : Int) + 1 := by unfold upN; omega
   rw [eu] at d2
   have D2 := Lib.hid d2
   have hr1 : ¬ (r : Int) ≤ 1 := by omega
   clear d2 eu hr0
   clear eO
   generalize mulL (BitVec.ofNat 64 j) K.j = A at *
   generalize mulL (BitVec.ofNat 64 r) K.l = C at *
   generalize dblN K.i (upN i) = B at *
   generalize offN K j i = O at *
   clear hr hu hk
   go_enter Tryz.func202, Tryz.ntmps202
   go_wp2_with (first | ((first | ((with_reducible show qAl); first | ((with_reducible apply wq_new hm); exact rfl; infer_instance))); clear hm; intro gx_; intro w hm))
   have hi1 := fun wx (hwx : Ext w wx) => HI.out.ext (hm.x.trans hwx)
   have hj1 := fun wx (hwx : Ext w wx) => HJ.out.ext (hm.x.trans hwx)
   have hl1 := fun wx (hwx : Ext w wx) => HL.out.ext (hm.x.trans hwx)
   refine region_at 23 (fun w' => Ext _ w') 48 (by kernel_rfl) (by kernel_rfl) rfl (fun _ _ h k => h.trans k) (drew_ext _) ?_
   simp only [tSC, List.take_zero, dSC, List.drop_zero, List.map_cons, List.map_nil]
   repeat (first
       | (apply walk_is rfl rfl rfl
          · (intro wx hwx; (with_reducible apply gq_rdW ((hi1) wx hwx)); infer_instance; exact rfl; (focus (first | rfl | omega | (simp; done) | (simp; omega))))
          · (simp only [Act.put, sIB, sCS, sCZ]; rfl))
       | (apply walk_is rfl rfl rfl
          · (intro wx hwx; (with_reducible apply gq_rdW ((hj1) wx hwx)); infer_instance; exact rfl; (focus (first | rfl | omega | (simp; done) | (simp; omega))))
          · (simp only [Act.put, sIB, sCS, sCZ]; rfl))
       | (apply walk_is rfl rfl rfl
          · (intro wx hwx; (with_reducible apply gq_rdW ((hl1) wx hwx)); infer_instance; exact rfl; (focus (first | rfl | omega | (simp; done) | (simp; omega))))
          · (simp only [Act.put, sIB, sCS, sCZ]; rfl))
       | (apply walk_some (KeysS ([B, C])) 46 (KeysS.stable _) rfl rfl rfl rfl; (intro wx hwx; exact gq_bs2 (hk2.out) (bs_run2 B C l2 l3 wx) rfl rfl))
       | (apply walk_from (T := [(46, KeysS [B, C])]) rfl rfl
          · (intro wx hwx; simp only [withS]; (rintro x ⟨p, c, rfl, hlc, hk'⟩); refine ⟨rfl, ?_⟩; go_simp; exact gives_call (D4.out wx p c hlc hk'))
          · (simp only [Act.put, sIB, sCS, sCZ]; rfl))
       | (apply walk_is rfl rfl rfl
          · (intro wx hwx; go_simp; (try go_bits); first | exact gives_same | exact gives_skip | with_reducible exact gives_call (D1.out wx) | with_reducible exact gives_call (D2.out wx) | with_reducible exact gives_call (D3.out wx))
          · (simp only [Act.put, sIB, sCS, sCZ]; rfl))
       | (apply walk_not rfl rfl rfl
          · (simp only [Act.put, sIB, sCS, sCZ]; rfl)))
   intro wz hwz
   simp only [zCC, zNR]
   repeat (first | rw [fin_is] | (rw [fin_cons]; intro _ _))
   rw [fin_nil]
   try (replace hm := hm.ext hwz)
   simp only [Act.put, sIB, sCS, sCZ]
   clear hi1 hj1 hl1
   go_wp2_with (first | ((((with_reducible show qSt); first | ((with_reducible apply wq_stW hm); exact rfl; infer_instance; exact rfl; exact rfl; (focus ((repeat (first | exact .hd | assumption | apply Swap.tl | apply Swap.app)); done)); (focus (first | rfl | omega | (simp; done) | (simp; omega))); (focus (first | rfl | omega | (simp; done) | (simp; omega))); (focus (first | exact one_map _ | (simp [one8, one32, one64]; done)))))); clear hm; intro w hm))
   refine ret_own hm rfl rfl (by infer_instance) (by repeat (first | exact Has.hd | assumption | apply Has.tl | apply Has.app)) (by first | rfl | omega | (simp only [zeros_length, zer_length, tab_length, part_length, setN_length, List.length_map, List.length_cons, List.length_nil, List.length_append, List.length_take, List.length_drop, List.length_replicate, blk_length, putL_length] <;> omega)) rfl ⟨rfl, hm.x⟩
def boxTab : List Byte := tab 256 fun a => sbox (BitVec.ofNat 8 a)
def subL (t b : List Byte) : List Byte := tab 16 fun i => nth t (nth b i).toNat
def shiftF (b : List Byte) (i : Nat) : Byte := nth b (shp (i % 4) (i / 4))
def shiftL (b : List Byte) : List Byte := tab 16 (shiftF b)
def mixB (by_ b : List Byte) (i : Nat) : Nat → Byte
 | 0 => 0#8
 | k + 1 => mixB by_ b i k ^^^ tms (nth by_ ((k + 4 - i % 4) % 4)) (nth b (4 * (i / 4) + k))
def mixL (by_ b : List Byte) : List Byte := tab 16 fun i => mixB by_ b i 4
theorem take256_length : (tabs.take 256).length = 256 := by simp [tabs_length]
attribute [local simp] take256_length
theorem gq_build {P : Program} {dst : Option Tmp} {ty : TypeId} {pos : String} {aft : Array Edge} {gd : Option (Nat × Bool)} {a : Act} {w : World} {T : TypeId} {v : Value} {parts : Array (Nat × Operand)} {vs : Array (Nat × Value)} (hb : ∀ w, (Instr.build T vs).run P w = .ok v w) (hp : parts.map (fun p => (p.1, a.eval p.2)) = vs) : gives P w (Is v) ((execOp a.eval (Oper.mk dst (.build T parts) ty pos aft gd)).run P w) := by
 subst hp
 have h := hb w
 unfold execOp
 simp only [Sem.run_bind, h, Result.andThen_ok, Sem.run_pure]
 exact gives_same
end Go.Proofs.YtdmgchdhilcncaaGreatDoor
