/-
  Layer 15: a key's parts, sums of blocks, offsets. Conditions: those written in each theorem.
  Layer 15: offsets of numbers from 0 on, and the tweaked block function. Conditions: those written in each theorem.
  Layer 2: the reference's products, powers, inverses, boxes. No conditions.
-/
import Derived.Test.YtaijfigohlkccaaGreatDoorZCoreTurns0
import Derived.Test.YtaijfigohlkccaaGreatDoorZCoreTurns8
import Derived.Test.YtaijfigohlkccaaGreatDoorZCoreTurns9
import Derived.Test.YtaijfigohlkccaaGreatDoorZCoreTurns10
set_option linter.unusedSimpArgs false
set_option linter.unusedVariables false
namespace Go.Proofs.YtaijfigohlkccaaGreatDoor
open Go Go.RowKit
set_option maxRecDepth 100000
def kcells (gt : Nat) (K : KeyP) : List Value := .pointer (some ⟨gt, 0, none⟩) :: ((K.i ++ (K.j ++ K.l)).map v8)
def KeyR (w : World) (g : Nat) (K : KeyP) : Prop := K.Ok ∧ ∃ gt gb, Row w g 100 (kcells gt K) ∧ Row w gt 105 (tcells gb mixT unmixT)
theorem KeyR.ext {w w' : World} {g : Nat} {K : KeyP} (h : KeyR w g K) (hx : Ext w w') : KeyR w' g K := by
 obtain ⟨ho, gt, gb, h1, h2⟩ := h; exact ⟨ho, gt, gb, row_ext h1 hx, row_ext h2 hx⟩
theorem row_seg {w : World} {g : Nat} {t : TypeId} {cs : List Value} (h : Row w g t cs) (k : Nat) (l : List Byte) (hl : (cs.drop k).take l.length = l.map v8) : RdB w (some ⟨g, k, none⟩) l :=
 ⟨fun _ => rfl, fun i hi => by
   simp only [Option.getD_some]
   have e : (⟨g, k, none⟩ : Addr).add i = ⟨g, k + i, none⟩ := by rw [Addr.add_mid]
   rw [e, row_cell h]
   have := congrArg (·[i]?) hl
   simp only [List.getElem?_take, if_pos hi, List.getElem?_drop, List.getElem?_map] at this
   rw [this, List.getElem?_eq_getElem hi, List.getD_eq_getElem?_getD, List.getElem?_eq_getElem hi]; rfl⟩
theorem kcells_i (gt : Nat) (K : KeyP) (h : K.Ok) : ((kcells gt K).drop 1).take K.i.length = K.i.map v8 := by
 simp [kcells, List.take_append_of_le_length]
theorem kcells_j (gt : Nat) (K : KeyP) (h : K.Ok) : ((kcells gt K).drop 17).take K.j.length = K.j.map v8 := by
 have := h.hi
 simp only [kcells, show (17 : Nat) = 16 + 1 from rfl, dSC, List.map_append]
 rw [List.drop_append_of_le_length (by simp [this]), List.drop_eq_nil_of_le (by simp [this]), List.nil_append, List.take_append_of_le_length (by simp), List.take_of_length_le (by simp)]
theorem kcells_l (gt : Nat) (K : KeyP) (h : K.Ok) : ((kcells gt K).drop 33).take K.l.length = K.l.map v8 := by
 have h1 := h.hi
 have h2 := h.hj
 simp only [kcells, show (33 : Nat) = 32 + 1 from rfl, dSC]
 rw [← List.append_assoc, List.map_append, List.drop_append_of_le_length (by simp [h1, h2]), List.drop_eq_nil_of_le (by simp [h1, h2]), List.nil_append, List.take_of_length_le (by simp)]
theorem KeyR.rdi {w : World} {g : Nat} {K : KeyP} (h : KeyR w g K) : RdB w (some ⟨g, 1, none⟩) K.i := by obtain ⟨ho, gt, gb, h1, h2⟩ := h; exact row_seg h1 1 _ (kcells_i gt K ho)
theorem KeyR.rdj {w : World} {g : Nat} {K : KeyP} (h : KeyR w g K) : RdB w (some ⟨g, 17, none⟩) K.j := by obtain ⟨ho, gt, gb, h1, h2⟩ := h; exact row_seg h1 17 _ (kcells_j gt K ho)
theorem KeyR.rdl {w : World} {g : Nat} {K : KeyP} (h : KeyR w g K) : RdB w (some ⟨g, 33, none⟩) K.l := by obtain ⟨ho, gt, gb, h1, h2⟩ := h; exact row_seg h1 33 _ (kcells_l gt K ho)
set_option maxHeartbeats 2000000 in
theorem part_any (g : Nat) (K : KeyP) (n : Int) (w0 : World) (hk : KeyR w0 g K) : Gives Tryz.prog 73 #[.pointer (some ⟨g, 0, none⟩), .int .i64 n] w0 (A8 (K.at n)) := by
 unfold Gives
 have hm := Own.start w0
 have HI := Lib.hid hk.rdi
 have HJ := Lib.hid hk.rdj
 have HL := Lib.hid hk.rdl
 have li := hk.1.hi
 have lj := hk.1.hj
 have ll := hk.1.hl
 clear hk
 by_cases h0 : n = 0
 · subst h0
   rw [show K.at 0 = K.i from rfl]
   go_enter Tryz.func73, Tryz.ntmps73
   go_wp2_with (first | ((with_reducible apply wq_rdW (HI.out.ext hm.x)); exact rfl; infer_instance; exact rfl; exact li) | ((((with_reducible show qSt); first | ((with_reducible apply wq_stW hm); exact rfl; infer_instance; exact rfl; exact rfl; (focus ((repeat (first | exact .hd | assumption | apply Swap.tl | apply Swap.app)); done)); (focus (first | rfl | omega | (simp; done) | (simp; omega))); (focus (first | rfl | omega | (simp; done) | (simp; omega))); (focus (first | exact one_map _ | (simp [one8, one32, one64]; done)))))); clear hm; intro w hm) | ((first | ((with_reducible show qAl); first | ((with_reducible apply wq_new hm); exact rfl; infer_instance))); clear hm; intro gx_; intro w hm))
   refine ret_own hm rfl rfl (by infer_instance) (by repeat (first | exact Has.hd | assumption | apply Has.tl | apply Has.app)) (by first | rfl | omega | (simp only [zeros_length, zer_length, tab_length, part_length, setN_length, List.length_map, List.length_cons, List.length_nil, List.length_append, List.length_take, List.length_drop, List.length_replicate, blk_length, putL_length] <;> omega)) rfl ⟨rfl, hm.x⟩
 · have e0 : (n == 0) = false := by simpa using h0
   by_cases h1 : n = 1
   · subst h1
     rw [show K.at 1 = K.j from rfl]
     go_enter Tryz.func73, Tryz.ntmps73
     go_wp2_with (first | ((with_reducible apply wq_rdW (HJ.out.ext hm.x)); exact rfl; infer_instance; exact rfl; exact lj) | ((((with_reducible show qSt); first | ((with_reducible apply wq_stW hm); exact rfl; infer_instance; exact rfl; exact rfl; (focus ((repeat (first | exact .hd | assumption | apply Swap.tl | apply Swap.app)); done)); (focus (first | rfl | omega | (simp; done) | (simp; omega))); (focus (first | rfl | omega | (simp; done) | (simp; omega))); (focus (first | exact one_map _ | (simp [one8, one32, one64]; done)))))); clear hm; intro w hm) | ((first | ((with_reducible show qAl); first | ((with_reducible apply wq_new hm); exact rfl; infer_instance))); clear hm; intro gx_; intro w hm))
     refine ret_own hm rfl rfl (by infer_instance) (by repeat (first | exact Has.hd | assumption | apply Has.tl | apply Has.app)) (by first | rfl | omega | (simp only [zeros_length, zer_length, tab_length, part_length, setN_length, List.length_map, List.length_cons, List.length_nil, List.length_append, List.length_take, List.length_drop, List.length_replicate, blk_length, putL_length] <;> omega)) rfl ⟨rfl, hm.x⟩
   · have e1 : (n == 1) = false := by simpa using h1
     by_cases h2 : n = 2
     · subst h2
       rw [show K.at 2 = K.l from rfl]
       go_enter Tryz.func73, Tryz.ntmps73
       go_wp2_with (first | ((with_reducible apply wq_rdW (HL.out.ext hm.x)); exact rfl; infer_instance; exact rfl; exact ll) | ((((with_reducible show qSt); first | ((with_reducible apply wq_stW hm); exact rfl; infer_instance; exact rfl; exact rfl; (focus ((repeat (first | exact .hd | assumption | apply Swap.tl | apply Swap.app)); done)); (focus (first | rfl | omega | (simp; done) | (simp; omega))); (focus (first | rfl | omega | (simp; done) | (simp; omega))); (focus (first | exact one_map _ | (simp [one8, one32, one64]; done)))))); clear hm; intro w hm) | ((first | ((with_reducible show qAl); first | ((with_reducible apply wq_new hm); exact rfl; infer_instance))); clear hm; intro gx_; intro w hm))
       refine ret_own hm rfl rfl (by infer_instance) (by repeat (first | exact Has.hd | assumption | apply Has.tl | apply Has.app)) (by first | rfl | omega | (simp only [zeros_length, zer_length, tab_length, part_length, setN_length, List.length_map, List.length_cons, List.length_nil, List.length_append, List.length_take, List.length_drop, List.length_replicate, blk_length, putL_length] <;> omega)) rfl ⟨rfl, hm.x⟩
     · have e2 : (n == 2) = false := by simpa using h2
       rw [show K.at n = zer 16 from by rw [KeyP.at, if_neg h0, if_neg h1, if_neg h2]]
       go_enter Tryz.func73, Tryz.ntmps73
       go_wp2_with (first | ((with_reducible apply wq_build0 build_z16); exact rfl) | ((((with_reducible show qSt); first | ((with_reducible apply wq_stW hm); exact rfl; infer_instance; exact rfl; exact rfl; (focus ((repeat (first | exact .hd | assumption | apply Swap.tl | apply Swap.app)); done)); (focus (first | rfl | omega | (simp; done) | (simp; omega))); (focus (first | rfl | omega | (simp; done) | (simp; omega))); (focus (first | exact one_map _ | (simp [one8, one32, one64]; done)))))); clear hm; intro w hm) | ((first | ((with_reducible show qAl); first | ((with_reducible apply wq_new hm); exact rfl; infer_instance))); clear hm; intro gx_; intro w hm))
       refine ret_own hm rfl rfl (by infer_instance) (by repeat (first | exact Has.hd | assumption | apply Has.tl | apply Has.app)) (by first | rfl | omega | (simp only [zeros_length, zer_length, tab_length, part_length, setN_length, List.length_map, List.length_cons, List.length_nil, List.length_append, List.length_take, List.length_drop, List.length_replicate, blk_length, putL_length] <;> omega)) rfl ⟨rfl, hm.x⟩
def plusL (a : List Byte) : List (List Byte) → List Byte
 | [] => a
 | b :: ks => plusL (bothL a b) ks
theorem plusL_length (ks : List (List Byte)) : ∀ a : List Byte, a.length = 16 → (plusL a ks).length = 16 := by
 induction ks with
 | nil => intro a h; exact h
 | cons b ks ih => intro a h; exact ih _ (bothL_length _ _)
theorem plusL_append (ks ls : List (List Byte)) : ∀ a : List Byte, plusL a (ks ++ ls) = plusL (plusL a ks) ls := by
 induction ks with
 | nil => intro a; rfl
 | cons b ks ih => intro a; exact ih _
theorem plusL_take (a : List Byte) (ks : List (List Byte)) (k : Nat) (h : k < ks.length) : plusL a (ks.take (k + 1)) = bothL (plusL a (ks.take k)) (ks.getD k []) := by
 rw [List.take_succ_eq_append_getElem h, plusL_append, List.getD_eq_getElem?_getD, List.getElem?_eq_getElem h]; rfl
set_option maxHeartbeats 4000000 in
theorem ezplus_any (b : List Byte) (ks : List (List Byte)) (p : Option Addr) (c : Nat) (hb : b.length = 16) (w0 : World) (hk : RdK w0 p 16 ks) (hc : ks.length ≤ c) (hcm : ks.length ≤ 70368744177664) : Gives Tryz.prog 71 #[A8 b, .slice p ks.length c] w0 (A8 (plusL b ks)) := by
 unfold Gives
 have hm := Own.start w0
 have hb1 := Nat.le_of_eq hb
 have hb2 := Nat.le_of_eq hb.symm
 have HK := Lib.hid hk
 have HB := Lib.hid hb
 clear hb hk
 go_enter Tryz.func71, Tryz.ntmps71
 go_wp2_with (first | ((first | ((with_reducible show qAl); first | ((with_reducible apply wq_new hm); exact rfl; infer_instance)) | ((with_reducible show qBx); first | ((with_reducible apply wq_boxN hm); exact rfl; exact rfl))); clear hm; (first | (have hx_ := g1; clear hx_; (first | (have hx_ := g2; clear hx_; (first | (have hx_ := g3; clear hx_; intro gx_) | intro g3)) | intro g2)) | intro g1); intro w hm))
 go_loopw [10] (fun i wr => ∃ k : Nat, k ≤ ks.length ∧ i = .int .i64 k ∧ Own w0 wr [⟨g2, 36, (zer 16).map v8⟩, ⟨g1, 36, (plusL b (ks.take k)).map v8⟩]) (fun i _ => ks.length - (intOf i).toNat)
 case atStart => exact ⟨0, by omega, rfl, hm⟩
 case round =>
   obtain ⟨k, hk, rfl, hm⟩ := hrel
   have hB := plusL_length (ks.take k) b HB.out
   by_cases hlt : k < ks.length
   · have hd : decide ((k : Int) < (ks.length : Int)) = true := decide_eq_true (by omega)
     have hd2 : (k : Int) < (ks.length : Int) := by omega
     obtain ⟨a, rfl⟩ := HK.out.addr (by omega) (by omega)
     obtain ⟨hK, hKl⟩ := HK.out.at (by omega) k hlt
     have hS := plusL_take b ks k hlt
     simp only [Option.getD_some] at hK
     generalize plusL b (ks.take k) = B at *
     generalize ks.getD k [] = K at *
     have HS := Lib.hid hS
     have HK2 := Lib.hid hK
     have ES : Hid (B = part 16 0 (fun i => nth B i ^^^ nth K i) (nth B)) := Lib.hid (part_start hB)
     have EE : Hid (part 16 16 (fun i => nth B i ^^^ nth K i) (nth B) = bothL B K) := Lib.hid part_all
     have hK1 := Nat.le_of_eq hKl
     have hK2' := Nat.le_of_eq hKl.symm
     clear hK hS
     go_wp2_with (first | ((with_reducible apply wq_rdW (HK2.out.ext hm.x)); exact rfl; infer_instance; exact rfl; exact hKl) | ((((with_reducible show qSt); first | ((with_reducible apply wq_stW hm); exact rfl; infer_instance; exact rfl; exact rfl; (focus ((repeat (first | exact .hd | assumption | apply Swap.tl | apply Swap.app)); done)); (focus (first | rfl | omega | (simp; done) | (simp; omega))); (focus (first | rfl | omega | (simp; done) | (simp; omega))); (focus (first | exact one_map _ | (simp [one8, one32, one64]; done)))))); clear hm; intro w hm) | ((first | ((with_reducible show qAl); first | ((with_reducible apply wq_new hm); exact rfl; infer_instance))); clear hm; (first | (have hx_ := g1; clear hx_; (first | (have hx_ := g2; clear hx_; (first | (have hx_ := g3; clear hx_; intro gx_) | intro g3)) | intro g2)) | intro g1); intro w hm))
     rw [ES.out] at hm
     go_loopw [14] (fun i wr => ∃ j : Nat, j ≤ 16 ∧ i = .int .i64 j ∧ Own w0 wr [⟨g3, 36, K.map v8⟩, ⟨g2, 36, (zer 16).map v8⟩, ⟨g1, 36, (part 16 j (fun i => nth B i ^^^ nth K i) (nth B)).map v8⟩]) (fun i _ => 16 - (intOf i).toNat)
     case atStart => exact ⟨0, by omega, rfl, hm⟩
     case round =>
       obtain ⟨j, hj, rfl, hm⟩ := hrel
       by_cases hjl : j < 16
       · have hj1 : decide ((j : Int) < 16) = true := decide_eq_true (by omega)
         have hj2 : (j : Int) < 16 := by omega
         have EJ : Hid (setN (part 16 j (fun i => nth B i ^^^ nth K i) (nth B)) j (nth (part 16 j (fun i => nth B i ^^^ nth K i) (nth B)) j ^^^ nth K j) = part 16 (j + 1) (fun i => nth B i ^^^ nth K i) (nth B)) := Lib.hid (by
           rw [nth_part_ge hjl (Nat.le_refl _)]; exact part_set (f := fun i => nth B i ^^^ nth K i) hjl)
         have lJ : (part 16 j (fun i => nth B i ^^^ nth K i) (nth B)).length = 16 := part_length
         generalize part 16 j (fun i => nth B i ^^^ nth K i) (nth B) = C at *
         go_wp2_with fail
         refine region_at 8 (fun w' => Ext _ w') 28 (by kernel_rfl) (by kernel_rfl) rfl (fun _ _ h k => h.trans k) (drew_ext _) ?_
         simp only [tSC, List.take_zero, dSC, List.drop_zero, List.map_cons, List.map_nil]
         repeat (first
             | (apply walk_is rfl rfl rfl
                · (intro wx hwx; first | ((with_reducible show gives _ _ _ (Sem.run _ (execOp _ (Oper.mk _ (Op.load _ _) _ _ _ _)) _)); first | ((with_reducible apply gq_ldv (hm.ext hwx)); infer_instance; exact rfl; (focus ((repeat (first | exact .hd | assumption | apply Has.tl | apply Has.app)); done)); (focus (first | omega | (simp; omega) | (refine ltB ?_; first | omega | (simp; done) | (simp; omega))))) | ((with_reducible apply gq_ldW (hm.ext hwx)); infer_instance; exact rfl; (focus ((repeat (first | exact .hd | assumption | apply Has.tl | apply Has.app)); done)); (focus (first | rfl | omega | (simp; done) | (simp; omega)))) | ((with_reducible apply gq_ld1 (hm.ext hwx)); infer_instance; exact rfl; (focus ((repeat (first | exact .hd | assumption | apply Has.tl | apply Has.app)); done)); exact rfl)) | (go_simp; (try go_bits); first | exact gives_same | exact gives_skip))
                · (simp only [Act.put, sIB, sCS, sCZ]; rfl))
             | (apply walk_not rfl rfl rfl
                · (simp only [Act.put, sIB, sCS, sCZ]; rfl)))
         intro wz hwz
         simp only [zCC, zNR]
         repeat (first | rw [fin_is] | (rw [fin_cons]; intro _ _))
         rw [fin_nil]
         try (replace hm := hm.ext hwz)
         simp only [Act.put, sIB, sCS, sCZ]
         go_wp2_with (first | ((((with_reducible show qSt); first | ((with_reducible apply wq_stv hm); exact rfl; infer_instance; exact rfl; (focus ((repeat (first | exact .hd | assumption | apply Swap.tl | apply Swap.app)); done)); infer_instance; exact rfl; (focus (first | omega | (simp; omega) | (refine ltB ?_; first | omega | (simp; done) | (simp; omega))))))); clear hm; intro w hm))
         go_roundw
         case rel =>
           rw [EJ.out] at hm
           exact ⟨j + 1, by omega, by go_num, hm⟩
         case measure => simp [intOf] <;> omega
       · obtain rfl : j = 16 := by omega
         have hj1 : decide (((16 : Nat) : Int) < 16) = false := decide_eq_false (by omega)
         rw [EE.out] at hm
         go_wp2_with fail
         go_roundw
         case rel => exact ⟨k + 1, by omega, by go_num, by rw [HS.out]; exact hm.drop⟩
         case measure => simp [intOf] <;> omega
   · obtain rfl : k = ks.length := by omega
     have hd : decide ((ks.length : Int) < (ks.length : Int)) = false := decide_eq_false (by omega)
     rw [List.take_length] at hm hB
     go_wp2_with (first | ((with_reducible show qLd); first | ((with_reducible apply wq_ldW hm); exact rfl; infer_instance; exact rfl; (focus ((repeat (first | exact .hd | assumption | apply Has.tl | apply Has.app)); done)); (focus (first | rfl | omega | (simp; done) | (simp; omega))))) | ((((with_reducible show qSt); first | ((with_reducible apply wq_stW hm); exact rfl; infer_instance; exact rfl; exact rfl; (focus ((repeat (first | exact .hd | assumption | apply Swap.tl | apply Swap.app)); done)); (focus (first | rfl | omega | (simp; done) | (simp; omega))); (focus (first | rfl | omega | (simp; done) | (simp; omega))); (focus (first | exact one_map _ | (simp [one8, one32, one64]; done)))))); clear hm; intro w hm))
     refine ret_own hm rfl rfl (by infer_instance) (by repeat (first | exact Has.hd | assumption | apply Has.tl | apply Has.app)) (by first | rfl | omega | (simp only [zeros_length, zer_length, tab_length, part_length, setN_length, List.length_map, List.length_cons, List.length_nil, List.length_append, List.length_take, List.length_drop, List.length_replicate, blk_length, putL_length] <;> omega)) rfl ⟨rfl, hm.x⟩
set_option maxHeartbeats 2000000 in
theorem off_neg (g : Nat) (j i : Int) (w0 : World) (h : j < 0 ∨ i < 0) : Gives Tryz.prog 72 #[.pointer (some ⟨g, 0, none⟩), .int .i64 j, .int .i64 i] w0 (A8 (zer 16)) := by
 unfold Gives
 have hm := Own.start w0
 by_cases h1 : j < 0
 · have e1 : decide (j < 0) = true := decide_eq_true h1
   go_enter Tryz.func72, Tryz.ntmps72
   go_wp2_with (first | ((with_reducible apply wq_build0 build_z16); exact rfl) | ((((with_reducible show qSt); first | ((with_reducible apply wq_stW hm); exact rfl; infer_instance; exact rfl; exact rfl; (focus ((repeat (first | exact .hd | assumption | apply Swap.tl | apply Swap.app)); done)); (focus (first | rfl | omega | (simp; done) | (simp; omega))); (focus (first | rfl | omega | (simp; done) | (simp; omega))); (focus (first | exact one_map _ | (simp [one8, one32, one64]; done)))))); clear hm; intro w hm) | ((first | ((with_reducible show qAl); first | ((with_reducible apply wq_new hm); exact rfl; infer_instance))); clear hm; intro gx_; intro w hm))
   refine ret_own hm rfl rfl (by infer_instance) (by repeat (first | exact Has.hd | assumption | apply Has.tl | apply Has.app)) (by first | rfl | omega | (simp only [zeros_length, zer_length, tab_length, part_length, setN_length, List.length_map, List.length_cons, List.length_nil, List.length_append, List.length_take, List.length_drop, List.length_replicate, blk_length, putL_length] <;> omega)) rfl ⟨rfl, hm.x⟩
 · have e1 : decide (j < 0) = false := decide_eq_false h1
   have h2 : i < 0 := by omega
   have e2 : decide (i < 0) = true := decide_eq_true h2
   go_enter Tryz.func72, Tryz.ntmps72
   go_wp2_with (first | ((with_reducible apply wq_build0 build_z16); exact rfl) | ((((with_reducible show qSt); first | ((with_reducible apply wq_stW hm); exact rfl; infer_instance; exact rfl; exact rfl; (focus ((repeat (first | exact .hd | assumption | apply Swap.tl | apply Swap.app)); done)); (focus (first | rfl | omega | (simp; done) | (simp; omega))); (focus (first | rfl | omega | (simp; done) | (simp; omega))); (focus (first | exact one_map _ | (simp [one8, one32, one64]; done)))))); clear hm; intro w hm) | ((first | ((with_reducible show qAl); first | ((with_reducible apply wq_new hm); exact rfl; infer_instance))); clear hm; intro gx_; intro w hm))
   refine ret_own hm rfl rfl (by infer_instance) (by repeat (first | exact Has.hd | assumption | apply Has.tl | apply Has.app)) (by first | rfl | omega | (simp only [zeros_length, zer_length, tab_length, part_length, setN_length, List.length_map, List.length_cons, List.length_nil, List.length_append, List.length_take, List.length_drop, List.length_replicate, blk_length, putL_length] <;> omega)) rfl ⟨rfl, hm.x⟩
end Go.Proofs.YtaijfigohlkccaaGreatDoor
namespace Go.Proofs.YtaijfigohlkccaaGreatDoor
open Go Go.RowKit
set_option maxRecDepth 100000
set_option maxHeartbeats 4000000 in
theorem off_pos (g : Nat) (K : KeyP) (j i : Nat) (w0 : World) (hk : KeyR w0 g K) (hj : j ≤ 9223372036854775807) (hi : i ≤ 9223372036854775807) : Gives Tryz.prog 72 #[.pointer (some ⟨g, 0, none⟩), .int .i64 j, .int .i64 i] w0 (A8 (offN K j i)) := by
 unfold Gives
 have hm := Own.start w0
 have HI := Lib.hid hk.rdi
 have HJ := Lib.hid hk.rdj
 have HL := Lib.hid hk.rdl
 have li := hk.1.hi
 have lj := hk.1.hj
 have ll := hk.1.hl
 have e1 : decide ((j : Int) < 0) = false := decide_eq_false (by omega)
 have e2 : decide ((i : Int) < 0) = false := decide_eq_false (by omega)
 obtain ⟨r, hr, hr8⟩ : ∃ r : Nat, i % 8 = r ∧ r < 8 := ⟨_, rfl, Nat.mod_lt _ (by omega)⟩
 obtain ⟨u, hu, hu8⟩ : ∃ u : Nat, i / 8 = u ∧ u ≤ 1152921504606846975 := ⟨_, rfl, by omega⟩
 have a1 : (i : Int) % 8 = (r : Int) := by omega
 have a2 : (i : Int).tmod 8 = (r : Int) := by rw [Int.tmod_eq_emod_of_nonneg (by omega)]; exact a1
 have a3 : (i : Int) / 8 = (u : Int) := by omega
 have a4 : (i : Int).tdiv 8 = (u : Int) := by rw [Int.tdiv_eq_ediv_of_nonneg (by omega)]; exact a3
 have D1 : Hid (∀ wx, Gives Tryz.prog 74 #[.int .u64 (j : Int), A8 K.j] wx (A8 (mulL (BitVec.ofNat 64 j) K.j))) := Lib.hid fun wx => by rw [natv64 (by omega)]; exact ring_mul _ K.j lj wx
 have D3 : Hid (∀ wx, Gives Tryz.prog 74 #[.int .u64 (r : Int), A8 K.l] wx (A8 (mulL (BitVec.ofNat 64 r) K.l))) := Lib.hid fun wx => by rw [natv64 (by omega)]; exact ring_mul _ K.l ll wx
 have l1 := mulL_length (BitVec.ofNat 64 j) K.j
 have l3 := mulL_length (BitVec.ofNat 64 r) K.l
 have l2 := dblN_length K.i li (upN i)
 have eO : offN K j i = plusL (mulL (BitVec.ofNat 64 j) K.j) [dblN K.i (upN i), mulL (BitVec.ofNat 64 r) K.l] := by rw [offN, hr]; rfl
 have D4 : Hid (∀ (wx : World) (p : Option Addr) (c : Nat), 2 ≤ c → RdK wx p 16 [dblN K.i (upN i), mulL (BitVec.ofNat 64 r) K.l] → Gives Tryz.prog 71 #[A8 (mulL (BitVec.ofNat 64 j) K.j), .slice p 2 c] wx (A8 (offN K j i))) := Lib.hid fun wx p c hc h => eO ▸ ezplus_any (mulL (BitVec.ofNat 64 j) K.j) [dblN K.i (upN i), mulL (BitVec.ofNat 64 r) K.l] p c l1 wx h hc (by simp)
 have hk2 : Hid (∀ k ∈ [dblN K.i (upN i), mulL (BitVec.ofNat 64 r) K.l], k.length = 16) := Lib.hid (by simp [l2, l3])
 have lO := offN_length K j i
 by_cases hr0 : r ≤ 1
 · have d2 := fun wx => ring_raised (upN i) K.i li (by unfold upN; omega) wx
   have eu : ((upN i : Nat) : Int) = (u : Int) + (r : Int) := by unfold upN; omega
   rw [eu] at d2
   have D2 := Lib.hid d2
   have hr1 : (r : Int) ≤ 1 := by omega
   clear d2 eu hr0
   clear eO
   generalize mulL (BitVec.ofNat 64 j) K.j = A at *
   generalize mulL (BitVec.ofNat 64 r) K.l = C at *
   generalize dblN K.i (upN i) = B at *
   generalize offN K j i = O at *
   clear hr hu hk
   go_enter Tryz.func72, Tryz.ntmps72
   go_wp2_with (first | ((first | ((with_reducible show qAl); first | ((with_reducible apply wq_new hm); exact rfl; infer_instance))); clear hm; intro gx_; intro w hm))
   have hi1 := fun wx (hwx : Ext w wx) => HI.out.ext (hm.x.trans hwx)
   have hj1 := fun wx (hwx : Ext w wx) => HJ.out.ext (hm.x.trans hwx)
   have hl1 := fun wx (hwx : Ext w wx) => HL.out.ext (hm.x.trans hwx)
   refine region_at 23 (fun w' => Ext _ w') 48 (by kernel_rfl) (by kernel_rfl) rfl (fun _ _ h k => h.trans k) (drew_ext _) ?_
   simp only [tSC, List.take_zero, dSC, List.drop_zero, List.map_cons, List.map_nil]
   repeat (first
       | (apply walk_is rfl rfl rfl
          · (intro wx hwx; (with_reducible apply gq_rdW ((hi1) wx hwx)); infer_instance; exact rfl; (focus (first | rfl | omega | (simp; done) | (simp; omega))))
          · (simp only [Act.put, sIB, sCS, sCZ]; rfl))
       | (apply walk_is rfl rfl rfl
          · (intro wx hwx; (with_reducible apply gq_rdW ((hj1) wx hwx)); infer_instance; exact rfl; (focus (first | rfl | omega | (simp; done) | (simp; omega))))
          · (simp only [Act.put, sIB, sCS, sCZ]; rfl))
       | (apply walk_is rfl rfl rfl
          · (intro wx hwx; (with_reducible apply gq_rdW ((hl1) wx hwx)); infer_instance; exact rfl; (focus (first | rfl | omega | (simp; done) | (simp; omega))))
          · (simp only [Act.put, sIB, sCS, sCZ]; rfl))
       | (apply walk_some (KeysS ([B, C])) 46 (KeysS.stable _) rfl rfl rfl rfl; (intro wx hwx; exact gq_bs2 (hk2.out) (bs_run2 B C l2 l3 wx) rfl rfl))
       | (apply walk_from (T := [(46, KeysS [B, C])]) rfl rfl
          · (intro wx hwx; simp only [withS]; (rintro x ⟨p, c, rfl, hlc, hk'⟩); refine ⟨rfl, ?_⟩; go_simp; exact gives_call (D4.out wx p c hlc hk'))
          · (simp only [Act.put, sIB, sCS, sCZ]; rfl))
       | (apply walk_is rfl rfl rfl
          · (intro wx hwx; first | ((with_reducible show gives _ _ _ (Sem.run _ (execOp _ (Oper.mk _ (Op.load _ _) _ _ _ _)) _)); first | ((with_reducible apply gq_ldv (hm.ext hwx)); infer_instance; exact rfl; (focus ((repeat (first | exact .hd | assumption | apply Has.tl | apply Has.app)); done)); (focus (first | omega | (simp; omega) | (refine ltB ?_; first | omega | (simp; done) | (simp; omega))))) | ((with_reducible apply gq_ldW (hm.ext hwx)); infer_instance; exact rfl; (focus ((repeat (first | exact .hd | assumption | apply Has.tl | apply Has.app)); done)); (focus (first | rfl | omega | (simp; done) | (simp; omega)))) | ((with_reducible apply gq_ld1 (hm.ext hwx)); infer_instance; exact rfl; (focus ((repeat (first | exact .hd | assumption | apply Has.tl | apply Has.app)); done)); exact rfl)) | (go_simp; (try go_bits); first | exact gives_same | exact gives_skip | with_reducible exact gives_call (D1.out wx) | with_reducible exact gives_call (D2.out wx) | with_reducible exact gives_call (D3.out wx)))
          · (simp only [Act.put, sIB, sCS, sCZ]; rfl))
       | (apply walk_not rfl rfl rfl
          · (simp only [Act.put, sIB, sCS, sCZ]; rfl)))
   intro wz hwz
   simp only [zCC, zNR]
   repeat (first | rw [fin_is] | (rw [fin_cons]; intro _ _))
   rw [fin_nil]
   try (replace hm := hm.ext hwz)
   simp only [Act.put, sIB, sCS, sCZ]
   clear hi1 hj1 hl1
   go_wp2_with (first | ((((with_reducible show qSt); first | ((with_reducible apply wq_stW hm); exact rfl; infer_instance; exact rfl; exact rfl; (focus ((repeat (first | exact .hd | assumption | apply Swap.tl | apply Swap.app)); done)); (focus (first | rfl | omega | (simp; done) | (simp; omega))); (focus (first | rfl | omega | (simp; done) | (simp; omega))); (focus (first | exact one_map _ | (simp [one8, one32, one64]; done)))))); clear hm; intro w hm))
   refine ret_own hm rfl rfl (by infer_instance) (by repeat (first | exact Has.hd | assumption | apply Has.tl | apply Has.app)) (by first | rfl | omega | (simp only [zeros_length, zer_length, tab_length, part_length, setN_length, List.length_map, List.length_cons, List.length_nil, List.length_append, List.length_take, List.length_drop, List.length_replicate, blk_length, putL_length] <;> omega)) rfl ⟨rfl, hm.x⟩
 · have d2 := fun wx => ring_raised (upN i) K.i li (by unfold upN; omega) wx
   have eu : ((upN i : Nat) : Int) = (u : Int) + 1 := by unfold upN; omega
   rw [eu] at d2
   have D2 := Lib.hid d2
   have hr1 : ¬ (r : Int) ≤ 1 := by omega
   clear d2 eu hr0
   clear eO
   generalize mulL (BitVec.ofNat 64 j) K.j = A at *
   generalize mulL (BitVec.ofNat 64 r) K.l = C at *
   generalize dblN K.i (upN i) = B at *
   generalize offN K j i = O at *
   clear hr hu hk
   go_enter Tryz.func72, Tryz.ntmps72
   go_wp2_with (first | ((first | ((with_reducible show qAl); first | ((with_reducible apply wq_new hm); exact rfl; infer_instance))); clear hm; intro gx_; intro w hm))
   have hi1 := fun wx (hwx : Ext w wx) => HI.out.ext (hm.x.trans hwx)
   have hj1 := fun wx (hwx : Ext w wx) => HJ.out.ext (hm.x.trans hwx)
   have hl1 := fun wx (hwx : Ext w wx) => HL.out.ext (hm.x.trans hwx)
   refine region_at 23 (fun w' => Ext _ w') 48 (by kernel_rfl) (by kernel_rfl) rfl (fun _ _ h k => h.trans k) (drew_ext _) ?_
   simp only [tSC, List.take_zero, dSC, List.drop_zero, List.map_cons, List.map_nil]
   repeat (first
       | (apply walk_is rfl rfl rfl
          · (intro wx hwx; (with_reducible apply gq_rdW ((hi1) wx hwx)); infer_instance; exact rfl; (focus (first | rfl | omega | (simp; done) | (simp; omega))))
          · (simp only [Act.put, sIB, sCS, sCZ]; rfl))
       | (apply walk_is rfl rfl rfl
          · (intro wx hwx; (with_reducible apply gq_rdW ((hj1) wx hwx)); infer_instance; exact rfl; (focus (first | rfl | omega | (simp; done) | (simp; omega))))
          · (simp only [Act.put, sIB, sCS, sCZ]; rfl))
       | (apply walk_is rfl rfl rfl
          · (intro wx hwx; (with_reducible apply gq_rdW ((hl1) wx hwx)); infer_instance; exact rfl; (focus (first | rfl | omega | (simp; done) | (simp; omega))))
          · (simp only [Act.put, sIB, sCS, sCZ]; rfl))
       | (apply walk_some (KeysS ([B, C])) 46 (KeysS.stable _) rfl rfl rfl rfl; (intro wx hwx; exact gq_bs2 (hk2.out) (bs_run2 B C l2 l3 wx) rfl rfl))
       | (apply walk_from (T := [(46, KeysS [B, C])]) rfl rfl
          · (intro wx hwx; simp only [withS]; (rintro x ⟨p, c, rfl, hlc, hk'⟩); refine ⟨rfl, ?_⟩; go_simp; exact gives_call (D4.out wx p c hlc hk'))
          · (simp only [Act.put, sIB, sCS, sCZ]; rfl))
       | (apply walk_is rfl rfl rfl
          · (intro wx hwx; first | ((with_reducible show gives _ _ _ (Sem.run _ (execOp _ (Oper.mk _ (Op.load _ _) _ _ _ _)) _)); first | ((with_reducible apply gq_ldv (hm.ext hwx)); infer_instance; exact rfl; (focus ((repeat (first | exact .hd | assumption | apply Has.tl | apply Has.app)); done)); (focus (first | omega | (simp; omega) | (refine ltB ?_; first | omega | (simp; done) | (simp; omega))))) | ((with_reducible apply gq_ldW (hm.ext hwx)); infer_instance; exact rfl; (focus ((repeat (first | exact .hd | assumption | apply Has.tl | apply Has.app)); done)); (focus (first | rfl | omega | (simp; done) | (simp; omega)))) | ((with_reducible apply gq_ld1 (hm.ext hwx)); infer_instance; exact rfl; (focus ((repeat (first | exact .hd | assumption | apply Has.tl | apply Has.app)); done)); exact rfl)) | (go_simp; (try go_bits); first | exact gives_same | exact gives_skip | with_reducible exact gives_call (D1.out wx) | with_reducible exact gives_call (D2.out wx) | with_reducible exact gives_call (D3.out wx)))
          · (simp only [Act.put, sIB, sCS, sCZ]; rfl))
       | (apply walk_not rfl rfl rfl
          · (simp only [Act.put, sIB, sCS, sCZ]; rfl)))
   intro wz hwz
   simp only [zCC, zNR]
   repeat (first | rw [fin_is] | (rw [fin_cons]; intro _ _))
   rw [fin_nil]
   try (replace hm := hm.ext hwz)
   simp only [Act.put, sIB, sCS, sCZ]
   clear hi1 hj1 hl1
   go_wp2_with (first | ((((with_reducible show qSt); first | ((with_reducible apply wq_stW hm); exact rfl; infer_instance; exact rfl; exact rfl; (focus ((repeat (first | exact .hd | assumption | apply Swap.tl | apply Swap.app)); done)); (focus (first | rfl | omega | (simp; done) | (simp; omega))); (focus (first | rfl | omega | (simp; done) | (simp; omega))); (focus (first | exact one_map _ | (simp [one8, one32, one64]; done)))))); clear hm; intro w hm))
   refine ret_own hm rfl rfl (by infer_instance) (by repeat (first | exact Has.hd | assumption | apply Has.tl | apply Has.app)) (by first | rfl | omega | (simp only [zeros_length, zer_length, tab_length, part_length, setN_length, List.length_map, List.length_cons, List.length_nil, List.length_append, List.length_take, List.length_drop, List.length_replicate, blk_length, putL_length] <;> omega)) rfl ⟨rfl, hm.x⟩
end Go.Proofs.YtaijfigohlkccaaGreatDoor
namespace Go.Proofs.YtaijfigohlkccaaGreatDoor
open Go Go.RowKit
set_option maxRecDepth 100000
theorem bits_xor16 (P : BitVec 16) (y : Nat) (hy : y < 65536) : bits .xor .i64 (P.toNat : Int) (y : Int) = ((P ^^^ BitVec.ofNat 16 y).toNat : Nat) := by
 have hP := P.isLt
 show IntKind.i64.wrap ((BitVec.ofInt 64 (P.toNat : Int) ^^^ BitVec.ofInt 64 (y : Int)).toNat : Nat) = _
 have h : P.toNat ^^^ y < 2 ^ 16 := Nat.xor_lt_two_pow hP hy
 have e : (BitVec.ofInt 64 (P.toNat : Int) ^^^ BitVec.ofInt 64 (y : Int)).toNat = P.toNat ^^^ y := by
   rw [ofInt_nat', ofInt_nat', BitVec.toNat_xor, BitVec.toNat_ofNat, BitVec.toNat_ofNat, Nat.mod_eq_of_lt (by omega), Nat.mod_eq_of_lt (by omega)]
 rw [e, IntWalk.i64_in _ (by omega), BitVec.toNat_xor, BitVec.toNat_ofNat, Nat.mod_eq_of_lt hy]
theorem xor_shl (P : BitVec 16) (x k : Nat) (h : x * 2 ^ k < 65536) : bits .xor .i64 (P.toNat : Int) (wrap64 ((x : Int) * 2 ^ k)) = ((P ^^^ (BitVec.ofNat 16 x <<< k)).toNat : Nat) := by
 have e : ((x : Int) * 2 ^ k) = ((x * 2 ^ k : Nat) : Int) := by simp
 have e2 : BitVec.ofNat 16 x <<< k = BitVec.ofNat 16 (x * 2 ^ k) := by
   apply BitVec.eq_of_toNat_eq
   simp only [BitVec.toNat_shiftLeft, BitVec.toNat_ofNat, Nat.shiftLeft_eq]
   rw [Nat.mod_mul_mod]
 rw [e, show wrap64 ((x * 2 ^ k : Nat) : Int) = ((x * 2 ^ k : Nat) : Int) from by simp only [wrap64]; omega, bits_xor16 P _ h, e2]
theorem of_width (a : Byte) : BitVec.ofNat 16 a.toNat = a.setWidth 16 := by apply BitVec.eq_of_toNat_eq; simp
theorem pow_small (x k b : Nat) (hx : x < b) (hk : k ≤ 7) : x * 2 ^ k < b * 128 :=
 Nat.lt_of_lt_of_le (Nat.mul_lt_mul_of_pos_right hx (Nat.two_pow_pos k)) (Nat.mul_le_mul_left b (Nat.pow_le_pow_right (by omega) hk))
theorem bit16 (p : BitVec 16) (i : Nat) : (((p.toNat : Int) / 2 ^ i).tmod 2 == 1) = p.getLsbD i := by
 rw [Int.tmod_eq_emod_of_nonneg (Int.ediv_nonneg (by omega) (Int.le_of_lt (Int.pow_pos (by omega))))]
 have e : ((p.toNat : Int) / 2 ^ i) = ((p.toNat / 2 ^ i : Nat) : Int) := by simp
 rw [e, BitVec.getLsbD, Nat.testBit_eq_decide_div_mod_eq, Bool.eq_iff_iff]
 simp only [beq_iff_eq, decide_eq_true_eq]; omega
set_option maxHeartbeats 1000000 in
theorem rtimes_any (a b : Byte) (w : World) : Calls Tryz.prog 117 #[v8 a, v8 b] w fun e w' => e = .returned (v8 (rtms a b)) ∧ w = w' := by
 go_enter Tryz.func117, Tryz.ntmps117
 go_wp2
 go_loop [5, 6] (fun n i => ∃ k : Nat, k ≤ 8 ∧ i = .int .i64 k ∧ n = .int .i64 ((rp a b k).toNat : Nat)) (fun _ i => 8 - (intOf i).toNat)
 case atStart => exact ⟨0, by omega, rfl, rfl⟩
 case round =>
   obtain ⟨k, hk, rfl, rfl⟩ := hrel
   by_cases hlt : k < 8
   · have h8 := bit8 b k hlt
     have hx := xor_shl (rp a b k) a.toNat k (by have := pow_small a.toNat k 256 a.isLt (by omega); omega)
     have Hx := Lib.hid hx
     clear hx
     cases hb : b.getLsbD k with
     | true =>
       rw [hb] at h8
       have Hb := Lib.hid hb
       clear hb
       go_wp2
       go_round
       case rel => exact ⟨k + 1, by omega, by go_num, int_eq (Hx.out.trans (by rw [rp, sel, Hb.out, if_pos rfl, of_width]))⟩
       case measure => simp [intOf] <;> omega
     | false =>
       rw [hb] at h8
       have Hb := Lib.hid hb
       clear hb
       go_wp2
       go_round
       case rel => exact ⟨k + 1, by omega, by go_num, by rw [rp, sel, Hb.out]; simp⟩
       case measure => simp [intOf] <;> omega
   · obtain rfl : k = 8 := by omega
     go_wp2
     generalize hP : rp a b 8 = P at *
     go_loop [5, 7] (fun n i => ∃ j : Nat, j ≤ 7 ∧ i = .int .i64 ((14 - j : Nat) : Int) ∧ n = .int .i64 ((rr P j).toNat : Nat)) (fun _ i => (intOf i).toNat)
     case atStart => exact ⟨0, by omega, rfl, rfl⟩
     case round =>
       obtain ⟨j, hj, rfl, rfl⟩ := hrel
       by_cases hlt : j < 7
       · have hbit := bit16 (rr P j) (14 - j)
         have hx := xor_shl (rr P j) 283 (6 - j) (by have := pow_small 283 (6 - j) 284 (by omega) (by omega); omega)
         have hrr : rr P (j + 1) = rr P j ^^^ sel ((rr P j).getLsbD (14 - j)) (283#16 <<< (6 - j)) := rfl
         obtain ⟨i, hi, hi8, hi14⟩ : ∃ i : Nat, 14 - j = i ∧ 8 ≤ i ∧ i ≤ 14 := ⟨14 - j, rfl, by omega, by omega⟩
         rw [hi] at hbit hrr ⊢
         rw [show 6 - j = i - 8 from by omega] at hx hrr
         have Hx := Lib.hid hx
         have Hr := Lib.hid hrr
         have Hi := Lib.hid hi
         clear hx hrr hi hP
         cases hb : (rr P j).getLsbD i with
         | true =>
           rw [hb] at hbit
           have Hb := Lib.hid hb
           clear hb
           go_wp2
           go_round
           case rel => exact ⟨j + 1, by omega, int_eq (by have := Hi.out; omega), int_eq (Hx.out.trans (by rw [Hr.out, Hb.out]; rfl))⟩
           case measure => simp [intOf] <;> omega
         | false =>
           rw [hb] at hbit
           have Hb := Lib.hid hb
           clear hb
           go_wp2
           go_round
           case rel => exact ⟨j + 1, by omega, int_eq (by have := Hi.out; omega), by rw [Hr.out, Hb.out]; simp [sel]⟩
           case measure => simp [intOf] <;> omega
       · obtain rfl : j = 7 := by omega
         have HP := Lib.hid hP
         clear hP
         go_wp2
         go_ret
         refine ⟨congrArg Ending.returned (int_eq ?_), rfl⟩
         rw [rtms, HP.out, BitVec.toNat_setWidth]; try omega
theorem rtimes_tms (a b : Byte) (w : World) : Calls Tryz.prog 117 #[v8 a, v8 b] w fun e w' => e = .returned (v8 (tms a b)) ∧ w = w' := rtms_tms a b ▸ rtimes_any a b w
set_option maxHeartbeats 1000000 in
theorem rinverse_any (a : Byte) (w : World) : Calls Tryz.prog 102 #[v8 a] w fun e w' => e = .returned (v8 (inv a)) ∧ w = w' := by
 have hz : a = 0#8 → inv a = 0#8 := by rintro rfl; exact inv_zero
 have hi : a ≠ 0#8 → 0 < (inv a).toNat := fun h => Nat.pos_of_ne_zero fun e => inv_ne a h (BitVec.eq_of_toNat_eq e)
 have hu : ∀ x, tms a x = 1#8 → inv a = x := fun x h => (inv_unique a x h).symm
 have hv : a ≠ 0#8 → tms a (inv a) = 1#8 := inv_mul a
 have hl : (inv a).toNat < 256 := (inv a).isLt
 have he : BitVec.ofNat 8 (inv a).toNat = inv a := by simp
 generalize inv a = R at *
 have HZ := Lib.hid hz
 have HI := Lib.hid hi
 have HU := Lib.hid hu
 have HV := Lib.hid hv
 have HE := Lib.hid he
 clear hz hi hu hv he
 go_enter Tryz.func102, Tryz.ntmps102
 go_wp2
 go_loop [3] (fun i => ∃ k : Nat, 1 ≤ k ∧ k ≤ 256 ∧ i = .int .i64 k ∧ (a ≠ 0#8 → k ≤ R.toNat)) (fun i => 256 - (intOf i).toNat)
 case atStart => exact ⟨1, by omega, by omega, rfl, fun h => HI.out h⟩
 case round =>
   obtain ⟨k, hk1, hk, rfl, hR⟩ := hrel
   have HR := Lib.hid hR
   clear hR
   by_cases hlt : k < 256
   · have c := rtimes_tms a (BitVec.ofNat 8 k) w
     have hcv : v8 (BitVec.ofNat 8 k) = .int .u8 k := int_eq (by simp; omega)
     rw [hcv] at c
     cases hb : (tms a (BitVec.ofNat 8 k) == 1#8) with
     | true =>
       have h1 := HU.out _ (by simpa using hb)
       have H1 := Lib.hid h1
       have Hcv := Lib.hid hcv
       clear h1 hcv
       go_wp2_with fail
       refine c.mono ?_
       rintro e w' ⟨rfl, rfl⟩
       go_wp2
       go_ret
       exact ⟨by rw [H1.out, Hcv.out]; rfl, rfl⟩
     | false =>
       clear hcv
       have hne : a ≠ 0#8 → k ≠ R.toNat := by
         intro h e
         have h2 := HV.out h
         rw [← HE.out, ← e] at h2
         rw [h2] at hb; simp at hb
       have HN := Lib.hid hne
       clear hne
       go_wp2_with fail
       refine c.mono ?_
       rintro e w' ⟨rfl, rfl⟩
       go_wp2
       go_round
       case rel => exact ⟨k + 1, by omega, by omega, by go_num, fun h => by have := HN.out h; have := HR.out h; omega⟩
       case measure => simp [intOf] <;> omega
   · obtain rfl : k = 256 := by omega
     have ha : a = 0#8 := Classical.byContradiction fun h => by have := HR.out h; omega
     have h0 := HZ.out ha
     have H0 := Lib.hid h0
     clear h0 ha
     go_wp2
     go_ret
     exact ⟨by rw [H0.out]; rfl, rfl⟩
theorem rbit_any (a : Byte) (k : Nat) (w : World) (hk : k ≤ 1000) : Calls Tryz.prog 103 #[v8 a, .int .i64 k] w fun e w' => e = .returned (v8 (rbit a k)) ∧ w = w' := by
 have hm : (k : Int).tmod 8 = ((k % 8 : Nat) : Int) := by rw [Int.tmod_eq_emod_of_nonneg (by omega)]; omega
 have hq : k % 8 < 8 := Nat.mod_lt _ (by omega)
 unfold rbit
 generalize k % 8 = q at *
 go_enter Tryz.func103, Tryz.ntmps103
 go_wp2
 go_ret
 exact ⟨rfl, rfl⟩
set_option maxHeartbeats 1000000 in
theorem rbox_any (a : Byte) (w : World) : Calls Tryz.prog 80 #[v8 a] w fun e w' => e = .returned (v8 (sbox a)) ∧ w = w' := by
 have he : rbx (inv a) 8 = sbox a := rbx_box (inv a)
 generalize sbox a = R at *
 have c := rinverse_any a w
 generalize inv a = i at *
 have HE := Lib.hid he
 clear he
 have c99 : ∀ (k : Nat) (w : World), k ≤ 1000 → Calls Tryz.prog 103 #[.int .u8 99, .int .i64 k] w fun e w' => e = .returned (v8 (rbit 99#8 k)) ∧ w = w' := fun k w hk => rbit_any 99#8 k w hk
 go_enter Tryz.func80, Tryz.ntmps80
 go_wp2_with fail
 refine c.mono ?_
 rintro e w' ⟨rfl, rfl⟩
 go_wp2
 go_loop [4, 5] (fun o k => ∃ n : Nat, n ≤ 8 ∧ k = .int .i64 n ∧ o = v8 (rbx i n)) (fun _ k => 8 - (intOf k).toNat)
 case atStart => exact ⟨0, by omega, rfl, rfl⟩
 case round =>
   obtain ⟨n, hn, rfl, rfl⟩ := hrel
   by_cases hlt : n < 8
   · have b0 := fun w => rbit_any i n w (by omega)
     have b7 := fun w => rbit_any i (n + 7) w (by omega)
     have b6 := fun w => rbit_any i (n + 6) w (by omega)
     have b5 := fun w => rbit_any i (n + 5) w (by omega)
     have b4 := fun w => rbit_any i (n + 4) w (by omega)
     have b9 := fun w => c99 n w (by omega)
     simp only [Int.natCast_add, Int.cast_ofNat_Int] at b7 b6 b5 b4
     go_wp2_with (first | (go_at_call 103; (first | (with_reducible refine (b0 _).mono ?_) | (with_reducible refine (b7 _).mono ?_) | (with_reducible refine (b6 _).mono ?_) | (with_reducible refine (b5 _).mono ?_) | (with_reducible refine (b4 _).mono ?_) | (with_reducible refine (b9 _).mono ?_)); rintro e w' ⟨rfl, rfl⟩))
     go_round
     case rel => exact ⟨n + 1, by omega, by go_num, rfl⟩
     case measure => simp [intOf] <;> omega
   · obtain rfl : n = 8 := by omega
     go_wp2
     go_ret
     exact ⟨by rw [HE.out]; rfl, rfl⟩
def boxTab : List Byte := tab 256 fun a => sbox (BitVec.ofNat 8 a)
set_option maxHeartbeats 1000000 in
theorem rtable_any (w0 : World) : Gives Tryz.prog 40 #[] w0 (A8 boxTab) := by
 unfold Gives
 have hm := Own.start w0
 have cb : ∀ (k : Nat), k < 256 → ∀ w, Calls Tryz.prog 80 #[.int .u8 k] w fun e w' => e = .returned (v8 (sbox (BitVec.ofNat 8 k))) ∧ w = w' := fun k hk w => by
   have := rbox_any (BitVec.ofNat 8 k) w
   rwa [show v8 (BitVec.ofNat 8 k) = .int .u8 k from int_eq (by simp; omega)] at this
 go_enter Tryz.func40, Tryz.ntmps40
 go_wp2_with (first | ((first | ((with_reducible show qAl); first | ((with_reducible apply wq_new hm); exact rfl; infer_instance))); clear hm; (first | (have hx_ := g1; clear hx_; (first | (have hx_ := g2; clear hx_; intro gx_) | intro g2)) | intro g1); intro w hm))
 go_loopw [2] (fun i wr => ∃ k : Nat, k ≤ 256 ∧ i = .int .i64 k ∧ Own w0 wr [⟨g2, 33, (part 256 k (fun a => sbox (BitVec.ofNat 8 a)) fun _ => 0).map v8⟩, ⟨g1, 33, (zer 256).map v8⟩]) (fun i _ => 256 - (intOf i).toNat)
 case atStart => exact ⟨0, by omega, rfl, by rw [← zer_start]; exact hm⟩
 case round =>
   obtain ⟨k, hk, rfl, hm⟩ := hrel
   by_cases hlt : k < 256
   · have c := cb k hlt
     go_wp2_with (first | (go_at_call 80; (with_reducible refine (c _).mono ?_); rintro e w' ⟨rfl, rfl⟩) | ((((with_reducible show qSt); first | ((with_reducible apply wq_stv hm); exact rfl; infer_instance; exact rfl; (focus (repeat first | exact .hd | assumption | apply Swap.tl); done); infer_instance; exact rfl; (focus (first | omega | (simp; omega) | (refine ltB ?_; first | omega | (simp; done) | (simp; omega))))))); clear hm; intro w hm))
     go_roundw
     case rel =>
       rw [part_set' hlt rfl] at hm
       exact ⟨k + 1, by omega, by go_num, hm⟩
     case measure => simp [intOf] <;> omega
   · obtain rfl : k = 256 := by omega
     rw [part_all] at hm
     go_wp2_with (first | ((with_reducible show qLd); first | ((with_reducible apply wq_ldW hm); exact rfl; infer_instance; exact rfl; (focus (repeat first | exact .hd | assumption | apply Has.tl); done); (focus (first | rfl | omega | (simp; done) | (simp; omega))))) | ((((with_reducible show qSt); first | ((with_reducible apply wq_stW hm); exact rfl; infer_instance; exact rfl; exact rfl; (focus (repeat first | exact .hd | assumption | apply Swap.tl); done); (focus (first | rfl | omega | (simp; done) | (simp; omega))); (focus (first | rfl | omega | (simp; done) | (simp; omega))); (focus (first | exact one_map _ | (simp [one8, one32, one64]; done)))))); clear hm; intro w hm))
     refine ret_own hm rfl rfl (by infer_instance) (by repeat (first | exact Has.hd | assumption | apply Has.tl)) (by first | rfl | omega | (simp only [zeros_length, zer_length, tab_length, part_length, setN_length, List.length_map, List.length_cons, List.length_nil, List.length_append, List.length_take, List.length_drop, List.length_replicate, blk_length, putL_length] <;> omega)) rfl ⟨rfl, hm.x⟩
end Go.Proofs.YtaijfigohlkccaaGreatDoor
