/-
  Layer 4: words boxed and added, words joined, blocks added. Conditions: those written in each theorem.
  Layer 4: a block enciphered. Conditions: those written in each theorem.
  Layer 7: numbers in five parts: carried, loosened. No conditions beyond those written in each theorem.
  Arrays of numbers of 64 bits held against each other. No conditions beyond those written in each theorem.
-/
import Derived.Test.YtdmgchdhilcncaaGreatDoorZTopStore0
import Derived.Test.YtdmgchdhilcncaaGreatDoorZTopStore13
import Derived.Test.YtdmgchdhilcncaaGreatDoorZTopStore10
import Derived.Test.YtdmgchdhilcncaaGreatDoorZTopStore9
import Derived.Test.YtdmgchdhilcncaaGreatDoorZTopStore12
import Derived.Test.YtdmgchdhilcncaaGreatDoorZTopStore7
import Derived.Test.YtdmgchdhilcncaaGreatDoorZTopStore4
import Derived.Test.YtdmgchdhilcncaaGreatDoorZTopStore3
set_option linter.unusedSimpArgs false
set_option linter.unusedVariables false
namespace Go.Proofs.YtdmgchdhilcncaaGreatDoor
open Go Go.RowKit
set_option maxRecDepth 100000
def plus4 (a b : List Byte) : List Byte := tab 4 fun i => nth a i ^^^ nth b i
theorem plus4_length (a b : List Byte) : (plus4 a b).length = 4 := tab_length
def boxW (a : List Byte) : List Byte := tab 4 fun i => bxTo (nth a i)
theorem boxW_length (a : List Byte) : (boxW a).length = 4 := tab_length
set_option maxHeartbeats 1000000 in
theorem aplus_any (a b : List Byte) (ha : a.length = 4) (hb : b.length = 4) (w0 : World) : Gives Tryz.prog 56 #[A8 a, A8 b] w0 (A8 (plus4 a b)) := by
 unfold Gives
 have hm := Own.start w0
 have ha1 := Nat.le_of_eq ha
 have ha2 := Nat.le_of_eq ha.symm
 have hb1 := Nat.le_of_eq hb
 have hb2 := Nat.le_of_eq hb.symm
 have Ha := Lib.hid ha
 clear ha hb
 go_enter Tryz.func56, Tryz.ntmps56
 go_wp2_with (first | ((first | ((with_reducible show qAl); first | ((with_reducible apply wq_new hm); exact rfl; infer_instance)) | ((with_reducible show qBx); first | ((with_reducible apply wq_boxN hm); exact rfl; exact rfl))); clear hm; (first | (have hx_ := g1; clear hx_; (first | (have hx_ := g2; clear hx_; (first | (have hx_ := g3; clear hx_; intro gx_) | intro g3)) | intro g2)) | intro g1); intro w hm))
 rw [part_start (f := fun i => nth a i ^^^ nth b i) Ha.out] at hm
 go_loopw [6] (fun i wr => ∃ k : Nat, k ≤ 4 ∧ i = .int .i64 k ∧ Own w0 wr [⟨g3, 133, (zer 4).map v8⟩, ⟨g2, 133, b.map v8⟩, ⟨g1, 133, (part 4 k (fun i => nth a i ^^^ nth b i) (nth a)).map v8⟩]) (fun i _ => 4 - (intOf i).toNat)
 case atStart => exact ⟨0, by omega, rfl, hm⟩
 case round =>
   obtain ⟨k, hk, rfl, hm⟩ := hrel
   by_cases hlt : k < 4
   · have e1 : nth (part 4 k (fun i => nth a i ^^^ nth b i) (nth a)) k = nth a k := nth_part_ge hlt (Nat.le_refl _)
     go_wp2_with fail
     refine region_at 8 (fun w' => Ext _ w') 19 (by kernel_rfl) (by kernel_rfl) rfl (fun _ _ h k => h.trans k) (drew_ext _) ?_
     simp only [tSC, List.take_zero, dSC, List.drop_zero, List.map_cons, List.map_nil]
     repeat (first
         | (apply walk_is rfl rfl rfl
            · (intro wx hwx; first | ((with_reducible show gives _ _ _ (Sem.run _ (execOp _ (Oper.mk _ (Op.load _ _) _ _ _ _)) _)); first | ((with_reducible apply gq_ldv (hm.ext hwx)); infer_instance; exact rfl; (focus (repeat first | exact .hd | assumption | apply Has.tl); done); (focus (first | omega | (simp; omega) | (refine ltB ?_; first | omega | (simp; done) | (simp; omega)))))) | (go_simp; (try go_bits); first | exact gives_same | exact gives_skip))
            · (simp only [Act.put, sIB, sCS, sCZ]; rfl))
         | (apply walk_not rfl rfl rfl
            · (simp only [Act.put, sIB, sCS, sCZ]; rfl)))
     intro wz hwz
     simp only [zCC, zNR]
     repeat (first | rw [fin_is] | (rw [fin_cons]; intro _ _))
     rw [fin_nil]
     try (replace hm := hm.ext hwz)
     simp only [Act.put, sIB, sCS, sCZ]
     go_wp2_with (first | ((((with_reducible show qSt); first | ((with_reducible apply wq_stv hm); exact rfl; infer_instance; exact rfl; (focus (repeat first | exact .hd | assumption | apply Swap.tl); done); infer_instance; exact rfl; (focus (first | omega | (simp; omega) | (refine ltB ?_; first | omega | (simp; done) | (simp; omega))))))); clear hm; intro w hm))
     go_roundw
     case rel =>
       rw [part_set' hlt rfl] at hm
       exact ⟨k + 1, by omega, by go_num, hm⟩
     case measure => simp [intOf] <;> omega
   · obtain rfl : k = 4 := by omega
     rw [part_all] at hm
     go_wp2_with (first | ((with_reducible show qLd); first | ((with_reducible apply wq_ldW hm); exact rfl; infer_instance; exact rfl; (focus (repeat first | exact .hd | assumption | apply Has.tl); done); (focus (first | rfl | omega | (simp; done) | (simp; omega))))) | ((((with_reducible show qSt); first | ((with_reducible apply wq_stW hm); exact rfl; infer_instance; exact rfl; exact rfl; (focus (repeat first | exact .hd | assumption | apply Swap.tl); done); (focus (first | rfl | omega | (simp; done) | (simp; omega))); (focus (first | rfl | omega | (simp; done) | (simp; omega))); (focus (first | exact one_map _ | (simp [one8, one32, one64]; done)))))); clear hm; intro w hm))
     refine ret_own hm rfl rfl (by infer_instance) (by repeat (first | exact Has.hd | assumption | apply Has.tl)) (by first | rfl | omega | (simp only [zeros_length, zer_length, tab_length, part_length, setN_length, List.length_map, List.length_cons, List.length_nil, List.length_append, List.length_take, List.length_drop, List.length_replicate, blk_length, putL_length] <;> omega)) rfl ⟨rfl, hm.x⟩
set_option maxHeartbeats 1000000 in
theorem aboxed_any (g gb : Nat) (a : List Byte) (ha : a.length = 4) (w0 : World) (h1 : Row w0 g 66 (tcells gb mixT unmixT)) (h2 : Row w0 gb 80 (tabs.map v8)) : Gives Tryz.prog 55 #[.pointer (some ⟨g, 0, none⟩), A8 a] w0 (A8 (boxW a)) := by
 unfold Gives
 have hm := Own.start w0
 have TB := Lib.hid fun (x : Byte) (w : World) (h : Ext w0 w) => tbox_any g gb x w (row_ext h1 h) (row_ext h2 h)
 have ha1 := Nat.le_of_eq ha
 have ha2 := Nat.le_of_eq ha.symm
 have Ha := Lib.hid ha
 clear ha h1 h2
 go_enter Tryz.func55, Tryz.ntmps55
 go_wp2_with (first | ((with_reducible show qLd); first | ((with_reducible apply wq_ldW hm); exact rfl; infer_instance; exact rfl; (focus (repeat first | exact .hd | assumption | apply Has.tl); done); (focus (first | rfl | omega | (simp; done) | (simp; omega))))) | ((first | ((with_reducible show qAl); first | ((with_reducible apply wq_new hm); exact rfl; infer_instance)) | ((with_reducible show qBx); first | ((with_reducible apply wq_boxN hm); exact rfl; exact rfl))); clear hm; (first | (have hx_ := g1; clear hx_; (first | (have hx_ := g2; clear hx_; intro gx_) | intro g2)) | intro g1); intro w hm))
 rw [part_start (f := fun i => bxTo (nth a i)) Ha.out] at hm
 go_loopw [8] (fun i wr => ∃ k : Nat, k ≤ 4 ∧ i = .int .i64 k ∧ Own w0 wr [⟨g2, 133, (zer 4).map v8⟩, ⟨g1, 133, (part 4 k (fun i => bxTo (nth a i)) (nth a)).map v8⟩]) (fun i _ => 4 - (intOf i).toNat)
 case atStart => exact ⟨0, by omega, rfl, hm⟩
 case round =>
   obtain ⟨k, hk, rfl, hm⟩ := hrel
   by_cases hlt : k < 4
   · have hd : decide ((k : Int) < 4) = true := decide_eq_true (by omega)
     have hd2 : (k : Int) < 4 := by omega
     have ec := fun w => run_index_v (P := Tryz.prog) (T := 133) (e := 5) (f := v8) (by kernel_rfl) a Ha.out k hlt w
     have EP : Hid (setN (part 4 k (fun i => bxTo (nth a i)) (nth a)) k (bxTo (nth a k)) = part 4 (k + 1) (fun i => bxTo (nth a i)) (nth a)) := Lib.hid (part_set' hlt rfl)
     have lP : (part 4 k (fun i => bxTo (nth a i)) (nth a)).length = 4 := part_length
     generalize part 4 k (fun i => bxTo (nth a i)) (nth a) = C at *
     go_wp2_with (first | (go_at_call 13; (with_reducible refine (TB.out _ _ hm.x).mono ?_); rintro e_ w_ ⟨rfl, rfl⟩) | ((((with_reducible show qSt); first | ((with_reducible apply wq_stv hm); exact rfl; infer_instance; exact rfl; (focus (repeat first | exact .hd | assumption | apply Swap.tl); done); infer_instance; exact rfl; (focus (first | omega | (simp; omega) | (refine ltB ?_; first | omega | (simp; done) | (simp; omega))))))); clear hm; intro w hm))
     rw [EP.out] at hm
     go_roundw
     case rel => exact ⟨k + 1, by omega, by go_num, hm⟩
     case measure => simp [intOf] <;> omega
   · obtain rfl : k = 4 := by omega
     rw [part_all] at hm
     go_wp2_with (first | ((with_reducible show qLd); first | ((with_reducible apply wq_ldW hm); exact rfl; infer_instance; exact rfl; (focus (repeat first | exact .hd | assumption | apply Has.tl); done); (focus (first | rfl | omega | (simp; done) | (simp; omega))))) | ((((with_reducible show qSt); first | ((with_reducible apply wq_stW hm); exact rfl; infer_instance; exact rfl; exact rfl; (focus (repeat first | exact .hd | assumption | apply Swap.tl); done); (focus (first | rfl | omega | (simp; done) | (simp; omega))); (focus (first | rfl | omega | (simp; done) | (simp; omega))); (focus (first | exact one_map _ | (simp [one8, one32, one64]; done)))))); clear hm; intro w hm))
     refine ret_own hm rfl rfl (by infer_instance) (by repeat (first | exact Has.hd | assumption | apply Has.tl)) (by first | rfl | omega | (simp only [zeros_length, zer_length, tab_length, part_length, setN_length, List.length_map, List.length_cons, List.length_nil, List.length_append, List.length_take, List.length_drop, List.length_replicate, blk_length, putL_length] <;> omega)) rfl ⟨rfl, hm.x⟩
set_option maxHeartbeats 2000000 in
theorem aboth_any (a b : List Byte) (ha : a.length = 16) (hb : b.length = 16) (w0 : World) : Gives Tryz.prog 60 #[A8 a, A8 b] w0 (A8 (bothL a b)) := by
 unfold Gives
 have hm := Own.start w0
 have C1 := Lib.hid fun (w wx : World) (p q : Option Addr) (h1 : RdB wx p a) (h2 : RdB wx q b) => by
   have h := xor_any a b p q 16 16 wx h1 h2 (by omega) (by omega)
   rw [ha, hb] at h; exact h
 have lX : (xorL a b).length = 16 := by rw [xorL_length, ha, hb]; rfl
 have eX : blk (xorL a b) = bothL a b := by
   refine nth_ext (by rw [blk_length, bothL_length]) fun i hi => ?_
   rw [blk_length] at hi
   rw [bothL_nth _ _ _ hi]
   have h1 : nth (blk (xorL a b)) i = nth (xorL a b) i := by
     rw [show nth (xorL a b) i = gb (xorL a b) i from (gb_in _ i).symm]; simp [nth, blk, hi]
   rw [h1]
   exact xorL_getD a b i (by rw [lX]; exact hi)
 have C2 := Lib.hid fun (wx : World) (p : Option Addr) (c : Nat) (h : RdB wx p (xorL a b)) => eX ▸ oblock_any (xorL a b) p c wx h
 have lZ : (bothL a b).length = 16 := bothL_length _ _
 generalize bothL a b = Z at *
 generalize xorL a b = X at *
 have ha1 := Nat.le_of_eq ha
 have ha2 := Nat.le_of_eq ha.symm
 have hb1 := Nat.le_of_eq hb
 have hb2 := Nat.le_of_eq hb.symm
 clear lX eX
 go_enter Tryz.func60, Tryz.ntmps60
 go_wp2_with (first | ((first | ((with_reducible show qAl); first | ((with_reducible apply wq_new hm); exact rfl; infer_instance)) | ((with_reducible show qBx); first | ((with_reducible apply wq_boxN hm); exact rfl; exact rfl))); clear hm; (first | (have hx_ := g1; clear hx_; (first | (have hx_ := g2; clear hx_; intro gx_) | intro g2)) | intro g1); intro w hm))
 have c1 := fun wx (hwx : Ext _ wx) => C1.out wx wx _ _ ((hm.ext hwx).rdB (g := g1) (l := a) (by repeat (first | exact Has.hd | assumption | apply Has.tl))) ((hm.ext hwx).rdB (g := g2) (l := b) (by repeat (first | exact Has.hd | assumption | apply Has.tl)))
 refine region_at 4 (fun w' => Ext _ w') 9 (by kernel_rfl) (by kernel_rfl) rfl (fun _ _ h k => h.trans k) (drew_ext _) ?_
 simp only [tSC, List.take_zero, dSC, List.drop_zero, List.map_cons, List.map_nil]
 repeat (first
     | (apply walk_some (BytesS X) 7 (BytesS.stable _) rfl rfl rfl rfl
        · (intro wx hwx; go_simp; with_reducible exact gives_callR (c1 wx hwx)))
     | (apply walk_from (T := [(7, BytesS X)]) rfl rfl
        · (intro wx hwx; simp only [withS]; (rintro x ⟨p, c, rfl, hlc, hb'⟩); refine ⟨rfl, ?_⟩; go_simp; with_reducible exact gives_call (C2.out wx p c hb'))
        · (simp only [Act.put, sIB, sCS, sCZ]; rfl))
     | (apply walk_is rfl rfl rfl
        · (intro wx hwx; go_simp; (try go_bits); first | exact gives_same | exact gives_skip)
        · (simp only [Act.put, sIB, sCS, sCZ]; rfl))
     | (apply walk_not rfl rfl rfl
        · (simp only [Act.put, sIB, sCS, sCZ]; rfl)))
 intro wz hwz
 simp only [zCC, zNR]
 repeat (first | rw [fin_is] | (rw [fin_cons]; intro _ _))
 rw [fin_nil]
 try (replace hm := hm.ext hwz)
 simp only [Act.put, sIB, sCS, sCZ]
 clear c1
 go_wp2_with (first | ((((with_reducible show qSt); first | ((with_reducible apply wq_stW hm); exact rfl; infer_instance; exact rfl; exact rfl; (focus (repeat first | exact .hd | assumption | apply Swap.tl); done); (focus (first | rfl | omega | (simp; done) | (simp; omega))); (focus (first | rfl | omega | (simp; done) | (simp; omega))); (focus (first | exact one_map _ | (simp [one8, one32, one64]; done)))))); clear hm; intro w hm))
 refine ret_own hm rfl rfl (by infer_instance) (by repeat (first | exact Has.hd | assumption | apply Has.tl)) (by first | rfl | omega | (simp only [zeros_length, zer_length, tab_length, part_length, setN_length, List.length_map, List.length_cons, List.length_nil, List.length_append, List.length_take, List.length_drop, List.length_replicate, blk_length, putL_length] <;> omega)) rfl ⟨rfl, hm.x⟩
def joF (F : List Byte) (k : Nat) : List Byte := F.take (4 * k) ++ List.replicate (16 - 4 * k) 0
theorem joF_length (F : List Byte) (k : Nat) (hF : F.length = 16) (hk : k ≤ 4) : (joF F k).length = 16 := by rw [joF, List.length_append, List.length_take, List.length_replicate]; omega
theorem joF_step (F b : List Byte) (k m : Nat) (hF : F.length = 16) (hk : k < 4) (hm : 4 ≤ m) (hb : (F.drop (4 * k)).take 4 = b) : over (joF F k) (4 * k) (b.take m) = joF F (k + 1) := by
 have lb : b.length = 4 := by rw [← hb, List.length_take, List.length_drop]; omega
 have lt : (F.take (4 * k)).length = 4 * k := by rw [List.length_take]; omega
 have e : (F.take (4 * k) ++ List.replicate (16 - 4 * k) (0 : Byte)).drop (4 * k + 4) = List.replicate (16 - 4 * (k + 1)) 0 := by
   rw [List.drop_append, lt, List.drop_of_length_le (by omega), List.nil_append, List.drop_replicate, show 16 - 4 * k - (4 * k + 4 - 4 * k) = 16 - 4 * (k + 1) from by omega]
 rw [List.take_of_length_le (by omega), over, joF, List.take_append_of_le_length (by omega), List.take_of_length_le (by omega), lb, e, joF, show 4 * (k + 1) = 4 * k + 4 from by omega, List.take_add, hb]
theorem joF_all (F : List Byte) (hF : F.length = 16) : joF F 4 = F := by rw [joF, List.take_of_length_le (by omega)]; simp
theorem joF_zero (F : List Byte) : joF F 0 = zer 16 := rfl
set_option maxHeartbeats 2000000 in
theorem joined_any (ws : List (List Byte)) (p : Option Addr) (c : Nat) (w0 : World) (h : RdK w0 p 4 ws) (h4 : ws.length = 4) (hc : 4 ≤ c) : Gives Tryz.prog 57 #[.slice p 4 c] w0 (A8 ws.flatten) := by
 unfold Gives
 have hm := Own.start w0
 have HK := Lib.hid h
 have H4 := Lib.hid h4
 have lF : ws.flatten.length = 16 := by rw [flatten_length 4 ws h.1, h4]
 have LF := Lib.hid lF
 have FS := Lib.hid fun k (hk : k < 4) => (flatten_seg 4 ws k h.1 (by omega) : (ws.flatten.drop (k * 4)).take 4 = ws.getD k [])
 obtain ⟨F, hF⟩ : ∃ F, F = ws.flatten := ⟨_, rfl⟩
 rw [← hF] at LF FS ⊢
 clear h h4 lF hF
 go_enter Tryz.func57, Tryz.ntmps57
 go_wp2_with (first | ((first | ((with_reducible show qAl); first | ((with_reducible apply wq_new hm); exact rfl; infer_instance))); clear hm; (first | (have hx_ := g1; clear hx_; (first | (have hx_ := g2; clear hx_; intro gx_) | intro g2)) | intro g1); intro w hm))
 go_loopw [8] (fun i wr => ∃ k : Nat, k ≤ 4 ∧ i = .int .i64 k ∧ Own w0 wr [⟨g2, 94, (joF F k).map v8⟩, ⟨g1, 94, (zer 16).map v8⟩]) (fun i _ => 4 - (intOf i).toNat)
 case atStart => exact ⟨0, by omega, rfl, by rw [joF_zero]; exact hm⟩
 case round =>
   obtain ⟨k, hk, rfl, hm⟩ := hrel
   by_cases hlt : k < 4
   · have hd : decide ((k : Int) < 4) = true := decide_eq_true (by omega)
     have hd2 : (k : Int) < 4 := by omega
     obtain ⟨a, rfl⟩ := HK.out.addr (by omega) (by rw [H4.out]; omega)
     obtain ⟨hK, hKl⟩ := HK.out.at (by omega) k (by rw [H4.out]; exact hlt)
     simp only [Option.getD_some] at hK
     have HK2 := Lib.hid hK
     have ST := Lib.hid fun m (hm4 : 4 ≤ m) => joF_step F (ws.getD k []) k m LF.out hlt hm4 (by rw [Nat.mul_comm]; exact FS.out k hlt)
     have lJ := joF_length F k LF.out (by omega)
     have lJ2 := joF_length F (k + 1) LF.out (by omega)
     generalize joF F k = J at *
     obtain ⟨J2, hJ2⟩ : ∃ J2, joF F (k + 1) = J2 := ⟨_, rfl⟩
     rw [hJ2] at ST lJ2
     have HJ2 := Lib.hid hJ2
     clear hJ2
     generalize ws.getD k [] = K at *
     have hK1 := Nat.le_of_eq hKl
     have hK2' := Nat.le_of_eq hKl.symm
     clear hK
     go_wp2_with (first | ((with_reducible apply wq_rdW (HK2.out.ext hm.x)); exact rfl; infer_instance; exact rfl; exact hKl) | ((((with_reducible show qSt); first | ((with_reducible apply wq_stW hm); exact rfl; infer_instance; exact rfl; exact rfl; (focus (repeat first | exact .hd | assumption | apply Swap.tl); done); (focus (first | rfl | omega | (simp; done) | (simp; omega))); (focus (first | rfl | omega | (simp; done) | (simp; omega))); (focus (first | exact one_map _ | (simp [one8, one32, one64]; done)))))); clear hm; intro w hm) | ((first | ((with_reducible show qAl); first | ((with_reducible apply wq_new hm); exact rfl; infer_instance))); clear hm; (first | (have hx_ := g1; clear hx_; (first | (have hx_ := g2; clear hx_; intro gx_) | intro g2)) | intro g1); intro w hm))
     have hl0 : (0 : Int) ≤ 4 * (k : Int) := by omega
     have hl1 : 4 * (k : Int) ≤ 16 := by omega
     have hl2 : (4 * (k : Int)).toNat = 4 * k := by omega
     have hl3 : 16 ≠ 4 * k := by omega
     have hl4 : ¬ 16 = 4 * k := hl3
     refine region_at 4 (fun w' => Ext _ w') 20 (by kernel_rfl) (by kernel_rfl) rfl (fun _ _ h k => h.trans k) (drew_ext _) ?_
     simp only [tSC, List.take_zero, dSC, List.drop_zero, List.map_cons, List.map_nil]
     repeat (first
         | (apply walk_is rfl rfl rfl
            · (intro wx hwx; go_simp; (try go_bits); first | exact gives_same | exact gives_skip)
            · (simp only [Act.put, sIB, sCS, sCZ]; rfl))
         | (apply walk_not rfl rfl rfl
            · (simp only [Act.put, sIB, sCS, sCZ]; rfl)))
     intro wz hwz
     simp only [zCC, zNR]
     repeat (first | rw [fin_is] | (rw [fin_cons]; intro _ _))
     rw [fin_nil]
     try (replace hm := hm.ext hwz)
     simp only [Act.put, sIB, sCS, sCZ]
     refine wpl_cp8 hm rfl rfl rfl rfl rfl (by kernel_rfl) (by repeat (first | exact Swap.hd | assumption | apply Swap.tl)) (hm.rdB (l := K) (by repeat (first | exact Has.hd | assumption | apply Has.tl))) hKl.symm (ST.out _ (by omega)) (by omega) ?_
     clear hm
     intro w hm
     go_wp2_with fail
     go_roundw
     case rel => exact ⟨k + 1, by omega, by go_num, by rw [HJ2.out]; exact hm.drop⟩
     case measure => simp [intOf] <;> omega
   · obtain rfl : k = 4 := by omega
     rw [joF_all _ LF.out] at hm
     have lF1 := Nat.le_of_eq LF.out
     have lF2 := Nat.le_of_eq LF.out.symm
     go_wp2_with (first | ((with_reducible show qLd); first | ((with_reducible apply wq_ldW hm); exact rfl; infer_instance; exact rfl; (focus (repeat first | exact .hd | assumption | apply Has.tl); done); (focus (first | rfl | omega | (simp; done) | (simp; omega))))) | ((((with_reducible show qSt); first | ((with_reducible apply wq_stW hm); exact rfl; infer_instance; exact rfl; exact rfl; (focus (repeat first | exact .hd | assumption | apply Swap.tl); done); (focus (first | rfl | omega | (simp; done) | (simp; omega))); (focus (first | rfl | omega | (simp; done) | (simp; omega))); (focus (first | exact one_map _ | (simp [one8, one32, one64]; done)))))); clear hm; intro w hm))
     refine ret_own hm rfl rfl (by infer_instance) (by repeat (first | exact Has.hd | assumption | apply Has.tl)) (by first | rfl | omega | (simp only [zeros_length, zer_length, tab_length, part_length, setN_length, List.length_map, List.length_cons, List.length_nil, List.length_append, List.length_take, List.length_drop, List.length_replicate, blk_length, putL_length] <;> omega)) rfl ⟨rfl, hm.x⟩
theorem wq_row1 {P : Program} {ops : Array Oper} {Q : Exit → Act → World → Prop} {rest : List Oper} {a : Act} {w : World} {g k : Nat} {t T ty : TypeId} {cs : List Value} {v : Value} {dst : Option Tmp} {x : Operand} {pos : String} {aft : Array Edge} {gd : Option (Nat × Bool)} (h : Row w g t cs) (hgd : Region.wanted (Oper.mk dst (.load T x) ty pos aft gd) (yielded ops a.tmps) = true) (hT : One1 P T) (hx : a.eval x = .pointer (some ⟨g, k, none⟩)) (hv : cs[k]? = some v) (hr : wpList P ops Q rest (a.put dst v) w) : wpList P ops Q (Oper.mk dst (.load T x) ty pos aft gd :: rest) a w :=
 wpList_want hgd fun K hK => by
   have hc : w.cell? ⟨g, k, none⟩ = some v := by rw [row_cell h k]; exact hv
   obtain ⟨d, hu, hd⟩ := Option.map_eq_some_iff.1 hT.row
   have hagg : (isAgg T).run P w = .ok false w := by
     unfold isAgg
     rw [Sem.run_bind, run_underlying hu w]
     cases d <;> simp_all
   have hl : (Instr.loadAt T (.pointer (some ⟨g, k, none⟩))).run P w = .ok v w := by simp [Instr.loadAt, Instr.sureAddr, loadVar, Sem.run_bind, hagg, hc]
   unfold Oper.wp execOp
   simp only [hx, Sem.run_bind, hl, Result.andThen_ok, Sem.run_pure]
   exact hK _ _ hr
def aesC (gt : Nat) (p : Option Addr) (n c : Nat) : List Value := [.pointer (some ⟨gt, 0, none⟩), .slice p n c]
def AesR (w : World) (g : Nat) (k0 : List Byte) (ks : List (List Byte)) (kl : List Byte) : Prop :=
 ∃ gt gb a c, Row w g 140 (aesC gt (some a) (ks.length + 2) c) ∧ Row w gt 66 (tcells gb mixT unmixT) ∧ Row w gb 80 (tabs.map v8) ∧ RdK w (some a) 16 (k0 :: (ks ++ [kl])) ∧ ks.length + 2 ≤ c ∧ 0 < ks.length ∧ ks.length ≤ 1000
theorem AesR.ext {w w' : World} {g : Nat} {k0 kl : List Byte} {ks : List (List Byte)} (h : AesR w g k0 ks kl) (hx : Ext w w') : AesR w' g k0 ks kl := by
 obtain ⟨gt, gb, a, c, h1, h2, h3, h4, h5⟩ := h
 exact ⟨gt, gb, a, c, row_ext h1 hx, row_ext h2 hx, row_ext h3 hx, h4.ext hx, h5⟩
theorem RdK.three {w : World} {a : Addr} {k0 kl : List Byte} {ks : List (List Byte)} (h : RdK w (some a) 16 (k0 :: (ks ++ [kl]))) (h0 : 0 < ks.length) :
   k0.length = 16 ∧ kl.length = 16 ∧ RdB w (some a) k0 ∧ RdK w (some (a.add 16)) 16 ks ∧ RdB w (some (a.add ((ks.length + 1) * 16))) kl := by
 have e0 := h.at (by omega) 0 (by simp)
 have e1 := h.at (by omega) (ks.length + 1) (by simp)
 have el : (k0 :: (ks ++ [kl])).getD (ks.length + 1) [] = kl := by simp
 rw [el] at e1
 simp only [List.getD_cons_zero, Option.getD_some, Nat.zero_mul] at e0 e1
 have hks : ∀ k ∈ ks, k.length = 16 := fun k hk => h.1 k (by simp [hk])
 have lk := flatten_length 16 ks hks
 have hs := h.2.sub 16 (ks.length * 16) (by simp only [List.flatten_cons, List.flatten_append, List.length_append, e0.2, lk]; omega) (by omega)
 have ef : ((k0 :: (ks ++ [kl])).flatten.drop 16).take (ks.length * 16) = ks.flatten := by
   rw [List.flatten_cons, List.drop_append_of_le_length (by omega), List.drop_of_length_le (by omega), List.nil_append, List.flatten_append, List.take_append_of_le_length (by omega), List.take_of_length_le (by omega)]
 rw [ef] at hs
 refine ⟨e0.2, e1.2, ?_, ⟨hks, hs⟩, e1.1⟩
 have := e0.1
 rwa [show a.add 0 = a from rfl] at this
def aesE (k0 : List Byte) (ks : List (List Byte)) (kl b : List Byte) : List Byte := last (rnds (bothL b k0) ks) kl
theorem aesE_length (k0 : List Byte) (ks : List (List Byte)) (kl b : List Byte) : (aesE k0 ks kl b).length = 16 := by rw [aesE]; exact last_length _ _
set_option maxHeartbeats 2000000 in
theorem encrypt_any (g : Nat) (k0 kl : List Byte) (ks : List (List Byte)) (b : List Byte) (hb : b.length = 16) (w0 : World) (h : AesR w0 g k0 ks kl) : Gives Tryz.prog 44 #[.pointer (some ⟨g, 0, none⟩), A8 b] w0 (A8 (aesE k0 ks kl b)) := by
 unfold Gives
 have hm := Own.start w0
 obtain ⟨gt, gb, a, c, h1, h2, h3, h4, h5, h6, h7⟩ := h
 have R1 := Lib.hid fun wx (hx : Ext w0 wx) => row_ext h1 hx
 have R2 := Lib.hid fun wx (hx : Ext w0 wx) => row_ext h2 hx
 have R3 := Lib.hid fun wx (hx : Ext w0 wx) => row_ext h3 hx
 obtain ⟨l0, ll, d0, dm, dl⟩ := h4.three h6
 have D0 := Lib.hid d0
 have DM := Lib.hid dm
 have DL := Lib.hid dl
 obtain ⟨m, hm_⟩ : ∃ m, ks.length = m := ⟨_, rfl⟩
 have B0 := Lib.hid fun wx => aboth_any b k0 hb l0 wx
 have B1 := Lib.hid fun wx (hx : Ext w0 wx) => show Gives Tryz.prog 59 #[.pointer (some ⟨gt, 0, none⟩), A8 (bothL b k0), .slice (some (a.add 16)) m (c - 1)] wx (A8 (rnds (bothL b k0) ks)) from by
   have := trounds_any gt gb (bothL b k0) ks (some (a.add 16)) (c - 1) (bothL_length _ _) wx (dm.ext hx) (by omega) (by omega) (row_ext h2 hx)
   rwa [hm_] at this
 have lR : (rnds (bothL b k0) ks).length = 16 := rnds_length _ _ (bothL_length _ _)
 have B2 := Lib.hid fun wx (hx : Ext w0 wx) => show Gives Tryz.prog 61 #[.pointer (some ⟨gt, 0, none⟩), A8 (rnds (bothL b k0) ks), A8 kl] wx (A8 (aesE k0 ks kl b)) from last_any gt gb (rnds (bothL b k0) ks) kl lR ll wx (row_ext h2 hx) (row_ext h3 hx)
 have lE := aesE_length k0 ks kl b
 rw [hm_] at R1 h5 h6 h7 DL
 generalize aesE k0 ks kl b = E at *
 generalize rnds (bothL b k0) ks = R at *
 generalize bothL b k0 = X at *
 have P0 : Hid ((aesC gt (some a) (m + 2) c)[0]? = some (.pointer (some ⟨gt, 0, none⟩))) := Lib.hid rfl
 have P1 : Hid ((aesC gt (some a) (m + 2) c)[1]? = some (.slice (some a) (m + 2) c)) := Lib.hid rfl
 have q1 : ((m : Int) + 2) - 1 = (m : Int) + 1 := by omega
 have q2 : (1 : Int) ≤ (m : Int) + 1 := by omega
 have q3 : (m : Int) + 1 ≤ (c : Int) := by omega
 have q4 : (m : Int) + 1 < (m : Int) + 2 := by omega
 have q5 : ((m : Int) + 1).toNat = m + 1 := by omega
 have q6 : (0 : Int) < (m : Int) + 2 := by omega
 have q7 : ¬ c = 1 := by omega
 have q8 : (m : Int) + 1 < (m : Int) + 2 := by omega
 have q9 : 0 ≤ (m : Int) + 1 := by omega
 have hb1 := Nat.le_of_eq hb
 have hb2 := Nat.le_of_eq hb.symm
 have hl1 := Nat.le_of_eq lR
 have hl2 := Nat.le_of_eq lR.symm
 have he1 := Nat.le_of_eq lE
 have he2 := Nat.le_of_eq lE.symm
 clear h1 h2 h3 h4 d0 dm dl hm_ hb lR lE
 go_enter Tryz.func44, Tryz.ntmps44
 go_wp2_with (first | ((with_reducible apply wq_row1 (R1.out _ hm.x)); exact rfl; infer_instance; exact rfl; exact P1.out) | ((first | ((with_reducible show qAl); first | ((with_reducible apply wq_new hm); exact rfl; infer_instance)) | ((with_reducible show qBx); first | ((with_reducible apply wq_boxN hm); exact rfl; exact rfl))); clear hm; intro gx_; intro w hm))
 have r1 := fun wx (hwx : Ext w wx) => R1.out wx (hm.x.trans hwx)
 have d0 := fun wx (hwx : Ext w wx) => D0.out.ext (hm.x.trans hwx)
 have hx0 := hm.x
 refine region_at 19 (fun w' => Ext _ w') 47 (by kernel_rfl) (by kernel_rfl) rfl (fun _ _ h k => h.trans k) (drew_ext _) ?_
 simp only [tSC, List.take_zero, dSC, List.drop_zero, List.map_cons, List.map_nil]
 repeat (first
     | (apply walk_is rfl rfl rfl
        · (intro wx hwx; (with_reducible apply gq_row1 ((r1) wx hwx)); infer_instance; exact rfl; exact P0.out)
        · (simp only [Act.put, sIB, sCS, sCZ]; rfl))
     | (apply walk_is rfl rfl rfl
        · (intro wx hwx; (with_reducible apply gq_row1 ((r1) wx hwx)); infer_instance; exact rfl; exact P1.out)
        · (simp only [Act.put, sIB, sCS, sCZ]; rfl))
     | (apply walk_is rfl rfl rfl
        · (intro wx hwx; (with_reducible apply gq_rdW ((d0) wx hwx)); infer_instance; exact rfl; (focus (first | rfl | omega | (simp; done) | (simp; omega))))
        · (simp only [Act.put, sIB, sCS, sCZ]; rfl))
     | (apply walk_is rfl rfl rfl
        · (intro wx hwx; first | ((with_reducible show gives _ _ _ (Sem.run _ (execOp _ (Oper.mk _ (Op.load _ _) _ _ _ _)) _)); first | ((with_reducible apply gq_ldW (hm.ext hwx)); infer_instance; exact rfl; (focus (repeat first | exact .hd | assumption | apply Has.tl); done); (focus (first | rfl | omega | (simp; done) | (simp; omega))))) | (go_simp; (try go_bits); first | exact gives_same | exact gives_skip | with_reducible exact gives_call (B0.out wx) | exact gives_call (B1.out wx (hx0.trans hwx))))
        · (simp only [Act.put, sIB, sCS, sCZ]; rfl))
     | (apply walk_not rfl rfl rfl
        · (simp only [Act.put, sIB, sCS, sCZ]; rfl)))
 intro wz hwz
 simp only [zCC, zNR]
 repeat (first | rw [fin_is] | (rw [fin_cons]; intro _ _))
 rw [fin_nil]
 try (replace hm := hm.ext hwz)
 simp only [Act.put, sIB, sCS, sCZ]
 clear r1 d0 hx0
 go_wp2_with (first | ((((with_reducible show qSt); first | ((with_reducible apply wq_stW hm); exact rfl; infer_instance; exact rfl; exact rfl; (focus (repeat first | exact .hd | assumption | apply Swap.tl); done); (focus (first | rfl | omega | (simp; done) | (simp; omega))); (focus (first | rfl | omega | (simp; done) | (simp; omega))); (focus (first | exact one_map _ | (simp [one8, one32, one64]; done)))))); clear hm; intro w hm))
 have r1 := fun wx (hwx : Ext w wx) => R1.out wx (hm.x.trans hwx)
 have d0 := fun wx (hwx : Ext w wx) => DL.out.ext (hm.x.trans hwx)
 have hx0 := hm.x
 refine region_at 13 (fun w' => Ext _ w') 47 (by kernel_rfl) (by kernel_rfl) rfl (fun _ _ h k => h.trans k) (drew_ext _) ?_
 simp only [tSC, List.take_zero, dSC, List.drop_zero, List.map_cons, List.map_nil]
 repeat (first
     | (apply walk_is rfl rfl rfl
        · (intro wx hwx; (with_reducible apply gq_row1 ((r1) wx hwx)); infer_instance; exact rfl; exact P0.out)
        · (simp only [Act.put, sIB, sCS, sCZ]; rfl))
     | (apply walk_is rfl rfl rfl
        · (intro wx hwx; (with_reducible apply gq_row1 ((r1) wx hwx)); infer_instance; exact rfl; exact P1.out)
        · (simp only [Act.put, sIB, sCS, sCZ]; rfl))
     | (apply walk_is rfl rfl rfl
        · (intro wx hwx; (with_reducible apply gq_rdW ((d0) wx hwx)); infer_instance; exact rfl; (focus (first | rfl | omega | (simp; done) | (simp; omega))))
        · (simp only [Act.put, sIB, sCS, sCZ]; rfl))
     | (apply walk_is rfl rfl rfl
        · (intro wx hwx; first | ((with_reducible show gives _ _ _ (Sem.run _ (execOp _ (Oper.mk _ (Op.load _ _) _ _ _ _)) _)); first | ((with_reducible apply gq_ldW (hm.ext hwx)); infer_instance; exact rfl; (focus (repeat first | exact .hd | assumption | apply Has.tl); done); (focus (first | rfl | omega | (simp; done) | (simp; omega))))) | (go_simp; (try go_bits); first | exact gives_same | exact gives_skip | with_reducible exact gives_call (B2.out wx (hx0.trans hwx))))
        · (simp only [Act.put, sIB, sCS, sCZ]; rfl))
     | (apply walk_not rfl rfl rfl
        · (simp only [Act.put, sIB, sCS, sCZ]; rfl)))
 intro wz hwz
 simp only [zCC, zNR]
 repeat (first | rw [fin_is] | (rw [fin_cons]; intro _ _))
 rw [fin_nil]
 try (replace hm := hm.ext hwz)
 simp only [Act.put, sIB, sCS, sCZ]
 clear r1 d0 hx0
 go_wp2_with (first | ((((with_reducible show qSt); first | ((with_reducible apply wq_stW hm); exact rfl; infer_instance; exact rfl; exact rfl; (focus (repeat first | exact .hd | assumption | apply Swap.tl); done); (focus (first | rfl | omega | (simp; done) | (simp; omega))); (focus (first | rfl | omega | (simp; done) | (simp; omega))); (focus (first | exact one_map _ | (simp [one8, one32, one64]; done)))))); clear hm; intro w hm))
 refine ret_own hm rfl rfl (by infer_instance) (by repeat (first | exact Has.hd | assumption | apply Has.tl)) (by first | rfl | omega | (simp only [zeros_length, zer_length, tab_length, part_length, setN_length, List.length_map, List.length_cons, List.length_nil, List.length_append, List.length_take, List.length_drop, List.length_replicate, blk_length, putL_length] <;> omega)) rfl ⟨rfl, hm.x⟩
abbrev P64 (l : List (BitVec 64)) : Value := .agg (l.map v64).toArray
abbrev P32 (l : List (BitVec 32)) : Value := .agg (l.map v32).toArray
def cr1 (V : List (BitVec 64)) (c : BitVec 64) (i : Nat) : List (BitVec 64) := setN V i (nth V i + c)
def cr2 (V : List (BitVec 64)) (i : Nat) : List (BitVec 64) := setN V i (nth V i &&& 67108863#64)
def crF (l : List (BitVec 64)) : Nat → List (BitVec 64) × BitVec 64
 | 0 => (l, 0#64)
 | i + 1 => (cr2 (cr1 (crF l i).1 (crF l i).2 i) i, nth (cr1 (crF l i).1 (crF l i).2 i) i >>> 26)
theorem crF_length (l : List (BitVec 64)) (i : Nat) : (crF l i).1.length = l.length := by
 induction i with
 | zero => rfl
 | succ i ih => rw [crF, cr2, cr1, setN_length, setN_length, ih]
def carL (l : List (BitVec 64)) : List (BitVec 64) := setN (crF l 5).1 0 (nth (crF l 5).1 0 + 5#64 * (crF l 5).2)
theorem carL_length (l : List (BitVec 64)) : (carL l).length = l.length := by rw [carL, setN_length, crF_length]
set_option maxHeartbeats 1000000 in
theorem carried_any (l : List (BitVec 64)) (hl : l.length = 5) (w0 : World) : Gives Tryz.prog 147 #[P64 l] w0 (P64 (carL l)) := by
 unfold Gives
 have hm := Own.start w0
 have HL := Lib.hid fun i => (show (crF l i).1.length = 5 from by rw [crF_length]; exact hl)
 have EC := Lib.hid (show carL l = setN (crF l 5).1 0 (nth (crF l 5).1 0 + 5#64 * (crF l 5).2) from rfl)
 have h1 := Nat.le_of_eq hl
 have h2 := Nat.le_of_eq hl.symm
 have lC := carL_length l
 rw [hl] at lC
 have C0 : Hid ((crF l 0).1 = l ∧ (crF l 0).2 = 0#64) := Lib.hid ⟨rfl, rfl⟩
 clear hl
 go_enter Tryz.func147, Tryz.ntmps147
 go_wp2_with (first | ((first | ((with_reducible show qAl); first | ((with_reducible apply wq_new hm); exact rfl; infer_instance)) | ((with_reducible show qBx); first | ((with_reducible apply wq_boxN hm); exact rfl; exact rfl))); clear hm; (first | (have hx_ := g1; clear hx_; (first | (have hx_ := g2; clear hx_; intro gx_) | intro g2)) | intro g1); intro w hm))
 go_loopw [3, 5] (fun c i wr => ∃ k : Nat, k ≤ 5 ∧ i = .int .i64 k ∧ c = v64 (crF l k).2 ∧ Own w0 wr [⟨g2, 234, (zer (n := 64) 5).map v64⟩, ⟨g1, 234, (crF l k).1.map v64⟩]) (fun _ i _ => 5 - (intOf i).toNat)
 case atStart => exact ⟨0, by omega, rfl, rfl, hm⟩
 case round =>
   obtain ⟨k, hk, rfl, rfl, hm⟩ := hrel
   have lV := HL.out k
   by_cases hlt : k < 5
   · have hd : decide ((k : Int) < 5) = true := decide_eq_true (by omega)
     have hd2 : (k : Int) < 5 := by omega
     have E1 : Hid ((crF l (k + 1)).1 = cr2 (cr1 (crF l k).1 (crF l k).2 k) k) := Lib.hid rfl
     have E2 : Hid ((crF l (k + 1)).2 = nth (cr1 (crF l k).1 (crF l k).2 k) k >>> 26) := Lib.hid rfl
     generalize (crF l k).1 = V at *
     generalize (crF l k).2 = C at *
     go_wp2_with (first | ((with_reducible show qLd); first | ((with_reducible apply wq_ldv hm); exact rfl; infer_instance; exact rfl; (focus (repeat first | exact .hd | assumption | apply Has.tl); done); (focus (first | omega | (simp; omega) | (refine ltB ?_; first | omega | (simp; done) | (simp; omega)))))) | ((((with_reducible show qSt); first | ((with_reducible apply wq_stv hm); exact rfl; infer_instance; exact rfl; (focus (repeat first | exact .hd | assumption | apply Swap.tl); done); infer_instance; exact rfl; (focus (first | omega | (simp; omega) | (refine ltB ?_; first | omega | (simp; done) | (simp; omega))))))); clear hm; intro w hm))
     go_roundw
     case rel => exact ⟨k + 1, by omega, by go_num, by rw [E2.out]; rfl, by rw [E1.out]; exact hm⟩
     case measure => simp [intOf] <;> omega
   · obtain rfl : k = 5 := by omega
     have hd : decide (((5 : Nat) : Int) < 5) = false := decide_eq_false (by omega)
     go_wp2_with (first | ((with_reducible show qLd); first | ((with_reducible apply wq_ldv hm); exact rfl; infer_instance; exact rfl; (focus (repeat first | exact .hd | assumption | apply Has.tl); done); (focus (first | omega | (simp; omega) | (refine ltB ?_; first | omega | (simp; done) | (simp; omega))))) | ((with_reducible apply wq_ldW hm); exact rfl; infer_instance; exact rfl; (focus (repeat first | exact .hd | assumption | apply Has.tl); done); (focus (first | rfl | omega | (simp; done) | (simp; omega))))) | ((((with_reducible show qSt); first | ((with_reducible apply wq_stv hm); exact rfl; infer_instance; exact rfl; (focus (repeat first | exact .hd | assumption | apply Swap.tl); done); infer_instance; exact rfl; (focus (first | omega | (simp; omega) | (refine ltB ?_; first | omega | (simp; done) | (simp; omega))))) | ((with_reducible apply wq_stW hm); exact rfl; infer_instance; exact rfl; exact rfl; (focus (repeat first | exact .hd | assumption | apply Swap.tl); done); (focus (first | rfl | omega | (simp; done) | (simp; omega))); (focus (first | rfl | omega | (simp; done) | (simp; omega))); (focus (first | exact one_map _ | (simp [one8, one32, one64]; done)))))); clear hm; intro w hm))
     replace hm : Own w0 w [⟨g2, 234, (setN (crF l 5).1 0 (nth (crF l 5).1 0 + 5#64 * (crF l 5).2)).map v64⟩, ⟨g1, 234, (setN (crF l 5).1 0 (nth (crF l 5).1 0 + 5#64 * (crF l 5).2)).map v64⟩] := hm
     rw [← EC.out] at hm
     refine ret_own hm rfl rfl (by infer_instance) (by repeat (first | exact Has.hd | assumption | apply Has.tl)) (by first | rfl | omega | (simp only [zeros_length, zer_length, tab_length, part_length, setN_length, List.length_map, List.length_cons, List.length_nil, List.length_append, List.length_take, List.length_drop, List.length_replicate, blk_length, putL_length] <;> omega)) rfl ⟨rfl, hm.x⟩
def looL (l : List (BitVec 32)) : List (BitVec 64) := tab 5 fun i => (nth l i).setWidth 64
theorem looL_length (l : List (BitVec 32)) : (looL l).length = 5 := tab_length
set_option maxHeartbeats 1000000 in
theorem ploose_any (l : List (BitVec 32)) (hl : l.length = 5) (w0 : World) : Gives Tryz.prog 148 #[P32 l] w0 (P64 (looL l)) := by
 unfold Gives
 have hm := Own.start w0
 have h1 := Nat.le_of_eq hl
 have h2 := Nat.le_of_eq hl.symm
 clear hl
 go_enter Tryz.func148, Tryz.ntmps148
 go_wp2_with (first | ((first | ((with_reducible show qAl); first | ((with_reducible apply wq_new hm); exact rfl; infer_instance)) | ((with_reducible show qBx); first | ((with_reducible apply wq_boxN hm); exact rfl; exact rfl))); clear hm; (first | (have hx_ := g1; clear hx_; (first | (have hx_ := g2; clear hx_; (first | (have hx_ := g3; clear hx_; intro gx_) | intro g3)) | intro g2)) | intro g1); intro w hm))
 go_loopw [5] (fun i wr => ∃ k : Nat, k ≤ 5 ∧ i = .int .i64 k ∧ Own w0 wr [⟨g3, 234, (part (n := 64) 5 k (fun i => (nth l i).setWidth 64) fun _ => 0).map v64⟩, ⟨g2, 234, (zer (n := 64) 5).map v64⟩, ⟨g1, 225, l.map v32⟩]) (fun i _ => 5 - (intOf i).toNat)
 case atStart => exact ⟨0, by omega, rfl, by rw [← zer_start]; exact hm⟩
 case round =>
   obtain ⟨k, hk, rfl, hm⟩ := hrel
   by_cases hlt : k < 5
   · have hd : decide ((k : Int) < 5) = true := decide_eq_true (by omega)
     have hd2 : (k : Int) < 5 := by omega
     go_wp2_with (first | ((with_reducible show qLd); first | ((with_reducible apply wq_ldv hm); exact rfl; infer_instance; exact rfl; (focus (repeat first | exact .hd | assumption | apply Has.tl); done); (focus (first | omega | (simp; omega) | (refine ltB ?_; first | omega | (simp; done) | (simp; omega)))))) | ((((with_reducible show qSt); first | ((with_reducible apply wq_stv hm); exact rfl; infer_instance; exact rfl; (focus (repeat first | exact .hd | assumption | apply Swap.tl); done); infer_instance; exact rfl; (focus (first | omega | (simp; omega) | (refine ltB ?_; first | omega | (simp; done) | (simp; omega))))))); clear hm; intro w hm))
     go_roundw
     case rel =>
       rw [part_set' hlt rfl] at hm
       exact ⟨k + 1, by omega, by go_num, hm⟩
     case measure => simp [intOf] <;> omega
   · obtain rfl : k = 5 := by omega
     have hd : decide (((5 : Nat) : Int) < 5) = false := decide_eq_false (by omega)
     rw [part_all] at hm
     go_wp2_with (first | ((with_reducible show qLd); first | ((with_reducible apply wq_ldW hm); exact rfl; infer_instance; exact rfl; (focus (repeat first | exact .hd | assumption | apply Has.tl); done); (focus (first | rfl | omega | (simp; done) | (simp; omega))))) | ((((with_reducible show qSt); first | ((with_reducible apply wq_stW hm); exact rfl; infer_instance; exact rfl; exact rfl; (focus (repeat first | exact .hd | assumption | apply Swap.tl); done); (focus (first | rfl | omega | (simp; done) | (simp; omega))); (focus (first | rfl | omega | (simp; done) | (simp; omega))); (focus (first | exact one_map _ | (simp [one8, one32, one64]; done)))))); clear hm; intro w hm))
     refine ret_own hm rfl rfl (by infer_instance) (by repeat (first | exact Has.hd | assumption | apply Has.tl)) (by first | rfl | omega | (simp only [zeros_length, zer_length, tab_length, part_length, setN_length, List.length_map, List.length_cons, List.length_nil, List.length_append, List.length_take, List.length_drop, List.length_replicate, blk_length, putL_length] <;> omega)) rfl ⟨rfl, hm.x⟩
theorem run_part_v64 {P : Program} (w : World) (e : TypeId) (k : IntKind) (he : P.underlying e = some (.int k)) (l : List (BitVec 64)) (i : Nat) (hi : i < l.length) : (Go.part e (l.map v64).toArray i).run P w = .ok (v64 (l.getD i 0)) w := by
 simp [Go.part, isAgg, run_underlying he, hi]
theorem eq_loop64 (P : Program) (w : World) (f : Nat → Option Bool × Unit → Sem (ForInStep (Option Bool × Unit))) (l m : List (BitVec 64)) (n : Nat) (hl : l.length = n) (hm : m.length = n)
   (hf : ∀ i s, i < n → (f i s).run P w = .ok (if l.getD i 0 == m.getD i 0 then .yield (none, ()) else .done (some false, ())) w) :
   ∀ k a, a + k = n → (forIn (List.range' a k) ((none : Option Bool), ()) f).run P w = .ok (if l.drop a == m.drop a then (none, ()) else (some false, ())) w := by
 intro k
 induction k with
 | zero =>
   intro a ha
   have e1 : l.drop a = [] := List.drop_eq_nil_of_le (by omega)
   have e2 : m.drop a = [] := List.drop_eq_nil_of_le (by omega)
   rw [e1, e2]
   simp
 | succ k ih =>
   intro a ha
   have hla : a < l.length := by omega
   have hma : a < m.length := by omega
   simp only [List.range'_succ, List.forIn_cons, Sem.run_bind, hf a _ (by omega)]
   have e1 : l.drop a = l.getD a 0 :: l.drop (a + 1) := by rw [List.drop_eq_getElem_cons hla]; simp [hla]
   have e2 : m.drop a = m.getD a 0 :: m.drop (a + 1) := by rw [List.drop_eq_getElem_cons hma]; simp [hma]
   rw [e1, e2]
   by_cases h : l.getD a 0 = m.getD a 0
   · rw [h]
     have := ih (a + 1) (by omega)
     simp only [beq_self_eq_true, if_true, Result.andThen_ok, this]
     simp
   · have hb : (l.getD a 0 == m.getD a 0) = false := by simpa using h
     rw [hb]
     have hc : (l.getD a 0 :: l.drop (a + 1) == m.getD a 0 :: m.drop (a + 1)) = false := by
       rw [beq_eq_false_iff_ne]; intro e; exact h (List.cons.inj e).1
     rw [hc]
     simp only [Result.andThen_ok, Bool.false_eq_true, if_false, Sem.run_pure]
theorem run_equalIn_64s {P : Program} (w : World) (d : Nat) (T e : TypeId) (n : Nat) (l m : List (BitVec 64)) (hT : P.underlying T = some (.array n e)) (he : P.underlying e = some (.int .u64)) (hs : (P.info? e).map (·.size) = some 1) (hl : l.length = n) (hm : m.length = n) :
   (Op.equalIn (d + 2) T (.agg (l.map v64).toArray) (.agg (m.map v64).toArray)).run P w = .ok (l == m) w := by
 obtain ⟨i, hi1, hi2⟩ := Option.map_eq_some_iff.1 hs
 rw [Op.equalIn]
 simp only [Sem.run_bind, run_underlying hT, Result.andThen_ok, sizeOf, typeInfo, run_program, hi1, Sem.run_pure, hi2, Std.Legacy.Range.forIn_eq_forIn_range', Nat.mul_one, Std.Legacy.Range.size, Nat.sub_zero, Nat.add_sub_cancel, Nat.div_one]
 rw [eq_loop64 P w _ l m n hl hm ?hf n 0 (by omega)]
 case hf =>
   intro j s hj
   simp only [Sem.run_bind, run_part_v64 w e .u64 he l j (by omega), run_part_v64 w e .u64 he m j (by omega), Result.andThen_ok]
   rw [run_equalIn64 e _ _ P w d .u64 he]
   cases l.getD j 0 == m.getD j 0 <;> simp
 · simp only [List.drop_zero]
   cases l == m <;> simp
end Go.Proofs.YtdmgchdhilcncaaGreatDoor
