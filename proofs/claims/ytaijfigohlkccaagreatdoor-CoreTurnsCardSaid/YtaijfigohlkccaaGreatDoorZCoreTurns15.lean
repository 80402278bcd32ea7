/-
  Sums of blocks. Conditions: those written in each theorem.
  Layer 20: a message's last blocks, and what its rest brings. Conditions: those written in each theorem.
  What is told of a call's own blocks and of keys, ahead of both ways to reckon. Conditions: those written in each theorem.
-/
import Derived.Test.YtaijfigohlkccaaGreatDoorZCoreTurns0
import Derived.Test.YtaijfigohlkccaaGreatDoorZCoreTurns14
import Derived.Test.YtaijfigohlkccaaGreatDoorZCoreTurns8
import Derived.Test.YtaijfigohlkccaaGreatDoorZCoreTurns13
set_option linter.unusedSimpArgs false
set_option linter.unusedVariables false
namespace Go.Proofs.YtaijfigohlkccaaGreatDoor
open Go Go.RowKit
set_option maxRecDepth 100000
set_option maxHeartbeats 4000000 in
theorem cplus_any (ks : List (List Byte)) (p : Option Addr) (c : Nat) (w0 : World) (hk : RdK w0 p 16 ks) (hc : ks.length ≤ c) (hcm : ks.length ≤ 70368744177664) : Gives Tryz.prog 31 #[.slice p ks.length c] w0 (A8 (plusL (zer 16) ks)) := by
 unfold Gives
 have hm := Own.start w0
 have HK := Lib.hid hk
 have HZ := Lib.hid (show (zer (n := 8) 16).length = 16 from zer_length)
 clear hk
 go_enter Tryz.func31, Tryz.ntmps31
 go_wp2_with (first | ((first | ((with_reducible show qAl); first | ((with_reducible apply wq_new hm); exact rfl; infer_instance))); clear hm; (first | (have hx_ := g1; clear hx_; (first | (have hx_ := g2; clear hx_; (first | (have hx_ := g3; clear hx_; intro gx_) | intro g3)) | intro g2)) | intro g1); intro w hm))
 go_loopw [9] (fun i wr => ∃ k : Nat, k ≤ ks.length ∧ i = .int .i64 k ∧ Own w0 wr [⟨g2, 36, (plusL (zer 16) (ks.take k)).map v8⟩, ⟨g1, 36, (zer 16).map v8⟩]) (fun i _ => ks.length - (intOf i).toNat)
 case atStart => exact ⟨0, by omega, rfl, hm⟩
 case round =>
   obtain ⟨k, hk, rfl, hm⟩ := hrel
   have hB := plusL_length (ks.take k) (zer 16) HZ.out
   by_cases hlt : k < ks.length
   · have hd : decide ((k : Int) < (ks.length : Int)) = true := decide_eq_true (by omega)
     have hd2 : (k : Int) < (ks.length : Int) := by omega
     obtain ⟨a, rfl⟩ := HK.out.addr (by omega) (by omega)
     obtain ⟨hK, hKl⟩ := HK.out.at (by omega) k hlt
     have hS := plusL_take (zer 16) ks k hlt
     simp only [Option.getD_some] at hK
     generalize plusL (zer 16) (ks.take k) = B at *
     generalize ks.getD k [] = K at *
     have HS := Lib.hid hS
     have HK2 := Lib.hid hK
     have ES : Hid (B = part 16 0 (fun i => nth B i ^^^ nth K i) (nth B)) := Lib.hid (part_start hB)
     have EE : Hid (part 16 16 (fun i => nth B i ^^^ nth K i) (nth B) = bothL B K) := Lib.hid part_all
     have hK1 := Nat.le_of_eq hKl
     have hK2' := Nat.le_of_eq hKl.symm
     clear hK hS
     go_wp2_with (first | ((with_reducible apply wq_rdW (HK2.out.ext hm.x)); exact rfl; infer_instance; exact rfl; exact hKl) | ((((with_reducible show qSt); first | ((with_reducible apply wq_stW hm); exact rfl; infer_instance; exact rfl; exact rfl; (focus ((repeat (first | exact .hd | assumption | apply Swap.tl | apply Swap.app)); done)); (focus (first | rfl | omega | (simp; done) | (simp; omega))); (focus (first | rfl | omega | (simp; done) | (simp; omega))); (focus (first | exact one_map _ | (simp [one8, one32, one64]; done)))))); clear hm; intro w hm) | ((first | ((with_reducible show qAl); first | ((with_reducible apply wq_new hm); exact rfl; infer_instance))); clear hm; (first | (have hx_ := g1; clear hx_; (first | (have hx_ := g2; clear hx_; (first | (have hx_ := g3; clear hx_; intro gx_) | intro g3)) | intro g2)) | intro g1); intro w hm))
     rw [ES.out] at hm
     go_loopw [13] (fun i wr => ∃ j : Nat, j ≤ 16 ∧ i = .int .i64 j ∧ Own w0 wr [⟨g3, 36, K.map v8⟩, ⟨g2, 36, (part 16 j (fun i => nth B i ^^^ nth K i) (nth B)).map v8⟩, ⟨g1, 36, (zer 16).map v8⟩]) (fun i _ => 16 - (intOf i).toNat)
     case atStart => exact ⟨0, by omega, rfl, hm⟩
     case round =>
       obtain ⟨j, hj, rfl, hm⟩ := hrel
       by_cases hjl : j < 16
       · have hj1 : decide ((j : Int) < 16) = true := decide_eq_true (by omega)
         have hj2 : (j : Int) < 16 := by omega
         have EJ : Hid (setN (part 16 j (fun i => nth B i ^^^ nth K i) (nth B)) j (nth (part 16 j (fun i => nth B i ^^^ nth K i) (nth B)) j ^^^ nth K j) = part 16 (j + 1) (fun i => nth B i ^^^ nth K i) (nth B)) := Lib.hid (by
           rw [nth_part_ge hjl (Nat.le_refl _)]; exact part_set (f := fun i => nth B i ^^^ nth K i) hjl)
         have lJ : (part 16 j (fun i => nth B i ^^^ nth K i) (nth B)).length = 16 := part_length
         generalize part 16 j (fun i => nth B i ^^^ nth K i) (nth B) = C at *
         go_wp2_with fail
         refine region_at 8 (fun w' => Ext _ w') 27 (by kernel_rfl) (by kernel_rfl) rfl (fun _ _ h k => h.trans k) (drew_ext _) ?_
         simp only [tSC, List.take_zero, dSC, List.drop_zero, List.map_cons, List.map_nil]
         repeat (first
             | (apply walk_is rfl rfl rfl
                · (intro wx hwx; first | ((with_reducible show gives _ _ _ (Sem.run _ (execOp _ (Oper.mk _ (Op.load _ _) _ _ _ _)) _)); first | ((with_reducible apply gq_ldv (hm.ext hwx)); infer_instance; exact rfl; (focus ((repeat (first | exact .hd | assumption | apply Has.tl | apply Has.app)); done)); (focus (first | omega | (simp; omega) | (refine ltB ?_; first | omega | (simp; done) | (simp; omega))))) | ((with_reducible apply gq_ldW (hm.ext hwx)); infer_instance; exact rfl; (focus ((repeat (first | exact .hd | assumption | apply Has.tl | apply Has.app)); done)); (focus (first | rfl | omega | (simp; done) | (simp; omega)))) | ((with_reducible apply gq_ld1 (hm.ext hwx)); infer_instance; exact rfl; (focus ((repeat (first | exact .hd | assumption | apply Has.tl | apply Has.app)); done)); exact rfl)) | (go_simp; (try go_bits); first | exact gives_same | exact gives_skip))
                · (simp only [Act.put, sIB, sCS, sCZ]; rfl))
             | (apply walk_not rfl rfl rfl
                · (simp only [Act.put, sIB, sCS, sCZ]; rfl)))
         intro wz hwz
         simp only [zCC, zNR]
         repeat (first | rw [fin_is] | (rw [fin_cons]; intro _ _))
         rw [fin_nil]
         try (replace hm := hm.ext hwz)
         simp only [Act.put, sIB, sCS, sCZ]
         go_wp2_with (first | ((((with_reducible show qSt); first | ((with_reducible apply wq_stv hm); exact rfl; infer_instance; exact rfl; (focus ((repeat (first | exact .hd | assumption | apply Swap.tl | apply Swap.app)); done)); infer_instance; exact rfl; (focus (first | omega | (simp; omega) | (refine ltB ?_; first | omega | (simp; done) | (simp; omega))))))); clear hm; intro w hm))
         go_roundw
         case rel =>
           rw [EJ.out] at hm
           exact ⟨j + 1, by omega, by go_num, hm⟩
         case measure => simp [intOf] <;> omega
       · obtain rfl : j = 16 := by omega
         have hj1 : decide (((16 : Nat) : Int) < 16) = false := decide_eq_false (by omega)
         rw [EE.out] at hm
         go_wp2_with fail
         go_roundw
         case rel => exact ⟨k + 1, by omega, by go_num, by rw [HS.out]; exact hm.drop⟩
         case measure => simp [intOf] <;> omega
   · obtain rfl : k = ks.length := by omega
     have hd : decide ((ks.length : Int) < (ks.length : Int)) = false := decide_eq_false (by omega)
     rw [List.take_length] at hm hB
     go_wp2_with (first | ((with_reducible show qLd); first | ((with_reducible apply wq_ldW hm); exact rfl; infer_instance; exact rfl; (focus ((repeat (first | exact .hd | assumption | apply Has.tl | apply Has.app)); done)); (focus (first | rfl | omega | (simp; done) | (simp; omega))))) | ((((with_reducible show qSt); first | ((with_reducible apply wq_stW hm); exact rfl; infer_instance; exact rfl; exact rfl; (focus ((repeat (first | exact .hd | assumption | apply Swap.tl | apply Swap.app)); done)); (focus (first | rfl | omega | (simp; done) | (simp; omega))); (focus (first | rfl | omega | (simp; done) | (simp; omega))); (focus (first | exact one_map _ | (simp [one8, one32, one64]; done)))))); clear hm; intro w hm))
     refine ret_own hm rfl rfl (by infer_instance) (by repeat (first | exact Has.hd | assumption | apply Has.tl | apply Has.app)) (by first | rfl | omega | (simp only [zeros_length, zer_length, tab_length, part_length, setN_length, List.length_map, List.length_cons, List.length_nil, List.length_append, List.length_take, List.length_drop, List.length_replicate, blk_length, putL_length] <;> omega)) rfl ⟨rfl, hm.x⟩
theorem cplus_two (a b : List Byte) (ha : a.length = 16) (hb : b.length = 16) (p : Option Addr) (c : Nat) (w0 : World) (hk : RdK w0 p 16 [a, b]) (hc : 2 ≤ c) : Gives Tryz.prog 31 #[.slice p 2 c] w0 (A8 (bothL a b)) := by
 have := cplus_any [a, b] p c w0 hk hc (by simp)
 rwa [show plusL (zer 16) [a, b] = bothL a b from by show bothL (bothL (zer 16) a) b = _; rw [zer_bothL _ ha]] at this
theorem cplus_four (a b d e : List Byte) (ha : a.length = 16) (p : Option Addr) (c : Nat) (w0 : World) (hk : RdK w0 p 16 [a, b, d, e]) (hc : 4 ≤ c) : Gives Tryz.prog 31 #[.slice p 4 c] w0 (A8 (bothL (bothL (bothL a b) d) e)) := by
 have := cplus_any [a, b, d, e] p c w0 hk hc (by simp)
 rwa [show plusL (zer 16) [a, b, d, e] = bothL (bothL (bothL a b) d) e from by show bothL (bothL (bothL (bothL (zer 16) a) b) d) e = _; rw [zer_bothL _ ha]] at this
end Go.Proofs.YtaijfigohlkccaaGreatDoor
namespace Go.Proofs.YtaijfigohlkccaaGreatDoor
open Go Go.RowKit
set_option maxRecDepth 100000
def msgC (pp u v : Value) (x y : List Byte) : List Value := [pp, u, v] ++ (x.map v8 ++ y.map v8)
section
variable {pp u v : Value} {x y : List Byte}
theorem msg_pp : (msgC pp u v x y)[0]? = some pp := rfl
theorem msg_u : (msgC pp u v x y)[1]? = some u := rfl
theorem msg_v : (msgC pp u v x y)[2]? = some v := rfl
theorem msg_x (hx : x.length = 16) : ((msgC pp u v x y).drop 3).take 16 = x.map v8 := by
 show (x.map v8 ++ y.map v8).take 16 = _
 rw [List.take_append_of_le_length (by simp [hx]), List.take_of_length_le (by simp [hx])]
theorem msg_y (hx : x.length = 16) (hy : y.length = 16) : ((msgC pp u v x y).drop 19).take 16 = y.map v8 := by
 show ((x.map v8 ++ y.map v8).drop 16).take 16 = _
 rw [List.drop_append_of_le_length (by simp [hx]), List.drop_eq_nil_of_le (by simp [hx]), List.nil_append, List.take_of_length_le (by simp [hy])]
theorem msg_length (hx : x.length = 16) (hy : y.length = 16) : (msgC pp u v x y).length = 35 := by simp [msgC, hx, hy]
theorem msg_one (h1 : pp.oneCell' = true) (h2 : u.oneCell' = true) (h3 : v.oneCell' = true) : ∀ w ∈ msgC pp u v x y, w.oneCell' = true := by
 intro w hw
 rcases List.mem_append.1 hw with hw | hw
 · simp only [List.mem_cons, List.not_mem_nil, or_false] at hw
   rcases hw with rfl | rfl | rfl <;> assumption
 · rcases List.mem_append.1 hw with hw | hw
   · exact one_map _ w hw
   · exact one_map _ w hw
theorem msg_set1 (a : Value) : (msgC pp u v x y).set 1 a = msgC pp a v x y := rfl
theorem msg_set2 (a : Value) : (msgC pp u v x y).set 2 a = msgC pp u a x y := rfl
end
theorem fl16 : flv 16 = 4625196817309499392 := by decide +kernel
set_option maxHeartbeats 2000000 in
theorem clast_any (l : List Byte) (p : Option Addr) (c k : Nat) (kI : Int) (hk : 16 ≤ k) (hkI : kI = (k : Int)) (hkl : k ≤ l.length) (hF : FlIn (flv (l.length - k)) (l.length - k) (flv l.length) l.length) (hG : FlIn (flv 16) 16 (flv l.length) l.length) (hlc : l.length ≤ c) (hb : l.length ≤ 70368744177000) (w0 : World) (hl : RdB w0 p l) :
   Gives Tryz.prog 67 #[.slice p l.length c, .int .i64 kI] w0 (A8 ((l.drop (l.length - k)).take 16)) := by
 unfold Gives
 have hm := Own.start w0
 subst hkI
 have O1 := Lib.hid fun w hx => of_any l p c (flv (l.length - k)) (l.length - k) (flv 16) 16 (flv l.length) hF hG (by omega) (by omega) hlc hb w (hl.ext hx)
 rw [fl16] at O1
 have h1 : ∀ w, (convert 3 96 (.int .i64 ((l.length : Int) - (k : Int)))).run Tryz.prog w = .ok (.float .f64 (flv (l.length - k))) w := fun w => by
   have := conv_if hF.of w
   rwa [show ((l.length - k : Nat) : Int) = (l.length : Int) - (k : Int) by omega] at this
 have lT : ((l.drop (l.length - k)).take 16).length = 16 := by rw [List.length_take, List.length_drop]; omega
 have B1 := Lib.hid fun (w : World) (q : Option Addr) (d : Nat) (h : RdB w q ((l.drop (l.length - k)).take 16)) => show Gives Tryz.prog 53 #[.slice q ((l.drop (l.length - k)).take 16).length d] w (A8 ((l.drop (l.length - k)).take 16)) from by
   have := oblock_any _ q d w h
   rwa [blk_self _ lT] at this
 rw [lT] at B1
 generalize (l.drop (l.length - k)).take 16 = T at *
 generalize flv (l.length - k) = b at *
 have a1 : (l.length : Int) - (k : Int) ≤ 9223372036854775807 := by omega
 have a2 : -9223372036854775808 ≤ (l.length : Int) - (k : Int) := by omega
 clear hF hG hl
 go_enter Tryz.func67, Tryz.ntmps67
 go_wp2_with (first | (go_at_call 93; (with_reducible refine (O1.out _ hm.x).mono ?_); rintro e_ w ⟨v_, rfl, ⟨q_, d_, rfl, hqd_, hv_⟩, hx_⟩; replace hm := hm.ext hx_; clear hx_) | (go_at_call 53; (with_reducible refine (B1.out _ q_ d_ (hv_.ext (Ext.refl _))).mono ?_); rintro e_ w ⟨rfl, hx_⟩; replace hm := hm.ext hx_; clear hx_) | ((((with_reducible show qSt); first | ((with_reducible apply wq_stW hm); exact rfl; infer_instance; exact rfl; exact rfl; (focus ((repeat (first | exact .hd | assumption | apply Swap.tl | apply Swap.app)); done)); (focus (first | rfl | omega | (simp; done) | (simp; omega))); (focus (first | rfl | omega | (simp; done) | (simp; omega))); (focus (first | exact one_map _ | (simp [one8, one32, one64]; done)))))); clear hm; intro w hm) | ((first | ((with_reducible show qAl); first | ((with_reducible apply wq_new hm); exact rfl; infer_instance))); clear hm; intro gx_; intro w hm))
 refine ret_own hm rfl rfl (by infer_instance) (by repeat (first | exact Has.hd | assumption | apply Has.tl | apply Has.app)) (by first | rfl | omega | (simp only [zeros_length, zer_length, tab_length, part_length, setN_length, List.length_map, List.length_cons, List.length_nil, List.length_append, List.length_take, List.length_drop, List.length_replicate, blk_length, putL_length] <;> omega)) rfl ⟨rfl, hm.x⟩
set_option maxHeartbeats 2000000 in
theorem ctail1_any (l : List Byte) (p : Option Addr) (c : Nat) (h16 : l.length < 16) (w0 : World) (hl : RdB w0 p l) : Gives Tryz.prog 68 #[.slice p l.length c] w0 (A8 (blk (l ++ [128#8]))) := by
 unfold Gives
 have hm := Own.start w0
 have M1 := Lib.hid fun (w : World) (hx : Ext w0 w) => show GivesR Tryz.prog 69 #[.slice p l.length c, .int .u8 128, .int .i64 16] w (BytesS (marked l 128#8 16)) from marked_any l p c 128#8 16 w (hl.ext hx) (by omega) (by omega) (by omega)
 have B1 := Lib.hid fun (w : World) (q : Option Addr) (d : Nat) (h : RdB w q (marked l 128#8 16)) => show Gives Tryz.prog 53 #[.slice q (marked l 128#8 16).length d] w (A8 (blk (l ++ [128#8]))) from by
   have := oblock_any _ q d w h
   rwa [blk_marked l h16] at this
 have lB := blk_length (l ++ [128#8])
 generalize blk (l ++ [128#8]) = B at *
 generalize marked l 128#8 16 = M at *
 clear hl
 go_enter Tryz.func68, Tryz.ntmps68
 go_wp2_with (first | (go_at_call 69; (with_reducible refine (M1.out _ hm.x).mono ?_); rintro e_ w ⟨v_, rfl, ⟨q_, d_, rfl, hqd_, hv_⟩, hx_⟩; replace hm := hm.ext hx_; clear hx_) | (go_at_call 53; (with_reducible refine (B1.out _ q_ d_ hv_).mono ?_); rintro e_ w ⟨rfl, hx_⟩; replace hm := hm.ext hx_; clear hx_) | ((((with_reducible show qSt); first | ((with_reducible apply wq_stW hm); exact rfl; infer_instance; exact rfl; exact rfl; (focus ((repeat (first | exact .hd | assumption | apply Swap.tl | apply Swap.app)); done)); (focus (first | rfl | omega | (simp; done) | (simp; omega))); (focus (first | rfl | omega | (simp; done) | (simp; omega))); (focus (first | exact one_map _ | (simp [one8, one32, one64]; done)))))); clear hm; intro w hm) | ((first | ((with_reducible show qAl); first | ((with_reducible apply wq_new hm); exact rfl; infer_instance))); clear hm; intro gx_; intro w hm))
 refine ret_own hm rfl rfl (by infer_instance) (by repeat (first | exact Has.hd | assumption | apply Has.tl | apply Has.app)) (by first | rfl | omega | (simp only [zeros_length, zer_length, tab_length, part_length, setN_length, List.length_map, List.length_cons, List.length_nil, List.length_append, List.length_take, List.length_drop, List.length_replicate, blk_length, putL_length] <;> omega)) rfl ⟨rfl, hm.x⟩
set_option maxHeartbeats 4000000 in
theorem ctail_any (pp : Value) (u v : List Byte) (pu pv : Option Addr) (cu cv : Nat) (x y : List Byte) (hx : x.length = 16) (hy : y.length = 16) (kv : Value) (F : Int → Int → List Byte → List Byte) (hF : ∀ j m x, (F j m x).length = 16) (hu16 : u.length ≤ 16) (hv16 : v.length < 16) (w0 : World) (hu : RdB w0 pu u) (hv : RdB w0 pv v)
   (CE : ∀ wx, Ext w0 wx → ∀ (j m : Int) (x : List Byte), x.length = 16 → j ≤ 9223372036854775807 → m ≤ 9223372036854775807 → Gives Tryz.prog 34 #[kv, .int .i64 j, .int .i64 m, A8 x] wx (A8 (F j m x))) :
   Gives Tryz.prog 33 #[.agg (msgC pp (.slice pu u.length cu) (.slice pv v.length cv) x y).toArray, kv] w0 (A8 (tailL F u v)) := by
 unfold Gives
 have hm := Own.start w0
 have FU := Lib.hid (msg_u (pp := pp) (u := .slice pu u.length cu) (v := .slice pv v.length cv) (x := x) (y := y))
 have FV := Lib.hid (msg_v (pp := pp) (u := .slice pu u.length cu) (v := .slice pv v.length cv) (x := x) (y := y))
 have lS := msg_length (pp := pp) (u := .slice pu u.length cu) (v := .slice pv v.length cv) hx hy
 generalize msgC pp (.slice pu u.length cu) (.slice pv v.length cv) x y = S at *
 have HU := Lib.hid hu
 have HV := Lib.hid hv
 have T1 := Lib.hid fun (w : World) (h : Ext w0 w) => ctail1_any v pv cv hv16 w (hv.ext h)
 by_cases h0 : u.length = 0
 · have eT : tailL F u v = zer 16 := if_pos h0
   rw [eT]
   rw [h0] at FU
   clear hu hv CE h0 hu16 hv16 eT
   have lz : (zer (n := 8) 16).length = 16 := zer_length
   go_enter Tryz.func33, Tryz.ntmps33
   go_wp2_with (first | ((with_reducible apply wq_ld1 hm); exact rfl; infer_instance; exact rfl; (focus ((repeat (first | exact .hd | assumption | apply Has.tl | apply Has.app)); done)); (exact FU.out)) | ((with_reducible apply wq_build0 build_z16); exact rfl) | ((((with_reducible show qSt); first | ((with_reducible apply wq_stW hm); exact rfl; infer_instance; exact rfl; exact rfl; (focus ((repeat (first | exact .hd | assumption | apply Swap.tl | apply Swap.app)); done)); (focus (first | rfl | omega | (simp; done) | (simp; omega))); (focus (first | rfl | omega | (simp; done) | (simp; omega))); (focus (first | exact one_map _ | (simp [one8, one32, one64]; done)))))); clear hm; intro w hm) | ((first | ((with_reducible show qAl); first | ((with_reducible apply wq_new hm); exact rfl; infer_instance)) | ((with_reducible show qBx); first | ((with_reducible apply wq_boxN hm); exact rfl; exact rfl))); clear hm; intro gx_; intro w hm))
   refine ret_own hm rfl rfl (by infer_instance) (by repeat (first | exact Has.hd | assumption | apply Has.tl | apply Has.app)) (by first | rfl | omega | (simp only [zeros_length, zer_length, tab_length, part_length, setN_length, List.length_map, List.length_cons, List.length_nil, List.length_append, List.length_take, List.length_drop, List.length_replicate, blk_length, putL_length] <;> omega)) rfl ⟨rfl, hm.x⟩
 by_cases h1 : u.length = 16
 · have eT : tailL F u v = bothL (F 0 4 u) (F 0 5 (blk (v ++ [128#8]))) := by rw [tailL, if_neg h0, if_pos h1]
   have lA := hF 0 4 u
   have lB := hF 0 5 (blk (v ++ [128#8]))
   have lV := blk_length (v ++ [128#8])
   have D1 := Lib.hid fun (w : World) (h : Ext w0 w) => show Gives Tryz.prog 53 #[.slice pu u.length cu] w (A8 u) from by
     have := oblock_any u pu cu w (hu.ext h)
     rwa [blk_self u h1] at this
   have D2 := Lib.hid fun (w : World) (h : Ext w0 w) => CE w h 0 4 u h1 (by omega) (by omega)
   have D3 := Lib.hid fun (w : World) (h : Ext w0 w) => CE w h 0 5 (blk (v ++ [128#8])) lV (by omega) (by omega)
   have D4 := Lib.hid fun (w : World) (p : Option Addr) (c : Nat) (hc : 2 ≤ c) (hk : RdK w p 16 [F 0 4 u, F 0 5 (blk (v ++ [128#8]))]) => cplus_two (F 0 4 u) (F 0 5 (blk (v ++ [128#8]))) lA lB p c w hk hc
   rw [← eT] at D4
   have hk2 := Lib.hid (show ∀ k ∈ [F 0 4 u, F 0 5 (blk (v ++ [128#8]))], k.length = 16 from by simp [lA, lB])
   have lT : (tailL F u v).length = 16 := tailL_length F hF u v
   rw [h1] at FU D1
   generalize tailL F u v = T at *
   generalize F 0 4 u = A at *
   generalize F 0 5 (blk (v ++ [128#8])) = B at *
   generalize blk (v ++ [128#8]) = V at *
   clear hu hv CE h0 hu16 hv16 eT
   go_enter Tryz.func33, Tryz.ntmps33
   go_wp2_with (first | ((with_reducible apply wq_ld1 hm); exact rfl; infer_instance; exact rfl; (focus ((repeat (first | exact .hd | assumption | apply Has.tl | apply Has.app)); done)); (exact FU.out)) | ((first | ((with_reducible show qAl); first | ((with_reducible apply wq_new hm); exact rfl; infer_instance)) | ((with_reducible show qBx); first | ((with_reducible apply wq_boxN hm); exact rfl; exact rfl))); clear hm; intro gx_; intro w hm))
   have hx0 := hm.x
   refine region_at 13 (fun w' => Ext _ w') 33 (by kernel_rfl) (by kernel_rfl) rfl (fun _ _ h k => h.trans k) (drew_ext _) ?_
   simp only [tSC, List.take_zero, dSC, List.drop_zero, List.map_cons, List.map_nil]
   repeat (first
       | (apply walk_is rfl rfl rfl; (intro wx hwx; (with_reducible apply gq_ld1 (hm.ext hwx)); infer_instance; exact rfl; (focus ((repeat (first | exact .hd | assumption | apply Has.tl | apply Has.app)); done)); (exact FU.out)); (simp only [Act.put, sIB, sCS, sCZ]; rfl))
       | (apply walk_is rfl rfl rfl; (intro wx hwx; (with_reducible apply gq_ld1 (hm.ext hwx)); infer_instance; exact rfl; (focus ((repeat (first | exact .hd | assumption | apply Has.tl | apply Has.app)); done)); (exact FV.out)); (simp only [Act.put, sIB, sCS, sCZ]; rfl))
       | (apply walk_some (KeysS ([A, B])) 25 (KeysS.stable _) rfl rfl rfl rfl; (intro wx hwx; exact gq_bs2 (hk2.out) (bs_run2 A B lA lB wx) rfl rfl))
       | (apply walk_from (T := [(25, KeysS [A, B])]) rfl rfl
          · (intro wx hwx; simp only [withS]; (rintro x_ ⟨p, c, rfl, hlc, hk'⟩); refine ⟨rfl, ?_⟩; go_simp; exact gives_call (D4.out wx p c hlc hk'))
          · (simp only [Act.put, sIB, sCS, sCZ]; rfl))
       | (apply walk_is rfl rfl rfl
          · (intro wx hwx; first | ((with_reducible show gives _ _ _ (Sem.run _ (execOp _ (Oper.mk _ (Op.load _ _) _ _ _ _)) _)); first | ((with_reducible apply gq_ldv (hm.ext hwx)); infer_instance; exact rfl; (focus ((repeat (first | exact .hd | assumption | apply Has.tl | apply Has.app)); done)); (focus (first | omega | (simp; omega) | (refine ltB ?_; first | omega | (simp; done) | (simp; omega))))) | ((with_reducible apply gq_ldW (hm.ext hwx)); infer_instance; exact rfl; (focus ((repeat (first | exact .hd | assumption | apply Has.tl | apply Has.app)); done)); (focus (first | rfl | omega | (simp; done) | (simp; omega)))) | ((with_reducible apply gq_ld1 (hm.ext hwx)); infer_instance; exact rfl; (focus ((repeat (first | exact .hd | assumption | apply Has.tl | apply Has.app)); done)); exact rfl)) | (go_simp; (try go_bits); first | exact gives_same | exact gives_skip | with_reducible exact gives_call (D1.out wx (hx0.trans hwx)) | with_reducible exact gives_call (D2.out wx (hx0.trans hwx)) | with_reducible exact gives_call (D3.out wx (hx0.trans hwx)) | with_reducible exact gives_call (T1.out wx (hx0.trans hwx))))
          · (simp only [Act.put, sIB, sCS, sCZ]; rfl))
       | (apply walk_not rfl rfl rfl
          · (simp only [Act.put, sIB, sCS, sCZ]; rfl)))
   intro wz hwz
   simp only [zCC, zNR]
   repeat (first | rw [fin_is] | (rw [fin_cons]; intro _ _))
   rw [fin_nil]
   try (replace hm := hm.ext hwz)
   simp only [Act.put, sIB, sCS, sCZ]
   clear hx0
   go_wp2_with (first | ((((with_reducible show qSt); first | ((with_reducible apply wq_stW hm); exact rfl; infer_instance; exact rfl; exact rfl; (focus ((repeat (first | exact .hd | assumption | apply Swap.tl | apply Swap.app)); done)); (focus (first | rfl | omega | (simp; done) | (simp; omega))); (focus (first | rfl | omega | (simp; done) | (simp; omega))); (focus (first | exact one_map _ | (simp [one8, one32, one64]; done)))))); clear hm; intro w hm))
   refine ret_own hm rfl rfl (by infer_instance) (by repeat (first | exact Has.hd | assumption | apply Has.tl | apply Has.app)) (by first | rfl | omega | (simp only [zeros_length, zer_length, tab_length, part_length, setN_length, List.length_map, List.length_cons, List.length_nil, List.length_append, List.length_take, List.length_drop, List.length_replicate, blk_length, putL_length] <;> omega)) rfl ⟨rfl, hm.x⟩
 · have eT : tailL F u v = F 0 4 (blk (u ++ [128#8])) := by rw [tailL, if_neg h0, if_neg h1]
   have e0 : ((u.length : Int) == 0) = false := by rw [beq_eq_false_iff_ne]; omega
   have e1 : ((u.length : Int) == 16) = false := by rw [beq_eq_false_iff_ne]; omega
   have lU := blk_length (u ++ [128#8])
   have D1 := Lib.hid fun (w : World) (h : Ext w0 w) => ctail1_any u pu cu (by omega) w (hu.ext h)
   have D2 := Lib.hid fun (w : World) (h : Ext w0 w) => CE w h 0 4 (blk (u ++ [128#8])) lU (by omega) (by omega)
   have lT : (tailL F u v).length = 16 := tailL_length F hF u v
   rw [← eT] at D2
   generalize tailL F u v = T at *
   generalize blk (u ++ [128#8]) = U at *
   have H0 := Lib.hid h0
   have H1 := Lib.hid h1
   clear hu hv CE h0 h1 hu16 hv16 eT
   go_enter Tryz.func33, Tryz.ntmps33
   go_wp2_with (first | ((with_reducible apply wq_ld1 hm); exact rfl; infer_instance; exact rfl; (focus ((repeat (first | exact .hd | assumption | apply Has.tl | apply Has.app)); done)); (exact FU.out)) | (go_at_call 68; (with_reducible refine (D1.out _ hm.x).mono ?_); rintro e_ w ⟨rfl, hx_⟩; replace hm := hm.ext hx_; clear hx_) | (go_at_call 34; (with_reducible refine (D2.out _ hm.x).mono ?_); rintro e_ w ⟨rfl, hx_⟩; replace hm := hm.ext hx_; clear hx_) | ((((with_reducible show qSt); first | ((with_reducible apply wq_stW hm); exact rfl; infer_instance; exact rfl; exact rfl; (focus ((repeat (first | exact .hd | assumption | apply Swap.tl | apply Swap.app)); done)); (focus (first | rfl | omega | (simp; done) | (simp; omega))); (focus (first | rfl | omega | (simp; done) | (simp; omega))); (focus (first | exact one_map _ | (simp [one8, one32, one64]; done)))))); clear hm; intro w hm) | ((first | ((with_reducible show qAl); first | ((with_reducible apply wq_new hm); exact rfl; infer_instance)) | ((with_reducible show qBx); first | ((with_reducible apply wq_boxN hm); exact rfl; exact rfl))); clear hm; intro gx_; intro w hm))
   refine ret_own hm rfl rfl (by infer_instance) (by repeat (first | exact Has.hd | assumption | apply Has.tl | apply Has.app)) (by first | rfl | omega | (simp only [zeros_length, zer_length, tab_length, part_length, setN_length, List.length_map, List.length_cons, List.length_nil, List.length_append, List.length_take, List.length_drop, List.length_replicate, blk_length, putL_length] <;> omega)) rfl ⟨rfl, hm.x⟩
end Go.Proofs.YtaijfigohlkccaaGreatDoor
namespace Go.Proofs.YtaijfigohlkccaaGreatDoor
open Go Go.RowKit
set_option maxRecDepth 100000
theorem right15_any (key : List Byte) (p : Option Addr) (c : Nat) (w : World) : Calls Tryz.prog 21 #[.slice p key.length c] w fun e w' => e = .returned (.bool (rightL key)) ∧ w = w' := by
 by_cases h0 : 0 < key.length
 · have a1 : decide ((0 : Int) < (key.length : Int)) = true := decide_eq_true (by omega)
   have a2 : (0 : Int) < (key.length : Int) := by omega
   have e1 : decide (0 < key.length) = true := decide_eq_true h0
   by_cases h1 : key.length ≤ 128
   · have a3 : decide ((key.length : Int) ≤ 128) = true := decide_eq_true (by omega)
     have a4 : (key.length : Int) ≤ 128 := by omega
     have e : Hid (rightL key = true) := Lib.hid (by rw [rightL, e1, decide_eq_true h1]; rfl)
     rw [e.out]
     clear e1
     go_enter Tryz.func21, Tryz.ntmps21
     go_wp2
     go_ret
     exact ⟨rfl, rfl⟩
   · have a3 : decide ((key.length : Int) ≤ 128) = false := decide_eq_false (by omega)
     have a4 : ¬ (key.length : Int) ≤ 128 := by omega
     have e : Hid (rightL key = false) := Lib.hid (by rw [rightL, e1, decide_eq_false h1]; rfl)
     rw [e.out]
     clear e1
     go_enter Tryz.func21, Tryz.ntmps21
     go_wp2
     go_ret
     exact ⟨rfl, rfl⟩
 · have e : rightL key = false := by rw [rightL, decide_eq_false h0]; rfl
   rw [e]
   have a2 : key.length = 0 := by omega
   rw [a2]
   go_enter Tryz.func21, Tryz.ntmps21
   go_wp2
   go_ret
   exact ⟨rfl, rfl⟩
theorem Own.join {w0 w w' : World} {L M : List Blk} (h : Own w0 w L) (k : Own w w' M) : Own w0 w' (M ++ L) :=
 ⟨h.1.trans k.1, by
   rw [List.map_append, List.nodup_append]
   refine ⟨k.2.1, h.2.1, fun a ha b hb e => ?_⟩
   obtain ⟨x, hx, rfl⟩ := List.mem_map.1 ha
   obtain ⟨y, hy, rfl⟩ := List.mem_map.1 hb
   have h1 := (k.2.2 x hx).1
   have h2 := h.lt y hy
   omega, fun b hb => by
   rcases List.mem_append.1 hb with hb | hb
   · exact ⟨Nat.le_trans h.1.size (k.2.2 b hb).1, (k.2.2 b hb).2⟩
   · exact ⟨(h.2.2 b hb).1, row_ext (h.2.2 b hb).2 k.1⟩⟩
theorem Own.rdK {w0 w : World} {L : List Blk} {g : Nat} {e : TypeId} {ks : List (List Byte)} (hm : Own w0 w L) (hh : Has L ⟨g, e, catV ks⟩) (hk : ∀ k ∈ ks, k.length = 16) : RdK w (some ⟨g, 0, none⟩) 16 ks := ⟨hk, RdB.of_row (hm.row hh)⟩
theorem RdR.row {w : World} {p : Option Addr} {ls : List (List Byte)} (h : RdR w p ls) (k : Nat) (hk : k < ls.length) : ∃ a : Addr, p = some a ∧ ∃ (q : Option Addr) (c : Nat), w.cell? (a.add k) = some (.slice q (ls.getD k []).length c) ∧ RdB w q (ls.getD k []) ∧ (ls.getD k []).length ≤ c ∧ (ls.getD k []).length ≤ maxLen := by
 obtain ⟨a, rfl⟩ := Option.isSome_iff_exists.1 (h.1 (by omega))
 exact ⟨a, rfl, h.2 k hk⟩
theorem bs1_1 (w : World) : (Instr.buildSlice 22 1 #[(0, .int .u8 1)]).run Tryz.prog w = .ok (.slice (some ⟨w.heap.size, 0, none⟩) 1 1) (w.alloc (.cells [v8 1#8].toArray 5)) := by kernel_rfl
end Go.Proofs.YtaijfigohlkccaaGreatDoor
