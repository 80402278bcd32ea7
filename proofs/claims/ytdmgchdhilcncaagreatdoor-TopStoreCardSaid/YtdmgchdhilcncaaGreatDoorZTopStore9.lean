/-
  Layer 10: an element doubled, sums, so many times an element, products, an element doubled so often. Conditions: those written in each theorem.
  Layer 10: products, by the highest bit first, and an element doubled so often. Conditions: those written in each theorem.
  Layer 2: products, powers, inverses. No conditions.
  Layer 2: the boxes, made and read. No conditions.
-/
import Derived.Test.YtdmgchdhilcncaaGreatDoorZTopStore0
import Derived.Test.YtdmgchdhilcncaaGreatDoorZTopStore5
import Derived.Test.YtdmgchdhilcncaaGreatDoorZTopStore8
import Derived.Test.YtdmgchdhilcncaaGreatDoorZTopStore6
import Derived.Test.YtdmgchdhilcncaaGreatDoorZTopStore4
import Derived.RegionTactic
import Derived.ChangeAlike
set_option linter.unusedSimpArgs false
set_option linter.unusedVariables false
namespace Go.Proofs.YtdmgchdhilcncaaGreatDoor
open Go Go.RowKit
set_option maxRecDepth 100000
set_option maxHeartbeats 2000000 in
theorem ring_double (a : List Byte) (ha : a.length = 16) (w0 : World) : Gives Tryz.prog 207 #[A8 a] w0 (A8 (dblL a)) := by
 unfold Gives
 have hm := Own.start w0
 have ha1 := Nat.le_of_eq ha
 have ha2 := Nat.le_of_eq ha.symm
 have E15 := Lib.hid (show (nth a 15 <<< 1) ^^^ ((nth a 0 >>> 7) * 135#8) = dblF a 15 by rw [dblF, if_neg (by omega)])
 have EF := Lib.hid (fun k (h : k < 15) => show (nth a k <<< 1) ||| (nth a (k + 1) >>> 7) = dblF a k by rw [dblF, if_pos h])
 have ED := Lib.hid (show part 16 16 (dblF a) (fun _ => 0) = dblL a from part_all)
 clear ha
 go_enter Tryz.func207, Tryz.ntmps207
 go_wp2_with (first | ((first | ((with_reducible show qAl); first | ((with_reducible apply wq_new hm); exact rfl; infer_instance)) | ((with_reducible show qBx); first | ((with_reducible apply wq_boxN hm); exact rfl; exact rfl))); clear hm; (first | (have hx_ := g1; clear hx_; (first | (have hx_ := g2; clear hx_; (first | (have hx_ := g3; clear hx_; intro gx_) | intro g3)) | intro g2)) | intro g1); intro w hm))
 go_loopw [5] (fun i wr => ∃ k : Nat, k ≤ 15 ∧ i = .int .i64 k ∧ Own w0 wr [⟨g3, 94, (part 16 k (dblF a) fun _ => 0).map v8⟩, ⟨g2, 94, (zer 16).map v8⟩, ⟨g1, 94, a.map v8⟩]) (fun i _ => 15 - (intOf i).toNat)
 case atStart => exact ⟨0, by omega, rfl, by rw [← zer_start]; exact hm⟩
 case round =>
   obtain ⟨k, hk, rfl, hm⟩ := hrel
   by_cases hlt : k < 15
   · have hd : decide ((k : Int) < 15) = true := decide_eq_true (by omega)
     have h1 : (k : Int) < 16 := by omega
     have h2 : (k : Int) + 1 < 16 := by omega
     have h3 : 0 ≤ (k : Int) + 1 := by omega
     have h4 : ((k : Int) + 1).toNat = k + 1 := by omega
     have EK := Lib.hid (EF.out k hlt)
     go_wp2_with fail
     refine region_at 12 (fun w' => Ext _ w') 31 (by kernel_rfl) (by kernel_rfl) rfl (fun _ _ h k => h.trans k) (drew_ext _) ?_
     simp only [tSC, List.take_zero, dSC, List.drop_zero, List.map_cons, List.map_nil]
     repeat (first
         | (apply walk_is rfl rfl rfl
            · (intro wx hwx; first | ((with_reducible show gives _ _ _ (Sem.run _ (execOp _ (Oper.mk _ (Op.load _ _) _ _ _ _)) _)); first | ((with_reducible apply gq_ldv (hm.ext hwx)); infer_instance; exact rfl; (focus (repeat first | exact .hd | assumption | apply Has.tl); done); (focus (first | omega | (simp; omega) | (refine ltB ?_; first | omega | (simp; done) | (simp; omega)))))) | (go_simp; (try go_bits); first | exact gives_same | exact gives_skip))
            · (simp only [Act.put, sIB, sCS, sCZ]; rfl))
         | (apply walk_not rfl rfl rfl
            · (simp only [Act.put, sIB, sCS, sCZ]; rfl)))
     intro wz hwz
     simp only [zCC, zNR]
     repeat (first | rw [fin_is] | (rw [fin_cons]; intro _ _))
     rw [fin_nil]
     try (replace hm := hm.ext hwz)
     simp only [Act.put, sIB, sCS, sCZ]
     go_wp2_with (first | ((((with_reducible show qSt); first | ((with_reducible apply wq_stv hm); exact rfl; infer_instance; exact rfl; (focus (repeat first | exact .hd | assumption | apply Swap.tl); done); infer_instance; exact rfl; (focus (first | omega | (simp; omega) | (refine ltB ?_; first | omega | (simp; done) | (simp; omega))))))); clear hm; intro w hm))
     go_roundw
     case rel =>
       rw [part_set' (show k < 16 by omega) EK.out] at hm
       exact ⟨k + 1, by omega, by go_num, hm⟩
     case measure => simp [intOf] <;> omega
   · obtain rfl : k = 15 := by omega
     have hd : decide (((15 : Nat) : Int) < 15) = false := decide_eq_false (by omega)
     have l15 : (part 16 15 (dblF a) fun _ => 0).length = 16 := part_length
     go_wp2_with (first | ((with_reducible show qLd); first | ((with_reducible apply wq_ldv hm); exact rfl; infer_instance; exact rfl; (focus (repeat first | exact .hd | assumption | apply Has.tl); done); (focus (first | omega | (simp; omega) | (refine ltB ?_; first | omega | (simp; done) | (simp; omega))))) | ((with_reducible apply wq_ldW hm); exact rfl; infer_instance; exact rfl; (focus (repeat first | exact .hd | assumption | apply Has.tl); done); (focus (first | rfl | omega | (simp; done) | (simp; omega))))) | ((((with_reducible show qSt); first | ((with_reducible apply wq_stv hm); exact rfl; infer_instance; exact rfl; (focus (repeat first | exact .hd | assumption | apply Swap.tl); done); infer_instance; exact rfl; (focus (first | omega | (simp; omega) | (refine ltB ?_; first | omega | (simp; done) | (simp; omega))))) | ((with_reducible apply wq_stW hm); exact rfl; infer_instance; exact rfl; exact rfl; (focus (repeat first | exact .hd | assumption | apply Swap.tl); done); (focus (first | rfl | omega | (simp; done) | (simp; omega))); (focus (first | rfl | omega | (simp; done) | (simp; omega))); (focus (first | exact one_map _ | (simp [one8, one32, one64]; done)))))); clear hm; intro w hm))
     rw [part_set' (show 15 < 16 by omega) E15.out, ED.out] at hm
     have l1 : (dblL a).length = 16 := dblL_length a
     generalize dblL a = D at *
     go_wp2_with fail
     refine ret_own hm rfl rfl (by infer_instance) (by repeat (first | exact Has.hd | assumption | apply Has.tl)) (by first | rfl | omega | (simp only [zeros_length, zer_length, tab_length, part_length, setN_length, List.length_map, List.length_cons, List.length_nil, List.length_append, List.length_take, List.length_drop, List.length_replicate, blk_length, putL_length] <;> omega)) rfl ⟨rfl, hm.x⟩
set_option maxHeartbeats 2000000 in
theorem ring_sum (a b : List Byte) (c : Bool) (ha : a.length = 16) (hb : b.length = 16) (w0 : World) : Gives Tryz.prog 206 #[A8 a, A8 b, .bool c] w0 (A8 (if c = true then bothL a b else a)) := by
 unfold Gives
 have hm := Own.start w0
 cases c with
 | false =>
   rw [if_neg (by decide)]
   have ha1 := Nat.le_of_eq ha
   have ha2 := Nat.le_of_eq ha.symm
   go_enter Tryz.func206, Tryz.ntmps206
   go_wp2_with (first | ((with_reducible show qLd); first | ((with_reducible apply wq_ldW hm); exact rfl; infer_instance; exact rfl; (focus (repeat first | exact .hd | assumption | apply Has.tl); done); (focus (first | rfl | omega | (simp; done) | (simp; omega))))) | ((((with_reducible show qSt); first | ((with_reducible apply wq_stW hm); exact rfl; infer_instance; exact rfl; exact rfl; (focus (repeat first | exact .hd | assumption | apply Swap.tl); done); (focus (first | rfl | omega | (simp; done) | (simp; omega))); (focus (first | rfl | omega | (simp; done) | (simp; omega))); (focus (first | exact one_map _ | (simp [one8, one32, one64]; done)))))); clear hm; intro w hm) | ((first | ((with_reducible show qAl); first | ((with_reducible apply wq_new hm); exact rfl; infer_instance)) | ((with_reducible show qBx); first | ((with_reducible apply wq_boxN hm); exact rfl; exact rfl))); clear hm; (first | (have hx_ := g1; clear hx_; (first | (have hx_ := g2; clear hx_; intro gx_) | intro g2)) | intro g1); intro w hm))
   refine ret_own hm rfl rfl (by infer_instance) (by repeat (first | exact Has.hd | assumption | apply Has.tl)) (by first | rfl | omega | (simp only [zeros_length, zer_length, tab_length, part_length, setN_length, List.length_map, List.length_cons, List.length_nil, List.length_append, List.length_take, List.length_drop, List.length_replicate, blk_length, putL_length] <;> omega)) rfl ⟨rfl, hm.x⟩
 | true =>
   rw [if_pos rfl]
   have C1 := Lib.hid fun (w wx : World) (p q : Option Addr) (h1 : RdB wx p a) (h2 : RdB wx q b) => by
     have h := xor_any a b p q 16 16 wx h1 h2 (by omega) (by omega)
     rw [ha, hb] at h; exact h
   have lX : (xorL a b).length = 16 := by rw [xorL_length, ha, hb]; rfl
   have eX : blk (xorL a b) = bothL a b := by
     refine nth_ext (by rw [blk_length, bothL_length]) fun i hi => ?_
     rw [blk_length] at hi
     rw [bothL_nth _ _ _ hi]
     have h1 : nth (blk (xorL a b)) i = nth (xorL a b) i := by
       rw [show nth (xorL a b) i = gb (xorL a b) i from (gb_in _ i).symm]; simp [nth, blk, hi]
     rw [h1]
     exact xorL_getD a b i (by rw [lX]; exact hi)
   have C2 := Lib.hid fun (wx : World) (p : Option Addr) (c : Nat) (h : RdB wx p (xorL a b)) => eX ▸ oblock_any (xorL a b) p c wx h
   have lZ : (bothL a b).length = 16 := bothL_length _ _
   generalize bothL a b = Z at *
   generalize xorL a b = X at *
   have ha1 := Nat.le_of_eq ha
   have ha2 := Nat.le_of_eq ha.symm
   have hb1 := Nat.le_of_eq hb
   have hb2 := Nat.le_of_eq hb.symm
   clear lX eX
   go_enter Tryz.func206, Tryz.ntmps206
   go_wp2_with (first | ((first | ((with_reducible show qAl); first | ((with_reducible apply wq_new hm); exact rfl; infer_instance)) | ((with_reducible show qBx); first | ((with_reducible apply wq_boxN hm); exact rfl; exact rfl))); clear hm; (first | (have hx_ := g1; clear hx_; (first | (have hx_ := g2; clear hx_; intro gx_) | intro g2)) | intro g1); intro w hm))
   have c1 := fun wx (hwx : Ext _ wx) => C1.out wx wx _ _ ((hm.ext hwx).rdB (g := g1) (l := a) (by repeat (first | exact Has.hd | assumption | apply Has.tl))) ((hm.ext hwx).rdB (g := g2) (l := b) (by repeat (first | exact Has.hd | assumption | apply Has.tl)))
   refine region_at 4 (fun w' => Ext _ w') 14 (by kernel_rfl) (by kernel_rfl) rfl (fun _ _ h k => h.trans k) (drew_ext _) ?_
   simp only [tSC, List.take_zero, dSC, List.drop_zero, List.map_cons, List.map_nil]
   repeat (first
       | (apply walk_some (BytesS X) 12 (BytesS.stable _) rfl rfl rfl rfl
          · (intro wx hwx; go_simp; with_reducible exact gives_callR (c1 wx hwx)))
       | (apply walk_from (T := [(12, BytesS X)]) rfl rfl
          · (intro wx hwx; simp only [withS]; (rintro x ⟨p, c, rfl, hlc, hb'⟩); refine ⟨rfl, ?_⟩; go_simp; with_reducible exact gives_call (C2.out wx p c hb'))
          · (simp only [Act.put, sIB, sCS, sCZ]; rfl))
       | (apply walk_is rfl rfl rfl
          · (intro wx hwx; go_simp; (try go_bits); first | exact gives_same | exact gives_skip)
          · (simp only [Act.put, sIB, sCS, sCZ]; rfl))
       | (apply walk_not rfl rfl rfl
          · (simp only [Act.put, sIB, sCS, sCZ]; rfl)))
   intro wz hwz
   simp only [zCC, zNR]
   repeat (first | rw [fin_is] | (rw [fin_cons]; intro _ _))
   rw [fin_nil]
   try (replace hm := hm.ext hwz)
   simp only [Act.put, sIB, sCS, sCZ]
   clear c1
   go_wp2_with (first | ((((with_reducible show qSt); first | ((with_reducible apply wq_stW hm); exact rfl; infer_instance; exact rfl; exact rfl; (focus (repeat first | exact .hd | assumption | apply Swap.tl); done); (focus (first | rfl | omega | (simp; done) | (simp; omega))); (focus (first | rfl | omega | (simp; done) | (simp; omega))); (focus (first | exact one_map _ | (simp [one8, one32, one64]; done)))))); clear hm; intro w hm))
   refine ret_own hm rfl rfl (by infer_instance) (by repeat (first | exact Has.hd | assumption | apply Has.tl)) (by first | rfl | omega | (simp only [zeros_length, zer_length, tab_length, part_length, setN_length, List.length_map, List.length_cons, List.length_nil, List.length_append, List.length_take, List.length_drop, List.length_replicate, blk_length, putL_length] <;> omega)) rfl ⟨rfl, hm.x⟩
theorem shr_one (n : BitVec 64) (k : Nat) : (n >>> k) >>> 1 = n >>> (k + 1) := by rw [BitVec.shiftRight_add]
theorem and_one (n : BitVec 64) (k : Nat) : ((n >>> k) &&& 1#64 == 1#64) = n.getLsbD k := by
 have h : (n >>> k) &&& 1#64 = if n.getLsbD k = true then 1#64 else 0#64 := by
   apply BitVec.eq_of_getLsbD_eq
   intro i hi
   rw [BitVec.getLsbD_and, BitVec.getLsbD_ushiftRight, BitVec.getLsbD_one]
   rcases Nat.eq_zero_or_pos i with rfl | h0
   · cases h : n.getLsbD k <;> simp [h]
   · have : i ≠ 0 := by omega
     cases h : n.getLsbD k <;> simp [this, BitVec.getLsbD_one]
 rw [h]; cases n.getLsbD k <;> rfl
theorem shr_less (n : BitVec 64) (h : n ≠ 0#64) : (n >>> 1).toNat < n.toNat := by
 have h0 : n.toNat ≠ 0 := fun e => h (BitVec.eq_of_toNat_eq (by simpa using e))
 rw [BitVec.toNat_ushiftRight, Nat.shiftRight_eq_div_pow]; omega
theorem shr_64 (n : BitVec 64) (k : Nat) (h : n >>> k ≠ 0#64) : k < 64 := by
 rcases Nat.lt_or_ge k 64 with h1 | h1
 · exact h1
 · exact absurd (BitVec.ushiftRight_eq_zero h1) h
set_option maxHeartbeats 2000000 in
theorem ring_mul (n : BitVec 64) (a : List Byte) (ha : a.length = 16) (w0 : World) : Gives Tryz.prog 203 #[v64 n, A8 a] w0 (A8 (mulL n a)) := by
 unfold Gives
 have hm := Own.start w0
 have HA := Lib.hid ha
 have ha1 := Nat.le_of_eq ha
 have ha2 := Nat.le_of_eq ha.symm
 clear ha
 go_enter Tryz.func203, Tryz.ntmps203
 go_wp2_with (first | ((first | ((with_reducible show qAl); first | ((with_reducible apply wq_new hm); exact rfl; infer_instance)) | ((with_reducible show qBx); first | ((with_reducible apply wq_boxN hm); exact rfl; exact rfl))); clear hm; (first | (have hx_ := g1; clear hx_; (first | (have hx_ := g2; clear hx_; (first | (have hx_ := g3; clear hx_; intro gx_) | intro g3)) | intro g2)) | intro g1); intro w hm))
 simp only [Act.put, sIB, sCS, sCZ]
 go_loopw [0] (fun v wr => ∃ k : Nat, k ≤ 64 ∧ v = v64 (n >>> k) ∧ Own w0 wr [⟨g3, 94, (msum n.getLsbD a k).map v8⟩, ⟨g2, 94, (zer 16).map v8⟩, ⟨g1, 94, (dblN a k).map v8⟩]) (fun v _ => (intOf v).toNat)
 case atStart => exact ⟨0, by omega, by simp, hm⟩
 case round =>
   obtain ⟨k, hk, rfl, hm⟩ := hrel
   by_cases h0 : n >>> k = 0#64
   · have E := Lib.hid (mul_end n a k hk h0)
     rw [E.out] at hm
     rw [h0]
     have l1 : (mulL n a).length = 16 := mulL_length _ _
     clear h0
     go_wp2_with (first | ((with_reducible show qLd); first | ((with_reducible apply wq_ldW hm); exact rfl; infer_instance; exact rfl; (focus (repeat first | exact .hd | assumption | apply Has.tl); done); (focus (first | rfl | omega | (simp; done) | (simp; omega))))) | ((((with_reducible show qSt); first | ((with_reducible apply wq_stW hm); exact rfl; infer_instance; exact rfl; exact rfl; (focus (repeat first | exact .hd | assumption | apply Swap.tl); done); (focus (first | rfl | omega | (simp; done) | (simp; omega))); (focus (first | rfl | omega | (simp; done) | (simp; omega))); (focus (first | exact one_map _ | (simp [one8, one32, one64]; done)))))); clear hm; intro w hm))
     refine ret_own hm rfl rfl (by infer_instance) (by repeat (first | exact Has.hd | assumption | apply Has.tl)) (by first | rfl | omega | (simp only [zeros_length, zer_length, tab_length, part_length, setN_length, List.length_map, List.length_cons, List.length_nil, List.length_append, List.length_take, List.length_drop, List.length_replicate, blk_length, putL_length] <;> omega)) rfl ⟨rfl, hm.x⟩
   · have hk1 := shr_64 n k h0
     have HL := Lib.hid (shr_less (n >>> k) h0)
     have hn0 : (n >>> k).toNat ≠ 0 := fun e => h0 (BitVec.eq_of_toNat_eq (by simpa using e))
     have hp : 0 < (n >>> k).toNat := by omega
     have hp1 : (0 : Int) < ((n >>> k).toNat : Int) := by omega
     have hp2 : decide ((0 : Int) < ((n >>> k).toNat : Int)) = true := decide_eq_true hp1
     have hp3 : decide (((n >>> k).toNat : Int) > 0) = true := decide_eq_true hp1
     have EA := Lib.hid (and_one n k)
     have ES := Lib.hid (show msum n.getLsbD a (k + 1) = if n.getLsbD k = true then bothL (msum n.getLsbD a k) (dblN a k) else msum n.getLsbD a k from rfl)
     have ER := Lib.hid (shr_one n k)
     have l1 := msum_length n.getLsbD a k
     have l2 := dblN_length a HA.out k
     have l3 := msum_length n.getLsbD a (k + 1)
     have l4 := dblN_length a HA.out (k + 1)
     have cs := fun wx => ring_sum (msum n.getLsbD a k) (dblN a k) (n.getLsbD k) l1 l2 wx
     rw [← ES.out, ← EA.out] at cs
     have CS := Lib.hid cs
     have CD : Hid (∀ wx, Gives Tryz.prog 207 #[A8 (dblN a k)] wx (A8 (dblN a (k + 1)))) := Lib.hid fun wx => ring_double (dblN a k) l2 wx
     clear cs
     generalize msum n.getLsbD a k = B at *
     generalize dblN a k = A at *
     generalize hB2 : msum n.getLsbD a (k + 1) = B2 at *
     generalize hA2 : dblN a (k + 1) = A2 at *
     have HB2 := Lib.hid hB2
     have HA2 := Lib.hid hA2
     clear hB2 hA2
     generalize hX : n >>> k = X at *
     clear h0 hn0
     go_wp2_with (first | (go_at_call 206; (with_reducible refine (CS.out _).mono ?_); rintro e_ w ⟨rfl, hx_⟩; replace hm := hm.ext hx_; clear hx_) | (go_at_call 207; (with_reducible refine (CD.out _).mono ?_); rintro e_ w ⟨rfl, hx_⟩; replace hm := hm.ext hx_; clear hx_) | ((with_reducible show qLd); first | ((with_reducible apply wq_ldW hm); exact rfl; infer_instance; exact rfl; (focus (repeat first | exact .hd | assumption | apply Has.tl); done); (focus (first | rfl | omega | (simp; done) | (simp; omega))))) | ((((with_reducible show qSt); first | ((with_reducible apply wq_stW hm); exact rfl; infer_instance; exact rfl; exact rfl; (focus (repeat first | exact .hd | assumption | apply Swap.tl); done); (focus (first | rfl | omega | (simp; done) | (simp; omega))); (focus (first | rfl | omega | (simp; done) | (simp; omega))); (focus (first | exact one_map _ | (simp [one8, one32, one64]; done)))))); clear hm; intro w hm))
     go_roundw
     case rel => exact ⟨k + 1, by omega, by rw [ER.out], by rw [HB2.out, HA2.out]; exact hm⟩
     case measure =>
       show (((X >>> 1).toNat : Int)).toNat < ((X.toNat : Int)).toNat
       rw [Int.toNat_natCast, Int.toNat_natCast]; exact HL.out
theorem and_one8 : ∀ (x : Byte) (r : Fin 8), ((x >>> r.val) &&& 1#8 == 1#8) = x.getLsbD r.val := by decide +kernel
theorem bit_at (b : List Byte) (k q r : Nat) (hq : k / 8 = q) (hr : k % 8 = r) : ((nth b (15 - q) >>> r) &&& 1#8 == 1#8) = bitA b k := by
 subst hq hr
 exact and_one8 _ ⟨k % 8, Nat.mod_lt _ (by omega)⟩
set_option maxHeartbeats 2000000 in
theorem ring_prod (a b : List Byte) (ha : a.length = 16) (hb : b.length = 16) (w0 : World) : Gives Tryz.prog 208 #[A8 a, A8 b] w0 (A8 (prodL a b)) := by
 unfold Gives
 have hm := Own.start w0
 have HA := Lib.hid ha
 have ha1 := Nat.le_of_eq ha
 have ha2 := Nat.le_of_eq ha.symm
 have hb1 := Nat.le_of_eq hb
 have hb2 := Nat.le_of_eq hb.symm
 clear ha hb
 go_enter Tryz.func208, Tryz.ntmps208
 go_wp2_with (first | ((first | ((with_reducible show qAl); first | ((with_reducible apply wq_new hm); exact rfl; infer_instance)) | ((with_reducible show qBx); first | ((with_reducible apply wq_boxN hm); exact rfl; exact rfl))); clear hm; (first | (have hx_ := g1; clear hx_; (first | (have hx_ := g2; clear hx_; (first | (have hx_ := g3; clear hx_; (first | (have hx_ := g4; clear hx_; intro gx_) | intro g4)) | intro g3)) | intro g2)) | intro g1); intro w hm))
 go_loopw [7] (fun i wr => ∃ k : Nat, k ≤ 128 ∧ i = .int .i64 k ∧ Own w0 wr [⟨g4, 94, (msum (bitA b) a k).map v8⟩, ⟨g3, 94, (zer 16).map v8⟩, ⟨g2, 94, b.map v8⟩, ⟨g1, 94, (dblN a k).map v8⟩]) (fun i _ => 128 - (intOf i).toNat)
 case atStart => exact ⟨0, by omega, rfl, hm⟩
 case round =>
   obtain ⟨k, hk, rfl, hm⟩ := hrel
   by_cases hlt : k < 128
   · have hd : decide ((k : Int) < 128) = true := decide_eq_true (by omega)
     obtain ⟨q, hq, hq4⟩ : ∃ q : Nat, k / 8 = q ∧ q < 16 := ⟨_, rfl, by omega⟩
     obtain ⟨r, hr, hr4⟩ : ∃ r : Nat, k % 8 = r ∧ r < 8 := ⟨_, rfl, Nat.mod_lt _ (by omega)⟩
     have a1 : (k : Int) % 8 = (r : Int) := by omega
     have a2 : (k : Int).tmod 8 = (r : Int) := by rw [Int.tmod_eq_emod_of_nonneg (by omega)]; exact a1
     have a3 : (k : Int) / 8 = (q : Int) := by omega
     have a4 : (k : Int).tdiv 8 = (q : Int) := by rw [Int.tdiv_eq_ediv_of_nonneg (by omega)]; exact a3
     have a5 : (15 : Int) - (q : Int) < 16 := by omega
     have a6 : 0 ≤ (15 : Int) - (q : Int) := by omega
     have a7 : ((15 : Int) - (q : Int)).toNat = 15 - q := by omega
     have a8 : (q : Int) ≤ 15 := by omega
     have EA := bit_at b k q r hq hr
     have ES : msum (bitA b) a (k + 1) = if bitA b k = true then bothL (msum (bitA b) a k) (dblN a k) else msum (bitA b) a k := rfl
     have l1 := msum_length (bitA b) a k
     have l2 := dblN_length a HA.out k
     have l3 := msum_length (bitA b) a (k + 1)
     have l4 := dblN_length a HA.out (k + 1)
     have cs := fun wx => ring_sum (msum (bitA b) a k) (dblN a k) (bitA b k) l1 l2 wx
     rw [← ES, ← EA] at cs
     have CS := Lib.hid cs
     have CD : Hid (∀ wx, Gives Tryz.prog 207 #[A8 (dblN a k)] wx (A8 (dblN a (k + 1)))) := Lib.hid fun wx => ring_double (dblN a k) l2 wx
     clear cs ES EA hq hr
     generalize msum (bitA b) a k = B at *
     generalize dblN a k = A at *
     generalize hB2 : msum (bitA b) a (k + 1) = B2 at *
     generalize hA2 : dblN a (k + 1) = A2 at *
     have HB2 := Lib.hid hB2
     have HA2 := Lib.hid hA2
     clear hB2 hA2
     go_wp2_with fail
     refine region_at 13 (fun w' => Ext _ w') 27 (by kernel_rfl) (by kernel_rfl) rfl (fun _ _ h k => h.trans k) (drew_ext _) ?_
     simp only [tSC, List.take_zero, dSC, List.drop_zero, List.map_cons, List.map_nil]
     repeat (first
         | (apply walk_is rfl rfl rfl
            · (intro wx hwx; first | ((with_reducible show gives _ _ _ (Sem.run _ (execOp _ (Oper.mk _ (Op.load _ _) _ _ _ _)) _)); first | ((with_reducible apply gq_ldv (hm.ext hwx)); infer_instance; exact rfl; (focus (repeat first | exact .hd | assumption | apply Has.tl); done); (focus (first | omega | (simp; omega) | (refine ltB ?_; first | omega | (simp; done) | (simp; omega))))) | ((with_reducible apply gq_ldW (hm.ext hwx)); infer_instance; exact rfl; (focus (repeat first | exact .hd | assumption | apply Has.tl); done); (focus (first | rfl | omega | (simp; done) | (simp; omega))))) | (go_simp; (try go_bits); first | exact gives_same | exact gives_skip | with_reducible exact gives_call (CS.out wx)))
            · (simp only [Act.put, sIB, sCS, sCZ]; rfl))
         | (apply walk_not rfl rfl rfl
            · (simp only [Act.put, sIB, sCS, sCZ]; rfl)))
     intro wz hwz
     simp only [zCC, zNR]
     repeat (first | rw [fin_is] | (rw [fin_cons]; intro _ _))
     rw [fin_nil]
     try (replace hm := hm.ext hwz)
     simp only [Act.put, sIB, sCS, sCZ]
     go_wp2_with (first | (go_at_call 207; (with_reducible refine (CD.out _).mono ?_); rintro e_ w ⟨rfl, hx_⟩; replace hm := hm.ext hx_; clear hx_) | ((with_reducible show qLd); first | ((with_reducible apply wq_ldW hm); exact rfl; infer_instance; exact rfl; (focus (repeat first | exact .hd | assumption | apply Has.tl); done); (focus (first | rfl | omega | (simp; done) | (simp; omega))))) | ((((with_reducible show qSt); first | ((with_reducible apply wq_stW hm); exact rfl; infer_instance; exact rfl; exact rfl; (focus (repeat first | exact .hd | assumption | apply Swap.tl); done); (focus (first | rfl | omega | (simp; done) | (simp; omega))); (focus (first | rfl | omega | (simp; done) | (simp; omega))); (focus (first | exact one_map _ | (simp [one8, one32, one64]; done)))))); clear hm; intro w hm))
     go_roundw
     case rel => exact ⟨k + 1, by omega, by go_num, by rw [HB2.out, HA2.out]; exact hm⟩
     case measure => simp [intOf] <;> omega
   · obtain rfl : k = 128 := by omega
     have hd : decide (((128 : Nat) : Int) < 128) = false := decide_eq_false (by omega)
     rw [show msum (bitA b) a 128 = prodL a b from rfl] at hm
     have l1 := prodL_length a b
     go_wp2_with (first | ((with_reducible show qLd); first | ((with_reducible apply wq_ldW hm); exact rfl; infer_instance; exact rfl; (focus (repeat first | exact .hd | assumption | apply Has.tl); done); (focus (first | rfl | omega | (simp; done) | (simp; omega))))) | ((((with_reducible show qSt); first | ((with_reducible apply wq_stW hm); exact rfl; infer_instance; exact rfl; exact rfl; (focus (repeat first | exact .hd | assumption | apply Swap.tl); done); (focus (first | rfl | omega | (simp; done) | (simp; omega))); (focus (first | rfl | omega | (simp; done) | (simp; omega))); (focus (first | exact one_map _ | (simp [one8, one32, one64]; done)))))); clear hm; intro w hm))
     refine ret_own hm rfl rfl (by infer_instance) (by repeat (first | exact Has.hd | assumption | apply Has.tl)) (by first | rfl | omega | (simp only [zeros_length, zer_length, tab_length, part_length, setN_length, List.length_map, List.length_cons, List.length_nil, List.length_append, List.length_take, List.length_drop, List.length_replicate, blk_length, putL_length] <;> omega)) rfl ⟨rfl, hm.x⟩
def byL : List Byte := [0#8, 0#8, 0#8, 0#8, 0#8, 0#8, 0#8, 0#8, 0#8, 0#8, 0#8, 0#8, 0#8, 0#8, 0#8, 135#8]
theorem byL_top : byL = dblN oneL 128 := by
 rw [one_128]
 refine bits_ext rfl topL_length fun i hi => ?_
 rw [topL, bit_msum _ 128 (Nat.le_refl _) i hi, decide_eq_true hi, Bool.true_and]
 have h : ∀ i : Fin 128, bitA byL i.val = spec i.val := by decide +kernel
 exact h ⟨i, hi⟩
theorem build_by (w : World) : (Instr.build 94 #[(15, .int .u8 135)]).run Tryz.prog w = .ok (A8 byL) w := by kernel_rfl
theorem pow_step (q j : Nat) : q % 2 ^ (j + 1) = if (q / 2 ^ j) % 2 = 1 then q % 2 ^ j + 2 ^ j else q % 2 ^ j := by
 rw [Nat.pow_succ, Nat.mod_mul]
 split
 · next h => rw [h]; omega
 · next h =>
   have : q / 2 ^ j % 2 = 0 := by omega
   rw [this]; omega
def RzF (a : List Byte) (r q N : Nat) (A B : List Byte) : Prop := ∃ j, N = q / 2 ^ j ∧ A = dblN a (r + 128 * (q % 2 ^ j)) ∧ B = dblN oneL (128 * 2 ^ j)
section
variable {a : List Byte} {r q N : Nat} {A B : List Byte}
theorem RzF.start (a : List Byte) (r q : Nat) : RzF a r q q (dblN a r) byL := ⟨0, by simp, by simp [Nat.mod_one], by rw [byL_top]⟩
theorem RzF.lenA (h : RzF a r q N A B) (ha : a.length = 16) : A.length = 16 := by obtain ⟨j, _, rfl, _⟩ := h; exact dblN_length a ha _
theorem RzF.lenB (h : RzF a r q N A B) : B.length = 16 := by obtain ⟨j, _, _, rfl⟩ := h; exact dblN_length oneL oneL_length _
theorem RzF.done (h : RzF a r q 0 A B) : A = dblN a (r + 128 * q) := by
 obtain ⟨j, h0, rfl, _⟩ := h
 have := Nat.div_add_mod q (2 ^ j)
 rw [← h0, Nat.mul_zero, Nat.zero_add] at this
 rw [this]
theorem RzF.sq (h : RzF a r q N A B) : ∃ j, N = q / 2 ^ j ∧ A = dblN a (r + 128 * (q % 2 ^ j)) ∧ B = dblN oneL (128 * 2 ^ j) ∧ prodL B B = dblN oneL (128 * 2 ^ (j + 1)) ∧ N / 2 = q / 2 ^ (j + 1) := by
 obtain ⟨j, rfl, rfl, rfl⟩ := h
 refine ⟨j, rfl, rfl, rfl, ?_, ?_⟩
 · rw [prod_pow _ (dblN_length oneL oneL_length _), ← dblN_add, Nat.pow_succ]; congr 1; omega
 · rw [Nat.pow_succ, Nat.div_div_eq_div_mul]
theorem RzF.odd (h : RzF a r q N A B) (ha : a.length = 16) (h1 : N % 2 = 1) : RzF a r q (N / 2) (prodL A B) (prodL B B) := by
 have lA := h.lenA ha
 obtain ⟨j, rfl, hA, hB, e1, e2⟩ := h.sq
 refine ⟨j + 1, e2, ?_, e1⟩
 rw [hB, prod_pow _ lA, hA, ← dblN_add, pow_step, if_pos h1]; congr 1; omega
theorem RzF.even (h : RzF a r q N A B) (h1 : ¬ N % 2 = 1) : RzF a r q (N / 2) A (prodL B B) := by
 obtain ⟨j, rfl, hA, hB, e1, e2⟩ := h.sq
 refine ⟨j + 1, e2, ?_, e1⟩
 rw [hA, pow_step, if_neg h1]
theorem RzF.le (h : RzF a r q N A B) : N ≤ q := by obtain ⟨j, rfl, _⟩ := h; exact Nat.div_le_self _ _
end
set_option maxHeartbeats 4000000 in
theorem ring_raised (n : Nat) (a : List Byte) (ha : a.length = 16) (hn : n ≤ 9223372036854775807) (w0 : World) : Gives Tryz.prog 205 #[.int .i64 n, A8 a] w0 (A8 (dblN a n)) := by
 unfold Gives
 have hm := Own.start w0
 have HA := Lib.hid ha
 have ha1 := Nat.le_of_eq ha
 have ha2 := Nat.le_of_eq ha.symm
 clear ha
 have n0 : decide ((n : Int) < 0) = false := decide_eq_false (by omega)
 have n1 : ¬ (n : Int) < 0 := by omega
 obtain ⟨r, hr, hr8⟩ : ∃ r : Nat, n % 128 = r ∧ r < 128 := ⟨_, rfl, Nat.mod_lt _ (by omega)⟩
 obtain ⟨q, hq, hq8⟩ : ∃ q : Nat, n / 128 = q ∧ q ≤ 72057594037927935 := ⟨_, rfl, by omega⟩
 have a1 : (n : Int) % 128 = (r : Int) := by omega
 have a2 : (n : Int).tmod 128 = (r : Int) := by rw [Int.tmod_eq_emod_of_nonneg (by omega)]; exact a1
 have a3 : (n : Int) / 128 = (q : Int) := by omega
 have a4 : (n : Int).tdiv 128 = (q : Int) := by rw [Int.tdiv_eq_ediv_of_nonneg (by omega)]; exact a3
 have hnq : n = r + 128 * q := by omega
 have HN := Lib.hid hnq
 clear hr hq hnq
 go_enter Tryz.func205, Tryz.ntmps205
 go_wp2_with (first | ((first | ((with_reducible show qAl); first | ((with_reducible apply wq_new hm); exact rfl; infer_instance)) | ((with_reducible show qBx); first | ((with_reducible apply wq_boxN hm); exact rfl; exact rfl))); clear hm; (first | (have hx_ := g1; clear hx_; (first | (have hx_ := g2; clear hx_; intro gx_) | intro g2)) | intro g1); intro w hm))
 refine wp_scope_goto 0 (fun a_ w_ => ∃ (N : Nat) (gq : Nat) (A B : List Byte) (u1 u2 u6 u7 u8 u9 u10 u11 u12 u13 u14 u15 u16 u17 u18 u19 u20 u21 u22 u23 u24 u25 u26 u27 u28 u29 u30 u31 u32 : Value), a_ = { tmps := #[(.int .i64 (N : Int)), u1, u2, (.pointer (some ⟨g1, 0, none⟩)), (.pointer (some ⟨g2, 0, none⟩)), (.pointer (some ⟨gq, 0, none⟩)), u6, u7, u8, u9, u10, u11, u12, u13, u14, u15, u16, u17, u18, u19, u20, u21, u22, u23, u24, u25, u26, u27, u28, u29, u30, u31, u32], defers := [] } ∧ RzF a r q N A B ∧ Own w0 w_ [⟨gq, 94, B.map v8⟩, ⟨g2, 94, (zer 16).map v8⟩, ⟨g1, 94, A.map v8⟩]) (fun a_ _ => (intOf (a_.tmps.getD 0 undef)).toNat) rfl ?_ ?_
 · clear hm
   rintro a' w ⟨N, gq, A, B, u1, u2, u6, u7, u8, u9, u10, u11, u12, u13, u14, u15, u16, u17, u18, u19, u20, u21, u22, u23, u24, u25, u26, u27, u28, u29, u30, u31, u32, rfl, ⟨hf, hm⟩⟩
   have HF := Lib.hid hf
   have lA := hf.lenA HA.out
   have lB := hf.lenB
   have hNq := hf.le
   clear hf
   cases N with
   | zero =>
     have e := HF.out.done
     rw [← HN.out] at e
     subst e
     go_wp2_with (first | ((with_reducible show qLd); first | ((with_reducible apply wq_ldW hm); exact rfl; infer_instance; exact rfl; (focus (repeat first | exact .hd | assumption | apply Has.tl); done); (focus (first | rfl | omega | (simp; done) | (simp; omega))))) | ((((with_reducible show qSt); first | ((with_reducible apply wq_stW hm); exact rfl; infer_instance; exact rfl; exact rfl; (focus (repeat first | exact .hd | assumption | apply Swap.tl); done); (focus (first | rfl | omega | (simp; done) | (simp; omega))); (focus (first | rfl | omega | (simp; done) | (simp; omega))); (focus (first | exact one_map _ | (simp [one8, one32, one64]; done)))))); clear hm; intro w hm))
     simp only [Exit.jump]
     refine ret_own hm rfl rfl (by infer_instance) (by repeat (first | exact Has.hd | assumption | apply Has.tl)) (by first | rfl | omega | (simp only [zeros_length, zer_length, tab_length, part_length, setN_length, List.length_map, List.length_cons, List.length_nil, List.length_append, List.length_take, List.length_drop, List.length_replicate, blk_length, putL_length] <;> omega)) rfl ⟨rfl, hm.x⟩
   | succ N =>
     have hne : (((N + 1 : Nat) : Int) == 0) = false := by simp; omega
     generalize hN : N + 1 = N' at *
     have HL : Hid (N' / 2 < N') := Lib.hid (by omega)
     have hNm : N' ≤ 9223372036854775807 := by omega
     have CB := Lib.hid fun wx => ring_prod B B lB lB wx
     have lB2 := prodL_length B B
     clear hN
     by_cases hodd : N' % 2 = 1
     · have HR := Lib.hid (HF.out.odd HA.out hodd)
       have hbits : bits .and .i64 (N' : Int) 1 = 1 := by rw [bits_and1, hodd]; rfl
       have CA := Lib.hid fun wx => ring_prod A B lA lB wx
       have lA2 := prodL_length A B
       generalize prodL A B = A2 at *
       generalize prodL B B = B2 at *
       clear hodd
       go_wp2_with (first | (go_at_call 208; (with_reducible refine (CA.out _).mono ?_); clear CA; rintro e_ w ⟨rfl, hx_⟩; replace hm := hm.ext hx_; clear hx_) | (go_at_call 208; (with_reducible refine (CB.out _).mono ?_); rintro e_ w ⟨rfl, hx_⟩; replace hm := hm.ext hx_; clear hx_) | ((with_reducible show qLd); first | ((with_reducible apply wq_ldW hm); exact rfl; infer_instance; exact rfl; (focus (repeat first | exact .hd | assumption | apply Has.tl); done); (focus (first | rfl | omega | (simp; done) | (simp; omega))))) | ((((with_reducible show qSt); first | ((with_reducible apply wq_stW hm); exact rfl; infer_instance; exact rfl; exact rfl; (focus (repeat first | exact .hd | assumption | apply Swap.tl); done); (focus (first | rfl | omega | (simp; done) | (simp; omega))); (focus (first | rfl | omega | (simp; done) | (simp; omega))); (focus (first | exact one_map _ | (simp [one8, one32, one64]; done)))))); clear hm; intro w hm))
       go_step3
       exact ⟨rfl, ⟨_, _, _, _, _, _, _, _, _, _, _, _, _, _, _, _, _, _, _, _, _, _, _, _, _, _, _, _, _, _, _, _, _, rfl, ⟨HR.out, hm⟩⟩, by have hq := HL.out; first | (simpa [intOf] using hq) | (simp [intOf]; omega)⟩
     · have HR := Lib.hid (HF.out.even hodd)
       have hev : N' % 2 = 0 := by omega
       have hbits : bits .and .i64 (N' : Int) 1 = 0 := by rw [bits_and1, hev]; rfl
       generalize prodL B B = B2 at *
       clear hodd
       go_wp2_with (first | (go_at_call 208; (with_reducible refine (CB.out _).mono ?_); rintro e_ w ⟨rfl, hx_⟩; replace hm := hm.ext hx_; clear hx_) | ((with_reducible show qLd); first | ((with_reducible apply wq_ldW hm); exact rfl; infer_instance; exact rfl; (focus (repeat first | exact .hd | assumption | apply Has.tl); done); (focus (first | rfl | omega | (simp; done) | (simp; omega))))) | ((((with_reducible show qSt); first | ((with_reducible apply wq_stW hm); exact rfl; infer_instance; exact rfl; exact rfl; (focus (repeat first | exact .hd | assumption | apply Swap.tl); done); (focus (first | rfl | omega | (simp; done) | (simp; omega))); (focus (first | rfl | omega | (simp; done) | (simp; omega))); (focus (first | exact one_map _ | (simp [one8, one32, one64]; done)))))); clear hm; intro w hm))
       go_step3
       exact ⟨rfl, ⟨_, _, _, _, _, _, _, _, _, _, _, _, _, _, _, _, _, _, _, _, _, _, _, _, _, _, _, _, _, _, _, _, _, rfl, ⟨HR.out, hm⟩⟩, by have hq := HL.out; first | (simpa [intOf] using hq) | (simp [intOf]; omega)⟩
 · intro hp
   go_wp2_with fail
   go_loopw [11] (fun i wr => ∃ k : Nat, k ≤ r ∧ i = .int .i64 k ∧ Own w0 wr [⟨g2, 94, (zer 16).map v8⟩, ⟨g1, 94, (dblN a k).map v8⟩]) (fun i _ => r - (intOf i).toNat)
   case atStart => exact ⟨0, by omega, rfl, hm⟩
   case round =>
     obtain ⟨k, hk, rfl, hm⟩ := hrel
     by_cases hlt : k < r
     · have hd : decide ((k : Int) < (r : Int)) = true := decide_eq_true (by omega)
       have l2 := dblN_length a HA.out k
       have l4 := dblN_length a HA.out (k + 1)
       have CD : Hid (∀ wx, Gives Tryz.prog 207 #[A8 (dblN a k)] wx (A8 (dblN a (k + 1)))) := Lib.hid fun wx => ring_double (dblN a k) l2 wx
       generalize dblN a k = A at *
       generalize hA2 : dblN a (k + 1) = A2 at *
       have HA2 := Lib.hid hA2
       clear hA2
       go_wp2_with (first | (go_at_call 207; (with_reducible refine (CD.out _).mono ?_); rintro e_ w ⟨rfl, hx_⟩; replace hm := hm.ext hx_; clear hx_) | ((with_reducible show qLd); first | ((with_reducible apply wq_ldW hm); exact rfl; infer_instance; exact rfl; (focus (repeat first | exact .hd | assumption | apply Has.tl); done); (focus (first | rfl | omega | (simp; done) | (simp; omega))))) | ((((with_reducible show qSt); first | ((with_reducible apply wq_stW hm); exact rfl; infer_instance; exact rfl; exact rfl; (focus (repeat first | exact .hd | assumption | apply Swap.tl); done); (focus (first | rfl | omega | (simp; done) | (simp; omega))); (focus (first | rfl | omega | (simp; done) | (simp; omega))); (focus (first | exact one_map _ | (simp [one8, one32, one64]; done)))))); clear hm; intro w hm))
       go_roundw
       case rel => exact ⟨k + 1, by omega, by go_num, by rw [HA2.out]; exact hm⟩
       case measure => simp [intOf] <;> omega
     · obtain rfl : k = r := by omega
       have hd : decide ((k : Int) < (k : Int)) = false := decide_eq_false (by omega)
       have RS := Lib.hid (RzF.start a k q)
       have lK := dblN_length a HA.out k
       have lY : byL.length = 16 := rfl
       have BY := Lib.hid build_by
       generalize byL = Y at *
       generalize dblN a k = D0 at *
       go_wp2_with (first | ((with_reducible apply wq_build1 BY.out); exact rfl; exact rfl) | ((((with_reducible show qSt); first | ((with_reducible apply wq_stW hm); exact rfl; infer_instance; exact rfl; exact rfl; (focus (repeat first | exact .hd | assumption | apply Swap.tl); done); (focus (first | rfl | omega | (simp; done) | (simp; omega))); (focus (first | rfl | omega | (simp; done) | (simp; omega))); (focus (first | exact one_map _ | (simp [one8, one32, one64]; done)))))); clear hm; intro w hm) | ((first | ((with_reducible show qAl); first | ((with_reducible apply wq_new hm); exact rfl; infer_instance))); clear hm; (first | (have hx_ := g1; clear hx_; (first | (have hx_ := g2; clear hx_; intro gx_) | intro g2)) | intro g1); intro w hm))
       go_step3
       rename_i hK
       exact hK _ _ (hp _ _ ⟨_, _, _, _, _, _, _, _, _, _, _, _, _, _, _, _, _, _, _, _, _, _, _, _, _, _, _, _, _, _, _, _, _, rfl, ⟨RS.out, hm⟩⟩)
theorem double_any (a : Byte) (w : World) : Calls Tryz.prog 31 #[v8 a] w fun e w' => e = .returned (v8 (dbl a)) ∧ w = w' := by
 go_enter Tryz.func31, Tryz.ntmps31
 go_wp2
 go_ret
 exact ⟨rfl, rfl⟩
theorem shr_lt (b : Byte) (h : b ≠ 0#8) : (b >>> 1).toNat < b.toNat := by
 have : b.toNat ≠ 0 := fun e => h (BitVec.eq_of_toNat_eq e)
 simp only [BitVec.toNat_ushiftRight, Nat.shiftRight_eq_div_pow]; omega
theorem shr_fit (b : Byte) (n : Nat) (h : b.toNat < 2 ^ (n + 1)) : (b >>> 1).toNat < 2 ^ n := by
 simp only [BitVec.toNat_ushiftRight, Nat.shiftRight_eq_div_pow]; rw [Nat.pow_succ] at h; omega
set_option maxHeartbeats 1000000 in
theorem times_any (a0 b0 : Byte) (w : World) : Calls Tryz.prog 39 #[v8 a0, v8 b0] w fun e w' => e = .returned (v8 (tms a0 b0)) ∧ w = w' := by
 have h0 := tmsF_tms a0 b0
 have hb0 : b0.toNat < 2 ^ 8 := b0.isLt
 generalize tms a0 b0 = R at *
 have H0 := Lib.hid h0
 have Hb0 := Lib.hid hb0
 clear h0 hb0
 go_enter Tryz.func39, Tryz.ntmps39
 go_wp2
 refine wp_scope_goto 0 (fun a_ w_ => ∃ (a b s : Byte) (n : Nat) (u2 u3 u6 u7 u8 u9 u10 u11 u12 u13 u14 u15 u16 u17 u18 : Value), a_ = { tmps := #[v8 a, v8 b, u2, u3, (.int .u8 0), v8 s, u6, u7, u8, u9, u10, u11, u12, u13, u14, u15, u16, u17, u18], defers := [] } ∧ b.toNat < 2 ^ n ∧ tmsF n a b s = R ∧ w = w_) (fun a_ _ => (intOf (a_.tmps.getD 1 undef)).toNat) rfl ?_ ?_
 · rintro a' w' ⟨a, b, s, n, u2, u3, u6, u7, u8, u9, u10, u11, u12, u13, u14, u15, u16, u17, u18, rfl, ⟨hn, hR, rfl⟩⟩
   have Hn := Lib.hid hn
   have HR := Lib.hid hR
   clear hn hR
   by_cases hb : b = 0#8
   · subst hb
     have hr := HR.out
     rw [tmsF_end] at hr
     have Hr := Lib.hid hr
     clear hr
     go_wp2
     simp only [Exit.jump]
     go_ret
     exact ⟨by rw [Hr.out]; rfl, rfl⟩
   · have hb2 : (b == 0#8) = false := by simpa using hb
     have hlt := shr_lt b hb
     have Hlt := Lib.hid hlt
     have Hb := Lib.hid hb
     clear hb hlt
     go_wp2_with (go_at_call 31; (with_reducible refine (double_any _ _).mono ?_); rintro e w' ⟨rfl, rfl⟩)
     go_step3
     cases n with
     | zero => exact absurd Hn.out (by have := Hb.out; intro h; exact this (BitVec.eq_of_toNat_eq (by simp at h ⊢; omega)))
     | succ n => exact ⟨rfl, ⟨_, _, _, _, _, _, _, _, _, _, _, _, _, _, _, _, _, _, _, rfl, ⟨shr_fit b n Hn.out, HR.out, rfl⟩⟩, Hlt.out⟩
 · intro hp
   go_wp2
   go_step3
   rename_i hK
   exact hK _ _ (hp _ _ ⟨_, _, _, _, _, _, _, _, _, _, _, _, _, _, _, _, _, _, _, rfl, ⟨Hb0.out, H0.out, rfl⟩⟩)
theorem rotl_any (x : Byte) (k : Nat) (w : World) (hk : k < 8) : Calls Tryz.prog 40 #[v8 x, .int .i64 k] w fun e w' => e = .returned (v8 (rotl8 x k)) ∧ w = w' := by
 have hb : bits .and .u64 (k : Int) 7 = k := by
   have : ∀ k : Nat, k < 8 → bits .and .u64 (k : Int) 7 = k := by decide
   exact this k hk
 have h8 : ((8 : Int) - (k : Int)).toNat = 8 - k := by omega
 go_enter Tryz.func40, Tryz.ntmps40
 go_wp2
 go_ret
 exact ⟨rfl, rfl⟩
set_option maxHeartbeats 1000000 in
theorem box_any (i : Byte) (w : World) : Calls Tryz.prog 33 #[v8 i] w fun e w' => e = .returned (v8 (boxF i 5)) ∧ w = w' := by
 go_enter Tryz.func33, Tryz.ntmps33
 go_wp2
 go_loop [3, 5] (fun o k => ∃ n : Nat, n ≤ 5 ∧ k = .int .i64 n ∧ o = v8 (boxF i n)) (fun _ k => 5 - (intOf k).toNat)
 case atStart => exact ⟨0, by omega, rfl, rfl⟩
 case round =>
   obtain ⟨n, hn, rfl, rfl⟩ := hrel
   by_cases hlt : n < 5
   · go_wp2_with (go_at_call 40; (with_reducible refine (rotl_any _ n _ (by omega)).mono ?_); rintro e w' ⟨rfl, rfl⟩)
     go_round
     case rel => exact ⟨n + 1, by omega, by go_num, rfl⟩
     case measure => simp [intOf] <;> omega
   · obtain rfl : n = 5 := by omega
     go_wp2
     go_ret
     exact ⟨rfl, rfl⟩
set_option maxHeartbeats 1000000 in
theorem bput_any (g : Nat) (t : TypeId) (l : List Byte) (hl : l.length = 512) (a b : Byte) (w0 w : World) (L L' : List Blk) (hm : Own w0 w L) (hs : Swap L ⟨g, t, l.map v8⟩ ⟨g, t, (putT l a b).map v8⟩ L') :
   Calls Tryz.prog 32 #[.pointer (some ⟨g, 0, none⟩), v8 a, v8 b] w fun e w' => e = .returned (.tuple #[]) ∧ Own w0 w' L' := by
 obtain ⟨M, h1, h2⟩ := hs.split ⟨g, t, (setN l a.toNat b).map v8⟩
 have o1 := hm.turn8 h1
 have o2 := o1.turn8 h2
 have ha : a.toNat < 256 := a.isLt
 have hb : b.toNat < 256 := b.isLt
 have ha2 : (a.toNat : Int) < 256 := by omega
 have hb2 : (b.toNat : Int) < 256 := by omega
 have r0 := hm.row h1.has
 have hc1 := row_v8 r0 a.toNat (by omega)
 have hc2 := row_v8 r0 (256 + b.toNat) (by omega)
 have hf1 := row_free r0 a.toNat
 have hf2 := row_free r0 (256 + b.toNat)
 have hne : ¬ a.toNat = 256 + b.toNat := by omega
 have O2 := Lib.hid o2
 clear o1 o2 h1 h2 hs hm r0 hl
 go_enter Tryz.func32, Tryz.ntmps32
 go_wp2
 go_region
 all_goals
   go_wp2
   go_end0
   exact ⟨rfl, O2.out.drew⟩
def BoxesS : Slot := fun v w => ∃ g, v = .pointer (some ⟨g, 0, none⟩) ∧ Row w g 80 (tabs.map v8)
theorem BoxesS.stable : Stable BoxesS := fun _ _ _ ⟨g, h1, h2⟩ hx => ⟨g, h1, row_ext h2 hx⟩
theorem build_boxes (w : World) : (Instr.build 80 #[]).run Tryz.prog w = .ok (.agg ((zer (n := 8) 512).map v8).toArray) w := by kernel_rfl
theorem box_anyG (i : Byte) (w : World) : Gives Tryz.prog 33 #[v8 i] w (v8 (boxF i 5)) := .of_same (box_any i w)
theorem box0_any (w : World) : Calls Tryz.prog 33 #[.int .u8 0] w fun e w' => e = .returned (v8 (boxF 0#8 5)) ∧ w = w' := box_any 0#8 w
theorem pow_mod (k : Nat) (h : k < 255) : ((255 : Int) - (k : Int)).tmod 255 = (((255 - k) % 255 : Nat) : Int) := by
 rw [Int.tmod_eq_emod_of_nonneg (by omega)]; omega
set_option maxHeartbeats 2000000 in
theorem make_new (w0 : World) : Calls Tryz.prog 19 #[] w0 fun e w' => ∃ g, e = .returned (.pointer (some ⟨g, 0, none⟩)) ∧ w0.heap.size ≤ g ∧ Row w' g 80 (tabs.map v8) ∧ Ext w0 w' := by
 have hm := Own.start w0
 go_enter Tryz.func19, Tryz.ntmps19
 go_wp2_with (first | ((first | ((with_reducible show qAl); first | ((with_reducible apply wq_new hm); exact rfl; infer_instance))); clear hm; (first | (have hx_ := g1; clear hx_; (first | (have hx_ := g2; clear hx_; intro gx_) | intro g2)) | intro g1); intro w hm))
 go_loopw [2, 6] (fun e i wr => ∃ k : Nat, k ≤ 255 ∧ i = .int .i64 k ∧ e = v8 (pws k) ∧ Own w0 wr [⟨g1, 77, (part 255 k pws fun _ => 0).map v8⟩]) (fun _ i _ => 255 - (intOf i).toNat)
 case atStart => exact ⟨0, by omega, rfl, rfl, by rw [← zer_start]; exact hm⟩
 case round =>
   obtain ⟨k, hk, rfl, rfl, hm⟩ := hrel
   by_cases hlt : k < 255
   · go_wp2_with (first | (go_at_call 31; (with_reducible refine (double_any _ _).mono ?_); rintro e w' ⟨rfl, rfl⟩) | ((((with_reducible show qSt); first | ((with_reducible apply wq_stv hm); exact rfl; infer_instance; exact rfl; (focus (repeat first | exact .hd | assumption | apply Swap.tl); done); infer_instance; exact rfl; (focus (first | omega | (simp; omega) | (refine ltB ?_; first | omega | (simp; done) | (simp; omega))))))); clear hm; intro w hm))
     go_roundw
     case rel =>
       rw [part_set' hlt rfl] at hm
       exact ⟨k + 1, by omega, by go_num, rfl, hm⟩
     case measure => simp [intOf] <;> omega
   · obtain rfl : k = 255 := by omega
     rw [part_all] at hm
     go_wp2_with (first | (go_at_call 33; (with_reducible refine (box0_any _).mono ?_); rintro e w' ⟨rfl, rfl⟩) | ((with_reducible apply wq_build0 build_boxes); exact rfl) | ((first | ((with_reducible show qBx); first | ((with_reducible apply wq_boxN hm); exact rfl; exact rfl))); clear hm; (first | (have hx_ := g1; clear hx_; (first | (have hx_ := g2; clear hx_; intro gx_) | intro g2)) | intro g1); intro w hm))
     refine (bput_any _ _ (zer 512) zer_length 0#8 (boxF 0#8 5) w0 _ _ _ hm (by repeat (first | exact Swap.hd | assumption | apply Swap.tl))).mono ?_
     rintro e w ⟨rfl, hm⟩
     go_wp2_with fail
     go_loopw [22] (fun i wr => ∃ k : Nat, k ≤ 255 ∧ i = .int .i64 k ∧ Own w0 wr [⟨g2, 80, (tabT k).map v8⟩, ⟨g1, 77, (tab 255 pws).map v8⟩]) (fun i _ => 255 - (intOf i).toNat)
     case atStart => exact ⟨0, by omega, rfl, hm⟩
     case round =>
       obtain ⟨k, hk, rfl, hm⟩ := hrel
       by_cases hlt : k < 255
       · have hmod := pow_mod k hlt
         have hq : (255 - k) % 255 < 255 := Nat.mod_lt _ (by omega)
         have e1 : nth (tab 255 pws) k = pws k := nth_tab hlt
         have e2 : nth (tab 255 pws) ((255 - k) % 255) = pws ((255 - k) % 255) := nth_tab hq
         generalize hqq : (255 - k) % 255 = q at *
         have hq2 : (q : Int) < 255 := by omega
         have hwr : IntKind.i64.wrap (255 - (k : Int)) = 255 - (k : Int) := IntWalk.i64_in _ (by omega)
         have Hqq := Lib.hid hqq
         clear hqq
         go_wp2_with fail
         refine region_at 10 (fun w' => Ext _ w') 38 (by kernel_rfl) (by kernel_rfl) rfl (fun _ _ h k => h.trans k) (drew_ext _) ?_
         simp only [tSC, List.take_zero, dSC, List.drop_zero, List.map_cons, List.map_nil]
         repeat (first
             | (apply walk_is rfl rfl rfl
                · (intro wx hwx; first | ((with_reducible show gives _ _ _ (Sem.run _ (execOp _ (Oper.mk _ (Op.load _ _) _ _ _ _)) _)); first | ((with_reducible apply gq_ldv (hm.ext hwx)); infer_instance; exact rfl; (focus (repeat first | exact .hd | assumption | apply Has.tl); done); (focus (first | omega | (simp; omega) | (refine ltB ?_; first | omega | (simp; done) | (simp; omega)))))) | (go_simp; (try go_bits); first | exact gives_same | exact gives_skip | with_reducible exact gives_call (box_anyG _ wx)))
                · (simp only [Act.put, sIB, sCS, sCZ]; rfl))
             | (apply walk_not rfl rfl rfl
                · (simp only [Act.put, sIB, sCS, sCZ]; rfl)))
         intro wz hwz
         simp only [zCC, zNR]
         repeat (first | rw [fin_is] | (rw [fin_cons]; intro _ _))
         rw [fin_nil]
         try (replace hm := hm.ext hwz)
         simp only [Act.put, sIB, sCS, sCZ]
         go_wp2_with fail
         refine (bput_any g2 _ (tabT k) (tabT_length k) _ _ w0 _ _ _ hm (by repeat (first | exact Swap.hd | assumption | apply Swap.tl))).mono ?_
         rintro e w ⟨rfl, hm⟩
         have hT : putT (tabT k) (pws k) (boxF (pws q) 5) = tabT (k + 1) := by rw [tabT, Hqq.out]
         first | rw [e1, e2, hT] at hm | rw [hT] at hm
         go_wp2
         go_roundw
         case rel => exact ⟨k + 1, by omega, by go_num, hm⟩
         case measure => simp [intOf] <;> omega
       · obtain rfl : k = 255 := by omega
         go_wp2_with fail
         go_ret
         exact ⟨g2, rfl, hm.base (by repeat (first | exact Has.hd | assumption | apply Has.tl)), hm.row (by repeat (first | exact Has.hd | assumption | apply Has.tl)), hm.x⟩
theorem to_any (g : Nat) (a : Byte) (w : World) (h : Row w g 80 (tabs.map v8)) : Calls Tryz.prog 25 #[.pointer (some ⟨g, 0, none⟩), v8 a] w fun e w' => e = .returned (v8 (bxTo a)) ∧ w = w' := by
 have ha : a.toNat < 256 := a.isLt
 have ha2 : (a.toNat : Int) < 256 := by omega
 have hc : w.cell? ⟨g, a.toNat, none⟩ = some (v8 (bxTo a)) := by rw [row_v8 h a.toNat (by rw [tabs_length]; omega)]; rfl
 clear h
 go_enter Tryz.func25, Tryz.ntmps25
 go_wp2
 go_ret
 exact ⟨rfl, rfl⟩
end Go.Proofs.YtdmgchdhilcncaaGreatDoor
