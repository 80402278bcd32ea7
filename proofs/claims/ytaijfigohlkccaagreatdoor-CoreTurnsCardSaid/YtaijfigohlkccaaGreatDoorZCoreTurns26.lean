/-
  Layer 6, plain: the document's blocks. No program in sight, no conditions.
  Layer 6: the document's sum. No conditions beyond those written in each theorem.
-/
import Derived.Test.YtaijfigohlkccaaGreatDoorZCoreTurns0
import Derived.Test.YtaijfigohlkccaaGreatDoorZCoreTurns8
import Derived.Test.YtaijfigohlkccaaGreatDoorZCoreTurns25
import Derived.Test.YtaijfigohlkccaaGreatDoorZCoreTurns12
set_option linter.unusedSimpArgs false
set_option linter.unusedVariables false
namespace Go.Proofs.YtaijfigohlkccaaGreatDoor
open Go Go.RowKit
set_option maxRecDepth 100000
def padD (D : List Byte) : List Byte := pad (if D.length = 0 then [0#8] else D) 128
theorem room128 (n : Nat) (h : 0 < n) : n + roomN n 128 = 128 * (nbk n + 1) := by
 unfold roomN nbk
 rw [if_neg (by decide)]
 show n + (128 - n % 128) % 128 = _
 omega
theorem padD_length (D : List Byte) : (padD D).length = 128 * (nbk D.length + 1) := by
 unfold padD pad
 by_cases h : D.length = 0
 · rw [if_pos h, List.length_append, List.length_replicate, room128 _ (by decide), h]; rfl
 · rw [if_neg h, List.length_append, List.length_replicate, room128 _ (by omega)]
theorem getD_zeros (l : List Byte) (r i : Nat) : (l ++ List.replicate r 0#8).getD i 0 = l.getD i 0 := by
 rw [List.getD_eq_getElem?_getD, List.getD_eq_getElem?_getD]
 by_cases hi : i < l.length
 · rw [List.getElem?_append_left hi]
 · rw [List.getElem?_append_right (by omega), List.getElem?_eq_none (l := l) (by omega), List.getElem?_replicate]
   split <;> rfl
theorem gb_padD (D : List Byte) (j : Int) : gb (padD D) j = gb D j := by
 unfold gb padD pad
 split
 · rw [show (0 : Byte) = 0#8 from rfl]
   have := getD_zeros (if D.length = 0 then [0#8] else D) (roomN (if D.length = 0 then [0#8] else D).length 128) j.toNat
   rw [show (0 : Byte) = 0#8 from rfl] at this
   rw [this]
   by_cases h : D.length = 0
   · have hd : D = [] := List.eq_nil_of_length_eq_zero h
     subst hd
     rw [if_pos h]
     cases j.toNat <;> simp
   · rw [if_neg h]
 · rfl
theorem gb_bkAt (l : List Byte) (k : Nat) (j : Int) : gb (bkAt l k) j = if 0 ≤ j ∧ j < 128 then gb l (128 * k + j) else 0 := by
 unfold gb bkAt
 by_cases h0 : 0 ≤ j
 · rw [if_pos h0, List.getD_eq_getElem?_getD, List.getElem?_take]
   by_cases h1 : j < 128
   · rw [if_pos (by omega), if_pos ⟨h0, h1⟩, if_pos (by omega), List.getElem?_drop, List.getD_eq_getElem?_getD, show (128 * (k : Int) + j).toNat = 128 * k + j.toNat from by omega]
   · rw [if_neg (by omega), if_neg (by omega)]; rfl
 · rw [if_neg h0, if_neg (by omega)]
theorem num_congr {l m : List Byte} (h : ∀ j, gb l j = gb m j) : ∀ (r : Nat) (at_ : Int), num l at_ r = num m at_ r := by
 intro r at_
 induction r with
 | zero => rfl
 | succ r ih => simp only [num, h, ih]
theorem mL_congr {l m : List Byte} (h : ∀ j, gb l j = gb m j) : mL l = mL m := tab_ext fun i _ => num_congr h 8 _
theorem mL_padD (D : List Byte) (k : Nat) : mL (bkAt (padD D) k) = mL (bkAt D k) := mL_congr fun j => by rw [gb_bkAt, gb_bkAt, gb_padD]
def docF (h : List (BitVec 64)) (D : List Byte) (k : Nat) : List (BitVec 64) := if k ≤ nbk D.length then chF h D k else finL h D
theorem docF_end (h : List (BitVec 64)) (D : List Byte) : docF h D (nbk D.length + 1) = finL h D := if_neg (by omega)
theorem docF_length (h : List (BitVec 64)) (D : List Byte) (hh : h.length = 8) (k : Nat) : (docF h D k).length = 8 := by
 unfold docF; split
 · exact chF_length _ _ hh _
 · exact finL_length _ _
theorem docF_step (h : List (BitVec 64)) (D : List Byte) (k : Nat) (hk : k < nbk D.length) : compL (docF h D k) (mL (bkAt (padD D) k)) (BitVec.ofNat 64 (128 * k + 128)) 0#64 false = docF h D (k + 1) := by
 rw [mL_padD, docF, docF, if_pos (by omega), if_pos (by omega)]; rfl
theorem docF_last (h : List (BitVec 64)) (D : List Byte) : compL (docF h D (nbk D.length)) (mL (bkAt (padD D) (nbk D.length))) (BitVec.ofNat 64 D.length) 0#64 true = docF h D (nbk D.length + 1) := by
 rw [mL_padD, docF_end, docF, if_pos (Nat.le_refl _), finL]
 congr 1
 rw [bkAt, List.take_of_length_le]
 rw [List.length_drop]; exact nbk_rest _
end Go.Proofs.YtaijfigohlkccaaGreatDoor
namespace Go.Proofs.YtaijfigohlkccaaGreatDoor
open Go Go.RowKit
set_option maxRecDepth 100000
theorem rcomp_G (h : List (BitVec 64)) (b : List Byte) (p : Option Addr) (c lo : Nat) (mi : Int) (last : Bool) (hh : h.length = 8) (hb : b.length = 128) (hmi : mi = (lo : Int)) (w : World) (hx : RdB w p b ∧ 128 ≤ c ∧ lo < 18446744073709551616) : Gives Tryz.prog 77 #[A64 h, .slice p 128 c, .int .u64 mi, .int .u64 0, .bool last] w (A64 (compL h (mL b) (BitVec.ofNat 64 lo) 0#64 last)) := by
 subst hmi
 rw [natv64 hx.2.2]
 have := rcompress_any h b p c (BitVec.ofNat 64 lo) 0#64 last hh (by omega) (by rw [hb]; exact hx.2.1) w hx.1
 rwa [hb] at this
theorem slo_rdB {w0 w : World} {M R : List Blk} {p : Option Addr} {n c : Nat} {e : TypeId} {l : List Byte} (h : SlO M e 1 (.slice p n c) n (l.map v8)) (hm : Own w0 w (M ++ R)) : RdB w p l := by
 have hl := h.1
 rw [List.length_map, Nat.mul_one] at hl
 obtain ⟨_, _, hv, _, _, h0, hcell⟩ := h.cells hm
 cases hv
 refine ⟨fun hp => h0 (by omega), fun i hi => ?_⟩
 obtain ⟨a, rfl, ha⟩ := hcell i (v8 (l.getD i 0)) (by rw [List.getElem?_map, List.getElem?_eq_getElem hi, List.getD_eq_getElem?_getD, List.getElem?_eq_getElem hi]; rfl)
 exact ha
theorem start_bits2 (k s : Nat) (hk : k ≤ 64) (hs : s ≤ 64) (x : BitVec 64) : ((x ^^^ 16842752#64) ^^^ BitVec.ofInt 64 (256 * (k : Int))) ^^^ BitVec.ofInt 64 (s : Int) = x ^^^ (((0x01010000#64) ^^^ (BitVec.ofNat 64 k <<< 8)) ^^^ BitVec.ofNat 64 s) := by
 have h1 : ∀ k : Fin 65, BitVec.ofInt 64 (256 * (k.val : Int)) = BitVec.ofNat 64 k.val <<< 8 := by decide +kernel
 rw [h1 ⟨k, by omega⟩, show BitVec.ofInt 64 (s : Int) = BitVec.ofNat 64 s from rfl, BitVec.xor_assoc, BitVec.xor_assoc, BitVec.xor_assoc]
set_option maxHeartbeats 4000000 in
theorem rsum_ok (size : Nat) (key : List Byte) (p : Option Addr) (c : Nat) (b : List Byte) (q : Option Addr) (d : Nat) (h0 : 1 ≤ size) (h1 : size ≤ 64) (hk : key.length ≤ 64) (hkc : key.length ≤ c) (hb : b.length ≤ 1099511627776) (w0 : World) (hr : RdB w0 p key) (hr2 : RdB w0 q b) :
   Calls Tryz.prog 38 #[.int .i64 size, .slice p key.length c, .slice q b.length d] w0 fun e w' => ∃ x, e = .returned (.tuple #[x, .int .i64 0]) ∧ BytesS (sumL size key b) x w' ∧ Ext w0 w' := by
 have hm := Own.start w0
 have a1 : decide ((size : Int) < 1) = false := by simp; omega
 have a2 : ¬ (size : Int) < 1 := by omega
 have a3 : decide ((64 : Int) < (size : Int)) = false := by simp; omega
 have a4 : ¬ (64 : Int) < (size : Int) := by omega
 have a5 : decide ((64 : Int) < (key.length : Int)) = false := by simp; omega
 have a6 : ¬ (64 : Int) < (key.length : Int) := by omega
 have HR := Lib.hid hr
 have HR2 := Lib.hid hr2
 have lk := keyL_length key hk
 have ES := Lib.hid (show setN firstL 0 (((nth firstL 0 ^^^ 16842752#64) ^^^ BitVec.ofInt 64 (256 * (key.length : Int))) ^^^ BitVec.ofInt 64 (size : Int)) = startL size key.length by rw [start_bits2 _ _ hk h1]; rfl)
 have lF : firstL.length = 8 := rfl
 have CF := Lib.hid rfirst_any
 generalize firstL = F at *
 have LF := Lib.hid lF
 clear hr hr2
 obtain ⟨D, hD⟩ : ∃ D, keyL key ++ b = D := ⟨_, rfl⟩
 have HD0 := Lib.hid hD
 have lD : D.length = (keyL key).length + b.length := by rw [← hD, List.length_append]
 have hD40 : D.length ≤ 2199023255552 := by omega
 by_cases hk0 : key.length = 0
 · have b1 : decide ((0 : Int) < (key.length : Int)) = false := decide_eq_false (by omega)
   have b2 : ¬ (0 : Int) < (key.length : Int) := by omega
   have ek : keyL key = [] := by rw [keyL, if_pos hk0]
   have ES1 : Hid (setN F 0 (((nth F 0 ^^^ 16842752#64) ^^^ BitVec.ofInt 64 (256 * (key.length : Int))) ^^^ BitVec.ofNat 64 size) = startL size key.length) := Lib.hid ES.out
   rw [ek, List.nil_append] at hD
   have LDB := Lib.hid (show D.length = b.length by rw [← hD])
   have HL := Lib.hid (show (b.map v8).length = b.length * 1 by simp)
   by_cases hb0 : b.length = 0
   · have c1 : (((b.length : Int)) == 0) = true := by rw [beq_iff_eq]; omega
     have EP := Lib.hid (show pad [0#8] 128 = padD D by rw [padD, if_pos (by rw [LDB.out, hb0])])
     clear hk0 hb0 lD hD
     go_enter Tryz.func38, Tryz.ntmps38
     go_wp2_with (first | (go_at_call 75; (with_reducible refine (CF.out _).mono ?_); rintro e_ w ⟨rfl, hx_⟩; replace hm := hm.ext hx_; clear hx_) | ((with_reducible show wpList _ _ _ (Oper.mk _ (Op.call _) _ _ _ _ :: _) _ _); refine wplO_app (M := []) (R := _) (ds := b.map v8) hm (SlO.nil _ _) rfl rfl rfl rfl Tryz.underlying22 HL.out (cells_b (HR2.out.ext hm.x)) (one_map _) (by omega) ?_; clear hm; intro MM_ w MM hm hs1; obtain ⟨p_MM_, c_MM_, rfl⟩ := hs1.form) | ((with_reducible show qLd); first | ((with_reducible apply wq_ldv hm); exact rfl; infer_instance; exact rfl; (focus ((repeat (first | exact .hd | assumption | apply Has.tl | apply Has.app)); done)); (focus (first | omega | (simp; omega) | (refine ltB ?_; first | omega | (simp; done) | (simp; omega)))))) | ((((with_reducible show qSt); first | ((with_reducible apply wq_stv hm); exact rfl; infer_instance; exact rfl; (focus ((repeat (first | exact .hd | assumption | apply Swap.tl | apply Swap.app)); done)); infer_instance; exact rfl; (focus (first | omega | (simp; omega) | (refine ltB ?_; first | omega | (simp; done) | (simp; omega))))) | ((with_reducible apply wq_stW hm); exact rfl; infer_instance; exact rfl; exact rfl; (focus ((repeat (first | exact .hd | assumption | apply Swap.tl | apply Swap.app)); done)); (focus (first | rfl | omega | (simp; done) | (simp; omega))); (focus (first | rfl | omega | (simp; done) | (simp; omega))); (focus (first | exact one_map _ | (simp [one8, one32, one64]; done)))))); clear hm; intro w hm) | ((first | ((with_reducible show qAl); first | ((with_reducible apply wq_new hm); exact rfl; infer_instance))); clear hm; (first | (have hx_ := g1; clear hx_; intro gx_) | intro g1); intro w hm))
     refine (rpadded_any [0#8] _ 1 128 _ (one_new w 0#8) (by decide) (by decide) (by decide) (by decide)).mono ?_
     rintro e w ⟨v, rfl, hv, hx_⟩
     obtain ⟨MP, hm, hsP⟩ := ownsRow_sl (((hm.ext ((Ext.refl _).alloc _)).dropN)) hx_ hv
     rw [EP.out] at hsP
     obtain ⟨pp, cc, rfl⟩ := hsP.form
     obtain ⟨_, _, hvv, hcc, hccm, _⟩ := hsP.cells hm
     cases hvv
     rw [ES1.out] at hm
     have HP := Lib.hid hsP
     have lP := padD_length D
     have H0 := Lib.hid (show docF (startL size key.length) D 0 = startL size key.length from rfl)
     have HS := Lib.hid (docF_step (startL size key.length) D)
     have HE := Lib.hid (docF_last (startL size key.length) D)
     have HF := Lib.hid (docF_end (startL size key.length) D)
     have HN := Lib.hid (docF_length (startL size key.length) D (startL_length _ _))
     have LB := Lib.hid fun k (hk : k < nbk D.length + 1) => (show (bkAt (padD D) k).length = 128 by rw [bkAt, List.length_take, List.length_drop, lP]; omega)
     have HU := Lib.hid (show sumL size key b = (outL (finL (startL size key.length) D)).take size by rw [sumL_eq, HD0.out])
     generalize startL size key.length = ST at *
     rw [← H0.out] at hm
     generalize hPP : padD D = P at *
     have hn1 := nbk_le D.length
     have hn2 := nbk_rest D.length
     have LP := Lib.hid lP
     have hPl : P.length ≤ 3298534883328 := by rw [lP]; omega
     generalize hK : nbk D.length = K at *
     clear hsP hv hx_ hPP lP hK
     go_wp2_with fail
     go_loopw [11] (fun i wr => ∃ k : Nat, k ≤ K + 1 ∧ i = .int .i64 (128 * (k : Int)) ∧ Own w0 wr (MP ++ [⟨g1, 124, (docF ST D k).map v64⟩])) (fun i _ => 128 * (K + 1) - (intOf i).toNat)
     case atStart => exact ⟨0, by omega, rfl, hm⟩
     case round =>
       obtain ⟨k, hk, rfl, hm⟩ := hrel
       by_cases hlt : k < K + 1
       · have x1 : 128 * (k : Int) < (P.length : Int) := by have := LP.out; omega
         have hd : decide (128 * (k : Int) < (P.length : Int)) = true := decide_eq_true x1
         have x2 : (0 : Int) ≤ 128 * (k : Int) := by omega
         have x3 : 128 * (k : Int) + 128 ≤ (cc : Int) := by have := LP.out; omega
         have x4 : (128 * (k : Int)).toNat = 128 * k := by omega
         have x5 : (128 * (k : Int) + 128).toNat = 128 * k + 128 := by omega
         have x6 : 128 * k + 128 - 128 * k = 128 := by omega
         have x9 : ¬ cc = 128 * k := by have := LP.out; omega
         have x7 : 128 * (k : Int) ≤ 128 * (k : Int) + 128 := by omega
         have x8 : (128 * k + 128 : Nat) ≤ P.length := by have := LP.out; omega
         obtain ⟨a, rfl⟩ := Option.isSome_iff_exists.1 ((slo_rdB HP.out hm).1 (by omega))
         have hrb : RdB wr (some (a.add (128 * k))) (bkAt P k) := (slo_rdB HP.out hm).sub (128 * k) 128 x8 (by omega)
         have HRB := Lib.hid hrb
         have lb := LB.out k hlt
         clear hrb
         by_cases hl : k = K
         · have y1 : (128 * (k : Int) + 128 == (P.length : Int)) = true := by rw [beq_iff_eq]; have := LP.out; omega
           have CR := Lib.hid fun cx wx hx => rcomp_G (docF ST D k) (bkAt P k) (some (a.add (128 * k))) cx D.length ((b.length : Int)) true (HN.out k) lb (by rw [LDB.out]) wx hx
           have e1 : compL (docF ST D k) (mL (bkAt P k)) (BitVec.ofNat 64 D.length) 0#64 true = docF ST D (k + 1) := by rw [hl]; exact HE.out
           rw [e1] at CR
           have ln := HN.out k
           have ln2 := HN.out (k + 1)
           generalize docF ST D k = H1 at *
           generalize hH2 : docF ST D (k + 1) = H2 at *
           have EH2 := Lib.hid hH2
           clear e1 hl hH2
           have lo64 : D.length < 18446744073709551616 := by omega
           have xc : 128 ≤ cc - 128 * k := by omega
           go_wp2_with fail
           have HW := Lib.hid fun wx (hwx : Ext _ wx) => CR.out (cc - 128 * k) wx ⟨HRB.out.ext hwx, xc, lo64⟩
           refine region_at 10 (fun w' => Ext _ w') 91 (by kernel_rfl) (by kernel_rfl) rfl (fun _ _ h k => h.trans k) (drew_ext _) ?_
           simp only [tSC, List.take_zero, dSC, List.drop_zero, List.map_cons, List.map_nil]
           repeat (first
               | (apply walk_is rfl rfl rfl
                  · (intro wx hwx; first | ((with_reducible show gives _ _ _ (Sem.run _ (execOp _ (Oper.mk _ (Op.load _ _) _ _ _ _)) _)); first | ((with_reducible apply gq_ldv (hm.ext hwx)); infer_instance; exact rfl; (focus ((repeat (first | exact .hd | assumption | apply Has.tl | apply Has.app)); done)); (focus (first | omega | (simp; omega) | (refine ltB ?_; first | omega | (simp; done) | (simp; omega))))) | ((with_reducible apply gq_ldW (hm.ext hwx)); infer_instance; exact rfl; (focus ((repeat (first | exact .hd | assumption | apply Has.tl | apply Has.app)); done)); (focus (first | rfl | omega | (simp; done) | (simp; omega)))) | ((with_reducible apply gq_ld1 (hm.ext hwx)); infer_instance; exact rfl; (focus ((repeat (first | exact .hd | assumption | apply Has.tl | apply Has.app)); done)); exact rfl)) | (go_simp; (try go_bits); first | exact gives_same | exact gives_skip | with_reducible exact gives_call (HW.out wx hwx)))
                  · (simp only [Act.put, sIB, sCS, sCZ]; rfl))
               | (apply walk_not rfl rfl rfl
                  · (simp only [Act.put, sIB, sCS, sCZ]; rfl)))
           intro wz hwz
           simp only [zCC, zNR]
           repeat (first | rw [fin_is] | (rw [fin_cons]; intro _ _))
           rw [fin_nil]
           try (replace hm := hm.ext hwz)
           simp only [Act.put, sIB, sCS, sCZ]
           go_wp2_with (first | ((((with_reducible show qSt); first | ((with_reducible apply wq_stW hm); exact rfl; infer_instance; exact rfl; exact rfl; (focus ((repeat (first | exact .hd | assumption | apply Swap.tl | apply Swap.app)); done)); (focus (first | rfl | omega | (simp; done) | (simp; omega))); (focus (first | rfl | omega | (simp; done) | (simp; omega))); (focus (first | exact one_map _ | (simp [one8, one32, one64]; done)))))); clear hm; intro w hm))
           go_roundw
           case rel => exact ⟨k + 1, by omega, by go_num, by rw [EH2.out]; exact hm⟩
           case measure => simp [intOf] <;> omega
         · have y1 : (128 * (k : Int) + 128 == (P.length : Int)) = false := by rw [beq_eq_false_iff_ne]; have := LP.out; omega
           have CR := Lib.hid fun cx wx hx => rcomp_G (docF ST D k) (bkAt P k) (some (a.add (128 * k))) cx (128 * k + 128) (128 * (k : Int) + 128) false (HN.out k) lb (by omega) wx hx
           have e1 : compL (docF ST D k) (mL (bkAt P k)) (BitVec.ofNat 64 (128 * k + 128)) 0#64 false = docF ST D (k + 1) := HS.out k (by omega)
           rw [e1] at CR
           have ln := HN.out k
           have ln2 := HN.out (k + 1)
           generalize docF ST D k = H1 at *
           generalize hH2 : docF ST D (k + 1) = H2 at *
           have EH2 := Lib.hid hH2
           clear e1 hl hH2
           have lo64 : 128 * k + 128 < 18446744073709551616 := by omega
           have xc : 128 ≤ cc - 128 * k := by omega
           go_wp2_with fail
           have HW := Lib.hid fun wx (hwx : Ext _ wx) => CR.out (cc - 128 * k) wx ⟨HRB.out.ext hwx, xc, lo64⟩
           refine region_at 10 (fun w' => Ext _ w') 91 (by kernel_rfl) (by kernel_rfl) rfl (fun _ _ h k => h.trans k) (drew_ext _) ?_
           simp only [tSC, List.take_zero, dSC, List.drop_zero, List.map_cons, List.map_nil]
           repeat (first
               | (apply walk_is rfl rfl rfl
                  · (intro wx hwx; first | ((with_reducible show gives _ _ _ (Sem.run _ (execOp _ (Oper.mk _ (Op.load _ _) _ _ _ _)) _)); first | ((with_reducible apply gq_ldv (hm.ext hwx)); infer_instance; exact rfl; (focus ((repeat (first | exact .hd | assumption | apply Has.tl | apply Has.app)); done)); (focus (first | omega | (simp; omega) | (refine ltB ?_; first | omega | (simp; done) | (simp; omega))))) | ((with_reducible apply gq_ldW (hm.ext hwx)); infer_instance; exact rfl; (focus ((repeat (first | exact .hd | assumption | apply Has.tl | apply Has.app)); done)); (focus (first | rfl | omega | (simp; done) | (simp; omega)))) | ((with_reducible apply gq_ld1 (hm.ext hwx)); infer_instance; exact rfl; (focus ((repeat (first | exact .hd | assumption | apply Has.tl | apply Has.app)); done)); exact rfl)) | (go_simp; (try go_bits); first | exact gives_same | exact gives_skip | with_reducible exact gives_call (HW.out wx hwx)))
                  · (simp only [Act.put, sIB, sCS, sCZ]; rfl))
               | (apply walk_not rfl rfl rfl
                  · (simp only [Act.put, sIB, sCS, sCZ]; rfl)))
           intro wz hwz
           simp only [zCC, zNR]
           repeat (first | rw [fin_is] | (rw [fin_cons]; intro _ _))
           rw [fin_nil]
           try (replace hm := hm.ext hwz)
           simp only [Act.put, sIB, sCS, sCZ]
           go_wp2_with (first | ((((with_reducible show qSt); first | ((with_reducible apply wq_stW hm); exact rfl; infer_instance; exact rfl; exact rfl; (focus ((repeat (first | exact .hd | assumption | apply Swap.tl | apply Swap.app)); done)); (focus (first | rfl | omega | (simp; done) | (simp; omega))); (focus (first | rfl | omega | (simp; done) | (simp; omega))); (focus (first | exact one_map _ | (simp [one8, one32, one64]; done)))))); clear hm; intro w hm))
           go_roundw
           case rel => exact ⟨k + 1, by omega, by go_num, by rw [EH2.out]; exact hm⟩
           case measure => simp [intOf] <;> omega
       · obtain rfl : k = K + 1 := by omega
         have x1 : ¬ 128 * (((K + 1 : Nat)) : Int) < (P.length : Int) := by have := LP.out; omega
         have hd : decide (128 * (((K + 1 : Nat)) : Int) < (P.length : Int)) = false := decide_eq_false x1
         have x2 : ¬ 128 * ((K : Int) + 1) < (P.length : Int) := by have := LP.out; omega
         have hd2 : decide (128 * ((K : Int) + 1) < (P.length : Int)) = false := decide_eq_false x2
         rw [HF.out] at hm
         have lZ := finL_length ST D
         have HU2 := HU.out
         generalize finL ST D = Z at *
         have HU3 := Lib.hid HU2
         have LZ := Lib.hid lZ
         replace hm := hm.dropN
         clear HU2
         go_wp2_with fail
         go_loopw [14, 15] (fun v i wr => ∃ (k : Nat) (Mo : List Blk), k ≤ 8 ∧ i = .int .i64 k ∧ SlO Mo 5 1 v (8 * k) ((outL (Z.take k)).map v8) ∧ Own w0 wr (Mo ++ [⟨g1, 124, Z.map v64⟩])) (fun _ i _ => 8 - (intOf i).toNat)
         case atStart => exact ⟨0, [], by omega, rfl, SlO.nil _ _, hm⟩
         case round =>
           obtain ⟨k, Mo, hk, rfl, hso, hm⟩ := hrel
           obtain ⟨p0, c0, rfl⟩ := hso.form
           have HSO := Lib.hid hso
           clear hso
           by_cases hlt : k < 8
           · have hd : decide ((k : Int) < 8) = true := by simp; omega
             have lF := LZ.out
             have lp : (putL (nth Z k) 8).length = 8 := putL_length _ _
             have et := Lib.hid (outL_take Z k (by omega))
             have CP := Lib.hid fun wx => put8_any (nth Z k) wx
             generalize putL (nth Z k) 8 = B at *
             have LPB := Lib.hid (show (B.map v8).length = 8 * 1 by simp [lp])
             have FIT := Lib.hid (show (8 * k + 8) * (1 + 1) ≤ 140737488355328 by omega)
             go_wp2_with (first | (go_at_call 78; (with_reducible refine (CP.out _).mono ?_); rintro e_ w ⟨vp, rfl, hvp, hx_⟩; obtain ⟨pq, cq, rfl, hcq, hrq⟩ := hvp.reads; replace hm := hm.ext hx_; replace hrq := Lib.hid hrq; clear hx_ hvp hcq) | ((with_reducible show wpList _ _ _ (Oper.mk _ (Op.call _) _ _ _ _ :: _) _ _); refine wplO_app (M := Mo) (R := _) (ds := B.map v8) hm HSO.out rfl rfl rfl rfl Tryz.underlying22 LPB.out (cells_b hrq.out) (one_map _) FIT.out ?_; clear hm; intro v1 w M1 hm hs1; obtain ⟨p_v1, c_v1, rfl⟩ := hs1.form) | ((with_reducible show qLd); first | ((with_reducible apply wq_ldv hm); exact rfl; infer_instance; exact rfl; (focus ((repeat (first | exact .hd | assumption | apply Has.tl | apply Has.app)); done)); (focus (first | omega | (simp; omega) | (refine ltB ?_; first | omega | (simp; done) | (simp; omega)))))))
             go_roundw
             case rel => exact ⟨k + 1, M1, by omega, by go_num, by rw [et.out, List.map_append]; exact hs1, hm⟩
             case measure => simp [intOf] <;> omega
           · obtain rfl : k = 8 := by omega
             have hso := HSO.out
             rw [List.take_of_length_le (Nat.le_of_eq LZ.out)] at hso
             have hrd := slo_rdB hso hm
             obtain ⟨_, _, hv, hnc0, _, _⟩ := hso.cells hm
             cases hv
             have HRD := Lib.hid hrd
             have lO : (outL Z).length = 64 := by rw [outL_length, LZ.out]
             have hc0 : (64 : Int) ≤ (c0 : Int) := by omega
             have hsc : (size : Int) ≤ (c0 : Int) := by omega
             clear hrd hso
             go_wp2_with fail
             go_ret2
             have lt : ((outL Z).take size).length = size := by rw [List.length_take, lO]; omega
             refine ⟨_, rfl, ⟨p0, c0, ?_, ?_, ?_⟩, hm.x⟩
             · rw [HU3.out, lt]; rfl
             · rw [HU3.out, lt]; omega
             · rw [HU3.out]; exact HRD.out.take size
   · have c1 : (((b.length : Int)) == 0) = false := by rw [beq_eq_false_iff_ne]; omega
     have EP := Lib.hid (show pad b 128 = padD D by rw [padD, if_neg (by rw [LDB.out]; exact hb0), ← hD])
     clear hk0 hb0 lD hD
     go_enter Tryz.func38, Tryz.ntmps38
     go_wp2_with (first | (go_at_call 75; (with_reducible refine (CF.out _).mono ?_); rintro e_ w ⟨rfl, hx_⟩; replace hm := hm.ext hx_; clear hx_) | ((with_reducible show wpList _ _ _ (Oper.mk _ (Op.call _) _ _ _ _ :: _) _ _); refine wplO_app (M := []) (R := _) (ds := b.map v8) hm (SlO.nil _ _) rfl rfl rfl rfl Tryz.underlying22 HL.out (cells_b (HR2.out.ext hm.x)) (one_map _) (by omega) ?_; clear hm; intro MM_ w MM hm hs1; obtain ⟨p_MM_, c_MM_, rfl⟩ := hs1.form) | ((with_reducible show qLd); first | ((with_reducible apply wq_ldv hm); exact rfl; infer_instance; exact rfl; (focus ((repeat (first | exact .hd | assumption | apply Has.tl | apply Has.app)); done)); (focus (first | omega | (simp; omega) | (refine ltB ?_; first | omega | (simp; done) | (simp; omega)))))) | ((((with_reducible show qSt); first | ((with_reducible apply wq_stv hm); exact rfl; infer_instance; exact rfl; (focus ((repeat (first | exact .hd | assumption | apply Swap.tl | apply Swap.app)); done)); infer_instance; exact rfl; (focus (first | omega | (simp; omega) | (refine ltB ?_; first | omega | (simp; done) | (simp; omega))))) | ((with_reducible apply wq_stW hm); exact rfl; infer_instance; exact rfl; exact rfl; (focus ((repeat (first | exact .hd | assumption | apply Swap.tl | apply Swap.app)); done)); (focus (first | rfl | omega | (simp; done) | (simp; omega))); (focus (first | rfl | omega | (simp; done) | (simp; omega))); (focus (first | exact one_map _ | (simp [one8, one32, one64]; done)))))); clear hm; intro w hm) | ((first | ((with_reducible show qAl); first | ((with_reducible apply wq_new hm); exact rfl; infer_instance))); clear hm; (first | (have hx_ := g1; clear hx_; intro gx_) | intro g1); intro w hm))
     have hs2 : SlO MM 5 1 (.slice p_MM_ b.length c_MM_) b.length (b.map v8) := by have h := hs1; rw [Nat.zero_add, List.nil_append] at h; exact h
     obtain ⟨_, _, hvq, hcq, _, _⟩ := hs2.cells hm
     cases hvq
     refine (rpadded_any b p_MM_ c_MM_ 128 _ (slo_rdB hs2 hm) hcq (by omega) (by decide) (by decide)).mono ?_
     rintro e w ⟨v, rfl, hv, hx_⟩
     obtain ⟨MP, hm, hsP⟩ := ownsRow_sl (hm.dropN) hx_ hv
     rw [EP.out] at hsP
     obtain ⟨pp, cc, rfl⟩ := hsP.form
     obtain ⟨_, _, hvv, hcc, hccm, _⟩ := hsP.cells hm
     cases hvv
     rw [ES1.out] at hm
     have HP := Lib.hid hsP
     have lP := padD_length D
     have H0 := Lib.hid (show docF (startL size key.length) D 0 = startL size key.length from rfl)
     have HS := Lib.hid (docF_step (startL size key.length) D)
     have HE := Lib.hid (docF_last (startL size key.length) D)
     have HF := Lib.hid (docF_end (startL size key.length) D)
     have HN := Lib.hid (docF_length (startL size key.length) D (startL_length _ _))
     have LB := Lib.hid fun k (hk : k < nbk D.length + 1) => (show (bkAt (padD D) k).length = 128 by rw [bkAt, List.length_take, List.length_drop, lP]; omega)
     have HU := Lib.hid (show sumL size key b = (outL (finL (startL size key.length) D)).take size by rw [sumL_eq, HD0.out])
     generalize startL size key.length = ST at *
     rw [← H0.out] at hm
     generalize hPP : padD D = P at *
     have hn1 := nbk_le D.length
     have hn2 := nbk_rest D.length
     have LP := Lib.hid lP
     have hPl : P.length ≤ 3298534883328 := by rw [lP]; omega
     generalize hK : nbk D.length = K at *
     clear hsP hv hx_ hPP lP hK
     go_wp2_with fail
     go_loopw [11] (fun i wr => ∃ k : Nat, k ≤ K + 1 ∧ i = .int .i64 (128 * (k : Int)) ∧ Own w0 wr (MP ++ [⟨g1, 124, (docF ST D k).map v64⟩])) (fun i _ => 128 * (K + 1) - (intOf i).toNat)
     case atStart => exact ⟨0, by omega, rfl, hm⟩
     case round =>
       obtain ⟨k, hk, rfl, hm⟩ := hrel
       by_cases hlt : k < K + 1
       · have x1 : 128 * (k : Int) < (P.length : Int) := by have := LP.out; omega
         have hd : decide (128 * (k : Int) < (P.length : Int)) = true := decide_eq_true x1
         have x2 : (0 : Int) ≤ 128 * (k : Int) := by omega
         have x3 : 128 * (k : Int) + 128 ≤ (cc : Int) := by have := LP.out; omega
         have x4 : (128 * (k : Int)).toNat = 128 * k := by omega
         have x5 : (128 * (k : Int) + 128).toNat = 128 * k + 128 := by omega
         have x6 : 128 * k + 128 - 128 * k = 128 := by omega
         have x9 : ¬ cc = 128 * k := by have := LP.out; omega
         have x7 : 128 * (k : Int) ≤ 128 * (k : Int) + 128 := by omega
         have x8 : (128 * k + 128 : Nat) ≤ P.length := by have := LP.out; omega
         obtain ⟨a, rfl⟩ := Option.isSome_iff_exists.1 ((slo_rdB HP.out hm).1 (by omega))
         have hrb : RdB wr (some (a.add (128 * k))) (bkAt P k) := (slo_rdB HP.out hm).sub (128 * k) 128 x8 (by omega)
         have HRB := Lib.hid hrb
         have lb := LB.out k hlt
         clear hrb
         by_cases hl : k = K
         · have y1 : (128 * (k : Int) + 128 == (P.length : Int)) = true := by rw [beq_iff_eq]; have := LP.out; omega
           have CR := Lib.hid fun cx wx hx => rcomp_G (docF ST D k) (bkAt P k) (some (a.add (128 * k))) cx D.length ((b.length : Int)) true (HN.out k) lb (by rw [LDB.out]) wx hx
           have e1 : compL (docF ST D k) (mL (bkAt P k)) (BitVec.ofNat 64 D.length) 0#64 true = docF ST D (k + 1) := by rw [hl]; exact HE.out
           rw [e1] at CR
           have ln := HN.out k
           have ln2 := HN.out (k + 1)
           generalize docF ST D k = H1 at *
           generalize hH2 : docF ST D (k + 1) = H2 at *
           have EH2 := Lib.hid hH2
           clear e1 hl hH2
           have lo64 : D.length < 18446744073709551616 := by omega
           have xc : 128 ≤ cc - 128 * k := by omega
           go_wp2_with fail
           have HW := Lib.hid fun wx (hwx : Ext _ wx) => CR.out (cc - 128 * k) wx ⟨HRB.out.ext hwx, xc, lo64⟩
           refine region_at 10 (fun w' => Ext _ w') 91 (by kernel_rfl) (by kernel_rfl) rfl (fun _ _ h k => h.trans k) (drew_ext _) ?_
           simp only [tSC, List.take_zero, dSC, List.drop_zero, List.map_cons, List.map_nil]
           repeat (first
               | (apply walk_is rfl rfl rfl
                  · (intro wx hwx; first | ((with_reducible show gives _ _ _ (Sem.run _ (execOp _ (Oper.mk _ (Op.load _ _) _ _ _ _)) _)); first | ((with_reducible apply gq_ldv (hm.ext hwx)); infer_instance; exact rfl; (focus ((repeat (first | exact .hd | assumption | apply Has.tl | apply Has.app)); done)); (focus (first | omega | (simp; omega) | (refine ltB ?_; first | omega | (simp; done) | (simp; omega))))) | ((with_reducible apply gq_ldW (hm.ext hwx)); infer_instance; exact rfl; (focus ((repeat (first | exact .hd | assumption | apply Has.tl | apply Has.app)); done)); (focus (first | rfl | omega | (simp; done) | (simp; omega)))) | ((with_reducible apply gq_ld1 (hm.ext hwx)); infer_instance; exact rfl; (focus ((repeat (first | exact .hd | assumption | apply Has.tl | apply Has.app)); done)); exact rfl)) | (go_simp; (try go_bits); first | exact gives_same | exact gives_skip | with_reducible exact gives_call (HW.out wx hwx)))
                  · (simp only [Act.put, sIB, sCS, sCZ]; rfl))
               | (apply walk_not rfl rfl rfl
                  · (simp only [Act.put, sIB, sCS, sCZ]; rfl)))
           intro wz hwz
           simp only [zCC, zNR]
           repeat (first | rw [fin_is] | (rw [fin_cons]; intro _ _))
           rw [fin_nil]
           try (replace hm := hm.ext hwz)
           simp only [Act.put, sIB, sCS, sCZ]
           go_wp2_with (first | ((((with_reducible show qSt); first | ((with_reducible apply wq_stW hm); exact rfl; infer_instance; exact rfl; exact rfl; (focus ((repeat (first | exact .hd | assumption | apply Swap.tl | apply Swap.app)); done)); (focus (first | rfl | omega | (simp; done) | (simp; omega))); (focus (first | rfl | omega | (simp; done) | (simp; omega))); (focus (first | exact one_map _ | (simp [one8, one32, one64]; done)))))); clear hm; intro w hm))
           go_roundw
           case rel => exact ⟨k + 1, by omega, by go_num, by rw [EH2.out]; exact hm⟩
           case measure => simp [intOf] <;> omega
         · have y1 : (128 * (k : Int) + 128 == (P.length : Int)) = false := by rw [beq_eq_false_iff_ne]; have := LP.out; omega
           have CR := Lib.hid fun cx wx hx => rcomp_G (docF ST D k) (bkAt P k) (some (a.add (128 * k))) cx (128 * k + 128) (128 * (k : Int) + 128) false (HN.out k) lb (by omega) wx hx
           have e1 : compL (docF ST D k) (mL (bkAt P k)) (BitVec.ofNat 64 (128 * k + 128)) 0#64 false = docF ST D (k + 1) := HS.out k (by omega)
           rw [e1] at CR
           have ln := HN.out k
           have ln2 := HN.out (k + 1)
           generalize docF ST D k = H1 at *
           generalize hH2 : docF ST D (k + 1) = H2 at *
           have EH2 := Lib.hid hH2
           clear e1 hl hH2
           have lo64 : 128 * k + 128 < 18446744073709551616 := by omega
           have xc : 128 ≤ cc - 128 * k := by omega
           go_wp2_with fail
           have HW := Lib.hid fun wx (hwx : Ext _ wx) => CR.out (cc - 128 * k) wx ⟨HRB.out.ext hwx, xc, lo64⟩
           refine region_at 10 (fun w' => Ext _ w') 91 (by kernel_rfl) (by kernel_rfl) rfl (fun _ _ h k => h.trans k) (drew_ext _) ?_
           simp only [tSC, List.take_zero, dSC, List.drop_zero, List.map_cons, List.map_nil]
           repeat (first
               | (apply walk_is rfl rfl rfl
                  · (intro wx hwx; first | ((with_reducible show gives _ _ _ (Sem.run _ (execOp _ (Oper.mk _ (Op.load _ _) _ _ _ _)) _)); first | ((with_reducible apply gq_ldv (hm.ext hwx)); infer_instance; exact rfl; (focus ((repeat (first | exact .hd | assumption | apply Has.tl | apply Has.app)); done)); (focus (first | omega | (simp; omega) | (refine ltB ?_; first | omega | (simp; done) | (simp; omega))))) | ((with_reducible apply gq_ldW (hm.ext hwx)); infer_instance; exact rfl; (focus ((repeat (first | exact .hd | assumption | apply Has.tl | apply Has.app)); done)); (focus (first | rfl | omega | (simp; done) | (simp; omega)))) | ((with_reducible apply gq_ld1 (hm.ext hwx)); infer_instance; exact rfl; (focus ((repeat (first | exact .hd | assumption | apply Has.tl | apply Has.app)); done)); exact rfl)) | (go_simp; (try go_bits); first | exact gives_same | exact gives_skip | with_reducible exact gives_call (HW.out wx hwx)))
                  · (simp only [Act.put, sIB, sCS, sCZ]; rfl))
               | (apply walk_not rfl rfl rfl
                  · (simp only [Act.put, sIB, sCS, sCZ]; rfl)))
           intro wz hwz
           simp only [zCC, zNR]
           repeat (first | rw [fin_is] | (rw [fin_cons]; intro _ _))
           rw [fin_nil]
           try (replace hm := hm.ext hwz)
           simp only [Act.put, sIB, sCS, sCZ]
           go_wp2_with (first | ((((with_reducible show qSt); first | ((with_reducible apply wq_stW hm); exact rfl; infer_instance; exact rfl; exact rfl; (focus ((repeat (first | exact .hd | assumption | apply Swap.tl | apply Swap.app)); done)); (focus (first | rfl | omega | (simp; done) | (simp; omega))); (focus (first | rfl | omega | (simp; done) | (simp; omega))); (focus (first | exact one_map _ | (simp [one8, one32, one64]; done)))))); clear hm; intro w hm))
           go_roundw
           case rel => exact ⟨k + 1, by omega, by go_num, by rw [EH2.out]; exact hm⟩
           case measure => simp [intOf] <;> omega
       · obtain rfl : k = K + 1 := by omega
         have x1 : ¬ 128 * (((K + 1 : Nat)) : Int) < (P.length : Int) := by have := LP.out; omega
         have hd : decide (128 * (((K + 1 : Nat)) : Int) < (P.length : Int)) = false := decide_eq_false x1
         have x2 : ¬ 128 * ((K : Int) + 1) < (P.length : Int) := by have := LP.out; omega
         have hd2 : decide (128 * ((K : Int) + 1) < (P.length : Int)) = false := decide_eq_false x2
         rw [HF.out] at hm
         have lZ := finL_length ST D
         have HU2 := HU.out
         generalize finL ST D = Z at *
         have HU3 := Lib.hid HU2
         have LZ := Lib.hid lZ
         replace hm := hm.dropN
         clear HU2
         go_wp2_with fail
         go_loopw [14, 15] (fun v i wr => ∃ (k : Nat) (Mo : List Blk), k ≤ 8 ∧ i = .int .i64 k ∧ SlO Mo 5 1 v (8 * k) ((outL (Z.take k)).map v8) ∧ Own w0 wr (Mo ++ [⟨g1, 124, Z.map v64⟩])) (fun _ i _ => 8 - (intOf i).toNat)
         case atStart => exact ⟨0, [], by omega, rfl, SlO.nil _ _, hm⟩
         case round =>
           obtain ⟨k, Mo, hk, rfl, hso, hm⟩ := hrel
           obtain ⟨p0, c0, rfl⟩ := hso.form
           have HSO := Lib.hid hso
           clear hso
           by_cases hlt : k < 8
           · have hd : decide ((k : Int) < 8) = true := by simp; omega
             have lF := LZ.out
             have lp : (putL (nth Z k) 8).length = 8 := putL_length _ _
             have et := Lib.hid (outL_take Z k (by omega))
             have CP := Lib.hid fun wx => put8_any (nth Z k) wx
             generalize putL (nth Z k) 8 = B at *
             have LPB := Lib.hid (show (B.map v8).length = 8 * 1 by simp [lp])
             have FIT := Lib.hid (show (8 * k + 8) * (1 + 1) ≤ 140737488355328 by omega)
             go_wp2_with (first | (go_at_call 78; (with_reducible refine (CP.out _).mono ?_); rintro e_ w ⟨vp, rfl, hvp, hx_⟩; obtain ⟨pq, cq, rfl, hcq, hrq⟩ := hvp.reads; replace hm := hm.ext hx_; replace hrq := Lib.hid hrq; clear hx_ hvp hcq) | ((with_reducible show wpList _ _ _ (Oper.mk _ (Op.call _) _ _ _ _ :: _) _ _); refine wplO_app (M := Mo) (R := _) (ds := B.map v8) hm HSO.out rfl rfl rfl rfl Tryz.underlying22 LPB.out (cells_b hrq.out) (one_map _) FIT.out ?_; clear hm; intro v1 w M1 hm hs1; obtain ⟨p_v1, c_v1, rfl⟩ := hs1.form) | ((with_reducible show qLd); first | ((with_reducible apply wq_ldv hm); exact rfl; infer_instance; exact rfl; (focus ((repeat (first | exact .hd | assumption | apply Has.tl | apply Has.app)); done)); (focus (first | omega | (simp; omega) | (refine ltB ?_; first | omega | (simp; done) | (simp; omega)))))))
             go_roundw
             case rel => exact ⟨k + 1, M1, by omega, by go_num, by rw [et.out, List.map_append]; exact hs1, hm⟩
             case measure => simp [intOf] <;> omega
           · obtain rfl : k = 8 := by omega
             have hso := HSO.out
             rw [List.take_of_length_le (Nat.le_of_eq LZ.out)] at hso
             have hrd := slo_rdB hso hm
             obtain ⟨_, _, hv, hnc0, _, _⟩ := hso.cells hm
             cases hv
             have HRD := Lib.hid hrd
             have lO : (outL Z).length = 64 := by rw [outL_length, LZ.out]
             have hc0 : (64 : Int) ≤ (c0 : Int) := by omega
             have hsc : (size : Int) ≤ (c0 : Int) := by omega
             clear hrd hso
             go_wp2_with fail
             go_ret2
             have lt : ((outL Z).take size).length = size := by rw [List.length_take, lO]; omega
             refine ⟨_, rfl, ⟨p0, c0, ?_, ?_, ?_⟩, hm.x⟩
             · rw [HU3.out, lt]; rfl
             · rw [HU3.out, lt]; omega
             · rw [HU3.out]; exact HRD.out.take size
 · have b1 : decide ((0 : Int) < (key.length : Int)) = true := decide_eq_true (by omega)
   have b2 : (0 : Int) < (key.length : Int) := by omega
   have ek : keyL key = pad key 128 := by rw [keyL, if_neg hk0]
   have ES1 : Hid (setN F 0 (((nth F 0 ^^^ 16842752#64) ^^^ BitVec.ofInt 64 (256 * (key.length : Int))) ^^^ BitVec.ofNat 64 size) = startL size key.length) := Lib.hid ES.out
   have hlp : 0 < (pad key 128).length := by rw [pad, List.length_append]; omega
   rw [ek] at hD lD lk
   have CK := Lib.hid fun wx hx => rpadded_any key p c 128 wx hx hkc (by omega) (by decide) (by decide)
   generalize pad key 128 = PK at *
   have LDB := Lib.hid (show D.length = PK.length + b.length from lD)
   have HL := Lib.hid (show (b.map v8).length = b.length * 1 by simp)
   have c1 : (((PK.length : Int) + (b.length : Int)) == 0) = false := by rw [beq_eq_false_iff_ne]; omega
   have EP := Lib.hid (show pad D 128 = padD D by rw [padD, if_neg (by rw [LDB.out]; omega)])
   have HDP := Lib.hid hD
   have FIT0 := Lib.hid (show (PK.length + b.length) * (1 + 1) ≤ 140737488355328 by omega)
   clear hk0 lD hD ek
   go_enter Tryz.func38, Tryz.ntmps38
   go_wp2_with (first | (go_at_call 75; (with_reducible refine (CF.out _).mono ?_); rintro e_ w ⟨rfl, hx_⟩; replace hm := hm.ext hx_; clear hx_) | (go_at_call 76; (with_reducible refine (CK.out _ (HR.out.ext hm.x)).mono ?_); rintro e_ w ⟨vk, rfl, hvk, hx_⟩; obtain ⟨MK, hm, hsK⟩ := ownsRow_sl hm hx_ hvk; obtain ⟨pk, ck, rfl⟩ := hsK.form; replace hsK := Lib.hid hsK; clear hx_ hvk) | ((with_reducible show wpList _ _ _ (Oper.mk _ (Op.call _) _ _ _ _ :: _) _ _); refine wplO_app (M := MK) (R := _) (ds := b.map v8) hm hsK.out rfl rfl rfl rfl Tryz.underlying22 HL.out (cells_b (HR2.out.ext hm.x)) (one_map _) FIT0.out ?_; clear hm; intro MM_ w MM hm hs1; obtain ⟨p_MM_, c_MM_, rfl⟩ := hs1.form) | ((with_reducible show qLd); first | ((with_reducible apply wq_ldv hm); exact rfl; infer_instance; exact rfl; (focus ((repeat (first | exact .hd | assumption | apply Has.tl | apply Has.app)); done)); (focus (first | omega | (simp; omega) | (refine ltB ?_; first | omega | (simp; done) | (simp; omega)))))) | ((((with_reducible show qSt); first | ((with_reducible apply wq_stv hm); exact rfl; infer_instance; exact rfl; (focus ((repeat (first | exact .hd | assumption | apply Swap.tl | apply Swap.app)); done)); infer_instance; exact rfl; (focus (first | omega | (simp; omega) | (refine ltB ?_; first | omega | (simp; done) | (simp; omega))))) | ((with_reducible apply wq_stW hm); exact rfl; infer_instance; exact rfl; exact rfl; (focus ((repeat (first | exact .hd | assumption | apply Swap.tl | apply Swap.app)); done)); (focus (first | rfl | omega | (simp; done) | (simp; omega))); (focus (first | rfl | omega | (simp; done) | (simp; omega))); (focus (first | exact one_map _ | (simp [one8, one32, one64]; done)))))); clear hm; intro w hm) | ((first | ((with_reducible show qAl); first | ((with_reducible apply wq_new hm); exact rfl; infer_instance))); clear hm; (first | (have hx_ := g1; clear hx_; intro gx_) | intro g1); intro w hm))
   have hs2 : SlO MM 5 1 (.slice p_MM_ (PK.length + b.length) c_MM_) (PK.length + b.length) (D.map v8) := by have h := hs1; rw [← List.map_append, HDP.out] at h; exact h
   have hrD := slo_rdB hs2 hm
   obtain ⟨_, _, hvq, hcq, _, _⟩ := hs2.cells hm
   cases hvq
   have CD := rpadded_any D p_MM_ c_MM_ 128 _ hrD (by rw [LDB.out]; exact hcq) (by omega) (by decide) (by decide)
   rw [LDB.out] at CD
   refine CD.mono ?_
   clear CD hrD
   rintro e w ⟨v, rfl, hv, hx_⟩
   obtain ⟨MP, hm, hsP⟩ := ownsRow_sl (hm.dropN) hx_ hv
   rw [EP.out] at hsP
   obtain ⟨pp, cc, rfl⟩ := hsP.form
   obtain ⟨_, _, hvv, hcc, hccm, _⟩ := hsP.cells hm
   cases hvv
   rw [ES1.out] at hm
   have HP := Lib.hid hsP
   have lP := padD_length D
   have H0 := Lib.hid (show docF (startL size key.length) D 0 = startL size key.length from rfl)
   have HS := Lib.hid (docF_step (startL size key.length) D)
   have HE := Lib.hid (docF_last (startL size key.length) D)
   have HF := Lib.hid (docF_end (startL size key.length) D)
   have HN := Lib.hid (docF_length (startL size key.length) D (startL_length _ _))
   have LB := Lib.hid fun k (hk : k < nbk D.length + 1) => (show (bkAt (padD D) k).length = 128 by rw [bkAt, List.length_take, List.length_drop, lP]; omega)
   have HU := Lib.hid (show sumL size key b = (outL (finL (startL size key.length) D)).take size by rw [sumL_eq, HD0.out])
   generalize startL size key.length = ST at *
   rw [← H0.out] at hm
   generalize hPP : padD D = P at *
   have hn1 := nbk_le D.length
   have hn2 := nbk_rest D.length
   have LP := Lib.hid lP
   have hPl : P.length ≤ 3298534883328 := by rw [lP]; omega
   generalize hK : nbk D.length = K at *
   clear hsP hv hx_ hPP lP hK
   go_wp2_with fail
   go_loopw [11] (fun i wr => ∃ k : Nat, k ≤ K + 1 ∧ i = .int .i64 (128 * (k : Int)) ∧ Own w0 wr (MP ++ [⟨g1, 124, (docF ST D k).map v64⟩])) (fun i _ => 128 * (K + 1) - (intOf i).toNat)
   case atStart => exact ⟨0, by omega, rfl, hm⟩
   case round =>
     obtain ⟨k, hk, rfl, hm⟩ := hrel
     by_cases hlt : k < K + 1
     · have x1 : 128 * (k : Int) < (P.length : Int) := by have := LP.out; omega
       have hd : decide (128 * (k : Int) < (P.length : Int)) = true := decide_eq_true x1
       have x2 : (0 : Int) ≤ 128 * (k : Int) := by omega
       have x3 : 128 * (k : Int) + 128 ≤ (cc : Int) := by have := LP.out; omega
       have x4 : (128 * (k : Int)).toNat = 128 * k := by omega
       have x5 : (128 * (k : Int) + 128).toNat = 128 * k + 128 := by omega
       have x6 : 128 * k + 128 - 128 * k = 128 := by omega
       have x9 : ¬ cc = 128 * k := by have := LP.out; omega
       have x7 : 128 * (k : Int) ≤ 128 * (k : Int) + 128 := by omega
       have x8 : (128 * k + 128 : Nat) ≤ P.length := by have := LP.out; omega
       obtain ⟨a, rfl⟩ := Option.isSome_iff_exists.1 ((slo_rdB HP.out hm).1 (by omega))
       have hrb : RdB wr (some (a.add (128 * k))) (bkAt P k) := (slo_rdB HP.out hm).sub (128 * k) 128 x8 (by omega)
       have HRB := Lib.hid hrb
       have lb := LB.out k hlt
       clear hrb
       by_cases hl : k = K
       · have y1 : (128 * (k : Int) + 128 == (P.length : Int)) = true := by rw [beq_iff_eq]; have := LP.out; omega
         have CR := Lib.hid fun cx wx hx => rcomp_G (docF ST D k) (bkAt P k) (some (a.add (128 * k))) cx D.length ((PK.length : Int) + (b.length : Int)) true (HN.out k) lb (by rw [LDB.out]; omega) wx hx
         have e1 : compL (docF ST D k) (mL (bkAt P k)) (BitVec.ofNat 64 D.length) 0#64 true = docF ST D (k + 1) := by rw [hl]; exact HE.out
         rw [e1] at CR
         have ln := HN.out k
         have ln2 := HN.out (k + 1)
         generalize docF ST D k = H1 at *
         generalize hH2 : docF ST D (k + 1) = H2 at *
         have EH2 := Lib.hid hH2
         clear e1 hl hH2
         have lo64 : D.length < 18446744073709551616 := by omega
         have xc : 128 ≤ cc - 128 * k := by omega
         go_wp2_with fail
         have HW := Lib.hid fun wx (hwx : Ext _ wx) => CR.out (cc - 128 * k) wx ⟨HRB.out.ext hwx, xc, lo64⟩
         refine region_at 10 (fun w' => Ext _ w') 91 (by kernel_rfl) (by kernel_rfl) rfl (fun _ _ h k => h.trans k) (drew_ext _) ?_
         simp only [tSC, List.take_zero, dSC, List.drop_zero, List.map_cons, List.map_nil]
         repeat (first
             | (apply walk_is rfl rfl rfl
                · (intro wx hwx; first | ((with_reducible show gives _ _ _ (Sem.run _ (execOp _ (Oper.mk _ (Op.load _ _) _ _ _ _)) _)); first | ((with_reducible apply gq_ldv (hm.ext hwx)); infer_instance; exact rfl; (focus ((repeat (first | exact .hd | assumption | apply Has.tl | apply Has.app)); done)); (focus (first | omega | (simp; omega) | (refine ltB ?_; first | omega | (simp; done) | (simp; omega))))) | ((with_reducible apply gq_ldW (hm.ext hwx)); infer_instance; exact rfl; (focus ((repeat (first | exact .hd | assumption | apply Has.tl | apply Has.app)); done)); (focus (first | rfl | omega | (simp; done) | (simp; omega)))) | ((with_reducible apply gq_ld1 (hm.ext hwx)); infer_instance; exact rfl; (focus ((repeat (first | exact .hd | assumption | apply Has.tl | apply Has.app)); done)); exact rfl)) | (go_simp; (try go_bits); first | exact gives_same | exact gives_skip | with_reducible exact gives_call (HW.out wx hwx)))
                · (simp only [Act.put, sIB, sCS, sCZ]; rfl))
             | (apply walk_not rfl rfl rfl
                · (simp only [Act.put, sIB, sCS, sCZ]; rfl)))
         intro wz hwz
         simp only [zCC, zNR]
         repeat (first | rw [fin_is] | (rw [fin_cons]; intro _ _))
         rw [fin_nil]
         try (replace hm := hm.ext hwz)
         simp only [Act.put, sIB, sCS, sCZ]
         go_wp2_with (first | ((((with_reducible show qSt); first | ((with_reducible apply wq_stW hm); exact rfl; infer_instance; exact rfl; exact rfl; (focus ((repeat (first | exact .hd | assumption | apply Swap.tl | apply Swap.app)); done)); (focus (first | rfl | omega | (simp; done) | (simp; omega))); (focus (first | rfl | omega | (simp; done) | (simp; omega))); (focus (first | exact one_map _ | (simp [one8, one32, one64]; done)))))); clear hm; intro w hm))
         go_roundw
         case rel => exact ⟨k + 1, by omega, by go_num, by rw [EH2.out]; exact hm⟩
         case measure => simp [intOf] <;> omega
       · have y1 : (128 * (k : Int) + 128 == (P.length : Int)) = false := by rw [beq_eq_false_iff_ne]; have := LP.out; omega
         have CR := Lib.hid fun cx wx hx => rcomp_G (docF ST D k) (bkAt P k) (some (a.add (128 * k))) cx (128 * k + 128) (128 * (k : Int) + 128) false (HN.out k) lb (by omega) wx hx
         have e1 : compL (docF ST D k) (mL (bkAt P k)) (BitVec.ofNat 64 (128 * k + 128)) 0#64 false = docF ST D (k + 1) := HS.out k (by omega)
         rw [e1] at CR
         have ln := HN.out k
         have ln2 := HN.out (k + 1)
         generalize docF ST D k = H1 at *
         generalize hH2 : docF ST D (k + 1) = H2 at *
         have EH2 := Lib.hid hH2
         clear e1 hl hH2
         have lo64 : 128 * k + 128 < 18446744073709551616 := by omega
         have xc : 128 ≤ cc - 128 * k := by omega
         go_wp2_with fail
         have HW := Lib.hid fun wx (hwx : Ext _ wx) => CR.out (cc - 128 * k) wx ⟨HRB.out.ext hwx, xc, lo64⟩
         refine region_at 10 (fun w' => Ext _ w') 91 (by kernel_rfl) (by kernel_rfl) rfl (fun _ _ h k => h.trans k) (drew_ext _) ?_
         simp only [tSC, List.take_zero, dSC, List.drop_zero, List.map_cons, List.map_nil]
         repeat (first
             | (apply walk_is rfl rfl rfl
                · (intro wx hwx; first | ((with_reducible show gives _ _ _ (Sem.run _ (execOp _ (Oper.mk _ (Op.load _ _) _ _ _ _)) _)); first | ((with_reducible apply gq_ldv (hm.ext hwx)); infer_instance; exact rfl; (focus ((repeat (first | exact .hd | assumption | apply Has.tl | apply Has.app)); done)); (focus (first | omega | (simp; omega) | (refine ltB ?_; first | omega | (simp; done) | (simp; omega))))) | ((with_reducible apply gq_ldW (hm.ext hwx)); infer_instance; exact rfl; (focus ((repeat (first | exact .hd | assumption | apply Has.tl | apply Has.app)); done)); (focus (first | rfl | omega | (simp; done) | (simp; omega)))) | ((with_reducible apply gq_ld1 (hm.ext hwx)); infer_instance; exact rfl; (focus ((repeat (first | exact .hd | assumption | apply Has.tl | apply Has.app)); done)); exact rfl)) | (go_simp; (try go_bits); first | exact gives_same | exact gives_skip | with_reducible exact gives_call (HW.out wx hwx)))
                · (simp only [Act.put, sIB, sCS, sCZ]; rfl))
             | (apply walk_not rfl rfl rfl
                · (simp only [Act.put, sIB, sCS, sCZ]; rfl)))
         intro wz hwz
         simp only [zCC, zNR]
         repeat (first | rw [fin_is] | (rw [fin_cons]; intro _ _))
         rw [fin_nil]
         try (replace hm := hm.ext hwz)
         simp only [Act.put, sIB, sCS, sCZ]
         go_wp2_with (first | ((((with_reducible show qSt); first | ((with_reducible apply wq_stW hm); exact rfl; infer_instance; exact rfl; exact rfl; (focus ((repeat (first | exact .hd | assumption | apply Swap.tl | apply Swap.app)); done)); (focus (first | rfl | omega | (simp; done) | (simp; omega))); (focus (first | rfl | omega | (simp; done) | (simp; omega))); (focus (first | exact one_map _ | (simp [one8, one32, one64]; done)))))); clear hm; intro w hm))
         go_roundw
         case rel => exact ⟨k + 1, by omega, by go_num, by rw [EH2.out]; exact hm⟩
         case measure => simp [intOf] <;> omega
     · obtain rfl : k = K + 1 := by omega
       have x1 : ¬ 128 * (((K + 1 : Nat)) : Int) < (P.length : Int) := by have := LP.out; omega
       have hd : decide (128 * (((K + 1 : Nat)) : Int) < (P.length : Int)) = false := decide_eq_false x1
       have x2 : ¬ 128 * ((K : Int) + 1) < (P.length : Int) := by have := LP.out; omega
       have hd2 : decide (128 * ((K : Int) + 1) < (P.length : Int)) = false := decide_eq_false x2
       rw [HF.out] at hm
       have lZ := finL_length ST D
       have HU2 := HU.out
       generalize finL ST D = Z at *
       have HU3 := Lib.hid HU2
       have LZ := Lib.hid lZ
       replace hm := hm.dropN
       clear HU2
       go_wp2_with fail
       go_loopw [14, 15] (fun v i wr => ∃ (k : Nat) (Mo : List Blk), k ≤ 8 ∧ i = .int .i64 k ∧ SlO Mo 5 1 v (8 * k) ((outL (Z.take k)).map v8) ∧ Own w0 wr (Mo ++ [⟨g1, 124, Z.map v64⟩])) (fun _ i _ => 8 - (intOf i).toNat)
       case atStart => exact ⟨0, [], by omega, rfl, SlO.nil _ _, hm⟩
       case round =>
         obtain ⟨k, Mo, hk, rfl, hso, hm⟩ := hrel
         obtain ⟨p0, c0, rfl⟩ := hso.form
         have HSO := Lib.hid hso
         clear hso
         by_cases hlt : k < 8
         · have hd : decide ((k : Int) < 8) = true := by simp; omega
           have lF := LZ.out
           have lp : (putL (nth Z k) 8).length = 8 := putL_length _ _
           have et := Lib.hid (outL_take Z k (by omega))
           have CP := Lib.hid fun wx => put8_any (nth Z k) wx
           generalize putL (nth Z k) 8 = B at *
           have LPB := Lib.hid (show (B.map v8).length = 8 * 1 by simp [lp])
           have FIT := Lib.hid (show (8 * k + 8) * (1 + 1) ≤ 140737488355328 by omega)
           go_wp2_with (first | (go_at_call 78; (with_reducible refine (CP.out _).mono ?_); rintro e_ w ⟨vp, rfl, hvp, hx_⟩; obtain ⟨pq, cq, rfl, hcq, hrq⟩ := hvp.reads; replace hm := hm.ext hx_; replace hrq := Lib.hid hrq; clear hx_ hvp hcq) | ((with_reducible show wpList _ _ _ (Oper.mk _ (Op.call _) _ _ _ _ :: _) _ _); refine wplO_app (M := Mo) (R := _) (ds := B.map v8) hm HSO.out rfl rfl rfl rfl Tryz.underlying22 LPB.out (cells_b hrq.out) (one_map _) FIT.out ?_; clear hm; intro v1 w M1 hm hs1; obtain ⟨p_v1, c_v1, rfl⟩ := hs1.form) | ((with_reducible show qLd); first | ((with_reducible apply wq_ldv hm); exact rfl; infer_instance; exact rfl; (focus ((repeat (first | exact .hd | assumption | apply Has.tl | apply Has.app)); done)); (focus (first | omega | (simp; omega) | (refine ltB ?_; first | omega | (simp; done) | (simp; omega)))))))
           go_roundw
           case rel => exact ⟨k + 1, M1, by omega, by go_num, by rw [et.out, List.map_append]; exact hs1, hm⟩
           case measure => simp [intOf] <;> omega
         · obtain rfl : k = 8 := by omega
           have hso := HSO.out
           rw [List.take_of_length_le (Nat.le_of_eq LZ.out)] at hso
           have hrd := slo_rdB hso hm
           obtain ⟨_, _, hv, hnc0, _, _⟩ := hso.cells hm
           cases hv
           have HRD := Lib.hid hrd
           have lO : (outL Z).length = 64 := by rw [outL_length, LZ.out]
           have hc0 : (64 : Int) ≤ (c0 : Int) := by omega
           have hsc : (size : Int) ≤ (c0 : Int) := by omega
           clear hrd hso
           go_wp2_with fail
           go_ret2
           have lt : ((outL Z).take size).length = size := by rw [List.length_take, lO]; omega
           refine ⟨_, rfl, ⟨p0, c0, ?_, ?_, ?_⟩, hm.x⟩
           · rw [HU3.out, lt]; rfl
           · rw [HU3.out, lt]; omega
           · rw [HU3.out]; exact HRD.out.take size
end Go.Proofs.YtaijfigohlkccaaGreatDoor
