/-
  Layer 6: the document's compression. No conditions beyond those written in each theorem.
-/
import Derived.Test.YtaijfigohlkccaaGreatDoorZCoreTurns0
import Derived.Test.YtaijfigohlkccaaGreatDoorZCoreTurns24
import Derived.Test.YtaijfigohlkccaaGreatDoorZCoreTurns8
set_option linter.unusedSimpArgs false
set_option linter.unusedVariables false
namespace Go.Proofs.YtaijfigohlkccaaGreatDoor
open Go Go.RowKit
set_option maxRecDepth 100000
def rF (b : List Byte) (i : Nat) : BitVec 64 := num b (8 * (i : Int)) 8
theorem rF_mL (b : List Byte) : tab 16 (rF b) = mL b := rfl
theorem stir_doc (v : List (BitVec 64)) (i by_ a b c d : Nat) (x y : BitVec 64) (h1 : a = i) (h2 : b = 4 + (i + by_) % 4) (h3 : c = 8 + (i + 2 * by_) % 4) (h4 : d = 12 + (i + 3 * by_) % 4) : stirR v a b c d x y = stirL v i by_ x y := by subst h1 h2 h3 h4; rfl
theorem not_xor (x : BitVec 64) : x ^^^ 18446744073709551615#64 = ~~~x := by
 rw [show (18446744073709551615#64 : BitVec 64) = BitVec.allOnes 64 from by decide, BitVec.xor_allOnes]
@[local go_sem] theorem indexAt_vI (t : TypeId) (x : Value) (i : Byte) : Instr.indexAt t x (vI i) = Instr.indexAt t x (.int .i64 (i.toNat : Int)) := rfl
theorem rnum_G (b : List Byte) (p : Option Addr) (n c : Nat) (i : Int) (w : World) (hb : b.length = n) (hn : n ≤ 140737488355328) (h0 : 0 ≤ i) (h1 : i ≤ 1000) (hr : RdB w p b) (hc : n ≤ c) : Gives Tryz.prog 99 #[.slice p n c, .int .i64 i, .int .i64 8] w (v64 (num b i 8)) := by
 subst hb; exact number8 b p c i w hr hn (by omega) (by omega)
attribute [local simp] compL_length
set_option maxHeartbeats 8000000 in
theorem rcompress_any (h : List (BitVec 64)) (b : List Byte) (p : Option Addr) (c : Nat) (lo hi : BitVec 64) (last : Bool) (hh : h.length = 8) (hb : b.length ≤ 128) (hc : b.length ≤ c) (w0 : World) (hr : RdB w0 p b) :
   Gives Tryz.prog 77 #[A64 h, .slice p b.length c, v64 lo, v64 hi, .bool last] w0 (A64 (compL h (mL b) lo hi last)) := by
 unfold Gives
 have hm := Own.start w0
 have HR := Lib.hid hr
 have HH := Lib.hid hh
 have hb1 : b.length ≤ 140737488355328 := by omega
 have hh1 := Nat.le_of_eq hh
 have hh2 := Nat.le_of_eq hh.symm
 obtain ⟨V, hV⟩ : ∃ V, initL h lo hi last = V := ⟨_, rfl⟩
 have HV := Lib.hid hV
 have HI := Lib.hid (hV ▸ initL_length h lo hi last)
 have EC := Lib.hid (show compL h (mL b) lo hi last = tab 8 fun i => nth h i ^^^ (nth (roundF (mL b) V 12) i ^^^ nth (roundF (mL b) V 12) (i + 8)) by rw [compL, hV])
 have lC : (compL h (mL b) lo hi last).length = 8 := compL_length _ _ _ _ _
 generalize compL h (mL b) lo hi last = CL at *
 clear hr hh hV
 go_enter Tryz.func77, Tryz.ntmps77
 go_wp2_with (first | (go_at_call 75; (with_reducible refine (rfirst_any _).mono ?_); rintro e_ w ⟨rfl, hx_⟩; replace hm := hm.ext hx_; clear hx_) | ((((with_reducible show qSt); first | ((with_reducible apply wq_stW hm); exact rfl; infer_instance; exact rfl; exact rfl; (focus (repeat first | exact .hd | assumption | apply Swap.tl); done); (focus (first | rfl | omega | (simp; done) | (simp; omega))); (focus (first | rfl | omega | (simp; done) | (simp; omega))); (focus (first | exact one_map _ | (simp [one8, one32, one64]; done)))))); clear hm; intro w hm) | ((first | ((with_reducible show qAl); first | ((with_reducible apply wq_new hm); exact rfl; infer_instance)) | ((with_reducible show qBx); first | ((with_reducible apply wq_boxN hm); exact rfl; exact rfl))); clear hm; (first | (have hx_ := g1; clear hx_; (first | (have hx_ := g2; clear hx_; (first | (have hx_ := g3; clear hx_; (first | (have hx_ := g4; clear hx_; (first | (have hx_ := g5; clear hx_; (first | (have hx_ := g6; clear hx_; intro gx_) | intro g6)) | intro g5)) | intro g4)) | intro g3)) | intro g2)) | intro g1); intro w hm))
 go_loopw [14] (fun i wr => ∃ k : Nat, k ≤ 8 ∧ i = .int .i64 k ∧ Own w0 wr [⟨g5, 147, (zer (n := 64) 16).map v64⟩, ⟨g4, 147, (startF h k).map v64⟩, ⟨g3, 124, firstL.map v64⟩, ⟨g2, 124, (zer (n := 64) 8).map v64⟩, ⟨g1, 124, h.map v64⟩]) (fun i _ => 8 - (intOf i).toNat)
 case atStart => exact ⟨0, by omega, rfl, hm⟩
 case round =>
   obtain ⟨k, hk, rfl, hm⟩ := hrel
   by_cases hlt : k < 8
   · have hd : decide ((k : Int) < 8) = true := by simp; omega
     go_wp2_with fail
     have sl := startF_length h k
     have o1 := hm.turn64 (g := g4) (k := k) (b := nth h k) (by repeat (first | exact Swap.hd | assumption | apply Swap.tl))
     have o2 := o1.turn64 (g := g4) (k := k + 8) (b := nth firstL k) (by repeat (first | exact Swap.hd | assumption | apply Swap.tl))
     have r6 := hm.row (g := g4) (by repeat (first | exact Has.hd | assumption | apply Has.tl))
     have hcH : wr.cell? ⟨g1, k, none⟩ = some (v64 (nth h k)) := by rw [row_cell (hm.row (g := g1) (by repeat (first | exact Has.hd | assumption | apply Has.tl))), map64_at h (by omega)]
     have hcF : wr.cell? ⟨g3, k, none⟩ = some (v64 (nth firstL k)) := by rw [row_cell (hm.row (g := g3) (by repeat (first | exact Has.hd | assumption | apply Has.tl))), map64_at firstL (by rw [firstL_length]; omega)]
     have hcV : wr.cell? ⟨g4, k, none⟩ = some (v64 (nth (startF h k) k)) := by rw [row_cell r6, map64_at _ (by omega)]
     have hcW : wr.cell? ⟨g4, k + 8, none⟩ = some (v64 (nth (startF h k) (k + 8))) := by rw [row_cell r6, map64_at _ (by omega)]
     have hf1 := row_free r6 k
     have hf2 := row_free r6 (k + 8)
     have hne : ¬ k = k + 8 := by omega
     have hk8 : (k : Int) < 8 := by omega
     have hk16 : (k : Int) < 16 := by omega
     have hk9 : (k : Int) + 8 < 16 := by omega
     have nd := hm.2.1
     simp only [List.map_cons, List.map_nil, List.nodup_cons, List.mem_cons, List.not_mem_nil, or_false, not_or] at nd
     have n1 : ¬ g4 = g3 := nd.2.1.1
     have n2 : ¬ g3 = g4 := fun e => n1 e.symm
     have n3 : ¬ g4 = g1 := nd.2.1.2.2
     have n4 : ¬ g1 = g4 := fun e => n3 e.symm
     clear nd
     have O2 := Lib.hid o2
     clear o1 o2 r6 hm
     go_region
     all_goals
       go_wp2_with fail
       go_roundw
       case rel => exact ⟨k + 1, by omega, by go_num, O2.out.drew⟩
       case measure => simp [intOf] <;> omega
   · obtain rfl : k = 8 := by omega
     rw [show ((8 : Nat) : Int) = 8 from rfl]
     have e2 : ∀ v0, startF h 8 = v0 → V = if last then notN (xorN (xorN v0 12 lo) 13 hi) 14 else xorN (xorN v0 12 lo) 13 hi := by rintro v0 rfl; rw [← HV.out]; rfl
     obtain ⟨v0, hv0⟩ : ∃ v0, startF h 8 = v0 := ⟨_, rfl⟩
     have hs : v0.length = 16 := by rw [← hv0]; exact startF_length h 8
     have E3 := Lib.hid (e2 v0 hv0)
     rw [hv0] at hm
     clear e2 hv0
     go_wp2_with fail
     go_loopw [15] (fun i wr => ∃ k : Nat, k ≤ 16 ∧ i = .int .i64 k ∧ Own w0 wr [⟨g5, 147, (part 16 k (rF b) fun _ => 0).map v64⟩, ⟨g4, 147, v0.map v64⟩, ⟨g3, 124, firstL.map v64⟩, ⟨g2, 124, (zer (n := 64) 8).map v64⟩, ⟨g1, 124, h.map v64⟩]) (fun i _ => 16 - (intOf i).toNat)
     case atStart => exact ⟨0, by omega, rfl, by rw [← zer_start]; exact hm⟩
     case round =>
       obtain ⟨k, hk, rfl, hm⟩ := hrel
       by_cases hlt : k < 16
       · have hd : decide ((k : Int) < 16) = true := by simp; omega
         go_wp2_with (first | (go_at_call 99; (with_reducible refine (rnum_G b p _ _ _ _ rfl hb1 (by omega) (by omega) (HR.out.ext hm.x) hc).mono ?_); rintro e_ w ⟨rfl, hx_⟩; replace hm := hm.ext hx_; clear hx_) | ((((with_reducible show qSt); first | ((with_reducible apply wq_stv hm); exact rfl; infer_instance; exact rfl; (focus (repeat first | exact .hd | assumption | apply Swap.tl); done); infer_instance; exact rfl; (focus (first | omega | (simp; omega) | (refine ltB ?_; first | omega | (simp; done) | (simp; omega))))))); clear hm; intro w hm))
         go_roundw
         case rel =>
           rw [part_set' (f := rF b) (x := num b (8 * (k : Int)) 8) hlt rfl] at hm
           exact ⟨k + 1, by omega, by go_num, hm⟩
         case measure => simp [intOf] <;> omega
       · obtain rfl : k = 16 := by omega
         rw [show ((16 : Nat) : Int) = 16 from rfl]
         have hmb : (mL b).length = 16 := tab_length
         have hi0 := HI.out
         have REST := Lib.hid (show roundF (mL b) V 0 = V from rfl)
         rw [part_all, rF_mL] at hm
         generalize mL b = M at *
         have hm1 := Nat.le_of_eq hmb
         have hm2 := Nat.le_of_eq hmb.symm
         have e3 := E3.out
         cases last
         all_goals
           simp only [Bool.false_eq_true, if_true, if_false] at e3
           have E4 := Lib.hid e3
           clear e3
           go_wp2_with (first | ((with_reducible show qLd); first | ((with_reducible apply wq_ldv hm); exact rfl; infer_instance; exact rfl; (focus (repeat first | exact .hd | assumption | apply Has.tl); done); (focus (first | omega | (simp; omega) | (refine ltB ?_; first | omega | (simp; done) | (simp; omega)))))) | ((((with_reducible show qSt); first | ((with_reducible apply wq_stv hm); exact rfl; infer_instance; exact rfl; (focus (repeat first | exact .hd | assumption | apply Swap.tl); done); infer_instance; exact rfl; (focus (first | omega | (simp; omega) | (refine ltB ?_; first | omega | (simp; done) | (simp; omega))))))); clear hm; intro w hm))
           try rw [not_xor] at hm
           first
             | (replace hm : Own w0 w [⟨g5, 147, M.map v64⟩, ⟨g4, 147, (xorN (xorN v0 12 lo) 13 hi).map v64⟩, ⟨g3, 124, firstL.map v64⟩, ⟨g2, 124, (zer (n := 64) 8).map v64⟩, ⟨g1, 124, h.map v64⟩] := hm
                rw [← E4.out] at hm)
             | (replace hm : Own w0 w [⟨g5, 147, M.map v64⟩, ⟨g4, 147, (notN (xorN (xorN v0 12 lo) 13 hi) 14).map v64⟩, ⟨g3, 124, firstL.map v64⟩, ⟨g2, 124, (zer (n := 64) 8).map v64⟩, ⟨g1, 124, h.map v64⟩] := hm
                rw [← E4.out] at hm)
           rw [← REST.out] at hm
           clear REST E4 E3
           go_loopw [16] (fun i wr => ∃ r : Nat, r ≤ 12 ∧ i = .int .i64 r ∧ Own w0 wr [⟨g5, 147, M.map v64⟩, ⟨g4, 147, (roundF M V r).map v64⟩, ⟨g3, 124, firstL.map v64⟩, ⟨g2, 124, (zer (n := 64) 8).map v64⟩, ⟨g1, 124, h.map v64⟩]) (fun i _ => 12 - (intOf i).toNat)
           case atStart => exact ⟨0, by omega, rfl, hm⟩
           case round =>
             obtain ⟨r, hr, rfl, hm⟩ := hrel
             by_cases hlt : r < 12
             · have hd : decide ((r : Int) < 12) = true := by simp; omega
               obtain ⟨q, hq⟩ : ∃ q : Nat, r % 10 = q := ⟨_, rfl⟩
               have CR := Lib.hid fun wx => rrow_any r q hq (by omega) wx
               have e1 : roundF M V (r + 1) = stepF M (rowL q) (roundF M V r) 8 := by rw [roundF, ← hq]; simp only [rowL, Nat.mod_mod]
               have lR : (rowL q).length = 16 := rowL_length q
               have LTR := Lib.hid (rowL_lt q)
               have lv : (roundF M V r).length = 16 := by rw [roundF_length, hi0]
               generalize roundF M V r = W0 at *
               generalize rowL q = RW at *
               obtain ⟨W1, hW1⟩ : ∃ W, stirR W0 0 4 8 12 (nth M (nth RW 0).toNat) (nth M (nth RW 1).toNat) = W := ⟨_, rfl⟩
               have lw1 : W1.length = 16 := by rw [← hW1, stirR_length, lv]
               have D1 := Lib.hid fun wx => hW1 ▸ stirred_any W0 0 4 8 12 0 4 8 12 (nth M (nth RW 0).toNat) (nth M (nth RW 1).toNat) lv rfl rfl rfl rfl (by omega) (by omega) (by omega) (by omega) wx
               obtain ⟨W2, hW2⟩ : ∃ W, stirR W1 1 5 9 13 (nth M (nth RW 2).toNat) (nth M (nth RW 3).toNat) = W := ⟨_, rfl⟩
               have lw2 : W2.length = 16 := by rw [← hW2, stirR_length, lw1]
               have D2 := Lib.hid fun wx => hW2 ▸ stirred_any W1 1 5 9 13 1 5 9 13 (nth M (nth RW 2).toNat) (nth M (nth RW 3).toNat) lw1 rfl rfl rfl rfl (by omega) (by omega) (by omega) (by omega) wx
               obtain ⟨W3, hW3⟩ : ∃ W, stirR W2 2 6 10 14 (nth M (nth RW 4).toNat) (nth M (nth RW 5).toNat) = W := ⟨_, rfl⟩
               have lw3 : W3.length = 16 := by rw [← hW3, stirR_length, lw2]
               have D3 := Lib.hid fun wx => hW3 ▸ stirred_any W2 2 6 10 14 2 6 10 14 (nth M (nth RW 4).toNat) (nth M (nth RW 5).toNat) lw2 rfl rfl rfl rfl (by omega) (by omega) (by omega) (by omega) wx
               obtain ⟨W4, hW4⟩ : ∃ W, stirR W3 3 7 11 15 (nth M (nth RW 6).toNat) (nth M (nth RW 7).toNat) = W := ⟨_, rfl⟩
               have lw4 : W4.length = 16 := by rw [← hW4, stirR_length, lw3]
               have D4 := Lib.hid fun wx => hW4 ▸ stirred_any W3 3 7 11 15 3 7 11 15 (nth M (nth RW 6).toNat) (nth M (nth RW 7).toNat) lw3 rfl rfl rfl rfl (by omega) (by omega) (by omega) (by omega) wx
               obtain ⟨W5, hW5⟩ : ∃ W, stirR W4 0 5 10 15 (nth M (nth RW 8).toNat) (nth M (nth RW 9).toNat) = W := ⟨_, rfl⟩
               have lw5 : W5.length = 16 := by rw [← hW5, stirR_length, lw4]
               have D5 := Lib.hid fun wx => hW5 ▸ stirred_any W4 0 5 10 15 0 5 10 15 (nth M (nth RW 8).toNat) (nth M (nth RW 9).toNat) lw4 rfl rfl rfl rfl (by omega) (by omega) (by omega) (by omega) wx
               obtain ⟨W6, hW6⟩ : ∃ W, stirR W5 1 6 11 12 (nth M (nth RW 10).toNat) (nth M (nth RW 11).toNat) = W := ⟨_, rfl⟩
               have lw6 : W6.length = 16 := by rw [← hW6, stirR_length, lw5]
               have D6 := Lib.hid fun wx => hW6 ▸ stirred_any W5 1 6 11 12 1 6 11 12 (nth M (nth RW 10).toNat) (nth M (nth RW 11).toNat) lw5 rfl rfl rfl rfl (by omega) (by omega) (by omega) (by omega) wx
               obtain ⟨W7, hW7⟩ : ∃ W, stirR W6 2 7 8 13 (nth M (nth RW 12).toNat) (nth M (nth RW 13).toNat) = W := ⟨_, rfl⟩
               have lw7 : W7.length = 16 := by rw [← hW7, stirR_length, lw6]
               have D7 := Lib.hid fun wx => hW7 ▸ stirred_any W6 2 7 8 13 2 7 8 13 (nth M (nth RW 12).toNat) (nth M (nth RW 13).toNat) lw6 rfl rfl rfl rfl (by omega) (by omega) (by omega) (by omega) wx
               obtain ⟨W8, hW8⟩ : ∃ W, stirR W7 3 4 9 14 (nth M (nth RW 14).toNat) (nth M (nth RW 15).toNat) = W := ⟨_, rfl⟩
               have lw8 : W8.length = 16 := by rw [← hW8, stirR_length, lw7]
               have D8 := Lib.hid fun wx => hW8 ▸ stirred_any W7 3 4 9 14 3 4 9 14 (nth M (nth RW 14).toNat) (nth M (nth RW 15).toNat) lw7 rfl rfl rfl rfl (by omega) (by omega) (by omega) (by omega) wx
               have e8 : stepF M RW W0 8 = W8 := by
                 simp only [stepF]
                 rw [← stir_doc W0 0 0 0 4 8 12 _ _ rfl rfl rfl rfl, hW1]
                 rw [← stir_doc W1 1 0 1 5 9 13 _ _ rfl rfl rfl rfl, hW2]
                 rw [← stir_doc W2 2 0 2 6 10 14 _ _ rfl rfl rfl rfl, hW3]
                 rw [← stir_doc W3 3 0 3 7 11 15 _ _ rfl rfl rfl rfl, hW4]
                 rw [← stir_doc W4 0 1 0 5 10 15 _ _ rfl rfl rfl rfl, hW5]
                 rw [← stir_doc W5 1 1 1 6 11 12 _ _ rfl rfl rfl rfl, hW6]
                 rw [← stir_doc W6 2 1 2 7 8 13 _ _ rfl rfl rfl rfl, hW7]
                 rw [← stir_doc W7 3 1 3 4 9 14 _ _ rfl rfl rfl rfl, hW8]
               have E1 := Lib.hid (e1.trans e8)
               clear e1 e8 hq hW1 hW2 hW3 hW4 hW5 hW6 hW7 hW8
               have c0 : ((nth RW 0).toNat : Int) < 16 := by have := LTR.out 0; omega
               have c1 : ((nth RW 1).toNat : Int) < 16 := by have := LTR.out 1; omega
               have c2 : ((nth RW 2).toNat : Int) < 16 := by have := LTR.out 2; omega
               have c3 : ((nth RW 3).toNat : Int) < 16 := by have := LTR.out 3; omega
               have c4 : ((nth RW 4).toNat : Int) < 16 := by have := LTR.out 4; omega
               have c5 : ((nth RW 5).toNat : Int) < 16 := by have := LTR.out 5; omega
               have c6 : ((nth RW 6).toNat : Int) < 16 := by have := LTR.out 6; omega
               have c7 : ((nth RW 7).toNat : Int) < 16 := by have := LTR.out 7; omega
               have c8 : ((nth RW 8).toNat : Int) < 16 := by have := LTR.out 8; omega
               have c9 : ((nth RW 9).toNat : Int) < 16 := by have := LTR.out 9; omega
               have c10 : ((nth RW 10).toNat : Int) < 16 := by have := LTR.out 10; omega
               have c11 : ((nth RW 11).toNat : Int) < 16 := by have := LTR.out 11; omega
               have c12 : ((nth RW 12).toNat : Int) < 16 := by have := LTR.out 12; omega
               have c13 : ((nth RW 13).toNat : Int) < 16 := by have := LTR.out 13; omega
               have c14 : ((nth RW 14).toNat : Int) < 16 := by have := LTR.out 14; omega
               have c15 : ((nth RW 15).toNat : Int) < 16 := by have := LTR.out 15; omega
               go_wp2_with (first | (go_at_call 100; (with_reducible refine (CR.out _).mono ?_); rintro e_ w ⟨rfl, hx_⟩; replace hm := hm.ext hx_; clear hx_) | ((with_reducible apply wq_stW (cs' := RW.map vI) hm); exact rfl; infer_instance; exact rfl; exact rfl; (focus (repeat first | exact .hd | assumption | apply Swap.tl); done); (first | (simp; omega)); (first | rfl | (simp; done)); exact one_vI _; clear hm; intro w hm) | ((first | ((with_reducible show qAl); first | ((with_reducible apply wq_new hm); exact rfl; infer_instance))); clear hm; (first | (have hx_ := g1; clear hx_; (first | (have hx_ := g2; clear hx_; (first | (have hx_ := g3; clear hx_; (first | (have hx_ := g4; clear hx_; (first | (have hx_ := g5; clear hx_; (first | (have hx_ := g6; clear hx_; intro gx_) | intro g6)) | intro g5)) | intro g4)) | intro g3)) | intro g2)) | intro g1); intro w hm))
               refine region_at 10 (fun w' => Ext _ w') 166 (by kernel_rfl) (by kernel_rfl) rfl (fun _ _ h k => h.trans k) (drew_ext _) ?_
               simp only [tSC, List.take_zero, dSC, List.drop_zero, List.map_cons, List.map_nil]
               repeat (first
                   | (apply walk_is rfl rfl rfl
                      · (intro wx hwx; first | ((with_reducible show gives _ _ _ (Sem.run _ (execOp _ (Oper.mk _ (Op.load _ _) _ _ _ _)) _)); first | ((with_reducible apply gq_ldv (hm.ext hwx)); infer_instance; exact rfl; (focus (repeat first | exact .hd | assumption | apply Has.tl); done); (focus (first | omega | (simp; omega) | (refine ltB ?_; first | omega | (simp; done) | (simp; omega))))) | ((with_reducible apply gq_ldW (hm.ext hwx)); infer_instance; exact rfl; (focus (repeat first | exact .hd | assumption | apply Has.tl); done); (focus (first | rfl | omega | (simp; done) | (simp; omega)))) | ((with_reducible apply gq_ld1 (hm.ext hwx)); infer_instance; exact rfl; (focus (repeat first | exact .hd | assumption | apply Has.tl); done); exact rfl)) | (go_simp; (try go_bits); first | exact gives_same | exact gives_skip | with_reducible exact gives_call (D1.out wx)))
                      · (simp only [Act.put, sIB, sCS, sCZ]; rfl))
                   | (apply walk_not rfl rfl rfl
                      · (simp only [Act.put, sIB, sCS, sCZ]; rfl)))
               intro wz hwz
               simp only [zCC, zNR]
               repeat (first | rw [fin_is] | (rw [fin_cons]; intro _ _))
               rw [fin_nil]
               try (replace hm := hm.ext hwz)
               simp only [Act.put, sIB, sCS, sCZ]
               go_wp2_with (first | ((((with_reducible show qSt); first | ((with_reducible apply wq_stW hm); exact rfl; infer_instance; exact rfl; exact rfl; (focus (repeat first | exact .hd | assumption | apply Swap.tl); done); (focus (first | rfl | omega | (simp; done) | (simp; omega))); (focus (first | rfl | omega | (simp; done) | (simp; omega))); (focus (first | exact one_map _ | (simp [one8, one32, one64]; done)))))); clear hm; intro w hm))
               refine region_at 10 (fun w' => Ext _ w') 166 (by kernel_rfl) (by kernel_rfl) rfl (fun _ _ h k => h.trans k) (drew_ext _) ?_
               simp only [tSC, List.take_zero, dSC, List.drop_zero, List.map_cons, List.map_nil]
               repeat (first
                   | (apply walk_is rfl rfl rfl
                      · (intro wx hwx; first | ((with_reducible show gives _ _ _ (Sem.run _ (execOp _ (Oper.mk _ (Op.load _ _) _ _ _ _)) _)); first | ((with_reducible apply gq_ldv (hm.ext hwx)); infer_instance; exact rfl; (focus (repeat first | exact .hd | assumption | apply Has.tl); done); (focus (first | omega | (simp; omega) | (refine ltB ?_; first | omega | (simp; done) | (simp; omega))))) | ((with_reducible apply gq_ldW (hm.ext hwx)); infer_instance; exact rfl; (focus (repeat first | exact .hd | assumption | apply Has.tl); done); (focus (first | rfl | omega | (simp; done) | (simp; omega)))) | ((with_reducible apply gq_ld1 (hm.ext hwx)); infer_instance; exact rfl; (focus (repeat first | exact .hd | assumption | apply Has.tl); done); exact rfl)) | (go_simp; (try go_bits); first | exact gives_same | exact gives_skip | with_reducible exact gives_call (D2.out wx)))
                      · (simp only [Act.put, sIB, sCS, sCZ]; rfl))
                   | (apply walk_not rfl rfl rfl
                      · (simp only [Act.put, sIB, sCS, sCZ]; rfl)))
               intro wz hwz
               simp only [zCC, zNR]
               repeat (first | rw [fin_is] | (rw [fin_cons]; intro _ _))
               rw [fin_nil]
               try (replace hm := hm.ext hwz)
               simp only [Act.put, sIB, sCS, sCZ]
               go_wp2_with (first | ((((with_reducible show qSt); first | ((with_reducible apply wq_stW hm); exact rfl; infer_instance; exact rfl; exact rfl; (focus (repeat first | exact .hd | assumption | apply Swap.tl); done); (focus (first | rfl | omega | (simp; done) | (simp; omega))); (focus (first | rfl | omega | (simp; done) | (simp; omega))); (focus (first | exact one_map _ | (simp [one8, one32, one64]; done)))))); clear hm; intro w hm))
               refine region_at 10 (fun w' => Ext _ w') 166 (by kernel_rfl) (by kernel_rfl) rfl (fun _ _ h k => h.trans k) (drew_ext _) ?_
               simp only [tSC, List.take_zero, dSC, List.drop_zero, List.map_cons, List.map_nil]
               repeat (first
                   | (apply walk_is rfl rfl rfl
                      · (intro wx hwx; first | ((with_reducible show gives _ _ _ (Sem.run _ (execOp _ (Oper.mk _ (Op.load _ _) _ _ _ _)) _)); first | ((with_reducible apply gq_ldv (hm.ext hwx)); infer_instance; exact rfl; (focus (repeat first | exact .hd | assumption | apply Has.tl); done); (focus (first | omega | (simp; omega) | (refine ltB ?_; first | omega | (simp; done) | (simp; omega))))) | ((with_reducible apply gq_ldW (hm.ext hwx)); infer_instance; exact rfl; (focus (repeat first | exact .hd | assumption | apply Has.tl); done); (focus (first | rfl | omega | (simp; done) | (simp; omega)))) | ((with_reducible apply gq_ld1 (hm.ext hwx)); infer_instance; exact rfl; (focus (repeat first | exact .hd | assumption | apply Has.tl); done); exact rfl)) | (go_simp; (try go_bits); first | exact gives_same | exact gives_skip | with_reducible exact gives_call (D3.out wx)))
                      · (simp only [Act.put, sIB, sCS, sCZ]; rfl))
                   | (apply walk_not rfl rfl rfl
                      · (simp only [Act.put, sIB, sCS, sCZ]; rfl)))
               intro wz hwz
               simp only [zCC, zNR]
               repeat (first | rw [fin_is] | (rw [fin_cons]; intro _ _))
               rw [fin_nil]
               try (replace hm := hm.ext hwz)
               simp only [Act.put, sIB, sCS, sCZ]
               go_wp2_with (first | ((((with_reducible show qSt); first | ((with_reducible apply wq_stW hm); exact rfl; infer_instance; exact rfl; exact rfl; (focus (repeat first | exact .hd | assumption | apply Swap.tl); done); (focus (first | rfl | omega | (simp; done) | (simp; omega))); (focus (first | rfl | omega | (simp; done) | (simp; omega))); (focus (first | exact one_map _ | (simp [one8, one32, one64]; done)))))); clear hm; intro w hm))
               refine region_at 10 (fun w' => Ext _ w') 166 (by kernel_rfl) (by kernel_rfl) rfl (fun _ _ h k => h.trans k) (drew_ext _) ?_
               simp only [tSC, List.take_zero, dSC, List.drop_zero, List.map_cons, List.map_nil]
               repeat (first
                   | (apply walk_is rfl rfl rfl
                      · (intro wx hwx; first | ((with_reducible show gives _ _ _ (Sem.run _ (execOp _ (Oper.mk _ (Op.load _ _) _ _ _ _)) _)); first | ((with_reducible apply gq_ldv (hm.ext hwx)); infer_instance; exact rfl; (focus (repeat first | exact .hd | assumption | apply Has.tl); done); (focus (first | omega | (simp; omega) | (refine ltB ?_; first | omega | (simp; done) | (simp; omega))))) | ((with_reducible apply gq_ldW (hm.ext hwx)); infer_instance; exact rfl; (focus (repeat first | exact .hd | assumption | apply Has.tl); done); (focus (first | rfl | omega | (simp; done) | (simp; omega)))) | ((with_reducible apply gq_ld1 (hm.ext hwx)); infer_instance; exact rfl; (focus (repeat first | exact .hd | assumption | apply Has.tl); done); exact rfl)) | (go_simp; (try go_bits); first | exact gives_same | exact gives_skip | with_reducible exact gives_call (D4.out wx)))
                      · (simp only [Act.put, sIB, sCS, sCZ]; rfl))
                   | (apply walk_not rfl rfl rfl
                      · (simp only [Act.put, sIB, sCS, sCZ]; rfl)))
               intro wz hwz
               simp only [zCC, zNR]
               repeat (first | rw [fin_is] | (rw [fin_cons]; intro _ _))
               rw [fin_nil]
               try (replace hm := hm.ext hwz)
               simp only [Act.put, sIB, sCS, sCZ]
               go_wp2_with (first | ((((with_reducible show qSt); first | ((with_reducible apply wq_stW hm); exact rfl; infer_instance; exact rfl; exact rfl; (focus (repeat first | exact .hd | assumption | apply Swap.tl); done); (focus (first | rfl | omega | (simp; done) | (simp; omega))); (focus (first | rfl | omega | (simp; done) | (simp; omega))); (focus (first | exact one_map _ | (simp [one8, one32, one64]; done)))))); clear hm; intro w hm))
               refine region_at 10 (fun w' => Ext _ w') 166 (by kernel_rfl) (by kernel_rfl) rfl (fun _ _ h k => h.trans k) (drew_ext _) ?_
               simp only [tSC, List.take_zero, dSC, List.drop_zero, List.map_cons, List.map_nil]
               repeat (first
                   | (apply walk_is rfl rfl rfl
                      · (intro wx hwx; first | ((with_reducible show gives _ _ _ (Sem.run _ (execOp _ (Oper.mk _ (Op.load _ _) _ _ _ _)) _)); first | ((with_reducible apply gq_ldv (hm.ext hwx)); infer_instance; exact rfl; (focus (repeat first | exact .hd | assumption | apply Has.tl); done); (focus (first | omega | (simp; omega) | (refine ltB ?_; first | omega | (simp; done) | (simp; omega))))) | ((with_reducible apply gq_ldW (hm.ext hwx)); infer_instance; exact rfl; (focus (repeat first | exact .hd | assumption | apply Has.tl); done); (focus (first | rfl | omega | (simp; done) | (simp; omega)))) | ((with_reducible apply gq_ld1 (hm.ext hwx)); infer_instance; exact rfl; (focus (repeat first | exact .hd | assumption | apply Has.tl); done); exact rfl)) | (go_simp; (try go_bits); first | exact gives_same | exact gives_skip | with_reducible exact gives_call (D5.out wx)))
                      · (simp only [Act.put, sIB, sCS, sCZ]; rfl))
                   | (apply walk_not rfl rfl rfl
                      · (simp only [Act.put, sIB, sCS, sCZ]; rfl)))
               intro wz hwz
               simp only [zCC, zNR]
               repeat (first | rw [fin_is] | (rw [fin_cons]; intro _ _))
               rw [fin_nil]
               try (replace hm := hm.ext hwz)
               simp only [Act.put, sIB, sCS, sCZ]
               go_wp2_with (first | ((((with_reducible show qSt); first | ((with_reducible apply wq_stW hm); exact rfl; infer_instance; exact rfl; exact rfl; (focus (repeat first | exact .hd | assumption | apply Swap.tl); done); (focus (first | rfl | omega | (simp; done) | (simp; omega))); (focus (first | rfl | omega | (simp; done) | (simp; omega))); (focus (first | exact one_map _ | (simp [one8, one32, one64]; done)))))); clear hm; intro w hm))
               refine region_at 10 (fun w' => Ext _ w') 166 (by kernel_rfl) (by kernel_rfl) rfl (fun _ _ h k => h.trans k) (drew_ext _) ?_
               simp only [tSC, List.take_zero, dSC, List.drop_zero, List.map_cons, List.map_nil]
               repeat (first
                   | (apply walk_is rfl rfl rfl
                      · (intro wx hwx; first | ((with_reducible show gives _ _ _ (Sem.run _ (execOp _ (Oper.mk _ (Op.load _ _) _ _ _ _)) _)); first | ((with_reducible apply gq_ldv (hm.ext hwx)); infer_instance; exact rfl; (focus (repeat first | exact .hd | assumption | apply Has.tl); done); (focus (first | omega | (simp; omega) | (refine ltB ?_; first | omega | (simp; done) | (simp; omega))))) | ((with_reducible apply gq_ldW (hm.ext hwx)); infer_instance; exact rfl; (focus (repeat first | exact .hd | assumption | apply Has.tl); done); (focus (first | rfl | omega | (simp; done) | (simp; omega)))) | ((with_reducible apply gq_ld1 (hm.ext hwx)); infer_instance; exact rfl; (focus (repeat first | exact .hd | assumption | apply Has.tl); done); exact rfl)) | (go_simp; (try go_bits); first | exact gives_same | exact gives_skip | with_reducible exact gives_call (D6.out wx)))
                      · (simp only [Act.put, sIB, sCS, sCZ]; rfl))
                   | (apply walk_not rfl rfl rfl
                      · (simp only [Act.put, sIB, sCS, sCZ]; rfl)))
               intro wz hwz
               simp only [zCC, zNR]
               repeat (first | rw [fin_is] | (rw [fin_cons]; intro _ _))
               rw [fin_nil]
               try (replace hm := hm.ext hwz)
               simp only [Act.put, sIB, sCS, sCZ]
               go_wp2_with (first | ((((with_reducible show qSt); first | ((with_reducible apply wq_stW hm); exact rfl; infer_instance; exact rfl; exact rfl; (focus (repeat first | exact .hd | assumption | apply Swap.tl); done); (focus (first | rfl | omega | (simp; done) | (simp; omega))); (focus (first | rfl | omega | (simp; done) | (simp; omega))); (focus (first | exact one_map _ | (simp [one8, one32, one64]; done)))))); clear hm; intro w hm))
               refine region_at 10 (fun w' => Ext _ w') 166 (by kernel_rfl) (by kernel_rfl) rfl (fun _ _ h k => h.trans k) (drew_ext _) ?_
               simp only [tSC, List.take_zero, dSC, List.drop_zero, List.map_cons, List.map_nil]
               repeat (first
                   | (apply walk_is rfl rfl rfl
                      · (intro wx hwx; first | ((with_reducible show gives _ _ _ (Sem.run _ (execOp _ (Oper.mk _ (Op.load _ _) _ _ _ _)) _)); first | ((with_reducible apply gq_ldv (hm.ext hwx)); infer_instance; exact rfl; (focus (repeat first | exact .hd | assumption | apply Has.tl); done); (focus (first | omega | (simp; omega) | (refine ltB ?_; first | omega | (simp; done) | (simp; omega))))) | ((with_reducible apply gq_ldW (hm.ext hwx)); infer_instance; exact rfl; (focus (repeat first | exact .hd | assumption | apply Has.tl); done); (focus (first | rfl | omega | (simp; done) | (simp; omega)))) | ((with_reducible apply gq_ld1 (hm.ext hwx)); infer_instance; exact rfl; (focus (repeat first | exact .hd | assumption | apply Has.tl); done); exact rfl)) | (go_simp; (try go_bits); first | exact gives_same | exact gives_skip | with_reducible exact gives_call (D7.out wx)))
                      · (simp only [Act.put, sIB, sCS, sCZ]; rfl))
                   | (apply walk_not rfl rfl rfl
                      · (simp only [Act.put, sIB, sCS, sCZ]; rfl)))
               intro wz hwz
               simp only [zCC, zNR]
               repeat (first | rw [fin_is] | (rw [fin_cons]; intro _ _))
               rw [fin_nil]
               try (replace hm := hm.ext hwz)
               simp only [Act.put, sIB, sCS, sCZ]
               go_wp2_with (first | ((((with_reducible show qSt); first | ((with_reducible apply wq_stW hm); exact rfl; infer_instance; exact rfl; exact rfl; (focus (repeat first | exact .hd | assumption | apply Swap.tl); done); (focus (first | rfl | omega | (simp; done) | (simp; omega))); (focus (first | rfl | omega | (simp; done) | (simp; omega))); (focus (first | exact one_map _ | (simp [one8, one32, one64]; done)))))); clear hm; intro w hm))
               refine region_at 10 (fun w' => Ext _ w') 166 (by kernel_rfl) (by kernel_rfl) rfl (fun _ _ h k => h.trans k) (drew_ext _) ?_
               simp only [tSC, List.take_zero, dSC, List.drop_zero, List.map_cons, List.map_nil]
               repeat (first
                   | (apply walk_is rfl rfl rfl
                      · (intro wx hwx; first | ((with_reducible show gives _ _ _ (Sem.run _ (execOp _ (Oper.mk _ (Op.load _ _) _ _ _ _)) _)); first | ((with_reducible apply gq_ldv (hm.ext hwx)); infer_instance; exact rfl; (focus (repeat first | exact .hd | assumption | apply Has.tl); done); (focus (first | omega | (simp; omega) | (refine ltB ?_; first | omega | (simp; done) | (simp; omega))))) | ((with_reducible apply gq_ldW (hm.ext hwx)); infer_instance; exact rfl; (focus (repeat first | exact .hd | assumption | apply Has.tl); done); (focus (first | rfl | omega | (simp; done) | (simp; omega)))) | ((with_reducible apply gq_ld1 (hm.ext hwx)); infer_instance; exact rfl; (focus (repeat first | exact .hd | assumption | apply Has.tl); done); exact rfl)) | (go_simp; (try go_bits); first | exact gives_same | exact gives_skip | with_reducible exact gives_call (D8.out wx)))
                      · (simp only [Act.put, sIB, sCS, sCZ]; rfl))
                   | (apply walk_not rfl rfl rfl
                      · (simp only [Act.put, sIB, sCS, sCZ]; rfl)))
               intro wz hwz
               simp only [zCC, zNR]
               repeat (first | rw [fin_is] | (rw [fin_cons]; intro _ _))
               rw [fin_nil]
               try (replace hm := hm.ext hwz)
               simp only [Act.put, sIB, sCS, sCZ]
               go_wp2_with (first | ((((with_reducible show qSt); first | ((with_reducible apply wq_stW hm); exact rfl; infer_instance; exact rfl; exact rfl; (focus (repeat first | exact .hd | assumption | apply Swap.tl); done); (focus (first | rfl | omega | (simp; done) | (simp; omega))); (focus (first | rfl | omega | (simp; done) | (simp; omega))); (focus (first | exact one_map _ | (simp [one8, one32, one64]; done)))))); clear hm; intro w hm))
               rw [← E1.out] at hm
               go_roundw
               case rel => exact ⟨r + 1, by omega, by go_num, hm.drop⟩
               case measure => simp [intOf] <;> omega
             · obtain rfl : r = 12 := by omega
               rw [show ((12 : Nat) : Int) = 12 from rfl]
               have lv : (roundF M V 12).length = 16 := by rw [roundF_length, hi0]
               generalize roundF M V 12 = Z at *
               go_wp2_with (first | ((first | ((with_reducible show qAl); first | ((with_reducible apply wq_new hm); exact rfl; infer_instance))); clear hm; (first | (have hx_ := g1; clear hx_; (first | (have hx_ := g2; clear hx_; (first | (have hx_ := g3; clear hx_; (first | (have hx_ := g4; clear hx_; (first | (have hx_ := g5; clear hx_; (first | (have hx_ := g6; clear hx_; intro gx_) | intro g6)) | intro g5)) | intro g4)) | intro g3)) | intro g2)) | intro g1); intro w hm))
               go_loopw [19] (fun i wr => ∃ k : Nat, k ≤ 8 ∧ i = .int .i64 k ∧ Own w0 wr [⟨g6, 124, (part 8 k (fun i => nth h i ^^^ (nth Z i ^^^ nth Z (i + 8))) fun _ => 0).map v64⟩, ⟨g5, 147, M.map v64⟩, ⟨g4, 147, Z.map v64⟩, ⟨g3, 124, firstL.map v64⟩, ⟨g2, 124, (zer (n := 64) 8).map v64⟩, ⟨g1, 124, h.map v64⟩]) (fun i _ => 8 - (intOf i).toNat)
               case atStart => exact ⟨0, by omega, rfl, by rw [← zer_start]; exact hm⟩
               case round =>
                 obtain ⟨k, hk, rfl, hm⟩ := hrel
                 by_cases hlt : k < 8
                 · have hd : decide ((k : Int) < 8) = true := by simp; omega
                   have b1 : (k : Int) < 8 := by omega
                   have b2 : (k : Int) < 16 := by omega
                   have b3 : (k : Int) + 8 < 16 := by omega
                   have b4 : 0 ≤ (k : Int) + 8 := by omega
                   have b5 : ((k : Int) + 8).toNat = k + 8 := by omega
                   go_wp2_with fail
                   refine region_at 14 (fun w' => Ext _ w') 166 (by kernel_rfl) (by kernel_rfl) rfl (fun _ _ h k => h.trans k) (drew_ext _) ?_
                   simp only [tSC, List.take_zero, dSC, List.drop_zero, List.map_cons, List.map_nil]
                   repeat (first
                       | (apply walk_is rfl rfl rfl
                          · (intro wx hwx; first | ((with_reducible show gives _ _ _ (Sem.run _ (execOp _ (Oper.mk _ (Op.load _ _) _ _ _ _)) _)); first | ((with_reducible apply gq_ldv (hm.ext hwx)); infer_instance; exact rfl; (focus (repeat first | exact .hd | assumption | apply Has.tl); done); (focus (first | omega | (simp; omega) | (refine ltB ?_; first | omega | (simp; done) | (simp; omega))))) | ((with_reducible apply gq_ldW (hm.ext hwx)); infer_instance; exact rfl; (focus (repeat first | exact .hd | assumption | apply Has.tl); done); (focus (first | rfl | omega | (simp; done) | (simp; omega)))) | ((with_reducible apply gq_ld1 (hm.ext hwx)); infer_instance; exact rfl; (focus (repeat first | exact .hd | assumption | apply Has.tl); done); exact rfl)) | (go_simp; (try go_bits); first | exact gives_same | exact gives_skip))
                          · (simp only [Act.put, sIB, sCS, sCZ]; rfl))
                       | (apply walk_not rfl rfl rfl
                          · (simp only [Act.put, sIB, sCS, sCZ]; rfl)))
                   intro wz hwz
                   simp only [zCC, zNR]
                   repeat (first | rw [fin_is] | (rw [fin_cons]; intro _ _))
                   rw [fin_nil]
                   try (replace hm := hm.ext hwz)
                   simp only [Act.put, sIB, sCS, sCZ]
                   go_wp2_with (first | ((((with_reducible show qSt); first | ((with_reducible apply wq_stv hm); exact rfl; infer_instance; exact rfl; (focus (repeat first | exact .hd | assumption | apply Swap.tl); done); infer_instance; exact rfl; (focus (first | omega | (simp; omega) | (refine ltB ?_; first | omega | (simp; done) | (simp; omega))))))); clear hm; intro w hm))
                   go_roundw
                   case rel =>
                     rw [part_set' hlt (BitVec.xor_assoc _ _ _)] at hm
                     exact ⟨k + 1, by omega, by go_num, hm⟩
                   case measure => simp [intOf] <;> omega
                 · obtain rfl : k = 8 := by omega
                   rw [part_all, ← EC.out] at hm
                   go_wp2_with (first | ((with_reducible show qLd); first | ((with_reducible apply wq_ldW hm); exact rfl; infer_instance; exact rfl; (focus (repeat first | exact .hd | assumption | apply Has.tl); done); (focus (first | rfl | omega | (simp; done) | (simp; omega))))) | ((((with_reducible show qSt); first | ((with_reducible apply wq_stW hm); exact rfl; infer_instance; exact rfl; exact rfl; (focus (repeat first | exact .hd | assumption | apply Swap.tl); done); (focus (first | rfl | omega | (simp; done) | (simp; omega))); (focus (first | rfl | omega | (simp; done) | (simp; omega))); (focus (first | exact one_map _ | (simp [one8, one32, one64]; done)))))); clear hm; intro w hm))
                   refine ret_own hm rfl rfl (by infer_instance) (by repeat (first | exact Has.hd | assumption | apply Has.tl)) (by first | rfl | omega | (simp only [zeros_length, zer_length, tab_length, part_length, setN_length, List.length_map, List.length_cons, List.length_nil, List.length_append, List.length_take, List.length_drop, List.length_replicate, blk_length, putL_length] <;> omega)) rfl ⟨rfl, hm.x⟩
end Go.Proofs.YtaijfigohlkccaaGreatDoor
