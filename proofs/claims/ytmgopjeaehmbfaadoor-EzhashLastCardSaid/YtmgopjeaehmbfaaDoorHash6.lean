/-
  Layer 16: sums of two blocks, few strings, a counted block. Conditions: those written in each theorem.
-/
import Derived.Test.YtmgopjeaehmbfaaDoorHashp
import Derived.Test.YtmgopjeaehmbfaaDoorLawEz1
namespace Go.Proofs.YtmgopjeaehmbfaaDoor
open Go Go.RowKit
set_option maxRecDepth 100000
set_option linter.unusedVariables false
set_option linter.unusedSimpArgs false

set_option maxHeartbeats 2000000 in
theorem plus16_any (a b : List Byte) (ha : a.length = 16) (hb : b.length = 16) (w0 : World) : Gives Tryd.prog 28 #[A8 a, A8 b] w0 (A8 (bothL a b)) := by
  unfold Gives
  have hm := Own.start w0
  have ha1 := Nat.le_of_eq ha
  have ha2 := Nat.le_of_eq ha.symm
  have hb1 := Nat.le_of_eq hb
  have hb2 := Nat.le_of_eq hb.symm
  have ES : Hid (a = part 16 0 (fun i => nth a i ^^^ nth b i) (nth a)) := Lib.hid (part_start ha)
  have EE : Hid (part 16 16 (fun i => nth a i ^^^ nth b i) (nth a) = bothL a b) := Lib.hid part_all
  clear ha hb
  go_enter Tryd.func28, Tryd.ntmps28
  go_wp2_with (first | ((first | ((with_reducible show wpList _ _ _ (Oper.mk _ (Op.alloc _) _ _ _ _ :: _) _ _); first | ((with_reducible apply wq_new hm); (exact rfl); infer_instance) | fail) | ((with_reducible show wpList _ _ _ (Oper.mk _ (Op.box _ _) _ _ _ _ :: _) _ _); first | ((with_reducible apply wq_boxN hm); (exact rfl); (exact rfl)) | fail)); clear hm; (first | (have hx_ := g1; clear hx_; (first | (have hx_ := g2; clear hx_; (first | (have hx_ := g3; clear hx_; (first | (have hx_ := g4; clear hx_; (first | (have hx_ := g5; clear hx_; (first | (have hx_ := g6; clear hx_; (first | (have hx_ := g7; clear hx_; (first | (have hx_ := g8; clear hx_; (first | (have hx_ := g9; clear hx_; intro g10) | intro g9)) | intro g8)) | intro g7)) | intro g6)) | intro g5)) | intro g4)) | intro g3)) | intro g2)) | intro g1); intro w hm) | fail)
  go_loopw [5] (fun i wr => ∃ j : Nat, j ≤ 16 ∧ i = .int .i64 j ∧ Own w0 wr [⟨g3, 27, (zer 16).map v8⟩, ⟨g2, 27, b.map v8⟩, ⟨g1, 27, (part 16 j (fun i => nth a i ^^^ nth b i) (nth a)).map v8⟩]) (fun i _ => 16 - (intOf i).toNat)
  case atStart => exact ⟨0, by omega, rfl, by rw [← ES.out]; exact hm⟩
  case round =>
    obtain ⟨j, hj, rfl, hm⟩ := hrel
    by_cases hjl : j < 16
    · have hj1 : decide ((j : Int) < 16) = true := decide_eq_true (by omega)
      have hj2 : (j : Int) < 16 := by omega
      have EJ : Hid (setN (part 16 j (fun i => nth a i ^^^ nth b i) (nth a)) j (nth (part 16 j (fun i => nth a i ^^^ nth b i) (nth a)) j ^^^ nth b j) = part 16 (j + 1) (fun i => nth a i ^^^ nth b i) (nth a)) := Lib.hid (by
        rw [nth_part_ge hjl (Nat.le_refl _)]; exact part_set (f := fun i => nth a i ^^^ nth b i) hjl)
      have lJ : (part 16 j (fun i => nth a i ^^^ nth b i) (nth a)).length = 16 := part_length
      generalize part 16 j (fun i => nth a i ^^^ nth b i) (nth a) = C at *
      go_wp2_with fail
      refine region_at 8 (fun w' => Ext _ w') 19 (by kernel_rfl) (by kernel_rfl) rfl (fun _ _ h k => h.trans k) (drew_ext _) ?_
      simp only [List.take_succ_cons, List.take_zero, List.drop_succ_cons, List.drop_zero, List.map_cons, List.map_nil]
      repeat (first
          | (apply walk_is rfl rfl rfl
             · (intro wx hwx; first | ((with_reducible show gives _ _ _ (Sem.run _ (execOp _ (Oper.mk _ (Op.load _ _) _ _ _ _)) _)); first | ((with_reducible apply gq_ldv (hm.ext hwx)); infer_instance; (exact rfl); (focus ((repeat (first | exact .hd | assumption | apply Has.tl)); done)); (focus (first | omega | (simp; omega) | (refine Nat.lt_of_lt_of_le (BitVec.isLt _) ?_; first | omega | (simp; done) | (simp; omega) | fail) | fail))) | ((with_reducible apply gq_ldW (hm.ext hwx)); infer_instance; (exact rfl); (focus ((repeat (first | exact .hd | assumption | apply Has.tl)); done)); (focus (first | rfl | omega | (simp; done) | (simp; omega) | fail))) | ((with_reducible apply gq_ld1 (hm.ext hwx)); infer_instance; (exact rfl); (focus ((repeat (first | exact .hd | assumption | apply Has.tl)); done)); (exact rfl)) | fail) | (go_simp; (try go_bits); first | exact gives_same | exact gives_skip))
             · (simp only [Act.put, List.setIfInBounds_toArray, List.set_cons_succ, List.set_cons_zero]; rfl))
          | (apply walk_not rfl rfl rfl
             · (simp only [Act.put, List.setIfInBounds_toArray, List.set_cons_succ, List.set_cons_zero]; rfl)))
      intro wz hwz
      simp only [List.zip_cons_cons, List.zip_nil_right]
      repeat (first | rw [fin_is] | (rw [fin_cons]; intro _ _))
      rw [fin_nil]
      try (replace hm := hm.ext hwz)
      simp only [Act.put, List.setIfInBounds_toArray, List.set_cons_succ, List.set_cons_zero]
      go_wp2_with (first | ((((with_reducible show wpList _ _ _ (Oper.mk _ (Op.store _ _ _) _ _ _ _ :: _) _ _); first | ((with_reducible apply wq_stv hm); (exact rfl); infer_instance; (exact rfl); (focus ((repeat (first | exact .hd | assumption | apply Swap.tl)); done)); infer_instance; (exact rfl); (focus (first | omega | (simp; omega) | (refine Nat.lt_of_lt_of_le (BitVec.isLt _) ?_; first | omega | (simp; done) | (simp; omega) | fail) | fail))) | fail)); clear hm; intro w hm) | fail)
      go_roundw
      case rel =>
        rw [EJ.out] at hm
        exact ⟨j + 1, by omega, by go_num, hm⟩
      case measure => simp [intOf] <;> omega
    · obtain rfl : j = 16 := by omega
      have hj1 : decide (((16 : Nat) : Int) < 16) = false := decide_eq_false (by omega)
      rw [EE.out] at hm
      go_wp2_with (first | ((with_reducible show wpList _ _ _ (Oper.mk _ (Op.load _ _) _ _ _ _ :: _) _ _); first | ((with_reducible apply wq_ldW hm); (exact rfl); infer_instance; (exact rfl); (focus ((repeat (first | exact .hd | assumption | apply Has.tl)); done)); (focus (first | rfl | omega | (simp; done) | (simp; omega) | fail))) | fail) | ((((with_reducible show wpList _ _ _ (Oper.mk _ (Op.store _ _ _) _ _ _ _ :: _) _ _); first | ((with_reducible apply wq_stW hm); (exact rfl); infer_instance; (exact rfl); (exact rfl); (focus ((repeat (first | exact .hd | assumption | apply Swap.tl)); done)); (focus (first | rfl | omega | (simp; done) | (simp; omega) | fail)); (focus (first | rfl | omega | (simp; done) | (simp; omega) | fail)); (focus (first | exact one_map _ | (simp [one8, one32, one64]; done) | fail))) | fail)); clear hm; intro w hm) | fail)
      refine ret_own hm rfl rfl (by infer_instance) (by repeat (first | exact Has.hd | assumption | apply Has.tl)) (by first | rfl | omega | (simp only [zeros_length, zer_length, tab_length, part_length, setN_length, List.length_map, List.length_cons, List.length_nil, List.length_append, List.length_take, List.length_drop, List.length_replicate, blk_length, putL_length] <;> omega) | fail) rfl ⟨rfl, hm.x⟩


/-- Few strings, none long. -/
def fewB (ls : List (List Byte)) : Bool := (ls.all fun l => decide (l.length ≤ 100)) && decide (ls.length ≤ 12)
theorem all_takeF (ls : List (List Byte)) (k : Nat) (h : k < ls.length) : ((ls.take (k + 1)).all fun l => decide (l.length ≤ 100)) = (((ls.take k).all fun l => decide (l.length ≤ 100)) && decide ((ls.getD k []).length ≤ 100)) := by
  rw [List.take_succ_eq_append_getElem h, List.all_append, List.getD_eq_getElem?_getD, List.getElem?_eq_getElem h]; simp
theorem fewB_out {ls : List (List Byte)} (h : fewB ls = true) : (∀ i, (ls.getD i []).length ≤ 100) ∧ ls.length ≤ 12 := by
  simp only [fewB, Bool.and_eq_true, decide_eq_true_eq, List.all_eq_true] at h
  refine ⟨fun i => ?_, h.2⟩
  rw [List.getD_eq_getElem?_getD]
  cases hi : ls[i]? with
  | none => simp
  | some x => exact h.1 x (List.mem_of_getElem? hi)
theorem RdR.row {w : World} {p : Option Addr} {ls : List (List Byte)} (h : RdR w p ls) (k : Nat) (hk : k < ls.length) : ∃ a : Addr, p = some a ∧ ∃ (q : Option Addr) (c : Nat), w.cell? (a.add k) = some (.slice q (ls.getD k []).length c) ∧ RdB w q (ls.getD k []) ∧ (ls.getD k []).length ≤ c ∧ (ls.getD k []).length ≤ maxLen := by
  obtain ⟨a, rfl⟩ := Option.isSome_iff_exists.1 (h.1 (by omega))
  exact ⟨a, rfl, h.2 k hk⟩
set_option maxHeartbeats 4000000 in
theorem few_any (ls : List (List Byte)) (q : Option Addr) (d : Nat) (w0 : World) (hl : ls.length ≤ maxLen) (hr : RdR w0 q ls) : Gives Tryd.prog 26 #[.slice q ls.length d] w0 (.bool (fewB ls)) := by
  unfold Gives
  have hm := Own.start w0
  have HR := Lib.hid hr
  have hl2 : ls.length ≤ 9223372036854775807 := Nat.le_trans hl (by decide)
  have ET := Lib.hid (all_takeF ls)
  have e1 : Hid ((ls.all fun l => decide (l.length ≤ 100)) = true → fewB ls = decide (ls.length ≤ 12)) := Lib.hid fun h => by rw [fewB, h, Bool.true_and]
  have e2 : Hid ((ls.all fun l => decide (l.length ≤ 100)) = false → fewB ls = false) := Lib.hid fun h => by rw [fewB, h, Bool.false_and]
  clear hr
  generalize fewB ls = V at *
  go_enter Tryd.func26, Tryd.ntmps26
  go_wp2_with fail
  go_loopw [3] (fun i wr => ∃ k : Nat, k ≤ ls.length ∧ i = .int .i64 k ∧ ((ls.take k).all fun l => decide (l.length ≤ 100)) = true ∧ Own w0 wr []) (fun i _ => ls.length - (intOf i).toNat)
  case atStart => exact ⟨0, by omega, rfl, rfl, hm⟩
  case round =>
    obtain ⟨k, hk, rfl, hall, hm⟩ := hrel
    have HALL := Lib.hid hall
    clear hall
    by_cases hlt : k < ls.length
    · have hd : decide ((k : Int) < (ls.length : Int)) = true := decide_eq_true (by omega)
      have hd2 : (k : Int) < (ls.length : Int) := by omega
      obtain ⟨a, rfl, q', c', hcell, _, _, hlm⟩ := (HR.out.ext hm.x).row k hlt
      have EK := Lib.hid (ET.out k hlt)
      have EA := Lib.hid fun (h : 100 < (ls.getD k []).length) => (show (ls.all fun l => decide (l.length ≤ 100)) = false by
        rw [List.all_eq_false]
        exact ⟨ls.getD k [], by rw [List.getD_eq_getElem?_getD, List.getElem?_eq_getElem hlt]; exact List.getElem_mem hlt, by simpa using h⟩)
      generalize ls.getD k [] = B at *
      by_cases hb : 100 < B.length
      · have c1 : decide ((100 : Int) < (B.length : Int)) = true := decide_eq_true (by omega)
        have c2 : (100 : Int) < (B.length : Int) := by omega
        have eV := e2.out (EA.out hb)
        go_wp2_with fail
        go_ret
        exact ⟨by rw [eV]; rfl, hm.x⟩
      · have c1 : decide ((100 : Int) < (B.length : Int)) = false := decide_eq_false (by omega)
        have c2 : ¬ (100 : Int) < (B.length : Int) := by omega
        go_wp2_with fail
        go_roundw
        case rel => exact ⟨k + 1, by omega, by go_num, by rw [EK.out, HALL.out, Bool.true_and, decide_eq_true_eq]; omega, hm⟩
        case measure => simp [intOf] <;> omega
    · obtain rfl : k = ls.length := by omega
      have hall := HALL.out
      rw [List.take_length] at hall
      have eV := e1.out hall
      clear hall
      have hd : decide ((ls.length : Int) < (ls.length : Int)) = false := decide_eq_false (by omega)
      by_cases h12 : ls.length ≤ 12
      · have f1 : decide ((ls.length : Int) ≤ 12) = true := decide_eq_true (by omega)
        rw [decide_eq_true h12] at eV
        go_wp2_with fail
        go_ret
        exact ⟨by rw [eV]; first | rfl | simp [f1], hm.x⟩
      · have f1 : decide ((ls.length : Int) ≤ 12) = false := decide_eq_false (by omega)
        rw [decide_eq_false h12] at eV
        go_wp2_with fail
        go_ret
        exact ⟨by rw [eV]; first | rfl | simp [f1], hm.x⟩

/-- A block by exclusive or with the first j bytes of a number. -/
def cntF (h P : List Byte) (j : Nat) : List Byte := tab 16 fun q => if 16 - j ≤ q then nth h q ^^^ nth P (15 - q) else nth h q
theorem cntF_length (h P : List Byte) (j : Nat) : (cntF h P j).length = 16 := tab_length
theorem cntF_zero (h P : List Byte) (hh : h.length = 16) : cntF h P 0 = h := nth_ext (by rw [cntF_length, hh]) fun i hi => by
  rw [cntF_length] at hi
  rw [cntF, nth_tab hi, if_neg (by omega)]
theorem cntF_step (h P : List Byte) (j : Nat) (hj : j < 8) : setN (cntF h P j) (15 - j) (nth (cntF h P j) (15 - j) ^^^ nth P j) = cntF h P (j + 1) := nth_ext (by rw [setN_length, cntF_length, cntF_length]) fun i hi => by
  rw [setN_length, cntF_length] at hi
  rw [nth_set (by rw [cntF_length]; exact hi), cntF, nth_tab hi, nth_tab (show 15 - j < 16 by omega), cntF, nth_tab hi]
  by_cases e : 15 - j = i
  · rw [if_pos e, if_neg (by omega), if_pos (by omega), ← e, show 15 - (15 - j) = j by omega]
  · rw [if_neg e]
    by_cases h2 : 16 - j ≤ i
    · rw [if_pos h2, if_pos (by omega)]
    · rw [if_neg h2, if_neg (by omega)]
theorem cntF_all (h : List Byte) (n : Nat) : cntF h (putL (BitVec.ofNat 64 n) 8) 8 = cntL h n := nth_ext (by rw [cntF_length, cntL_length]) fun i hi => by
  rw [cntF_length] at hi
  rw [cntF, nth_tab hi, cntL, nth_tab hi]
set_option maxHeartbeats 4000000 in
theorem counted_any (h : List Byte) (n : Nat) (hh : h.length = 16) (hn : n ≤ 9223372036854775807) (w0 : World) : Gives Tryd.prog 66 #[A8 h, .int .i64 n] w0 (A8 (cntL h n)) := by
  unfold Gives
  have hm := Own.start w0
  have cp := fun w => putlong_any' (BitVec.ofNat 64 n) w
  rw [← natv64 (show n < 18446744073709551616 by omega)] at cp
  have CP := Lib.hid cp
  have lP : (putL (BitVec.ofNat 64 n) 8).length = 8 := putL_length _ _
  have E0 := Lib.hid (cntF_zero h (putL (BitVec.ofNat 64 n) 8) hh)
  have ES := Lib.hid (cntF_step h (putL (BitVec.ofNat 64 n) 8))
  have EA := Lib.hid (cntF_all h n)
  have lC := Lib.hid (cntF_length h (putL (BitVec.ofNat 64 n) 8))
  have lR := cntL_length h n
  clear cp
  generalize putL (BitVec.ofNat 64 n) 8 = P at *
  generalize cntL h n = D at *
  go_enter Tryd.func66, Tryd.ntmps66
  go_wp2_with (first | (go_at_call 99; (with_reducible refine (CP.out _).mono ?_); rintro e_ w ⟨rfl, hx_⟩; replace hm := hm.ext hx_; clear hx_) | ((first | ((with_reducible show wpList _ _ _ (Oper.mk _ (Op.alloc _) _ _ _ _ :: _) _ _); first | ((with_reducible apply wq_new hm); (exact rfl); infer_instance) | fail) | ((with_reducible show wpList _ _ _ (Oper.mk _ (Op.box _ _) _ _ _ _ :: _) _ _); first | ((with_reducible apply wq_boxN hm); (exact rfl); (exact rfl)) | fail)); clear hm; (first | (have hx_ := g1; clear hx_; (first | (have hx_ := g2; clear hx_; (first | (have hx_ := g3; clear hx_; (first | (have hx_ := g4; clear hx_; (first | (have hx_ := g5; clear hx_; (first | (have hx_ := g6; clear hx_; (first | (have hx_ := g7; clear hx_; (first | (have hx_ := g8; clear hx_; (first | (have hx_ := g9; clear hx_; intro g10) | intro g9)) | intro g8)) | intro g7)) | intro g6)) | intro g5)) | intro g4)) | intro g3)) | intro g2)) | intro g1); intro w hm) | fail)
  go_loopw [10] (fun i wr => ∃ j : Nat, j ≤ 8 ∧ i = .int .i64 j ∧ Own w0 wr [⟨g2, 27, (zer 16).map v8⟩, ⟨g1, 27, (cntF h P j).map v8⟩]) (fun i _ => 8 - (intOf i).toNat)
  case atStart => exact ⟨0, by omega, rfl, by rw [E0.out]; exact hm⟩
  case round =>
    obtain ⟨j, hj, rfl, hm⟩ := hrel
    have lj := lC.out j
    by_cases hjl : j < 8
    · have hj1 : decide ((j : Int) < 8) = true := decide_eq_true (by omega)
      have hj2 : (j : Int) < 8 := by omega
      obtain ⟨k, hk⟩ : ∃ k : Nat, k = 15 - j := ⟨_, rfl⟩
      have hk1 : (15 : Int) - (j : Int) = (k : Int) := by omega
      have hk2 : k < 16 := by omega
      have es := ES.out j hjl
      rw [← hk] at es
      have HES := Lib.hid es
      clear es hk
      generalize hC2 : cntF h P (j + 1) = C2 at *
      generalize cntF h P j = C at *
      have HC2 := Lib.hid hC2
      clear hC2
      go_wp2_with (first | ((with_reducible apply wq_idx (l := P) (k := j) Tryd.underlying142); infer_instance; exact rfl; exact rfl; exact rfl; exact lP; exact hjl) | ((with_reducible show wpList _ _ _ (Oper.mk _ (Op.load _ _) _ _ _ _ :: _) _ _); first | ((with_reducible apply wq_ldv hm); (exact rfl); infer_instance; (exact rfl); (focus ((repeat (first | exact .hd | assumption | apply Has.tl)); done)); (focus (first | omega | (simp; omega) | (refine Nat.lt_of_lt_of_le (BitVec.isLt _) ?_; first | omega | (simp; done) | (simp; omega) | fail) | fail))) | fail) | ((((with_reducible show wpList _ _ _ (Oper.mk _ (Op.store _ _ _) _ _ _ _ :: _) _ _); first | ((with_reducible apply wq_stv hm); (exact rfl); infer_instance; (exact rfl); (focus ((repeat (first | exact .hd | assumption | apply Swap.tl)); done)); infer_instance; (exact rfl); (focus (first | omega | (simp; omega) | (refine Nat.lt_of_lt_of_le (BitVec.isLt _) ?_; first | omega | (simp; done) | (simp; omega) | fail) | fail))) | fail)); clear hm; intro w hm) | fail)
      go_roundw
      case rel =>
        rw [HES.out] at hm
        exact ⟨j + 1, by omega, by go_num, by rw [HC2.out]; exact hm⟩
      case measure => simp [intOf] <;> omega
    · obtain rfl : j = 8 := by omega
      have hj1 : decide (((8 : Nat) : Int) < 8) = false := decide_eq_false (by omega)
      rw [EA.out] at hm
      go_wp2_with (first | ((with_reducible show wpList _ _ _ (Oper.mk _ (Op.load _ _) _ _ _ _ :: _) _ _); first | ((with_reducible apply wq_ldW hm); (exact rfl); infer_instance; (exact rfl); (focus ((repeat (first | exact .hd | assumption | apply Has.tl)); done)); (focus (first | rfl | omega | (simp; done) | (simp; omega) | fail))) | fail) | ((((with_reducible show wpList _ _ _ (Oper.mk _ (Op.store _ _ _) _ _ _ _ :: _) _ _); first | ((with_reducible apply wq_stW hm); (exact rfl); infer_instance; (exact rfl); (exact rfl); (focus ((repeat (first | exact .hd | assumption | apply Swap.tl)); done)); (focus (first | rfl | omega | (simp; done) | (simp; omega) | fail)); (focus (first | rfl | omega | (simp; done) | (simp; omega) | fail)); (focus (first | exact one_map _ | (simp [one8, one32, one64]; done) | fail))) | fail)); clear hm; intro w hm) | fail)
      refine ret_own hm rfl rfl (by infer_instance) (by repeat (first | exact Has.hd | assumption | apply Has.tl)) (by first | rfl | omega | (simp only [zeros_length, zer_length, tab_length, part_length, setN_length, List.length_map, List.length_cons, List.length_nil, List.length_append, List.length_take, List.length_drop, List.length_replicate, blk_length, putL_length] <;> omega) | fail) rfl ⟨rfl, hm.x⟩

end Go.Proofs.YtmgopjeaehmbfaaDoor
