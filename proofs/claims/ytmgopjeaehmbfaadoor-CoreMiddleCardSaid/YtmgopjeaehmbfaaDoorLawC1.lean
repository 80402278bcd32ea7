/-
  Layer 20: what the statements look at first. Conditions: those written in each theorem.
-/
import Derived.Test.YtmgopjeaehmbfaaDoorCore8
import Derived.Test.YtmgopjeaehmbfaaDoorEzg
namespace Go.Proofs.YtmgopjeaehmbfaaDoor
open Go Go.RowKit
set_option maxRecDepth 100000
set_option linter.unusedVariables false
set_option linter.unusedSimpArgs false

/-- The cells of a key, a row, a message and a way. -/
abbrev textC (p : Option Addr) (n c : Nat) (q : Option Addr) (m d : Nat) (r : Option Addr) (k f : Nat) (b : Bool) : List Value := [.slice p n c, .slice q m d, .slice r k f, .bool b]
/-- May they be? -/
def rightT (key : List Byte) (ls : List (List Byte)) (m : Nat) : Bool := (ls.all fun l => decide (l.length ≤ 60)) && (rightL key && (decide (ls.length ≤ 6) && decide (m ≤ 300)))
theorem all_takeT (ls : List (List Byte)) (k : Nat) (h : k < ls.length) : ((ls.take (k + 1)).all fun l => decide (l.length ≤ 60)) = (((ls.take k).all fun l => decide (l.length ≤ 60)) && decide ((ls.getD k []).length ≤ 60)) := by
  rw [List.take_succ_eq_append_getElem h, List.all_append, List.getD_eq_getElem?_getD, List.getElem?_eq_getElem h]; simp
theorem rightT_out {key : List Byte} {ls : List (List Byte)} {m : Nat} (h : rightT key ls m = true) : rightL key = true ∧ (∀ i, (ls.getD i []).length ≤ 60) ∧ ls.length ≤ 6 ∧ m ≤ 300 := by
  simp only [rightT, Bool.and_eq_true, decide_eq_true_eq, List.all_eq_true] at h
  refine ⟨h.2.1, fun i => ?_, h.2.2⟩
  rw [List.getD_eq_getElem?_getD]
  cases hi : ls[i]? with
  | none => simp
  | some x => exact h.1 x (List.mem_of_getElem? hi)
set_option maxHeartbeats 4000000 in
theorem tright_any (key : List Byte) (p : Option Addr) (c : Nat) (ls : List (List Byte)) (q : Option Addr) (d : Nat) (r : Option Addr) (m f : Nat) (b : Bool) (w0 : World) (hl : ls.length ≤ maxLen) (hr : RdR w0 q ls) : Gives Tryd.prog 33 #[.agg (textC p key.length c q ls.length d r m f b).toArray] w0 (.bool (rightT key ls m)) := by
  unfold Gives
  have hm := Own.start w0
  have HR := Lib.hid hr
  have CR := Lib.hid fun w => right15_any key p c w
  have hl2 : ls.length ≤ 9223372036854775807 := Nat.le_trans hl (by decide)
  have ET := Lib.hid (all_takeT ls)
  have e1 : Hid ((ls.all fun l => decide (l.length ≤ 60)) = true → rightT key ls m = (rightL key && (decide (ls.length ≤ 6) && decide (m ≤ 300)))) := Lib.hid fun h => by rw [rightT, h, Bool.true_and]
  have e2 : Hid ((ls.all fun l => decide (l.length ≤ 60)) = false → rightT key ls m = false) := Lib.hid fun h => by rw [rightT, h, Bool.false_and]
  clear hr
  generalize rightT key ls m = V at *
  generalize rightL key = RK at *
  go_enter Tryd.func33, Tryd.ntmps33
  go_wp2_with (first | ((first | ((with_reducible show wpList _ _ _ (Oper.mk _ (Op.box _ _) _ _ _ _ :: _) _ _); first | ((with_reducible apply wq_boxN hm); (exact rfl); (exact rfl)) | fail)); clear hm; (first | (have hx_ := g1; clear hx_; (first | (have hx_ := g2; clear hx_; (first | (have hx_ := g3; clear hx_; (first | (have hx_ := g4; clear hx_; (first | (have hx_ := g5; clear hx_; (first | (have hx_ := g6; clear hx_; (first | (have hx_ := g7; clear hx_; (first | (have hx_ := g8; clear hx_; (first | (have hx_ := g9; clear hx_; intro g10) | intro g9)) | intro g8)) | intro g7)) | intro g6)) | intro g5)) | intro g4)) | intro g3)) | intro g2)) | intro g1); intro w hm) | fail)
  go_loopw [3] (fun i wr => ∃ k : Nat, k ≤ ls.length ∧ i = .int .i64 k ∧ ((ls.take k).all fun l => decide (l.length ≤ 60)) = true ∧ Own w0 wr [⟨g1, 59, textC p key.length c q ls.length d r m f b⟩]) (fun i _ => ls.length - (intOf i).toNat)
  case atStart => exact ⟨0, by omega, rfl, rfl, hm⟩
  case round =>
    obtain ⟨k, hk, rfl, hall, hm⟩ := hrel
    have HALL := Lib.hid hall
    clear hall
    by_cases hlt : k < ls.length
    · have hd : decide ((k : Int) < (ls.length : Int)) = true := decide_eq_true (by omega)
      have hd2 : (k : Int) < (ls.length : Int) := by omega
      obtain ⟨a, rfl, q', c', hcell, _, _, hlm⟩ := (HR.out.ext hm.x).row k hlt
      have EK := Lib.hid (ET.out k hlt)
      have EA := Lib.hid fun (h : 60 < (ls.getD k []).length) => (show (ls.all fun l => decide (l.length ≤ 60)) = false by
        rw [List.all_eq_false]
        exact ⟨ls.getD k [], by rw [List.getD_eq_getElem?_getD, List.getElem?_eq_getElem hlt]; exact List.getElem_mem hlt, by simpa using h⟩)
      generalize ls.getD k [] = B at *
      by_cases hb : 60 < B.length
      · have c1 : decide ((60 : Int) < (B.length : Int)) = true := decide_eq_true (by omega)
        have c2 : (60 : Int) < (B.length : Int) := by omega
        have eV := e2.out (EA.out hb)
        go_wp2_with (first | ((with_reducible show wpList _ _ _ (Oper.mk _ (Op.load _ _) _ _ _ _ :: _) _ _); first | ((with_reducible apply wq_ld1 hm); (exact rfl); infer_instance; (exact rfl); (focus ((repeat (first | exact .hd | assumption | apply Has.tl)); done)); (exact rfl)) | fail) | fail)
        go_ret
        exact ⟨by rw [eV]; rfl, hm.x⟩
      · have c1 : decide ((60 : Int) < (B.length : Int)) = false := decide_eq_false (by omega)
        have c2 : ¬ (60 : Int) < (B.length : Int) := by omega
        go_wp2_with (first | ((with_reducible show wpList _ _ _ (Oper.mk _ (Op.load _ _) _ _ _ _ :: _) _ _); first | ((with_reducible apply wq_ld1 hm); (exact rfl); infer_instance; (exact rfl); (focus ((repeat (first | exact .hd | assumption | apply Has.tl)); done)); (exact rfl)) | fail) | fail)
        go_roundw
        case rel => exact ⟨k + 1, by omega, by go_num, by rw [EK.out, HALL.out, Bool.true_and, decide_eq_true_eq]; omega, hm⟩
        case measure => simp [intOf] <;> omega
    · obtain rfl : k = ls.length := by omega
      have hall := HALL.out
      rw [List.take_length] at hall
      have eV := e1.out hall
      clear hall
      have hd : decide ((ls.length : Int) < (ls.length : Int)) = false := decide_eq_false (by omega)
      cases RK with
      | false =>
        rw [Bool.false_and] at eV
        go_wp2_with (first | (go_at_call 19; (with_reducible refine (CR.out _).mono ?_); rintro e_ w_ ⟨rfl, rfl⟩) | ((with_reducible show wpList _ _ _ (Oper.mk _ (Op.load _ _) _ _ _ _ :: _) _ _); first | ((with_reducible apply wq_ld1 hm); (exact rfl); infer_instance; (exact rfl); (focus ((repeat (first | exact .hd | assumption | apply Has.tl)); done)); (exact rfl)) | fail) | fail)
        go_ret
        exact ⟨by rw [eV]; rfl, hm.x⟩
      | true =>
        rw [Bool.true_and] at eV
        by_cases h6 : ls.length ≤ 6
        · have f1 : decide ((ls.length : Int) ≤ 6) = true := decide_eq_true (by omega)
          have f2 : (ls.length : Int) ≤ 6 := by omega
          rw [decide_eq_true h6, Bool.true_and] at eV
          by_cases h3 : m ≤ 300
          · have f3 : decide ((m : Int) ≤ 300) = true := decide_eq_true (by omega)
            have f4 : (m : Int) ≤ 300 := by omega
            rw [decide_eq_true h3] at eV
            go_wp2_with (first | (go_at_call 19; (with_reducible refine (CR.out _).mono ?_); rintro e_ w_ ⟨rfl, rfl⟩) | ((with_reducible show wpList _ _ _ (Oper.mk _ (Op.load _ _) _ _ _ _ :: _) _ _); first | ((with_reducible apply wq_ld1 hm); (exact rfl); infer_instance; (exact rfl); (focus ((repeat (first | exact .hd | assumption | apply Has.tl)); done)); (exact rfl)) | fail) | fail)
            go_ret
            exact ⟨by rw [eV]; first | rfl | simp [f1, f3], hm.x⟩
          · have f3 : decide ((m : Int) ≤ 300) = false := decide_eq_false (by omega)
            have f4 : ¬ (m : Int) ≤ 300 := by omega
            rw [decide_eq_false h3] at eV
            go_wp2_with (first | (go_at_call 19; (with_reducible refine (CR.out _).mono ?_); rintro e_ w_ ⟨rfl, rfl⟩) | ((with_reducible show wpList _ _ _ (Oper.mk _ (Op.load _ _) _ _ _ _ :: _) _ _); first | ((with_reducible apply wq_ld1 hm); (exact rfl); infer_instance; (exact rfl); (focus ((repeat (first | exact .hd | assumption | apply Has.tl)); done)); (exact rfl)) | fail) | fail)
            go_ret
            exact ⟨by rw [eV]; first | rfl | simp [f1, f3], hm.x⟩
        · have f1 : decide ((ls.length : Int) ≤ 6) = false := decide_eq_false (by omega)
          have f2 : ¬ (ls.length : Int) ≤ 6 := by omega
          rw [decide_eq_false h6, Bool.false_and] at eV
          go_wp2_with (first | (go_at_call 19; (with_reducible refine (CR.out _).mono ?_); rintro e_ w_ ⟨rfl, rfl⟩) | ((with_reducible show wpList _ _ _ (Oper.mk _ (Op.load _ _) _ _ _ _ :: _) _ _); first | ((with_reducible apply wq_ld1 hm); (exact rfl); infer_instance; (exact rfl); (focus ((repeat (first | exact .hd | assumption | apply Has.tl)); done)); (exact rfl)) | fail) | fail)
          go_ret
          exact ⟨by rw [eV]; first | rfl | simp [f1], hm.x⟩

set_option maxHeartbeats 2000000 in
theorem keys20_ok (key : List Byte) (p : Option Addr) (c : Nat) (w0 : World) (h : rightL key = true) (hkc : key.length ≤ c) (hk : RdB w0 p key) (hc : Coef w0) (hcb : CoefB w0) :
    Calls Tryd.prog 34 #[.slice p key.length c] w0 fun e w' => ∃ g gt gb, e = .returned (.tuple #[.pointer (some ⟨g, 0, none⟩), .bool true]) ∧ w0.heap.size ≤ g ∧ w0.heap.size ≤ gt ∧ gt ≠ g ∧ Row w' g 96 (kcells gt (keyOf key)) ∧ Row w' gt 122 (tcells gb mixT unmixT) ∧ Ext w0 w' := by
  have HC := Lib.hid hc
  have HB := Lib.hid hcb
  have HK := Lib.hid hk
  have h' : 0 < key.length ∧ key.length ≤ 128 := by simpa [rightL] using h
  have H := Lib.hid h'
  clear hc hcb hk h h'
  go_enter Tryd.func34, Tryd.ntmps34
  go_wp2_with fail
  refine (make_new _).mono ?_
  rintro e w1 ⟨gb, rfl, _, hb, hx0⟩
  go_wp2_with fail
  refine (tnew_new gb _ hb (HC.out.ext hx0)).mono ?_
  rintro e w2 ⟨gt, rfl, hgt, hr, hx1⟩
  have hx := hx0.trans hx1
  go_wp2_with fail
  refine (ext_ok gt gb key p c w2 H.out.1 H.out.2 hkc (HK.out.ext hx) (HB.out.ext hx) hr).mono ?_
  rintro e w3 ⟨g, rfl, hg, hkr, hx2⟩
  go_wp2
  go_ret2
  exact ⟨g, gt, gb, rfl, Nat.le_trans hx.size hg, Nat.le_trans hx0.size hgt, Nat.ne_of_lt (Nat.lt_of_lt_of_le (row_lt hr) hg), hkr, row_ext hr hx2, hx.trans hx2⟩
theorem keys20_bad (key : List Byte) (p : Option Addr) (c : Nat) (w0 : World) (h : rightL key = false) (hc : Coef w0) :
    Calls Tryd.prog 34 #[.slice p key.length c] w0 fun e w' => e = .returned (.tuple #[.pointer none, .bool false]) ∧ Ext w0 w' := by
  have HC := Lib.hid hc
  have h' : key.length = 0 ∨ 128 < key.length := by
    simp only [rightL, Bool.and_eq_false_iff, decide_eq_false_iff_not] at h; omega
  have H := Lib.hid h'
  clear hc h h'
  go_enter Tryd.func34, Tryd.ntmps34
  go_wp2_with fail
  refine (make_new _).mono ?_
  rintro e w1 ⟨gb, rfl, _, hb, hx0⟩
  go_wp2_with fail
  refine (tnew_new gb _ hb (HC.out.ext hx0)).mono ?_
  rintro e w2 ⟨gt, rfl, hgt, hr, hx1⟩
  have hx := hx0.trans hx1
  go_wp2_with fail
  refine (ext_bad gt p key.length c w2 H.out).mono ?_
  rintro e w3 ⟨rfl, rfl⟩
  go_wp2
  go_ret2
  exact ⟨rfl, hx⟩

set_option maxHeartbeats 2000000 in
theorem plus20_any (a b : List Byte) (ha : a.length = 16) (hb : b.length = 16) (w0 : World) : Gives Tryd.prog 37 #[A8 a, A8 b] w0 (A8 (bothL a b)) := by
  unfold Gives
  have hm := Own.start w0
  have ha1 := Nat.le_of_eq ha
  have ha2 := Nat.le_of_eq ha.symm
  have hb1 := Nat.le_of_eq hb
  have hb2 := Nat.le_of_eq hb.symm
  have ES : Hid (a = part 16 0 (fun i => nth a i ^^^ nth b i) (nth a)) := Lib.hid (part_start ha)
  have EE : Hid (part 16 16 (fun i => nth a i ^^^ nth b i) (nth a) = bothL a b) := Lib.hid part_all
  clear ha hb
  go_enter Tryd.func37, Tryd.ntmps37
  go_wp2_with (first | ((first | ((with_reducible show wpList _ _ _ (Oper.mk _ (Op.alloc _) _ _ _ _ :: _) _ _); first | ((with_reducible apply wq_new hm); (exact rfl); infer_instance) | fail) | ((with_reducible show wpList _ _ _ (Oper.mk _ (Op.box _ _) _ _ _ _ :: _) _ _); first | ((with_reducible apply wq_boxN hm); (exact rfl); (exact rfl)) | fail)); clear hm; (first | (have hx_ := g1; clear hx_; (first | (have hx_ := g2; clear hx_; (first | (have hx_ := g3; clear hx_; (first | (have hx_ := g4; clear hx_; (first | (have hx_ := g5; clear hx_; (first | (have hx_ := g6; clear hx_; (first | (have hx_ := g7; clear hx_; (first | (have hx_ := g8; clear hx_; (first | (have hx_ := g9; clear hx_; intro g10) | intro g9)) | intro g8)) | intro g7)) | intro g6)) | intro g5)) | intro g4)) | intro g3)) | intro g2)) | intro g1); intro w hm) | fail)
  go_loopw [5] (fun i wr => ∃ j : Nat, j ≤ 16 ∧ i = .int .i64 j ∧ Own w0 wr [⟨g3, 27, (zer 16).map v8⟩, ⟨g2, 27, b.map v8⟩, ⟨g1, 27, (part 16 j (fun i => nth a i ^^^ nth b i) (nth a)).map v8⟩]) (fun i _ => 16 - (intOf i).toNat)
  case atStart => exact ⟨0, by omega, rfl, by rw [← ES.out]; exact hm⟩
  case round =>
    obtain ⟨j, hj, rfl, hm⟩ := hrel
    by_cases hjl : j < 16
    · have hj1 : decide ((j : Int) < 16) = true := decide_eq_true (by omega)
      have hj2 : (j : Int) < 16 := by omega
      have EJ : Hid (setN (part 16 j (fun i => nth a i ^^^ nth b i) (nth a)) j (nth (part 16 j (fun i => nth a i ^^^ nth b i) (nth a)) j ^^^ nth b j) = part 16 (j + 1) (fun i => nth a i ^^^ nth b i) (nth a)) := Lib.hid (by
        rw [nth_part_ge hjl (Nat.le_refl _)]; exact part_set (f := fun i => nth a i ^^^ nth b i) hjl)
      have lJ : (part 16 j (fun i => nth a i ^^^ nth b i) (nth a)).length = 16 := part_length
      generalize part 16 j (fun i => nth a i ^^^ nth b i) (nth a) = C at *
      go_wp2_with fail
      refine region_at 8 (fun w' => Ext _ w') 19 (by kernel_rfl) (by kernel_rfl) rfl (fun _ _ h k => h.trans k) (drew_ext _) ?_
      simp only [List.take_succ_cons, List.take_zero, List.drop_succ_cons, List.drop_zero, List.map_cons, List.map_nil]
      repeat (first
          | (apply walk_is rfl rfl rfl
             · (intro wx hwx; first | ((with_reducible show gives _ _ _ (Sem.run _ (execOp _ (Oper.mk _ (Op.load _ _) _ _ _ _)) _)); first | ((with_reducible apply gq_ldv (hm.ext hwx)); infer_instance; (exact rfl); (focus ((repeat (first | exact .hd | assumption | apply Has.tl)); done)); (focus (first | omega | (simp; omega) | (refine Nat.lt_of_lt_of_le (BitVec.isLt _) ?_; first | omega | (simp; done) | (simp; omega) | fail) | fail))) | ((with_reducible apply gq_ldW (hm.ext hwx)); infer_instance; (exact rfl); (focus ((repeat (first | exact .hd | assumption | apply Has.tl)); done)); (focus (first | rfl | omega | (simp; done) | (simp; omega) | fail))) | ((with_reducible apply gq_ld1 (hm.ext hwx)); infer_instance; (exact rfl); (focus ((repeat (first | exact .hd | assumption | apply Has.tl)); done)); (exact rfl)) | fail) | (go_simp; (try go_bits); first | exact gives_same | exact gives_skip))
             · (simp only [Act.put, List.setIfInBounds_toArray, List.set_cons_succ, List.set_cons_zero]; rfl))
          | (apply walk_not rfl rfl rfl
             · (simp only [Act.put, List.setIfInBounds_toArray, List.set_cons_succ, List.set_cons_zero]; rfl)))
      intro wz hwz
      simp only [List.zip_cons_cons, List.zip_nil_right]
      repeat (first | rw [fin_is] | (rw [fin_cons]; intro _ _))
      rw [fin_nil]
      try (replace hm := hm.ext hwz)
      simp only [Act.put, List.setIfInBounds_toArray, List.set_cons_succ, List.set_cons_zero]
      go_wp2_with (first | ((((with_reducible show wpList _ _ _ (Oper.mk _ (Op.store _ _ _) _ _ _ _ :: _) _ _); first | ((with_reducible apply wq_stv hm); (exact rfl); infer_instance; (exact rfl); (focus ((repeat (first | exact .hd | assumption | apply Swap.tl)); done)); infer_instance; (exact rfl); (focus (first | omega | (simp; omega) | (refine Nat.lt_of_lt_of_le (BitVec.isLt _) ?_; first | omega | (simp; done) | (simp; omega) | fail) | fail))) | fail)); clear hm; intro w hm) | fail)
      go_roundw
      case rel =>
        rw [EJ.out] at hm
        exact ⟨j + 1, by omega, by go_num, hm⟩
      case measure => simp [intOf] <;> omega
    · obtain rfl : j = 16 := by omega
      have hj1 : decide (((16 : Nat) : Int) < 16) = false := decide_eq_false (by omega)
      rw [EE.out] at hm
      go_wp2_with (first | ((with_reducible show wpList _ _ _ (Oper.mk _ (Op.load _ _) _ _ _ _ :: _) _ _); first | ((with_reducible apply wq_ldW hm); (exact rfl); infer_instance; (exact rfl); (focus ((repeat (first | exact .hd | assumption | apply Has.tl)); done)); (focus (first | rfl | omega | (simp; done) | (simp; omega) | fail))) | fail) | ((((with_reducible show wpList _ _ _ (Oper.mk _ (Op.store _ _ _) _ _ _ _ :: _) _ _); first | ((with_reducible apply wq_stW hm); (exact rfl); infer_instance; (exact rfl); (exact rfl); (focus ((repeat (first | exact .hd | assumption | apply Swap.tl)); done)); (focus (first | rfl | omega | (simp; done) | (simp; omega) | fail)); (focus (first | rfl | omega | (simp; done) | (simp; omega) | fail)); (focus (first | exact one_map _ | (simp [one8, one32, one64]; done) | fail))) | fail)); clear hm; intro w hm) | fail)
      refine ret_own hm rfl rfl (by infer_instance) (by repeat (first | exact Has.hd | assumption | apply Has.tl)) (by first | rfl | omega | (simp only [zeros_length, zer_length, tab_length, part_length, setN_length, List.length_map, List.length_cons, List.length_nil, List.length_append, List.length_take, List.length_drop, List.length_replicate, blk_length, putL_length] <;> omega) | fail) rfl ⟨rfl, hm.x⟩
theorem cturn_nil (v m : Value) (back : Bool) (w0 : World) : Calls Tryd.prog 35 #[.pointer none, v, m, .bool back] w0 fun e w' => e = .returned (.tuple #[.slice none 0 0, .int .i64 2]) ∧ w' = w0 := by
  go_enter Tryd.func35, Tryd.ntmps35
  go_wp2
  go_ret2
  exact ⟨rfl, rfl⟩
theorem cturn_short (g : Nat) (v : Value) (p : Option Addr) (n c : Nat) (back : Bool) (w0 : World) (h : n < 32) : Calls Tryd.prog 35 #[.pointer (some ⟨g, 0, none⟩), v, .slice p n c, .bool back] w0 fun e w' => e = .returned (.tuple #[.slice none 0 0, .int .i64 7]) ∧ w' = w0 := by
  have n1 : decide ((n : Int) < 32) = true := decide_eq_true (by omega)
  have n2 : (n : Int) < 32 := by omega
  go_enter Tryd.func35, Tryd.ntmps35
  go_wp2
  go_ret2
  exact ⟨rfl, rfl⟩

set_option maxHeartbeats 4000000 in
theorem awake20 (w0 : World) (hc : Coef w0 ∧ CoefB w0) : Gives Tryd.prog 36 #[] w0 (.bool true) := by
  unfold Gives
  have hm := Own.start w0
  have HC := Lib.hid hc.1
  have HB := Lib.hid hc.2
  have KO := Lib.hid fun (w : World) (p : Option Addr) (c : Nat) (h1 : 1 ≤ c) (h2 : RdB w p [1#8]) (h3 : Coef w) (h4 : CoefB w) => keys20_ok [1#8] p c w rfl h1 h2 h3 h4
  have OKK := Lib.hid (keyOf_ok [1#8])
  generalize keyOf [1#8] = K at *
  have CO := Lib.hid fun (w : World) (g : Nat) (p : Option Addr) (h : KeyR w g K) (hr : RdB w p (zeros 32)) => show Calls Tryd.prog 35 #[.pointer (some ⟨g, 0, none⟩), .slice none 0 0, .slice p 32 32, .bool false] w fun e w' => ∃ px cx, e = .returned (.tuple #[.slice px 32 cx, .int .i64 0]) ∧ 32 ≤ cx ∧ RdB w' px (coreL (eZ K) (hashG (eZ K) []) 1 2 (zeros 32)) ∧ Ext w w' from
    cturn_ok g (eZ K) (eZ_length K) [] none 0 (zeros 32) p 32 false 1 2 (.inl ⟨rfl, rfl, rfl⟩) w ⟨by simp, by simp⟩ (Nat.le_refl _) (by simp) (by simp) hr (by simp) (by simp) (by simp) (fun wx hx j m x h1 h2 h3 => (h.ext hx).e j m x h1 h2 h3)
  have CS := Lib.hid fun (w : World) (g : Nat) (p : Option Addr) => cturn_short g (.slice none 0 0) p 31 31 false w (by omega)
  generalize coreL (eZ K) (hashG (eZ K) []) 1 2 (zeros 32) = D at *
  clear hc
  go_enter Tryd.func36, Tryd.ntmps36
  go_wp2_with (first | ((with_reducible apply wq_bs1c bs1_1 hm); exact rfl; exact rfl; clear hm; intro g9 w hm) | fail)
  refine (KO.out _ _ _ (by omega) (hm.rdB (g := g9) (l := [1#8]) (by repeat (first | exact Has.hd | assumption | apply Has.tl))) (HC.out.ext hm.x) (HB.out.ext hm.x)).mono ?_
  rintro e w ⟨g, gt, gb, rfl, hg_, hgt_, hne_, hrk_, hrt_, hx_⟩
  replace hm := hm.push2 hx_ hgt_ hrt_ hg_ hrk_ hne_
  clear hx_ hg_ hgt_ hne_ hrk_ hrt_
  go_wp2_with (first | ((with_reducible apply wq_mkR 32 32 hm); exact rfl; exact rfl; exact rfl; exact rfl; (focus omega); (focus omega); (focus omega); clear hm; intro g2 w hm) | fail)
  refine (CO.out _ g _ (KeyR.own (g := g) (gt := gt) (gb := gb) OKK.out hm (by repeat (first | exact Has.hd | assumption | apply Has.tl)) (by repeat (first | exact Has.hd | assumption | apply Has.tl))) (hm.rdB (g := g2) (l := zeros 32) (by repeat (first | exact Has.hd | assumption | apply Has.tl)))).mono ?_
  rintro e w ⟨px, cx, rfl, hcx, hrx, hx_⟩
  replace hm := hm.ext hx_
  clear hx_ hrx
  go_wp2_with (first | ((with_reducible apply wq_mkR 31 31 hm); exact rfl; exact rfl; exact rfl; exact rfl; (focus omega); (focus omega); (focus omega); clear hm; intro g3 w hm) | fail)
  refine (CS.out _ g _).mono ?_
  rintro e w_ ⟨rfl, rfl⟩
  go_wp2_with fail
  go_ret
  exact ⟨rfl, hm.x⟩

end Go.Proofs.YtmgopjeaehmbfaaDoor
