/-
  Layer 19: what the statements look at first. Conditions: those written in each theorem.
-/
import Derived.Test.YtmgopjeaehmbfaaDoorTiny5
import Derived.Test.YtmgopjeaehmbfaaDoorEzg
namespace Go.Proofs.YtmgopjeaehmbfaaDoor
open Go Go.RowKit
set_option maxRecDepth 100000
set_option linter.unusedVariables false
set_option linter.unusedSimpArgs false

/-- The cells of a key, a row, a message and a way. -/
abbrev textC (p : Option Addr) (n c : Nat) (q : Option Addr) (m d : Nat) (r : Option Addr) (k f : Nat) (b : Bool) : List Value := [.slice p n c, .slice q m d, .slice r k f, .bool b]
/-- May they be? -/
def rightT (key : List Byte) (ls : List (List Byte)) (m : Nat) : Bool := (ls.all fun l => decide (l.length ≤ 60)) && (rightL key && (decide (ls.length ≤ 6) && decide (m ≤ 100)))
theorem all_takeT (ls : List (List Byte)) (k : Nat) (h : k < ls.length) : ((ls.take (k + 1)).all fun l => decide (l.length ≤ 60)) = (((ls.take k).all fun l => decide (l.length ≤ 60)) && decide ((ls.getD k []).length ≤ 60)) := by
  rw [List.take_succ_eq_append_getElem h, List.all_append, List.getD_eq_getElem?_getD, List.getElem?_eq_getElem h]; simp
theorem rightT_out {key : List Byte} {ls : List (List Byte)} {m : Nat} (h : rightT key ls m = true) : rightL key = true ∧ (∀ i, (ls.getD i []).length ≤ 60) ∧ ls.length ≤ 6 ∧ m ≤ 100 := by
  simp only [rightT, Bool.and_eq_true, decide_eq_true_eq, List.all_eq_true] at h
  refine ⟨h.2.1, fun i => ?_, h.2.2⟩
  rw [List.getD_eq_getElem?_getD]
  cases hi : ls[i]? with
  | none => simp
  | some x => exact h.1 x (List.mem_of_getElem? hi)
set_option maxHeartbeats 4000000 in
theorem tright_any (key : List Byte) (p : Option Addr) (c : Nat) (ls : List (List Byte)) (q : Option Addr) (d : Nat) (r : Option Addr) (m f : Nat) (b : Bool) (w0 : World) (hl : ls.length ≤ maxLen) (hr : RdR w0 q ls) : Gives Tryd.prog 39 #[.agg (textC p key.length c q ls.length d r m f b).toArray] w0 (.bool (rightT key ls m)) := by
  unfold Gives
  have hm := Own.start w0
  have HR := Lib.hid hr
  have CR := Lib.hid fun w => right15_any key p c w
  have hl2 : ls.length ≤ 9223372036854775807 := Nat.le_trans hl (by decide)
  have ET := Lib.hid (all_takeT ls)
  have e1 : Hid ((ls.all fun l => decide (l.length ≤ 60)) = true → rightT key ls m = (rightL key && (decide (ls.length ≤ 6) && decide (m ≤ 100)))) := Lib.hid fun h => by rw [rightT, h, Bool.true_and]
  have e2 : Hid ((ls.all fun l => decide (l.length ≤ 60)) = false → rightT key ls m = false) := Lib.hid fun h => by rw [rightT, h, Bool.false_and]
  clear hr
  generalize rightT key ls m = V at *
  generalize rightL key = RK at *
  go_enter Tryd.func39, Tryd.ntmps39
  go_wp2_with (first | ((first | ((with_reducible show wpList _ _ _ (Oper.mk _ (Op.box _ _) _ _ _ _ :: _) _ _); first | ((with_reducible apply wq_boxN hm); (exact rfl); (exact rfl)) | fail)); clear hm; (first | (have hx_ := g1; clear hx_; (first | (have hx_ := g2; clear hx_; (first | (have hx_ := g3; clear hx_; (first | (have hx_ := g4; clear hx_; (first | (have hx_ := g5; clear hx_; (first | (have hx_ := g6; clear hx_; (first | (have hx_ := g7; clear hx_; (first | (have hx_ := g8; clear hx_; (first | (have hx_ := g9; clear hx_; intro g10) | intro g9)) | intro g8)) | intro g7)) | intro g6)) | intro g5)) | intro g4)) | intro g3)) | intro g2)) | intro g1); intro w hm) | fail)
  go_loopw [3] (fun i wr => ∃ k : Nat, k ≤ ls.length ∧ i = .int .i64 k ∧ ((ls.take k).all fun l => decide (l.length ≤ 60)) = true ∧ Own w0 wr [⟨g1, 66, textC p key.length c q ls.length d r m f b⟩]) (fun i _ => ls.length - (intOf i).toNat)
  case atStart => exact ⟨0, by omega, rfl, rfl, hm⟩
  case round =>
    obtain ⟨k, hk, rfl, hall, hm⟩ := hrel
    have HALL := Lib.hid hall
    clear hall
    by_cases hlt : k < ls.length
    · have hd : decide ((k : Int) < (ls.length : Int)) = true := decide_eq_true (by omega)
      have hd2 : (k : Int) < (ls.length : Int) := by omega
      obtain ⟨a, rfl, q', c', hcell, _, _, hlm⟩ := (HR.out.ext hm.x).row k hlt
      have EK := Lib.hid (ET.out k hlt)
      have EA := Lib.hid fun (h : 60 < (ls.getD k []).length) => (show (ls.all fun l => decide (l.length ≤ 60)) = false by
        rw [List.all_eq_false]
        exact ⟨ls.getD k [], by rw [List.getD_eq_getElem?_getD, List.getElem?_eq_getElem hlt]; exact List.getElem_mem hlt, by simpa using h⟩)
      generalize ls.getD k [] = B at *
      by_cases hb : 60 < B.length
      · have c1 : decide ((60 : Int) < (B.length : Int)) = true := decide_eq_true (by omega)
        have c2 : (60 : Int) < (B.length : Int) := by omega
        have eV := e2.out (EA.out hb)
        go_wp2_with (first | ((with_reducible show wpList _ _ _ (Oper.mk _ (Op.load _ _) _ _ _ _ :: _) _ _); first | ((with_reducible apply wq_ld1 hm); (exact rfl); infer_instance; (exact rfl); (focus ((repeat (first | exact .hd | assumption | apply Has.tl)); done)); (exact rfl)) | fail) | fail)
        go_ret
        exact ⟨by rw [eV]; rfl, hm.x⟩
      · have c1 : decide ((60 : Int) < (B.length : Int)) = false := decide_eq_false (by omega)
        have c2 : ¬ (60 : Int) < (B.length : Int) := by omega
        go_wp2_with (first | ((with_reducible show wpList _ _ _ (Oper.mk _ (Op.load _ _) _ _ _ _ :: _) _ _); first | ((with_reducible apply wq_ld1 hm); (exact rfl); infer_instance; (exact rfl); (focus ((repeat (first | exact .hd | assumption | apply Has.tl)); done)); (exact rfl)) | fail) | fail)
        go_roundw
        case rel => exact ⟨k + 1, by omega, by go_num, by rw [EK.out, HALL.out, Bool.true_and, decide_eq_true_eq]; omega, hm⟩
        case measure => simp [intOf] <;> omega
    · obtain rfl : k = ls.length := by omega
      have hall := HALL.out
      rw [List.take_length] at hall
      have eV := e1.out hall
      clear hall
      have hd : decide ((ls.length : Int) < (ls.length : Int)) = false := decide_eq_false (by omega)
      cases RK with
      | false =>
        rw [Bool.false_and] at eV
        go_wp2_with (first | (go_at_call 19; (with_reducible refine (CR.out _).mono ?_); rintro e_ w_ ⟨rfl, rfl⟩) | ((with_reducible show wpList _ _ _ (Oper.mk _ (Op.load _ _) _ _ _ _ :: _) _ _); first | ((with_reducible apply wq_ld1 hm); (exact rfl); infer_instance; (exact rfl); (focus ((repeat (first | exact .hd | assumption | apply Has.tl)); done)); (exact rfl)) | fail) | fail)
        go_ret
        exact ⟨by rw [eV]; rfl, hm.x⟩
      | true =>
        rw [Bool.true_and] at eV
        by_cases h6 : ls.length ≤ 6
        · have f1 : decide ((ls.length : Int) ≤ 6) = true := decide_eq_true (by omega)
          have f2 : (ls.length : Int) ≤ 6 := by omega
          rw [decide_eq_true h6, Bool.true_and] at eV
          by_cases h3 : m ≤ 100
          · have f3 : decide ((m : Int) ≤ 100) = true := decide_eq_true (by omega)
            have f4 : (m : Int) ≤ 100 := by omega
            rw [decide_eq_true h3] at eV
            go_wp2_with (first | (go_at_call 19; (with_reducible refine (CR.out _).mono ?_); rintro e_ w_ ⟨rfl, rfl⟩) | ((with_reducible show wpList _ _ _ (Oper.mk _ (Op.load _ _) _ _ _ _ :: _) _ _); first | ((with_reducible apply wq_ld1 hm); (exact rfl); infer_instance; (exact rfl); (focus ((repeat (first | exact .hd | assumption | apply Has.tl)); done)); (exact rfl)) | fail) | fail)
            go_ret
            exact ⟨by rw [eV]; first | rfl | simp [f1, f3], hm.x⟩
          · have f3 : decide ((m : Int) ≤ 100) = false := decide_eq_false (by omega)
            have f4 : ¬ (m : Int) ≤ 100 := by omega
            rw [decide_eq_false h3] at eV
            go_wp2_with (first | (go_at_call 19; (with_reducible refine (CR.out _).mono ?_); rintro e_ w_ ⟨rfl, rfl⟩) | ((with_reducible show wpList _ _ _ (Oper.mk _ (Op.load _ _) _ _ _ _ :: _) _ _); first | ((with_reducible apply wq_ld1 hm); (exact rfl); infer_instance; (exact rfl); (focus ((repeat (first | exact .hd | assumption | apply Has.tl)); done)); (exact rfl)) | fail) | fail)
            go_ret
            exact ⟨by rw [eV]; first | rfl | simp [f1, f3], hm.x⟩
        · have f1 : decide ((ls.length : Int) ≤ 6) = false := decide_eq_false (by omega)
          have f2 : ¬ (ls.length : Int) ≤ 6 := by omega
          rw [decide_eq_false h6, Bool.false_and] at eV
          go_wp2_with (first | (go_at_call 19; (with_reducible refine (CR.out _).mono ?_); rintro e_ w_ ⟨rfl, rfl⟩) | ((with_reducible show wpList _ _ _ (Oper.mk _ (Op.load _ _) _ _ _ _ :: _) _ _); first | ((with_reducible apply wq_ld1 hm); (exact rfl); infer_instance; (exact rfl); (focus ((repeat (first | exact .hd | assumption | apply Has.tl)); done)); (exact rfl)) | fail) | fail)
          go_ret
          exact ⟨by rw [eV]; first | rfl | simp [f1], hm.x⟩

set_option maxHeartbeats 2000000 in
theorem keys19_ok (key : List Byte) (p : Option Addr) (c : Nat) (w0 : World) (h : rightL key = true) (hkc : key.length ≤ c) (hk : RdB w0 p key) (hc : Coef w0) (hcb : CoefB w0) :
    Calls Tryd.prog 40 #[.slice p key.length c] w0 fun e w' => ∃ g gt gb, e = .returned (.tuple #[.pointer (some ⟨g, 0, none⟩), .bool true]) ∧ w0.heap.size ≤ g ∧ w0.heap.size ≤ gt ∧ gt ≠ g ∧ Row w' g 96 (kcells gt (keyOf key)) ∧ Row w' gt 122 (tcells gb mixT unmixT) ∧ Ext w0 w' := by
  have HC := Lib.hid hc
  have HB := Lib.hid hcb
  have HK := Lib.hid hk
  have h' : 0 < key.length ∧ key.length ≤ 128 := by simpa [rightL] using h
  have H := Lib.hid h'
  clear hc hcb hk h h'
  go_enter Tryd.func40, Tryd.ntmps40
  go_wp2_with fail
  refine (make_new _).mono ?_
  rintro e w1 ⟨gb, rfl, _, hb, hx0⟩
  go_wp2_with fail
  refine (tnew_new gb _ hb (HC.out.ext hx0)).mono ?_
  rintro e w2 ⟨gt, rfl, hgt, hr, hx1⟩
  have hx := hx0.trans hx1
  go_wp2_with fail
  refine (ext_ok gt gb key p c w2 H.out.1 H.out.2 hkc (HK.out.ext hx) (HB.out.ext hx) hr).mono ?_
  rintro e w3 ⟨g, rfl, hg, hkr, hx2⟩
  go_wp2
  go_ret2
  exact ⟨g, gt, gb, rfl, Nat.le_trans hx.size hg, Nat.le_trans hx0.size hgt, Nat.ne_of_lt (Nat.lt_of_lt_of_le (row_lt hr) hg), hkr, row_ext hr hx2, hx.trans hx2⟩
theorem keys19_bad (key : List Byte) (p : Option Addr) (c : Nat) (w0 : World) (h : rightL key = false) (hc : Coef w0) :
    Calls Tryd.prog 40 #[.slice p key.length c] w0 fun e w' => e = .returned (.tuple #[.pointer none, .bool false]) ∧ Ext w0 w' := by
  have HC := Lib.hid hc
  have h' : key.length = 0 ∨ 128 < key.length := by
    simp only [rightL, Bool.and_eq_false_iff, decide_eq_false_iff_not] at h; omega
  have H := Lib.hid h'
  clear hc h h'
  go_enter Tryd.func40, Tryd.ntmps40
  go_wp2_with fail
  refine (make_new _).mono ?_
  rintro e w1 ⟨gb, rfl, _, hb, hx0⟩
  go_wp2_with fail
  refine (tnew_new gb _ hb (HC.out.ext hx0)).mono ?_
  rintro e w2 ⟨gt, rfl, hgt, hr, hx1⟩
  have hx := hx0.trans hx1
  go_wp2_with fail
  refine (ext_bad gt p key.length c w2 H.out).mono ?_
  rintro e w3 ⟨rfl, rfl⟩
  go_wp2
  go_ret2
  exact ⟨rfl, hx⟩


theorem tturn_nil (v m : Value) (back : Bool) (w0 : World) : Calls Tryd.prog 41 #[.pointer none, v, m, .bool back] w0 fun e w' => e = .returned (.tuple #[.slice none 0 0, .int .i64 2]) ∧ w' = w0 := by
  go_enter Tryd.func41, Tryd.ntmps41
  go_wp2
  refine wp_scope_goto 0 (fun _ _ => False) (fun _ _ => 0) rfl (fun _ _ h => h.elim) ?_
  intro _
  go_wp2
  simp only [Exit.jump]
  go_ret2
  exact ⟨rfl, rfl⟩
/-- A short message, turned, whichever way. -/
theorem tturn_any (g : Nat) (F : Int → Int → List Byte → List Byte) (hF : ∀ j m x, (F j m x).length = 16) (ls : List (List Byte)) (q : Option Addr) (d : Nat) (l : List Byte) (p : Option Addr) (c : Nat) (back : Bool) (w0 : World) (hr : RdR w0 q ls) (hrd : ls.length ≤ d) (hrm : ls.length ≤ 70368744177000) (hrs : ∀ i, (ls.getD i []).length ≤ 70368744177000) (hl : RdB w0 p l) (hlc : l.length ≤ c) (h1 : 1 ≤ l.length) (h31 : l.length ≤ 31)
    (CE : ∀ wx, Ext w0 wx → ∀ (j m : Int) (x : List Byte), x.length = 16 → j ≤ 9223372036854775807 → m ≤ 9223372036854775807 → Gives Tryd.prog 29 #[.pointer (some ⟨g, 0, none⟩), .int .i64 j, .int .i64 m, A8 x] wx (A8 (F j m x))) :
    Calls Tryd.prog 41 #[.pointer (some ⟨g, 0, none⟩), .slice q ls.length d, .slice p l.length c, .bool back] w0 fun e w' => ∃ px cx, e = .returned (.tuple #[.slice px l.length cx, .int .i64 0]) ∧ l.length ≤ cx ∧ RdB w' px (tinyL F (hashG F ls) back l) ∧ Ext w0 w' := by
  cases back
  · exact tturn_fwd g F hF ls q d l p c w0 hr hrd hrm hrs hl hlc h1 h31 CE
  · exact tturn_back g F hF ls q d l p c w0 hr hrd hrm hrs hl hlc h1 h31 CE
theorem bs1_7 (w : World) : (Instr.buildSlice 22 1 #[(0, .int .u8 7)]).run Tryd.prog w = .ok (.slice (some ⟨w.heap.size, 0, none⟩) 1 1) (w.alloc (.cells [v8 7#8].toArray 5)) := by kernel_rfl
set_option maxHeartbeats 4000000 in
theorem awake19 (w0 : World) (hc : Coef w0 ∧ CoefB w0) : Gives Tryd.prog 42 #[] w0 (.bool true) := by
  unfold Gives
  have hm := Own.start w0
  have HC := Lib.hid hc.1
  have HB := Lib.hid hc.2
  have KO := Lib.hid fun (w : World) (p : Option Addr) (c : Nat) (h1 : 1 ≤ c) (h2 : RdB w p [1#8]) (h3 : Coef w) (h4 : CoefB w) => keys19_ok [1#8] p c w rfl h1 h2 h3 h4
  have OKK := Lib.hid (keyOf_ok [1#8])
  have R1 := Lib.hid fun w => ((by decide : roundsI 1 = 24) ▸ rounds_any 1 w : Calls Tryd.prog 45 #[.int .i64 1] w fun e w' => e = .returned (.int .i64 24) ∧ w' = w)
  have R31 := Lib.hid fun w => ((by decide : roundsI 31 = 8) ▸ rounds_any 31 w : Calls Tryd.prog 45 #[.int .i64 31] w fun e w' => e = .returned (.int .i64 8) ∧ w' = w)
  generalize keyOf [1#8] = K at *
  have CO := Lib.hid fun (w : World) (g : Nat) (p : Option Addr) (h : KeyR w g K) (hr : RdB w p [7#8]) => show Calls Tryd.prog 41 #[.pointer (some ⟨g, 0, none⟩), .slice none 0 0, .slice p 1 1, .bool false] w fun e w' => ∃ px cx, e = .returned (.tuple #[.slice px 1 cx, .int .i64 0]) ∧ 1 ≤ cx ∧ RdB w' px (tinyL (eZ K) (hashG (eZ K) []) false [7#8]) ∧ Ext w w' from
    tturn_any g (eZ K) (eZ_length K) [] none 0 [7#8] p 1 false w ⟨by simp, by simp⟩ (Nat.le_refl _) (by simp) (by simp) hr (by simp) (by simp) (by simp) (fun wx hx j m x h1 h2 h3 => (h.ext hx).e j m x h1 h2 h3)
  generalize tinyL (eZ K) (hashG (eZ K) []) false [7#8] = D at *
  clear hc
  go_enter Tryd.func42, Tryd.ntmps42
  go_wp2_with (first | ((with_reducible apply wq_bs1c bs1_1 hm); exact rfl; exact rfl; clear hm; intro g9 w hm) | fail)
  refine (KO.out _ _ _ (by omega) (hm.rdB (g := g9) (l := [1#8]) (by repeat (first | exact Has.hd | assumption | apply Has.tl))) (HC.out.ext hm.x) (HB.out.ext hm.x)).mono ?_
  rintro e w ⟨g, gt, gb, rfl, hg_, hgt_, hne_, hrk_, hrt_, hx_⟩
  replace hm := hm.push2 hx_ hgt_ hrt_ hg_ hrk_ hne_
  clear hx_ hg_ hgt_ hne_ hrk_ hrt_
  go_wp2_with (first | ((with_reducible apply wq_bs1c bs1_7 hm); exact rfl; exact rfl; clear hm; intro g8 w hm) | fail)
  refine (CO.out _ g _ (KeyR.own (g := g) (gt := gt) (gb := gb) OKK.out hm (by repeat (first | exact Has.hd | assumption | apply Has.tl)) (by repeat (first | exact Has.hd | assumption | apply Has.tl))) (hm.rdB (g := g8) (l := [7#8]) (by repeat (first | exact Has.hd | assumption | apply Has.tl)))).mono ?_
  rintro e w ⟨px, cx, rfl, hcx, hrx, hx_⟩
  replace hm := hm.ext hx_
  clear hx_ hrx
  go_wp2_with (first | (go_at_call 45; (with_reducible refine (R1.out _).mono ?_); rintro e_ w_ ⟨rfl, rfl⟩) | (go_at_call 45; (with_reducible refine (R31.out _).mono ?_); rintro e_ w_ ⟨rfl, rfl⟩) | fail)
  go_ret
  exact ⟨rfl, hm.x⟩

end Go.Proofs.YtmgopjeaehmbfaaDoor
