/-
  Layer 6: the statements on parts. Conditions: the program's first numbers and rows lie as its text lays them.
-/
import Derived.Test.YtmclklhnbmkheaaDoorLawBlake1
import Derived.Test.YtmclklhnbmkheaaDoorBlake5
namespace Go.Proofs.YtmclklhnbmkheaaDoor
open Go Go.RowKit
set_option maxRecDepth 100000
set_option linter.unusedVariables false
set_option linter.unusedSimpArgs false

/-- The cells of a size, a key, and bytes part by part. -/
abbrev partsV (size : Int) (p : Option Addr) (n c : Nat) (q : Option Addr) (m d : Nat) : List Value := [.int .i64 size, .slice p n c, .slice q m d]
/-- May they be? -/
def rightB (size : Int) (key : List Byte) (ls : List (List Byte)) : Bool := decide (1 ≤ size) && decide (size ≤ 64) && decide (key.length ≤ 64) && decide (ls.length ≤ 20) && ls.all fun l => decide (l.length ≤ 300)
theorem RdR.at {w : World} {p : Option Addr} {ls : List (List Byte)} (h : RdR w p ls) (i : Nat) (hi : i < ls.length) : ∃ a, p = some a ∧ ∃ (q : Option Addr) (c : Nat), w.cell? (a.add i) = some (.slice q (ls.getD i []).length c) ∧ RdB w q (ls.getD i []) ∧ (ls.getD i []).length ≤ c ∧ (ls.getD i []).length ≤ maxLen := by
  obtain ⟨a, rfl⟩ := Option.isSome_iff_exists.1 (h.1 (by omega))
  exact ⟨a, rfl, h.2 i hi⟩
theorem all_take (ls : List (List Byte)) (k : Nat) (h : k < ls.length) : ((ls.take (k + 1)).all fun l => decide (l.length ≤ 300)) = (((ls.take k).all fun l => decide (l.length ≤ 300)) && decide ((ls.getD k []).length ≤ 300)) := by
  rw [List.take_succ_eq_append_getElem h, List.all_append, List.getD_eq_getElem?_getD, List.getElem?_eq_getElem h]; simp

set_option maxHeartbeats 2000000 in
theorem pright_any (size : Int) (key : List Byte) (p : Option Addr) (c : Nat) (ls : List (List Byte)) (q : Option Addr) (d : Nat) (w0 : World) (hk : key.length ≤ maxLen) (hl : ls.length ≤ maxLen) (hr : RdR w0 q ls) : Gives Tryd.prog 5 #[.agg (partsV size p key.length c q ls.length d).toArray] w0 (.bool (rightB size key ls)) := by
  unfold Gives
  have hm := Own.start w0
  have HR := Lib.hid hr
  clear hr
  by_cases h1 : size < 1
  · have e : rightB size key ls = false := by simp [rightB]; intro h; omega
    have a1 : decide (size < 1) = true := decide_eq_true h1
    rw [e]
    go_enter Tryd.func5, Tryd.ntmps5
    go_wp2_with (first | ((with_reducible show wpList _ _ _ (Oper.mk _ (Op.load _ _) _ _ _ _ :: _) _ _); first | ((with_reducible apply wq_ld1 hm); (exact rfl); infer_instance; (exact rfl); (focus ((repeat (first | exact .hd | assumption | apply Has.tl | apply Has.app)); done)); (exact rfl)) | fail) | ((first | ((with_reducible show wpList _ _ _ (Oper.mk _ (Op.box _ _) _ _ _ _ :: _) _ _); first | ((with_reducible apply wq_boxN hm); (exact rfl); (exact rfl)) | fail)); clear hm; (first | (have hx_ := g1; clear hx_; (first | (have hx_ := g2; clear hx_; (first | (have hx_ := g3; clear hx_; (first | (have hx_ := g4; clear hx_; (first | (have hx_ := g5; clear hx_; (first | (have hx_ := g6; clear hx_; (first | (have hx_ := g7; clear hx_; (first | (have hx_ := g8; clear hx_; (first | (have hx_ := g9; clear hx_; intro g10) | intro g9)) | intro g8)) | intro g7)) | intro g6)) | intro g5)) | intro g4)) | intro g3)) | intro g2)) | intro g1); intro w hm) | fail)
    go_ret
    exact ⟨rfl, hm.x⟩
  · have a1 : decide (size < 1) = false := decide_eq_false h1
    by_cases h2 : 64 < size
    · have e : rightB size key ls = false := by simp [rightB]; intro h h'; omega
      have a2 : decide (64 < size) = true := decide_eq_true h2
      rw [e]
      go_enter Tryd.func5, Tryd.ntmps5
      go_wp2_with (first | ((with_reducible show wpList _ _ _ (Oper.mk _ (Op.load _ _) _ _ _ _ :: _) _ _); first | ((with_reducible apply wq_ld1 hm); (exact rfl); infer_instance; (exact rfl); (focus ((repeat (first | exact .hd | assumption | apply Has.tl | apply Has.app)); done)); (exact rfl)) | fail) | ((first | ((with_reducible show wpList _ _ _ (Oper.mk _ (Op.box _ _) _ _ _ _ :: _) _ _); first | ((with_reducible apply wq_boxN hm); (exact rfl); (exact rfl)) | fail)); clear hm; (first | (have hx_ := g1; clear hx_; (first | (have hx_ := g2; clear hx_; (first | (have hx_ := g3; clear hx_; (first | (have hx_ := g4; clear hx_; (first | (have hx_ := g5; clear hx_; (first | (have hx_ := g6; clear hx_; (first | (have hx_ := g7; clear hx_; (first | (have hx_ := g8; clear hx_; (first | (have hx_ := g9; clear hx_; intro g10) | intro g9)) | intro g8)) | intro g7)) | intro g6)) | intro g5)) | intro g4)) | intro g3)) | intro g2)) | intro g1); intro w hm) | fail)
      go_ret
      exact ⟨rfl, hm.x⟩
    · have a2 : decide (64 < size) = false := decide_eq_false h2
      by_cases h3 : 64 < key.length
      · have e : rightB size key ls = false := by simp [rightB]; intro h h' h''; omega
        have a3 : decide ((64 : Int) < (key.length : Int)) = true := decide_eq_true (by omega)
        have b3 : (64 : Int) < (key.length : Int) := by omega
        rw [e]
        go_enter Tryd.func5, Tryd.ntmps5
        go_wp2_with (first | ((with_reducible show wpList _ _ _ (Oper.mk _ (Op.load _ _) _ _ _ _ :: _) _ _); first | ((with_reducible apply wq_ld1 hm); (exact rfl); infer_instance; (exact rfl); (focus ((repeat (first | exact .hd | assumption | apply Has.tl | apply Has.app)); done)); (exact rfl)) | fail) | ((first | ((with_reducible show wpList _ _ _ (Oper.mk _ (Op.box _ _) _ _ _ _ :: _) _ _); first | ((with_reducible apply wq_boxN hm); (exact rfl); (exact rfl)) | fail)); clear hm; (first | (have hx_ := g1; clear hx_; (first | (have hx_ := g2; clear hx_; (first | (have hx_ := g3; clear hx_; (first | (have hx_ := g4; clear hx_; (first | (have hx_ := g5; clear hx_; (first | (have hx_ := g6; clear hx_; (first | (have hx_ := g7; clear hx_; (first | (have hx_ := g8; clear hx_; (first | (have hx_ := g9; clear hx_; intro g10) | intro g9)) | intro g8)) | intro g7)) | intro g6)) | intro g5)) | intro g4)) | intro g3)) | intro g2)) | intro g1); intro w hm) | fail)
        go_ret
        exact ⟨rfl, hm.x⟩
      · have a3 : decide ((64 : Int) < (key.length : Int)) = false := decide_eq_false (by omega)
        have b3 : ¬ (64 : Int) < (key.length : Int) := by omega
        by_cases h4 : 20 < ls.length
        · have e : rightB size key ls = false := by simp [rightB]; intro h h' h'' h3; omega
          have a4 : decide ((20 : Int) < (ls.length : Int)) = true := decide_eq_true (by omega)
          have b4 : (20 : Int) < (ls.length : Int) := by omega
          rw [e]
          go_enter Tryd.func5, Tryd.ntmps5
          go_wp2_with (first | ((with_reducible show wpList _ _ _ (Oper.mk _ (Op.load _ _) _ _ _ _ :: _) _ _); first | ((with_reducible apply wq_ld1 hm); (exact rfl); infer_instance; (exact rfl); (focus ((repeat (first | exact .hd | assumption | apply Has.tl | apply Has.app)); done)); (exact rfl)) | fail) | ((first | ((with_reducible show wpList _ _ _ (Oper.mk _ (Op.box _ _) _ _ _ _ :: _) _ _); first | ((with_reducible apply wq_boxN hm); (exact rfl); (exact rfl)) | fail)); clear hm; (first | (have hx_ := g1; clear hx_; (first | (have hx_ := g2; clear hx_; (first | (have hx_ := g3; clear hx_; (first | (have hx_ := g4; clear hx_; (first | (have hx_ := g5; clear hx_; (first | (have hx_ := g6; clear hx_; (first | (have hx_ := g7; clear hx_; (first | (have hx_ := g8; clear hx_; (first | (have hx_ := g9; clear hx_; intro g10) | intro g9)) | intro g8)) | intro g7)) | intro g6)) | intro g5)) | intro g4)) | intro g3)) | intro g2)) | intro g1); intro w hm) | fail)
          go_ret
          exact ⟨rfl, hm.x⟩
        · have a4 : decide ((20 : Int) < (ls.length : Int)) = false := decide_eq_false (by omega)
          have b4 : ¬ (20 : Int) < (ls.length : Int) := by omega
          have e : rightB size key ls = (ls.all fun l => decide (l.length ≤ 300)) := by simp [rightB]; intro; omega
          rw [e]
          have ET := Lib.hid (all_take ls)
          clear e h3 h4
          go_enter Tryd.func5, Tryd.ntmps5
          go_wp2_with (first | ((with_reducible show wpList _ _ _ (Oper.mk _ (Op.load _ _) _ _ _ _ :: _) _ _); first | ((with_reducible apply wq_ld1 hm); (exact rfl); infer_instance; (exact rfl); (focus ((repeat (first | exact .hd | assumption | apply Has.tl | apply Has.app)); done)); (exact rfl)) | fail) | ((first | ((with_reducible show wpList _ _ _ (Oper.mk _ (Op.box _ _) _ _ _ _ :: _) _ _); first | ((with_reducible apply wq_boxN hm); (exact rfl); (exact rfl)) | fail)); clear hm; (first | (have hx_ := g1; clear hx_; (first | (have hx_ := g2; clear hx_; (first | (have hx_ := g3; clear hx_; (first | (have hx_ := g4; clear hx_; (first | (have hx_ := g5; clear hx_; (first | (have hx_ := g6; clear hx_; (first | (have hx_ := g7; clear hx_; (first | (have hx_ := g8; clear hx_; (first | (have hx_ := g9; clear hx_; intro g10) | intro g9)) | intro g8)) | intro g7)) | intro g6)) | intro g5)) | intro g4)) | intro g3)) | intro g2)) | intro g1); intro w hm) | fail)
          go_loopw [3] (fun i wr => ∃ k : Nat, k ≤ ls.length ∧ i = .int .i64 k ∧ ((ls.take k).all fun l => decide (l.length ≤ 300)) = true ∧ Own w0 wr [⟨g1, 25, partsV size p key.length c q ls.length d⟩]) (fun i _ => ls.length - (intOf i).toNat)
          case atStart => exact ⟨0, by omega, rfl, rfl, hm⟩
          case round =>
            obtain ⟨k, hk, rfl, hall, hm⟩ := hrel
            have HALL := Lib.hid hall
            clear hall
            by_cases hlt : k < ls.length
            · have hd : decide ((k : Int) < (ls.length : Int)) = true := decide_eq_true (by omega)
              have hd2 : (k : Int) < (ls.length : Int) := by omega
              obtain ⟨a, rfl, q', c', hcell, _, _, hlm⟩ := (HR.out.ext hm.x).at k hlt
              have EK := Lib.hid (ET.out k hlt)
              have EA := Lib.hid fun (h : 300 < (ls.getD k []).length) => (show (ls.all fun l => decide (l.length ≤ 300)) = false by
                rw [List.all_eq_false]
                exact ⟨ls.getD k [], by rw [List.getD_eq_getElem?_getD, List.getElem?_eq_getElem hlt]; exact List.getElem_mem hlt, by simpa using h⟩)
              generalize ls.getD k [] = B at *
              by_cases hb : 300 < B.length
              · have c1 : decide ((300 : Int) < (B.length : Int)) = true := decide_eq_true (by omega)
                have c2 : (300 : Int) < (B.length : Int) := by omega
                go_wp2_with (first | ((with_reducible show wpList _ _ _ (Oper.mk _ (Op.load _ _) _ _ _ _ :: _) _ _); first | ((with_reducible apply wq_ld1 hm); (exact rfl); infer_instance; (exact rfl); (focus ((repeat (first | exact .hd | assumption | apply Has.tl | apply Has.app)); done)); (exact rfl)) | fail) | fail)
                go_ret
                exact ⟨by rw [EA.out hb]; rfl, hm.x⟩
              · have c1 : decide ((300 : Int) < (B.length : Int)) = false := decide_eq_false (by omega)
                have c2 : ¬ (300 : Int) < (B.length : Int) := by omega
                go_wp2_with (first | ((with_reducible show wpList _ _ _ (Oper.mk _ (Op.load _ _) _ _ _ _ :: _) _ _); first | ((with_reducible apply wq_ld1 hm); (exact rfl); infer_instance; (exact rfl); (focus ((repeat (first | exact .hd | assumption | apply Has.tl | apply Has.app)); done)); (exact rfl)) | fail) | fail)
                go_roundw
                case rel => exact ⟨k + 1, by omega, by go_num, by rw [EK.out, HALL.out, Bool.true_and, decide_eq_true_eq]; omega, hm⟩
                case measure => simp [intOf] <;> omega
            · obtain rfl : k = ls.length := by omega
              have hall := HALL.out
              rw [List.take_length] at hall
              have HALL2 := Lib.hid hall
              clear hall
              have hd : decide ((ls.length : Int) < (ls.length : Int)) = false := decide_eq_false (by omega)
              go_wp2_with (first | ((with_reducible show wpList _ _ _ (Oper.mk _ (Op.load _ _) _ _ _ _ :: _) _ _); first | ((with_reducible apply wq_ld1 hm); (exact rfl); infer_instance; (exact rfl); (focus ((repeat (first | exact .hd | assumption | apply Has.tl | apply Has.app)); done)); (exact rfl)) | fail) | fail)
              go_ret
              exact ⟨by rw [HALL2.out]; rfl, hm.x⟩

end Go.Proofs.YtmclklhnbmkheaaDoor
