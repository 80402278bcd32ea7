/-
  Layer 19: the statement on messages turned, held against the document. Conditions: the program's variables lie as its text lays them.
-/
import Derived.Test.YtaijfigohlkccaaGreatDoorZTinyTurns0
import Derived.Test.YtaijfigohlkccaaGreatDoorZTinyTurns18
import Derived.Test.YtaijfigohlkccaaGreatDoorZTinyTurns27
import Derived.Test.YtaijfigohlkccaaGreatDoorZTinyTurns28
import Derived.Test.YtaijfigohlkccaaGreatDoorZTinyTurns24
import Derived.Test.YtaijfigohlkccaaGreatDoorZTinyTurns19
namespace Go.Proofs.YtaijfigohlkccaaGreatDoor
open Go Go.RowKit
set_option maxRecDepth 100000
set_option linter.unusedVariables false
set_option linter.unusedSimpArgs false

theorem tturn_empty (g : Nat) (v : Value) (r : Option Addr) (n f : Nat) (back : Bool) (hn : n = 0) (w0 : World) : Gives Tryz.prog 15 #[.pointer (some ⟨g, 0, none⟩), v, .slice r n f, .bool back] w0 (.tuple #[.slice none 0 0, .int .i64 7]) := by
  unfold Gives
  subst hn
  have hm := Own.start w0
  go_enter Tryz.func15, Tryz.ntmps15
  go_wp2_with fail
  refine wp_scope_goto 0 (fun _ _ => False) (fun _ _ => 0) rfl (fun _ _ h => h.elim) ?_
  intro _
  go_wp2_with fail
  simp only [Exit.jump]
  go_ret2
  exact ⟨rfl, hm.x⟩
theorem tturn_long (g : Nat) (v : Value) (r : Option Addr) (n f : Nat) (back : Bool) (hn : 31 < n) (w0 : World) : Gives Tryz.prog 15 #[.pointer (some ⟨g, 0, none⟩), v, .slice r n f, .bool back] w0 (.tuple #[.slice none 0 0, .int .i64 6]) := by
  unfold Gives
  have hm := Own.start w0
  have a1 : ((n : Int) == 0) = false := by rw [beq_eq_false_iff_ne]; omega
  have a2 : ¬ (n : Int) = 0 := by omega
  have a3 : decide ((31 : Int) < (n : Int)) = true := decide_eq_true (by omega)
  have a4 : (31 : Int) < (n : Int) := by omega
  have a5 : decide ((n : Int) > 31) = true := decide_eq_true (by omega)
  go_enter Tryz.func15, Tryz.ntmps15
  go_wp2_with fail
  refine wp_scope_goto 0 (fun _ _ => False) (fun _ _ => 0) rfl (fun _ _ h => h.elim) ?_
  intro _
  go_wp2_with fail
  simp only [Exit.jump]
  go_ret2
  exact ⟨rfl, hm.x⟩

set_option maxHeartbeats 32000000 in
theorem tturns_walk (key : List Byte) (p : Option Addr) (c : Nat) (ls : List (List Byte)) (q : Option Addr) (d : Nat) (m : List Byte) (r : Option Addr) (f : Nat) (back : Bool) (N : Int) (w0 : World) (hk : RdB w0 p key) (hkc : key.length ≤ c) (hkm : key.length ≤ maxLen) (hl : RdR w0 q ls) (hld : ls.length ≤ d) (hlm : ls.length ≤ maxLen) (hr : RdB w0 r m) (hrf : m.length ≤ f) (hrm : m.length ≤ maxLen) (hN0 : -9223372036854775808 ≤ N) (hN1 : N ≤ 9223372036854775807) (hc : Coef w0 ∧ CoefB w0) :
    Calls Tryz.prog 4 #[.agg (textC p key.length c q ls.length d r m.length f back).toArray, .int .i64 N] w0 fun e w' => e = .returned (.bool true) ∧ Ext w0 w' := by
  have hm := Own.start w0
  have HC := Lib.hid hc.1
  have HB := Lib.hid hc.2
  have HK := Lib.hid hk
  have HL := Lib.hid hl
  have HM := Lib.hid hr
  have TR := Lib.hid fun (w : World) (h : Ext w0 w) => tright_any key p c ls q d r m.length f back w hlm (hl.ext h)
  have KO := Lib.hid fun (h : rightL key = true) (w : World) (h1 : RdB w p key) (h2 : Coef w) (h3 : CoefB w) => keys19_ok key p c w h hkc h1 h2 h3
  have AW := Lib.hid fun (w : World) (h : Ext w0 w) => awake19 w ⟨hc.1.ext h, hc.2.ext h⟩
  have OKK := Lib.hid (keyOf_ok key)
  have RE := Lib.hid fun (h : rightL key = true) (w : World) (h1 : RdB w p key) => rext_any key p c w (by simp [rightL] at h; omega) (by simp [rightL] at h; omega) hkc h1
  have MK := Lib.hid fun wx => rmake_any wx
  clear hc hk hl hr
  generalize keyOf key = K at *
  by_cases hR : rightT key ls m.length = true
  · rw [hR] at TR
    obtain ⟨hK, f1, f2, f3⟩ := rightT_out hR
    have KO := Lib.hid (KO.out hK)
    have RX := Lib.hid (RE.out hK)
    have lR := rkL_length OKK.out
    have RI := Lib.hid fun w => rounds_any N w
    clear RE
    by_cases h0 : m.length = 0
    · have TE := Lib.hid fun (w : World) (g : Nat) => tturn_empty g (.slice q ls.length d) r m.length f back h0 w
      have m1 : ((m.length : Int) == 0) = true := by rw [h0]; rfl
      have m2 : (m.length : Int) = 0 := by omega
      have H0 := Lib.hid h0
      generalize rkL K = R at *
      generalize tabs = T at *
      clear h0
      by_cases n1 : N < 1
      · have z1 : decide (1 ≤ N) = false := decide_eq_false (by omega)
        have z2 : ¬ 1 ≤ N := by omega
        have z3 : decide (N ≥ 1) = false := decide_eq_false (by omega)
        have RI := Lib.hid fun w => (show roundsI N = 0 from if_pos (Or.inl n1)) ▸ RI.out w
        go_enter Tryz.func4, Tryz.ntmps4
        go_wp2_with (first | (go_at_call 13; (with_reducible refine (TR.out _ hm.x).mono ?_); rintro e_ w ⟨rfl, hx_⟩; replace hm := hm.ext hx_; clear hx_) | ((with_reducible show wpList _ _ _ (Oper.mk _ (Op.load _ _) _ _ _ _ :: _) _ _); first | ((with_reducible apply wq_ldW hm); (exact rfl); infer_instance; (exact rfl); (focus ((repeat (first | exact .hd | assumption | apply Has.tl)); done)); (focus (first | rfl | omega | (simp; done) | (simp; omega) | fail))) | ((with_reducible apply wq_ld1 hm); (exact rfl); infer_instance; (exact rfl); (focus ((repeat (first | exact .hd | assumption | apply Has.tl)); done)); (exact rfl)) | fail) | ((first | ((with_reducible show wpList _ _ _ (Oper.mk _ (Op.box _ _) _ _ _ _ :: _) _ _); first | ((with_reducible apply wq_boxN hm); (exact rfl); (exact rfl)) | fail)); clear hm; (first | (have hx_ := g1; clear hx_; (first | (have hx_ := g2; clear hx_; (first | (have hx_ := g3; clear hx_; intro gx_) | intro g3)) | intro g2)) | intro g1); intro w hm) | fail)
        refine (KO.out _ (HK.out.ext hm.x) (HC.out.ext hm.x) (HB.out.ext hm.x)).mono ?_
        rintro e w ⟨g, gt, gb, rfl, hg_, hgt_, hne_, hrk_, hrt_, hx_⟩
        replace hm := hm.push2 hx_ hgt_ hrt_ hg_ hrk_ hne_
        clear hx_ hg_ hgt_ hne_ hrk_ hrt_
        go_wp2_with (first | (go_at_call 15; (with_reducible refine (TE.out _ g).mono ?_); rintro e_ w ⟨rfl, hx_⟩; replace hm := hm.ext hx_; clear hx_) | ((with_reducible show wpList _ _ _ (Oper.mk _ (Op.load _ _) _ _ _ _ :: _) _ _); first | ((with_reducible apply wq_ld1 hm); (exact rfl); infer_instance; (exact rfl); (focus ((repeat (first | exact .hd | assumption | apply Has.tl)); done)); (exact rfl)) | fail) | fail)
        refine (tturn_nil _ _ _ _).mono ?_
        rintro e w_ ⟨rfl, rfl⟩
        go_wp2_with (first | (go_at_call 17; (with_reducible refine (RI.out _).mono ?_); rintro e_ w_ ⟨rfl, rfl⟩) | (go_at_call 18; (with_reducible refine (AW.out _ hm.x).mono ?_); rintro e_ w ⟨rfl, hx_⟩; replace hm := hm.ext hx_; clear hx_) | ((with_reducible show wpList _ _ _ (Oper.mk _ (Op.load _ _) _ _ _ _ :: _) _ _); first | ((with_reducible apply wq_ld1 hm); (exact rfl); infer_instance; (exact rfl); (focus ((repeat (first | exact .hd | assumption | apply Has.tl)); done)); (exact rfl)) | fail) | fail)
        go_ret
        exact ⟨rfl, hm.x⟩
      by_cases n2 : 31 < N
      · have z1 : decide (1 ≤ N) = true := decide_eq_true (by omega)
        have z2 : 1 ≤ N := by omega
        have z3 : decide (N ≥ 1) = true := decide_eq_true (by omega)
        have z4 : decide (N ≤ 31) = false := decide_eq_false (by omega)
        have z5 : ¬ N ≤ 31 := by omega
        have RI := Lib.hid fun w => (show roundsI N = 0 from if_pos (Or.inr n2)) ▸ RI.out w
        go_enter Tryz.func4, Tryz.ntmps4
        go_wp2_with (first | (go_at_call 13; (with_reducible refine (TR.out _ hm.x).mono ?_); rintro e_ w ⟨rfl, hx_⟩; replace hm := hm.ext hx_; clear hx_) | ((with_reducible show wpList _ _ _ (Oper.mk _ (Op.load _ _) _ _ _ _ :: _) _ _); first | ((with_reducible apply wq_ldW hm); (exact rfl); infer_instance; (exact rfl); (focus ((repeat (first | exact .hd | assumption | apply Has.tl)); done)); (focus (first | rfl | omega | (simp; done) | (simp; omega) | fail))) | ((with_reducible apply wq_ld1 hm); (exact rfl); infer_instance; (exact rfl); (focus ((repeat (first | exact .hd | assumption | apply Has.tl)); done)); (exact rfl)) | fail) | ((first | ((with_reducible show wpList _ _ _ (Oper.mk _ (Op.box _ _) _ _ _ _ :: _) _ _); first | ((with_reducible apply wq_boxN hm); (exact rfl); (exact rfl)) | fail)); clear hm; (first | (have hx_ := g1; clear hx_; (first | (have hx_ := g2; clear hx_; (first | (have hx_ := g3; clear hx_; intro gx_) | intro g3)) | intro g2)) | intro g1); intro w hm) | fail)
        refine (KO.out _ (HK.out.ext hm.x) (HC.out.ext hm.x) (HB.out.ext hm.x)).mono ?_
        rintro e w ⟨g, gt, gb, rfl, hg_, hgt_, hne_, hrk_, hrt_, hx_⟩
        replace hm := hm.push2 hx_ hgt_ hrt_ hg_ hrk_ hne_
        clear hx_ hg_ hgt_ hne_ hrk_ hrt_
        go_wp2_with (first | (go_at_call 15; (with_reducible refine (TE.out _ g).mono ?_); rintro e_ w ⟨rfl, hx_⟩; replace hm := hm.ext hx_; clear hx_) | ((with_reducible show wpList _ _ _ (Oper.mk _ (Op.load _ _) _ _ _ _ :: _) _ _); first | ((with_reducible apply wq_ld1 hm); (exact rfl); infer_instance; (exact rfl); (focus ((repeat (first | exact .hd | assumption | apply Has.tl)); done)); (exact rfl)) | fail) | fail)
        refine (tturn_nil _ _ _ _).mono ?_
        rintro e w_ ⟨rfl, rfl⟩
        go_wp2_with (first | (go_at_call 17; (with_reducible refine (RI.out _).mono ?_); rintro e_ w_ ⟨rfl, rfl⟩) | (go_at_call 18; (with_reducible refine (AW.out _ hm.x).mono ?_); rintro e_ w ⟨rfl, hx_⟩; replace hm := hm.ext hx_; clear hx_) | ((with_reducible show wpList _ _ _ (Oper.mk _ (Op.load _ _) _ _ _ _ :: _) _ _); first | ((with_reducible apply wq_ld1 hm); (exact rfl); infer_instance; (exact rfl); (focus ((repeat (first | exact .hd | assumption | apply Has.tl)); done)); (exact rfl)) | fail) | fail)
        go_ret
        exact ⟨rfl, hm.x⟩
      obtain ⟨k, rfl⟩ : ∃ k : Nat, N = k := ⟨N.toNat, by omega⟩
      have z1 : decide ((1 : Int) ≤ (k : Int)) = true := decide_eq_true (by omega)
      have z2 : (1 : Int) ≤ (k : Int) := by omega
      have z3 : decide ((k : Int) ≥ 1) = true := decide_eq_true (by omega)
      have z4 : decide ((k : Int) ≤ 31) = true := decide_eq_true (by omega)
      have z5 : (k : Int) ≤ 31 := by omega
      have RR := Lib.hid fun w => rounds19 k (by omega) (by omega) w
      have RI := Lib.hid fun w => roundsI_nat k ▸ RI.out w
      generalize roundsN k = RK at *
      go_enter Tryz.func4, Tryz.ntmps4
      go_wp2_with (first | (go_at_call 13; (with_reducible refine (TR.out _ hm.x).mono ?_); rintro e_ w ⟨rfl, hx_⟩; replace hm := hm.ext hx_; clear hx_) | ((with_reducible show wpList _ _ _ (Oper.mk _ (Op.load _ _) _ _ _ _ :: _) _ _); first | ((with_reducible apply wq_ldW hm); (exact rfl); infer_instance; (exact rfl); (focus ((repeat (first | exact .hd | assumption | apply Has.tl)); done)); (focus (first | rfl | omega | (simp; done) | (simp; omega) | fail))) | ((with_reducible apply wq_ld1 hm); (exact rfl); infer_instance; (exact rfl); (focus ((repeat (first | exact .hd | assumption | apply Has.tl)); done)); (exact rfl)) | fail) | ((first | ((with_reducible show wpList _ _ _ (Oper.mk _ (Op.box _ _) _ _ _ _ :: _) _ _); first | ((with_reducible apply wq_boxN hm); (exact rfl); (exact rfl)) | fail)); clear hm; (first | (have hx_ := g1; clear hx_; (first | (have hx_ := g2; clear hx_; (first | (have hx_ := g3; clear hx_; intro gx_) | intro g3)) | intro g2)) | intro g1); intro w hm) | fail)
      refine (KO.out _ (HK.out.ext hm.x) (HC.out.ext hm.x) (HB.out.ext hm.x)).mono ?_
      rintro e w ⟨g, gt, gb, rfl, hg_, hgt_, hne_, hrk_, hrt_, hx_⟩
      replace hm := hm.push2 hx_ hgt_ hrt_ hg_ hrk_ hne_
      clear hx_ hg_ hgt_ hne_ hrk_ hrt_
      go_wp2_with (first | (go_at_call 15; (with_reducible refine (TE.out _ g).mono ?_); rintro e_ w ⟨rfl, hx_⟩; replace hm := hm.ext hx_; clear hx_) | ((with_reducible show wpList _ _ _ (Oper.mk _ (Op.load _ _) _ _ _ _ :: _) _ _); first | ((with_reducible apply wq_ld1 hm); (exact rfl); infer_instance; (exact rfl); (focus ((repeat (first | exact .hd | assumption | apply Has.tl)); done)); (exact rfl)) | fail) | fail)
      refine (tturn_nil _ _ _ _).mono ?_
      rintro e w_ ⟨rfl, rfl⟩
      go_wp2_with (first | (go_at_call 16; (with_reducible refine (RR.out _).mono ?_); rintro e_ w ⟨rfl, hx_⟩; replace hm := hm.ext hx_; clear hx_) | (go_at_call 17; (with_reducible refine (RI.out _).mono ?_); rintro e_ w_ ⟨rfl, rfl⟩) | (go_at_call 18; (with_reducible refine (AW.out _ hm.x).mono ?_); rintro e_ w ⟨rfl, hx_⟩; replace hm := hm.ext hx_; clear hx_) | ((with_reducible show wpList _ _ _ (Oper.mk _ (Op.load _ _) _ _ _ _ :: _) _ _); first | ((with_reducible apply wq_ld1 hm); (exact rfl); infer_instance; (exact rfl); (focus ((repeat (first | exact .hd | assumption | apply Has.tl)); done)); (exact rfl)) | fail) | fail)
      go_ret
      exact ⟨rfl, hm.x⟩
    · have m1 : ((m.length : Int) == 0) = false := by rw [beq_eq_false_iff_ne]; omega
      have m2 : ¬ (m.length : Int) = 0 := by omega
      by_cases h31 : 31 < m.length
      · have TE := Lib.hid fun (w : World) (g : Nat) => tturn_long g (.slice q ls.length d) r m.length f back h31 w
        have m3 : decide ((31 : Int) < (m.length : Int)) = true := decide_eq_true (by omega)
        have m4 : (31 : Int) < (m.length : Int) := by omega
        have m5 : decide ((m.length : Int) > 31) = true := decide_eq_true (by omega)
        generalize rkL K = R at *
        generalize tabs = T at *
        by_cases n1 : N < 1
        · have z1 : decide (1 ≤ N) = false := decide_eq_false (by omega)
          have z2 : ¬ 1 ≤ N := by omega
          have z3 : decide (N ≥ 1) = false := decide_eq_false (by omega)
          have RI := Lib.hid fun w => (show roundsI N = 0 from if_pos (Or.inl n1)) ▸ RI.out w
          go_enter Tryz.func4, Tryz.ntmps4
          go_wp2_with (first | (go_at_call 13; (with_reducible refine (TR.out _ hm.x).mono ?_); rintro e_ w ⟨rfl, hx_⟩; replace hm := hm.ext hx_; clear hx_) | ((with_reducible show wpList _ _ _ (Oper.mk _ (Op.load _ _) _ _ _ _ :: _) _ _); first | ((with_reducible apply wq_ldW hm); (exact rfl); infer_instance; (exact rfl); (focus ((repeat (first | exact .hd | assumption | apply Has.tl)); done)); (focus (first | rfl | omega | (simp; done) | (simp; omega) | fail))) | ((with_reducible apply wq_ld1 hm); (exact rfl); infer_instance; (exact rfl); (focus ((repeat (first | exact .hd | assumption | apply Has.tl)); done)); (exact rfl)) | fail) | ((first | ((with_reducible show wpList _ _ _ (Oper.mk _ (Op.box _ _) _ _ _ _ :: _) _ _); first | ((with_reducible apply wq_boxN hm); (exact rfl); (exact rfl)) | fail)); clear hm; (first | (have hx_ := g1; clear hx_; (first | (have hx_ := g2; clear hx_; (first | (have hx_ := g3; clear hx_; intro gx_) | intro g3)) | intro g2)) | intro g1); intro w hm) | fail)
          refine (KO.out _ (HK.out.ext hm.x) (HC.out.ext hm.x) (HB.out.ext hm.x)).mono ?_
          rintro e w ⟨g, gt, gb, rfl, hg_, hgt_, hne_, hrk_, hrt_, hx_⟩
          replace hm := hm.push2 hx_ hgt_ hrt_ hg_ hrk_ hne_
          clear hx_ hg_ hgt_ hne_ hrk_ hrt_
          go_wp2_with (first | (go_at_call 15; (with_reducible refine (TE.out _ g).mono ?_); rintro e_ w ⟨rfl, hx_⟩; replace hm := hm.ext hx_; clear hx_) | ((with_reducible show wpList _ _ _ (Oper.mk _ (Op.load _ _) _ _ _ _ :: _) _ _); first | ((with_reducible apply wq_ld1 hm); (exact rfl); infer_instance; (exact rfl); (focus ((repeat (first | exact .hd | assumption | apply Has.tl)); done)); (exact rfl)) | fail) | fail)
          refine (tturn_nil _ _ _ _).mono ?_
          rintro e w_ ⟨rfl, rfl⟩
          go_wp2_with (first | (go_at_call 17; (with_reducible refine (RI.out _).mono ?_); rintro e_ w_ ⟨rfl, rfl⟩) | (go_at_call 18; (with_reducible refine (AW.out _ hm.x).mono ?_); rintro e_ w ⟨rfl, hx_⟩; replace hm := hm.ext hx_; clear hx_) | ((with_reducible show wpList _ _ _ (Oper.mk _ (Op.load _ _) _ _ _ _ :: _) _ _); first | ((with_reducible apply wq_ld1 hm); (exact rfl); infer_instance; (exact rfl); (focus ((repeat (first | exact .hd | assumption | apply Has.tl)); done)); (exact rfl)) | fail) | fail)
          go_ret
          exact ⟨rfl, hm.x⟩
        by_cases n2 : 31 < N
        · have z1 : decide (1 ≤ N) = true := decide_eq_true (by omega)
          have z2 : 1 ≤ N := by omega
          have z3 : decide (N ≥ 1) = true := decide_eq_true (by omega)
          have z4 : decide (N ≤ 31) = false := decide_eq_false (by omega)
          have z5 : ¬ N ≤ 31 := by omega
          have RI := Lib.hid fun w => (show roundsI N = 0 from if_pos (Or.inr n2)) ▸ RI.out w
          go_enter Tryz.func4, Tryz.ntmps4
          go_wp2_with (first | (go_at_call 13; (with_reducible refine (TR.out _ hm.x).mono ?_); rintro e_ w ⟨rfl, hx_⟩; replace hm := hm.ext hx_; clear hx_) | ((with_reducible show wpList _ _ _ (Oper.mk _ (Op.load _ _) _ _ _ _ :: _) _ _); first | ((with_reducible apply wq_ldW hm); (exact rfl); infer_instance; (exact rfl); (focus ((repeat (first | exact .hd | assumption | apply Has.tl)); done)); (focus (first | rfl | omega | (simp; done) | (simp; omega) | fail))) | ((with_reducible apply wq_ld1 hm); (exact rfl); infer_instance; (exact rfl); (focus ((repeat (first | exact .hd | assumption | apply Has.tl)); done)); (exact rfl)) | fail) | ((first | ((with_reducible show wpList _ _ _ (Oper.mk _ (Op.box _ _) _ _ _ _ :: _) _ _); first | ((with_reducible apply wq_boxN hm); (exact rfl); (exact rfl)) | fail)); clear hm; (first | (have hx_ := g1; clear hx_; (first | (have hx_ := g2; clear hx_; (first | (have hx_ := g3; clear hx_; intro gx_) | intro g3)) | intro g2)) | intro g1); intro w hm) | fail)
          refine (KO.out _ (HK.out.ext hm.x) (HC.out.ext hm.x) (HB.out.ext hm.x)).mono ?_
          rintro e w ⟨g, gt, gb, rfl, hg_, hgt_, hne_, hrk_, hrt_, hx_⟩
          replace hm := hm.push2 hx_ hgt_ hrt_ hg_ hrk_ hne_
          clear hx_ hg_ hgt_ hne_ hrk_ hrt_
          go_wp2_with (first | (go_at_call 15; (with_reducible refine (TE.out _ g).mono ?_); rintro e_ w ⟨rfl, hx_⟩; replace hm := hm.ext hx_; clear hx_) | ((with_reducible show wpList _ _ _ (Oper.mk _ (Op.load _ _) _ _ _ _ :: _) _ _); first | ((with_reducible apply wq_ld1 hm); (exact rfl); infer_instance; (exact rfl); (focus ((repeat (first | exact .hd | assumption | apply Has.tl)); done)); (exact rfl)) | fail) | fail)
          refine (tturn_nil _ _ _ _).mono ?_
          rintro e w_ ⟨rfl, rfl⟩
          go_wp2_with (first | (go_at_call 17; (with_reducible refine (RI.out _).mono ?_); rintro e_ w_ ⟨rfl, rfl⟩) | (go_at_call 18; (with_reducible refine (AW.out _ hm.x).mono ?_); rintro e_ w ⟨rfl, hx_⟩; replace hm := hm.ext hx_; clear hx_) | ((with_reducible show wpList _ _ _ (Oper.mk _ (Op.load _ _) _ _ _ _ :: _) _ _); first | ((with_reducible apply wq_ld1 hm); (exact rfl); infer_instance; (exact rfl); (focus ((repeat (first | exact .hd | assumption | apply Has.tl)); done)); (exact rfl)) | fail) | fail)
          go_ret
          exact ⟨rfl, hm.x⟩
        obtain ⟨k, rfl⟩ : ∃ k : Nat, N = k := ⟨N.toNat, by omega⟩
        have z1 : decide ((1 : Int) ≤ (k : Int)) = true := decide_eq_true (by omega)
        have z2 : (1 : Int) ≤ (k : Int) := by omega
        have z3 : decide ((k : Int) ≥ 1) = true := decide_eq_true (by omega)
        have z4 : decide ((k : Int) ≤ 31) = true := decide_eq_true (by omega)
        have z5 : (k : Int) ≤ 31 := by omega
        have RR := Lib.hid fun w => rounds19 k (by omega) (by omega) w
        have RI := Lib.hid fun w => roundsI_nat k ▸ RI.out w
        generalize roundsN k = RK at *
        go_enter Tryz.func4, Tryz.ntmps4
        go_wp2_with (first | (go_at_call 13; (with_reducible refine (TR.out _ hm.x).mono ?_); rintro e_ w ⟨rfl, hx_⟩; replace hm := hm.ext hx_; clear hx_) | ((with_reducible show wpList _ _ _ (Oper.mk _ (Op.load _ _) _ _ _ _ :: _) _ _); first | ((with_reducible apply wq_ldW hm); (exact rfl); infer_instance; (exact rfl); (focus ((repeat (first | exact .hd | assumption | apply Has.tl)); done)); (focus (first | rfl | omega | (simp; done) | (simp; omega) | fail))) | ((with_reducible apply wq_ld1 hm); (exact rfl); infer_instance; (exact rfl); (focus ((repeat (first | exact .hd | assumption | apply Has.tl)); done)); (exact rfl)) | fail) | ((first | ((with_reducible show wpList _ _ _ (Oper.mk _ (Op.box _ _) _ _ _ _ :: _) _ _); first | ((with_reducible apply wq_boxN hm); (exact rfl); (exact rfl)) | fail)); clear hm; (first | (have hx_ := g1; clear hx_; (first | (have hx_ := g2; clear hx_; (first | (have hx_ := g3; clear hx_; intro gx_) | intro g3)) | intro g2)) | intro g1); intro w hm) | fail)
        refine (KO.out _ (HK.out.ext hm.x) (HC.out.ext hm.x) (HB.out.ext hm.x)).mono ?_
        rintro e w ⟨g, gt, gb, rfl, hg_, hgt_, hne_, hrk_, hrt_, hx_⟩
        replace hm := hm.push2 hx_ hgt_ hrt_ hg_ hrk_ hne_
        clear hx_ hg_ hgt_ hne_ hrk_ hrt_
        go_wp2_with (first | (go_at_call 15; (with_reducible refine (TE.out _ g).mono ?_); rintro e_ w ⟨rfl, hx_⟩; replace hm := hm.ext hx_; clear hx_) | ((with_reducible show wpList _ _ _ (Oper.mk _ (Op.load _ _) _ _ _ _ :: _) _ _); first | ((with_reducible apply wq_ld1 hm); (exact rfl); infer_instance; (exact rfl); (focus ((repeat (first | exact .hd | assumption | apply Has.tl)); done)); (exact rfl)) | fail) | fail)
        refine (tturn_nil _ _ _ _).mono ?_
        rintro e w_ ⟨rfl, rfl⟩
        go_wp2_with (first | (go_at_call 16; (with_reducible refine (RR.out _).mono ?_); rintro e_ w ⟨rfl, hx_⟩; replace hm := hm.ext hx_; clear hx_) | (go_at_call 17; (with_reducible refine (RI.out _).mono ?_); rintro e_ w_ ⟨rfl, rfl⟩) | (go_at_call 18; (with_reducible refine (AW.out _ hm.x).mono ?_); rintro e_ w ⟨rfl, hx_⟩; replace hm := hm.ext hx_; clear hx_) | ((with_reducible show wpList _ _ _ (Oper.mk _ (Op.load _ _) _ _ _ _ :: _) _ _); first | ((with_reducible apply wq_ld1 hm); (exact rfl); infer_instance; (exact rfl); (focus ((repeat (first | exact .hd | assumption | apply Has.tl)); done)); (exact rfl)) | fail) | fail)
        go_ret
        exact ⟨rfl, hm.x⟩
      · have m3 : decide ((31 : Int) < (m.length : Int)) = false := decide_eq_false (by omega)
        have m4 : ¬ (31 : Int) < (m.length : Int) := by omega
        have m5 : decide ((m.length : Int) > 31) = false := decide_eq_false (by omega)
        have g3 : ∀ i, (ls.getD i []).length ≤ 70368744177000 := fun i => by have := f1 i; omega
        have RN := Lib.hid fun (w : World) (hq : RdR w q ls) (hr : RdB w r m) => rencipher19 (rkL K) lR (eZ K) (eZ_length K) ls q d m r f w hq hld (by omega) g3 hr (by omega) (by omega) (fun wx _ j m x e1 e2 e3 e4 e5 => re_any K j m x e1 wx OKK.out e2 e4 e3 e5)
        have RD := Lib.hid fun (w : World) (hq : RdR w q ls) (hr : RdB w r m) => rdecipher19 (rkL K) lR (eZ K) (eZ_length K) ls q d m r f w hq hld (by omega) g3 hr (by omega) (by omega) (fun wx _ j m x e1 e2 e3 e4 e5 => re_any K j m x e1 wx OKK.out e2 e4 e3 e5)
        have T1 := Lib.hid fun (w : World) (g : Nat) (h : KeyR w g K) (hq : RdR w q ls) (hr : RdB w r m) => tturn_any g (eZ K) (eZ_length K) ls q d m r f back w hq hld (by omega) g3 hr hrf (by omega) (by omega) (fun wx hx j m x e1 e2 e3 => (h.ext hx).e j m x e1 e2 e3)
        have lD := tinyL_length (eZ K) (hashG (eZ K) ls) back m
        have lE := tinyL_length (eZ K) (hashG (eZ K) ls) false m
        generalize rkL K = R at *
        generalize tabs = T at *
        clear g3 f1 h31 h0
        cases back
        · generalize tinyL (eZ K) (hashG (eZ K) ls) false m = D at *
          generalize tinyL (eZ K) (hashG (eZ K) ls) true m = D2 at *
          by_cases n1 : N < 1
          · have z1 : decide (1 ≤ N) = false := decide_eq_false (by omega)
            have z2 : ¬ 1 ≤ N := by omega
            have z3 : decide (N ≥ 1) = false := decide_eq_false (by omega)
            have RI := Lib.hid fun w => (show roundsI N = 0 from if_pos (Or.inl n1)) ▸ RI.out w
            go_enter Tryz.func4, Tryz.ntmps4
            go_wp2_with (first | (go_at_call 13; (with_reducible refine (TR.out _ hm.x).mono ?_); rintro e_ w ⟨rfl, hx_⟩; replace hm := hm.ext hx_; clear hx_) | ((with_reducible show wpList _ _ _ (Oper.mk _ (Op.load _ _) _ _ _ _ :: _) _ _); first | ((with_reducible apply wq_ldW hm); (exact rfl); infer_instance; (exact rfl); (focus ((repeat (first | exact .hd | assumption | apply Has.tl)); done)); (focus (first | rfl | omega | (simp; done) | (simp; omega) | fail))) | ((with_reducible apply wq_ld1 hm); (exact rfl); infer_instance; (exact rfl); (focus ((repeat (first | exact .hd | assumption | apply Has.tl)); done)); (exact rfl)) | fail) | ((first | ((with_reducible show wpList _ _ _ (Oper.mk _ (Op.box _ _) _ _ _ _ :: _) _ _); first | ((with_reducible apply wq_boxN hm); (exact rfl); (exact rfl)) | fail)); clear hm; (first | (have hx_ := g1; clear hx_; (first | (have hx_ := g2; clear hx_; (first | (have hx_ := g3; clear hx_; intro gx_) | intro g3)) | intro g2)) | intro g1); intro w hm) | fail)
            refine (KO.out _ (HK.out.ext hm.x) (HC.out.ext hm.x) (HB.out.ext hm.x)).mono ?_
            rintro e w ⟨g, gt, gb, rfl, hg_, hgt_, hne_, hrk_, hrt_, hx_⟩
            replace hm := hm.push2 hx_ hgt_ hrt_ hg_ hrk_ hne_
            clear hx_ hg_ hgt_ hne_ hrk_ hrt_
            go_wp2_with (first | ((with_reducible show wpList _ _ _ (Oper.mk _ (Op.load _ _) _ _ _ _ :: _) _ _); first | ((with_reducible apply wq_ld1 hm); (exact rfl); infer_instance; (exact rfl); (focus ((repeat (first | exact .hd | assumption | apply Has.tl)); done)); (exact rfl)) | fail) | fail)
            refine (T1.out _ g (KeyR.own (gt := gt) (gb := gb) OKK.out hm (by repeat (first | exact Has.hd | assumption | apply Has.tl)) (by repeat (first | exact Has.hd | assumption | apply Has.tl))) (HL.out.ext hm.x) (HM.out.ext hm.x)).mono ?_
            rintro e w ⟨px, cx, rfl, hcx, hrx, hx_⟩
            replace hm := hm.ext hx_
            obtain ⟨w1, hw1⟩ : ∃ v, v = w := ⟨_, rfl⟩
            have HRX : Hid (RdB w1 px D) := Lib.hid (by rw [hw1]; exact hrx)
            have HX1 : Hid (Ext w1 w) := Lib.hid (by rw [hw1]; exact Ext.refl _)
            have HM1 : Hid (Own w0 w1 [⟨g, 100, kcells gt K⟩, ⟨gt, 105, tcells gb mixT unmixT⟩, ⟨g1, 44, textC p key.length c q ls.length d r m.length f false⟩]) := Lib.hid (by rw [hw1]; exact hm)
            clear hx_ hrx
            clear hw1
            go_wp2_with (first | ((with_reducible show wpList _ _ _ (Oper.mk _ (Op.load _ _) _ _ _ _ :: _) _ _); first | ((with_reducible apply wq_ld1 hm); (exact rfl); infer_instance; (exact rfl); (focus ((repeat (first | exact .hd | assumption | apply Has.tl)); done)); (exact rfl)) | fail) | fail)
            refine (tturn_nil _ _ _ _).mono ?_
            rintro e w_ ⟨rfl, rfl⟩
            go_wp2_with (first | (go_at_call 17; (with_reducible refine (RI.out _).mono ?_); rintro e_ w_ ⟨rfl, rfl⟩) | ((with_reducible show wpList _ _ _ (Oper.mk _ (Op.load _ _) _ _ _ _ :: _) _ _); first | ((with_reducible apply wq_ld1 hm); (exact rfl); infer_instance; (exact rfl); (focus ((repeat (first | exact .hd | assumption | apply Has.tl)); done)); (exact rfl)) | fail) | fail)
            obtain ⟨w, rfl⟩ : ∃ w', w' = w_ := ⟨_, rfl⟩
            have hx0 := hm.x
            have HXS := Lib.hid HX1.out.size
            have c2 := fun wx (hwx : Ext _ wx) => RX.out wx (HK.out.ext (hx0.trans hwx))
            refine region_new 5 (fun w' => Ext _ w') 127 (by kernel_rfl) (by kernel_rfl) rfl (fun _ _ h k => h.trans k) (drew_ext _) ?_
            simp only [tSC, List.take_zero, dSC, List.drop_zero, List.map_cons, List.map_nil]
            repeat (first
                | (apply walk_some (NewS (w.heap.size) 39 ((zer 560).map v8)) 12 (NewS.stable _ _ _) rfl rfl rfl rfl
                   · (intro wx hwx; go_simp; exact gives_new (cs := (zer 560).map v8) hwx.size))
                | (apply walk_is rfl rfl rfl
                   · (intro wx hwx; first | ((with_reducible show gives _ _ _ (Sem.run _ (execOp _ (Oper.mk _ (Op.load _ _) _ _ _ _)) _)); first | ((with_reducible apply gq_ldv (hm.ext hwx)); infer_instance; (exact rfl); (focus ((repeat (first | exact .hd | assumption | apply Has.tl)); done)); (focus (first | omega | (simp; omega) | (refine Nat.lt_of_lt_of_le (BitVec.isLt _) ?_; first | omega | (simp; done) | (simp; omega) | fail) | fail))) | ((with_reducible apply gq_ldW (hm.ext hwx)); infer_instance; (exact rfl); (focus ((repeat (first | exact .hd | assumption | apply Has.tl)); done)); (focus (first | rfl | omega | (simp; done) | (simp; omega) | fail))) | ((with_reducible apply gq_ld1 (hm.ext hwx)); infer_instance; (exact rfl); (focus ((repeat (first | exact .hd | assumption | apply Has.tl)); done)); (exact rfl)) | fail) | (go_simp; (try go_bits); first | exact gives_same | exact gives_skip | with_reducible exact gives_call (MK.out wx) | with_reducible exact gives_call (c2 wx hwx)))
                   · (simp only [Act.put, sIB, sCS, sCZ]; rfl))
                | (apply walk_not rfl rfl rfl
                   · (simp only [Act.put, sIB, sCS, sCZ]; rfl)))
            intro wz hwz
            simp only [zCC, zNR]
            repeat rw [fin_is]
            rw [fin_cons]; intro x12 hx12
            repeat rw [fin_is]
            rw [fin_nil]; intro hap
            simp only [Act.put, sIB, sCS, sCZ] at hap ⊢
            obtain ⟨g12_, rfl, hg12, hr12⟩ := hx12
            replace hm := hm.push hwz hg12 hr12
            clear hap hr12
            replace HX1 := Lib.hid (HX1.out.trans hwz)
            clear c2 hx0
            have lz5 : ((zer (n := 8) 560).map v8).length = 560 := by rw [List.length_map]; exact zer_length
            have lR5 : (R.map v8).length = 560 := by rw [List.length_map]; exact lR
            have hmB := Own.push (Own.start w1) HX1.out (Nat.le_trans HXS.out hg12) (hm.row .hd)
            clear hm HX1
            have hm := hmB
            clear hmB
            go_wp2_with (first | ((with_reducible show wpList _ _ _ (Oper.mk _ (Op.store 39 _ _) _ _ _ _ :: _) _ _); (with_reducible apply wq_stW (cs' := R.map v8) hm); (exact rfl); infer_instance; (exact rfl); (exact rfl); (exact .hd); (exact lR5); (exact lz5); (exact one_map _); clear hm; intro w hm; (have hm2 := Own.join HM1.out hm; have HRZ := Lib.hid (HRX.out.ext hm.x); clear hm; simp only [List.cons_append, List.nil_append] at hm2; have hm := hm2; clear hm2)) | ((with_reducible show wpList _ _ _ (Oper.mk _ (Op.load _ _) _ _ _ _ :: _) _ _); first | ((with_reducible apply wq_ldW hm); (exact rfl); infer_instance; (exact rfl); (focus ((repeat (first | exact .hd | assumption | apply Has.tl)); done)); (focus (first | rfl | omega | (simp; done) | (simp; omega) | fail))) | ((with_reducible apply wq_ld1 hm); (exact rfl); infer_instance; (exact rfl); (focus ((repeat (first | exact .hd | assumption | apply Has.tl)); done)); (exact rfl)) | fail) | fail)
            refine (RN.out _ (HL.out.ext hm.x) (HM.out.ext hm.x)).mono ?_
            rintro e w ⟨x, rfl, ⟨py, cy, rfl, hcy, hry⟩, hx_⟩
            replace hm := hm.ext hx_
            replace HRZ := Lib.hid (HRZ.out.ext hx_)
            rw [lE] at hcy ⊢
            have HRY := Lib.hid hry
            clear hx_ hry
            have s1 : (convert 22 9 (.slice px m.length cx)).run Tryz.prog w = .ok (.string (bstr D)) w := by
              have := conv_str px D cx w HRZ.out; rwa [lD] at this
            have s2 : (convert 22 9 (.slice py m.length cy)).run Tryz.prog w = .ok (.string (bstr D)) w := by
              have := conv_str py D cy w HRY.out; rwa [lD] at this
            go_wp2_with (first | (go_at_call 18; (with_reducible refine (AW.out _ hm.x).mono ?_); rintro e_ w ⟨rfl, hx_⟩; replace hm := hm.ext hx_; clear hx_) | ((with_reducible show wpList _ _ _ (Oper.mk _ (Op.load _ _) _ _ _ _ :: _) _ _); first | ((with_reducible apply wq_ld1 hm); (exact rfl); infer_instance; (exact rfl); (focus ((repeat (first | exact .hd | assumption | apply Has.tl)); done)); (exact rfl)) | fail) | fail)
            go_ret
            exact ⟨rfl, hm.x⟩
          by_cases n2 : 31 < N
          · have z1 : decide (1 ≤ N) = true := decide_eq_true (by omega)
            have z2 : 1 ≤ N := by omega
            have z3 : decide (N ≥ 1) = true := decide_eq_true (by omega)
            have z4 : decide (N ≤ 31) = false := decide_eq_false (by omega)
            have z5 : ¬ N ≤ 31 := by omega
            have RI := Lib.hid fun w => (show roundsI N = 0 from if_pos (Or.inr n2)) ▸ RI.out w
            go_enter Tryz.func4, Tryz.ntmps4
            go_wp2_with (first | (go_at_call 13; (with_reducible refine (TR.out _ hm.x).mono ?_); rintro e_ w ⟨rfl, hx_⟩; replace hm := hm.ext hx_; clear hx_) | ((with_reducible show wpList _ _ _ (Oper.mk _ (Op.load _ _) _ _ _ _ :: _) _ _); first | ((with_reducible apply wq_ldW hm); (exact rfl); infer_instance; (exact rfl); (focus ((repeat (first | exact .hd | assumption | apply Has.tl)); done)); (focus (first | rfl | omega | (simp; done) | (simp; omega) | fail))) | ((with_reducible apply wq_ld1 hm); (exact rfl); infer_instance; (exact rfl); (focus ((repeat (first | exact .hd | assumption | apply Has.tl)); done)); (exact rfl)) | fail) | ((first | ((with_reducible show wpList _ _ _ (Oper.mk _ (Op.box _ _) _ _ _ _ :: _) _ _); first | ((with_reducible apply wq_boxN hm); (exact rfl); (exact rfl)) | fail)); clear hm; (first | (have hx_ := g1; clear hx_; (first | (have hx_ := g2; clear hx_; (first | (have hx_ := g3; clear hx_; intro gx_) | intro g3)) | intro g2)) | intro g1); intro w hm) | fail)
            refine (KO.out _ (HK.out.ext hm.x) (HC.out.ext hm.x) (HB.out.ext hm.x)).mono ?_
            rintro e w ⟨g, gt, gb, rfl, hg_, hgt_, hne_, hrk_, hrt_, hx_⟩
            replace hm := hm.push2 hx_ hgt_ hrt_ hg_ hrk_ hne_
            clear hx_ hg_ hgt_ hne_ hrk_ hrt_
            go_wp2_with (first | ((with_reducible show wpList _ _ _ (Oper.mk _ (Op.load _ _) _ _ _ _ :: _) _ _); first | ((with_reducible apply wq_ld1 hm); (exact rfl); infer_instance; (exact rfl); (focus ((repeat (first | exact .hd | assumption | apply Has.tl)); done)); (exact rfl)) | fail) | fail)
            refine (T1.out _ g (KeyR.own (gt := gt) (gb := gb) OKK.out hm (by repeat (first | exact Has.hd | assumption | apply Has.tl)) (by repeat (first | exact Has.hd | assumption | apply Has.tl))) (HL.out.ext hm.x) (HM.out.ext hm.x)).mono ?_
            rintro e w ⟨px, cx, rfl, hcx, hrx, hx_⟩
            replace hm := hm.ext hx_
            obtain ⟨w1, hw1⟩ : ∃ v, v = w := ⟨_, rfl⟩
            have HRX : Hid (RdB w1 px D) := Lib.hid (by rw [hw1]; exact hrx)
            have HX1 : Hid (Ext w1 w) := Lib.hid (by rw [hw1]; exact Ext.refl _)
            have HM1 : Hid (Own w0 w1 [⟨g, 100, kcells gt K⟩, ⟨gt, 105, tcells gb mixT unmixT⟩, ⟨g1, 44, textC p key.length c q ls.length d r m.length f false⟩]) := Lib.hid (by rw [hw1]; exact hm)
            clear hx_ hrx
            clear hw1
            go_wp2_with (first | ((with_reducible show wpList _ _ _ (Oper.mk _ (Op.load _ _) _ _ _ _ :: _) _ _); first | ((with_reducible apply wq_ld1 hm); (exact rfl); infer_instance; (exact rfl); (focus ((repeat (first | exact .hd | assumption | apply Has.tl)); done)); (exact rfl)) | fail) | fail)
            refine (tturn_nil _ _ _ _).mono ?_
            rintro e w_ ⟨rfl, rfl⟩
            go_wp2_with (first | (go_at_call 17; (with_reducible refine (RI.out _).mono ?_); rintro e_ w_ ⟨rfl, rfl⟩) | ((with_reducible show wpList _ _ _ (Oper.mk _ (Op.load _ _) _ _ _ _ :: _) _ _); first | ((with_reducible apply wq_ld1 hm); (exact rfl); infer_instance; (exact rfl); (focus ((repeat (first | exact .hd | assumption | apply Has.tl)); done)); (exact rfl)) | fail) | fail)
            obtain ⟨w, rfl⟩ : ∃ w', w' = w_ := ⟨_, rfl⟩
            have hx0 := hm.x
            have HXS := Lib.hid HX1.out.size
            have c2 := fun wx (hwx : Ext _ wx) => RX.out wx (HK.out.ext (hx0.trans hwx))
            refine region_new 5 (fun w' => Ext _ w') 127 (by kernel_rfl) (by kernel_rfl) rfl (fun _ _ h k => h.trans k) (drew_ext _) ?_
            simp only [tSC, List.take_zero, dSC, List.drop_zero, List.map_cons, List.map_nil]
            repeat (first
                | (apply walk_some (NewS (w.heap.size) 39 ((zer 560).map v8)) 12 (NewS.stable _ _ _) rfl rfl rfl rfl
                   · (intro wx hwx; go_simp; exact gives_new (cs := (zer 560).map v8) hwx.size))
                | (apply walk_is rfl rfl rfl
                   · (intro wx hwx; first | ((with_reducible show gives _ _ _ (Sem.run _ (execOp _ (Oper.mk _ (Op.load _ _) _ _ _ _)) _)); first | ((with_reducible apply gq_ldv (hm.ext hwx)); infer_instance; (exact rfl); (focus ((repeat (first | exact .hd | assumption | apply Has.tl)); done)); (focus (first | omega | (simp; omega) | (refine Nat.lt_of_lt_of_le (BitVec.isLt _) ?_; first | omega | (simp; done) | (simp; omega) | fail) | fail))) | ((with_reducible apply gq_ldW (hm.ext hwx)); infer_instance; (exact rfl); (focus ((repeat (first | exact .hd | assumption | apply Has.tl)); done)); (focus (first | rfl | omega | (simp; done) | (simp; omega) | fail))) | ((with_reducible apply gq_ld1 (hm.ext hwx)); infer_instance; (exact rfl); (focus ((repeat (first | exact .hd | assumption | apply Has.tl)); done)); (exact rfl)) | fail) | (go_simp; (try go_bits); first | exact gives_same | exact gives_skip | with_reducible exact gives_call (MK.out wx) | with_reducible exact gives_call (c2 wx hwx)))
                   · (simp only [Act.put, sIB, sCS, sCZ]; rfl))
                | (apply walk_not rfl rfl rfl
                   · (simp only [Act.put, sIB, sCS, sCZ]; rfl)))
            intro wz hwz
            simp only [zCC, zNR]
            repeat rw [fin_is]
            rw [fin_cons]; intro x12 hx12
            repeat rw [fin_is]
            rw [fin_nil]; intro hap
            simp only [Act.put, sIB, sCS, sCZ] at hap ⊢
            obtain ⟨g12_, rfl, hg12, hr12⟩ := hx12
            replace hm := hm.push hwz hg12 hr12
            clear hap hr12
            replace HX1 := Lib.hid (HX1.out.trans hwz)
            clear c2 hx0
            have lz5 : ((zer (n := 8) 560).map v8).length = 560 := by rw [List.length_map]; exact zer_length
            have lR5 : (R.map v8).length = 560 := by rw [List.length_map]; exact lR
            have hmB := Own.push (Own.start w1) HX1.out (Nat.le_trans HXS.out hg12) (hm.row .hd)
            clear hm HX1
            have hm := hmB
            clear hmB
            go_wp2_with (first | ((with_reducible show wpList _ _ _ (Oper.mk _ (Op.store 39 _ _) _ _ _ _ :: _) _ _); (with_reducible apply wq_stW (cs' := R.map v8) hm); (exact rfl); infer_instance; (exact rfl); (exact rfl); (exact .hd); (exact lR5); (exact lz5); (exact one_map _); clear hm; intro w hm; (have hm2 := Own.join HM1.out hm; have HRZ := Lib.hid (HRX.out.ext hm.x); clear hm; simp only [List.cons_append, List.nil_append] at hm2; have hm := hm2; clear hm2)) | ((with_reducible show wpList _ _ _ (Oper.mk _ (Op.load _ _) _ _ _ _ :: _) _ _); first | ((with_reducible apply wq_ldW hm); (exact rfl); infer_instance; (exact rfl); (focus ((repeat (first | exact .hd | assumption | apply Has.tl)); done)); (focus (first | rfl | omega | (simp; done) | (simp; omega) | fail))) | ((with_reducible apply wq_ld1 hm); (exact rfl); infer_instance; (exact rfl); (focus ((repeat (first | exact .hd | assumption | apply Has.tl)); done)); (exact rfl)) | fail) | fail)
            refine (RN.out _ (HL.out.ext hm.x) (HM.out.ext hm.x)).mono ?_
            rintro e w ⟨x, rfl, ⟨py, cy, rfl, hcy, hry⟩, hx_⟩
            replace hm := hm.ext hx_
            replace HRZ := Lib.hid (HRZ.out.ext hx_)
            rw [lE] at hcy ⊢
            have HRY := Lib.hid hry
            clear hx_ hry
            have s1 : (convert 22 9 (.slice px m.length cx)).run Tryz.prog w = .ok (.string (bstr D)) w := by
              have := conv_str px D cx w HRZ.out; rwa [lD] at this
            have s2 : (convert 22 9 (.slice py m.length cy)).run Tryz.prog w = .ok (.string (bstr D)) w := by
              have := conv_str py D cy w HRY.out; rwa [lD] at this
            go_wp2_with (first | (go_at_call 18; (with_reducible refine (AW.out _ hm.x).mono ?_); rintro e_ w ⟨rfl, hx_⟩; replace hm := hm.ext hx_; clear hx_) | ((with_reducible show wpList _ _ _ (Oper.mk _ (Op.load _ _) _ _ _ _ :: _) _ _); first | ((with_reducible apply wq_ld1 hm); (exact rfl); infer_instance; (exact rfl); (focus ((repeat (first | exact .hd | assumption | apply Has.tl)); done)); (exact rfl)) | fail) | fail)
            go_ret
            exact ⟨rfl, hm.x⟩
          obtain ⟨k, rfl⟩ : ∃ k : Nat, N = k := ⟨N.toNat, by omega⟩
          have z1 : decide ((1 : Int) ≤ (k : Int)) = true := decide_eq_true (by omega)
          have z2 : (1 : Int) ≤ (k : Int) := by omega
          have z3 : decide ((k : Int) ≥ 1) = true := decide_eq_true (by omega)
          have z4 : decide ((k : Int) ≤ 31) = true := decide_eq_true (by omega)
          have z5 : (k : Int) ≤ 31 := by omega
          have RR := Lib.hid fun w => rounds19 k (by omega) (by omega) w
          have RI := Lib.hid fun w => roundsI_nat k ▸ RI.out w
          generalize roundsN k = RK at *
          go_enter Tryz.func4, Tryz.ntmps4
          go_wp2_with (first | (go_at_call 13; (with_reducible refine (TR.out _ hm.x).mono ?_); rintro e_ w ⟨rfl, hx_⟩; replace hm := hm.ext hx_; clear hx_) | ((with_reducible show wpList _ _ _ (Oper.mk _ (Op.load _ _) _ _ _ _ :: _) _ _); first | ((with_reducible apply wq_ldW hm); (exact rfl); infer_instance; (exact rfl); (focus ((repeat (first | exact .hd | assumption | apply Has.tl)); done)); (focus (first | rfl | omega | (simp; done) | (simp; omega) | fail))) | ((with_reducible apply wq_ld1 hm); (exact rfl); infer_instance; (exact rfl); (focus ((repeat (first | exact .hd | assumption | apply Has.tl)); done)); (exact rfl)) | fail) | ((first | ((with_reducible show wpList _ _ _ (Oper.mk _ (Op.box _ _) _ _ _ _ :: _) _ _); first | ((with_reducible apply wq_boxN hm); (exact rfl); (exact rfl)) | fail)); clear hm; (first | (have hx_ := g1; clear hx_; (first | (have hx_ := g2; clear hx_; (first | (have hx_ := g3; clear hx_; intro gx_) | intro g3)) | intro g2)) | intro g1); intro w hm) | fail)
          refine (KO.out _ (HK.out.ext hm.x) (HC.out.ext hm.x) (HB.out.ext hm.x)).mono ?_
          rintro e w ⟨g, gt, gb, rfl, hg_, hgt_, hne_, hrk_, hrt_, hx_⟩
          replace hm := hm.push2 hx_ hgt_ hrt_ hg_ hrk_ hne_
          clear hx_ hg_ hgt_ hne_ hrk_ hrt_
          go_wp2_with (first | ((with_reducible show wpList _ _ _ (Oper.mk _ (Op.load _ _) _ _ _ _ :: _) _ _); first | ((with_reducible apply wq_ld1 hm); (exact rfl); infer_instance; (exact rfl); (focus ((repeat (first | exact .hd | assumption | apply Has.tl)); done)); (exact rfl)) | fail) | fail)
          refine (T1.out _ g (KeyR.own (gt := gt) (gb := gb) OKK.out hm (by repeat (first | exact Has.hd | assumption | apply Has.tl)) (by repeat (first | exact Has.hd | assumption | apply Has.tl))) (HL.out.ext hm.x) (HM.out.ext hm.x)).mono ?_
          rintro e w ⟨px, cx, rfl, hcx, hrx, hx_⟩
          replace hm := hm.ext hx_
          obtain ⟨w1, hw1⟩ : ∃ v, v = w := ⟨_, rfl⟩
          have HRX : Hid (RdB w1 px D) := Lib.hid (by rw [hw1]; exact hrx)
          have HX1 : Hid (Ext w1 w) := Lib.hid (by rw [hw1]; exact Ext.refl _)
          have HM1 : Hid (Own w0 w1 [⟨g, 100, kcells gt K⟩, ⟨gt, 105, tcells gb mixT unmixT⟩, ⟨g1, 44, textC p key.length c q ls.length d r m.length f false⟩]) := Lib.hid (by rw [hw1]; exact hm)
          clear hx_ hrx
          clear hw1
          go_wp2_with (first | ((with_reducible show wpList _ _ _ (Oper.mk _ (Op.load _ _) _ _ _ _ :: _) _ _); first | ((with_reducible apply wq_ld1 hm); (exact rfl); infer_instance; (exact rfl); (focus ((repeat (first | exact .hd | assumption | apply Has.tl)); done)); (exact rfl)) | fail) | fail)
          refine (tturn_nil _ _ _ _).mono ?_
          rintro e w_ ⟨rfl, rfl⟩
          go_wp2_with fail
          refine (RR.out _).mono ?_
          rintro e w ⟨rfl, hx_⟩
          replace hm := hm.ext hx_
          replace HX1 := Lib.hid (HX1.out.trans hx_)
          clear hx_
          go_wp2_with (first | (go_at_call 17; (with_reducible refine (RI.out _).mono ?_); rintro e_ w_ ⟨rfl, rfl⟩) | ((with_reducible show wpList _ _ _ (Oper.mk _ (Op.load _ _) _ _ _ _ :: _) _ _); first | ((with_reducible apply wq_ld1 hm); (exact rfl); infer_instance; (exact rfl); (focus ((repeat (first | exact .hd | assumption | apply Has.tl)); done)); (exact rfl)) | fail) | fail)
          obtain ⟨w, rfl⟩ : ∃ w', w' = w_ := ⟨_, rfl⟩
          have hx0 := hm.x
          have HXS := Lib.hid HX1.out.size
          have c2 := fun wx (hwx : Ext _ wx) => RX.out wx (HK.out.ext (hx0.trans hwx))
          refine region_new 5 (fun w' => Ext _ w') 127 (by kernel_rfl) (by kernel_rfl) rfl (fun _ _ h k => h.trans k) (drew_ext _) ?_
          simp only [tSC, List.take_zero, dSC, List.drop_zero, List.map_cons, List.map_nil]
          repeat (first
              | (apply walk_some (NewS (w.heap.size) 39 ((zer 560).map v8)) 12 (NewS.stable _ _ _) rfl rfl rfl rfl
                 · (intro wx hwx; go_simp; exact gives_new (cs := (zer 560).map v8) hwx.size))
              | (apply walk_is rfl rfl rfl
                 · (intro wx hwx; first | ((with_reducible show gives _ _ _ (Sem.run _ (execOp _ (Oper.mk _ (Op.load _ _) _ _ _ _)) _)); first | ((with_reducible apply gq_ldv (hm.ext hwx)); infer_instance; (exact rfl); (focus ((repeat (first | exact .hd | assumption | apply Has.tl)); done)); (focus (first | omega | (simp; omega) | (refine Nat.lt_of_lt_of_le (BitVec.isLt _) ?_; first | omega | (simp; done) | (simp; omega) | fail) | fail))) | ((with_reducible apply gq_ldW (hm.ext hwx)); infer_instance; (exact rfl); (focus ((repeat (first | exact .hd | assumption | apply Has.tl)); done)); (focus (first | rfl | omega | (simp; done) | (simp; omega) | fail))) | ((with_reducible apply gq_ld1 (hm.ext hwx)); infer_instance; (exact rfl); (focus ((repeat (first | exact .hd | assumption | apply Has.tl)); done)); (exact rfl)) | fail) | (go_simp; (try go_bits); first | exact gives_same | exact gives_skip | with_reducible exact gives_call (MK.out wx) | with_reducible exact gives_call (c2 wx hwx)))
                 · (simp only [Act.put, sIB, sCS, sCZ]; rfl))
              | (apply walk_not rfl rfl rfl
                 · (simp only [Act.put, sIB, sCS, sCZ]; rfl)))
          intro wz hwz
          simp only [zCC, zNR]
          repeat rw [fin_is]
          rw [fin_cons]; intro x12 hx12
          repeat rw [fin_is]
          rw [fin_nil]; intro hap
          simp only [Act.put, sIB, sCS, sCZ] at hap ⊢
          obtain ⟨g12_, rfl, hg12, hr12⟩ := hx12
          replace hm := hm.push hwz hg12 hr12
          clear hap hr12
          replace HX1 := Lib.hid (HX1.out.trans hwz)
          clear c2 hx0
          have lz5 : ((zer (n := 8) 560).map v8).length = 560 := by rw [List.length_map]; exact zer_length
          have lR5 : (R.map v8).length = 560 := by rw [List.length_map]; exact lR
          have hmB := Own.push (Own.start w1) HX1.out (Nat.le_trans HXS.out hg12) (hm.row .hd)
          clear hm HX1
          have hm := hmB
          clear hmB
          go_wp2_with (first | ((with_reducible show wpList _ _ _ (Oper.mk _ (Op.store 39 _ _) _ _ _ _ :: _) _ _); (with_reducible apply wq_stW (cs' := R.map v8) hm); (exact rfl); infer_instance; (exact rfl); (exact rfl); (exact .hd); (exact lR5); (exact lz5); (exact one_map _); clear hm; intro w hm; (have hm2 := Own.join HM1.out hm; have HRZ := Lib.hid (HRX.out.ext hm.x); clear hm; simp only [List.cons_append, List.nil_append] at hm2; have hm := hm2; clear hm2)) | ((with_reducible show wpList _ _ _ (Oper.mk _ (Op.load _ _) _ _ _ _ :: _) _ _); first | ((with_reducible apply wq_ldW hm); (exact rfl); infer_instance; (exact rfl); (focus ((repeat (first | exact .hd | assumption | apply Has.tl)); done)); (focus (first | rfl | omega | (simp; done) | (simp; omega) | fail))) | ((with_reducible apply wq_ld1 hm); (exact rfl); infer_instance; (exact rfl); (focus ((repeat (first | exact .hd | assumption | apply Has.tl)); done)); (exact rfl)) | fail) | fail)
          refine (RN.out _ (HL.out.ext hm.x) (HM.out.ext hm.x)).mono ?_
          rintro e w ⟨x, rfl, ⟨py, cy, rfl, hcy, hry⟩, hx_⟩
          replace hm := hm.ext hx_
          replace HRZ := Lib.hid (HRZ.out.ext hx_)
          rw [lE] at hcy ⊢
          have HRY := Lib.hid hry
          clear hx_ hry
          have s1 : (convert 22 9 (.slice px m.length cx)).run Tryz.prog w = .ok (.string (bstr D)) w := by
            have := conv_str px D cx w HRZ.out; rwa [lD] at this
          have s2 : (convert 22 9 (.slice py m.length cy)).run Tryz.prog w = .ok (.string (bstr D)) w := by
            have := conv_str py D cy w HRY.out; rwa [lD] at this
          go_wp2_with (first | (go_at_call 18; (with_reducible refine (AW.out _ hm.x).mono ?_); rintro e_ w ⟨rfl, hx_⟩; replace hm := hm.ext hx_; clear hx_) | ((with_reducible show wpList _ _ _ (Oper.mk _ (Op.load _ _) _ _ _ _ :: _) _ _); first | ((with_reducible apply wq_ld1 hm); (exact rfl); infer_instance; (exact rfl); (focus ((repeat (first | exact .hd | assumption | apply Has.tl)); done)); (exact rfl)) | fail) | fail)
          go_ret
          exact ⟨rfl, hm.x⟩
        · generalize tinyL (eZ K) (hashG (eZ K) ls) false m = D2 at *
          generalize tinyL (eZ K) (hashG (eZ K) ls) true m = D at *
          by_cases n1 : N < 1
          · have z1 : decide (1 ≤ N) = false := decide_eq_false (by omega)
            have z2 : ¬ 1 ≤ N := by omega
            have z3 : decide (N ≥ 1) = false := decide_eq_false (by omega)
            have RI := Lib.hid fun w => (show roundsI N = 0 from if_pos (Or.inl n1)) ▸ RI.out w
            go_enter Tryz.func4, Tryz.ntmps4
            go_wp2_with (first | (go_at_call 13; (with_reducible refine (TR.out _ hm.x).mono ?_); rintro e_ w ⟨rfl, hx_⟩; replace hm := hm.ext hx_; clear hx_) | ((with_reducible show wpList _ _ _ (Oper.mk _ (Op.load _ _) _ _ _ _ :: _) _ _); first | ((with_reducible apply wq_ldW hm); (exact rfl); infer_instance; (exact rfl); (focus ((repeat (first | exact .hd | assumption | apply Has.tl)); done)); (focus (first | rfl | omega | (simp; done) | (simp; omega) | fail))) | ((with_reducible apply wq_ld1 hm); (exact rfl); infer_instance; (exact rfl); (focus ((repeat (first | exact .hd | assumption | apply Has.tl)); done)); (exact rfl)) | fail) | ((first | ((with_reducible show wpList _ _ _ (Oper.mk _ (Op.box _ _) _ _ _ _ :: _) _ _); first | ((with_reducible apply wq_boxN hm); (exact rfl); (exact rfl)) | fail)); clear hm; (first | (have hx_ := g1; clear hx_; (first | (have hx_ := g2; clear hx_; (first | (have hx_ := g3; clear hx_; intro gx_) | intro g3)) | intro g2)) | intro g1); intro w hm) | fail)
            refine (KO.out _ (HK.out.ext hm.x) (HC.out.ext hm.x) (HB.out.ext hm.x)).mono ?_
            rintro e w ⟨g, gt, gb, rfl, hg_, hgt_, hne_, hrk_, hrt_, hx_⟩
            replace hm := hm.push2 hx_ hgt_ hrt_ hg_ hrk_ hne_
            clear hx_ hg_ hgt_ hne_ hrk_ hrt_
            go_wp2_with (first | ((with_reducible show wpList _ _ _ (Oper.mk _ (Op.load _ _) _ _ _ _ :: _) _ _); first | ((with_reducible apply wq_ld1 hm); (exact rfl); infer_instance; (exact rfl); (focus ((repeat (first | exact .hd | assumption | apply Has.tl)); done)); (exact rfl)) | fail) | fail)
            refine (T1.out _ g (KeyR.own (gt := gt) (gb := gb) OKK.out hm (by repeat (first | exact Has.hd | assumption | apply Has.tl)) (by repeat (first | exact Has.hd | assumption | apply Has.tl))) (HL.out.ext hm.x) (HM.out.ext hm.x)).mono ?_
            rintro e w ⟨px, cx, rfl, hcx, hrx, hx_⟩
            replace hm := hm.ext hx_
            obtain ⟨w1, hw1⟩ : ∃ v, v = w := ⟨_, rfl⟩
            have HRX : Hid (RdB w1 px D) := Lib.hid (by rw [hw1]; exact hrx)
            have HX1 : Hid (Ext w1 w) := Lib.hid (by rw [hw1]; exact Ext.refl _)
            have HM1 : Hid (Own w0 w1 [⟨g, 100, kcells gt K⟩, ⟨gt, 105, tcells gb mixT unmixT⟩, ⟨g1, 44, textC p key.length c q ls.length d r m.length f true⟩]) := Lib.hid (by rw [hw1]; exact hm)
            clear hx_ hrx
            clear hw1
            go_wp2_with (first | ((with_reducible show wpList _ _ _ (Oper.mk _ (Op.load _ _) _ _ _ _ :: _) _ _); first | ((with_reducible apply wq_ld1 hm); (exact rfl); infer_instance; (exact rfl); (focus ((repeat (first | exact .hd | assumption | apply Has.tl)); done)); (exact rfl)) | fail) | fail)
            refine (tturn_nil _ _ _ _).mono ?_
            rintro e w_ ⟨rfl, rfl⟩
            go_wp2_with (first | (go_at_call 17; (with_reducible refine (RI.out _).mono ?_); rintro e_ w_ ⟨rfl, rfl⟩) | ((with_reducible show wpList _ _ _ (Oper.mk _ (Op.load _ _) _ _ _ _ :: _) _ _); first | ((with_reducible apply wq_ld1 hm); (exact rfl); infer_instance; (exact rfl); (focus ((repeat (first | exact .hd | assumption | apply Has.tl)); done)); (exact rfl)) | fail) | fail)
            obtain ⟨w, rfl⟩ : ∃ w', w' = w_ := ⟨_, rfl⟩
            have hx0 := hm.x
            have HXS := Lib.hid HX1.out.size
            have c2 := fun wx (hwx : Ext _ wx) => RX.out wx (HK.out.ext (hx0.trans hwx))
            refine region_new 5 (fun w' => Ext _ w') 127 (by kernel_rfl) (by kernel_rfl) rfl (fun _ _ h k => h.trans k) (drew_ext _) ?_
            simp only [tSC, List.take_zero, dSC, List.drop_zero, List.map_cons, List.map_nil]
            repeat (first
                | (apply walk_some (NewS (w.heap.size) 39 ((zer 560).map v8)) 12 (NewS.stable _ _ _) rfl rfl rfl rfl
                   · (intro wx hwx; go_simp; exact gives_new (cs := (zer 560).map v8) hwx.size))
                | (apply walk_is rfl rfl rfl
                   · (intro wx hwx; first | ((with_reducible show gives _ _ _ (Sem.run _ (execOp _ (Oper.mk _ (Op.load _ _) _ _ _ _)) _)); first | ((with_reducible apply gq_ldv (hm.ext hwx)); infer_instance; (exact rfl); (focus ((repeat (first | exact .hd | assumption | apply Has.tl)); done)); (focus (first | omega | (simp; omega) | (refine Nat.lt_of_lt_of_le (BitVec.isLt _) ?_; first | omega | (simp; done) | (simp; omega) | fail) | fail))) | ((with_reducible apply gq_ldW (hm.ext hwx)); infer_instance; (exact rfl); (focus ((repeat (first | exact .hd | assumption | apply Has.tl)); done)); (focus (first | rfl | omega | (simp; done) | (simp; omega) | fail))) | ((with_reducible apply gq_ld1 (hm.ext hwx)); infer_instance; (exact rfl); (focus ((repeat (first | exact .hd | assumption | apply Has.tl)); done)); (exact rfl)) | fail) | (go_simp; (try go_bits); first | exact gives_same | exact gives_skip | with_reducible exact gives_call (MK.out wx) | with_reducible exact gives_call (c2 wx hwx)))
                   · (simp only [Act.put, sIB, sCS, sCZ]; rfl))
                | (apply walk_not rfl rfl rfl
                   · (simp only [Act.put, sIB, sCS, sCZ]; rfl)))
            intro wz hwz
            simp only [zCC, zNR]
            repeat rw [fin_is]
            rw [fin_cons]; intro x12 hx12
            repeat rw [fin_is]
            rw [fin_nil]; intro hap
            simp only [Act.put, sIB, sCS, sCZ] at hap ⊢
            obtain ⟨g12_, rfl, hg12, hr12⟩ := hx12
            replace hm := hm.push hwz hg12 hr12
            clear hap hr12
            replace HX1 := Lib.hid (HX1.out.trans hwz)
            clear c2 hx0
            have lz5 : ((zer (n := 8) 560).map v8).length = 560 := by rw [List.length_map]; exact zer_length
            have lR5 : (R.map v8).length = 560 := by rw [List.length_map]; exact lR
            have hmB := Own.push (Own.start w1) HX1.out (Nat.le_trans HXS.out hg12) (hm.row .hd)
            clear hm HX1
            have hm := hmB
            clear hmB
            go_wp2_with (first | ((with_reducible show wpList _ _ _ (Oper.mk _ (Op.store 39 _ _) _ _ _ _ :: _) _ _); (with_reducible apply wq_stW (cs' := R.map v8) hm); (exact rfl); infer_instance; (exact rfl); (exact rfl); (exact .hd); (exact lR5); (exact lz5); (exact one_map _); clear hm; intro w hm; (have hm2 := Own.join HM1.out hm; have HRZ := Lib.hid (HRX.out.ext hm.x); clear hm; simp only [List.cons_append, List.nil_append] at hm2; have hm := hm2; clear hm2)) | ((with_reducible show wpList _ _ _ (Oper.mk _ (Op.load _ _) _ _ _ _ :: _) _ _); first | ((with_reducible apply wq_ldW hm); (exact rfl); infer_instance; (exact rfl); (focus ((repeat (first | exact .hd | assumption | apply Has.tl)); done)); (focus (first | rfl | omega | (simp; done) | (simp; omega) | fail))) | ((with_reducible apply wq_ld1 hm); (exact rfl); infer_instance; (exact rfl); (focus ((repeat (first | exact .hd | assumption | apply Has.tl)); done)); (exact rfl)) | fail) | fail)
            refine (RN.out _ (HL.out.ext hm.x) (HM.out.ext hm.x)).mono ?_
            rintro e w ⟨x, rfl, ⟨py, cy, rfl, hcy, hry⟩, hx_⟩
            replace hm := hm.ext hx_
            replace HRZ := Lib.hid (HRZ.out.ext hx_)
            rw [lE] at hcy ⊢
            have HRY := Lib.hid hry
            clear hx_ hry
            go_wp2_with (first | ((with_reducible show wpList _ _ _ (Oper.mk _ (Op.load _ _) _ _ _ _ :: _) _ _); first | ((with_reducible apply wq_ldW hm); (exact rfl); infer_instance; (exact rfl); (focus ((repeat (first | exact .hd | assumption | apply Has.tl)); done)); (focus (first | rfl | omega | (simp; done) | (simp; omega) | fail))) | ((with_reducible apply wq_ld1 hm); (exact rfl); infer_instance; (exact rfl); (focus ((repeat (first | exact .hd | assumption | apply Has.tl)); done)); (exact rfl)) | fail) | fail)
            refine (RD.out _ (HL.out.ext hm.x) (HM.out.ext hm.x)).mono ?_
            rintro e w ⟨x, rfl, ⟨pz, cz, rfl, hcz, hrz⟩, hx_⟩
            replace hm := hm.ext hx_
            replace HRZ := Lib.hid (HRZ.out.ext hx_)
            rw [lD] at hcz ⊢
            have HRY := Lib.hid hrz
            clear hx_ hrz
            have s1 : (convert 22 9 (.slice px m.length cx)).run Tryz.prog w = .ok (.string (bstr D)) w := by
              have := conv_str px D cx w HRZ.out; rwa [lD] at this
            have s2 : (convert 22 9 (.slice pz m.length cz)).run Tryz.prog w = .ok (.string (bstr D)) w := by
              have := conv_str pz D cz w HRY.out; rwa [lD] at this
            go_wp2_with (first | (go_at_call 18; (with_reducible refine (AW.out _ hm.x).mono ?_); rintro e_ w ⟨rfl, hx_⟩; replace hm := hm.ext hx_; clear hx_) | fail)
            go_ret
            exact ⟨rfl, hm.x⟩
          by_cases n2 : 31 < N
          · have z1 : decide (1 ≤ N) = true := decide_eq_true (by omega)
            have z2 : 1 ≤ N := by omega
            have z3 : decide (N ≥ 1) = true := decide_eq_true (by omega)
            have z4 : decide (N ≤ 31) = false := decide_eq_false (by omega)
            have z5 : ¬ N ≤ 31 := by omega
            have RI := Lib.hid fun w => (show roundsI N = 0 from if_pos (Or.inr n2)) ▸ RI.out w
            go_enter Tryz.func4, Tryz.ntmps4
            go_wp2_with (first | (go_at_call 13; (with_reducible refine (TR.out _ hm.x).mono ?_); rintro e_ w ⟨rfl, hx_⟩; replace hm := hm.ext hx_; clear hx_) | ((with_reducible show wpList _ _ _ (Oper.mk _ (Op.load _ _) _ _ _ _ :: _) _ _); first | ((with_reducible apply wq_ldW hm); (exact rfl); infer_instance; (exact rfl); (focus ((repeat (first | exact .hd | assumption | apply Has.tl)); done)); (focus (first | rfl | omega | (simp; done) | (simp; omega) | fail))) | ((with_reducible apply wq_ld1 hm); (exact rfl); infer_instance; (exact rfl); (focus ((repeat (first | exact .hd | assumption | apply Has.tl)); done)); (exact rfl)) | fail) | ((first | ((with_reducible show wpList _ _ _ (Oper.mk _ (Op.box _ _) _ _ _ _ :: _) _ _); first | ((with_reducible apply wq_boxN hm); (exact rfl); (exact rfl)) | fail)); clear hm; (first | (have hx_ := g1; clear hx_; (first | (have hx_ := g2; clear hx_; (first | (have hx_ := g3; clear hx_; intro gx_) | intro g3)) | intro g2)) | intro g1); intro w hm) | fail)
            refine (KO.out _ (HK.out.ext hm.x) (HC.out.ext hm.x) (HB.out.ext hm.x)).mono ?_
            rintro e w ⟨g, gt, gb, rfl, hg_, hgt_, hne_, hrk_, hrt_, hx_⟩
            replace hm := hm.push2 hx_ hgt_ hrt_ hg_ hrk_ hne_
            clear hx_ hg_ hgt_ hne_ hrk_ hrt_
            go_wp2_with (first | ((with_reducible show wpList _ _ _ (Oper.mk _ (Op.load _ _) _ _ _ _ :: _) _ _); first | ((with_reducible apply wq_ld1 hm); (exact rfl); infer_instance; (exact rfl); (focus ((repeat (first | exact .hd | assumption | apply Has.tl)); done)); (exact rfl)) | fail) | fail)
            refine (T1.out _ g (KeyR.own (gt := gt) (gb := gb) OKK.out hm (by repeat (first | exact Has.hd | assumption | apply Has.tl)) (by repeat (first | exact Has.hd | assumption | apply Has.tl))) (HL.out.ext hm.x) (HM.out.ext hm.x)).mono ?_
            rintro e w ⟨px, cx, rfl, hcx, hrx, hx_⟩
            replace hm := hm.ext hx_
            obtain ⟨w1, hw1⟩ : ∃ v, v = w := ⟨_, rfl⟩
            have HRX : Hid (RdB w1 px D) := Lib.hid (by rw [hw1]; exact hrx)
            have HX1 : Hid (Ext w1 w) := Lib.hid (by rw [hw1]; exact Ext.refl _)
            have HM1 : Hid (Own w0 w1 [⟨g, 100, kcells gt K⟩, ⟨gt, 105, tcells gb mixT unmixT⟩, ⟨g1, 44, textC p key.length c q ls.length d r m.length f true⟩]) := Lib.hid (by rw [hw1]; exact hm)
            clear hx_ hrx
            clear hw1
            go_wp2_with (first | ((with_reducible show wpList _ _ _ (Oper.mk _ (Op.load _ _) _ _ _ _ :: _) _ _); first | ((with_reducible apply wq_ld1 hm); (exact rfl); infer_instance; (exact rfl); (focus ((repeat (first | exact .hd | assumption | apply Has.tl)); done)); (exact rfl)) | fail) | fail)
            refine (tturn_nil _ _ _ _).mono ?_
            rintro e w_ ⟨rfl, rfl⟩
            go_wp2_with (first | (go_at_call 17; (with_reducible refine (RI.out _).mono ?_); rintro e_ w_ ⟨rfl, rfl⟩) | ((with_reducible show wpList _ _ _ (Oper.mk _ (Op.load _ _) _ _ _ _ :: _) _ _); first | ((with_reducible apply wq_ld1 hm); (exact rfl); infer_instance; (exact rfl); (focus ((repeat (first | exact .hd | assumption | apply Has.tl)); done)); (exact rfl)) | fail) | fail)
            obtain ⟨w, rfl⟩ : ∃ w', w' = w_ := ⟨_, rfl⟩
            have hx0 := hm.x
            have HXS := Lib.hid HX1.out.size
            have c2 := fun wx (hwx : Ext _ wx) => RX.out wx (HK.out.ext (hx0.trans hwx))
            refine region_new 5 (fun w' => Ext _ w') 127 (by kernel_rfl) (by kernel_rfl) rfl (fun _ _ h k => h.trans k) (drew_ext _) ?_
            simp only [tSC, List.take_zero, dSC, List.drop_zero, List.map_cons, List.map_nil]
            repeat (first
                | (apply walk_some (NewS (w.heap.size) 39 ((zer 560).map v8)) 12 (NewS.stable _ _ _) rfl rfl rfl rfl
                   · (intro wx hwx; go_simp; exact gives_new (cs := (zer 560).map v8) hwx.size))
                | (apply walk_is rfl rfl rfl
                   · (intro wx hwx; first | ((with_reducible show gives _ _ _ (Sem.run _ (execOp _ (Oper.mk _ (Op.load _ _) _ _ _ _)) _)); first | ((with_reducible apply gq_ldv (hm.ext hwx)); infer_instance; (exact rfl); (focus ((repeat (first | exact .hd | assumption | apply Has.tl)); done)); (focus (first | omega | (simp; omega) | (refine Nat.lt_of_lt_of_le (BitVec.isLt _) ?_; first | omega | (simp; done) | (simp; omega) | fail) | fail))) | ((with_reducible apply gq_ldW (hm.ext hwx)); infer_instance; (exact rfl); (focus ((repeat (first | exact .hd | assumption | apply Has.tl)); done)); (focus (first | rfl | omega | (simp; done) | (simp; omega) | fail))) | ((with_reducible apply gq_ld1 (hm.ext hwx)); infer_instance; (exact rfl); (focus ((repeat (first | exact .hd | assumption | apply Has.tl)); done)); (exact rfl)) | fail) | (go_simp; (try go_bits); first | exact gives_same | exact gives_skip | with_reducible exact gives_call (MK.out wx) | with_reducible exact gives_call (c2 wx hwx)))
                   · (simp only [Act.put, sIB, sCS, sCZ]; rfl))
                | (apply walk_not rfl rfl rfl
                   · (simp only [Act.put, sIB, sCS, sCZ]; rfl)))
            intro wz hwz
            simp only [zCC, zNR]
            repeat rw [fin_is]
            rw [fin_cons]; intro x12 hx12
            repeat rw [fin_is]
            rw [fin_nil]; intro hap
            simp only [Act.put, sIB, sCS, sCZ] at hap ⊢
            obtain ⟨g12_, rfl, hg12, hr12⟩ := hx12
            replace hm := hm.push hwz hg12 hr12
            clear hap hr12
            replace HX1 := Lib.hid (HX1.out.trans hwz)
            clear c2 hx0
            have lz5 : ((zer (n := 8) 560).map v8).length = 560 := by rw [List.length_map]; exact zer_length
            have lR5 : (R.map v8).length = 560 := by rw [List.length_map]; exact lR
            have hmB := Own.push (Own.start w1) HX1.out (Nat.le_trans HXS.out hg12) (hm.row .hd)
            clear hm HX1
            have hm := hmB
            clear hmB
            go_wp2_with (first | ((with_reducible show wpList _ _ _ (Oper.mk _ (Op.store 39 _ _) _ _ _ _ :: _) _ _); (with_reducible apply wq_stW (cs' := R.map v8) hm); (exact rfl); infer_instance; (exact rfl); (exact rfl); (exact .hd); (exact lR5); (exact lz5); (exact one_map _); clear hm; intro w hm; (have hm2 := Own.join HM1.out hm; have HRZ := Lib.hid (HRX.out.ext hm.x); clear hm; simp only [List.cons_append, List.nil_append] at hm2; have hm := hm2; clear hm2)) | ((with_reducible show wpList _ _ _ (Oper.mk _ (Op.load _ _) _ _ _ _ :: _) _ _); first | ((with_reducible apply wq_ldW hm); (exact rfl); infer_instance; (exact rfl); (focus ((repeat (first | exact .hd | assumption | apply Has.tl)); done)); (focus (first | rfl | omega | (simp; done) | (simp; omega) | fail))) | ((with_reducible apply wq_ld1 hm); (exact rfl); infer_instance; (exact rfl); (focus ((repeat (first | exact .hd | assumption | apply Has.tl)); done)); (exact rfl)) | fail) | fail)
            refine (RN.out _ (HL.out.ext hm.x) (HM.out.ext hm.x)).mono ?_
            rintro e w ⟨x, rfl, ⟨py, cy, rfl, hcy, hry⟩, hx_⟩
            replace hm := hm.ext hx_
            replace HRZ := Lib.hid (HRZ.out.ext hx_)
            rw [lE] at hcy ⊢
            have HRY := Lib.hid hry
            clear hx_ hry
            go_wp2_with (first | ((with_reducible show wpList _ _ _ (Oper.mk _ (Op.load _ _) _ _ _ _ :: _) _ _); first | ((with_reducible apply wq_ldW hm); (exact rfl); infer_instance; (exact rfl); (focus ((repeat (first | exact .hd | assumption | apply Has.tl)); done)); (focus (first | rfl | omega | (simp; done) | (simp; omega) | fail))) | ((with_reducible apply wq_ld1 hm); (exact rfl); infer_instance; (exact rfl); (focus ((repeat (first | exact .hd | assumption | apply Has.tl)); done)); (exact rfl)) | fail) | fail)
            refine (RD.out _ (HL.out.ext hm.x) (HM.out.ext hm.x)).mono ?_
            rintro e w ⟨x, rfl, ⟨pz, cz, rfl, hcz, hrz⟩, hx_⟩
            replace hm := hm.ext hx_
            replace HRZ := Lib.hid (HRZ.out.ext hx_)
            rw [lD] at hcz ⊢
            have HRY := Lib.hid hrz
            clear hx_ hrz
            have s1 : (convert 22 9 (.slice px m.length cx)).run Tryz.prog w = .ok (.string (bstr D)) w := by
              have := conv_str px D cx w HRZ.out; rwa [lD] at this
            have s2 : (convert 22 9 (.slice pz m.length cz)).run Tryz.prog w = .ok (.string (bstr D)) w := by
              have := conv_str pz D cz w HRY.out; rwa [lD] at this
            go_wp2_with (first | (go_at_call 18; (with_reducible refine (AW.out _ hm.x).mono ?_); rintro e_ w ⟨rfl, hx_⟩; replace hm := hm.ext hx_; clear hx_) | fail)
            go_ret
            exact ⟨rfl, hm.x⟩
          obtain ⟨k, rfl⟩ : ∃ k : Nat, N = k := ⟨N.toNat, by omega⟩
          have z1 : decide ((1 : Int) ≤ (k : Int)) = true := decide_eq_true (by omega)
          have z2 : (1 : Int) ≤ (k : Int) := by omega
          have z3 : decide ((k : Int) ≥ 1) = true := decide_eq_true (by omega)
          have z4 : decide ((k : Int) ≤ 31) = true := decide_eq_true (by omega)
          have z5 : (k : Int) ≤ 31 := by omega
          have RR := Lib.hid fun w => rounds19 k (by omega) (by omega) w
          have RI := Lib.hid fun w => roundsI_nat k ▸ RI.out w
          generalize roundsN k = RK at *
          go_enter Tryz.func4, Tryz.ntmps4
          go_wp2_with (first | (go_at_call 13; (with_reducible refine (TR.out _ hm.x).mono ?_); rintro e_ w ⟨rfl, hx_⟩; replace hm := hm.ext hx_; clear hx_) | ((with_reducible show wpList _ _ _ (Oper.mk _ (Op.load _ _) _ _ _ _ :: _) _ _); first | ((with_reducible apply wq_ldW hm); (exact rfl); infer_instance; (exact rfl); (focus ((repeat (first | exact .hd | assumption | apply Has.tl)); done)); (focus (first | rfl | omega | (simp; done) | (simp; omega) | fail))) | ((with_reducible apply wq_ld1 hm); (exact rfl); infer_instance; (exact rfl); (focus ((repeat (first | exact .hd | assumption | apply Has.tl)); done)); (exact rfl)) | fail) | ((first | ((with_reducible show wpList _ _ _ (Oper.mk _ (Op.box _ _) _ _ _ _ :: _) _ _); first | ((with_reducible apply wq_boxN hm); (exact rfl); (exact rfl)) | fail)); clear hm; (first | (have hx_ := g1; clear hx_; (first | (have hx_ := g2; clear hx_; (first | (have hx_ := g3; clear hx_; intro gx_) | intro g3)) | intro g2)) | intro g1); intro w hm) | fail)
          refine (KO.out _ (HK.out.ext hm.x) (HC.out.ext hm.x) (HB.out.ext hm.x)).mono ?_
          rintro e w ⟨g, gt, gb, rfl, hg_, hgt_, hne_, hrk_, hrt_, hx_⟩
          replace hm := hm.push2 hx_ hgt_ hrt_ hg_ hrk_ hne_
          clear hx_ hg_ hgt_ hne_ hrk_ hrt_
          go_wp2_with (first | ((with_reducible show wpList _ _ _ (Oper.mk _ (Op.load _ _) _ _ _ _ :: _) _ _); first | ((with_reducible apply wq_ld1 hm); (exact rfl); infer_instance; (exact rfl); (focus ((repeat (first | exact .hd | assumption | apply Has.tl)); done)); (exact rfl)) | fail) | fail)
          refine (T1.out _ g (KeyR.own (gt := gt) (gb := gb) OKK.out hm (by repeat (first | exact Has.hd | assumption | apply Has.tl)) (by repeat (first | exact Has.hd | assumption | apply Has.tl))) (HL.out.ext hm.x) (HM.out.ext hm.x)).mono ?_
          rintro e w ⟨px, cx, rfl, hcx, hrx, hx_⟩
          replace hm := hm.ext hx_
          obtain ⟨w1, hw1⟩ : ∃ v, v = w := ⟨_, rfl⟩
          have HRX : Hid (RdB w1 px D) := Lib.hid (by rw [hw1]; exact hrx)
          have HX1 : Hid (Ext w1 w) := Lib.hid (by rw [hw1]; exact Ext.refl _)
          have HM1 : Hid (Own w0 w1 [⟨g, 100, kcells gt K⟩, ⟨gt, 105, tcells gb mixT unmixT⟩, ⟨g1, 44, textC p key.length c q ls.length d r m.length f true⟩]) := Lib.hid (by rw [hw1]; exact hm)
          clear hx_ hrx
          clear hw1
          go_wp2_with (first | ((with_reducible show wpList _ _ _ (Oper.mk _ (Op.load _ _) _ _ _ _ :: _) _ _); first | ((with_reducible apply wq_ld1 hm); (exact rfl); infer_instance; (exact rfl); (focus ((repeat (first | exact .hd | assumption | apply Has.tl)); done)); (exact rfl)) | fail) | fail)
          refine (tturn_nil _ _ _ _).mono ?_
          rintro e w_ ⟨rfl, rfl⟩
          go_wp2_with fail
          refine (RR.out _).mono ?_
          rintro e w ⟨rfl, hx_⟩
          replace hm := hm.ext hx_
          replace HX1 := Lib.hid (HX1.out.trans hx_)
          clear hx_
          go_wp2_with (first | (go_at_call 17; (with_reducible refine (RI.out _).mono ?_); rintro e_ w_ ⟨rfl, rfl⟩) | ((with_reducible show wpList _ _ _ (Oper.mk _ (Op.load _ _) _ _ _ _ :: _) _ _); first | ((with_reducible apply wq_ld1 hm); (exact rfl); infer_instance; (exact rfl); (focus ((repeat (first | exact .hd | assumption | apply Has.tl)); done)); (exact rfl)) | fail) | fail)
          obtain ⟨w, rfl⟩ : ∃ w', w' = w_ := ⟨_, rfl⟩
          have hx0 := hm.x
          have HXS := Lib.hid HX1.out.size
          have c2 := fun wx (hwx : Ext _ wx) => RX.out wx (HK.out.ext (hx0.trans hwx))
          refine region_new 5 (fun w' => Ext _ w') 127 (by kernel_rfl) (by kernel_rfl) rfl (fun _ _ h k => h.trans k) (drew_ext _) ?_
          simp only [tSC, List.take_zero, dSC, List.drop_zero, List.map_cons, List.map_nil]
          repeat (first
              | (apply walk_some (NewS (w.heap.size) 39 ((zer 560).map v8)) 12 (NewS.stable _ _ _) rfl rfl rfl rfl
                 · (intro wx hwx; go_simp; exact gives_new (cs := (zer 560).map v8) hwx.size))
              | (apply walk_is rfl rfl rfl
                 · (intro wx hwx; first | ((with_reducible show gives _ _ _ (Sem.run _ (execOp _ (Oper.mk _ (Op.load _ _) _ _ _ _)) _)); first | ((with_reducible apply gq_ldv (hm.ext hwx)); infer_instance; (exact rfl); (focus ((repeat (first | exact .hd | assumption | apply Has.tl)); done)); (focus (first | omega | (simp; omega) | (refine Nat.lt_of_lt_of_le (BitVec.isLt _) ?_; first | omega | (simp; done) | (simp; omega) | fail) | fail))) | ((with_reducible apply gq_ldW (hm.ext hwx)); infer_instance; (exact rfl); (focus ((repeat (first | exact .hd | assumption | apply Has.tl)); done)); (focus (first | rfl | omega | (simp; done) | (simp; omega) | fail))) | ((with_reducible apply gq_ld1 (hm.ext hwx)); infer_instance; (exact rfl); (focus ((repeat (first | exact .hd | assumption | apply Has.tl)); done)); (exact rfl)) | fail) | (go_simp; (try go_bits); first | exact gives_same | exact gives_skip | with_reducible exact gives_call (MK.out wx) | with_reducible exact gives_call (c2 wx hwx)))
                 · (simp only [Act.put, sIB, sCS, sCZ]; rfl))
              | (apply walk_not rfl rfl rfl
                 · (simp only [Act.put, sIB, sCS, sCZ]; rfl)))
          intro wz hwz
          simp only [zCC, zNR]
          repeat rw [fin_is]
          rw [fin_cons]; intro x12 hx12
          repeat rw [fin_is]
          rw [fin_nil]; intro hap
          simp only [Act.put, sIB, sCS, sCZ] at hap ⊢
          obtain ⟨g12_, rfl, hg12, hr12⟩ := hx12
          replace hm := hm.push hwz hg12 hr12
          clear hap hr12
          replace HX1 := Lib.hid (HX1.out.trans hwz)
          clear c2 hx0
          have lz5 : ((zer (n := 8) 560).map v8).length = 560 := by rw [List.length_map]; exact zer_length
          have lR5 : (R.map v8).length = 560 := by rw [List.length_map]; exact lR
          have hmB := Own.push (Own.start w1) HX1.out (Nat.le_trans HXS.out hg12) (hm.row .hd)
          clear hm HX1
          have hm := hmB
          clear hmB
          go_wp2_with (first | ((with_reducible show wpList _ _ _ (Oper.mk _ (Op.store 39 _ _) _ _ _ _ :: _) _ _); (with_reducible apply wq_stW (cs' := R.map v8) hm); (exact rfl); infer_instance; (exact rfl); (exact rfl); (exact .hd); (exact lR5); (exact lz5); (exact one_map _); clear hm; intro w hm; (have hm2 := Own.join HM1.out hm; have HRZ := Lib.hid (HRX.out.ext hm.x); clear hm; simp only [List.cons_append, List.nil_append] at hm2; have hm := hm2; clear hm2)) | ((with_reducible show wpList _ _ _ (Oper.mk _ (Op.load _ _) _ _ _ _ :: _) _ _); first | ((with_reducible apply wq_ldW hm); (exact rfl); infer_instance; (exact rfl); (focus ((repeat (first | exact .hd | assumption | apply Has.tl)); done)); (focus (first | rfl | omega | (simp; done) | (simp; omega) | fail))) | ((with_reducible apply wq_ld1 hm); (exact rfl); infer_instance; (exact rfl); (focus ((repeat (first | exact .hd | assumption | apply Has.tl)); done)); (exact rfl)) | fail) | fail)
          refine (RN.out _ (HL.out.ext hm.x) (HM.out.ext hm.x)).mono ?_
          rintro e w ⟨x, rfl, ⟨py, cy, rfl, hcy, hry⟩, hx_⟩
          replace hm := hm.ext hx_
          replace HRZ := Lib.hid (HRZ.out.ext hx_)
          rw [lE] at hcy ⊢
          have HRY := Lib.hid hry
          clear hx_ hry
          go_wp2_with (first | ((with_reducible show wpList _ _ _ (Oper.mk _ (Op.load _ _) _ _ _ _ :: _) _ _); first | ((with_reducible apply wq_ldW hm); (exact rfl); infer_instance; (exact rfl); (focus ((repeat (first | exact .hd | assumption | apply Has.tl)); done)); (focus (first | rfl | omega | (simp; done) | (simp; omega) | fail))) | ((with_reducible apply wq_ld1 hm); (exact rfl); infer_instance; (exact rfl); (focus ((repeat (first | exact .hd | assumption | apply Has.tl)); done)); (exact rfl)) | fail) | fail)
          refine (RD.out _ (HL.out.ext hm.x) (HM.out.ext hm.x)).mono ?_
          rintro e w ⟨x, rfl, ⟨pz, cz, rfl, hcz, hrz⟩, hx_⟩
          replace hm := hm.ext hx_
          replace HRZ := Lib.hid (HRZ.out.ext hx_)
          rw [lD] at hcz ⊢
          have HRY := Lib.hid hrz
          clear hx_ hrz
          have s1 : (convert 22 9 (.slice px m.length cx)).run Tryz.prog w = .ok (.string (bstr D)) w := by
            have := conv_str px D cx w HRZ.out; rwa [lD] at this
          have s2 : (convert 22 9 (.slice pz m.length cz)).run Tryz.prog w = .ok (.string (bstr D)) w := by
            have := conv_str pz D cz w HRY.out; rwa [lD] at this
          go_wp2_with (first | (go_at_call 18; (with_reducible refine (AW.out _ hm.x).mono ?_); rintro e_ w ⟨rfl, hx_⟩; replace hm := hm.ext hx_; clear hx_) | fail)
          go_ret
          exact ⟨rfl, hm.x⟩
  · have e : rightT key ls m.length = false := by cases h : rightT key ls m.length <;> simp_all
    rw [e] at TR
    go_enter Tryz.func4, Tryz.ntmps4
    go_wp2_with (first | (go_at_call 13; (with_reducible refine (TR.out _ hm.x).mono ?_); rintro e_ w ⟨rfl, hx_⟩; replace hm := hm.ext hx_; clear hx_) | ((with_reducible show wpList _ _ _ (Oper.mk _ (Op.load _ _) _ _ _ _ :: _) _ _); first | ((with_reducible apply wq_ldW hm); (exact rfl); infer_instance; (exact rfl); (focus ((repeat (first | exact .hd | assumption | apply Has.tl)); done)); (focus (first | rfl | omega | (simp; done) | (simp; omega) | fail))) | fail) | ((first | ((with_reducible show wpList _ _ _ (Oper.mk _ (Op.box _ _) _ _ _ _ :: _) _ _); first | ((with_reducible apply wq_boxN hm); (exact rfl); (exact rfl)) | fail)); clear hm; (first | (have hx_ := g1; clear hx_; (first | (have hx_ := g2; clear hx_; (first | (have hx_ := g3; clear hx_; intro gx_) | intro g3)) | intro g2)) | intro g1); intro w hm) | fail)
    go_ret
    exact ⟨rfl, hm.x⟩

end Go.Proofs.YtaijfigohlkccaaGreatDoor
