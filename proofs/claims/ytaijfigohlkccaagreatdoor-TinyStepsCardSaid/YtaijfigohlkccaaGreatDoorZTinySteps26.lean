/-
  Layer 19: the statement on steps and flips, held against the document. Conditions: the program's variables lie as its text lays them.
-/
import Derived.Test.YtaijfigohlkccaaGreatDoorZTinySteps18
import Derived.Test.YtaijfigohlkccaaGreatDoorZTinySteps25
import Derived.Test.YtaijfigohlkccaaGreatDoorZTinySteps24
import Derived.Test.YtaijfigohlkccaaGreatDoorZTinySteps19
namespace Go.Proofs.YtaijfigohlkccaaGreatDoor
open Go Go.RowKit
set_option maxRecDepth 100000
set_option linter.unusedVariables false
set_option linter.unusedSimpArgs false

/-- The cells of a key, a hash, two numbers and a half. (Behind a name: not to be laid open by the walk.) -/
def stepC (p : Option Addr) (n c : Nat) (H : List Byte) (I J : Int) (r : Option Addr) (m f : Nat) : List Value := [.slice p n c] ++ (H.map v8 ++ ([.int .i64 I] ++ ([.int .i64 J] ++ [.slice r m f])))
section
variable {p r : Option Addr} {n c m f : Nat} {H : List Byte} {I J : Int}
theorem stepC_key : (stepC p n c H I J r m f)[0]? = some (.slice p n c) := rfl
theorem stepC_h (h : H.length = 16) : ((stepC p n c H I J r m f).drop 1).take 16 = H.map v8 := by
  show (H.map v8 ++ _).take 16 = _
  rw [List.take_append_of_le_length (by simp [h]), List.take_of_length_le (by simp [h])]
theorem stepC_i (h : H.length = 16) : (stepC p n c H I J r m f)[17]? = some (.int .i64 I) := by
  unfold stepC
  rw [List.getElem?_append_right (by simp), List.getElem?_append_right (by simp [h])]
  simp [h]
theorem stepC_j (h : H.length = 16) : (stepC p n c H I J r m f)[18]? = some (.int .i64 J) := by
  unfold stepC
  rw [List.getElem?_append_right (by simp), List.getElem?_append_right (by simp [h])]
  simp [h]
theorem stepC_l (h : H.length = 16) : (stepC p n c H I J r m f)[19]? = some (.slice r m f) := by
  unfold stepC
  rw [List.getElem?_append_right (by simp), List.getElem?_append_right (by simp [h])]
  simp [h]
theorem stepC_length (h : H.length = 16) : (stepC p n c H I J r m f).length = 20 := by simp [stepC, h]
end
theorem flip7 (g : Nat) (F : Int → Int → List Byte → List Byte) (hF : ∀ j m x, (F j m x).length = 16) (h : List Byte) (hh : h.length = 16) (l : List Byte) (p : Option Addr) (c : Nat) (hl : l.length ≤ 1000) (w0 : World) (hr : RdB w0 p l)
    (CE : ∀ wx, Ext w0 wx → ∀ (j m : Int) (x : List Byte), x.length = 16 → j ≤ 9223372036854775807 → m ≤ 9223372036854775807 → Gives Tryz.prog 34 #[.pointer (some ⟨g, 0, none⟩), .int .i64 j, .int .i64 m, A8 x] wx (A8 (F j m x))) :
    GivesR Tryz.prog 23 #[.pointer (some ⟨g, 0, none⟩), A8 h, .slice p l.length c] w0 (BytesS (flipL F h l)) := by
  refine (flip_sl g F hF h hh l p c hl w0 hr CE).mono ?_
  rintro e w' ⟨v, M, rfl, hs, hm⟩
  obtain ⟨q, d, rfl⟩ := hs.form
  obtain ⟨h1, h2, h3⟩ := slo_bytes (R := []) hs (by simpa using hm)
  exact ⟨_, rfl, ⟨q, d, by rw [h2], by rw [← h2]; exact h3, h1⟩, hm.x⟩
theorem rflip7 (R : List Byte) (hR : R.length = 560) (F : Int → Int → List Byte → List Byte) (hF : ∀ j m x, (F j m x).length = 16) (h : List Byte) (hh : h.length = 16) (l : List Byte) (p : Option Addr) (c : Nat) (hl : l.length ≤ 1000) (w0 : World) (hr : RdB w0 p l)
    (CE : ∀ wx, Ext w0 wx → ∀ (j m : Int) (x : List Byte), x.length = 16 → -1 ≤ j → j ≤ 9223372036854775807 → 0 ≤ m → m ≤ 9223372036854775807 → Gives Tryz.prog 44 #[A8 R, .int .i64 j, .int .i64 m, A8 x] wx (A8 (F j m x))) :
    GivesR Tryz.prog 24 #[A8 R, A8 h, .slice p l.length c] w0 (BytesS (flipL F h l)) := by
  refine (rr_flip R hR F hF h hh l p c hl w0 hr CE).mono ?_
  rintro e w' ⟨v, M, rfl, hs, hm⟩
  obtain ⟨q, d, rfl⟩ := hs.form
  obtain ⟨h1, h2, h3⟩ := slo_bytes (R := []) hs (by simpa using hm)
  exact ⟨_, rfl, ⟨q, d, by rw [h2], by rw [← h2]; exact h3, h1⟩, hm.x⟩
theorem rstep7 (R : List Byte) (hR : R.length = 560) (F : Int → Int → List Byte → List Byte) (hF : ∀ j m x, (F j m x).length = 16) (h : List Byte) (hh : h.length = 16) (i : Int) (hi : 0 ≤ i) (hi2 : i ≤ 9223372036854775807) (j : Nat) (hj : j ≤ 9223372036854775807) (l : List Byte) (p : Option Addr) (c : Nat) (hl : l.length ≤ 31) (w0 : World) (hr : RdB w0 p l)
    (CE : ∀ wx, Ext w0 wx → ∀ (j m : Int) (x : List Byte), x.length = 16 → -1 ≤ j → j ≤ 9223372036854775807 → 0 ≤ m → m ≤ 9223372036854775807 → Gives Tryz.prog 44 #[A8 R, .int .i64 j, .int .i64 m, A8 x] wx (A8 (F j m x))) :
    GivesR Tryz.prog 25 #[A8 R, A8 h, .int .i64 i, .int .i64 (j : Int), .slice p l.length c] w0 (BytesS (stepL F h i j l)) := by
  refine (rr_step R hR F hF h hh i hi hi2 j hj l p c hl w0 hr CE).mono ?_
  rintro e w' ⟨q, d, rfl, h1, h2, h3⟩
  exact ⟨_, rfl, ⟨q, d, by rw [stepL_length], by rw [stepL_length]; exact h1, h2⟩, h3⟩
theorem step_bad (g : Nat) (h : List Byte) (i j : Int) (p : Option Addr) (n c : Nat) (w0 : World) (hb : i < 0 ∨ j < 0 ∨ 31 < n) : Gives Tryz.prog 22 #[.pointer (some ⟨g, 0, none⟩), A8 h, .int .i64 i, .int .i64 j, .slice p n c] w0 (.slice none 0 0) := by
  unfold Gives
  have hm := Own.start w0
  by_cases h3 : (31 : Int) < (n : Int)
  · have a3 : decide ((31 : Int) < (n : Int)) = true := decide_eq_true h3
    go_enter Tryz.func22, Tryz.ntmps22
    go_wp2_with (first | ((first | ((with_reducible show wpList _ _ _ (Oper.mk _ (Op.box _ _) _ _ _ _ :: _) _ _); first | ((with_reducible apply wq_boxN hm); (exact rfl); (exact rfl)) | fail)); clear hm; (first | (have hx_ := g1; clear hx_; (first | (have hx_ := g2; clear hx_; (first | (have hx_ := g3; clear hx_; (first | (have hx_ := g4; clear hx_; (first | (have hx_ := g5; clear hx_; (first | (have hx_ := g6; clear hx_; (first | (have hx_ := g7; clear hx_; (first | (have hx_ := g8; clear hx_; (first | (have hx_ := g9; clear hx_; intro g10) | intro g9)) | intro g8)) | intro g7)) | intro g6)) | intro g5)) | intro g4)) | intro g3)) | intro g2)) | intro g1); intro w hm) | fail)
    go_ret
    exact ⟨rfl, hm.x⟩
  have a3 : decide ((31 : Int) < (n : Int)) = false := decide_eq_false h3
  by_cases h1 : i < 0
  · have a1 : decide (i < 0) = true := decide_eq_true h1
    go_enter Tryz.func22, Tryz.ntmps22
    go_wp2_with (first | ((first | ((with_reducible show wpList _ _ _ (Oper.mk _ (Op.box _ _) _ _ _ _ :: _) _ _); first | ((with_reducible apply wq_boxN hm); (exact rfl); (exact rfl)) | fail)); clear hm; (first | (have hx_ := g1; clear hx_; (first | (have hx_ := g2; clear hx_; (first | (have hx_ := g3; clear hx_; (first | (have hx_ := g4; clear hx_; (first | (have hx_ := g5; clear hx_; (first | (have hx_ := g6; clear hx_; (first | (have hx_ := g7; clear hx_; (first | (have hx_ := g8; clear hx_; (first | (have hx_ := g9; clear hx_; intro g10) | intro g9)) | intro g8)) | intro g7)) | intro g6)) | intro g5)) | intro g4)) | intro g3)) | intro g2)) | intro g1); intro w hm) | fail)
    go_ret
    exact ⟨rfl, hm.x⟩
  have a1 : decide (i < 0) = false := decide_eq_false h1
  have h2 : j < 0 := by omega
  have a2 : decide (j < 0) = true := decide_eq_true h2
  clear hb
  go_enter Tryz.func22, Tryz.ntmps22
  go_wp2_with (first | ((first | ((with_reducible show wpList _ _ _ (Oper.mk _ (Op.box _ _) _ _ _ _ :: _) _ _); first | ((with_reducible apply wq_boxN hm); (exact rfl); (exact rfl)) | fail)); clear hm; (first | (have hx_ := g1; clear hx_; (first | (have hx_ := g2; clear hx_; (first | (have hx_ := g3; clear hx_; (first | (have hx_ := g4; clear hx_; (first | (have hx_ := g5; clear hx_; (first | (have hx_ := g6; clear hx_; (first | (have hx_ := g7; clear hx_; (first | (have hx_ := g8; clear hx_; (first | (have hx_ := g9; clear hx_; intro g10) | intro g9)) | intro g8)) | intro g7)) | intro g6)) | intro g5)) | intro g4)) | intro g3)) | intro g2)) | intro g1); intro w hm) | fail)
  go_ret
  exact ⟨rfl, hm.x⟩

set_option maxHeartbeats 16000000 in
theorem tsteps_walk (key : List Byte) (p : Option Addr) (c : Nat) (H : List Byte) (I J : Int) (l : List Byte) (r : Option Addr) (f : Nat) (w0 : World) (hk : RdB w0 p key) (hkc : key.length ≤ c) (hkm : key.length ≤ maxLen) (lH : H.length = 16) (hI0 : -9223372036854775808 ≤ I) (hI1 : I ≤ 9223372036854775807) (hJ0 : -9223372036854775808 ≤ J) (hJ1 : J ≤ 9223372036854775807) (hr : RdB w0 r l) (hrf : l.length ≤ f) (hrm : l.length ≤ maxLen) (hc : Coef w0 ∧ CoefB w0) :
    Calls Tryz.prog 5 #[.agg (stepC p key.length c H I J r l.length f).toArray] w0 fun e w' => e = .returned (.bool true) ∧ Ext w0 w' := by
  have hm := Own.start w0
  have HC := Lib.hid hc.1
  have HB := Lib.hid hc.2
  have HK := Lib.hid hk
  have HM := Lib.hid hr
  have F0 := Lib.hid (stepC_key (p := p) (n := key.length) (c := c) (H := H) (I := I) (J := J) (r := r) (m := l.length) (f := f))
  have F1 := Lib.hid (stepC_h (p := p) (n := key.length) (c := c) (I := I) (J := J) (r := r) (m := l.length) (f := f) lH)
  have F2 := Lib.hid (stepC_i (p := p) (n := key.length) (c := c) (I := I) (J := J) (r := r) (m := l.length) (f := f) lH)
  have F3 := Lib.hid (stepC_j (p := p) (n := key.length) (c := c) (I := I) (J := J) (r := r) (m := l.length) (f := f) lH)
  have F4 := Lib.hid (stepC_l (p := p) (n := key.length) (c := c) (I := I) (J := J) (r := r) (m := l.length) (f := f) lH)
  have lS := stepC_length (p := p) (n := key.length) (c := c) (I := I) (J := J) (r := r) (m := l.length) (f := f) lH
  have CR := Lib.hid fun w => right15_any key p c w
  have KO := Lib.hid fun (h : rightL key = true) (w : World) (h1 : RdB w p key) (h2 : Coef w) (h3 : CoefB w) => keys19_ok key p c w h hkc h1 h2 h3
  have AW := Lib.hid fun (w : World) (h : Ext w0 w) => awake19 w ⟨hc.1.ext h, hc.2.ext h⟩
  have OKK := Lib.hid (keyOf_ok key)
  have RE := Lib.hid fun (h : rightL key = true) (w : World) (h1 : RdB w p key) => rext_any key p c w (by simp [rightL] at h; omega) (by simp [rightL] at h; omega) hkc h1
  have MK := Lib.hid fun wx => rmake_any wx
  generalize stepC p key.length c H I J r l.length f = S at *
  generalize keyOf key = K at *
  have lHv : (H.map v8).length = 16 := by simpa using lH
  clear hc hk hr
  by_cases hR : rightL key = true
  · rw [hR] at CR
    by_cases hI : 4096 < I
    · have b1 : decide (4096 < I) = true := decide_eq_true hI
      go_enter Tryz.func5, Tryz.ntmps5
      go_wp2_with (first | ((with_reducible apply wq_ld1 hm); (exact rfl); infer_instance; (exact rfl); (focus ((repeat (first | exact .hd | assumption | apply Has.tl)); done)); (exact F0.out)) | ((with_reducible apply wq_ld1 hm); (exact rfl); infer_instance; (exact rfl); (focus ((repeat (first | exact .hd | assumption | apply Has.tl)); done)); (exact F2.out)) | (go_at_call 21; (with_reducible refine (CR.out _).mono ?_); rintro e_ w_ ⟨rfl, rfl⟩) | ((first | ((with_reducible show wpList _ _ _ (Oper.mk _ (Op.box _ _) _ _ _ _ :: _) _ _); first | ((with_reducible apply wq_boxN hm); (exact rfl); (exact rfl)) | fail)); clear hm; (first | (have hx_ := g1; clear hx_; (first | (have hx_ := g2; clear hx_; (first | (have hx_ := g3; clear hx_; (first | (have hx_ := g4; clear hx_; (first | (have hx_ := g5; clear hx_; (first | (have hx_ := g6; clear hx_; (first | (have hx_ := g7; clear hx_; (first | (have hx_ := g8; clear hx_; (first | (have hx_ := g9; clear hx_; intro g10) | intro g9)) | intro g8)) | intro g7)) | intro g6)) | intro g5)) | intro g4)) | intro g3)) | intro g2)) | intro g1); intro w hm) | fail)
      go_ret
      exact ⟨rfl, hm.x⟩
    have b1 : decide (4096 < I) = false := decide_eq_false hI
    by_cases hl : 60 < l.length
    · have b2 : decide ((60 : Int) < (l.length : Int)) = true := decide_eq_true (by omega)
      have b3 : (60 : Int) < (l.length : Int) := by omega
      go_enter Tryz.func5, Tryz.ntmps5
      go_wp2_with (first | ((with_reducible apply wq_ld1 hm); (exact rfl); infer_instance; (exact rfl); (focus ((repeat (first | exact .hd | assumption | apply Has.tl)); done)); (exact F0.out)) | ((with_reducible apply wq_ld1 hm); (exact rfl); infer_instance; (exact rfl); (focus ((repeat (first | exact .hd | assumption | apply Has.tl)); done)); (exact F2.out)) | ((with_reducible apply wq_ld1 hm); (exact rfl); infer_instance; (exact rfl); (focus ((repeat (first | exact .hd | assumption | apply Has.tl)); done)); (exact F4.out)) | (go_at_call 21; (with_reducible refine (CR.out _).mono ?_); rintro e_ w_ ⟨rfl, rfl⟩) | ((first | ((with_reducible show wpList _ _ _ (Oper.mk _ (Op.box _ _) _ _ _ _ :: _) _ _); first | ((with_reducible apply wq_boxN hm); (exact rfl); (exact rfl)) | fail)); clear hm; (first | (have hx_ := g1; clear hx_; (first | (have hx_ := g2; clear hx_; (first | (have hx_ := g3; clear hx_; (first | (have hx_ := g4; clear hx_; (first | (have hx_ := g5; clear hx_; (first | (have hx_ := g6; clear hx_; (first | (have hx_ := g7; clear hx_; (first | (have hx_ := g8; clear hx_; (first | (have hx_ := g9; clear hx_; intro g10) | intro g9)) | intro g8)) | intro g7)) | intro g6)) | intro g5)) | intro g4)) | intro g3)) | intro g2)) | intro g1); intro w hm) | fail)
      go_ret
      exact ⟨rfl, hm.x⟩
    have b2 : decide ((60 : Int) < (l.length : Int)) = false := decide_eq_false (by omega)
    have b3 : ¬ (60 : Int) < (l.length : Int) := by omega
    have RX := Lib.hid (RE.out hR)
    have lR := rkL_length OKK.out
    obtain ⟨D, hD⟩ : ∃ D, D = flipL (eZ K) H l := ⟨_, rfl⟩
    have P1 := Lib.hid fun (w : World) (g : Nat) (h : KeyR w g K) (hr : RdB w r l) => show GivesR Tryz.prog 23 #[.pointer (some ⟨g, 0, none⟩), A8 H, .slice r l.length f] w (BytesS D) from hD ▸ flip7 g (eZ K) (eZ_length K) H lH l r f (by omega) w hr (fun wx hx j m x e1 e2 e3 => (h.ext hx).e j m x e1 e2 e3)
    have P2 := Lib.hid fun (w : World) (hr : RdB w r l) => show GivesR Tryz.prog 24 #[A8 (rkL K), A8 H, .slice r l.length f] w (BytesS D) from hD ▸ rflip7 (rkL K) lR (eZ K) (eZ_length K) H lH l r f (by omega) w hr (fun wx _ j m x e1 e2 e3 e4 e5 => re_any K j m x e1 wx OKK.out e2 e4 e3 e5)
    clear hD
    by_cases hbad : I < 0 ∨ J < 0 ∨ 31 < l.length
    · have SB := Lib.hid fun (w : World) (g : Nat) => step_bad g H I J r l.length f w hbad
      generalize rkL K = R at *
      generalize tabs = T at *
      have hcase : (decide (I < 0) = true) ∨ (decide (I < 0) = false ∧ decide (J < 0) = true) ∨ (decide (I < 0) = false ∧ decide (J < 0) = false ∧ decide ((31 : Int) < (l.length : Int)) = true) := by
        by_cases h1 : I < 0
        · exact .inl (decide_eq_true h1)
        · by_cases h2 : J < 0
          · exact .inr (.inl ⟨decide_eq_false h1, decide_eq_true h2⟩)
          · exact .inr (.inr ⟨decide_eq_false h1, decide_eq_false h2, decide_eq_true (by omega)⟩)
      rcases hcase with z1 | ⟨z1, z2⟩ | ⟨z1, z2, z3⟩
      · have y1 : I < 0 := of_decide_eq_true z1
        clear hbad
        go_enter Tryz.func5, Tryz.ntmps5
        go_wp2_with (first | ((with_reducible apply wq_ld1 hm); (exact rfl); infer_instance; (exact rfl); (focus ((repeat (first | exact .hd | assumption | apply Has.tl)); done)); (exact F0.out)) | ((with_reducible apply wq_ld1 hm); (exact rfl); infer_instance; (exact rfl); (focus ((repeat (first | exact .hd | assumption | apply Has.tl)); done)); (exact F2.out)) | ((with_reducible apply wq_ld1 hm); (exact rfl); infer_instance; (exact rfl); (focus ((repeat (first | exact .hd | assumption | apply Has.tl)); done)); (exact F4.out)) | (go_at_call 21; (with_reducible refine (CR.out _).mono ?_); rintro e_ w_ ⟨rfl, rfl⟩) | ((first | ((with_reducible show wpList _ _ _ (Oper.mk _ (Op.box _ _) _ _ _ _ :: _) _ _); first | ((with_reducible apply wq_boxN hm); (exact rfl); (exact rfl)) | fail)); clear hm; (first | (have hx_ := g1; clear hx_; (first | (have hx_ := g2; clear hx_; (first | (have hx_ := g3; clear hx_; (first | (have hx_ := g4; clear hx_; (first | (have hx_ := g5; clear hx_; (first | (have hx_ := g6; clear hx_; (first | (have hx_ := g7; clear hx_; (first | (have hx_ := g8; clear hx_; (first | (have hx_ := g9; clear hx_; intro g10) | intro g9)) | intro g8)) | intro g7)) | intro g6)) | intro g5)) | intro g4)) | intro g3)) | intro g2)) | intro g1); intro w hm) | fail)
        refine (KO.out hR _ (HK.out.ext hm.x) (HC.out.ext hm.x) (HB.out.ext hm.x)).mono ?_
        rintro e w ⟨g, gt, gb, rfl, hg_, hgt_, hne_, hrk_, hrt_, hx_⟩
        replace hm := hm.push2 hx_ hgt_ hrt_ hg_ hrk_ hne_
        clear hx_ hg_ hgt_ hne_ hrk_ hrt_
        go_wp2_with (first | ((with_reducible apply wq_ld1 hm); (exact rfl); infer_instance; (exact rfl); (focus ((repeat (first | exact .hd | assumption | apply Has.tl)); done)); (exact F2.out)) | ((with_reducible apply wq_ld1 hm); (exact rfl); infer_instance; (exact rfl); (focus ((repeat (first | exact .hd | assumption | apply Has.tl)); done)); (exact F3.out)) | ((with_reducible apply wq_ld1 hm); (exact rfl); infer_instance; (exact rfl); (focus ((repeat (first | exact .hd | assumption | apply Has.tl)); done)); (exact F4.out)) | ((with_reducible apply wq_ldN hm); (exact rfl); infer_instance; (exact rfl); (focus ((repeat (first | exact .hd | assumption | apply Has.tl)); done)); (exact F1.out); (exact lHv)) | (go_at_call 22; (with_reducible refine (step_nil _ _ _ _ _).mono ?_); rintro e_ w ⟨rfl, hx_⟩; replace hm := hm.ext hx_; clear hx_) | (go_at_call 23; (with_reducible refine (flip_nil _ _ _).mono ?_); rintro e_ w ⟨rfl, hx_⟩; replace hm := hm.ext hx_; clear hx_) | fail)
        have hx0 := hm.x
        have c1 := fun wx (hwx : Ext w wx) => MK.out wx
        have c2 := fun wx (hwx : Ext _ wx) => RX.out wx (HK.out.ext (hx0.trans hwx))
        refine region_new 5 (fun w' => Ext _ w') 118 (by kernel_rfl) (by kernel_rfl) rfl (fun _ _ h k => h.trans k) (drew_ext _) ?_
        simp only [List.take_succ_cons, List.take_zero, List.drop_succ_cons, List.drop_zero, List.map_cons, List.map_nil]
        repeat (first
            | (apply walk_some (NewS (w.heap.size) 39 ((zer 560).map v8)) 5 (NewS.stable _ _ _) rfl rfl rfl rfl
               · (intro wx hwx; go_simp; exact gives_new (cs := (zer 560).map v8) hwx.size))
            | (apply walk_is rfl rfl rfl; (intro wx hwx; (with_reducible apply gq_ld1 (hm.ext hwx)); infer_instance; (exact rfl); (focus ((repeat (first | exact .hd | assumption | apply Has.tl)); done)); (exact F0.out)); (simp only [Act.put, List.setIfInBounds_toArray, List.set_cons_succ, List.set_cons_zero]; rfl))
            | (apply walk_is rfl rfl rfl
               · (intro wx hwx; first | ((with_reducible show gives _ _ _ (Sem.run _ (execOp _ (Oper.mk _ (Op.load _ _) _ _ _ _)) _)); first | ((with_reducible apply gq_ldv (hm.ext hwx)); infer_instance; (exact rfl); (focus ((repeat (first | exact .hd | assumption | apply Has.tl)); done)); (focus (first | omega | (simp; omega) | (refine Nat.lt_of_lt_of_le (BitVec.isLt _) ?_; first | omega | (simp; done) | (simp; omega) | fail) | fail))) | ((with_reducible apply gq_ldW (hm.ext hwx)); infer_instance; (exact rfl); (focus ((repeat (first | exact .hd | assumption | apply Has.tl)); done)); (focus (first | rfl | omega | (simp; done) | (simp; omega) | fail))) | ((with_reducible apply gq_ld1 (hm.ext hwx)); infer_instance; (exact rfl); (focus ((repeat (first | exact .hd | assumption | apply Has.tl)); done)); (exact rfl)) | fail) | (go_simp; (try go_bits); first | exact gives_same | exact gives_skip | with_reducible exact gives_call (c1 wx hwx) | with_reducible exact gives_call (c2 wx hwx)))
               · (simp only [Act.put, List.setIfInBounds_toArray, List.set_cons_succ, List.set_cons_zero]; rfl))
            | (apply walk_not rfl rfl rfl
               · (simp only [Act.put, List.setIfInBounds_toArray, List.set_cons_succ, List.set_cons_zero]; rfl)))
        intro wz hwz
        simp only [List.zip_cons_cons, List.zip_nil_right]
        repeat rw [fin_is]
        rw [fin_cons]; intro x5 hx5
        repeat rw [fin_is]
        rw [fin_nil]; intro hap
        simp only [Act.put, List.setIfInBounds_toArray, List.set_cons_succ, List.set_cons_zero] at hap ⊢
        obtain ⟨g5_, rfl, hg5, hr5⟩ := hx5
        replace hm := hm.push hwz hg5 hr5
        clear hap hr5
        clear c1 c2 hx0
        have lz5 : ((zer (n := 8) 560).map v8).length = 560 := by rw [List.length_map]; exact zer_length
        have lR5 : (R.map v8).length = 560 := by rw [List.length_map]; exact lR
        go_wp2_with (first | ((with_reducible show wpList _ _ _ (Oper.mk _ (Op.store 39 _ _) _ _ _ _ :: _) _ _); (with_reducible apply wq_stW (cs' := R.map v8) hm); (exact rfl); infer_instance; (exact rfl); (exact rfl); (focus ((repeat (first | exact .hd | apply Swap.tl)); done)); (exact lR5); (exact lz5); (exact one_map _); clear hm; intro w hm) | ((with_reducible apply wq_ld1 hm); (exact rfl); infer_instance; (exact rfl); (focus ((repeat (first | exact .hd | assumption | apply Has.tl)); done)); (exact F2.out)) | ((with_reducible apply wq_ld1 hm); (exact rfl); infer_instance; (exact rfl); (focus ((repeat (first | exact .hd | assumption | apply Has.tl)); done)); (exact F3.out)) | ((with_reducible apply wq_ld1 hm); (exact rfl); infer_instance; (exact rfl); (focus ((repeat (first | exact .hd | assumption | apply Has.tl)); done)); (exact F4.out)) | ((with_reducible apply wq_ldN hm); (exact rfl); infer_instance; (exact rfl); (focus ((repeat (first | exact .hd | assumption | apply Has.tl)); done)); (exact F1.out); (exact lHv)) | fail)
        refine (SB.out _ g).mono ?_
        rintro e w ⟨rfl, hx_⟩
        replace hm := hm.ext hx_
        clear hx_
        go_wp2_with fail
        have hx0 := hm.x
        have kr := fun wx (hwx : Ext _ wx) => KeyR.own (g := g) (gt := gt) (gb := gb) OKK.out (hm.ext hwx) (by repeat (first | exact Has.hd | assumption | apply Has.tl)) (by repeat (first | exact Has.hd | assumption | apply Has.tl))
        have c1 := fun wx (hwx : Ext _ wx) => P1.out wx g (kr wx hwx) (HM.out.ext (hx0.trans hwx))
        have c2 := fun wx (hwx : Ext _ wx) => P2.out wx (HM.out.ext (hx0.trans hwx))
        refine region_at 15 (fun w' => Ext _ w') 118 (by kernel_rfl) (by kernel_rfl) rfl (fun _ _ h k => h.trans k) (drew_ext _) ?_
        simp only [List.take_succ_cons, List.take_zero, List.drop_succ_cons, List.drop_zero, List.map_cons, List.map_nil]
        repeat (first
            | (apply walk_is rfl rfl rfl; (intro wx hwx; (with_reducible apply gq_ldN (hm.ext hwx)); infer_instance; (exact rfl); (focus ((repeat (first | exact .hd | assumption | apply Has.tl)); done)); (exact F1.out); (exact lHv)); (simp only [Act.put, List.setIfInBounds_toArray, List.set_cons_succ, List.set_cons_zero]; rfl))
            | (apply walk_is rfl rfl rfl; (intro wx hwx; (with_reducible apply gq_ld1 (hm.ext hwx)); infer_instance; (exact rfl); (focus ((repeat (first | exact .hd | assumption | apply Has.tl)); done)); (exact F4.out)); (simp only [Act.put, List.setIfInBounds_toArray, List.set_cons_succ, List.set_cons_zero]; rfl))
            | (apply walk_some (BytesS D) 71 (BytesS.stable _) rfl rfl rfl rfl
               · (intro wx hwx; go_simp; with_reducible exact gives_callR (c1 wx hwx)))
            | (apply walk_from (T := [(71, BytesS (D))]) rfl rfl
               · (intro wx hwx; simp only [withS]; (rintro x ⟨p', c', rfl, hlc, hb'⟩; have hcv := conv_str p' (D) c' wx hb'); refine ⟨rfl, ?_⟩; go_simp; exact gives_same)
               · (simp only [Act.put, List.setIfInBounds_toArray, List.set_cons_succ, List.set_cons_zero]; rfl))
            | (apply walk_some (BytesS D) 78 (BytesS.stable _) rfl rfl rfl rfl
               · (intro wx hwx; go_simp; with_reducible exact gives_callR (c2 wx hwx)))
            | (apply walk_from (T := [(78, BytesS (D))]) rfl rfl
               · (intro wx hwx; simp only [withS]; (rintro x ⟨p', c', rfl, hlc, hb'⟩; have hcv := conv_str p' (D) c' wx hb'); refine ⟨rfl, ?_⟩; go_simp; exact gives_same)
               · (simp only [Act.put, List.setIfInBounds_toArray, List.set_cons_succ, List.set_cons_zero]; rfl))
            | (apply walk_is rfl rfl rfl
               · (intro wx hwx; first | ((with_reducible show gives _ _ _ (Sem.run _ (execOp _ (Oper.mk _ (Op.load _ _) _ _ _ _)) _)); first | ((with_reducible apply gq_ldv (hm.ext hwx)); infer_instance; (exact rfl); (focus ((repeat (first | exact .hd | assumption | apply Has.tl)); done)); (focus (first | omega | (simp; omega) | (refine Nat.lt_of_lt_of_le (BitVec.isLt _) ?_; first | omega | (simp; done) | (simp; omega) | fail) | fail))) | ((with_reducible apply gq_ldW (hm.ext hwx)); infer_instance; (exact rfl); (focus ((repeat (first | exact .hd | assumption | apply Has.tl)); done)); (focus (first | rfl | omega | (simp; done) | (simp; omega) | fail))) | ((with_reducible apply gq_ld1 (hm.ext hwx)); infer_instance; (exact rfl); (focus ((repeat (first | exact .hd | assumption | apply Has.tl)); done)); (exact rfl)) | fail) | (go_simp; (try go_bits); first | exact gives_same | exact gives_skip))
               · (simp only [Act.put, List.setIfInBounds_toArray, List.set_cons_succ, List.set_cons_zero]; rfl))
            | (apply walk_not rfl rfl rfl
               · (simp only [Act.put, List.setIfInBounds_toArray, List.set_cons_succ, List.set_cons_zero]; rfl)))
        intro wz hwz
        simp only [List.zip_cons_cons, List.zip_nil_right]
        repeat (first | rw [fin_is] | (rw [fin_cons]; intro _ _))
        rw [fin_nil]
        try (replace hm := hm.ext hwz)
        simp only [Act.put, List.setIfInBounds_toArray, List.set_cons_succ, List.set_cons_zero]
        clear c1 c2 kr hx0
        go_wp2_with (first | ((with_reducible apply wq_ld1 hm); (exact rfl); infer_instance; (exact rfl); (focus ((repeat (first | exact .hd | assumption | apply Has.tl)); done)); (exact F2.out)) | (go_at_call 18; (with_reducible refine (AW.out _ hm.x).mono ?_); rintro e_ w ⟨rfl, hx_⟩; replace hm := hm.ext hx_; clear hx_) | fail)
        go_ret
        exact ⟨rfl, hm.x⟩
      · have y1 : ¬ I < 0 := of_decide_eq_false z1
        have y2 : J < 0 := of_decide_eq_true z2
        clear hbad
        go_enter Tryz.func5, Tryz.ntmps5
        go_wp2_with (first | ((with_reducible apply wq_ld1 hm); (exact rfl); infer_instance; (exact rfl); (focus ((repeat (first | exact .hd | assumption | apply Has.tl)); done)); (exact F0.out)) | ((with_reducible apply wq_ld1 hm); (exact rfl); infer_instance; (exact rfl); (focus ((repeat (first | exact .hd | assumption | apply Has.tl)); done)); (exact F2.out)) | ((with_reducible apply wq_ld1 hm); (exact rfl); infer_instance; (exact rfl); (focus ((repeat (first | exact .hd | assumption | apply Has.tl)); done)); (exact F4.out)) | (go_at_call 21; (with_reducible refine (CR.out _).mono ?_); rintro e_ w_ ⟨rfl, rfl⟩) | ((first | ((with_reducible show wpList _ _ _ (Oper.mk _ (Op.box _ _) _ _ _ _ :: _) _ _); first | ((with_reducible apply wq_boxN hm); (exact rfl); (exact rfl)) | fail)); clear hm; (first | (have hx_ := g1; clear hx_; (first | (have hx_ := g2; clear hx_; (first | (have hx_ := g3; clear hx_; (first | (have hx_ := g4; clear hx_; (first | (have hx_ := g5; clear hx_; (first | (have hx_ := g6; clear hx_; (first | (have hx_ := g7; clear hx_; (first | (have hx_ := g8; clear hx_; (first | (have hx_ := g9; clear hx_; intro g10) | intro g9)) | intro g8)) | intro g7)) | intro g6)) | intro g5)) | intro g4)) | intro g3)) | intro g2)) | intro g1); intro w hm) | fail)
        refine (KO.out hR _ (HK.out.ext hm.x) (HC.out.ext hm.x) (HB.out.ext hm.x)).mono ?_
        rintro e w ⟨g, gt, gb, rfl, hg_, hgt_, hne_, hrk_, hrt_, hx_⟩
        replace hm := hm.push2 hx_ hgt_ hrt_ hg_ hrk_ hne_
        clear hx_ hg_ hgt_ hne_ hrk_ hrt_
        go_wp2_with (first | ((with_reducible apply wq_ld1 hm); (exact rfl); infer_instance; (exact rfl); (focus ((repeat (first | exact .hd | assumption | apply Has.tl)); done)); (exact F2.out)) | ((with_reducible apply wq_ld1 hm); (exact rfl); infer_instance; (exact rfl); (focus ((repeat (first | exact .hd | assumption | apply Has.tl)); done)); (exact F3.out)) | ((with_reducible apply wq_ld1 hm); (exact rfl); infer_instance; (exact rfl); (focus ((repeat (first | exact .hd | assumption | apply Has.tl)); done)); (exact F4.out)) | ((with_reducible apply wq_ldN hm); (exact rfl); infer_instance; (exact rfl); (focus ((repeat (first | exact .hd | assumption | apply Has.tl)); done)); (exact F1.out); (exact lHv)) | (go_at_call 22; (with_reducible refine (step_nil _ _ _ _ _).mono ?_); rintro e_ w ⟨rfl, hx_⟩; replace hm := hm.ext hx_; clear hx_) | (go_at_call 23; (with_reducible refine (flip_nil _ _ _).mono ?_); rintro e_ w ⟨rfl, hx_⟩; replace hm := hm.ext hx_; clear hx_) | fail)
        have hx0 := hm.x
        have c1 := fun wx (hwx : Ext w wx) => MK.out wx
        have c2 := fun wx (hwx : Ext _ wx) => RX.out wx (HK.out.ext (hx0.trans hwx))
        refine region_new 5 (fun w' => Ext _ w') 118 (by kernel_rfl) (by kernel_rfl) rfl (fun _ _ h k => h.trans k) (drew_ext _) ?_
        simp only [List.take_succ_cons, List.take_zero, List.drop_succ_cons, List.drop_zero, List.map_cons, List.map_nil]
        repeat (first
            | (apply walk_some (NewS (w.heap.size) 39 ((zer 560).map v8)) 5 (NewS.stable _ _ _) rfl rfl rfl rfl
               · (intro wx hwx; go_simp; exact gives_new (cs := (zer 560).map v8) hwx.size))
            | (apply walk_is rfl rfl rfl; (intro wx hwx; (with_reducible apply gq_ld1 (hm.ext hwx)); infer_instance; (exact rfl); (focus ((repeat (first | exact .hd | assumption | apply Has.tl)); done)); (exact F0.out)); (simp only [Act.put, List.setIfInBounds_toArray, List.set_cons_succ, List.set_cons_zero]; rfl))
            | (apply walk_is rfl rfl rfl
               · (intro wx hwx; first | ((with_reducible show gives _ _ _ (Sem.run _ (execOp _ (Oper.mk _ (Op.load _ _) _ _ _ _)) _)); first | ((with_reducible apply gq_ldv (hm.ext hwx)); infer_instance; (exact rfl); (focus ((repeat (first | exact .hd | assumption | apply Has.tl)); done)); (focus (first | omega | (simp; omega) | (refine Nat.lt_of_lt_of_le (BitVec.isLt _) ?_; first | omega | (simp; done) | (simp; omega) | fail) | fail))) | ((with_reducible apply gq_ldW (hm.ext hwx)); infer_instance; (exact rfl); (focus ((repeat (first | exact .hd | assumption | apply Has.tl)); done)); (focus (first | rfl | omega | (simp; done) | (simp; omega) | fail))) | ((with_reducible apply gq_ld1 (hm.ext hwx)); infer_instance; (exact rfl); (focus ((repeat (first | exact .hd | assumption | apply Has.tl)); done)); (exact rfl)) | fail) | (go_simp; (try go_bits); first | exact gives_same | exact gives_skip | with_reducible exact gives_call (c1 wx hwx) | with_reducible exact gives_call (c2 wx hwx)))
               · (simp only [Act.put, List.setIfInBounds_toArray, List.set_cons_succ, List.set_cons_zero]; rfl))
            | (apply walk_not rfl rfl rfl
               · (simp only [Act.put, List.setIfInBounds_toArray, List.set_cons_succ, List.set_cons_zero]; rfl)))
        intro wz hwz
        simp only [List.zip_cons_cons, List.zip_nil_right]
        repeat rw [fin_is]
        rw [fin_cons]; intro x5 hx5
        repeat rw [fin_is]
        rw [fin_nil]; intro hap
        simp only [Act.put, List.setIfInBounds_toArray, List.set_cons_succ, List.set_cons_zero] at hap ⊢
        obtain ⟨g5_, rfl, hg5, hr5⟩ := hx5
        replace hm := hm.push hwz hg5 hr5
        clear hap hr5
        clear c1 c2 hx0
        have lz5 : ((zer (n := 8) 560).map v8).length = 560 := by rw [List.length_map]; exact zer_length
        have lR5 : (R.map v8).length = 560 := by rw [List.length_map]; exact lR
        go_wp2_with (first | ((with_reducible show wpList _ _ _ (Oper.mk _ (Op.store 39 _ _) _ _ _ _ :: _) _ _); (with_reducible apply wq_stW (cs' := R.map v8) hm); (exact rfl); infer_instance; (exact rfl); (exact rfl); (focus ((repeat (first | exact .hd | apply Swap.tl)); done)); (exact lR5); (exact lz5); (exact one_map _); clear hm; intro w hm) | ((with_reducible apply wq_ld1 hm); (exact rfl); infer_instance; (exact rfl); (focus ((repeat (first | exact .hd | assumption | apply Has.tl)); done)); (exact F2.out)) | ((with_reducible apply wq_ld1 hm); (exact rfl); infer_instance; (exact rfl); (focus ((repeat (first | exact .hd | assumption | apply Has.tl)); done)); (exact F3.out)) | ((with_reducible apply wq_ld1 hm); (exact rfl); infer_instance; (exact rfl); (focus ((repeat (first | exact .hd | assumption | apply Has.tl)); done)); (exact F4.out)) | ((with_reducible apply wq_ldN hm); (exact rfl); infer_instance; (exact rfl); (focus ((repeat (first | exact .hd | assumption | apply Has.tl)); done)); (exact F1.out); (exact lHv)) | fail)
        refine (SB.out _ g).mono ?_
        rintro e w ⟨rfl, hx_⟩
        replace hm := hm.ext hx_
        clear hx_
        go_wp2_with fail
        have hx0 := hm.x
        have kr := fun wx (hwx : Ext _ wx) => KeyR.own (g := g) (gt := gt) (gb := gb) OKK.out (hm.ext hwx) (by repeat (first | exact Has.hd | assumption | apply Has.tl)) (by repeat (first | exact Has.hd | assumption | apply Has.tl))
        have c1 := fun wx (hwx : Ext _ wx) => P1.out wx g (kr wx hwx) (HM.out.ext (hx0.trans hwx))
        have c2 := fun wx (hwx : Ext _ wx) => P2.out wx (HM.out.ext (hx0.trans hwx))
        refine region_at 15 (fun w' => Ext _ w') 118 (by kernel_rfl) (by kernel_rfl) rfl (fun _ _ h k => h.trans k) (drew_ext _) ?_
        simp only [List.take_succ_cons, List.take_zero, List.drop_succ_cons, List.drop_zero, List.map_cons, List.map_nil]
        repeat (first
            | (apply walk_is rfl rfl rfl; (intro wx hwx; (with_reducible apply gq_ldN (hm.ext hwx)); infer_instance; (exact rfl); (focus ((repeat (first | exact .hd | assumption | apply Has.tl)); done)); (exact F1.out); (exact lHv)); (simp only [Act.put, List.setIfInBounds_toArray, List.set_cons_succ, List.set_cons_zero]; rfl))
            | (apply walk_is rfl rfl rfl; (intro wx hwx; (with_reducible apply gq_ld1 (hm.ext hwx)); infer_instance; (exact rfl); (focus ((repeat (first | exact .hd | assumption | apply Has.tl)); done)); (exact F4.out)); (simp only [Act.put, List.setIfInBounds_toArray, List.set_cons_succ, List.set_cons_zero]; rfl))
            | (apply walk_some (BytesS D) 71 (BytesS.stable _) rfl rfl rfl rfl
               · (intro wx hwx; go_simp; with_reducible exact gives_callR (c1 wx hwx)))
            | (apply walk_from (T := [(71, BytesS (D))]) rfl rfl
               · (intro wx hwx; simp only [withS]; (rintro x ⟨p', c', rfl, hlc, hb'⟩; have hcv := conv_str p' (D) c' wx hb'); refine ⟨rfl, ?_⟩; go_simp; exact gives_same)
               · (simp only [Act.put, List.setIfInBounds_toArray, List.set_cons_succ, List.set_cons_zero]; rfl))
            | (apply walk_some (BytesS D) 78 (BytesS.stable _) rfl rfl rfl rfl
               · (intro wx hwx; go_simp; with_reducible exact gives_callR (c2 wx hwx)))
            | (apply walk_from (T := [(78, BytesS (D))]) rfl rfl
               · (intro wx hwx; simp only [withS]; (rintro x ⟨p', c', rfl, hlc, hb'⟩; have hcv := conv_str p' (D) c' wx hb'); refine ⟨rfl, ?_⟩; go_simp; exact gives_same)
               · (simp only [Act.put, List.setIfInBounds_toArray, List.set_cons_succ, List.set_cons_zero]; rfl))
            | (apply walk_is rfl rfl rfl
               · (intro wx hwx; first | ((with_reducible show gives _ _ _ (Sem.run _ (execOp _ (Oper.mk _ (Op.load _ _) _ _ _ _)) _)); first | ((with_reducible apply gq_ldv (hm.ext hwx)); infer_instance; (exact rfl); (focus ((repeat (first | exact .hd | assumption | apply Has.tl)); done)); (focus (first | omega | (simp; omega) | (refine Nat.lt_of_lt_of_le (BitVec.isLt _) ?_; first | omega | (simp; done) | (simp; omega) | fail) | fail))) | ((with_reducible apply gq_ldW (hm.ext hwx)); infer_instance; (exact rfl); (focus ((repeat (first | exact .hd | assumption | apply Has.tl)); done)); (focus (first | rfl | omega | (simp; done) | (simp; omega) | fail))) | ((with_reducible apply gq_ld1 (hm.ext hwx)); infer_instance; (exact rfl); (focus ((repeat (first | exact .hd | assumption | apply Has.tl)); done)); (exact rfl)) | fail) | (go_simp; (try go_bits); first | exact gives_same | exact gives_skip))
               · (simp only [Act.put, List.setIfInBounds_toArray, List.set_cons_succ, List.set_cons_zero]; rfl))
            | (apply walk_not rfl rfl rfl
               · (simp only [Act.put, List.setIfInBounds_toArray, List.set_cons_succ, List.set_cons_zero]; rfl)))
        intro wz hwz
        simp only [List.zip_cons_cons, List.zip_nil_right]
        repeat (first | rw [fin_is] | (rw [fin_cons]; intro _ _))
        rw [fin_nil]
        try (replace hm := hm.ext hwz)
        simp only [Act.put, List.setIfInBounds_toArray, List.set_cons_succ, List.set_cons_zero]
        clear c1 c2 kr hx0
        go_wp2_with (first | ((with_reducible apply wq_ld1 hm); (exact rfl); infer_instance; (exact rfl); (focus ((repeat (first | exact .hd | assumption | apply Has.tl)); done)); (exact F2.out)) | ((with_reducible apply wq_ld1 hm); (exact rfl); infer_instance; (exact rfl); (focus ((repeat (first | exact .hd | assumption | apply Has.tl)); done)); (exact F3.out)) | (go_at_call 18; (with_reducible refine (AW.out _ hm.x).mono ?_); rintro e_ w ⟨rfl, hx_⟩; replace hm := hm.ext hx_; clear hx_) | fail)
        go_ret
        exact ⟨rfl, hm.x⟩
      · have y1 : ¬ I < 0 := of_decide_eq_false z1
        have y2 : ¬ J < 0 := of_decide_eq_false z2
        have y3 : (31 : Int) < (l.length : Int) := of_decide_eq_true z3
        clear hbad
        go_enter Tryz.func5, Tryz.ntmps5
        go_wp2_with (first | ((with_reducible apply wq_ld1 hm); (exact rfl); infer_instance; (exact rfl); (focus ((repeat (first | exact .hd | assumption | apply Has.tl)); done)); (exact F0.out)) | ((with_reducible apply wq_ld1 hm); (exact rfl); infer_instance; (exact rfl); (focus ((repeat (first | exact .hd | assumption | apply Has.tl)); done)); (exact F2.out)) | ((with_reducible apply wq_ld1 hm); (exact rfl); infer_instance; (exact rfl); (focus ((repeat (first | exact .hd | assumption | apply Has.tl)); done)); (exact F4.out)) | (go_at_call 21; (with_reducible refine (CR.out _).mono ?_); rintro e_ w_ ⟨rfl, rfl⟩) | ((first | ((with_reducible show wpList _ _ _ (Oper.mk _ (Op.box _ _) _ _ _ _ :: _) _ _); first | ((with_reducible apply wq_boxN hm); (exact rfl); (exact rfl)) | fail)); clear hm; (first | (have hx_ := g1; clear hx_; (first | (have hx_ := g2; clear hx_; (first | (have hx_ := g3; clear hx_; (first | (have hx_ := g4; clear hx_; (first | (have hx_ := g5; clear hx_; (first | (have hx_ := g6; clear hx_; (first | (have hx_ := g7; clear hx_; (first | (have hx_ := g8; clear hx_; (first | (have hx_ := g9; clear hx_; intro g10) | intro g9)) | intro g8)) | intro g7)) | intro g6)) | intro g5)) | intro g4)) | intro g3)) | intro g2)) | intro g1); intro w hm) | fail)
        refine (KO.out hR _ (HK.out.ext hm.x) (HC.out.ext hm.x) (HB.out.ext hm.x)).mono ?_
        rintro e w ⟨g, gt, gb, rfl, hg_, hgt_, hne_, hrk_, hrt_, hx_⟩
        replace hm := hm.push2 hx_ hgt_ hrt_ hg_ hrk_ hne_
        clear hx_ hg_ hgt_ hne_ hrk_ hrt_
        go_wp2_with (first | ((with_reducible apply wq_ld1 hm); (exact rfl); infer_instance; (exact rfl); (focus ((repeat (first | exact .hd | assumption | apply Has.tl)); done)); (exact F2.out)) | ((with_reducible apply wq_ld1 hm); (exact rfl); infer_instance; (exact rfl); (focus ((repeat (first | exact .hd | assumption | apply Has.tl)); done)); (exact F3.out)) | ((with_reducible apply wq_ld1 hm); (exact rfl); infer_instance; (exact rfl); (focus ((repeat (first | exact .hd | assumption | apply Has.tl)); done)); (exact F4.out)) | ((with_reducible apply wq_ldN hm); (exact rfl); infer_instance; (exact rfl); (focus ((repeat (first | exact .hd | assumption | apply Has.tl)); done)); (exact F1.out); (exact lHv)) | (go_at_call 22; (with_reducible refine (step_nil _ _ _ _ _).mono ?_); rintro e_ w ⟨rfl, hx_⟩; replace hm := hm.ext hx_; clear hx_) | (go_at_call 23; (with_reducible refine (flip_nil _ _ _).mono ?_); rintro e_ w ⟨rfl, hx_⟩; replace hm := hm.ext hx_; clear hx_) | fail)
        have hx0 := hm.x
        have c1 := fun wx (hwx : Ext w wx) => MK.out wx
        have c2 := fun wx (hwx : Ext _ wx) => RX.out wx (HK.out.ext (hx0.trans hwx))
        refine region_new 5 (fun w' => Ext _ w') 118 (by kernel_rfl) (by kernel_rfl) rfl (fun _ _ h k => h.trans k) (drew_ext _) ?_
        simp only [List.take_succ_cons, List.take_zero, List.drop_succ_cons, List.drop_zero, List.map_cons, List.map_nil]
        repeat (first
            | (apply walk_some (NewS (w.heap.size) 39 ((zer 560).map v8)) 5 (NewS.stable _ _ _) rfl rfl rfl rfl
               · (intro wx hwx; go_simp; exact gives_new (cs := (zer 560).map v8) hwx.size))
            | (apply walk_is rfl rfl rfl; (intro wx hwx; (with_reducible apply gq_ld1 (hm.ext hwx)); infer_instance; (exact rfl); (focus ((repeat (first | exact .hd | assumption | apply Has.tl)); done)); (exact F0.out)); (simp only [Act.put, List.setIfInBounds_toArray, List.set_cons_succ, List.set_cons_zero]; rfl))
            | (apply walk_is rfl rfl rfl
               · (intro wx hwx; first | ((with_reducible show gives _ _ _ (Sem.run _ (execOp _ (Oper.mk _ (Op.load _ _) _ _ _ _)) _)); first | ((with_reducible apply gq_ldv (hm.ext hwx)); infer_instance; (exact rfl); (focus ((repeat (first | exact .hd | assumption | apply Has.tl)); done)); (focus (first | omega | (simp; omega) | (refine Nat.lt_of_lt_of_le (BitVec.isLt _) ?_; first | omega | (simp; done) | (simp; omega) | fail) | fail))) | ((with_reducible apply gq_ldW (hm.ext hwx)); infer_instance; (exact rfl); (focus ((repeat (first | exact .hd | assumption | apply Has.tl)); done)); (focus (first | rfl | omega | (simp; done) | (simp; omega) | fail))) | ((with_reducible apply gq_ld1 (hm.ext hwx)); infer_instance; (exact rfl); (focus ((repeat (first | exact .hd | assumption | apply Has.tl)); done)); (exact rfl)) | fail) | (go_simp; (try go_bits); first | exact gives_same | exact gives_skip | with_reducible exact gives_call (c1 wx hwx) | with_reducible exact gives_call (c2 wx hwx)))
               · (simp only [Act.put, List.setIfInBounds_toArray, List.set_cons_succ, List.set_cons_zero]; rfl))
            | (apply walk_not rfl rfl rfl
               · (simp only [Act.put, List.setIfInBounds_toArray, List.set_cons_succ, List.set_cons_zero]; rfl)))
        intro wz hwz
        simp only [List.zip_cons_cons, List.zip_nil_right]
        repeat rw [fin_is]
        rw [fin_cons]; intro x5 hx5
        repeat rw [fin_is]
        rw [fin_nil]; intro hap
        simp only [Act.put, List.setIfInBounds_toArray, List.set_cons_succ, List.set_cons_zero] at hap ⊢
        obtain ⟨g5_, rfl, hg5, hr5⟩ := hx5
        replace hm := hm.push hwz hg5 hr5
        clear hap hr5
        clear c1 c2 hx0
        have lz5 : ((zer (n := 8) 560).map v8).length = 560 := by rw [List.length_map]; exact zer_length
        have lR5 : (R.map v8).length = 560 := by rw [List.length_map]; exact lR
        go_wp2_with (first | ((with_reducible show wpList _ _ _ (Oper.mk _ (Op.store 39 _ _) _ _ _ _ :: _) _ _); (with_reducible apply wq_stW (cs' := R.map v8) hm); (exact rfl); infer_instance; (exact rfl); (exact rfl); (focus ((repeat (first | exact .hd | apply Swap.tl)); done)); (exact lR5); (exact lz5); (exact one_map _); clear hm; intro w hm) | ((with_reducible apply wq_ld1 hm); (exact rfl); infer_instance; (exact rfl); (focus ((repeat (first | exact .hd | assumption | apply Has.tl)); done)); (exact F2.out)) | ((with_reducible apply wq_ld1 hm); (exact rfl); infer_instance; (exact rfl); (focus ((repeat (first | exact .hd | assumption | apply Has.tl)); done)); (exact F3.out)) | ((with_reducible apply wq_ld1 hm); (exact rfl); infer_instance; (exact rfl); (focus ((repeat (first | exact .hd | assumption | apply Has.tl)); done)); (exact F4.out)) | ((with_reducible apply wq_ldN hm); (exact rfl); infer_instance; (exact rfl); (focus ((repeat (first | exact .hd | assumption | apply Has.tl)); done)); (exact F1.out); (exact lHv)) | fail)
        refine (SB.out _ g).mono ?_
        rintro e w ⟨rfl, hx_⟩
        replace hm := hm.ext hx_
        clear hx_
        go_wp2_with fail
        have hx0 := hm.x
        have kr := fun wx (hwx : Ext _ wx) => KeyR.own (g := g) (gt := gt) (gb := gb) OKK.out (hm.ext hwx) (by repeat (first | exact Has.hd | assumption | apply Has.tl)) (by repeat (first | exact Has.hd | assumption | apply Has.tl))
        have c1 := fun wx (hwx : Ext _ wx) => P1.out wx g (kr wx hwx) (HM.out.ext (hx0.trans hwx))
        have c2 := fun wx (hwx : Ext _ wx) => P2.out wx (HM.out.ext (hx0.trans hwx))
        refine region_at 15 (fun w' => Ext _ w') 118 (by kernel_rfl) (by kernel_rfl) rfl (fun _ _ h k => h.trans k) (drew_ext _) ?_
        simp only [List.take_succ_cons, List.take_zero, List.drop_succ_cons, List.drop_zero, List.map_cons, List.map_nil]
        repeat (first
            | (apply walk_is rfl rfl rfl; (intro wx hwx; (with_reducible apply gq_ldN (hm.ext hwx)); infer_instance; (exact rfl); (focus ((repeat (first | exact .hd | assumption | apply Has.tl)); done)); (exact F1.out); (exact lHv)); (simp only [Act.put, List.setIfInBounds_toArray, List.set_cons_succ, List.set_cons_zero]; rfl))
            | (apply walk_is rfl rfl rfl; (intro wx hwx; (with_reducible apply gq_ld1 (hm.ext hwx)); infer_instance; (exact rfl); (focus ((repeat (first | exact .hd | assumption | apply Has.tl)); done)); (exact F4.out)); (simp only [Act.put, List.setIfInBounds_toArray, List.set_cons_succ, List.set_cons_zero]; rfl))
            | (apply walk_some (BytesS D) 71 (BytesS.stable _) rfl rfl rfl rfl
               · (intro wx hwx; go_simp; with_reducible exact gives_callR (c1 wx hwx)))
            | (apply walk_from (T := [(71, BytesS (D))]) rfl rfl
               · (intro wx hwx; simp only [withS]; (rintro x ⟨p', c', rfl, hlc, hb'⟩; have hcv := conv_str p' (D) c' wx hb'); refine ⟨rfl, ?_⟩; go_simp; exact gives_same)
               · (simp only [Act.put, List.setIfInBounds_toArray, List.set_cons_succ, List.set_cons_zero]; rfl))
            | (apply walk_some (BytesS D) 78 (BytesS.stable _) rfl rfl rfl rfl
               · (intro wx hwx; go_simp; with_reducible exact gives_callR (c2 wx hwx)))
            | (apply walk_from (T := [(78, BytesS (D))]) rfl rfl
               · (intro wx hwx; simp only [withS]; (rintro x ⟨p', c', rfl, hlc, hb'⟩; have hcv := conv_str p' (D) c' wx hb'); refine ⟨rfl, ?_⟩; go_simp; exact gives_same)
               · (simp only [Act.put, List.setIfInBounds_toArray, List.set_cons_succ, List.set_cons_zero]; rfl))
            | (apply walk_is rfl rfl rfl
               · (intro wx hwx; first | ((with_reducible show gives _ _ _ (Sem.run _ (execOp _ (Oper.mk _ (Op.load _ _) _ _ _ _)) _)); first | ((with_reducible apply gq_ldv (hm.ext hwx)); infer_instance; (exact rfl); (focus ((repeat (first | exact .hd | assumption | apply Has.tl)); done)); (focus (first | omega | (simp; omega) | (refine Nat.lt_of_lt_of_le (BitVec.isLt _) ?_; first | omega | (simp; done) | (simp; omega) | fail) | fail))) | ((with_reducible apply gq_ldW (hm.ext hwx)); infer_instance; (exact rfl); (focus ((repeat (first | exact .hd | assumption | apply Has.tl)); done)); (focus (first | rfl | omega | (simp; done) | (simp; omega) | fail))) | ((with_reducible apply gq_ld1 (hm.ext hwx)); infer_instance; (exact rfl); (focus ((repeat (first | exact .hd | assumption | apply Has.tl)); done)); (exact rfl)) | fail) | (go_simp; (try go_bits); first | exact gives_same | exact gives_skip))
               · (simp only [Act.put, List.setIfInBounds_toArray, List.set_cons_succ, List.set_cons_zero]; rfl))
            | (apply walk_not rfl rfl rfl
               · (simp only [Act.put, List.setIfInBounds_toArray, List.set_cons_succ, List.set_cons_zero]; rfl)))
        intro wz hwz
        simp only [List.zip_cons_cons, List.zip_nil_right]
        repeat (first | rw [fin_is] | (rw [fin_cons]; intro _ _))
        rw [fin_nil]
        try (replace hm := hm.ext hwz)
        simp only [Act.put, List.setIfInBounds_toArray, List.set_cons_succ, List.set_cons_zero]
        clear c1 c2 kr hx0
        go_wp2_with (first | ((with_reducible apply wq_ld1 hm); (exact rfl); infer_instance; (exact rfl); (focus ((repeat (first | exact .hd | assumption | apply Has.tl)); done)); (exact F2.out)) | ((with_reducible apply wq_ld1 hm); (exact rfl); infer_instance; (exact rfl); (focus ((repeat (first | exact .hd | assumption | apply Has.tl)); done)); (exact F3.out)) | ((with_reducible apply wq_ld1 hm); (exact rfl); infer_instance; (exact rfl); (focus ((repeat (first | exact .hd | assumption | apply Has.tl)); done)); (exact F4.out)) | (go_at_call 18; (with_reducible refine (AW.out _ hm.x).mono ?_); rintro e_ w ⟨rfl, hx_⟩; replace hm := hm.ext hx_; clear hx_) | fail)
        go_ret
        exact ⟨rfl, hm.x⟩
    · have hI2 : 0 ≤ I := by omega
      have y1 : ¬ I < 0 := by omega
      have z1 : decide (I < 0) = false := decide_eq_false y1
      have y2 : ¬ J < 0 := by omega
      have z2 : decide (J < 0) = false := decide_eq_false y2
      have y3 : ¬ (31 : Int) < (l.length : Int) := by omega
      have z3 : decide ((31 : Int) < (l.length : Int)) = false := decide_eq_false y3
      obtain ⟨n, hn⟩ : ∃ n : Nat, J = n := ⟨J.toNat, by omega⟩
      obtain ⟨Z, hZ⟩ : ∃ Z, Z = stepL (eZ K) H I n l := ⟨_, rfl⟩
      have lZ : Z.length = l.length := by rw [hZ]; exact stepL_length _ _ _ _ _
      have S1 := Lib.hid fun (w : World) (g : Nat) (h : KeyR w g K) (hr : RdB w r l) => show Calls Tryz.prog 22 #[.pointer (some ⟨g, 0, none⟩), A8 H, .int .i64 I, .int .i64 J, .slice r l.length f] w fun e w' => ∃ k, e = .returned (.slice (some ⟨k, 0, none⟩) l.length l.length) ∧ Own w w' [⟨k, 5, Z.map v8⟩] from
        hn ▸ hZ ▸ step_new g (eZ K) (eZ_length K) H lH I hI2 (by omega) n (by omega) l r f (by omega) w hr (fun wx hx j m x e1 e2 e3 => (h.ext hx).e j m x e1 e2 e3)
      have S2 := Lib.hid fun (w : World) (hr : RdB w r l) => show GivesR Tryz.prog 25 #[A8 (rkL K), A8 H, .int .i64 I, .int .i64 J, .slice r l.length f] w (BytesS Z) from
        hn ▸ hZ ▸ rstep7 (rkL K) lR (eZ K) (eZ_length K) H lH I hI2 (by omega) n (by omega) l r f (by omega) w hr (fun wx _ j m x e1 e2 e3 e4 e5 => re_any K j m x e1 wx OKK.out e2 e4 e3 e5)
      generalize rkL K = R at *
      generalize tabs = T at *
      have HLZ := Lib.hid lZ
      clear hbad hn hZ lZ
      go_enter Tryz.func5, Tryz.ntmps5
      go_wp2_with (first | ((with_reducible apply wq_ld1 hm); (exact rfl); infer_instance; (exact rfl); (focus ((repeat (first | exact .hd | assumption | apply Has.tl)); done)); (exact F0.out)) | ((with_reducible apply wq_ld1 hm); (exact rfl); infer_instance; (exact rfl); (focus ((repeat (first | exact .hd | assumption | apply Has.tl)); done)); (exact F2.out)) | ((with_reducible apply wq_ld1 hm); (exact rfl); infer_instance; (exact rfl); (focus ((repeat (first | exact .hd | assumption | apply Has.tl)); done)); (exact F4.out)) | (go_at_call 21; (with_reducible refine (CR.out _).mono ?_); rintro e_ w_ ⟨rfl, rfl⟩) | ((first | ((with_reducible show wpList _ _ _ (Oper.mk _ (Op.box _ _) _ _ _ _ :: _) _ _); first | ((with_reducible apply wq_boxN hm); (exact rfl); (exact rfl)) | fail)); clear hm; (first | (have hx_ := g1; clear hx_; (first | (have hx_ := g2; clear hx_; (first | (have hx_ := g3; clear hx_; (first | (have hx_ := g4; clear hx_; (first | (have hx_ := g5; clear hx_; (first | (have hx_ := g6; clear hx_; (first | (have hx_ := g7; clear hx_; (first | (have hx_ := g8; clear hx_; (first | (have hx_ := g9; clear hx_; intro g10) | intro g9)) | intro g8)) | intro g7)) | intro g6)) | intro g5)) | intro g4)) | intro g3)) | intro g2)) | intro g1); intro w hm) | fail)
      refine (KO.out hR _ (HK.out.ext hm.x) (HC.out.ext hm.x) (HB.out.ext hm.x)).mono ?_
      rintro e w ⟨g, gt, gb, rfl, hg_, hgt_, hne_, hrk_, hrt_, hx_⟩
      replace hm := hm.push2 hx_ hgt_ hrt_ hg_ hrk_ hne_
      clear hx_ hg_ hgt_ hne_ hrk_ hrt_
      go_wp2_with (first | ((with_reducible apply wq_ld1 hm); (exact rfl); infer_instance; (exact rfl); (focus ((repeat (first | exact .hd | assumption | apply Has.tl)); done)); (exact F2.out)) | ((with_reducible apply wq_ld1 hm); (exact rfl); infer_instance; (exact rfl); (focus ((repeat (first | exact .hd | assumption | apply Has.tl)); done)); (exact F3.out)) | ((with_reducible apply wq_ld1 hm); (exact rfl); infer_instance; (exact rfl); (focus ((repeat (first | exact .hd | assumption | apply Has.tl)); done)); (exact F4.out)) | ((with_reducible apply wq_ldN hm); (exact rfl); infer_instance; (exact rfl); (focus ((repeat (first | exact .hd | assumption | apply Has.tl)); done)); (exact F1.out); (exact lHv)) | (go_at_call 22; (with_reducible refine (step_nil _ _ _ _ _).mono ?_); rintro e_ w ⟨rfl, hx_⟩; replace hm := hm.ext hx_; clear hx_) | (go_at_call 23; (with_reducible refine (flip_nil _ _ _).mono ?_); rintro e_ w ⟨rfl, hx_⟩; replace hm := hm.ext hx_; clear hx_) | fail)
      have hx0 := hm.x
      have c1 := fun wx (hwx : Ext w wx) => MK.out wx
      have c2 := fun wx (hwx : Ext _ wx) => RX.out wx (HK.out.ext (hx0.trans hwx))
      refine region_new 5 (fun w' => Ext _ w') 118 (by kernel_rfl) (by kernel_rfl) rfl (fun _ _ h k => h.trans k) (drew_ext _) ?_
      simp only [List.take_succ_cons, List.take_zero, List.drop_succ_cons, List.drop_zero, List.map_cons, List.map_nil]
      repeat (first
          | (apply walk_some (NewS (w.heap.size) 39 ((zer 560).map v8)) 5 (NewS.stable _ _ _) rfl rfl rfl rfl
             · (intro wx hwx; go_simp; exact gives_new (cs := (zer 560).map v8) hwx.size))
          | (apply walk_is rfl rfl rfl; (intro wx hwx; (with_reducible apply gq_ld1 (hm.ext hwx)); infer_instance; (exact rfl); (focus ((repeat (first | exact .hd | assumption | apply Has.tl)); done)); (exact F0.out)); (simp only [Act.put, List.setIfInBounds_toArray, List.set_cons_succ, List.set_cons_zero]; rfl))
          | (apply walk_is rfl rfl rfl
             · (intro wx hwx; first | ((with_reducible show gives _ _ _ (Sem.run _ (execOp _ (Oper.mk _ (Op.load _ _) _ _ _ _)) _)); first | ((with_reducible apply gq_ldv (hm.ext hwx)); infer_instance; (exact rfl); (focus ((repeat (first | exact .hd | assumption | apply Has.tl)); done)); (focus (first | omega | (simp; omega) | (refine Nat.lt_of_lt_of_le (BitVec.isLt _) ?_; first | omega | (simp; done) | (simp; omega) | fail) | fail))) | ((with_reducible apply gq_ldW (hm.ext hwx)); infer_instance; (exact rfl); (focus ((repeat (first | exact .hd | assumption | apply Has.tl)); done)); (focus (first | rfl | omega | (simp; done) | (simp; omega) | fail))) | ((with_reducible apply gq_ld1 (hm.ext hwx)); infer_instance; (exact rfl); (focus ((repeat (first | exact .hd | assumption | apply Has.tl)); done)); (exact rfl)) | fail) | (go_simp; (try go_bits); first | exact gives_same | exact gives_skip | with_reducible exact gives_call (c1 wx hwx) | with_reducible exact gives_call (c2 wx hwx)))
             · (simp only [Act.put, List.setIfInBounds_toArray, List.set_cons_succ, List.set_cons_zero]; rfl))
          | (apply walk_not rfl rfl rfl
             · (simp only [Act.put, List.setIfInBounds_toArray, List.set_cons_succ, List.set_cons_zero]; rfl)))
      intro wz hwz
      simp only [List.zip_cons_cons, List.zip_nil_right]
      repeat rw [fin_is]
      rw [fin_cons]; intro x5 hx5
      repeat rw [fin_is]
      rw [fin_nil]; intro hap
      simp only [Act.put, List.setIfInBounds_toArray, List.set_cons_succ, List.set_cons_zero] at hap ⊢
      obtain ⟨g5_, rfl, hg5, hr5⟩ := hx5
      replace hm := hm.push hwz hg5 hr5
      clear hap hr5
      clear c1 c2 hx0
      have lz5 : ((zer (n := 8) 560).map v8).length = 560 := by rw [List.length_map]; exact zer_length
      have lR5 : (R.map v8).length = 560 := by rw [List.length_map]; exact lR
      go_wp2_with (first | ((with_reducible show wpList _ _ _ (Oper.mk _ (Op.store 39 _ _) _ _ _ _ :: _) _ _); (with_reducible apply wq_stW (cs' := R.map v8) hm); (exact rfl); infer_instance; (exact rfl); (exact rfl); (focus ((repeat (first | exact .hd | apply Swap.tl)); done)); (exact lR5); (exact lz5); (exact one_map _); clear hm; intro w hm) | ((with_reducible apply wq_ld1 hm); (exact rfl); infer_instance; (exact rfl); (focus ((repeat (first | exact .hd | assumption | apply Has.tl)); done)); (exact F2.out)) | ((with_reducible apply wq_ld1 hm); (exact rfl); infer_instance; (exact rfl); (focus ((repeat (first | exact .hd | assumption | apply Has.tl)); done)); (exact F3.out)) | ((with_reducible apply wq_ld1 hm); (exact rfl); infer_instance; (exact rfl); (focus ((repeat (first | exact .hd | assumption | apply Has.tl)); done)); (exact F4.out)) | ((with_reducible apply wq_ldN hm); (exact rfl); infer_instance; (exact rfl); (focus ((repeat (first | exact .hd | assumption | apply Has.tl)); done)); (exact F1.out); (exact lHv)) | fail)
      refine (S1.out _ g (KeyR.own (gt := gt) (gb := gb) OKK.out hm (by repeat (first | exact Has.hd | assumption | apply Has.tl)) (by repeat (first | exact Has.hd | assumption | apply Has.tl))) (HM.out.ext hm.x)).mono ?_
      rintro e w ⟨gk, rfl, hmk⟩
      have hm2 := Own.join hm hmk
      clear hm hmk
      simp only [List.cons_append, List.nil_append] at hm2
      have hm := hm2
      clear hm2
      go_wp2_with fail
      have hx0 := hm.x
      have kr := fun wx (hwx : Ext _ wx) => KeyR.own (g := g) (gt := gt) (gb := gb) OKK.out (hm.ext hwx) (by repeat (first | exact Has.hd | assumption | apply Has.tl)) (by repeat (first | exact Has.hd | assumption | apply Has.tl))
      have c1 := fun wx (hwx : Ext _ wx) => P1.out wx g (kr wx hwx) (HM.out.ext (hx0.trans hwx))
      have c2 := fun wx (hwx : Ext _ wx) => P2.out wx (HM.out.ext (hx0.trans hwx))
      refine region_at 15 (fun w' => Ext _ w') 118 (by kernel_rfl) (by kernel_rfl) rfl (fun _ _ h k => h.trans k) (drew_ext _) ?_
      simp only [List.take_succ_cons, List.take_zero, List.drop_succ_cons, List.drop_zero, List.map_cons, List.map_nil]
      repeat (first
          | (apply walk_is rfl rfl rfl; (intro wx hwx; (with_reducible apply gq_ldN (hm.ext hwx)); infer_instance; (exact rfl); (focus ((repeat (first | exact .hd | assumption | apply Has.tl)); done)); (exact F1.out); (exact lHv)); (simp only [Act.put, List.setIfInBounds_toArray, List.set_cons_succ, List.set_cons_zero]; rfl))
          | (apply walk_is rfl rfl rfl; (intro wx hwx; (with_reducible apply gq_ld1 (hm.ext hwx)); infer_instance; (exact rfl); (focus ((repeat (first | exact .hd | assumption | apply Has.tl)); done)); (exact F4.out)); (simp only [Act.put, List.setIfInBounds_toArray, List.set_cons_succ, List.set_cons_zero]; rfl))
          | (apply walk_some (BytesS D) 71 (BytesS.stable _) rfl rfl rfl rfl
             · (intro wx hwx; go_simp; with_reducible exact gives_callR (c1 wx hwx)))
          | (apply walk_from (T := [(71, BytesS (D))]) rfl rfl
             · (intro wx hwx; simp only [withS]; (rintro x ⟨p', c', rfl, hlc, hb'⟩; have hcv := conv_str p' (D) c' wx hb'); refine ⟨rfl, ?_⟩; go_simp; exact gives_same)
             · (simp only [Act.put, List.setIfInBounds_toArray, List.set_cons_succ, List.set_cons_zero]; rfl))
          | (apply walk_some (BytesS D) 78 (BytesS.stable _) rfl rfl rfl rfl
             · (intro wx hwx; go_simp; with_reducible exact gives_callR (c2 wx hwx)))
          | (apply walk_from (T := [(78, BytesS (D))]) rfl rfl
             · (intro wx hwx; simp only [withS]; (rintro x ⟨p', c', rfl, hlc, hb'⟩; have hcv := conv_str p' (D) c' wx hb'); refine ⟨rfl, ?_⟩; go_simp; exact gives_same)
             · (simp only [Act.put, List.setIfInBounds_toArray, List.set_cons_succ, List.set_cons_zero]; rfl))
          | (apply walk_is rfl rfl rfl
             · (intro wx hwx; first | ((with_reducible show gives _ _ _ (Sem.run _ (execOp _ (Oper.mk _ (Op.load _ _) _ _ _ _)) _)); first | ((with_reducible apply gq_ldv (hm.ext hwx)); infer_instance; (exact rfl); (focus ((repeat (first | exact .hd | assumption | apply Has.tl)); done)); (focus (first | omega | (simp; omega) | (refine Nat.lt_of_lt_of_le (BitVec.isLt _) ?_; first | omega | (simp; done) | (simp; omega) | fail) | fail))) | ((with_reducible apply gq_ldW (hm.ext hwx)); infer_instance; (exact rfl); (focus ((repeat (first | exact .hd | assumption | apply Has.tl)); done)); (focus (first | rfl | omega | (simp; done) | (simp; omega) | fail))) | ((with_reducible apply gq_ld1 (hm.ext hwx)); infer_instance; (exact rfl); (focus ((repeat (first | exact .hd | assumption | apply Has.tl)); done)); (exact rfl)) | fail) | (go_simp; (try go_bits); first | exact gives_same | exact gives_skip))
             · (simp only [Act.put, List.setIfInBounds_toArray, List.set_cons_succ, List.set_cons_zero]; rfl))
          | (apply walk_not rfl rfl rfl
             · (simp only [Act.put, List.setIfInBounds_toArray, List.set_cons_succ, List.set_cons_zero]; rfl)))
      intro wz hwz
      simp only [List.zip_cons_cons, List.zip_nil_right]
      repeat (first | rw [fin_is] | (rw [fin_cons]; intro _ _))
      rw [fin_nil]
      try (replace hm := hm.ext hwz)
      simp only [Act.put, List.setIfInBounds_toArray, List.set_cons_succ, List.set_cons_zero]
      clear c1 c2 kr hx0
      go_wp2_with (first | ((with_reducible apply wq_ld1 hm); (exact rfl); infer_instance; (exact rfl); (focus ((repeat (first | exact .hd | assumption | apply Has.tl)); done)); (exact F2.out)) | ((with_reducible apply wq_ld1 hm); (exact rfl); infer_instance; (exact rfl); (focus ((repeat (first | exact .hd | assumption | apply Has.tl)); done)); (exact F3.out)) | ((with_reducible apply wq_ld1 hm); (exact rfl); infer_instance; (exact rfl); (focus ((repeat (first | exact .hd | assumption | apply Has.tl)); done)); (exact F4.out)) | fail)
      have hx0 := hm.x
      have c3 := fun wx (hwx : Ext _ wx) => S2.out wx (HM.out.ext (hx0.trans hwx))
      have c4 := fun wx (hwx : Ext _ wx) => AW.out wx (hx0.trans hwx)
      have s1 := fun wx (hwx : Ext _ wx) => show (convert 22 9 (.slice (some ⟨gk, 0, none⟩) l.length l.length)).run Tryz.prog wx = .ok (.string (bstr Z)) wx from by
        have := conv_str (some ⟨gk, 0, none⟩) Z l.length wx ((hm.ext hwx).rdB (g := gk) (l := Z) (by repeat (first | exact Has.hd | assumption | apply Has.tl))); rwa [HLZ.out] at this
      refine region_at 17 (fun w' => Ext _ w') 118 (by kernel_rfl) (by kernel_rfl) rfl (fun _ _ h k => h.trans k) (drew_ext _) ?_
      simp only [List.take_succ_cons, List.take_zero, List.drop_succ_cons, List.drop_zero, List.map_cons, List.map_nil]
      repeat (first
          | (apply walk_is rfl rfl rfl; (intro wx hwx; (with_reducible apply gq_ldN (hm.ext hwx)); infer_instance; (exact rfl); (focus ((repeat (first | exact .hd | assumption | apply Has.tl)); done)); (exact F1.out); (exact lHv)); (simp only [Act.put, List.setIfInBounds_toArray, List.set_cons_succ, List.set_cons_zero]; rfl))
          | (apply walk_is rfl rfl rfl; (intro wx hwx; (with_reducible apply gq_ld1 (hm.ext hwx)); infer_instance; (exact rfl); (focus ((repeat (first | exact .hd | assumption | apply Has.tl)); done)); (exact F2.out)); (simp only [Act.put, List.setIfInBounds_toArray, List.set_cons_succ, List.set_cons_zero]; rfl))
          | (apply walk_is rfl rfl rfl; (intro wx hwx; (with_reducible apply gq_ld1 (hm.ext hwx)); infer_instance; (exact rfl); (focus ((repeat (first | exact .hd | assumption | apply Has.tl)); done)); (exact F3.out)); (simp only [Act.put, List.setIfInBounds_toArray, List.set_cons_succ, List.set_cons_zero]; rfl))
          | (apply walk_is rfl rfl rfl; (intro wx hwx; (with_reducible apply gq_ld1 (hm.ext hwx)); infer_instance; (exact rfl); (focus ((repeat (first | exact .hd | assumption | apply Has.tl)); done)); (exact F4.out)); (simp only [Act.put, List.setIfInBounds_toArray, List.set_cons_succ, List.set_cons_zero]; rfl))
          | (apply walk_some (BytesS Z) 112 (BytesS.stable _) rfl rfl rfl rfl
             · (intro wx hwx; go_simp; with_reducible exact gives_callR (c3 wx hwx)))
          | (apply walk_from (T := [(112, BytesS (Z))]) rfl rfl
             · (intro wx hwx; simp only [withS]; (rintro x ⟨p', c', rfl, hlc, hb'⟩; have hcv := conv_str p' (Z) c' wx hb'); refine ⟨rfl, ?_⟩; go_simp; exact gives_same)
             · (simp only [Act.put, List.setIfInBounds_toArray, List.set_cons_succ, List.set_cons_zero]; rfl))
          | (apply walk_is rfl rfl rfl
             · (intro wx hwx; first | ((with_reducible show gives _ _ _ (Sem.run _ (execOp _ (Oper.mk _ (Op.load _ _) _ _ _ _)) _)); first | ((with_reducible apply gq_ldv (hm.ext hwx)); infer_instance; (exact rfl); (focus ((repeat (first | exact .hd | assumption | apply Has.tl)); done)); (focus (first | omega | (simp; omega) | (refine Nat.lt_of_lt_of_le (BitVec.isLt _) ?_; first | omega | (simp; done) | (simp; omega) | fail) | fail))) | ((with_reducible apply gq_ldW (hm.ext hwx)); infer_instance; (exact rfl); (focus ((repeat (first | exact .hd | assumption | apply Has.tl)); done)); (focus (first | rfl | omega | (simp; done) | (simp; omega) | fail))) | ((with_reducible apply gq_ld1 (hm.ext hwx)); infer_instance; (exact rfl); (focus ((repeat (first | exact .hd | assumption | apply Has.tl)); done)); (exact rfl)) | fail) | (go_simp; (try go_bits); first | exact gives_same | exact gives_skip | with_reducible exact gives_call (c4 wx hwx)))
             · (simp only [Act.put, List.setIfInBounds_toArray, List.set_cons_succ, List.set_cons_zero]; rfl))
          | (apply walk_not rfl rfl rfl
             · (simp only [Act.put, List.setIfInBounds_toArray, List.set_cons_succ, List.set_cons_zero]; rfl)))
      intro wz hwz
      simp only [List.zip_cons_cons, List.zip_nil_right]
      repeat (first | rw [fin_is] | (rw [fin_cons]; intro _ _))
      rw [fin_nil]
      try (replace hm := hm.ext hwz)
      simp only [Act.put, List.setIfInBounds_toArray, List.set_cons_succ, List.set_cons_zero]
      clear c3 c4 s1 hx0
      go_wp2_with fail
      go_ret
      exact ⟨rfl, hm.x⟩
  · have e : rightL key = false := by cases h : rightL key <;> simp_all
    rw [e] at CR
    go_enter Tryz.func5, Tryz.ntmps5
    go_wp2_with (first | ((with_reducible apply wq_ld1 hm); (exact rfl); infer_instance; (exact rfl); (focus ((repeat (first | exact .hd | assumption | apply Has.tl)); done)); (exact F0.out)) | (go_at_call 21; (with_reducible refine (CR.out _).mono ?_); rintro e_ w_ ⟨rfl, rfl⟩) | ((first | ((with_reducible show wpList _ _ _ (Oper.mk _ (Op.box _ _) _ _ _ _ :: _) _ _); first | ((with_reducible apply wq_boxN hm); (exact rfl); (exact rfl)) | fail)); clear hm; (first | (have hx_ := g1; clear hx_; (first | (have hx_ := g2; clear hx_; (first | (have hx_ := g3; clear hx_; (first | (have hx_ := g4; clear hx_; (first | (have hx_ := g5; clear hx_; (first | (have hx_ := g6; clear hx_; (first | (have hx_ := g7; clear hx_; (first | (have hx_ := g8; clear hx_; (first | (have hx_ := g9; clear hx_; intro g10) | intro g9)) | intro g8)) | intro g7)) | intro g6)) | intro g5)) | intro g4)) | intro g3)) | intro g2)) | intro g1); intro w hm) | fail)
    go_ret
    exact ⟨rfl, hm.x⟩

end Go.Proofs.YtaijfigohlkccaaGreatDoor
