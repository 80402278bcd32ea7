/-
  Layer 19: the statement on rows of one hash. Conditions: the program's variables lie as its text lays them.
-/
import Derived.Test.YtmgopjeaehmbfaaDoorLawT1
namespace Go.Proofs.YtmgopjeaehmbfaaDoor
open Go Go.RowKit
set_option maxRecDepth 100000
set_option linter.unusedVariables false
set_option linter.unusedSimpArgs false

theorem text_one {p q r : Option Addr} {n c m d k f : Nat} {b : Bool} : ∀ v ∈ textC p n c q m d r k f b, v.oneCell' = true := by
  intro v hv
  simp only [textC, List.mem_cons, List.not_mem_nil, or_false] at hv
  rcases hv with rfl | rfl | rfl | rfl <;> rfl
set_option maxHeartbeats 8000000 in
theorem trow_walk (key : List Byte) (p : Option Addr) (c : Nat) (ls : List (List Byte)) (q : Option Addr) (d : Nat) (m : List Byte) (r : Option Addr) (f : Nat) (back : Bool) (lt : List (List Byte)) (s : Option Addr) (e0 : Nat) (w0 : World) (hk : RdB w0 p key) (hkc : key.length ≤ c) (hkm : key.length ≤ maxLen) (hl : RdR w0 q ls) (hld : ls.length ≤ d) (hlm : ls.length ≤ maxLen) (hr : RdB w0 r m) (hrf : m.length ≤ f) (hrm : m.length ≤ maxLen) (hs : RdR w0 s lt) (hse : lt.length ≤ e0) (hsm : lt.length ≤ maxLen) (hc : Coef w0 ∧ CoefB w0) :
    Calls Tryd.prog 18 #[.agg (textC p key.length c q ls.length d r m.length f back).toArray, .slice s lt.length e0] w0 fun e w' => e = .returned (.bool true) ∧ Ext w0 w' := by
  have hm := Own.start w0
  have HC := Lib.hid hc.1
  have HB := Lib.hid hc.2
  have HK := Lib.hid hk
  have HL := Lib.hid hl
  have HM := Lib.hid hr
  have HS := Lib.hid hs
  have TR := Lib.hid fun (w : World) (h : Ext w0 w) => tright_any key p c ls q d r m.length f back w hlm (hl.ext h)
  have TS := Lib.hid fun (w : World) (h : Ext w0 w) => tright_any key p c lt s e0 r m.length f back w hsm (hs.ext h)
  have KO := Lib.hid fun (h : rightL key = true) (w : World) (h1 : RdB w p key) (h2 : Coef w) (h3 : CoefB w) => keys19_ok key p c w h hkc h1 h2 h3
  have AW := Lib.hid fun (w : World) (h : Ext w0 w) => awake19 w ⟨hc.1.ext h, hc.2.ext h⟩
  have OKK := Lib.hid (keyOf_ok key)
  clear hc hk hl hr hs
  generalize keyOf key = K at *
  by_cases hR : rightT key ls m.length = true
  · rw [hR] at TR
    obtain ⟨hK, f1, f2, f3⟩ := rightT_out hR
    have KO := Lib.hid (KO.out hK)
    by_cases hR2 : rightT key lt m.length = true
    · rw [hR2] at TS
      obtain ⟨_, j1, j2, _⟩ := rightT_out hR2
      by_cases h0 : m.length = 0
      · have a1 : ((m.length : Int) == 0) = true := by rw [h0]; rfl
        have a2 : (m.length : Int) = 0 := by omega
        have H0 := Lib.hid h0
        clear h0
        go_enter Tryd.func18, Tryd.ntmps18
        go_wp2_with (first | (go_at_call 39; (with_reducible refine (TR.out _ hm.x).mono ?_); rintro e_ w ⟨rfl, hx_⟩; replace hm := hm.ext hx_; clear hx_) | (go_at_call 39; (with_reducible refine (TS.out _ hm.x).mono ?_); rintro e_ w ⟨rfl, hx_⟩; replace hm := hm.ext hx_; clear hx_) | ((with_reducible show wpList _ _ _ (Oper.mk _ (Op.store 66 _ _) _ _ _ _ :: _) _ _); (with_reducible apply wq_stW (cs' := textC p key.length c q ls.length d r m.length f back) hm); (exact rfl); infer_instance; (exact rfl); (exact rfl); (focus ((repeat (first | exact .hd | apply Swap.tl)); done)); (exact rfl); (exact rfl); (exact text_one); clear hm; intro w hm) | ((with_reducible show wpList _ _ _ (Oper.mk _ (Op.store 40 _ _) _ _ _ _ :: _) _ _); (with_reducible apply wq_stfT (v := .slice s lt.length e0) (cs' := textC p key.length c s lt.length e0 r m.length f back) hm); (exact rfl); infer_instance; (exact rfl); (exact rfl); (exact rfl); (exact rfl); (focus ((repeat (first | exact .hd | apply Swap.tl)); done)); (exact rfl); (exact (show 1 < 4 from by omega)); clear hm; intro w hm) | ((with_reducible show wpList _ _ _ (Oper.mk _ (Op.load _ _) _ _ _ _ :: _) _ _); first | ((with_reducible apply wq_ldW hm); (exact rfl); infer_instance; (exact rfl); (focus ((repeat (first | exact .hd | assumption | apply Has.tl)); done)); (focus (first | rfl | omega | (simp; done) | (simp; omega) | fail))) | ((with_reducible apply wq_ld1 hm); (exact rfl); infer_instance; (exact rfl); (focus ((repeat (first | exact .hd | assumption | apply Has.tl)); done)); (exact rfl)) | fail) | ((first | ((with_reducible show wpList _ _ _ (Oper.mk _ (Op.alloc _) _ _ _ _ :: _) _ _); first | ((with_reducible apply wq_new hm); (exact rfl); infer_instance) | fail) | ((with_reducible show wpList _ _ _ (Oper.mk _ (Op.box _ _) _ _ _ _ :: _) _ _); first | ((with_reducible apply wq_boxN hm); (exact rfl); (exact rfl)) | fail)); clear hm; (first | (have hx_ := g1; clear hx_; (first | (have hx_ := g2; clear hx_; (first | (have hx_ := g3; clear hx_; (first | (have hx_ := g4; clear hx_; (first | (have hx_ := g5; clear hx_; (first | (have hx_ := g6; clear hx_; (first | (have hx_ := g7; clear hx_; (first | (have hx_ := g8; clear hx_; (first | (have hx_ := g9; clear hx_; intro g10) | intro g9)) | intro g8)) | intro g7)) | intro g6)) | intro g5)) | intro g4)) | intro g3)) | intro g2)) | intro g1); intro w hm) | fail)
        go_ret
        exact ⟨rfl, hm.x⟩
      · have a1 : ((m.length : Int) == 0) = false := by rw [beq_eq_false_iff_ne]; omega
        have a2 : ¬ (m.length : Int) = 0 := by omega
        by_cases h31 : 31 < m.length
        · have a3 : decide ((31 : Int) < (m.length : Int)) = true := decide_eq_true (by omega)
          have a4 : (31 : Int) < (m.length : Int) := by omega
          have a5 : decide ((m.length : Int) > 31) = true := decide_eq_true (by omega)
          go_enter Tryd.func18, Tryd.ntmps18
          go_wp2_with (first | (go_at_call 39; (with_reducible refine (TR.out _ hm.x).mono ?_); rintro e_ w ⟨rfl, hx_⟩; replace hm := hm.ext hx_; clear hx_) | (go_at_call 39; (with_reducible refine (TS.out _ hm.x).mono ?_); rintro e_ w ⟨rfl, hx_⟩; replace hm := hm.ext hx_; clear hx_) | ((with_reducible show wpList _ _ _ (Oper.mk _ (Op.store 66 _ _) _ _ _ _ :: _) _ _); (with_reducible apply wq_stW (cs' := textC p key.length c q ls.length d r m.length f back) hm); (exact rfl); infer_instance; (exact rfl); (exact rfl); (focus ((repeat (first | exact .hd | apply Swap.tl)); done)); (exact rfl); (exact rfl); (exact text_one); clear hm; intro w hm) | ((with_reducible show wpList _ _ _ (Oper.mk _ (Op.store 40 _ _) _ _ _ _ :: _) _ _); (with_reducible apply wq_stfT (v := .slice s lt.length e0) (cs' := textC p key.length c s lt.length e0 r m.length f back) hm); (exact rfl); infer_instance; (exact rfl); (exact rfl); (exact rfl); (exact rfl); (focus ((repeat (first | exact .hd | apply Swap.tl)); done)); (exact rfl); (exact (show 1 < 4 from by omega)); clear hm; intro w hm) | ((with_reducible show wpList _ _ _ (Oper.mk _ (Op.load _ _) _ _ _ _ :: _) _ _); first | ((with_reducible apply wq_ldW hm); (exact rfl); infer_instance; (exact rfl); (focus ((repeat (first | exact .hd | assumption | apply Has.tl)); done)); (focus (first | rfl | omega | (simp; done) | (simp; omega) | fail))) | ((with_reducible apply wq_ld1 hm); (exact rfl); infer_instance; (exact rfl); (focus ((repeat (first | exact .hd | assumption | apply Has.tl)); done)); (exact rfl)) | fail) | ((first | ((with_reducible show wpList _ _ _ (Oper.mk _ (Op.alloc _) _ _ _ _ :: _) _ _); first | ((with_reducible apply wq_new hm); (exact rfl); infer_instance) | fail) | ((with_reducible show wpList _ _ _ (Oper.mk _ (Op.box _ _) _ _ _ _ :: _) _ _); first | ((with_reducible apply wq_boxN hm); (exact rfl); (exact rfl)) | fail)); clear hm; (first | (have hx_ := g1; clear hx_; (first | (have hx_ := g2; clear hx_; (first | (have hx_ := g3; clear hx_; (first | (have hx_ := g4; clear hx_; (first | (have hx_ := g5; clear hx_; (first | (have hx_ := g6; clear hx_; (first | (have hx_ := g7; clear hx_; (first | (have hx_ := g8; clear hx_; (first | (have hx_ := g9; clear hx_; intro g10) | intro g9)) | intro g8)) | intro g7)) | intro g6)) | intro g5)) | intro g4)) | intro g3)) | intro g2)) | intro g1); intro w hm) | fail)
          go_ret
          exact ⟨rfl, hm.x⟩
        · have a3 : decide ((31 : Int) < (m.length : Int)) = false := decide_eq_false (by omega)
          have a4 : ¬ (31 : Int) < (m.length : Int) := by omega
          have a5 : decide ((m.length : Int) > 31) = false := decide_eq_false (by omega)
          have g3 : ∀ i, (ls.getD i []).length ≤ 70368744177000 := fun i => by have := f1 i; omega
          have g4 : ∀ i, (lt.getD i []).length ≤ 70368744177000 := fun i => by have := j1 i; omega
          obtain ⟨H, hH⟩ : ∃ H, H = hashG (eZ K) ls := ⟨_, rfl⟩
          obtain ⟨J, hJ⟩ : ∃ H, H = hashG (eZ K) lt := ⟨_, rfl⟩
          obtain ⟨D, hD⟩ : ∃ D, D = tinyL (eZ K) H back m := ⟨_, rfl⟩
          obtain ⟨E, hE⟩ : ∃ D, D = tinyL (eZ K) J back m := ⟨_, rfl⟩
          have lH : H.length = 16 := by rw [hH]; exact hashG_length _ _
          have lJ : J.length = 16 := by rw [hJ]; exact hashG_length _ _
          have lD : D.length = m.length := by rw [hD]; exact tinyL_length _ _ _ m
          have lE : E.length = m.length := by rw [hE]; exact tinyL_length _ _ _ m
          have T1 := Lib.hid fun (w : World) (g : Nat) (h : KeyR w g K) (hq : RdR w q ls) (hr : RdB w r m) => show Calls Tryd.prog 41 #[.pointer (some ⟨g, 0, none⟩), .slice q ls.length d, .slice r m.length f, .bool back] w fun e w' => ∃ px cx, e = .returned (.tuple #[.slice px m.length cx, .int .i64 0]) ∧ m.length ≤ cx ∧ RdB w' px D ∧ Ext w w' from by
            rw [hD, hH]; exact tturn_any g (eZ K) (eZ_length K) ls q d m r f back w hq hld (by omega) g3 hr hrf (by omega) (by omega) (fun wx hx j m x e1 e2 e3 => (h.ext hx).e j m x e1 e2 e3)
          have T2 := Lib.hid fun (w : World) (g : Nat) (h : KeyR w g K) (hq : RdR w s lt) (hr : RdB w r m) => show Calls Tryd.prog 41 #[.pointer (some ⟨g, 0, none⟩), .slice s lt.length e0, .slice r m.length f, .bool back] w fun e w' => ∃ px cx, e = .returned (.tuple #[.slice px m.length cx, .int .i64 0]) ∧ m.length ≤ cx ∧ RdB w' px E ∧ Ext w w' from by
            rw [hE, hJ]; exact tturn_any g (eZ K) (eZ_length K) lt s e0 m r f back w hq hse (by omega) g4 hr hrf (by omega) (by omega) (fun wx hx j m x e1 e2 e3 => (h.ext hx).e j m x e1 e2 e3)
          have G1 := Lib.hid fun (w : World) (g : Nat) (h : KeyR w g K) (h' : RdR w q ls) => hH ▸ hhash_any (.pointer (some ⟨g, 0, none⟩)) rfl rfl (eZ K) (eZ_length K) ls q d w h' hld (by omega) g3 (fun wx hx j m x e1 e2 e3 => (h.ext hx).e j m x e1 e2 e3)
          have G2 := Lib.hid fun (w : World) (g : Nat) (h : KeyR w g K) (h' : RdR w s lt) => hJ ▸ hhash_any (.pointer (some ⟨g, 0, none⟩)) rfl rfl (eZ K) (eZ_length K) lt s e0 w h' hse (by omega) g4 (fun wx hx j m x e1 e2 e3 => (h.ext hx).e j m x e1 e2 e3)
          have S1 := Lib.hid fun w px cx (h : RdB w px D) => show (convert 22 9 (.slice px m.length cx)).run Tryd.prog w = .ok (.string (bstr D)) w from lD ▸ conv_str px D cx w h
          have S2 := Lib.hid fun w px cx (h : RdB w px E) => show (convert 22 9 (.slice px m.length cx)).run Tryd.prog w = .ok (.string (bstr E)) w from lE ▸ conv_str px E cx w h
          have hDE : H = J → D = E := fun h => by rw [hD, hE, h]
          clear g3 g4 f1 j1 hD hE lD lE hH hJ
          obtain ⟨V, hV⟩ : ∃ V, V = (H == J) := ⟨_, rfl⟩
          have hV2 : V = true → (D == E) = true := fun h => by rw [beq_iff_eq]; exact hDE (by rw [← beq_iff_eq, ← hV]; exact h)
          clear hDE
          cases V
          all_goals
            first | replace hV2 := hV2 rfl | clear hV2
            replace hV := hV.symm
            go_enter Tryd.func18, Tryd.ntmps18
            go_wp2_with (first | (go_at_call 39; (with_reducible refine (TR.out _ hm.x).mono ?_); rintro e_ w ⟨rfl, hx_⟩; replace hm := hm.ext hx_; clear hx_) | (go_at_call 39; (with_reducible refine (TS.out _ hm.x).mono ?_); rintro e_ w ⟨rfl, hx_⟩; replace hm := hm.ext hx_; clear hx_) | ((with_reducible show wpList _ _ _ (Oper.mk _ (Op.store 66 _ _) _ _ _ _ :: _) _ _); (with_reducible apply wq_stW (cs' := textC p key.length c q ls.length d r m.length f back) hm); (exact rfl); infer_instance; (exact rfl); (exact rfl); (focus ((repeat (first | exact .hd | apply Swap.tl)); done)); (exact rfl); (exact rfl); (exact text_one); clear hm; intro w hm) | ((with_reducible show wpList _ _ _ (Oper.mk _ (Op.store 40 _ _) _ _ _ _ :: _) _ _); (with_reducible apply wq_stfT (v := .slice s lt.length e0) (cs' := textC p key.length c s lt.length e0 r m.length f back) hm); (exact rfl); infer_instance; (exact rfl); (exact rfl); (exact rfl); (exact rfl); (focus ((repeat (first | exact .hd | apply Swap.tl)); done)); (exact rfl); (exact (show 1 < 4 from by omega)); clear hm; intro w hm) | ((with_reducible show wpList _ _ _ (Oper.mk _ (Op.load _ _) _ _ _ _ :: _) _ _); first | ((with_reducible apply wq_ldW hm); (exact rfl); infer_instance; (exact rfl); (focus ((repeat (first | exact .hd | assumption | apply Has.tl)); done)); (focus (first | rfl | omega | (simp; done) | (simp; omega) | fail))) | ((with_reducible apply wq_ld1 hm); (exact rfl); infer_instance; (exact rfl); (focus ((repeat (first | exact .hd | assumption | apply Has.tl)); done)); (exact rfl)) | fail) | ((first | ((with_reducible show wpList _ _ _ (Oper.mk _ (Op.alloc _) _ _ _ _ :: _) _ _); first | ((with_reducible apply wq_new hm); (exact rfl); infer_instance) | fail) | ((with_reducible show wpList _ _ _ (Oper.mk _ (Op.box _ _) _ _ _ _ :: _) _ _); first | ((with_reducible apply wq_boxN hm); (exact rfl); (exact rfl)) | fail)); clear hm; (first | (have hx_ := g1; clear hx_; (first | (have hx_ := g2; clear hx_; (first | (have hx_ := g3; clear hx_; (first | (have hx_ := g4; clear hx_; (first | (have hx_ := g5; clear hx_; (first | (have hx_ := g6; clear hx_; (first | (have hx_ := g7; clear hx_; (first | (have hx_ := g8; clear hx_; (first | (have hx_ := g9; clear hx_; intro g10) | intro g9)) | intro g8)) | intro g7)) | intro g6)) | intro g5)) | intro g4)) | intro g3)) | intro g2)) | intro g1); intro w hm) | fail)
            refine (KO.out _ (HK.out.ext hm.x) (HC.out.ext hm.x) (HB.out.ext hm.x)).mono ?_
            rintro e w ⟨g, gt, gb, rfl, hg_, hgt_, hne_, hrk_, hrt_, hx_⟩
            replace hm := hm.push2 hx_ hgt_ hrt_ hg_ hrk_ hne_
            clear hx_ hg_ hgt_ hne_ hrk_ hrt_
            go_wp2_with (first | ((with_reducible show wpList _ _ _ (Oper.mk _ (Op.load _ _) _ _ _ _ :: _) _ _); first | ((with_reducible apply wq_ld1 hm); (exact rfl); infer_instance; (exact rfl); (focus ((repeat (first | exact .hd | assumption | apply Has.tl)); done)); (exact rfl)) | fail) | fail)
            refine (T1.out _ g (KeyR.own (gt := gt) (gb := gb) OKK.out hm (by repeat (first | exact Has.hd | assumption | apply Has.tl)) (by repeat (first | exact Has.hd | assumption | apply Has.tl))) (HL.out.ext hm.x) (HM.out.ext hm.x)).mono ?_
            rintro e w ⟨px, cx, rfl, hcx, hrx, hx_⟩
            replace hm := hm.ext hx_
            have HRX := Lib.hid hrx
            clear hx_ hrx
            go_wp2_with (first | ((with_reducible show wpList _ _ _ (Oper.mk _ (Op.load _ _) _ _ _ _ :: _) _ _); first | ((with_reducible apply wq_ld1 hm); (exact rfl); infer_instance; (exact rfl); (focus ((repeat (first | exact .hd | assumption | apply Has.tl)); done)); (exact rfl)) | fail) | fail)
            refine (T2.out _ g (KeyR.own (gt := gt) (gb := gb) OKK.out hm (by repeat (first | exact Has.hd | assumption | apply Has.tl)) (by repeat (first | exact Has.hd | assumption | apply Has.tl))) (HS.out.ext hm.x) (HM.out.ext hm.x)).mono ?_
            rintro e w ⟨py, cy, rfl, hcy, hry, hx_⟩
            replace hm := hm.ext hx_
            have HRX2 := Lib.hid (HRX.out.ext hx_)
            have HRY := Lib.hid hry
            clear hx_ hry
            go_wp2_with (first | ((with_reducible show wpList _ _ _ (Oper.mk _ (Op.load _ _) _ _ _ _ :: _) _ _); first | ((with_reducible apply wq_ld1 hm); (exact rfl); infer_instance; (exact rfl); (focus ((repeat (first | exact .hd | assumption | apply Has.tl)); done)); (exact rfl)) | fail) | fail)
            refine (G1.out _ g (KeyR.own (gt := gt) (gb := gb) OKK.out hm (by repeat (first | exact Has.hd | assumption | apply Has.tl)) (by repeat (first | exact Has.hd | assumption | apply Has.tl))) (HL.out.ext hm.x)).mono ?_
            rintro e w ⟨rfl, hx_⟩
            replace hm := hm.ext hx_
            have HRX3 := Lib.hid (HRX2.out.ext hx_)
            have HRY3 := Lib.hid (HRY.out.ext hx_)
            clear hx_
            go_wp2_with fail
            refine (G2.out _ g (KeyR.own (gt := gt) (gb := gb) OKK.out hm (by repeat (first | exact Has.hd | assumption | apply Has.tl)) (by repeat (first | exact Has.hd | assumption | apply Has.tl))) (HS.out.ext hm.x)).mono ?_
            rintro e w ⟨rfl, hx_⟩
            replace hm := hm.ext hx_
            have s1 := S1.out w px cx (HRX3.out.ext hx_)
            have s2 := S2.out w py cy (HRY3.out.ext hx_)
            clear hx_
            go_wp2_with (first | (go_at_call 42; (with_reducible refine (AW.out _ hm.x).mono ?_); rintro e_ w ⟨rfl, hx_⟩; replace hm := hm.ext hx_; clear hx_) | fail)
            go_ret
            exact ⟨rfl, hm.x⟩
    · have e : rightT key lt m.length = false := by cases h : rightT key lt m.length <;> simp_all
      rw [e] at TS
      go_enter Tryd.func18, Tryd.ntmps18
      go_wp2_with (first | (go_at_call 39; (with_reducible refine (TR.out _ hm.x).mono ?_); rintro e_ w ⟨rfl, hx_⟩; replace hm := hm.ext hx_; clear hx_) | (go_at_call 39; (with_reducible refine (TS.out _ hm.x).mono ?_); rintro e_ w ⟨rfl, hx_⟩; replace hm := hm.ext hx_; clear hx_) | ((with_reducible show wpList _ _ _ (Oper.mk _ (Op.store 66 _ _) _ _ _ _ :: _) _ _); (with_reducible apply wq_stW (cs' := textC p key.length c q ls.length d r m.length f back) hm); (exact rfl); infer_instance; (exact rfl); (exact rfl); (focus ((repeat (first | exact .hd | apply Swap.tl)); done)); (exact rfl); (exact rfl); (exact text_one); clear hm; intro w hm) | ((with_reducible show wpList _ _ _ (Oper.mk _ (Op.store 40 _ _) _ _ _ _ :: _) _ _); (with_reducible apply wq_stfT (v := .slice s lt.length e0) (cs' := textC p key.length c s lt.length e0 r m.length f back) hm); (exact rfl); infer_instance; (exact rfl); (exact rfl); (exact rfl); (exact rfl); (focus ((repeat (first | exact .hd | apply Swap.tl)); done)); (exact rfl); (exact (show 1 < 4 from by omega)); clear hm; intro w hm) | ((with_reducible show wpList _ _ _ (Oper.mk _ (Op.load _ _) _ _ _ _ :: _) _ _); first | ((with_reducible apply wq_ldW hm); (exact rfl); infer_instance; (exact rfl); (focus ((repeat (first | exact .hd | assumption | apply Has.tl)); done)); (focus (first | rfl | omega | (simp; done) | (simp; omega) | fail))) | fail) | ((first | ((with_reducible show wpList _ _ _ (Oper.mk _ (Op.alloc _) _ _ _ _ :: _) _ _); first | ((with_reducible apply wq_new hm); (exact rfl); infer_instance) | fail) | ((with_reducible show wpList _ _ _ (Oper.mk _ (Op.box _ _) _ _ _ _ :: _) _ _); first | ((with_reducible apply wq_boxN hm); (exact rfl); (exact rfl)) | fail)); clear hm; (first | (have hx_ := g1; clear hx_; (first | (have hx_ := g2; clear hx_; (first | (have hx_ := g3; clear hx_; (first | (have hx_ := g4; clear hx_; (first | (have hx_ := g5; clear hx_; (first | (have hx_ := g6; clear hx_; (first | (have hx_ := g7; clear hx_; (first | (have hx_ := g8; clear hx_; (first | (have hx_ := g9; clear hx_; intro g10) | intro g9)) | intro g8)) | intro g7)) | intro g6)) | intro g5)) | intro g4)) | intro g3)) | intro g2)) | intro g1); intro w hm) | fail)
      go_ret
      exact ⟨rfl, hm.x⟩
  · have e : rightT key ls m.length = false := by cases h : rightT key ls m.length <;> simp_all
    rw [e] at TR
    go_enter Tryd.func18, Tryd.ntmps18
    go_wp2_with (first | (go_at_call 39; (with_reducible refine (TR.out _ hm.x).mono ?_); rintro e_ w ⟨rfl, hx_⟩; replace hm := hm.ext hx_; clear hx_) | ((with_reducible show wpList _ _ _ (Oper.mk _ (Op.store 66 _ _) _ _ _ _ :: _) _ _); (with_reducible apply wq_stW (cs' := textC p key.length c q ls.length d r m.length f back) hm); (exact rfl); infer_instance; (exact rfl); (exact rfl); (focus ((repeat (first | exact .hd | apply Swap.tl)); done)); (exact rfl); (exact rfl); (exact text_one); clear hm; intro w hm) | ((with_reducible show wpList _ _ _ (Oper.mk _ (Op.store 40 _ _) _ _ _ _ :: _) _ _); (with_reducible apply wq_stfT (v := .slice s lt.length e0) (cs' := textC p key.length c s lt.length e0 r m.length f back) hm); (exact rfl); infer_instance; (exact rfl); (exact rfl); (exact rfl); (exact rfl); (focus ((repeat (first | exact .hd | apply Swap.tl)); done)); (exact rfl); (exact (show 1 < 4 from by omega)); clear hm; intro w hm) | ((with_reducible show wpList _ _ _ (Oper.mk _ (Op.load _ _) _ _ _ _ :: _) _ _); first | ((with_reducible apply wq_ldW hm); (exact rfl); infer_instance; (exact rfl); (focus ((repeat (first | exact .hd | assumption | apply Has.tl)); done)); (focus (first | rfl | omega | (simp; done) | (simp; omega) | fail))) | fail) | ((first | ((with_reducible show wpList _ _ _ (Oper.mk _ (Op.alloc _) _ _ _ _ :: _) _ _); first | ((with_reducible apply wq_new hm); (exact rfl); infer_instance) | fail) | ((with_reducible show wpList _ _ _ (Oper.mk _ (Op.box _ _) _ _ _ _ :: _) _ _); first | ((with_reducible apply wq_boxN hm); (exact rfl); (exact rfl)) | fail)); clear hm; (first | (have hx_ := g1; clear hx_; (first | (have hx_ := g2; clear hx_; (first | (have hx_ := g3; clear hx_; (first | (have hx_ := g4; clear hx_; (first | (have hx_ := g5; clear hx_; (first | (have hx_ := g6; clear hx_; (first | (have hx_ := g7; clear hx_; (first | (have hx_ := g8; clear hx_; (first | (have hx_ := g9; clear hx_; intro g10) | intro g9)) | intro g8)) | intro g7)) | intro g6)) | intro g5)) | intro g4)) | intro g3)) | intro g2)) | intro g1); intro w hm) | fail)
    go_ret
    exact ⟨rfl, hm.x⟩

end Go.Proofs.YtmgopjeaehmbfaaDoor
