/-
  Layer 20: the statement on what X and Y bring to a pair. Conditions: the program's variables lie as its text lays them.
-/
import Derived.Test.YtmgopjeaehmbfaaDoorLawC2
namespace Go.Proofs.YtmgopjeaehmbfaaDoor
open Go Go.RowKit
set_option maxRecDepth 100000
set_option linter.unusedVariables false
set_option linter.unusedSimpArgs false

set_option maxHeartbeats 4000000 in
/-- The block of a message from a place on. -/
theorem at20_any (l : List Byte) (p : Option Addr) (c n : Nat) (h : n + 16 ≤ l.length) (h3 : l.length ≤ 300) (w0 : World) (hr : RdB w0 p l) : Gives Tryd.prog 38 #[.slice p l.length c, .int .i64 (n : Int)] w0 (A8 (blk (l.drop n))) := by
  unfold Gives
  have hm := Own.start w0
  have HR := Lib.hid hr
  obtain ⟨a, rfl⟩ := Option.isSome_iff_exists.1 (hr.1 (by omega))
  have EZ : Hid (zer 16 = part 16 0 (fun i => nth l (n + i)) (fun _ => 0#8)) := Lib.hid zer_start
  have EE : Hid (part 16 16 (fun i => nth l (n + i)) (fun _ => 0#8) = blk (l.drop n)) := Lib.hid (nth_ext (by rw [part_length, blk_length]) fun i hi => by
    rw [part_length] at hi
    rw [nth_part_lt hi hi, blk_nth _ _ hi, nth, nth, List.getD_eq_getElem?_getD, List.getD_eq_getElem?_getD, List.getElem?_drop])
  generalize blk (l.drop n) = V at *
  clear hr
  go_enter Tryd.func38, Tryd.ntmps38
  go_wp2_with (first | ((first | ((with_reducible show wpList _ _ _ (Oper.mk _ (Op.alloc _) _ _ _ _ :: _) _ _); first | ((with_reducible apply wq_new hm); (exact rfl); infer_instance) | fail)); clear hm; (first | (have hx_ := g1; clear hx_; (first | (have hx_ := g2; clear hx_; (first | (have hx_ := g3; clear hx_; (first | (have hx_ := g4; clear hx_; (first | (have hx_ := g5; clear hx_; (first | (have hx_ := g6; clear hx_; (first | (have hx_ := g7; clear hx_; (first | (have hx_ := g8; clear hx_; (first | (have hx_ := g9; clear hx_; intro g10) | intro g9)) | intro g8)) | intro g7)) | intro g6)) | intro g5)) | intro g4)) | intro g3)) | intro g2)) | intro g1); intro w hm) | fail)
  rw [EZ.out] at hm
  go_loopw [6] (fun i wr => ∃ k : Nat, k ≤ 16 ∧ i = .int .i64 k ∧ ∃ Z : List Byte, Own w0 wr [⟨g2, 27, (part 16 k (fun i => nth l (n + i)) (fun _ => 0#8)).map v8⟩, ⟨g1, 27, Z.map v8⟩] ∧ Z.length = 16) (fun i _ => 16 - (intOf i).toNat)
  case atStart => exact ⟨0, by omega, rfl, _, hm, part_length⟩
  case round =>
    obtain ⟨k, hk, rfl, Z, hm, lZ⟩ := hrel
    by_cases hlt : k < 16
    · have hd : decide ((k : Int) < 16) = true := decide_eq_true (by omega)
      have hd2 : (k : Int) < 16 := by omega
      have hd3 : decide ((k : Int) < (l.length : Int) - (n : Int)) = true := decide_eq_true (by omega)
      have hd4 : (k : Int) < (l.length : Int) - (n : Int) := by omega
      have hc := (HR.out.ext hm.x).at (n + k) (by omega)
      simp only [Option.getD_some] at hc
      obtain ⟨j, hj⟩ : ∃ j, j = n + k := ⟨_, rfl⟩
      have hn : l.getD (n + k) 0 = nth l (n + k) := rfl
      have EJ : Hid (setN (part 16 k (fun i => nth l (n + i)) (fun _ => 0#8)) k (nth l j) = part 16 (k + 1) (fun i => nth l (n + i)) (fun _ => 0#8)) := Lib.hid (by rw [hj]; exact part_set (f := fun i => nth l (n + i)) hlt)
      rw [hn, ← hj] at hc
      have x1 : (n : Int) + (k : Int) = (j : Int) := by omega
      have x2 : (j : Int) < (l.length : Int) := by omega
      have x3 : j < l.length := by omega
      have lJ : (part 16 k (fun i => nth l (n + i)) (fun _ => 0#8)).length = 16 := part_length
      clear hn hj
      generalize part 16 k (fun i => nth l (n + i)) (fun _ => 0#8) = C at *
      go_wp2_with (first | ((((with_reducible show wpList _ _ _ (Oper.mk _ (Op.store _ _ _) _ _ _ _ :: _) _ _); first | ((with_reducible apply wq_stv hm); (exact rfl); infer_instance; (exact rfl); (focus ((repeat (first | exact .hd | assumption | apply Swap.tl)); done)); infer_instance; (exact rfl); (focus (first | omega | (simp; omega) | (refine Nat.lt_of_lt_of_le (BitVec.isLt _) ?_; first | omega | (simp; done) | (simp; omega) | fail) | fail))) | fail)); clear hm; intro w hm) | fail)
      go_roundw
      case rel => rw [EJ.out] at hm; exact ⟨k + 1, by omega, by go_num, Z, hm, lZ⟩
      case measure => simp [intOf] <;> omega
    · obtain rfl : k = 16 := by omega
      have hd : decide (((16 : Nat) : Int) < 16) = false := decide_eq_false (by omega)
      have lJ : (part 16 16 (fun i => nth l (n + i)) (fun _ => 0#8)).length = 16 := part_length
      rw [EE.out] at hm lJ
      go_wp2_with (first | ((with_reducible show wpList _ _ _ (Oper.mk _ (Op.load _ _) _ _ _ _ :: _) _ _); first | ((with_reducible apply wq_ldW hm); (exact rfl); infer_instance; (exact rfl); (focus ((repeat (first | exact .hd | assumption | apply Has.tl)); done)); (focus (first | rfl | omega | (simp; done) | (simp; omega) | fail))) | fail) | ((((with_reducible show wpList _ _ _ (Oper.mk _ (Op.store _ _ _) _ _ _ _ :: _) _ _); first | ((with_reducible apply wq_stW hm); (exact rfl); infer_instance; (exact rfl); (exact rfl); (focus ((repeat (first | exact .hd | assumption | apply Swap.tl)); done)); (focus (first | rfl | omega | (simp; done) | (simp; omega) | fail)); (focus (first | rfl | omega | (simp; done) | (simp; omega) | fail)); (focus (first | exact one_map _ | (simp [one8, one32, one64]; done) | fail))) | fail)); clear hm; intro w hm) | fail)
      refine ret_own hm rfl rfl (by infer_instance) (by repeat (first | exact Has.hd | assumption | apply Has.tl)) (by first | rfl | omega | (simp only [zeros_length, zer_length, tab_length, part_length, setN_length, List.length_map, List.length_cons, List.length_nil, List.length_append, List.length_take, List.length_drop, List.length_replicate, blk_length, putL_length] <;> omega) | fail) rfl ⟨rfl, hm.x⟩

set_option maxHeartbeats 8000000 in
theorem cmiddle_walk (key : List Byte) (p : Option Addr) (c : Nat) (ls : List (List Byte)) (q : Option Addr) (d : Nat) (m : List Byte) (r : Option Addr) (f : Nat) (back : Bool) (w0 : World) (hk : RdB w0 p key) (hkc : key.length ≤ c) (hkm : key.length ≤ maxLen) (hl : RdR w0 q ls) (hld : ls.length ≤ d) (hlm : ls.length ≤ maxLen) (hr : RdB w0 r m) (hrf : m.length ≤ f) (hrm : m.length ≤ maxLen) (hc : Coef w0 ∧ CoefB w0) :
    Calls Tryd.prog 12 #[.agg (textC p key.length c q ls.length d r m.length f back).toArray] w0 fun e w' => e = .returned (.bool true) ∧ Ext w0 w' := by
  have hm := Own.start w0
  have HC := Lib.hid hc.1
  have HB := Lib.hid hc.2
  have HK := Lib.hid hk
  have HL := Lib.hid hl
  have HM := Lib.hid hr
  have TR := Lib.hid fun (w : World) (h : Ext w0 w) => tright_any key p c ls q d r m.length f back w hlm (hl.ext h)
  have KO := Lib.hid fun (h : rightL key = true) (w : World) (h1 : RdB w p key) (h2 : Coef w) (h3 : CoefB w) => keys20_ok key p c w h hkc h1 h2 h3
  have AW := Lib.hid fun (w : World) (h : Ext w0 w) => awake20 w ⟨hc.1.ext h, hc.2.ext h⟩
  have OKK := Lib.hid (keyOf_ok key)
  clear hc hk hl hr
  generalize keyOf key = K at *
  by_cases hR : rightT key ls m.length = true
  · rw [hR] at TR
    obtain ⟨hK, f1, f2, f3⟩ := rightT_out hR
    have KO := Lib.hid (KO.out hK)
    by_cases h64 : m.length = 64
    · rw [h64] at TR ⊢
      have g3 : ∀ i, (ls.getD i []).length ≤ 70368744177000 := fun i => by have := f1 i; omega
      obtain ⟨H, hH⟩ : ∃ H, H = hashG (eZ K) ls := ⟨_, rfl⟩
      have lH : H.length = 16 := by rw [hH]; exact hashG_length _ _
      have e2 := coreL_middle (eZ K) (eZ_length K) H 1 2 m h64
      obtain ⟨O, hO⟩ : ∃ O, O = coreL (eZ K) H 1 2 m := ⟨_, rfl⟩
      have lO : O.length = 64 := by rw [hO]; exact (coreL_length _ (eZ_length K) _ _ _ m (by omega)).trans h64
      obtain ⟨M1, hM1⟩ : ∃ u_, u_ = blk m := ⟨_, rfl⟩
      obtain ⟨M2, hM2⟩ : ∃ u_, u_ = blk (m.drop 16) := ⟨_, rfl⟩
      obtain ⟨M3, hM3⟩ : ∃ u_, u_ = blk (m.drop 32) := ⟨_, rfl⟩
      obtain ⟨M4, hM4⟩ : ∃ u_, u_ = blk (m.drop 48) := ⟨_, rfl⟩
      obtain ⟨A1, hA1⟩ : ∃ u_, u_ = blk O := ⟨_, rfl⟩
      obtain ⟨A2, hA2⟩ : ∃ u_, u_ = blk (O.drop 16) := ⟨_, rfl⟩
      have B1 := Lib.hid fun (w : World) (h : Ext w0 w) => (h64 ▸ hM1 ▸ at20_any m r f 0 (by omega) (by omega) w (HM.out.ext h) : Gives Tryd.prog 38 #[.slice r 64 f, .int .i64 0] w (A8 M1))
      have B2 := Lib.hid fun (w : World) (h : Ext w0 w) => (h64 ▸ hM2 ▸ at20_any m r f 16 (by omega) (by omega) w (HM.out.ext h) : Gives Tryd.prog 38 #[.slice r 64 f, .int .i64 16] w (A8 M2))
      have B3 := Lib.hid fun (w : World) (h : Ext w0 w) => (h64 ▸ hM3 ▸ at20_any m r f 32 (by omega) (by omega) w (HM.out.ext h) : Gives Tryd.prog 38 #[.slice r 64 f, .int .i64 32] w (A8 M3))
      have B4 := Lib.hid fun (w : World) (h : Ext w0 w) => (h64 ▸ hM4 ▸ at20_any m r f 48 (by omega) (by omega) w (HM.out.ext h) : Gives Tryd.prog 38 #[.slice r 64 f, .int .i64 48] w (A8 M4))
      have B5 := Lib.hid fun (w : World) px cx (h : RdB w px O) => (lO ▸ hA1 ▸ at20_any O px cx 0 (by omega) (by omega) w h : Gives Tryd.prog 38 #[.slice px 64 cx, .int .i64 0] w (A8 A1))
      have B6 := Lib.hid fun (w : World) px cx (h : RdB w px O) => (lO ▸ hA2 ▸ at20_any O px cx 16 (by omega) (by omega) w h : Gives Tryd.prog 38 #[.slice px 64 cx, .int .i64 16] w (A8 A2))
      have lM1 : M1.length = 16 := by rw [hM1]; exact blk_length _
      have lM2 : M2.length = 16 := by rw [hM2]; exact blk_length _
      have lM3 : M3.length = 16 := by rw [hM3]; exact blk_length _
      have lM4 : M4.length = 16 := by rw [hM4]; exact blk_length _
      have lA1 : A1.length = 16 := by rw [hA1]; exact blk_length _
      have lA2 : A2.length = 16 := by rw [hA2]; exact blk_length _
      obtain ⟨E1, hE1⟩ : ∃ u_, u_ = eZ K 1 1 M2 := ⟨_, rfl⟩
      obtain ⟨W, hW⟩ : ∃ u_, u_ = bothL M1 E1 := ⟨_, rfl⟩
      obtain ⟨E2, hE2⟩ : ∃ u_, u_ = eZ K 0 0 W := ⟨_, rfl⟩
      obtain ⟨P, hP⟩ : ∃ u_, u_ = bothL M2 E2 := ⟨_, rfl⟩
      obtain ⟨MH, hMH⟩ : ∃ u_, u_ = bothL M3 H := ⟨_, rfl⟩
      obtain ⟨E3, hE3⟩ : ∃ u_, u_ = eZ K 0 1 M4 := ⟨_, rfl⟩
      obtain ⟨PE, hPE⟩ : ∃ u_, u_ = bothL P E3 := ⟨_, rfl⟩
      obtain ⟨S, hS⟩ : ∃ u_, u_ = bothL MH PE := ⟨_, rfl⟩
      obtain ⟨E4, hE4⟩ : ∃ u_, u_ = eZ K (-1) 1 S := ⟨_, rfl⟩
      obtain ⟨T, hT⟩ : ∃ u_, u_ = bothL M4 E4 := ⟨_, rfl⟩
      obtain ⟨E5, hE5⟩ : ∃ u_, u_ = eZ K 1 1 A2 := ⟨_, rfl⟩
      obtain ⟨V, hV⟩ : ∃ u_, u_ = bothL A1 E5 := ⟨_, rfl⟩
      obtain ⟨E6, hE6⟩ : ∃ u_, u_ = eZ K 0 0 V := ⟨_, rfl⟩
      obtain ⟨Q, hQ⟩ : ∃ u_, u_ = bothL A2 E6 := ⟨_, rfl⟩
      obtain ⟨WQ, hWQ⟩ : ∃ u_, u_ = bothL W Q := ⟨_, rfl⟩
      obtain ⟨ST, hST⟩ : ∃ u_, u_ = bothL S T := ⟨_, rfl⟩
      obtain ⟨E7, hE7⟩ : ∃ u_, u_ = eZ K 2 1 ST := ⟨_, rfl⟩
      obtain ⟨PV, hPV⟩ : ∃ u_, u_ = bothL P V := ⟨_, rfl⟩
      have e3 : WQ = E7 ∧ PV = WQ := by
        subst hPV; subst hE7; subst hST; subst hWQ; subst hQ; subst hE6; subst hV; subst hE5; subst hT; subst hE4; subst hS; subst hPE; subst hE3; subst hMH; subst hP; subst hE2; subst hW; subst hE1; subst hA2; subst hA1; subst hM4; subst hM3; subst hM2; subst hM1; subst hO
        exact e2
      have lE1 : E1.length = 16 := by rw [hE1]; exact eZ_length _ _ _ _
      have lW : W.length = 16 := by rw [hW]; exact bothL_length _ _
      have lE2 : E2.length = 16 := by rw [hE2]; exact eZ_length _ _ _ _
      have lP : P.length = 16 := by rw [hP]; exact bothL_length _ _
      have lMH : MH.length = 16 := by rw [hMH]; exact bothL_length _ _
      have lE3 : E3.length = 16 := by rw [hE3]; exact eZ_length _ _ _ _
      have lPE : PE.length = 16 := by rw [hPE]; exact bothL_length _ _
      have lS : S.length = 16 := by rw [hS]; exact bothL_length _ _
      have lE4 : E4.length = 16 := by rw [hE4]; exact eZ_length _ _ _ _
      have lT : T.length = 16 := by rw [hT]; exact bothL_length _ _
      have lE5 : E5.length = 16 := by rw [hE5]; exact eZ_length _ _ _ _
      have lV : V.length = 16 := by rw [hV]; exact bothL_length _ _
      have lE6 : E6.length = 16 := by rw [hE6]; exact eZ_length _ _ _ _
      have lQ : Q.length = 16 := by rw [hQ]; exact bothL_length _ _
      have lWQ : WQ.length = 16 := by rw [hWQ]; exact bothL_length _ _
      have lST : ST.length = 16 := by rw [hST]; exact bothL_length _ _
      have lE7 : E7.length = 16 := by rw [hE7]; exact eZ_length _ _ _ _
      have lPV : PV.length = 16 := by rw [hPV]; exact bothL_length _ _
      have CE1 := Lib.hid fun (w : World) (g : Nat) (h : KeyR w g K) => hE1 ▸ h.e 1 1 M2 lM2 (by omega) (by omega)
      have CW := Lib.hid fun (w : World) => hW ▸ plus20_any M1 E1 lM1 lE1 w
      have CE2 := Lib.hid fun (w : World) (g : Nat) (h : KeyR w g K) => hE2 ▸ h.e 0 0 W lW (by omega) (by omega)
      have CP := Lib.hid fun (w : World) => hP ▸ plus20_any M2 E2 lM2 lE2 w
      have CMH := Lib.hid fun (w : World) => hMH ▸ plus20_any M3 H lM3 lH w
      have CE3 := Lib.hid fun (w : World) (g : Nat) (h : KeyR w g K) => hE3 ▸ h.e 0 1 M4 lM4 (by omega) (by omega)
      have CPE := Lib.hid fun (w : World) => hPE ▸ plus20_any P E3 lP lE3 w
      have CS := Lib.hid fun (w : World) => hS ▸ plus20_any MH PE lMH lPE w
      have CE4 := Lib.hid fun (w : World) (g : Nat) (h : KeyR w g K) => hE4 ▸ h.e (-1) 1 S lS (by omega) (by omega)
      have CT := Lib.hid fun (w : World) => hT ▸ plus20_any M4 E4 lM4 lE4 w
      have CE5 := Lib.hid fun (w : World) (g : Nat) (h : KeyR w g K) => hE5 ▸ h.e 1 1 A2 lA2 (by omega) (by omega)
      have CV := Lib.hid fun (w : World) => hV ▸ plus20_any A1 E5 lA1 lE5 w
      have CE6 := Lib.hid fun (w : World) (g : Nat) (h : KeyR w g K) => hE6 ▸ h.e 0 0 V lV (by omega) (by omega)
      have CQ := Lib.hid fun (w : World) => hQ ▸ plus20_any A2 E6 lA2 lE6 w
      have CWQ := Lib.hid fun (w : World) => hWQ ▸ plus20_any W Q lW lQ w
      have CST := Lib.hid fun (w : World) => hST ▸ plus20_any S T lS lT w
      have CE7 := Lib.hid fun (w : World) (g : Nat) (h : KeyR w g K) => show Gives Tryd.prog 29 #[.pointer (some ⟨g, 0, none⟩), .int .i64 2, .int .i64 1, A8 ST] w (A8 WQ) from by rw [e3.1, hE7]; exact h.e 2 1 ST lST (by omega) (by omega)
      have CPV := Lib.hid fun (w : World) => show Gives Tryd.prog 37 #[A8 P, A8 V] w (A8 WQ) from by rw [← e3.2, hPV]; exact plus20_any P V lP lV w
      have G1 := Lib.hid fun (w : World) (g : Nat) (h : KeyR w g K) (h' : RdR w q ls) => hH ▸ hhash_any (.pointer (some ⟨g, 0, none⟩)) rfl rfl (eZ K) (eZ_length K) ls q d w h' hld (by omega) g3 (fun wx hx j m x e1 e2 e3 => (h.ext hx).e j m x e1 e2 e3)
      have T1 := Lib.hid fun (w : World) (g : Nat) (h : KeyR w g K) (hq : RdR w q ls) (hr : RdB w r m) => show Calls Tryd.prog 35 #[.pointer (some ⟨g, 0, none⟩), .slice q ls.length d, .slice r 64 f, .bool false] w fun e w' => ∃ px cx, e = .returned (.tuple #[.slice px 64 cx, .int .i64 0]) ∧ 64 ≤ cx ∧ RdB w' px O ∧ Ext w w' from by
        have := cturn_ok g (eZ K) (eZ_length K) ls q d m r f false 1 2 (.inl ⟨rfl, rfl, rfl⟩) w hq hld (by omega) g3 hr hrf (by omega) f3 (fun wx hx j m x e1 e2 e3 => (h.ext hx).e j m x e1 e2 e3)
        rw [hO, hH]
        rwa [h64] at this
      clear h64 e2 e3 hO hH hM1 hM2 hM3 hM4 hA1 hA2 lO g3 f1 hE1 hW hE2 hP hMH hE3 hPE hS hE4 hT hE5 hV hE6 hQ hWQ hST hE7 hPV
      go_enter Tryd.func12, Tryd.ntmps12
      go_wp2_with (first | (go_at_call 33; (with_reducible refine (TR.out _ hm.x).mono ?_); rintro e_ w ⟨rfl, hx_⟩; replace hm := hm.ext hx_; clear hx_) | ((with_reducible show wpList _ _ _ (Oper.mk _ (Op.load _ _) _ _ _ _ :: _) _ _); first | ((with_reducible apply wq_ldW hm); (exact rfl); infer_instance; (exact rfl); (focus ((repeat (first | exact .hd | assumption | apply Has.tl)); done)); (focus (first | rfl | omega | (simp; done) | (simp; omega) | fail))) | ((with_reducible apply wq_ld1 hm); (exact rfl); infer_instance; (exact rfl); (focus ((repeat (first | exact .hd | assumption | apply Has.tl)); done)); (exact rfl)) | fail) | ((first | ((with_reducible show wpList _ _ _ (Oper.mk _ (Op.box _ _) _ _ _ _ :: _) _ _); first | ((with_reducible apply wq_boxN hm); (exact rfl); (exact rfl)) | fail)); clear hm; (first | (have hx_ := g1; clear hx_; (first | (have hx_ := g2; clear hx_; (first | (have hx_ := g3; clear hx_; (first | (have hx_ := g4; clear hx_; (first | (have hx_ := g5; clear hx_; (first | (have hx_ := g6; clear hx_; (first | (have hx_ := g7; clear hx_; (first | (have hx_ := g8; clear hx_; (first | (have hx_ := g9; clear hx_; intro g10) | intro g9)) | intro g8)) | intro g7)) | intro g6)) | intro g5)) | intro g4)) | intro g3)) | intro g2)) | intro g1); intro w hm) | fail)
      refine (KO.out _ (HK.out.ext hm.x) (HC.out.ext hm.x) (HB.out.ext hm.x)).mono ?_
      rintro e w ⟨g, gt, gb, rfl, hg_, hgt_, hne_, hrk_, hrt_, hx_⟩
      replace hm := hm.push2 hx_ hgt_ hrt_ hg_ hrk_ hne_
      clear hx_ hg_ hgt_ hne_ hrk_ hrt_
      go_wp2_with (first | ((with_reducible show wpList _ _ _ (Oper.mk _ (Op.load _ _) _ _ _ _ :: _) _ _); first | ((with_reducible apply wq_ld1 hm); (exact rfl); infer_instance; (exact rfl); (focus ((repeat (first | exact .hd | assumption | apply Has.tl)); done)); (exact rfl)) | fail) | fail)
      refine (T1.out _ g (KeyR.own (gt := gt) (gb := gb) OKK.out hm (by repeat (first | exact Has.hd | assumption | apply Has.tl)) (by repeat (first | exact Has.hd | assumption | apply Has.tl))) (HL.out.ext hm.x) (HM.out.ext hm.x)).mono ?_
      rintro e w ⟨px, cx, rfl, hcx, hrx, hx_⟩
      replace hm := hm.ext hx_
      have HRX0 := Lib.hid hrx
      clear hx_ hrx
      go_wp2_with (first | ((with_reducible show wpList _ _ _ (Oper.mk _ (Op.load _ _) _ _ _ _ :: _) _ _); first | ((with_reducible apply wq_ld1 hm); (exact rfl); infer_instance; (exact rfl); (focus ((repeat (first | exact .hd | assumption | apply Has.tl)); done)); (exact rfl)) | fail) | fail)
      refine (G1.out _ g (KeyR.own (gt := gt) (gb := gb) OKK.out hm (by repeat (first | exact Has.hd | assumption | apply Has.tl)) (by repeat (first | exact Has.hd | assumption | apply Has.tl))) (HL.out.ext hm.x)).mono ?_
      rintro e w1 ⟨rfl, hx_⟩
      replace hm := hm.ext hx_
      have HRX := Lib.hid (HRX0.out.ext hx_)
      have KZ := Lib.hid (KeyR.own (g := g) (gt := gt) (gb := gb) OKK.out hm (by repeat (first | exact Has.hd | assumption | apply Has.tl)) (by repeat (first | exact Has.hd | assumption | apply Has.tl)))
      have TX := Lib.hid (hm.row (g := g1) (by repeat (first | exact Has.hd | assumption | apply Has.tl)))
      have hx1 := hm.x
      clear hx_ HRX0 hm
      have hm := Own.start w1
      obtain ⟨w, hw⟩ : ∃ v, v = w1 := ⟨_, rfl⟩
      go_wp2_with (first | ((((with_reducible show wpList _ _ _ (Oper.mk _ (Op.store _ _ _) _ _ _ _ :: _) _ _); first | ((with_reducible apply wq_stW hm); (exact rfl); infer_instance; (exact rfl); (exact rfl); (focus ((repeat (first | exact .hd | assumption | apply Swap.tl)); done)); (focus (first | rfl | omega | (simp; done) | (simp; omega) | fail)); (focus (first | rfl | omega | (simp; done) | (simp; omega) | fail)); (focus (first | exact one_map _ | (simp [one8, one32, one64]; done) | fail))) | fail)); clear hm; intro w hm) | ((first | ((with_reducible show wpList _ _ _ (Oper.mk _ (Op.alloc _) _ _ _ _ :: _) _ _); first | ((with_reducible apply wq_new hm); (exact rfl); infer_instance) | fail)); clear hm; (first | (have hx_ := g1; clear hx_; (first | (have hx_ := g2; clear hx_; (first | (have hx_ := g3; clear hx_; (first | (have hx_ := g4; clear hx_; (first | (have hx_ := g5; clear hx_; (first | (have hx_ := g6; clear hx_; (first | (have hx_ := g7; clear hx_; (first | (have hx_ := g8; clear hx_; (first | (have hx_ := g9; clear hx_; intro g10) | intro g9)) | intro g8)) | intro g7)) | intro g6)) | intro g5)) | intro g4)) | intro g3)) | intro g2)) | intro g1); intro w hm) | fail)
      have kr := fun wx (hwx : Ext _ wx) => KZ.out.ext (hm.x.trans hwx)
      have hx0 := hm.x
      refine region_new 10 (fun w' => Ext _ w') 123 (by kernel_rfl) (by kernel_rfl) rfl (fun _ _ h k => h.trans k) (drew_ext _) ?_
      simp only [List.take_succ_cons, List.take_zero, List.drop_succ_cons, List.drop_zero, List.map_cons, List.map_nil]
      repeat (first
          | (apply walk_some (NewS (w.heap.size) 27 ((zer 16).map v8)) 8 (NewS.stable _ _ _) rfl rfl rfl rfl
             · (intro wx hwx; go_simp; exact gives_new (cs := (zer 16).map v8) hwx.size))
          | (apply walk_is rfl rfl rfl
             · (intro wx hwx; (with_reducible apply gq_row1 ((fun wx hwx => row_ext TX.out (hx0.trans hwx)) wx hwx)); infer_instance; (exact rfl); (exact rfl))
             · (simp only [Act.put, List.setIfInBounds_toArray, List.set_cons_succ, List.set_cons_zero]; rfl))
          | (apply walk_is rfl rfl rfl
             · (intro wx hwx; first | ((with_reducible show gives _ _ _ (Sem.run _ (execOp _ (Oper.mk _ (Op.load _ _) _ _ _ _)) _)); first | ((with_reducible apply gq_ldv (hm.ext hwx)); infer_instance; (exact rfl); (focus ((repeat (first | exact .hd | assumption | apply Has.tl)); done)); (focus (first | omega | (simp; omega) | (refine Nat.lt_of_lt_of_le (BitVec.isLt _) ?_; first | omega | (simp; done) | (simp; omega) | fail) | fail))) | ((with_reducible apply gq_ldW (hm.ext hwx)); infer_instance; (exact rfl); (focus ((repeat (first | exact .hd | assumption | apply Has.tl)); done)); (focus (first | rfl | omega | (simp; done) | (simp; omega) | fail))) | ((with_reducible apply gq_ld1 (hm.ext hwx)); infer_instance; (exact rfl); (focus ((repeat (first | exact .hd | assumption | apply Has.tl)); done)); (exact rfl)) | fail) | (go_simp; (try go_bits); first | exact gives_same | exact gives_skip | with_reducible exact gives_call (B1.out wx (hx1.trans (hx0.trans hwx))) | with_reducible exact gives_call (B2.out wx (hx1.trans (hx0.trans hwx))) | with_reducible exact gives_call (CE1.out wx g (kr wx hwx)) | with_reducible exact gives_call (CW.out wx)))
             · (simp only [Act.put, List.setIfInBounds_toArray, List.set_cons_succ, List.set_cons_zero]; rfl))
          | (apply walk_not rfl rfl rfl
             · (simp only [Act.put, List.setIfInBounds_toArray, List.set_cons_succ, List.set_cons_zero]; rfl)))
      intro wz hwz
      simp only [List.zip_cons_cons, List.zip_nil_right]
      repeat rw [fin_is]
      rw [fin_cons]; intro x8 hx8
      repeat rw [fin_is]
      rw [fin_nil]; intro hap
      simp only [Act.put, List.setIfInBounds_toArray, List.set_cons_succ, List.set_cons_zero] at hap ⊢
      obtain ⟨g8_, rfl, hg8, hr8⟩ := hx8
      replace hm := hm.push hwz hg8 hr8
      clear hap hr8
      clear kr hx0
      go_wp2_with (first | ((((with_reducible show wpList _ _ _ (Oper.mk _ (Op.store _ _ _) _ _ _ _ :: _) _ _); first | ((with_reducible apply wq_stW hm); (exact rfl); infer_instance; (exact rfl); (exact rfl); (focus ((repeat (first | exact .hd | assumption | apply Swap.tl)); done)); (focus (first | rfl | omega | (simp; done) | (simp; omega) | fail)); (focus (first | rfl | omega | (simp; done) | (simp; omega) | fail)); (focus (first | exact one_map _ | (simp [one8, one32, one64]; done) | fail))) | fail)); clear hm; intro w hm) | fail)
      have kr := fun wx (hwx : Ext _ wx) => KZ.out.ext (hm.x.trans hwx)
      have hx0 := hm.x
      refine region_new 8 (fun w' => Ext _ w') 123 (by kernel_rfl) (by kernel_rfl) rfl (fun _ _ h k => h.trans k) (drew_ext _) ?_
      simp only [List.take_succ_cons, List.take_zero, List.drop_succ_cons, List.drop_zero, List.map_cons, List.map_nil]
      repeat (first
          | (apply walk_some (NewS (w.heap.size) 27 ((zer 16).map v8)) 9 (NewS.stable _ _ _) rfl rfl rfl rfl
             · (intro wx hwx; go_simp; exact gives_new (cs := (zer 16).map v8) hwx.size))
          | (apply walk_is rfl rfl rfl
             · (intro wx hwx; (with_reducible apply gq_row1 ((fun wx hwx => row_ext TX.out (hx0.trans hwx)) wx hwx)); infer_instance; (exact rfl); (exact rfl))
             · (simp only [Act.put, List.setIfInBounds_toArray, List.set_cons_succ, List.set_cons_zero]; rfl))
          | (apply walk_is rfl rfl rfl
             · (intro wx hwx; first | ((with_reducible show gives _ _ _ (Sem.run _ (execOp _ (Oper.mk _ (Op.load _ _) _ _ _ _)) _)); first | ((with_reducible apply gq_ldv (hm.ext hwx)); infer_instance; (exact rfl); (focus ((repeat (first | exact .hd | assumption | apply Has.tl)); done)); (focus (first | omega | (simp; omega) | (refine Nat.lt_of_lt_of_le (BitVec.isLt _) ?_; first | omega | (simp; done) | (simp; omega) | fail) | fail))) | ((with_reducible apply gq_ldW (hm.ext hwx)); infer_instance; (exact rfl); (focus ((repeat (first | exact .hd | assumption | apply Has.tl)); done)); (focus (first | rfl | omega | (simp; done) | (simp; omega) | fail))) | ((with_reducible apply gq_ld1 (hm.ext hwx)); infer_instance; (exact rfl); (focus ((repeat (first | exact .hd | assumption | apply Has.tl)); done)); (exact rfl)) | fail) | (go_simp; (try go_bits); first | exact gives_same | exact gives_skip | with_reducible exact gives_call (B2.out wx (hx1.trans (hx0.trans hwx))) | with_reducible exact gives_call (CE2.out wx g (kr wx hwx)) | with_reducible exact gives_call (CP.out wx)))
             · (simp only [Act.put, List.setIfInBounds_toArray, List.set_cons_succ, List.set_cons_zero]; rfl))
          | (apply walk_not rfl rfl rfl
             · (simp only [Act.put, List.setIfInBounds_toArray, List.set_cons_succ, List.set_cons_zero]; rfl)))
      intro wz hwz
      simp only [List.zip_cons_cons, List.zip_nil_right]
      repeat rw [fin_is]
      rw [fin_cons]; intro x9 hx9
      repeat rw [fin_is]
      rw [fin_nil]; intro hap
      simp only [Act.put, List.setIfInBounds_toArray, List.set_cons_succ, List.set_cons_zero] at hap ⊢
      obtain ⟨g9_, rfl, hg9, hr9⟩ := hx9
      replace hm := hm.push hwz hg9 hr9
      clear hap hr9
      clear kr hx0
      go_wp2_with (first | ((((with_reducible show wpList _ _ _ (Oper.mk _ (Op.store _ _ _) _ _ _ _ :: _) _ _); first | ((with_reducible apply wq_stW hm); (exact rfl); infer_instance; (exact rfl); (exact rfl); (focus ((repeat (first | exact .hd | assumption | apply Swap.tl)); done)); (focus (first | rfl | omega | (simp; done) | (simp; omega) | fail)); (focus (first | rfl | omega | (simp; done) | (simp; omega) | fail)); (focus (first | exact one_map _ | (simp [one8, one32, one64]; done) | fail))) | fail)); clear hm; intro w hm) | fail)
      have kr := fun wx (hwx : Ext _ wx) => KZ.out.ext (hm.x.trans hwx)
      have hx0 := hm.x
      refine region_new 14 (fun w' => Ext _ w') 123 (by kernel_rfl) (by kernel_rfl) rfl (fun _ _ h k => h.trans k) (drew_ext _) ?_
      simp only [List.take_succ_cons, List.take_zero, List.drop_succ_cons, List.drop_zero, List.map_cons, List.map_nil]
      repeat (first
          | (apply walk_some (NewS (w.heap.size) 27 ((zer 16).map v8)) 10 (NewS.stable _ _ _) rfl rfl rfl rfl
             · (intro wx hwx; go_simp; exact gives_new (cs := (zer 16).map v8) hwx.size))
          | (apply walk_is rfl rfl rfl
             · (intro wx hwx; (with_reducible apply gq_row1 ((fun wx hwx => row_ext TX.out (hx0.trans hwx)) wx hwx)); infer_instance; (exact rfl); (exact rfl))
             · (simp only [Act.put, List.setIfInBounds_toArray, List.set_cons_succ, List.set_cons_zero]; rfl))
          | (apply walk_is rfl rfl rfl
             · (intro wx hwx; first | ((with_reducible show gives _ _ _ (Sem.run _ (execOp _ (Oper.mk _ (Op.load _ _) _ _ _ _)) _)); first | ((with_reducible apply gq_ldv (hm.ext hwx)); infer_instance; (exact rfl); (focus ((repeat (first | exact .hd | assumption | apply Has.tl)); done)); (focus (first | omega | (simp; omega) | (refine Nat.lt_of_lt_of_le (BitVec.isLt _) ?_; first | omega | (simp; done) | (simp; omega) | fail) | fail))) | ((with_reducible apply gq_ldW (hm.ext hwx)); infer_instance; (exact rfl); (focus ((repeat (first | exact .hd | assumption | apply Has.tl)); done)); (focus (first | rfl | omega | (simp; done) | (simp; omega) | fail))) | ((with_reducible apply gq_ld1 (hm.ext hwx)); infer_instance; (exact rfl); (focus ((repeat (first | exact .hd | assumption | apply Has.tl)); done)); (exact rfl)) | fail) | (go_simp; (try go_bits); first | exact gives_same | exact gives_skip | with_reducible exact gives_call (B3.out wx (hx1.trans (hx0.trans hwx))) | with_reducible exact gives_call (CMH.out wx) | with_reducible exact gives_call (B4.out wx (hx1.trans (hx0.trans hwx))) | with_reducible exact gives_call (CE3.out wx g (kr wx hwx)) | with_reducible exact gives_call (CPE.out wx) | with_reducible exact gives_call (CS.out wx)))
             · (simp only [Act.put, List.setIfInBounds_toArray, List.set_cons_succ, List.set_cons_zero]; rfl))
          | (apply walk_not rfl rfl rfl
             · (simp only [Act.put, List.setIfInBounds_toArray, List.set_cons_succ, List.set_cons_zero]; rfl)))
      intro wz hwz
      simp only [List.zip_cons_cons, List.zip_nil_right]
      repeat rw [fin_is]
      rw [fin_cons]; intro x10 hx10
      repeat rw [fin_is]
      rw [fin_nil]; intro hap
      simp only [Act.put, List.setIfInBounds_toArray, List.set_cons_succ, List.set_cons_zero] at hap ⊢
      obtain ⟨g10_, rfl, hg10, hr10⟩ := hx10
      replace hm := hm.push hwz hg10 hr10
      clear hap hr10
      clear kr hx0
      go_wp2_with (first | ((((with_reducible show wpList _ _ _ (Oper.mk _ (Op.store _ _ _) _ _ _ _ :: _) _ _); first | ((with_reducible apply wq_stW hm); (exact rfl); infer_instance; (exact rfl); (exact rfl); (focus ((repeat (first | exact .hd | assumption | apply Swap.tl)); done)); (focus (first | rfl | omega | (simp; done) | (simp; omega) | fail)); (focus (first | rfl | omega | (simp; done) | (simp; omega) | fail)); (focus (first | exact one_map _ | (simp [one8, one32, one64]; done) | fail))) | fail)); clear hm; intro w hm) | fail)
      have kr := fun wx (hwx : Ext _ wx) => KZ.out.ext (hm.x.trans hwx)
      have hx0 := hm.x
      refine region_new 8 (fun w' => Ext _ w') 123 (by kernel_rfl) (by kernel_rfl) rfl (fun _ _ h k => h.trans k) (drew_ext _) ?_
      simp only [List.take_succ_cons, List.take_zero, List.drop_succ_cons, List.drop_zero, List.map_cons, List.map_nil]
      repeat (first
          | (apply walk_some (NewS (w.heap.size) 27 ((zer 16).map v8)) 11 (NewS.stable _ _ _) rfl rfl rfl rfl
             · (intro wx hwx; go_simp; exact gives_new (cs := (zer 16).map v8) hwx.size))
          | (apply walk_is rfl rfl rfl
             · (intro wx hwx; (with_reducible apply gq_row1 ((fun wx hwx => row_ext TX.out (hx0.trans hwx)) wx hwx)); infer_instance; (exact rfl); (exact rfl))
             · (simp only [Act.put, List.setIfInBounds_toArray, List.set_cons_succ, List.set_cons_zero]; rfl))
          | (apply walk_is rfl rfl rfl
             · (intro wx hwx; first | ((with_reducible show gives _ _ _ (Sem.run _ (execOp _ (Oper.mk _ (Op.load _ _) _ _ _ _)) _)); first | ((with_reducible apply gq_ldv (hm.ext hwx)); infer_instance; (exact rfl); (focus ((repeat (first | exact .hd | assumption | apply Has.tl)); done)); (focus (first | omega | (simp; omega) | (refine Nat.lt_of_lt_of_le (BitVec.isLt _) ?_; first | omega | (simp; done) | (simp; omega) | fail) | fail))) | ((with_reducible apply gq_ldW (hm.ext hwx)); infer_instance; (exact rfl); (focus ((repeat (first | exact .hd | assumption | apply Has.tl)); done)); (focus (first | rfl | omega | (simp; done) | (simp; omega) | fail))) | ((with_reducible apply gq_ld1 (hm.ext hwx)); infer_instance; (exact rfl); (focus ((repeat (first | exact .hd | assumption | apply Has.tl)); done)); (exact rfl)) | fail) | (go_simp; (try go_bits); first | exact gives_same | exact gives_skip | with_reducible exact gives_call (B4.out wx (hx1.trans (hx0.trans hwx))) | with_reducible exact gives_call (CE4.out wx g (kr wx hwx)) | with_reducible exact gives_call (CT.out wx)))
             · (simp only [Act.put, List.setIfInBounds_toArray, List.set_cons_succ, List.set_cons_zero]; rfl))
          | (apply walk_not rfl rfl rfl
             · (simp only [Act.put, List.setIfInBounds_toArray, List.set_cons_succ, List.set_cons_zero]; rfl)))
      intro wz hwz
      simp only [List.zip_cons_cons, List.zip_nil_right]
      repeat rw [fin_is]
      rw [fin_cons]; intro x11 hx11
      repeat rw [fin_is]
      rw [fin_nil]; intro hap
      simp only [Act.put, List.setIfInBounds_toArray, List.set_cons_succ, List.set_cons_zero] at hap ⊢
      obtain ⟨g11_, rfl, hg11, hr11⟩ := hx11
      replace hm := hm.push hwz hg11 hr11
      clear hap hr11
      clear kr hx0
      go_wp2_with (first | ((((with_reducible show wpList _ _ _ (Oper.mk _ (Op.store _ _ _) _ _ _ _ :: _) _ _); first | ((with_reducible apply wq_stW hm); (exact rfl); infer_instance; (exact rfl); (exact rfl); (focus ((repeat (first | exact .hd | assumption | apply Swap.tl)); done)); (focus (first | rfl | omega | (simp; done) | (simp; omega) | fail)); (focus (first | rfl | omega | (simp; done) | (simp; omega) | fail)); (focus (first | exact one_map _ | (simp [one8, one32, one64]; done) | fail))) | fail)); clear hm; intro w hm) | fail)
      go_wp2_with (first | (go_at_call 38; (with_reducible refine (B5.out _ px cx (HRX.out.ext hm.x)).mono ?_); rintro e_ w ⟨rfl, hx_⟩; replace hm := hm.ext hx_; clear hx_) | (go_at_call 38; (with_reducible refine (B6.out _ px cx (HRX.out.ext hm.x)).mono ?_); rintro e_ w ⟨rfl, hx_⟩; replace hm := hm.ext hx_; clear hx_) | (go_at_call 29; (with_reducible refine (CE5.out _ g (KZ.out.ext hm.x)).mono ?_); rintro e_ w ⟨rfl, hx_⟩; replace hm := hm.ext hx_; clear hx_) | (go_at_call 37; (with_reducible refine (CV.out _).mono ?_); rintro e_ w ⟨rfl, hx_⟩; replace hm := hm.ext hx_; clear hx_) | ((((with_reducible show wpList _ _ _ (Oper.mk _ (Op.store _ _ _) _ _ _ _ :: _) _ _); first | ((with_reducible apply wq_stW hm); (exact rfl); infer_instance; (exact rfl); (exact rfl); (focus ((repeat (first | exact .hd | assumption | apply Swap.tl)); done)); (focus (first | rfl | omega | (simp; done) | (simp; omega) | fail)); (focus (first | rfl | omega | (simp; done) | (simp; omega) | fail)); (focus (first | exact one_map _ | (simp [one8, one32, one64]; done) | fail))) | fail)); clear hm; intro w hm) | ((first | ((with_reducible show wpList _ _ _ (Oper.mk _ (Op.alloc _) _ _ _ _ :: _) _ _); first | ((with_reducible apply wq_new hm); (exact rfl); infer_instance) | fail)); clear hm; (first | (have hx_ := g1; clear hx_; (first | (have hx_ := g2; clear hx_; (first | (have hx_ := g3; clear hx_; (first | (have hx_ := g4; clear hx_; (first | (have hx_ := g5; clear hx_; (first | (have hx_ := g6; clear hx_; (first | (have hx_ := g7; clear hx_; (first | (have hx_ := g8; clear hx_; (first | (have hx_ := g9; clear hx_; intro g10) | intro g9)) | intro g8)) | intro g7)) | intro g6)) | intro g5)) | intro g4)) | intro g3)) | intro g2)) | intro g1); intro w hm) | fail)
      have kr := fun wx (hwx : Ext _ wx) => KZ.out.ext (hm.x.trans hwx)
      have hx0 := hm.x
      refine region_new 7 (fun w' => Ext _ w') 123 (by kernel_rfl) (by kernel_rfl) rfl (fun _ _ h k => h.trans k) (drew_ext _) ?_
      simp only [List.take_succ_cons, List.take_zero, List.drop_succ_cons, List.drop_zero, List.map_cons, List.map_nil]
      repeat (first
          | (apply walk_some (NewS (w.heap.size) 27 ((zer 16).map v8)) 13 (NewS.stable _ _ _) rfl rfl rfl rfl
             · (intro wx hwx; go_simp; exact gives_new (cs := (zer 16).map v8) hwx.size))
          | (apply walk_is rfl rfl rfl
             · (intro wx hwx; first | ((with_reducible show gives _ _ _ (Sem.run _ (execOp _ (Oper.mk _ (Op.load _ _) _ _ _ _)) _)); first | ((with_reducible apply gq_ldv (hm.ext hwx)); infer_instance; (exact rfl); (focus ((repeat (first | exact .hd | assumption | apply Has.tl)); done)); (focus (first | omega | (simp; omega) | (refine Nat.lt_of_lt_of_le (BitVec.isLt _) ?_; first | omega | (simp; done) | (simp; omega) | fail) | fail))) | ((with_reducible apply gq_ldW (hm.ext hwx)); infer_instance; (exact rfl); (focus ((repeat (first | exact .hd | assumption | apply Has.tl)); done)); (focus (first | rfl | omega | (simp; done) | (simp; omega) | fail))) | ((with_reducible apply gq_ld1 (hm.ext hwx)); infer_instance; (exact rfl); (focus ((repeat (first | exact .hd | assumption | apply Has.tl)); done)); (exact rfl)) | fail) | (go_simp; (try go_bits); first | exact gives_same | exact gives_skip | with_reducible exact gives_call (B6.out wx px cx (HRX.out.ext (hx0.trans hwx))) | with_reducible exact gives_call (CE6.out wx g (kr wx hwx)) | with_reducible exact gives_call (CQ.out wx)))
             · (simp only [Act.put, List.setIfInBounds_toArray, List.set_cons_succ, List.set_cons_zero]; rfl))
          | (apply walk_not rfl rfl rfl
             · (simp only [Act.put, List.setIfInBounds_toArray, List.set_cons_succ, List.set_cons_zero]; rfl)))
      intro wz hwz
      simp only [List.zip_cons_cons, List.zip_nil_right]
      repeat rw [fin_is]
      rw [fin_cons]; intro x13 hx13
      repeat rw [fin_is]
      rw [fin_nil]; intro hap
      simp only [Act.put, List.setIfInBounds_toArray, List.set_cons_succ, List.set_cons_zero] at hap ⊢
      obtain ⟨g13_, rfl, hg13, hr13⟩ := hx13
      replace hm := hm.push hwz hg13 hr13
      clear hap hr13
      clear kr hx0
      go_wp2_with (first | ((((with_reducible show wpList _ _ _ (Oper.mk _ (Op.store _ _ _) _ _ _ _ :: _) _ _); first | ((with_reducible apply wq_stW hm); (exact rfl); infer_instance; (exact rfl); (exact rfl); (focus ((repeat (first | exact .hd | assumption | apply Swap.tl)); done)); (focus (first | rfl | omega | (simp; done) | (simp; omega) | fail)); (focus (first | rfl | omega | (simp; done) | (simp; omega) | fail)); (focus (first | exact one_map _ | (simp [one8, one32, one64]; done) | fail))) | fail)); clear hm; intro w hm) | fail)
      have kr := fun wx (hwx : Ext _ wx) => KZ.out.ext (hm.x.trans hwx)
      have hx0 := hm.x
      refine region_at 21 (fun w' => Ext _ w') 123 (by kernel_rfl) (by kernel_rfl) rfl (fun _ _ h k => h.trans k) (drew_ext _) ?_
      simp only [List.take_succ_cons, List.take_zero, List.drop_succ_cons, List.drop_zero, List.map_cons, List.map_nil]
      repeat (first
          | (apply walk_is rfl rfl rfl
             · (intro wx hwx; first | ((with_reducible show gives _ _ _ (Sem.run _ (execOp _ (Oper.mk _ (Op.load _ _) _ _ _ _)) _)); first | ((with_reducible apply gq_ldv (hm.ext hwx)); infer_instance; (exact rfl); (focus ((repeat (first | exact .hd | assumption | apply Has.tl)); done)); (focus (first | omega | (simp; omega) | (refine Nat.lt_of_lt_of_le (BitVec.isLt _) ?_; first | omega | (simp; done) | (simp; omega) | fail) | fail))) | ((with_reducible apply gq_ldW (hm.ext hwx)); infer_instance; (exact rfl); (focus ((repeat (first | exact .hd | assumption | apply Has.tl)); done)); (focus (first | rfl | omega | (simp; done) | (simp; omega) | fail))) | ((with_reducible apply gq_ld1 (hm.ext hwx)); infer_instance; (exact rfl); (focus ((repeat (first | exact .hd | assumption | apply Has.tl)); done)); (exact rfl)) | fail) | (go_simp; (try go_bits); first | exact gives_same | exact gives_skip | with_reducible exact gives_call (CWQ.out wx) | with_reducible exact gives_call (CST.out wx) | with_reducible exact gives_call (CE7.out wx g (kr wx hwx)) | with_reducible exact gives_call (CPV.out wx) | with_reducible exact gives_call (AW.out wx (hx1.trans (hx0.trans hwx)))))
             · (simp only [Act.put, List.setIfInBounds_toArray, List.set_cons_succ, List.set_cons_zero]; rfl))
          | (apply walk_not rfl rfl rfl
             · (simp only [Act.put, List.setIfInBounds_toArray, List.set_cons_succ, List.set_cons_zero]; rfl)))
      intro wz hwz
      simp only [List.zip_cons_cons, List.zip_nil_right]
      repeat (first | rw [fin_is] | (rw [fin_cons]; intro _ _))
      rw [fin_nil]
      try (replace hm := hm.ext hwz)
      simp only [Act.put, List.setIfInBounds_toArray, List.set_cons_succ, List.set_cons_zero]
      clear kr hx0
      go_wp2_with fail
      go_ret
      exact ⟨rfl, hx1.trans hm.x⟩
    · have a1 : ((m.length : Int) == 64) = false := by rw [beq_eq_false_iff_ne]; omega
      have a2 : ¬ (m.length : Int) = 64 := by omega
      go_enter Tryd.func12, Tryd.ntmps12
      go_wp2_with (first | (go_at_call 33; (with_reducible refine (TR.out _ hm.x).mono ?_); rintro e_ w ⟨rfl, hx_⟩; replace hm := hm.ext hx_; clear hx_) | ((with_reducible show wpList _ _ _ (Oper.mk _ (Op.load _ _) _ _ _ _ :: _) _ _); first | ((with_reducible apply wq_ldW hm); (exact rfl); infer_instance; (exact rfl); (focus ((repeat (first | exact .hd | assumption | apply Has.tl)); done)); (focus (first | rfl | omega | (simp; done) | (simp; omega) | fail))) | ((with_reducible apply wq_ld1 hm); (exact rfl); infer_instance; (exact rfl); (focus ((repeat (first | exact .hd | assumption | apply Has.tl)); done)); (exact rfl)) | fail) | ((first | ((with_reducible show wpList _ _ _ (Oper.mk _ (Op.box _ _) _ _ _ _ :: _) _ _); first | ((with_reducible apply wq_boxN hm); (exact rfl); (exact rfl)) | fail)); clear hm; (first | (have hx_ := g1; clear hx_; (first | (have hx_ := g2; clear hx_; (first | (have hx_ := g3; clear hx_; (first | (have hx_ := g4; clear hx_; (first | (have hx_ := g5; clear hx_; (first | (have hx_ := g6; clear hx_; (first | (have hx_ := g7; clear hx_; (first | (have hx_ := g8; clear hx_; (first | (have hx_ := g9; clear hx_; intro g10) | intro g9)) | intro g8)) | intro g7)) | intro g6)) | intro g5)) | intro g4)) | intro g3)) | intro g2)) | intro g1); intro w hm) | fail)
      go_ret
      exact ⟨rfl, hm.x⟩
  · have e : rightT key ls m.length = false := by cases h : rightT key ls m.length <;> simp_all
    rw [e] at TR
    go_enter Tryd.func12, Tryd.ntmps12
    go_wp2_with (first | (go_at_call 33; (with_reducible refine (TR.out _ hm.x).mono ?_); rintro e_ w ⟨rfl, hx_⟩; replace hm := hm.ext hx_; clear hx_) | ((with_reducible show wpList _ _ _ (Oper.mk _ (Op.load _ _) _ _ _ _ :: _) _ _); first | ((with_reducible apply wq_ldW hm); (exact rfl); infer_instance; (exact rfl); (focus ((repeat (first | exact .hd | assumption | apply Has.tl)); done)); (focus (first | rfl | omega | (simp; done) | (simp; omega) | fail))) | fail) | ((first | ((with_reducible show wpList _ _ _ (Oper.mk _ (Op.box _ _) _ _ _ _ :: _) _ _); first | ((with_reducible apply wq_boxN hm); (exact rfl); (exact rfl)) | fail)); clear hm; (first | (have hx_ := g1; clear hx_; (first | (have hx_ := g2; clear hx_; (first | (have hx_ := g3; clear hx_; (first | (have hx_ := g4; clear hx_; (first | (have hx_ := g5; clear hx_; (first | (have hx_ := g6; clear hx_; (first | (have hx_ := g7; clear hx_; (first | (have hx_ := g8; clear hx_; (first | (have hx_ := g9; clear hx_; intro g10) | intro g9)) | intro g8)) | intro g7)) | intro g6)) | intro g5)) | intro g4)) | intro g3)) | intro g2)) | intro g1); intro w hm) | fail)
    go_ret
    exact ⟨rfl, hm.x⟩

end Go.Proofs.YtmgopjeaehmbfaaDoor
