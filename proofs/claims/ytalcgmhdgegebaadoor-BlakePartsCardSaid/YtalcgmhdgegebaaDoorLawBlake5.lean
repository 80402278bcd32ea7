/-
  Layer 6: the statement on parts. Conditions: the program's first numbers and rows lie as its text lays them.
-/
import Derived.Test.YtalcgmhdgegebaaDoorLawBlake4
import Derived.Test.YtalcgmhdgegebaaDoorRb3
namespace Go.Proofs.YtalcgmhdgegebaaDoor
open Go Go.RowKit
set_option maxRecDepth 100000
set_option linter.unusedVariables false
set_option linter.unusedSimpArgs false

theorem perm_mid (X Y R : List Blk) : (X ++ (Y ++ R)).Perm (Y ++ (X ++ R)) := by
  rw [← List.append_assoc, ← List.append_assoc]; exact List.perm_append_comm.append_right R
theorem flat_take (ls : List (List Byte)) (k : Nat) (h : k < ls.length) : (ls.take (k + 1)).flatten = (ls.take k).flatten ++ ls.getD k [] := by
  rw [List.take_succ_eq_append_getElem h, List.flatten_append, List.getD_eq_getElem?_getD, List.getElem?_eq_getElem h]; simp
theorem flat_le (ls : List (List Byte)) (h : (ls.all fun l => decide (l.length ≤ 300)) = true) : ls.flatten.length ≤ 300 * ls.length := by
  induction ls with
  | nil => simp
  | cons l ls ih =>
    simp only [List.all_cons, Bool.and_eq_true, decide_eq_true_eq] at h
    have := ih h.2
    simp only [List.flatten_cons, List.length_append, List.length_cons]; omega
theorem flat_take_le (ls : List (List Byte)) (k : Nat) (h : (ls.all fun l => decide (l.length ≤ 300)) = true) (hl : ls.length ≤ 20) : ((ls.take k).flatten).length ≤ 6000 := by
  have h1 : ((ls.take k).all fun l => decide (l.length ≤ 300)) = true := by
    rw [List.all_eq_true] at h ⊢
    intro x hx; exact h x (List.mem_of_mem_take hx)
  have := flat_le _ h1
  have : (ls.take k).length ≤ 20 := by rw [List.length_take]; omega
  omega
theorem right_of {size : Int} {key : List Byte} {ls : List (List Byte)} (h : rightB size key ls = true) : 1 ≤ size ∧ size ≤ 64 ∧ key.length ≤ 64 ∧ ls.length ≤ 20 ∧ (ls.all fun l => decide (l.length ≤ 300)) = true := by
  simp only [rightB, Bool.and_eq_true, decide_eq_true_eq] at h
  exact ⟨h.1.1.1.1, h.1.1.1.2, h.1.1.2, h.1.2, h.2⟩

set_option maxHeartbeats 8000000 in
theorem parts_walk (size : Int) (key : List Byte) (p : Option Addr) (c : Nat) (ls : List (List Byte)) (q : Option Addr) (d : Nat) (w0 : World) (hs0 : -9223372036854775808 ≤ size) (hs1 : size ≤ 9223372036854775807) (hk : RdB w0 p key) (hkc : key.length ≤ c) (hkm : key.length ≤ maxLen) (hl : RdR w0 q ls) (hld : ls.length ≤ d) (hlm : ls.length ≤ maxLen) (hc : CoefB w0) :
    Calls Tryd.prog 11 #[.agg (partsV size p key.length c q ls.length d).toArray] w0 fun e w' => e = .returned (.bool true) ∧ Ext w0 w' := by
  have hm := Own.start w0
  have HC := Lib.hid hc
  have HK := Lib.hid hk
  have HL := Lib.hid hl
  have CR := Lib.hid fun w hx => pright_any size key p c ls q d w hkm hlm hx
  clear hc hk hl
  by_cases hR : rightB size key ls = false
  · rw [hR] at CR
    go_enter Tryd.func11, Tryd.ntmps11
    go_wp2_with (first | (go_at_call 32; (with_reducible refine (CR.out _ (HL.out.ext hm.x)).mono ?_); rintro e_ w ⟨rfl, hx_⟩; replace hm := hm.ext hx_; clear hx_) | ((with_reducible show wpList _ _ _ (Oper.mk _ (Op.load _ _) _ _ _ _ :: _) _ _); first | ((with_reducible apply wq_ldW hm); (exact rfl); infer_instance; (exact rfl); (focus ((repeat (first | exact .hd | assumption | apply Has.tl | apply Has.app)); done)); (focus (first | rfl | omega | (simp; done) | (simp; omega) | fail))) | fail) | ((first | ((with_reducible show wpList _ _ _ (Oper.mk _ (Op.box _ _) _ _ _ _ :: _) _ _); first | ((with_reducible apply wq_boxN hm); (exact rfl); (exact rfl)) | fail)); clear hm; (first | (have hx_ := g1; clear hx_; (first | (have hx_ := g2; clear hx_; (first | (have hx_ := g3; clear hx_; (first | (have hx_ := g4; clear hx_; (first | (have hx_ := g5; clear hx_; (first | (have hx_ := g6; clear hx_; (first | (have hx_ := g7; clear hx_; (first | (have hx_ := g8; clear hx_; (first | (have hx_ := g9; clear hx_; intro g10) | intro g9)) | intro g8)) | intro g7)) | intro g6)) | intro g5)) | intro g4)) | intro g3)) | intro g2)) | intro g1); intro w hm) | fail)
    go_ret
    exact ⟨rfl, hm.x⟩
  · have hR1 : rightB size key ls = true := by cases h : rightB size key ls <;> simp_all
    rw [hR1] at CR
    obtain ⟨r1, r2, r3, r4, r5⟩ := right_of hR1
    obtain ⟨sz, rfl⟩ : ∃ sz : Nat, size = sz := ⟨size.toNat, by omega⟩
    have FL := Lib.hid fun k => flat_take_le ls k r5 r4
    have FT := Lib.hid (flat_take ls)
    have hsz1 : 1 ≤ sz := by omega
    have hsz2 : sz ≤ 64 := by omega
    have lk := keyL_length key r3
    have lST := startL_length sz key.length
    have C2 := Lib.hid fun w L hx h1 hm => new_ok sz key p c hsz1 hsz2 r3 w0 w L hx h1 hm
    have CS := Lib.hid fun w b q d hx h1 h2 hb => bsum_ok sz key p c b q d hsz1 hsz2 r3 hb w w [] hx (fun w' M h => RdB.ext h1 h.x) (fun w' M h => RdB.ext h2 h.x) (Own.start w)
    have SE := Lib.hid fun D => sumL_eq sz key D
    have SL := Lib.hid fun D => sumL_length sz key D hsz2
    generalize startL sz key.length = ST at *
    generalize keyL key = KL at *
    clear hR hR1 r1 r2 r5
    go_enter Tryd.func11, Tryd.ntmps11
    go_wp2_with (first | (go_at_call 32; (with_reducible refine (CR.out _ (HL.out.ext hm.x)).mono ?_); rintro e_ w ⟨rfl, hx_⟩; replace hm := hm.ext hx_; clear hx_) | ((with_reducible show wpList _ _ _ (Oper.mk _ (Op.load _ _) _ _ _ _ :: _) _ _); first | ((with_reducible apply wq_ldW hm); (exact rfl); infer_instance; (exact rfl); (focus ((repeat (first | exact .hd | assumption | apply Has.tl | apply Has.app)); done)); (focus (first | rfl | omega | (simp; done) | (simp; omega) | fail))) | ((with_reducible apply wq_ld1 hm); (exact rfl); infer_instance; (exact rfl); (focus ((repeat (first | exact .hd | assumption | apply Has.tl | apply Has.app)); done)); (exact rfl)) | fail) | ((first | ((with_reducible show wpList _ _ _ (Oper.mk _ (Op.box _ _) _ _ _ _ :: _) _ _); first | ((with_reducible apply wq_boxN hm); (exact rfl); (exact rfl)) | fail)); clear hm; (first | (have hx_ := g1; clear hx_; (first | (have hx_ := g2; clear hx_; (first | (have hx_ := g3; clear hx_; (first | (have hx_ := g4; clear hx_; (first | (have hx_ := g5; clear hx_; (first | (have hx_ := g6; clear hx_; (first | (have hx_ := g7; clear hx_; (first | (have hx_ := g8; clear hx_; (first | (have hx_ := g9; clear hx_; intro g10) | intro g9)) | intro g8)) | intro g7)) | intro g6)) | intro g5)) | intro g4)) | intro g3)) | intro g2)) | intro g1); intro w hm) | fail)
    refine (C2.out _ _ HC.out (fun w' M h => HK.out.ext h.x) hm).mono ?_
    rintro e w ⟨g, v, M, rfl, hm, hs⟩
    have hs := Lib.hid hs
    go_wp2_with fail
    go_loopw [5, 6] (fun v i wr => ∃ (k : Nat) (M : List Blk) (u : Value) (Ma : List Blk), k ≤ ls.length ∧ i = .int .i64 k ∧ SlO Ma 5 1 v ((ls.take k).flatten).length (((ls.take k).flatten).map v8) ∧ Own w0 wr (⟨g, 101, hashK ST (KL ++ (ls.take k).flatten) (nbk (KL ++ (ls.take k).flatten).length) u sz⟩ :: (M ++ (Ma ++ [⟨g1, 66, partsV sz p key.length c q ls.length d⟩]))) ∧ RestO M (KL ++ (ls.take k).flatten) (nbk (KL ++ (ls.take k).flatten).length) u) (fun _ i _ => ls.length - (intOf i).toNat)
    case atStart => exact ⟨0, M, v, [], by omega, rfl, SlO.nil _ _, by simpa using hm, by simpa using hs.out⟩
    case round =>
      obtain ⟨k, M, u, Ma, hk, rfl, hsa, hm, hs⟩ := hrel
      obtain ⟨pa, ca, rfl⟩ := hsa.form
      have HS := Lib.hid hs
      have HSA := Lib.hid hsa
      clear hs hsa
      by_cases hlt : k < ls.length
      · have hd : decide ((k : Int) < (ls.length : Int)) = true := decide_eq_true (by omega)
        have hd2 : (k : Int) < (ls.length : Int) := by omega
        have EK := Lib.hid (FT.out k hlt)
        have FK := Lib.hid (FL.out k)
        have FK1 := Lib.hid (FL.out (k + 1))
        obtain ⟨a, rfl, q', c', hcell, hb, hbc, hbm⟩ := HL.out.at k hlt
        have HCELL := Lib.hid hcell
        have HB := Lib.hid hb
        clear hcell hb
        generalize ls.getD k [] = B at *
        generalize (ls.take k).flatten = A at *
        generalize hA2 : (ls.take (k + 1)).flatten = A2 at *
        have HA2 := Lib.hid hA2
        clear hA2
        have lAB : A.length + B.length ≤ 6000 := by have h := congrArg List.length EK.out; rw [List.length_append] at h; have := FK1.out; omega
        have hcell := hm.x.cell HCELL.out
        go_wp2_with (first | ((with_reducible show wpList _ _ _ (Oper.mk _ (Op.load _ _) _ _ _ _ :: _) _ _); first | ((with_reducible apply wq_ld1 hm); (exact rfl); infer_instance; (exact rfl); (focus ((repeat (first | exact .hd | assumption | apply Has.tl | apply Has.app)); done)); (exact rfl)) | fail) | fail)
        refine (write_any g ST (KL ++ A) sz B q' c' lST (by rw [List.length_append]; omega) w0 _ M (Ma ++ [⟨g1, 66, partsV sz p key.length c (some a) ls.length d⟩]) u HC.out (HB.out.ext hm.x) hm HS.out).mono ?_
        rintro e w ⟨rfl, u', M', hm, hs⟩
        rw [List.append_assoc, ← EK.out] at hm hs
        have HS2 := Lib.hid hs
        have hcell2 := hm.x.cell HCELL.out
        clear hs
        go_wp2_with (first | ((with_reducible show wpList _ _ _ (Oper.mk _ (Op.call _) _ _ _ _ :: _) _ _); refine wplO_app (M := Ma) (R := ⟨g, 101, hashK ST (KL ++ A2) (nbk (KL ++ A2).length) u' sz⟩ :: (M' ++ [⟨g1, 66, partsV sz p key.length c (some a) ls.length d⟩])) (ds := B.map v8) (hm.perm (((perm_mid M' Ma [⟨g1, 66, partsV sz p key.length c (some a) ls.length d⟩]).cons _).trans List.perm_middle.symm)) HSA.out rfl rfl rfl rfl Tryd.underlying53 (by simp) (cells_b (HB.out.ext hm.x)) (one_map _) (by omega) ?_; clear hm; intro v1 w M1 hm hs1; obtain ⟨p_v1, c_v1, rfl⟩ := hs1.form; replace hm := hm.perm (List.perm_middle.trans ((perm_mid _ _ _).cons _))) | ((with_reducible show wpList _ _ _ (Oper.mk _ (Op.load _ _) _ _ _ _ :: _) _ _); first | ((with_reducible apply wq_ld1 hm); (exact rfl); infer_instance; (exact rfl); (focus ((repeat (first | exact .hd | assumption | apply Has.tl | apply Has.app)); done)); (exact rfl)) | fail) | fail)
        have lA2 : A2.length = A.length + B.length := by have h := congrArg List.length EK.out; rwa [List.length_append] at h
        rw [← List.map_append, ← EK.out] at hs1
        have HS1 := Lib.hid hs1
        have hp1 := hm.perm (((perm_mid M' M1 [⟨g1, 66, partsV sz p key.length c (some a) ls.length d⟩]).cons _).trans List.perm_middle.symm)
        have CS1 := CS.out w A2 p_v1 c_v1 (HC.out.ext hm.x) (HK.out.ext hm.x) (slo_rdB hs1 hp1) (by omega)
        rw [lA2] at CS1
        clear hp1 hs1
        refine CS1.mono ?_
        rintro e w ⟨x, rfl, hbs, Mb, hmb⟩
        replace hm := hm.ext hmb.x
        obtain ⟨qh, nh, ch, rfl⟩ := HS2.out.slice
        obtain ⟨n1, n2, _⟩ := HS2.out.len
        rw [SE.out] at hbs
        obtain ⟨pw, cw, rfl, hcw, hrw⟩ := hbs
        have CZ := Lib.hid fun wx (hwx : Ext w0 wx) (hg : Row wx g 101 (hashK ST (KL ++ A2) (nbk (KL ++ A2).length) (.slice qh nh ch) sz)) (hr : RdB wx qh ((KL ++ A2).drop (128 * nbk (KL ++ A2).length))) => hsum_ext g ST (KL ++ A2) sz lST hsz2 (by rw [List.length_append]; omega) wx qh nh ch (HC.out.ext hwx) hg n1 n2 hr
        clear n1 n2
        have lZ : ((outL (finL ST (KL ++ A2))).take sz).length ≤ 64 := by rw [List.length_take]; omega
        generalize (outL (finL ST (KL ++ A2))).take sz = Z at *
        have HRW := Lib.hid hrw
        have hxm := hm.x
        have s1 := fun wx (hwx : Ext _ wx) => conv_str pw Z cw wx (HRW.out.ext hwx)
        have c1 := fun wx (hwx : Ext _ wx) => CZ.out wx (hxm.trans hwx) ((hm.ext hwx).row .hd) (HS2.out.rdB (N := [_]) (hm.ext hwx))
        clear hrw
        go_wp2_with fail
        refine region_at 18 (fun w' => Ext _ w') 83 (by kernel_rfl) (by kernel_rfl) rfl (fun _ _ h k => h.trans k) (drew_ext _) ?_
        simp only [List.take_succ_cons, List.take_zero, List.drop_succ_cons, List.drop_zero, List.map_cons, List.map_nil]
        repeat (first
            | (apply walk_some (BytesS Z) 60 (BytesS.stable _) rfl rfl rfl rfl
               · (intro wx hwx; go_simp; with_reducible exact gives_callR (c1 wx hwx)))
            | (apply walk_from (T := [(60, BytesS (Z))]) rfl rfl
               · (intro wx hwx; simp only [withS]; (rintro x ⟨p', c', rfl, hlc, hb'⟩; have hcv := conv_str p' (Z) c' wx hb'); refine ⟨rfl, ?_⟩; go_simp; exact gives_same)
               · (simp only [Act.put, List.setIfInBounds_toArray, List.set_cons_succ, List.set_cons_zero]; rfl))
            | (apply walk_some (BytesS Z) 68 (BytesS.stable _) rfl rfl rfl rfl
               · (intro wx hwx; go_simp; with_reducible exact gives_callR (c1 wx hwx)))
            | (apply walk_from (T := [(68, BytesS (Z))]) rfl rfl
               · (intro wx hwx; simp only [withS]; (rintro x ⟨p', c', rfl, hlc, hb'⟩; have hcv := conv_str p' (Z) c' wx hb'); refine ⟨rfl, ?_⟩; go_simp; exact gives_same)
               · (simp only [Act.put, List.setIfInBounds_toArray, List.set_cons_succ, List.set_cons_zero]; rfl))
            | (apply walk_is rfl rfl rfl
               · (intro wx hwx; first | ((with_reducible show gives _ _ _ (Sem.run _ (execOp _ (Oper.mk _ (Op.load _ _) _ _ _ _)) _)); first | ((with_reducible apply gq_ldv (hm.ext hwx)); infer_instance; (exact rfl); (focus ((repeat (first | exact .hd | assumption | apply Has.tl | apply Has.app)); done)); (focus (first | omega | (simp; omega) | (refine Nat.lt_of_lt_of_le (BitVec.isLt _) ?_; first | omega | (simp; done) | (simp; omega) | fail) | fail))) | ((with_reducible apply gq_ldW (hm.ext hwx)); infer_instance; (exact rfl); (focus ((repeat (first | exact .hd | assumption | apply Has.tl | apply Has.app)); done)); (focus (first | rfl | omega | (simp; done) | (simp; omega) | fail))) | ((with_reducible apply gq_ld1 (hm.ext hwx)); infer_instance; (exact rfl); (focus ((repeat (first | exact .hd | assumption | apply Has.tl | apply Has.app)); done)); (exact rfl)) | fail) | (go_simp; (try go_bits); first | exact gives_same | exact gives_skip))
               · (simp only [Act.put, List.setIfInBounds_toArray, List.set_cons_succ, List.set_cons_zero]; rfl))
            | (apply walk_not rfl rfl rfl
               · (simp only [Act.put, List.setIfInBounds_toArray, List.set_cons_succ, List.set_cons_zero]; rfl)))
        intro wz hwz
        simp only [List.zip_cons_cons, List.zip_nil_right]
        repeat (first | rw [fin_is] | (rw [fin_cons]; intro _ _))
        rw [fin_nil]
        try (replace hm := hm.ext hwz)
        simp only [Act.put, List.setIfInBounds_toArray, List.set_cons_succ, List.set_cons_zero]
        clear c1 s1 hxm
        go_wp2_with fail
        go_roundw
        case rel => exact ⟨k + 1, M', _, M1, by omega, by go_num, by rw [HA2.out, lA2]; exact HS1.out, by rw [HA2.out]; exact hm, by rw [HA2.out]; exact HS2.out⟩
        case measure => simp [intOf] <;> omega
      · obtain rfl : k = ls.length := by omega
        have hd : decide ((ls.length : Int) < (ls.length : Int)) = false := decide_eq_false (by omega)
        have FK := Lib.hid (FL.out ls.length)
        generalize (ls.take ls.length).flatten = A at *
        go_wp2_with (first | ((with_reducible show wpList _ _ _ (Oper.mk _ (Op.load _ _) _ _ _ _ :: _) _ _); first | ((with_reducible apply wq_ld1 hm); (exact rfl); infer_instance; (exact rfl); (focus ((repeat (first | exact .hd | assumption | apply Has.tl | apply Has.app)); done)); (exact rfl)) | fail) | fail)
        obtain ⟨qh, nh, ch, rfl⟩ := HS.out.slice
        obtain ⟨n1, n2, _⟩ := HS.out.len
        have CZ := Lib.hid fun wx (hwx : Ext w0 wx) (hg : Row wx g 101 (hashK ST (KL ++ A) (nbk (KL ++ A).length) (.slice qh nh ch) sz)) (hr : RdB wx qh ((KL ++ A).drop (128 * nbk (KL ++ A).length))) => hsum_ext g ST (KL ++ A) sz lST hsz2 (by rw [List.length_append]; have := FK.out; omega) wx qh nh ch (HC.out.ext hwx) hg n1 n2 hr
        clear n1 n2
        have lZ : ((outL (finL ST (KL ++ A))).take sz).length = sz := by rw [List.length_take, outL_length, finL_length _ _]; omega
        generalize (outL (finL ST (KL ++ A))).take sz = Z at *
        have hxm := hm.x
        have c1 := fun wx (hwx : Ext _ wx) => CZ.out wx (hxm.trans hwx) ((hm.ext hwx).row .hd) (HS.out.rdB (N := [_]) (hm.ext hwx))
        have c2 := fun wx (hwx : Ext _ wx) => awake6 wx (HC.out.ext (hxm.trans hwx))
        refine region_at 9 (fun w' => Ext _ w') 83 (by kernel_rfl) (by kernel_rfl) rfl (fun _ _ h k => h.trans k) (drew_ext _) ?_
        simp only [List.take_succ_cons, List.take_zero, List.drop_succ_cons, List.drop_zero, List.map_cons, List.map_nil]
        repeat (first
            | (apply walk_some (BytesS Z) 75 (BytesS.stable _) rfl rfl rfl rfl
               · (intro wx hwx; go_simp; with_reducible exact gives_callR (c1 wx hwx)))
            | (apply walk_from (T := [(75, BytesS Z)]) rfl rfl
               · (intro wx hwx; simp only [withS]; (rintro x ⟨p', c', rfl, hlc, hb'⟩; rw [lZ]); refine ⟨rfl, ?_⟩; go_simp; exact gives_same)
               · (simp only [Act.put, List.setIfInBounds_toArray, List.set_cons_succ, List.set_cons_zero]; rfl))
            | (apply walk_is rfl rfl rfl
               · (intro wx hwx; first | ((with_reducible show gives _ _ _ (Sem.run _ (execOp _ (Oper.mk _ (Op.load _ _) _ _ _ _)) _)); first | ((with_reducible apply gq_ldv (hm.ext hwx)); infer_instance; (exact rfl); (focus ((repeat (first | exact .hd | assumption | apply Has.tl | apply Has.app)); done)); (focus (first | omega | (simp; omega) | (refine Nat.lt_of_lt_of_le (BitVec.isLt _) ?_; first | omega | (simp; done) | (simp; omega) | fail) | fail))) | ((with_reducible apply gq_ldW (hm.ext hwx)); infer_instance; (exact rfl); (focus ((repeat (first | exact .hd | assumption | apply Has.tl | apply Has.app)); done)); (focus (first | rfl | omega | (simp; done) | (simp; omega) | fail))) | ((with_reducible apply gq_ld1 (hm.ext hwx)); infer_instance; (exact rfl); (focus ((repeat (first | exact .hd | assumption | apply Has.tl | apply Has.app)); done)); (exact rfl)) | fail) | (go_simp; (try go_bits); first | exact gives_same | exact gives_skip | with_reducible exact gives_call (c2 wx hwx)))
               · (simp only [Act.put, List.setIfInBounds_toArray, List.set_cons_succ, List.set_cons_zero]; rfl))
            | (apply walk_not rfl rfl rfl
               · (simp only [Act.put, List.setIfInBounds_toArray, List.set_cons_succ, List.set_cons_zero]; rfl)))
        intro wz hwz
        simp only [List.zip_cons_cons, List.zip_nil_right]
        repeat (first | rw [fin_is] | (rw [fin_cons]; intro _ _))
        rw [fin_nil]
        try (replace hm := hm.ext hwz)
        simp only [Act.put, List.setIfInBounds_toArray, List.set_cons_succ, List.set_cons_zero]
        clear c1 c2 hxm
        go_wp2_with fail
        go_ret
        exact ⟨rfl, hm.x⟩

end Go.Proofs.YtalcgmhdgegebaaDoor
