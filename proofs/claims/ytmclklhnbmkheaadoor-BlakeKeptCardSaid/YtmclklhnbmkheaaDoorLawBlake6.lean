/-
  Layer 6: the statement that what is written is not kept. Conditions: the program's first numbers and rows lie as its text lays them.
-/
import Derived.Test.YtmclklhnbmkheaaDoorLawBlake5
import Derived.Test.YtmclklhnbmkheaaDoorBs
namespace Go.Proofs.YtmclklhnbmkheaaDoor
open Go Go.RowKit
set_option maxRecDepth 100000
set_option linter.unusedVariables false
set_option linter.unusedSimpArgs false

theorem own_sub {w0 w : World} {L M : List Blk} (h : Own w0 w L) (hs : M.Sublist L) : Own w0 w M := ⟨h.1, h.2.1.sublist (hs.map _), fun b hb => h.2.2 b (hs.subset hb)⟩
/-- A byte of an own slice: read, and written. -/
theorem sl_put {M : List Blk} {e : TypeId} {p : Option Addr} {n c : Nat} {l : List Byte} (h : SlO M e 1 (.slice p n c) n (l.map v8)) (i : Nat) (hi : i < n) : ∃ (g o : Nat) (cur : List Value), p = some ⟨g, o, none⟩ ∧ M = [⟨g, e, cur⟩] ∧ cur[o + i]? = some (v8 (nth l i)) ∧ o + i < cur.length ∧ n ≤ c ∧ ∀ x : Byte, SlO [⟨g, e, cur.set (o + i) (v8 x)⟩] e 1 (.slice p n c) n ((setN l i x).map v8) := by
  obtain ⟨hl, h⟩ := h
  have hl2 : l.length = n := by simpa using hl
  rcases h with ⟨_, h1, _⟩ | ⟨g, o, cap, cur, he, rfl, h1, h2, h3, h4⟩
  · omega
  · cases he
    have ho : o + i < cur.length := by omega
    rw [Nat.mul_one] at h4
    refine ⟨g, o, cur, rfl, rfl, ?_, ho, h1, fun x => ⟨by simp [setN_length, hl2], .inr ⟨g, o, c, _, rfl, rfl, h1, h2, by rw [List.length_set]; exact h3, ?_⟩⟩⟩
    · have h5 : ((cur.drop o).take n)[i]? = (l.map v8)[i]? := by rw [h4]
      rw [List.getElem?_take, if_pos hi, List.getElem?_drop] at h5
      rw [h5]; exact mapv_at v8 l (by omega)
    · rw [Nat.mul_one, List.drop_set, if_neg (by omega), show o + i - o = i by omega, List.take_set, h4, mapv_set]
theorem write_nil (s : Value) (w0 : World) : Calls Tryd.prog 7 #[.pointer none, s] w0 fun e w' => e = .returned (.tuple #[]) ∧ w0 = w' := by
  go_enter Tryd.func7, Tryd.ntmps7
  refine wp_scope_goto 0 (fun _ _ => False) (fun _ _ => 0) rfl (fun _ _ h => h.elim) ?_
  intro _
  go_wp2
  simp only [Exit.jump]
  refine bodyPost_ret (results_none rfl _ _ _) rfl ?_
  exact ⟨rfl, rfl⟩
theorem hsum_nil (w0 : World) : Gives Tryd.prog 9 #[.pointer none] w0 (.slice none 0 0) := by
  unfold Gives
  have hm := Own.start w0
  go_enter Tryd.func9, Tryd.ntmps9
  go_wp2_with fail
  go_ret
  exact ⟨rfl, hm.x⟩

set_option maxHeartbeats 16000000 in
theorem kept_walk (size : Int) (key : List Byte) (p : Option Addr) (c : Nat) (ls : List (List Byte)) (q : Option Addr) (d : Nat) (w0 : World) (hs0 : -9223372036854775808 ≤ size) (hs1 : size ≤ 9223372036854775807) (hk : RdB w0 p key) (hkc : key.length ≤ c) (hkm : key.length ≤ maxLen) (hl : RdR w0 q ls) (hld : ls.length ≤ d) (hlm : ls.length ≤ maxLen) (hc : CoefB w0) :
    Calls Tryd.prog 3 #[.agg (partsV size p key.length c q ls.length d).toArray] w0 fun e w' => e = .returned (.bool true) ∧ Ext w0 w' := by
  have hm := Own.start w0
  have HC := Lib.hid hc
  have HK := Lib.hid hk
  have HL := Lib.hid hl
  have CR := Lib.hid fun w hx => pright_any size key p c ls q d w hkm hlm hx
  clear hc hk hl
  by_cases hR : rightB size key ls = false
  · rw [hR] at CR
    go_enter Tryd.func3, Tryd.ntmps3
    go_wp2_with (first | (go_at_call 5; (with_reducible refine (CR.out _ (HL.out.ext hm.x)).mono ?_); rintro e_ w ⟨rfl, hx_⟩; replace hm := hm.ext hx_; clear hx_) | ((with_reducible show wpList _ _ _ (Oper.mk _ (Op.load _ _) _ _ _ _ :: _) _ _); first | ((with_reducible apply wq_ldW hm); (exact rfl); infer_instance; (exact rfl); (focus ((repeat (first | exact .hd | assumption | apply Has.tl | apply Has.app)); done)); (focus (first | rfl | omega | (simp; done) | (simp; omega) | fail))) | fail) | ((first | ((with_reducible show wpList _ _ _ (Oper.mk _ (Op.box _ _) _ _ _ _ :: _) _ _); first | ((with_reducible apply wq_boxN hm); (exact rfl); (exact rfl)) | fail)); clear hm; (first | (have hx_ := g1; clear hx_; (first | (have hx_ := g2; clear hx_; (first | (have hx_ := g3; clear hx_; (first | (have hx_ := g4; clear hx_; (first | (have hx_ := g5; clear hx_; (first | (have hx_ := g6; clear hx_; (first | (have hx_ := g7; clear hx_; (first | (have hx_ := g8; clear hx_; (first | (have hx_ := g9; clear hx_; intro g10) | intro g9)) | intro g8)) | intro g7)) | intro g6)) | intro g5)) | intro g4)) | intro g3)) | intro g2)) | intro g1); intro w hm) | fail)
    go_ret
    exact ⟨rfl, hm.x⟩
  · have hR1 : rightB size key ls = true := by cases h : rightB size key ls <;> simp_all
    rw [hR1] at CR
    obtain ⟨r1, r2, r3, r4, r5⟩ := right_of hR1
    obtain ⟨sz, rfl⟩ : ∃ sz : Nat, size = sz := ⟨size.toNat, by omega⟩
    have FL := Lib.hid fun k => flat_take_le ls k r5 r4
    have FT := Lib.hid (flat_take ls)
    have hsz1 : 1 ≤ sz := by omega
    have hsz2 : sz ≤ 64 := by omega
    have lk := keyL_length key r3
    have lST := startL_length sz key.length
    have C2 := Lib.hid fun w p c L hx h1 hm => new_ok sz key p c hsz1 hsz2 r3 w0 w L hx h1 hm
    have CS := Lib.hid fun w b q d hx h1 h2 hb => bsum_ok sz key p c b q d hsz1 hsz2 r3 hb w w [] hx (fun w' M h => RdB.ext h1 h.x) (fun w' M h => RdB.ext h2 h.x) (Own.start w)
    have SE := Lib.hid fun D => sumL_eq sz key D
    generalize startL sz key.length = ST at *
    generalize keyL key = KL at *
    clear hR hR1 r1 r2 r5
    go_enter Tryd.func3, Tryd.ntmps3
    go_wp2_with (first | (go_at_call 5; (with_reducible refine (CR.out _ (HL.out.ext hm.x)).mono ?_); rintro e_ w ⟨rfl, hx_⟩; replace hm := hm.ext hx_; clear hx_) | ((with_reducible apply wq_bs0 bs0_b hm); exact rfl; clear hm; intro gz w hm) | ((with_reducible show wpList _ _ _ (Oper.mk _ (Op.call _) _ _ _ _ :: _) _ _); refine wplO_app (M := [⟨gz, 5, []⟩]) (R := [⟨g1, 25, partsV sz p key.length c q ls.length d⟩]) (ds := key.map v8) hm (slo_room0 gz _ 1) rfl rfl rfl rfl Tryd.underlying22 (by simp) (cells_b (HK.out.ext hm.x)) (one_map _) (by omega) ?_; clear hm; intro v1 w M1 hm hs1; obtain ⟨p_v1, c_v1, rfl⟩ := hs1.form; simp only [Nat.zero_add, List.nil_append] at hs1 ⊢) | ((with_reducible show wpList _ _ _ (Oper.mk _ (Op.load _ _) _ _ _ _ :: _) _ _); first | ((with_reducible apply wq_ldW hm); (exact rfl); infer_instance; (exact rfl); (focus ((repeat (first | exact .hd | assumption | apply Has.tl | apply Has.app)); done)); (focus (first | rfl | omega | (simp; done) | (simp; omega) | fail))) | ((with_reducible apply wq_ld1 hm); (exact rfl); infer_instance; (exact rfl); (focus ((repeat (first | exact .hd | assumption | apply Has.tl | apply Has.app)); done)); (exact rfl)) | fail) | ((first | ((with_reducible show wpList _ _ _ (Oper.mk _ (Op.box _ _) _ _ _ _ :: _) _ _); first | ((with_reducible apply wq_boxN hm); (exact rfl); (exact rfl)) | fail)); clear hm; (first | (have hx_ := g1; clear hx_; (first | (have hx_ := g2; clear hx_; (first | (have hx_ := g3; clear hx_; (first | (have hx_ := g4; clear hx_; (first | (have hx_ := g5; clear hx_; (first | (have hx_ := g6; clear hx_; (first | (have hx_ := g7; clear hx_; (first | (have hx_ := g8; clear hx_; (first | (have hx_ := g9; clear hx_; intro g10) | intro g9)) | intro g8)) | intro g7)) | intro g6)) | intro g5)) | intro g4)) | intro g3)) | intro g2)) | intro g1); intro w hm) | fail)
    have HS1 := Lib.hid hs1
    clear hs1
    refine (C2.out _ p_v1 c_v1 _ HC.out (fun w' M h => slo_rdB HS1.out h.dropN) hm).mono ?_
    rintro e w ⟨g, v, M, rfl, hm, hs⟩
    have hs := Lib.hid hs
    go_wp2_with fail
    go_loopw [6] (fun i wr => ∃ (k : Nat) (l : List Byte) (Mk : List Blk), k ≤ key.length ∧ i = .int .i64 k ∧ SlO Mk 5 1 (.slice p_v1 key.length c_v1) key.length (l.map v8) ∧ Own w0 wr (⟨g, 48, hashK ST KL (nbk KL.length) v sz⟩ :: (M ++ (Mk ++ [⟨g1, 25, partsV sz p key.length c q ls.length d⟩])))) (fun i _ => key.length - (intOf i).toNat)
    case atStart => exact ⟨0, key, M1, by omega, rfl, HS1.out, hm⟩
    case round =>
      obtain ⟨k, l, Mk, hk, rfl, hsk, hm⟩ := hrel
      clear HS1
      by_cases hlt : k < key.length
      · have hd : decide ((k : Int) < (key.length : Int)) = true := decide_eq_true (by omega)
        have hd2 : (k : Int) < (key.length : Int) := by omega
        obtain ⟨gk, o, cur, rfl, rfl, hcur, ho, hnc, hset⟩ := sl_put hsk k hlt
        have HSET := Lib.hid hset
        have HCUR := Lib.hid hcur
        clear hsk hset hcur
        obtain ⟨a, ha⟩ : ∃ a, a = o + k := ⟨_, rfl⟩
        go_wp2_with (first | ((with_reducible apply wq_ld1 hm); (exact rfl); infer_instance; (exact rfl); (focus ((repeat (first | exact .hd | assumption | apply Has.tl | apply Has.app)); done)); (exact HCUR.out)) | ((((with_reducible show wpList _ _ _ (Oper.mk _ (Op.store _ _ _) _ _ _ _ :: _) _ _); first | ((with_reducible apply wq_s1v (f := v8) hm); (exact rfl); infer_instance; (exact rfl); (exact rfl); infer_instance; (focus ((repeat (first | exact .hd | assumption | apply Swap.tl | apply Swap.app)); done)); (focus (first | omega | (simp; omega) | (refine Nat.lt_of_lt_of_le (BitVec.isLt _) ?_; first | omega | (simp; done) | (simp; omega) | fail) | fail))) | fail)); clear hm; intro w hm) | fail)
        go_roundw
        case rel => exact ⟨k + 1, _, _, by omega, by go_num, HSET.out _, hm⟩
        case measure => simp [intOf] <;> omega
      · have hd : decide ((k : Int) < (key.length : Int)) = false := decide_eq_false (by omega)
        have hm2 := own_sub hm (M := ⟨g, 48, hashK ST KL (nbk KL.length) v sz⟩ :: (M ++ [⟨g1, 25, partsV sz p key.length c q ls.length d⟩])) (List.Sublist.cons_cons _ (List.Sublist.append (List.Sublist.refl M) (List.sublist_append_right Mk _)))
        clear hm hsk
        have hm := hm2
        clear hm2
        go_wp2_with fail
        go_loopw [7, 8] (fun v i wr => ∃ (k : Nat) (M : List Blk) (u : Value) (Ma : List Blk), k ≤ ls.length ∧ i = .int .i64 k ∧ SlO Ma 5 1 v ((ls.take k).flatten).length (((ls.take k).flatten).map v8) ∧ Own w0 wr (⟨g, 48, hashK ST (KL ++ (ls.take k).flatten) (nbk (KL ++ (ls.take k).flatten).length) u sz⟩ :: (M ++ (Ma ++ [⟨g1, 25, partsV sz p key.length c q ls.length d⟩]))) ∧ RestO M (KL ++ (ls.take k).flatten) (nbk (KL ++ (ls.take k).flatten).length) u) (fun _ i _ => ls.length - (intOf i).toNat)
        case atStart => exact ⟨0, M, v, [], by omega, rfl, SlO.nil _ _, by simpa using hm, by simpa using hs.out⟩
        case round =>
          obtain ⟨k, M, u, Ma, hk, rfl, hsa, hm, hs⟩ := hrel
          obtain ⟨pa, ca, rfl⟩ := hsa.form
          have HS := Lib.hid hs
          have HSA := Lib.hid hsa
          clear hs hsa
          by_cases hlt : k < ls.length
          · have hd : decide ((k : Int) < (ls.length : Int)) = true := decide_eq_true (by omega)
            have hd2 : (k : Int) < (ls.length : Int) := by omega
            have EK := Lib.hid (FT.out k hlt)
            have FK := Lib.hid (FL.out k)
            have FK1 := Lib.hid (FL.out (k + 1))
            obtain ⟨a, rfl, q', c', hcell, hb, hbc, hbm⟩ := HL.out.at k hlt
            have HCELL := Lib.hid hcell
            have HB := Lib.hid hb
            clear hcell hb
            generalize ls.getD k [] = B at *
            generalize (ls.take k).flatten = A at *
            generalize hA2 : (ls.take (k + 1)).flatten = A2 at *
            have HA2 := Lib.hid hA2
            clear hA2
            have lAB : A.length + B.length ≤ 6000 := by have h := congrArg List.length EK.out; rw [List.length_append] at h; have := FK1.out; omega
            have hcell := hm.x.cell HCELL.out
            go_wp2_with (first | ((with_reducible apply wq_bs0 bs0_b hm); exact rfl; clear hm hcell; intro gy w hm; have hcell := hm.x.cell HCELL.out) | ((with_reducible show wpList _ _ _ (Oper.mk _ (Op.call _) _ _ _ _ :: _) _ _); refine wplO_app (M := [⟨gy, 5, []⟩]) (R := ⟨g, 48, hashK ST (KL ++ A) (nbk (KL ++ A).length) u sz⟩ :: (M ++ (Ma ++ [⟨g1, 25, partsV sz p key.length c (some a) ls.length d⟩]))) (ds := B.map v8) hm (slo_room0 gy _ 1) rfl rfl rfl rfl Tryd.underlying22 (by simp) (cells_b (HB.out.ext hm.x)) (one_map _) (by omega) ?_; clear hm; intro v2 w M2 hm hs2; obtain ⟨p_v2, c_v2, rfl⟩ := hs2.form; simp only [Nat.zero_add, List.nil_append] at hs2 ⊢) | ((with_reducible show wpList _ _ _ (Oper.mk _ (Op.load _ _) _ _ _ _ :: _) _ _); first | ((with_reducible apply wq_ld1 hm); (exact rfl); infer_instance; (exact rfl); (focus ((repeat (first | exact .hd | assumption | apply Has.tl | apply Has.app)); done)); (exact rfl)) | fail) | fail)
            have HS2 := Lib.hid hs2
            have hp := hm.perm (List.perm_middle.trans ((perm_mid M2 M _).cons _))
            have hrb := slo_rdB hs2 hm
            clear hs2 hm hcell
            refine (write_any g ST (KL ++ A) sz B p_v2 c_v2 lST (by rw [List.length_append]; omega) w0 _ M (M2 ++ (Ma ++ [⟨g1, 25, partsV sz p key.length c (some a) ls.length d⟩])) u HC.out hrb hp HS.out).mono ?_
            rintro e w ⟨rfl, u', M', hm, hs⟩
            rw [List.append_assoc, ← EK.out] at hm hs
            have HS3 := Lib.hid hs
            clear hs hrb hp
            go_wp2_with fail
            go_loopw [10] (fun i wr => ∃ (j : Nat) (l : List Byte) (Mj : List Blk), j ≤ B.length ∧ i = .int .i64 j ∧ SlO Mj 5 1 (.slice p_v2 B.length c_v2) B.length (l.map v8) ∧ Own w0 wr (⟨g, 48, hashK ST (KL ++ A2) (nbk (KL ++ A2).length) u' sz⟩ :: (M' ++ (Mj ++ (Ma ++ [⟨g1, 25, partsV sz p key.length c (some a) ls.length d⟩]))))) (fun i _ => B.length - (intOf i).toNat)
            case atStart => exact ⟨0, B, M2, by omega, rfl, HS2.out, hm⟩
            case round =>
              obtain ⟨j, l, Mj, hj, rfl, hsk, hm⟩ := hrel
              clear HS2
              by_cases hlt2 : j < B.length
              · have he : decide ((j : Int) < (B.length : Int)) = true := decide_eq_true (by omega)
                have he2 : (j : Int) < (B.length : Int) := by omega
                obtain ⟨gk, o, cur, rfl, rfl, hcur, ho, hnc, hset⟩ := sl_put hsk j hlt2
                have HSET := Lib.hid hset
                have HCUR := Lib.hid hcur
                clear hsk hset hcur
                go_wp2_with (first | ((with_reducible apply wq_ld1 hm); (exact rfl); infer_instance; (exact rfl); (focus ((repeat (first | exact .hd | assumption | apply Has.tl | apply Has.app)); done)); (exact HCUR.out)) | ((((with_reducible show wpList _ _ _ (Oper.mk _ (Op.store _ _ _) _ _ _ _ :: _) _ _); first | ((with_reducible apply wq_s1v (f := v8) hm); (exact rfl); infer_instance; (exact rfl); (exact rfl); infer_instance; (focus ((repeat (first | exact .hd | assumption | apply Swap.tl | apply Swap.app)); done)); (focus (first | omega | (simp; omega) | (refine Nat.lt_of_lt_of_le (BitVec.isLt _) ?_; first | omega | (simp; done) | (simp; omega) | fail) | fail))) | fail)); clear hm; intro w hm) | fail)
                go_roundw
                case rel => exact ⟨j + 1, _, _, by omega, by go_num, HSET.out _, hm⟩
                case measure => simp [intOf] <;> omega
              · have he : decide ((j : Int) < (B.length : Int)) = false := decide_eq_false (by omega)
                have hm2 := own_sub hm (M := ⟨g, 48, hashK ST (KL ++ A2) (nbk (KL ++ A2).length) u' sz⟩ :: (M' ++ (Ma ++ [⟨g1, 25, partsV sz p key.length c (some a) ls.length d⟩]))) (List.Sublist.cons_cons _ (List.Sublist.append (List.Sublist.refl M') (List.sublist_append_right Mj _)))
                clear hm hsk
                have hm := hm2
                clear hm2
                have hcell := hm.x.cell HCELL.out
                have lA2 : A2.length = A.length + B.length := by have h := congrArg List.length EK.out; rwa [List.length_append] at h
                go_wp2_with (first | ((with_reducible show wpList _ _ _ (Oper.mk _ (Op.call _) _ _ _ _ :: _) _ _); refine wplO_app (M := Ma) (R := ⟨g, 48, hashK ST (KL ++ A2) (nbk (KL ++ A2).length) u' sz⟩ :: (M' ++ [⟨g1, 25, partsV sz p key.length c (some a) ls.length d⟩])) (ds := B.map v8) (hm.perm (((perm_mid M' Ma [⟨g1, 25, partsV sz p key.length c (some a) ls.length d⟩]).cons _).trans List.perm_middle.symm)) HSA.out rfl rfl rfl rfl Tryd.underlying22 (by simp) (cells_b (HB.out.ext hm.x)) (one_map _) (by omega) ?_; clear hm; intro v3 w M3 hm hs3; obtain ⟨p_v3, c_v3, rfl⟩ := hs3.form; replace hm := hm.perm (List.perm_middle.trans ((perm_mid _ _ _).cons _))) | ((with_reducible show wpList _ _ _ (Oper.mk _ (Op.load _ _) _ _ _ _ :: _) _ _); first | ((with_reducible apply wq_ld1 hm); (exact rfl); infer_instance; (exact rfl); (focus ((repeat (first | exact .hd | assumption | apply Has.tl | apply Has.app)); done)); (exact rfl)) | fail) | fail)
                rw [← List.map_append, ← EK.out] at hs3
                have HS4 := Lib.hid hs3
                clear hs3
                go_roundw
                case rel => exact ⟨k + 1, M', u', M3, by omega, by go_num, by rw [HA2.out, lA2]; exact HS4.out, by rw [HA2.out]; exact hm, by rw [HA2.out]; exact HS3.out⟩
                case measure => simp [intOf] <;> omega
          · obtain rfl : k = ls.length := by omega
            have hd : decide ((ls.length : Int) < (ls.length : Int)) = false := decide_eq_false (by omega)
            have FK := Lib.hid (FL.out ls.length)
            generalize (ls.take ls.length).flatten = A at *
            go_wp2_with (first | ((with_reducible show wpList _ _ _ (Oper.mk _ (Op.load _ _) _ _ _ _ :: _) _ _); first | ((with_reducible apply wq_ld1 hm); (exact rfl); infer_instance; (exact rfl); (focus ((repeat (first | exact .hd | assumption | apply Has.tl | apply Has.app)); done)); (exact rfl)) | fail) | fail)
            have hp1 := hm.perm (((perm_mid M Ma [⟨g1, 25, partsV sz p key.length c q ls.length d⟩]).cons _).trans List.perm_middle.symm)
            refine (CS.out _ A pa ca (HC.out.ext hm.x) (HK.out.ext hm.x) (slo_rdB HSA.out hp1) (by have := FK.out; omega)).mono ?_
            rintro e w ⟨x, rfl, hbs, Mb, hmb⟩
            clear hp1
            replace hm := hm.ext hmb.x
            clear hmb
            obtain ⟨qh, nh, ch, rfl⟩ := HS.out.slice
            obtain ⟨n1, n2, _⟩ := HS.out.len
            rw [SE.out] at hbs
            obtain ⟨pw, cw, rfl, hcw, hrw⟩ := hbs
            have CZ := Lib.hid fun wx (hwx : Ext w0 wx) (hg : Row wx g 48 (hashK ST (KL ++ A) (nbk (KL ++ A).length) (.slice qh nh ch) sz)) (hr : RdB wx qh ((KL ++ A).drop (128 * nbk (KL ++ A).length))) => hsum_ext g ST (KL ++ A) sz lST hsz2 (by rw [List.length_append]; have := FK.out; omega) wx qh nh ch (HC.out.ext hwx) hg n1 n2 hr
            clear n1 n2
            generalize (outL (finL ST (KL ++ A))).take sz = Z at *
            have HRW := Lib.hid hrw
            clear hrw
            go_wp2_with (first | (go_at_call 7; (with_reducible refine (write_nil _ _).mono ?_); rintro e_ w_ ⟨rfl, rfl⟩) | fail)
            have hxm := hm.x
            have s1 := fun wx (hwx : Ext _ wx) => conv_str pw Z cw wx (HRW.out.ext hwx)
            have c1 := fun wx (hwx : Ext _ wx) => CZ.out wx (hxm.trans hwx) ((hm.ext hwx).row .hd) (HS.out.rdB (N := [_]) (hm.ext hwx))
            have c2 := fun wx (hwx : Ext _ wx) => awake6 wx (HC.out.ext (hxm.trans hwx))
            have c3 := fun wx (hwx : Ext w wx) => hsum_nil wx
            refine region_at 19 (fun w' => Ext _ w') 113 (by kernel_rfl) (by kernel_rfl) rfl (fun _ _ h k => h.trans k) (drew_ext _) ?_
            simp only [List.take_succ_cons, List.take_zero, List.drop_succ_cons, List.drop_zero, List.map_cons, List.map_nil]
            repeat (first
                | (apply walk_some (BytesS Z) 98 (BytesS.stable _) rfl rfl rfl rfl
                   · (intro wx hwx; go_simp; with_reducible exact gives_callR (c1 wx hwx)))
                | (apply walk_from (T := [(98, BytesS (Z))]) rfl rfl
                   · (intro wx hwx; simp only [withS]; (rintro x ⟨p', c', rfl, hlc, hb'⟩; have hcv := conv_str p' (Z) c' wx hb'); refine ⟨rfl, ?_⟩; go_simp; exact gives_same)
                   · (simp only [Act.put, List.setIfInBounds_toArray, List.set_cons_succ, List.set_cons_zero]; rfl))
                | (apply walk_is rfl rfl rfl
                   · (intro wx hwx; first | ((with_reducible show gives _ _ _ (Sem.run _ (execOp _ (Oper.mk _ (Op.load _ _) _ _ _ _)) _)); first | ((with_reducible apply gq_ldv (hm.ext hwx)); infer_instance; (exact rfl); (focus ((repeat (first | exact .hd | assumption | apply Has.tl | apply Has.app)); done)); (focus (first | omega | (simp; omega) | (refine Nat.lt_of_lt_of_le (BitVec.isLt _) ?_; first | omega | (simp; done) | (simp; omega) | fail) | fail))) | ((with_reducible apply gq_ldW (hm.ext hwx)); infer_instance; (exact rfl); (focus ((repeat (first | exact .hd | assumption | apply Has.tl | apply Has.app)); done)); (focus (first | rfl | omega | (simp; done) | (simp; omega) | fail))) | ((with_reducible apply gq_ld1 (hm.ext hwx)); infer_instance; (exact rfl); (focus ((repeat (first | exact .hd | assumption | apply Has.tl | apply Has.app)); done)); (exact rfl)) | fail) | (go_simp; (try go_bits); first | exact gives_same | exact gives_skip | with_reducible exact gives_call (c2 wx hwx) | with_reducible exact gives_call (c3 wx hwx)))
                   · (simp only [Act.put, List.setIfInBounds_toArray, List.set_cons_succ, List.set_cons_zero]; rfl))
                | (apply walk_not rfl rfl rfl
                   · (simp only [Act.put, List.setIfInBounds_toArray, List.set_cons_succ, List.set_cons_zero]; rfl)))
            intro wz hwz
            simp only [List.zip_cons_cons, List.zip_nil_right]
            repeat (first | rw [fin_is] | (rw [fin_cons]; intro _ _))
            rw [fin_nil]
            try (replace hm := hm.ext hwz)
            simp only [Act.put, List.setIfInBounds_toArray, List.set_cons_succ, List.set_cons_zero]
            clear c1 c2 c3 s1 hxm
            go_wp2_with fail
            go_ret
            exact ⟨rfl, hm.x⟩

end Go.Proofs.YtmclklhnbmkheaaDoor
