/-
  Layer 15, the document's: a key's parts, offsets, the tweaked block function. Conditions: those written in each theorem.
  Layer 15, the document's: offsets, the tweaked block function. Conditions: those written in each theorem.
  Layer 15, the document's: the tweaked block function. Conditions: those written in each theorem.
-/
import Derived.Test.YtaijfigohlkccaaGreatDoorZCoreTurns0
import Derived.Test.YtaijfigohlkccaaGreatDoorZCoreTurns13
import Derived.Test.YtaijfigohlkccaaGreatDoorZCoreTurns15
import Derived.Test.YtaijfigohlkccaaGreatDoorZCoreTurns22
import Derived.Test.YtaijfigohlkccaaGreatDoorZCoreTurns23
import Derived.Test.YtaijfigohlkccaaGreatDoorZCoreTurns26
set_option linter.unusedSimpArgs false
set_option linter.unusedVariables false
namespace Go.Proofs.YtaijfigohlkccaaGreatDoor
open Go Go.RowKit
set_option maxRecDepth 100000
def rkL (K : KeyP) : List Byte := tabs ++ (K.i ++ (K.j ++ K.l))
theorem rkL_length {K : KeyP} (h : K.Ok) : (rkL K).length = 560 := by simp [rkL, tabs_length, h.hi, h.hj, h.hl]
theorem rk_tabs (K : KeyP) : ((rkL K).drop 0).take 512 = tabs := by
 rw [List.drop_zero, rkL, List.take_append_of_le_length (Nat.le_of_eq tabs_length.symm), List.take_of_length_le (Nat.le_of_eq tabs_length)]
theorem rk_i {K : KeyP} (h : K.Ok) : ((rkL K).drop 512).take 16 = K.i := by
 rw [rkL, List.drop_append_of_le_length (Nat.le_of_eq tabs_length.symm), List.drop_eq_nil_of_le (Nat.le_of_eq tabs_length), List.nil_append, List.take_append_of_le_length (Nat.le_of_eq h.hi.symm), List.take_of_length_le (Nat.le_of_eq h.hi)]
theorem rk_j {K : KeyP} (h : K.Ok) : ((rkL K).drop 528).take 16 = K.j := by
 have l1 : (tabs ++ K.i).length = 528 := by rw [List.length_append, tabs_length, h.hi]
 rw [rkL, ← List.append_assoc, List.drop_append_of_le_length (Nat.le_of_eq l1.symm), List.drop_eq_nil_of_le (Nat.le_of_eq l1), List.nil_append, List.take_append_of_le_length (Nat.le_of_eq h.hj.symm), List.take_of_length_le (Nat.le_of_eq h.hj)]
theorem rk_l {K : KeyP} (h : K.Ok) : ((rkL K).drop 544).take 16 = K.l := by
 have l1 : (tabs ++ (K.i ++ K.j)).length = 544 := by rw [List.length_append, List.length_append, tabs_length, h.hi, h.hj]
 rw [rkL, ← List.append_assoc K.i, ← List.append_assoc, List.drop_append_of_le_length (Nat.le_of_eq l1.symm), List.drop_eq_nil_of_le (Nat.le_of_eq l1), List.nil_append, List.take_of_length_le (Nat.le_of_eq h.hl)]
def rkF (b : List Byte) : Nat → List Byte
 | 0 => tabs ++ zer 48
 | i + 1 => over (rkF b i) (512 + 16 * i) (blk (b.drop (16 * i)))
theorem rkF_length (b : List Byte) : ∀ i, i ≤ 3 → (rkF b i).length = 560
 | 0, _ => by rw [rkF, List.length_append, tabs_length, zer_length]
 | i + 1, h => by rw [rkF, over_length _ _ _ (by rw [rkF_length b i (by omega), blk_length]; omega), rkF_length b i (by omega)]
theorem rkF_cells (b : List Byte) (i : Nat) : ((rkF b i).map v8).take (512 + 16 * i) ++ (blk (b.drop (16 * i))).map v8 ++ ((rkF b i).map v8).drop (512 + 16 * i + 16) = (rkF b (i + 1)).map v8 := by
 rw [rkF, over, List.map_append, List.map_append, List.map_take, List.map_drop, blk_length]
theorem rkF_all (key : List Byte) : rkF (keyB key) 3 = rkL (keyOf key) := by
 have lt := tabs_length
 have la := blk_length (keyB key)
 have lb := blk_length ((keyB key).drop 16)
 have lc := blk_length ((keyB key).drop 32)
 simp only [rkF, rkL, keyOf, over, Nat.mul_zero, Nat.add_zero, Nat.mul_one, List.drop_zero, show 16 * 2 = 32 from rfl, show 512 + 16 = 528 from rfl, show 512 + 32 = 544 from rfl]
 generalize blk (keyB key) = A at *
 generalize blk ((keyB key).drop 16) = B at *
 generalize blk ((keyB key).drop 32) = C at *
 generalize tabs = T at *
 rw [la, lb, lc]
 have e1 : (T ++ zer 48).take 512 ++ A ++ (T ++ zer 48).drop (512 + 16) = T ++ (A ++ zer 32) := by
   rw [List.take_append_of_le_length (by omega), List.take_of_length_le (by omega), List.drop_append, List.drop_eq_nil_of_le (by omega), List.nil_append, lt, List.append_assoc]; rfl
 rw [e1]
 have e2 : (T ++ (A ++ zer 32)).take 528 ++ B ++ (T ++ (A ++ zer 32)).drop (528 + 16) = T ++ (A ++ (B ++ zer 16)) := by
   rw [← List.append_assoc T A, List.take_append_of_le_length (by rw [List.length_append]; omega), List.take_of_length_le (by rw [List.length_append]; omega), List.drop_append, List.drop_eq_nil_of_le (by rw [List.length_append]; omega), List.nil_append, List.length_append, lt, la]
   simp only [List.append_assoc]; rfl
 rw [e2]
 rw [← List.append_assoc A B, ← List.append_assoc T, List.take_append_of_le_length (by simp only [List.length_append]; omega), List.take_of_length_le (by simp only [List.length_append]; omega), List.drop_eq_nil_of_le (by simp only [List.length_append, zer_length]; omega)]
 simp only [List.append_assoc, List.append_nil]
set_option maxHeartbeats 4000000 in
theorem rext_any (key : List Byte) (p : Option Addr) (c : Nat) (w0 : World) (h0 : 0 < key.length) (h1 : key.length ≤ 128) (hkc : key.length ≤ c) (hk : RdB w0 p key) : Gives Tryz.prog 10 #[A8 tabs, .slice p key.length c] w0 (A8 (rkL (keyOf key))) := by
 unfold Gives
 have lb := keyB_length key
 have TL := tabs_length
 have BR := Lib.hid build_rk
 have AD : ∀ (a : Addr) (n : Nat), 0 < n → a.add n = { block := a.block, off := a.off + n } := fun a n hn => by unfold Addr.add; split <;> first | rfl | omega | (simp_all; done)
 have DD : ∀ (wx : World) (a : Addr) (c n : Nat), n + 16 ≤ 48 → RdB wx (some a) (keyB key) → Gives Tryz.prog 39 #[.slice (some (a.add n)) 16 c] wx (A8 (blk ((keyB key).drop n))) := fun wx a c n hn h => by
   have l1 : (((keyB key).drop n).take 16).length = 16 := by rw [List.length_take, List.length_drop, lb]; omega
   have := rblock_any (((keyB key).drop n).take 16) (some (a.add n)) c wx ((h.drop n).take 16) (by omega)
   rwa [l1, blk_take] at this
 have d0 := fun (wx : World) (a : Addr) (c : Nat) h => DD wx a c 0 (by omega) h
 have d1 := fun (wx : World) (a : Addr) (c : Nat) h => DD wx a c 16 (by omega) h
 have d2 := fun (wx : World) (a : Addr) (c : Nat) h => DD wx a c 32 (by omega) h
 simp only [show ∀ a : Addr, a.add 0 = a from fun a => rfl] at d0
 simp only [AD _ 16 (by omega)] at d1
 simp only [AD _ 32 (by omega)] at d2
 have D0 := Lib.hid d0
 have D1 := Lib.hid d1
 have D2 := Lib.hid d2
 have E0 : Hid (((rkF (keyB key) 0).map v8).take 512 ++ (blk ((keyB key).drop 0)).map v8 ++ ((rkF (keyB key) 0).map v8).drop (512 + 16) = (rkF (keyB key) 1).map v8) := Lib.hid (rkF_cells (keyB key) 0)
 have E1 : Hid (((rkF (keyB key) 1).map v8).take 528 ++ (blk ((keyB key).drop 16)).map v8 ++ ((rkF (keyB key) 1).map v8).drop (528 + 16) = (rkF (keyB key) 2).map v8) := Lib.hid (rkF_cells (keyB key) 1)
 have E2 : Hid (((rkF (keyB key) 2).map v8).take 544 ++ (blk ((keyB key).drop 32)).map v8 ++ ((rkF (keyB key) 2).map v8).drop (544 + 16) = (rkF (keyB key) 3).map v8) := Lib.hid (rkF_cells (keyB key) 2)
 have R0 : Hid (tabs ++ zer 48 = rkF (keyB key) 0) := Lib.hid rfl
 have lf0 := rkF_length (keyB key) 0 (by omega)
 have lf1 := rkF_length (keyB key) 1 (by omega)
 have lf2 := rkF_length (keyB key) 2 (by omega)
 have lf3 := rkF_length (keyB key) 3 (by omega)
 have lk0 := blk_length ((keyB key).drop 0)
 have lk1 := blk_length ((keyB key).drop 16)
 have lk2 := blk_length ((keyB key).drop 32)
 rw [← rkF_all]
 have EB := Lib.hid (show key.length = 48 → keyB key = key by intro h; rw [keyB, if_pos h])
 have ES := Lib.hid (show ¬ key.length = 48 → keyB key = sumL 48 [] key by intro h; rw [keyB, if_neg h])
 have CB := Lib.hid fun (w : World) (h : RdB w p key) => rsum_ok 48 [] none 0 key p c (by omega) (by omega) (by simp) (by simp) (by omega) w (RdB.nil _ _) h
 have HK := Lib.hid hk
 have hm := Own.start w0
 clear d0 d1 d2 DD AD hk
 generalize blk ((keyB key).drop 0) = X0 at *
 generalize blk ((keyB key).drop 16) = X1 at *
 generalize blk ((keyB key).drop 32) = X2 at *
 generalize hF : rkF (keyB key) = F at *
 clear hF
 have LB := Lib.hid lb
 generalize keyB key = B at *
 clear lb
 generalize tabs = T at *
 by_cases h48 : key.length = 48
 · obtain rfl := EB.out h48
   obtain ⟨a, rfl⟩ := Option.isSome_iff_exists.1 (HK.out.1 (by omega))
   rw [h48] at hkc ⊢
   clear h0 h1 h48 CB EB ES
   go_enter Tryz.func10, Tryz.ntmps10
   go_wp2_with (first | ((with_reducible apply wq_build1 BR.out); exact rfl; exact rfl) | ((with_reducible show qLd); first | ((with_reducible apply wq_ldW hm); exact rfl; infer_instance; exact rfl; (focus ((repeat (first | exact .hd | assumption | apply Has.tl | apply Has.app)); done)); (focus (first | rfl | omega | (simp; done) | (simp; omega))))) | ((((with_reducible show qSt); first | ((with_reducible apply wq_stW hm); exact rfl; infer_instance; exact rfl; exact rfl; (focus ((repeat (first | exact .hd | assumption | apply Swap.tl | apply Swap.app)); done)); (focus (first | rfl | omega | (simp; done) | (simp; omega))); (focus (first | rfl | omega | (simp; done) | (simp; omega))); (focus (first | exact one_map _ | (simp [one8, one32, one64]; done)))))); clear hm; intro w hm) | ((first | ((with_reducible show qAl); first | ((with_reducible apply wq_new hm); exact rfl; infer_instance)) | ((with_reducible show qBx); first | ((with_reducible apply wq_boxN hm); exact rfl; exact rfl))); clear hm; (first | (have hx_ := g1; clear hx_; (first | (have hx_ := g2; clear hx_; (first | (have hx_ := g3; clear hx_; intro gx_) | intro g3)) | intro g2)) | intro g1); intro w hm))
   rw [R0.out] at hm
   go_loopw [7] (fun i wr => ∃ k : Nat, k ≤ 3 ∧ i = .int .i64 k ∧ Ext w0 wr ∧ Own w0 wr [⟨g3, 39, (F k).map v8⟩, ⟨g2, 39, (zer 560).map v8⟩, ⟨g1, 35, T.map v8⟩]) (fun i _ => 3 - (intOf i).toNat)
   case atStart => exact ⟨0, by omega, rfl, hm.x, hm⟩
   case round =>
     obtain ⟨k, hk3, rfl, hxb, hm⟩ := hrel
     have HXB := Lib.hid hxb
     clear hxb
     rcases (show k = 0 ∨ k = 1 ∨ k = 2 ∨ k = 3 by omega) with rfl | rfl | rfl | rfl
     · have c1 : ¬ c = 0 := by omega
       have c2 : ¬ (c : Int) = 0 := by omega
       have c3 : (16 : Int) ≤ (c : Int) := by omega
       have c4 : 16 ≤ c := by omega
       have hrd := HK.out.ext HXB.out
       go_wp2_with (first | (go_at_call 39; (with_reducible refine (D0.out _ a _ (HK.out.ext hm.x)).mono ?_); rintro e_ w ⟨rfl, hx_⟩; replace hm := hm.ext hx_; clear hx_) | ((with_reducible apply wq_stA hm); exact rfl; infer_instance; exact rfl; exact rfl; (focus ((repeat (first | exact .hd | assumption | apply Swap.tl | apply Swap.app)); done)); (exact E0.out); (exact (List.length_map ..).trans lk0); (exact (by rw [List.length_map]; omega)); (exact (one_map _)); clear hm; intro w hm))
       go_roundw
       case rel => exact ⟨1, by omega, rfl, hm.x, hm⟩
       case measure => simp [intOf] <;> omega
     · have c1 : ¬ c = 16 := by omega
       have c2 : ¬ (c : Int) = 16 := by omega
       have c3 : (32 : Int) ≤ (c : Int) := by omega
       have c4 : 32 ≤ c := by omega
       have hrd := HK.out.ext HXB.out
       go_wp2_with (first | (go_at_call 39; (with_reducible refine (D1.out _ a _ (HK.out.ext hm.x)).mono ?_); rintro e_ w ⟨rfl, hx_⟩; replace hm := hm.ext hx_; clear hx_) | ((with_reducible apply wq_stA hm); exact rfl; infer_instance; exact rfl; exact rfl; (focus ((repeat (first | exact .hd | assumption | apply Swap.tl | apply Swap.app)); done)); (exact E1.out); (exact (List.length_map ..).trans lk1); (exact (by rw [List.length_map]; omega)); (exact (one_map _)); clear hm; intro w hm))
       go_roundw
       case rel => exact ⟨2, by omega, rfl, hm.x, hm⟩
       case measure => simp [intOf] <;> omega
     · have c1 : ¬ c = 32 := by omega
       have c2 : ¬ (c : Int) = 32 := by omega
       have c3 : (48 : Int) ≤ (c : Int) := by omega
       have c4 : 48 ≤ c := by omega
       have hrd := HK.out.ext HXB.out
       go_wp2_with (first | (go_at_call 39; (with_reducible refine (D2.out _ a _ (HK.out.ext hm.x)).mono ?_); rintro e_ w ⟨rfl, hx_⟩; replace hm := hm.ext hx_; clear hx_) | ((with_reducible apply wq_stA hm); exact rfl; infer_instance; exact rfl; exact rfl; (focus ((repeat (first | exact .hd | assumption | apply Swap.tl | apply Swap.app)); done)); (exact E2.out); (exact (List.length_map ..).trans lk2); (exact (by rw [List.length_map]; omega)); (exact (one_map _)); clear hm; intro w hm))
       go_roundw
       case rel => exact ⟨3, by omega, rfl, hm.x, hm⟩
       case measure => simp [intOf] <;> omega
     · go_wp2_with (first | ((with_reducible show qLd); first | ((with_reducible apply wq_ldW hm); exact rfl; infer_instance; exact rfl; (focus ((repeat (first | exact .hd | assumption | apply Has.tl | apply Has.app)); done)); (focus (first | rfl | omega | (simp; done) | (simp; omega))))) | ((((with_reducible show qSt); first | ((with_reducible apply wq_stW hm); exact rfl; infer_instance; exact rfl; exact rfl; (focus ((repeat (first | exact .hd | assumption | apply Swap.tl | apply Swap.app)); done)); (focus (first | rfl | omega | (simp; done) | (simp; omega))); (focus (first | rfl | omega | (simp; done) | (simp; omega))); (focus (first | exact one_map _ | (simp [one8, one32, one64]; done)))))); clear hm; intro w hm))
       refine ret_own hm rfl rfl (by infer_instance) (by repeat (first | exact Has.hd | assumption | apply Has.tl | apply Has.app)) (by first | rfl | omega | (simp only [zeros_length, zer_length, tab_length, part_length, setN_length, List.length_map, List.length_cons, List.length_nil, List.length_append, List.length_take, List.length_drop, List.length_replicate, blk_length, putL_length] <;> omega)) rfl ⟨rfl, hm.x⟩
 · have EBS := ES.out h48
   have n48 : ((key.length : Int) != 48) = true := by rw [bne_iff_ne]; omega
   clear h0 h1 hkc h48 EB ES
   go_enter Tryz.func10, Tryz.ntmps10
   go_wp2_with (first | ((first | ((with_reducible show qAl); first | ((with_reducible apply wq_new hm); exact rfl; infer_instance)) | ((with_reducible show qBx); first | ((with_reducible apply wq_boxN hm); exact rfl; exact rfl))); clear hm; (first | (have hx_ := g1; clear hx_; (first | (have hx_ := g2; clear hx_; (first | (have hx_ := g3; clear hx_; intro gx_) | intro g3)) | intro g2)) | intro g1); intro w hm))
   refine (CB.out _ (HK.out.ext hm.x)).mono ?_
   rintro e wS ⟨x, rfl, hbs, hx_⟩
   replace hm := hm.ext hx_
   rw [← EBS] at hbs
   obtain ⟨px, c, rfl, hkc, hrx⟩ := hbs
   rw [LB.out] at hkc ⊢
   obtain ⟨a, rfl⟩ := Option.isSome_iff_exists.1 (hrx.1 (by rw [LB.out]; omega))
   have HKX := Lib.hid fun wx (hwx : Ext wS wx) => hrx.ext hwx
   clear EBS CB HK n48 hx_ hrx
   have hm0 := hm
   have HG1 := Lib.hid (hm.rdB (g := g1) (l := T) (by repeat (first | exact Has.hd | assumption | apply Has.tl | apply Has.app)))
   have HM0 := Lib.hid hm0
   clear hm hm0
   have hm := Own.start wS
   go_wp2_with (first | ((with_reducible apply wq_build1 BR.out); exact rfl; exact rfl) | ((with_reducible apply wq_rdW (HG1.out.ext hm.x)); exact rfl; infer_instance; exact rfl; exact TL) | ((((with_reducible show qSt); first | ((with_reducible apply wq_stW hm); exact rfl; infer_instance; exact rfl; exact rfl; (focus ((repeat (first | exact .hd | assumption | apply Swap.tl | apply Swap.app)); done)); (focus (first | rfl | omega | (simp; done) | (simp; omega))); (focus (first | rfl | omega | (simp; done) | (simp; omega))); (focus (first | exact one_map _ | (simp [one8, one32, one64]; done)))))); clear hm; intro w hm) | ((first | ((with_reducible show qAl); first | ((with_reducible apply wq_new hm); exact rfl; infer_instance))); clear hm; (first | (have hx_ := g1; clear hx_; (first | (have hx_ := g2; clear hx_; (first | (have hx_ := g3; clear hx_; intro gx_) | intro g3)) | intro g2)) | intro g1); intro w hm))
   rw [R0.out] at hm
   go_loopw [7] (fun i wr => ∃ k : Nat, k ≤ 3 ∧ i = .int .i64 k ∧ Own wS wr [⟨g3, 39, (F k).map v8⟩]) (fun i _ => 3 - (intOf i).toNat)
   case atStart => exact ⟨0, by omega, rfl, hm⟩
   case round =>
     obtain ⟨k, hk3, rfl, hm⟩ := hrel
     rcases (show k = 0 ∨ k = 1 ∨ k = 2 ∨ k = 3 by omega) with rfl | rfl | rfl | rfl
     · have c1 : ¬ c = 0 := by omega
       have c2 : ¬ (c : Int) = 0 := by omega
       have c3 : (16 : Int) ≤ (c : Int) := by omega
       have c4 : 16 ≤ c := by omega
       go_wp2_with (first | (go_at_call 39; (with_reducible refine (D0.out _ a _ (HKX.out _ hm.x)).mono ?_); rintro e_ w ⟨rfl, hx_⟩; replace hm := hm.ext hx_; clear hx_) | ((with_reducible apply wq_stA hm); exact rfl; infer_instance; exact rfl; exact rfl; (focus ((repeat (first | exact .hd | assumption | apply Swap.tl | apply Swap.app)); done)); (exact E0.out); (exact (List.length_map ..).trans lk0); (exact (by rw [List.length_map]; omega)); (exact (one_map _)); clear hm; intro w hm))
       go_roundw
       case rel => exact ⟨1, by omega, rfl, hm⟩
       case measure => simp [intOf] <;> omega
     · have c1 : ¬ c = 16 := by omega
       have c2 : ¬ (c : Int) = 16 := by omega
       have c3 : (32 : Int) ≤ (c : Int) := by omega
       have c4 : 32 ≤ c := by omega
       go_wp2_with (first | (go_at_call 39; (with_reducible refine (D1.out _ a _ (HKX.out _ hm.x)).mono ?_); rintro e_ w ⟨rfl, hx_⟩; replace hm := hm.ext hx_; clear hx_) | ((with_reducible apply wq_stA hm); exact rfl; infer_instance; exact rfl; exact rfl; (focus ((repeat (first | exact .hd | assumption | apply Swap.tl | apply Swap.app)); done)); (exact E1.out); (exact (List.length_map ..).trans lk1); (exact (by rw [List.length_map]; omega)); (exact (one_map _)); clear hm; intro w hm))
       go_roundw
       case rel => exact ⟨2, by omega, rfl, hm⟩
       case measure => simp [intOf] <;> omega
     · have c1 : ¬ c = 32 := by omega
       have c2 : ¬ (c : Int) = 32 := by omega
       have c3 : (48 : Int) ≤ (c : Int) := by omega
       have c4 : 48 ≤ c := by omega
       go_wp2_with (first | (go_at_call 39; (with_reducible refine (D2.out _ a _ (HKX.out _ hm.x)).mono ?_); rintro e_ w ⟨rfl, hx_⟩; replace hm := hm.ext hx_; clear hx_) | ((with_reducible apply wq_stA hm); exact rfl; infer_instance; exact rfl; exact rfl; (focus ((repeat (first | exact .hd | assumption | apply Swap.tl | apply Swap.app)); done)); (exact E2.out); (exact (List.length_map ..).trans lk2); (exact (by rw [List.length_map]; omega)); (exact (one_map _)); clear hm; intro w hm))
       go_roundw
       case rel => exact ⟨3, by omega, rfl, hm⟩
       case measure => simp [intOf] <;> omega
     · replace hm := HM0.out.join hm
       go_wp2_with (first | ((with_reducible show qLd); first | ((with_reducible apply wq_ldW hm); exact rfl; infer_instance; exact rfl; (focus ((repeat (first | exact .hd | assumption | apply Has.tl | apply Has.app)); done)); (focus (first | rfl | omega | (simp; done) | (simp; omega))))) | ((((with_reducible show qSt); first | ((with_reducible apply wq_stW hm); exact rfl; infer_instance; exact rfl; exact rfl; (focus ((repeat (first | exact .hd | assumption | apply Swap.tl | apply Swap.app)); done)); (focus (first | rfl | omega | (simp; done) | (simp; omega))); (focus (first | rfl | omega | (simp; done) | (simp; omega))); (focus (first | exact one_map _ | (simp [one8, one32, one64]; done)))))); clear hm; intro w hm))
       refine ret_own hm rfl rfl (by infer_instance) (by repeat (first | exact Has.hd | assumption | apply Has.tl | apply Has.app)) (by first | rfl | omega | (simp only [zeros_length, zer_length, tab_length, part_length, setN_length, List.length_map, List.length_cons, List.length_nil, List.length_append, List.length_take, List.length_drop, List.length_replicate, blk_length, putL_length] <;> omega)) rfl ⟨rfl, hm.x⟩
end Go.Proofs.YtaijfigohlkccaaGreatDoor
namespace Go.Proofs.YtaijfigohlkccaaGreatDoor
open Go Go.RowKit
set_option maxRecDepth 100000
theorem rk_cells {R l : List Byte} {k n : Nat} (h : (R.drop k).take n = l) : ((R.map v8).drop k).take n = l.map v8 := by rw [← List.map_drop, ← List.map_take, h]
set_option maxHeartbeats 4000000 in
theorem roff_any (K : KeyP) (j i : Nat) (w0 : World) (hok : K.Ok) (hj : j ≤ 9223372036854775807) (hi : i ≤ 9223372036854775807) : Gives Tryz.prog 82 #[A8 (rkL K), .int .i64 j, .int .i64 i] w0 (A8 (offN K j i)) := by
 unfold Gives
 have hm := Own.start w0
 have li := hok.hi
 have lj := hok.hj
 have ll := hok.hl
 have lR := rkL_length hok
 have RI := Lib.hid (rk_cells (rk_i hok))
 have RJ := Lib.hid (rk_cells (rk_j hok))
 have RL := Lib.hid (rk_cells (rk_l hok))
 obtain ⟨r, hr, hr8⟩ : ∃ r : Nat, i % 8 = r ∧ r < 8 := ⟨_, rfl, Nat.mod_lt _ (by omega)⟩
 obtain ⟨u, hu, hu8⟩ : ∃ u : Nat, i / 8 = u ∧ u ≤ 1152921504606846975 := ⟨_, rfl, by omega⟩
 have a1 : (i : Int) % 8 = (r : Int) := by omega
 have a2 : (i : Int).tmod 8 = (r : Int) := by rw [Int.tmod_eq_emod_of_nonneg (by omega)]; exact a1
 have a3 : (i : Int) / 8 = (u : Int) := by omega
 have a4 : (i : Int).tdiv 8 = (u : Int) := by rw [Int.tdiv_eq_ediv_of_nonneg (by omega)]; exact a3
 have D1 : Hid (∀ wx, Gives Tryz.prog 84 #[.int .u64 (j : Int), A8 K.j] wx (A8 (mulL (BitVec.ofNat 64 j) K.j))) := Lib.hid fun wx => by rw [natv64 (by omega)]; exact rr_mul _ K.j lj wx
 have D3 : Hid (∀ wx, Gives Tryz.prog 84 #[.int .u64 (r : Int), A8 K.l] wx (A8 (mulL (BitVec.ofNat 64 r) K.l))) := Lib.hid fun wx => by rw [natv64 (by omega)]; exact rr_mul _ K.l ll wx
 have l1 := mulL_length (BitVec.ofNat 64 j) K.j
 have l3 := mulL_length (BitVec.ofNat 64 r) K.l
 have l2 := dblN_length K.i li (upN i)
 have D4 := Lib.hid fun wx => sixteen_any (mulL (BitVec.ofNat 64 j) K.j) (dblN K.i (upN i)) l1 l2 wx
 have l4 := bothL_length (mulL (BitVec.ofNat 64 j) K.j) (dblN K.i (upN i))
 have d5 := fun wx => sixteen_any (bothL (mulL (BitVec.ofNat 64 j) K.j) (dblN K.i (upN i))) (mulL (BitVec.ofNat 64 r) K.l) l4 l3 wx
 rw [show bothL (bothL (mulL (BitVec.ofNat 64 j) K.j) (dblN K.i (upN i))) (mulL (BitVec.ofNat 64 r) K.l) = offN K j i by rw [offN, hr]] at d5
 have D5 := Lib.hid d5
 have lO := offN_length K j i
 clear d5
 by_cases hr0 : r = 0
 · have d2 := fun wx => rr_raised (upN i) K.i li (by unfold upN; omega) wx
   have eu : upN i = u := by unfold upN; omega
   have d2' : ∀ wx, Gives Tryz.prog 104 #[.int .i64 u, A8 K.i] wx (A8 (dblN K.i (upN i))) := fun wx => by have := d2 wx; rwa [show ((upN i : Nat) : Int) = (u : Int) by rw [eu]] at this
   have D2 := Lib.hid d2'
   have hr1 : decide ((0 : Int) < (r : Int)) = false := decide_eq_false (by omega)
   have hr2 : ¬ (0 : Int) < (r : Int) := by omega
   have hr3 : ¬ 0 < r := by omega
   clear d2 d2' eu hr0
   generalize bothL (mulL (BitVec.ofNat 64 j) K.j) (dblN K.i (upN i)) = D at *
   generalize hA : mulL (BitVec.ofNat 64 j) K.j = A at *
   generalize hC : mulL (BitVec.ofNat 64 r) K.l = C at *
   generalize hB : dblN K.i (upN i) = B at *
   generalize offN K j i = O at *
   generalize rkL K = R at *
   clear hr hu hok hA hB hC
   go_enter Tryz.func82, Tryz.ntmps82
   go_wp2_with (first | ((with_reducible apply wq_ldN hm); exact rfl; infer_instance; exact rfl; (focus ((repeat (first | exact .hd | assumption | apply Has.tl | apply Has.app)); done)); (exact RI.out); (exact ((List.length_map ..).trans li))) | ((with_reducible apply wq_ldN hm); exact rfl; infer_instance; exact rfl; (focus ((repeat (first | exact .hd | assumption | apply Has.tl | apply Has.app)); done)); (exact RJ.out); (exact ((List.length_map ..).trans lj))) | ((with_reducible apply wq_ldN hm); exact rfl; infer_instance; exact rfl; (focus ((repeat (first | exact .hd | assumption | apply Has.tl | apply Has.app)); done)); (exact RL.out); (exact ((List.length_map ..).trans ll))) | (go_at_call 104; (with_reducible refine (D2.out _).mono ?_); rintro e_ w ⟨rfl, hx_⟩; replace hm := hm.ext hx_; clear hx_) | (go_at_call 84; (with_reducible refine (D1.out _).mono ?_); rintro e_ w ⟨rfl, hx_⟩; replace hm := hm.ext hx_; clear hx_) | (go_at_call 84; (with_reducible refine (D3.out _).mono ?_); rintro e_ w ⟨rfl, hx_⟩; replace hm := hm.ext hx_; clear hx_) | ((((with_reducible show qSt); first | ((with_reducible apply wq_stW hm); exact rfl; infer_instance; exact rfl; exact rfl; (focus ((repeat (first | exact .hd | assumption | apply Swap.tl | apply Swap.app)); done)); (focus (first | rfl | omega | (simp; done) | (simp; omega))); (focus (first | rfl | omega | (simp; done) | (simp; omega))); (focus (first | exact one_map _ | (simp [one8, one32, one64]; done)))))); clear hm; intro w hm) | ((first | ((with_reducible show qAl); first | ((with_reducible apply wq_new hm); exact rfl; infer_instance)) | ((with_reducible show qBx); first | ((with_reducible apply wq_boxN hm); exact rfl; exact rfl))); clear hm; intro gx_; intro w hm))
   refine region_at 5 (fun w' => Ext _ w') 41 (by kernel_rfl) (by kernel_rfl) rfl (fun _ _ h k => h.trans k) (drew_ext _) ?_
   simp only [tSC, List.take_zero, dSC, List.drop_zero, List.map_cons, List.map_nil]
   repeat (first
       | (apply walk_is rfl rfl rfl
          · (intro wx hwx; first | ((with_reducible show gives _ _ _ (Sem.run _ (execOp _ (Oper.mk _ (Op.load _ _) _ _ _ _)) _)); first | ((with_reducible apply gq_ldv (hm.ext hwx)); infer_instance; exact rfl; (focus ((repeat (first | exact .hd | assumption | apply Has.tl | apply Has.app)); done)); (focus (first | omega | (simp; omega) | (refine ltB ?_; first | omega | (simp; done) | (simp; omega))))) | ((with_reducible apply gq_ldW (hm.ext hwx)); infer_instance; exact rfl; (focus ((repeat (first | exact .hd | assumption | apply Has.tl | apply Has.app)); done)); (focus (first | rfl | omega | (simp; done) | (simp; omega)))) | ((with_reducible apply gq_ld1 (hm.ext hwx)); infer_instance; exact rfl; (focus ((repeat (first | exact .hd | assumption | apply Has.tl | apply Has.app)); done)); exact rfl)) | (go_simp; (try go_bits); first | exact gives_same | exact gives_skip | with_reducible exact gives_call (D4.out wx) | with_reducible exact gives_call (D5.out wx)))
          · (simp only [Act.put, sIB, sCS, sCZ]; rfl))
       | (apply walk_not rfl rfl rfl
          · (simp only [Act.put, sIB, sCS, sCZ]; rfl)))
   intro wz hwz
   simp only [zCC, zNR]
   repeat (first | rw [fin_is] | (rw [fin_cons]; intro _ _))
   rw [fin_nil]
   try (replace hm := hm.ext hwz)
   simp only [Act.put, sIB, sCS, sCZ]
   go_wp2_with (first | ((((with_reducible show qSt); first | ((with_reducible apply wq_stW hm); exact rfl; infer_instance; exact rfl; exact rfl; (focus ((repeat (first | exact .hd | assumption | apply Swap.tl | apply Swap.app)); done)); (focus (first | rfl | omega | (simp; done) | (simp; omega))); (focus (first | rfl | omega | (simp; done) | (simp; omega))); (focus (first | exact one_map _ | (simp [one8, one32, one64]; done)))))); clear hm; intro w hm))
   refine ret_own hm rfl rfl (by infer_instance) (by repeat (first | exact Has.hd | assumption | apply Has.tl | apply Has.app)) (by first | rfl | omega | (simp only [zeros_length, zer_length, tab_length, part_length, setN_length, List.length_map, List.length_cons, List.length_nil, List.length_append, List.length_take, List.length_drop, List.length_replicate, blk_length, putL_length] <;> omega)) rfl ⟨rfl, hm.x⟩
 · have d2 := fun wx => rr_raised (upN i) K.i li (by unfold upN; omega) wx
   have eu : ((upN i : Nat) : Int) = (u : Int) + 1 := by unfold upN; omega
   have d2' : ∀ wx, Gives Tryz.prog 104 #[.int .i64 ((u : Int) + 1), A8 K.i] wx (A8 (dblN K.i (upN i))) := fun wx => by have := d2 wx; rwa [eu] at this
   have D2 := Lib.hid d2'
   have hr1 : decide ((0 : Int) < (r : Int)) = true := decide_eq_true (by omega)
   have hr2 : (0 : Int) < (r : Int) := by omega
   have hr3 : 0 < r := by omega
   clear d2 d2' eu hr0
   generalize bothL (mulL (BitVec.ofNat 64 j) K.j) (dblN K.i (upN i)) = D at *
   generalize hA : mulL (BitVec.ofNat 64 j) K.j = A at *
   generalize hC : mulL (BitVec.ofNat 64 r) K.l = C at *
   generalize hB : dblN K.i (upN i) = B at *
   generalize offN K j i = O at *
   generalize rkL K = R at *
   clear hr hu hok hA hB hC
   go_enter Tryz.func82, Tryz.ntmps82
   go_wp2_with (first | ((with_reducible apply wq_ldN hm); exact rfl; infer_instance; exact rfl; (focus ((repeat (first | exact .hd | assumption | apply Has.tl | apply Has.app)); done)); (exact RI.out); (exact ((List.length_map ..).trans li))) | ((with_reducible apply wq_ldN hm); exact rfl; infer_instance; exact rfl; (focus ((repeat (first | exact .hd | assumption | apply Has.tl | apply Has.app)); done)); (exact RJ.out); (exact ((List.length_map ..).trans lj))) | ((with_reducible apply wq_ldN hm); exact rfl; infer_instance; exact rfl; (focus ((repeat (first | exact .hd | assumption | apply Has.tl | apply Has.app)); done)); (exact RL.out); (exact ((List.length_map ..).trans ll))) | (go_at_call 104; (with_reducible refine (D2.out _).mono ?_); rintro e_ w ⟨rfl, hx_⟩; replace hm := hm.ext hx_; clear hx_) | (go_at_call 84; (with_reducible refine (D1.out _).mono ?_); rintro e_ w ⟨rfl, hx_⟩; replace hm := hm.ext hx_; clear hx_) | (go_at_call 84; (with_reducible refine (D3.out _).mono ?_); rintro e_ w ⟨rfl, hx_⟩; replace hm := hm.ext hx_; clear hx_) | ((((with_reducible show qSt); first | ((with_reducible apply wq_stW hm); exact rfl; infer_instance; exact rfl; exact rfl; (focus ((repeat (first | exact .hd | assumption | apply Swap.tl | apply Swap.app)); done)); (focus (first | rfl | omega | (simp; done) | (simp; omega))); (focus (first | rfl | omega | (simp; done) | (simp; omega))); (focus (first | exact one_map _ | (simp [one8, one32, one64]; done)))))); clear hm; intro w hm) | ((first | ((with_reducible show qAl); first | ((with_reducible apply wq_new hm); exact rfl; infer_instance)) | ((with_reducible show qBx); first | ((with_reducible apply wq_boxN hm); exact rfl; exact rfl))); clear hm; intro gx_; intro w hm))
   refine region_at 5 (fun w' => Ext _ w') 41 (by kernel_rfl) (by kernel_rfl) rfl (fun _ _ h k => h.trans k) (drew_ext _) ?_
   simp only [tSC, List.take_zero, dSC, List.drop_zero, List.map_cons, List.map_nil]
   repeat (first
       | (apply walk_is rfl rfl rfl
          · (intro wx hwx; first | ((with_reducible show gives _ _ _ (Sem.run _ (execOp _ (Oper.mk _ (Op.load _ _) _ _ _ _)) _)); first | ((with_reducible apply gq_ldv (hm.ext hwx)); infer_instance; exact rfl; (focus ((repeat (first | exact .hd | assumption | apply Has.tl | apply Has.app)); done)); (focus (first | omega | (simp; omega) | (refine ltB ?_; first | omega | (simp; done) | (simp; omega))))) | ((with_reducible apply gq_ldW (hm.ext hwx)); infer_instance; exact rfl; (focus ((repeat (first | exact .hd | assumption | apply Has.tl | apply Has.app)); done)); (focus (first | rfl | omega | (simp; done) | (simp; omega)))) | ((with_reducible apply gq_ld1 (hm.ext hwx)); infer_instance; exact rfl; (focus ((repeat (first | exact .hd | assumption | apply Has.tl | apply Has.app)); done)); exact rfl)) | (go_simp; (try go_bits); first | exact gives_same | exact gives_skip | with_reducible exact gives_call (D4.out wx) | with_reducible exact gives_call (D5.out wx)))
          · (simp only [Act.put, sIB, sCS, sCZ]; rfl))
       | (apply walk_not rfl rfl rfl
          · (simp only [Act.put, sIB, sCS, sCZ]; rfl)))
   intro wz hwz
   simp only [zCC, zNR]
   repeat (first | rw [fin_is] | (rw [fin_cons]; intro _ _))
   rw [fin_nil]
   try (replace hm := hm.ext hwz)
   simp only [Act.put, sIB, sCS, sCZ]
   go_wp2_with (first | ((((with_reducible show qSt); first | ((with_reducible apply wq_stW hm); exact rfl; infer_instance; exact rfl; exact rfl; (focus ((repeat (first | exact .hd | assumption | apply Swap.tl | apply Swap.app)); done)); (focus (first | rfl | omega | (simp; done) | (simp; omega))); (focus (first | rfl | omega | (simp; done) | (simp; omega))); (focus (first | exact one_map _ | (simp [one8, one32, one64]; done)))))); clear hm; intro w hm))
   refine ret_own hm rfl rfl (by infer_instance) (by repeat (first | exact Has.hd | assumption | apply Has.tl | apply Has.app)) (by first | rfl | omega | (simp only [zeros_length, zer_length, tab_length, part_length, setN_length, List.length_map, List.length_cons, List.length_nil, List.length_append, List.length_take, List.length_drop, List.length_replicate, blk_length, putL_length] <;> omega)) rfl ⟨rfl, hm.x⟩
end Go.Proofs.YtaijfigohlkccaaGreatDoor
namespace Go.Proofs.YtaijfigohlkccaaGreatDoor
open Go Go.RowKit
set_option maxRecDepth 100000
set_option maxHeartbeats 4000000 in
theorem re_pos (K : KeyP) (j i : Nat) (x : List Byte) (hx : x.length = 16) (w0 : World) (hok : K.Ok) (hj : j ≤ 9223372036854775807) (hi : i ≤ 9223372036854775807) : Gives Tryz.prog 44 #[A8 (rkL K), .int .i64 j, .int .i64 i, A8 x] w0 (A8 (eN K j i x)) := by
 unfold Gives
 have hm := Own.start w0
 have li := hok.hi
 have lj := hok.hj
 have ll := hok.hl
 have lR := rkL_length hok
 have RI := Lib.hid (rk_cells (rk_i hok))
 have RJ := Lib.hid (rk_cells (rk_j hok))
 have RL := Lib.hid (rk_cells (rk_l hok))
 have RT := Lib.hid (rk_cells (rk_tabs K))
 have lT := tabs_length
 have e3 : decide ((0 : Int) ≤ (j : Int)) = true := decide_eq_true (by omega)
 have e4 : decide ((j : Int) ≥ 0) = true := decide_eq_true (by omega)
 have D1 := Lib.hid fun wx => roff_any K j i wx hok hj hi
 have lO := offN_length K j i
 have D2 := Lib.hid fun wx => sixteen_any x (offN K j i) hx lO wx
 have lX := bothL_length x (offN K j i)
 have D3 : Hid (∀ (wx : World) (p : Option Addr) (c : Nat), 4 ≤ c → RdK wx p 16 [K.j, K.i, K.l, zer 16] → Gives Tryz.prog 83 #[A8 tabs, A8 (bothL x (offN K j i)), .slice p 4 c] wx (A8 (eN K j i x))) := Lib.hid fun wx p c hc h => rrounds_any (bothL x (offN K j i)) [K.j, K.i, K.l, zer 16] p c lX wx h hc (by simp)
 have lE := eN_length K j i x
 have lz : (zer (n := 8) 16).length = 16 := zer_length
 have hk4 : Hid (∀ k ∈ [K.j, K.i, K.l, zer 16], k.length = 16) := Lib.hid (by simp [li, lj, ll, lz])
 have ha1 := Nat.le_of_eq hx
 have ha2 := Nat.le_of_eq hx.symm
 generalize eN K j i x = Y at *
 generalize bothL x (offN K j i) = X at *
 generalize offN K j i = O at *
 generalize rkL K = R at *
 generalize tabs = T at *
 clear hok
 go_enter Tryz.func44, Tryz.ntmps44
 go_wp2_with (first | ((first | ((with_reducible show qAl); first | ((with_reducible apply wq_new hm); exact rfl; infer_instance)) | ((with_reducible show qBx); first | ((with_reducible apply wq_boxN hm); exact rfl; exact rfl))); clear hm; intro gx_; intro w hm))
 refine region_at 6 (fun w' => Ext _ w') 59 (by kernel_rfl) (by kernel_rfl) rfl (fun _ _ h k => h.trans k) (drew_ext _) ?_
 simp only [tSC, List.take_zero, dSC, List.drop_zero, List.map_cons, List.map_nil]
 repeat (first
     | (apply walk_is rfl rfl rfl
        · (intro wx hwx; first | ((with_reducible show gives _ _ _ (Sem.run _ (execOp _ (Oper.mk _ (Op.load _ _) _ _ _ _)) _)); first | ((with_reducible apply gq_ldv (hm.ext hwx)); infer_instance; exact rfl; (focus ((repeat (first | exact .hd | assumption | apply Has.tl | apply Has.app)); done)); (focus (first | omega | (simp; omega) | (refine ltB ?_; first | omega | (simp; done) | (simp; omega))))) | ((with_reducible apply gq_ldW (hm.ext hwx)); infer_instance; exact rfl; (focus ((repeat (first | exact .hd | assumption | apply Has.tl | apply Has.app)); done)); (focus (first | rfl | omega | (simp; done) | (simp; omega)))) | ((with_reducible apply gq_ld1 (hm.ext hwx)); infer_instance; exact rfl; (focus ((repeat (first | exact .hd | assumption | apply Has.tl | apply Has.app)); done)); exact rfl)) | (go_simp; (try go_bits); first | exact gives_same | exact gives_skip | with_reducible exact gives_call (D1.out wx) | with_reducible exact gives_call (D2.out wx)))
        · (simp only [Act.put, sIB, sCS, sCZ]; rfl))
     | (apply walk_not rfl rfl rfl
        · (simp only [Act.put, sIB, sCS, sCZ]; rfl)))
 intro wz hwz
 simp only [zCC, zNR]
 repeat (first | rw [fin_is] | (rw [fin_cons]; intro _ _))
 rw [fin_nil]
 try (replace hm := hm.ext hwz)
 simp only [Act.put, sIB, sCS, sCZ]
 go_wp2_with (first | ((with_reducible apply wq_ldN hm); exact rfl; infer_instance; exact rfl; (focus ((repeat (first | exact .hd | assumption | apply Has.tl | apply Has.app)); done)); (exact RT.out); (exact ((List.length_map ..).trans lT))) | ((with_reducible apply wq_ldN hm); exact rfl; infer_instance; exact rfl; (focus ((repeat (first | exact .hd | assumption | apply Has.tl | apply Has.app)); done)); (exact RI.out); (exact ((List.length_map ..).trans li))) | ((with_reducible apply wq_ldN hm); exact rfl; infer_instance; exact rfl; (focus ((repeat (first | exact .hd | assumption | apply Has.tl | apply Has.app)); done)); (exact RJ.out); (exact ((List.length_map ..).trans lj))) | ((with_reducible apply wq_ldN hm); exact rfl; infer_instance; exact rfl; (focus ((repeat (first | exact .hd | assumption | apply Has.tl | apply Has.app)); done)); (exact RL.out); (exact ((List.length_map ..).trans ll))) | ((with_reducible apply wq_build0 build_z16); exact rfl) | ((with_reducible apply wq_bs4 hm (bs_run4 K.j K.i K.l (zer 16) lj li ll lz _)); exact rfl; exact rfl; exact rfl; exact rfl; exact rfl; clear hm; intro gk w hm) | (go_at_call 83; (with_reducible refine (D3.out _ (some ⟨gk, 0, none⟩) 4 (Nat.le_refl _) (hm.rdK (g := gk) (by repeat (first | exact Has.hd | assumption | apply Has.tl | apply Has.app)) hk4.out)).mono ?_); rintro e_ w ⟨rfl, hx_⟩; replace hm := hm.ext hx_; clear hx_) | ((with_reducible show qLd); first | ((with_reducible apply wq_ldW hm); exact rfl; infer_instance; exact rfl; (focus ((repeat (first | exact .hd | assumption | apply Has.tl | apply Has.app)); done)); (focus (first | rfl | omega | (simp; done) | (simp; omega))))) | ((((with_reducible show qSt); first | ((with_reducible apply wq_stW hm); exact rfl; infer_instance; exact rfl; exact rfl; (focus ((repeat (first | exact .hd | assumption | apply Swap.tl | apply Swap.app)); done)); (focus (first | rfl | omega | (simp; done) | (simp; omega))); (focus (first | rfl | omega | (simp; done) | (simp; omega))); (focus (first | exact one_map _ | (simp [one8, one32, one64]; done)))))); clear hm; intro w hm))
 refine ret_own hm rfl rfl (by infer_instance) (by repeat (first | exact Has.hd | assumption | apply Has.tl | apply Has.app)) (by first | rfl | omega | (simp only [zeros_length, zer_length, tab_length, part_length, setN_length, List.length_map, List.length_cons, List.length_nil, List.length_append, List.length_take, List.length_drop, List.length_replicate, blk_length, putL_length] <;> omega)) rfl ⟨rfl, hm.x⟩
set_option maxHeartbeats 4000000 in
theorem re_ten (K : KeyP) (i : Nat) (x : List Byte) (hx : x.length = 16) (w0 : World) (hok : K.Ok) (hi : i ≤ 9223372036854775807) : Gives Tryz.prog 44 #[A8 (rkL K), .int .i64 (-1), .int .i64 i, A8 x] w0 (A8 (eT K i x)) := by
 unfold Gives
 have hm := Own.start w0
 have li := hok.hi
 have lj := hok.hj
 have ll := hok.hl
 have lR := rkL_length hok
 have RI := Lib.hid (rk_cells (rk_i hok))
 have RJ := Lib.hid (rk_cells (rk_j hok))
 have RL := Lib.hid (rk_cells (rk_l hok))
 have RT := Lib.hid (rk_cells (rk_tabs K))
 have lT := tabs_length
 have D1 : Hid (∀ wx, Gives Tryz.prog 84 #[.int .u64 (i : Int), A8 K.l] wx (A8 (mulL (BitVec.ofNat 64 i) K.l))) := Lib.hid fun wx => by rw [natv64 (by omega)]; exact rr_mul _ K.l ll wx
 have lO := mulL_length (BitVec.ofNat 64 i) K.l
 have D2 := Lib.hid fun wx => sixteen_any x (mulL (BitVec.ofNat 64 i) K.l) hx lO wx
 have lX := bothL_length x (mulL (BitVec.ofNat 64 i) K.l)
 have D3 : Hid (∀ (wx : World) (p : Option Addr) (c : Nat), 10 ≤ c → RdK wx p 16 (tenF K 10) → Gives Tryz.prog 83 #[A8 tabs, A8 (bothL x (mulL (BitVec.ofNat 64 i) K.l)), .slice p 10 c] wx (A8 (eT K i x))) := Lib.hid fun wx p c hc h => rrounds_any (bothL x (mulL (BitVec.ofNat 64 i) K.l)) (tenK K) p c lX wx h hc (by simp [tenK])
 have lE := eT_length K i x
 have ha1 := Nat.le_of_eq hx
 have ha2 := Nat.le_of_eq hx.symm
 have EACH := Lib.hid (tenF_each hok)
 generalize eT K i x = Y at *
 generalize bothL x (mulL (BitVec.ofNat 64 i) K.l) = X at *
 generalize mulL (BitVec.ofNat 64 i) K.l = O at *
 generalize rkL K = R at *
 generalize tabs = T at *
 clear hok
 go_enter Tryz.func44, Tryz.ntmps44
 go_wp2_with (first | ((first | ((with_reducible show qAl); first | ((with_reducible apply wq_new hm); exact rfl; infer_instance)) | ((with_reducible show qBx); first | ((with_reducible apply wq_boxN hm); exact rfl; exact rfl))); clear hm; (first | (have hx_ := g1; clear hx_; (first | (have hx_ := g2; clear hx_; (first | (have hx_ := g3; clear hx_; intro gx_) | intro g3)) | intro g2)) | intro g1); intro w hm))
 refine region_at 8 (fun w' => Ext _ w') 59 (by kernel_rfl) (by kernel_rfl) rfl (fun _ _ h k => h.trans k) (drew_ext _) ?_
 simp only [tSC, List.take_zero, dSC, List.drop_zero, List.map_cons, List.map_nil]
 repeat (first
     | (apply walk_is rfl rfl rfl; (intro wx hwx; (with_reducible apply gq_ldN (hm.ext hwx)); infer_instance; exact rfl; (focus ((repeat (first | exact .hd | assumption | apply Has.tl | apply Has.app)); done)); (exact RL.out); (exact ((List.length_map ..).trans ll))); (simp only [Act.put, sIB, sCS, sCZ]; rfl))
     | (apply walk_is rfl rfl rfl
        · (intro wx hwx; first | ((with_reducible show gives _ _ _ (Sem.run _ (execOp _ (Oper.mk _ (Op.load _ _) _ _ _ _)) _)); first | ((with_reducible apply gq_ldv (hm.ext hwx)); infer_instance; exact rfl; (focus ((repeat (first | exact .hd | assumption | apply Has.tl | apply Has.app)); done)); (focus (first | omega | (simp; omega) | (refine ltB ?_; first | omega | (simp; done) | (simp; omega))))) | ((with_reducible apply gq_ldW (hm.ext hwx)); infer_instance; exact rfl; (focus ((repeat (first | exact .hd | assumption | apply Has.tl | apply Has.app)); done)); (focus (first | rfl | omega | (simp; done) | (simp; omega)))) | ((with_reducible apply gq_ld1 (hm.ext hwx)); infer_instance; exact rfl; (focus ((repeat (first | exact .hd | assumption | apply Has.tl | apply Has.app)); done)); exact rfl)) | (go_simp; (try go_bits); first | exact gives_same | exact gives_skip | with_reducible exact gives_call (D1.out wx) | with_reducible exact gives_call (D2.out wx)))
        · (simp only [Act.put, sIB, sCS, sCZ]; rfl))
     | (apply walk_not rfl rfl rfl
        · (simp only [Act.put, sIB, sCS, sCZ]; rfl)))
 intro wz hwz
 simp only [zCC, zNR]
 repeat (first | rw [fin_is] | (rw [fin_cons]; intro _ _))
 rw [fin_nil]
 try (replace hm := hm.ext hwz)
 simp only [Act.put, sIB, sCS, sCZ]
 go_wp2_with (first | ((((with_reducible show qSt); first | ((with_reducible apply wq_stW hm); exact rfl; infer_instance; exact rfl; exact rfl; (focus ((repeat (first | exact .hd | assumption | apply Swap.tl | apply Swap.app)); done)); (focus (first | rfl | omega | (simp; done) | (simp; omega))); (focus (first | rfl | omega | (simp; done) | (simp; omega))); (focus (first | exact one_map _ | (simp [one8, one32, one64]; done)))))); clear hm; intro w hm))
 go_loopw [9, 10] (fun v n wr => ∃ (k : Nat) (M : List Blk), k ≤ 10 ∧ n = .int .i64 k ∧ SlO M 36 16 v k (catV (tenF K k)) ∧ Own w0 wr (M ++ [⟨g3, 36, (zer 16).map v8⟩, ⟨g2, 36, X.map v8⟩, ⟨g1, 39, R.map v8⟩])) (fun _ n _ => 10 - (intOf n).toNat)
 case atStart => exact ⟨0, [], by omega, rfl, SlO.nil _ _, hm⟩
 case round =>
   obtain ⟨k, M, hk, rfl, hso, hm⟩ := hrel
   obtain ⟨p0, c0, rfl⟩ := hso.form
   have HSO := Lib.hid hso
   clear hso
   by_cases hlt : k < 10
   · have hd : decide ((k : Int) < 10) = true := decide_eq_true (by omega)
     rcases (show k % 3 = 0 ∨ k % 3 = 1 ∨ k % 3 = 2 by omega) with hr | hr | hr
     · have a1 : (k : Int) % 3 = 0 := by omega
       have a2 : (k : Int).tmod 3 = 0 := by rw [Int.tmod_eq_emod_of_nonneg (by omega)]; exact a1
       have EP : Hid (tenF K (k + 1) = tenF K k ++ [K.i]) := Lib.hid (by rw [tenF, hr]; rfl)
       have hkp : Hid (∀ b ∈ [K.i], b.length = 16) := Lib.hid (by simp [li])
       have lcat : (catV [K.i]).length = 1 * 16 := catV_length 16 [K.i] hkp.out
       clear hr
       go_wp2_with (first | ((with_reducible apply wq_ldN hm); exact rfl; infer_instance; exact rfl; (focus ((repeat (first | exact .hd | assumption | apply Has.tl | apply Has.app)); done)); (exact RI.out); (exact ((List.length_map ..).trans li))) | ((with_reducible apply wq_bs1 hm (bs_run1 K.i li _)); exact rfl; exact rfl; clear hm; intro gk w hm) | ((with_reducible show wpList _ _ _ (Oper.mk _ (Op.call _) _ _ _ _ :: _) _ _); refine wplO_app (M := M) (R := _) (ds := catV [K.i]) (hm.perm (List.perm_middle.symm)) HSO.out rfl rfl rfl rfl Tryz.underlying81 lcat (RdK.cells ⟨hkp.out, RdB.of_row (hm.row (by repeat (first | exact Has.hd | assumption | apply Has.tl | apply Has.app)))⟩) (catV_one _) (by omega) ?_; clear hm; intro v1 w M1 hm hs1; obtain ⟨p_v1, c_v1, rfl⟩ := hs1.form; replace hm := hm.perm (List.perm_middle)))
       go_roundw
       case rel => exact ⟨k + 1, M1, by omega, by go_num, by rw [EP.out, catV_append]; exact hs1, hm.drop⟩
       case measure => simp [intOf] <;> omega
     · have a1 : (k : Int) % 3 = 1 := by omega
       have a2 : (k : Int).tmod 3 = 1 := by rw [Int.tmod_eq_emod_of_nonneg (by omega)]; exact a1
       have EP : Hid (tenF K (k + 1) = tenF K k ++ [K.j]) := Lib.hid (by rw [tenF, hr]; rfl)
       have hkp : Hid (∀ b ∈ [K.j], b.length = 16) := Lib.hid (by simp [lj])
       have lcat : (catV [K.j]).length = 1 * 16 := catV_length 16 [K.j] hkp.out
       clear hr
       go_wp2_with (first | ((with_reducible apply wq_ldN hm); exact rfl; infer_instance; exact rfl; (focus ((repeat (first | exact .hd | assumption | apply Has.tl | apply Has.app)); done)); (exact RJ.out); (exact ((List.length_map ..).trans lj))) | ((with_reducible apply wq_bs1 hm (bs_run1 K.j lj _)); exact rfl; exact rfl; clear hm; intro gk w hm) | ((with_reducible show wpList _ _ _ (Oper.mk _ (Op.call _) _ _ _ _ :: _) _ _); refine wplO_app (M := M) (R := _) (ds := catV [K.j]) (hm.perm (List.perm_middle.symm)) HSO.out rfl rfl rfl rfl Tryz.underlying81 lcat (RdK.cells ⟨hkp.out, RdB.of_row (hm.row (by repeat (first | exact Has.hd | assumption | apply Has.tl | apply Has.app)))⟩) (catV_one _) (by omega) ?_; clear hm; intro v1 w M1 hm hs1; obtain ⟨p_v1, c_v1, rfl⟩ := hs1.form; replace hm := hm.perm (List.perm_middle)))
       go_roundw
       case rel => exact ⟨k + 1, M1, by omega, by go_num, by rw [EP.out, catV_append]; exact hs1, hm.drop⟩
       case measure => simp [intOf] <;> omega
     · have a1 : (k : Int) % 3 = 2 := by omega
       have a2 : (k : Int).tmod 3 = 2 := by rw [Int.tmod_eq_emod_of_nonneg (by omega)]; exact a1
       have EP : Hid (tenF K (k + 1) = tenF K k ++ [K.l]) := Lib.hid (by rw [tenF, hr]; rfl)
       have hkp : Hid (∀ b ∈ [K.l], b.length = 16) := Lib.hid (by simp [ll])
       have lcat : (catV [K.l]).length = 1 * 16 := catV_length 16 [K.l] hkp.out
       clear hr
       go_wp2_with (first | ((with_reducible apply wq_ldN hm); exact rfl; infer_instance; exact rfl; (focus ((repeat (first | exact .hd | assumption | apply Has.tl | apply Has.app)); done)); (exact RL.out); (exact ((List.length_map ..).trans ll))) | ((with_reducible apply wq_bs1 hm (bs_run1 K.l ll _)); exact rfl; exact rfl; clear hm; intro gk w hm) | ((with_reducible show wpList _ _ _ (Oper.mk _ (Op.call _) _ _ _ _ :: _) _ _); refine wplO_app (M := M) (R := _) (ds := catV [K.l]) (hm.perm (List.perm_middle.symm)) HSO.out rfl rfl rfl rfl Tryz.underlying81 lcat (RdK.cells ⟨hkp.out, RdB.of_row (hm.row (by repeat (first | exact Has.hd | assumption | apply Has.tl | apply Has.app)))⟩) (catV_one _) (by omega) ?_; clear hm; intro v1 w M1 hm hs1; obtain ⟨p_v1, c_v1, rfl⟩ := hs1.form; replace hm := hm.perm (List.perm_middle)))
       go_roundw
       case rel => exact ⟨k + 1, M1, by omega, by go_num, by rw [EP.out, catV_append]; exact hs1, hm.drop⟩
       case measure => simp [intOf] <;> omega
   · obtain rfl : k = 10 := by omega
     have hd : decide (((10 : Nat) : Int) < 10) = false := decide_eq_false (by omega)
     obtain ⟨hk10, hn10, hc10⟩ := slo_rdK HSO.out (EACH.out 10) hm
     have HK10 := Lib.hid fun wx (hwx : Ext wr wx) => hk10.ext hwx
     clear hk10 hn10
     have hwr := Ext.refl wr
     go_wp2_with (first | ((with_reducible apply wq_ldN hm); exact rfl; infer_instance; exact rfl; (focus ((repeat (first | exact .hd | assumption | apply Has.tl | apply Has.app)); done)); (exact RT.out); (exact ((List.length_map ..).trans lT))) | (go_at_call 83; (refine (D3.out _ p0 c0 hc10 (HK10.out _ hwr)).mono ?_); rintro e_ w ⟨rfl, hx_⟩; replace hm := hm.ext hx_; clear hx_) | ((with_reducible show qLd); first | ((with_reducible apply wq_ldW hm); exact rfl; infer_instance; exact rfl; (focus ((repeat (first | exact .hd | assumption | apply Has.tl | apply Has.app)); done)); (focus (first | rfl | omega | (simp; done) | (simp; omega))))) | ((((with_reducible show qSt); first | ((with_reducible apply wq_stW hm); exact rfl; infer_instance; exact rfl; exact rfl; (focus ((repeat (first | exact .hd | assumption | apply Swap.tl | apply Swap.app)); done)); (focus (first | rfl | omega | (simp; done) | (simp; omega))); (focus (first | rfl | omega | (simp; done) | (simp; omega))); (focus (first | exact one_map _ | (simp [one8, one32, one64]; done)))))); clear hm; intro w hm))
     refine ret_own hm rfl rfl (by infer_instance) (by repeat (first | exact Has.hd | assumption | apply Has.tl | apply Has.app)) (by first | rfl | omega | (simp only [zeros_length, zer_length, tab_length, part_length, setN_length, List.length_map, List.length_cons, List.length_nil, List.length_append, List.length_take, List.length_drop, List.length_replicate, blk_length, putL_length] <;> omega)) rfl ⟨rfl, hm.x⟩
theorem re_any (K : KeyP) (j i : Int) (x : List Byte) (hx : x.length = 16) (w : World) (hok : K.Ok) (h1 : -1 ≤ j) (h2 : 0 ≤ i) (hj : j ≤ 9223372036854775807) (hi : i ≤ 9223372036854775807) : Gives Tryz.prog 44 #[A8 (rkL K), .int .i64 j, .int .i64 i, A8 x] w (A8 (eZ K j i x)) := by
 have hn : ¬ (j < -1 ∨ i < 0) := by omega
 rw [eZ, if_neg hn]
 by_cases h0 : j < 0
 · rw [if_pos h0]
   obtain rfl : j = -1 := by omega
   have := re_ten K i.toNat x hx w hok (by omega)
   rwa [Int.toNat_of_nonneg (by omega)] at this
 · rw [if_neg h0]
   have := re_pos K j.toNat i.toNat x hx w hok (by omega) (by omega)
   rwa [Int.toNat_of_nonneg (by omega), Int.toNat_of_nonneg (by omega)] at this
end Go.Proofs.YtaijfigohlkccaaGreatDoor
